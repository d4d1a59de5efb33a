/-
  What the claim leans on, part 7: pruned and joined by my own tool out of the texts that stand in wip/ as templates.
-/
import Derived.Test.YtiddobdioipidaaGreatDoorTi6
set_option maxHeartbeats 6400000
set_option maxRecDepth 100000
namespace Go.Proofs.YtiddobdioipidaaGreatDoor
open Go.RowKit
open Go.Proofs.Tryz
variable {pa pb:Addr} {aft:Array Edge} {ops:Array Oper} {ats:Array TypeId} {args cs:Array Value} {st:Bool} {Q:Exit->Fr->World->Prop} {f:Fr} {F:FuncId} {D a:Int} {ks:List (List UInt8)} {ns:List Int} {A d l s:List UInt8} {vs xs:List Value} {B M N bf c i id j wk:Nat} {S T:Nat->Prop} {x y:Operand} {dp kp lp p:Option Addr} {P:Program} {pos:String} {α ι:Type} {E e ta tb tx ty:TypeId} {u v z:Value} {w w' w1:World} {S':World->Prop}
section
def LR (T:Nat->Prop) (o:AV) (v:Value) (w:World):Prop:=∃ y:AC,v=.agg (DN y).toArray/\AB w (λq=>T q/\q<w.heap.size) y o
def PrN (T:Nat->Prop) (k:l8_) (o:AV) (v:Value) (w:World):Prop:=∃ y:AC,v=.agg (prV ⟨k,y⟩).toArray/\AB w (λq=>T q/\q<w.heap.size) y o
def TK (T:Nat->Prop) (ks:List (l8_)) (os:List AV) (v:Value) (w:World):Prop:=∃ (p:Option Addr) (prs:List Vv) (c:Nat),v=.slice p prs.length c/\AG prL w p prs/\prs.map Vv.k=ks/\AH w (λq=>T q/\q<w.heap.size) (prs.map Vv.v) os
def MW (T:Nat->Prop) (os:List AV) (v:Value) (w:World):Prop:=∃ (b:Nat) (ys:List AC),v=.slice (some ⟨b,0,none⟩) ys.length ys.length/\AG EN w (some ⟨b,0,none⟩) ys/\T b/\ys.length<=1000/\AH w (λq=>T q/\q<w.heap.size) ys os
theorem AB.upN  {y:AC} {o:AV} (h:AB w (λq=>T q/\q<w.heap.size) y o) (hb:AL w w1):AB w1 (λq=>T q/\q<w1.heap.size) y o:=(h.same λk hk _=>hb.block k hk.2).mono λk hk _=>⟨hk.1,Nat.lt_of_lt_of_le hk.2 hb.size⟩
theorem AH.upN  {ys:List AC} {os:List AV} (h:AH w (λq=>T q/\q<w.heap.size) ys os) (hb:AL w w1):AH w1 (λq=>T q/\q<w1.heap.size) ys os:=⟨h.len,λi h1 h2=>(h.sub i h1 h2).upN hb⟩
theorem LR.up  {o:AV} (v:Value) (w w1:World) (h:LR T o v w) (hb:AL w w1):LR T o v w1:=by
 obtain ⟨y,a,b⟩:=h
 exact ⟨y,a,b.upN hb⟩
theorem PrN.up  {k:l8_} {o:AV} (v:Value) (w w1:World) (h:PrN T k o v w) (hb:AL w w1):PrN T k o v w1:=by
 obtain ⟨y,a,b⟩:=h
 exact ⟨y,a,b.upN hb⟩
theorem TK.up  {os:List AV} (v:Value) (w w1:World) (h:TK T ks os v w) (hb:AL w w1):TK T ks os v w1:=by
 obtain ⟨p,ys,c,b,a,d,e⟩:=h
 exact ⟨p,ys,c,b,a.below hb λf=>a.lt f,d,e.upN hb⟩
theorem MW.up  {os:List AV} (v:Value) (w w1:World) (h:MW T os v w) (hb:AL w w1):MW T os v w1:=by
 obtain ⟨b,ys,c,a,d,e,f⟩:=h
 exact ⟨b,ys,c,a.below hb λg=>a.lt g,d,e,f.upN hb⟩
theorem J7 (T:Nat->Prop) (n:Int) (w:World) (h:-9223372036854775808<=n/\n<=9223372036854775807):LR T (oN n) (.agg (DN (CW (DK 2 n []))).toArray) w:=⟨_,rfl,EC w _ 2 n [] h (by simp)⟩
theorem XB  {os:List AV} (h:MW T os v w):∃ (b:Nat) (n:Nat),v=.slice (some ⟨b,0,none⟩) n n/\LR T (oA os) (.agg (DN (SJ (some ⟨b,0,none⟩) n n)).toArray) w:=by
 obtain ⟨b,ys,rfl,a,c,f,d⟩:=h
 exact ⟨b,ys.length,rfl,_,rfl,P6 a d (DP _) oO λe=>⟨c,a.lt e⟩⟩
theorem Uh  {b:Nat} (prs:List Vv) {os:List AV} (hr:AG prL w1 (some ⟨b,0,none⟩) prs) (hA:AH w (λq=>T q/\q<w.heap.size) (prs.map Vv.v) os) (hb:AL w w1) (hk:prs.map Vv.k=ks):TK T ks os (.slice (some ⟨b,0,none⟩) prs.length prs.length) w1:=⟨_,prs,_,rfl,hr,hk,hA.upN hb⟩
theorem KA  {b:Nat} (ys:List AC) {os:List AV} (hr:AG EN w1 (some ⟨b,0,none⟩) ys) (hA:AH w (λq=>T q/\q<w.heap.size) ys os) (hb:AL w w1) (hM:T b) (hl:ys.length<=1000):MW T os (.slice (some ⟨b,0,none⟩) ys.length ys.length) w1:=⟨_,ys,rfl,hr,hM,hl,hA.upN hb⟩
theorem V9  {ys:List AC} {os:List AV} {n:Nat} {kc lc B2:Nat} (hn:n=ys.length) (hk:AD G8 9 B w (.slice kp n kc) ks) (hl:AD EN 27 B2 w (.slice lp n lc) ys) (hA:AH w S ys os) (hks:∀ k∈ks,k.length<=9223372036854775807)
    (hS:∀ g,(Value.slice kp n kc).ownBlock=some g->S g) (hS2:∀ g,(Value.slice lp n lc).ownBlock=some g->S g):AB w S ⟨7,0,[],kp,n,kc,lp,n,lc,none,0,0⟩ (Ic ks os):=by
  obtain ⟨b,c,d,e,f⟩:=hk.full
  obtain ⟨m,h,i,j,l⟩:=hl.full
  subst hn
  exact .mk ⟨7,0,[],kp,ys.length,kc,lp,ys.length,lc,none,0,0⟩ ks os [] ys ⟨by show _<=(0:Int)/\(0:Int)<=_;decide,by show ([]:l8_).length<=_;simp,b,rfl,rfl,c,h,DP _,d,i,by show (0:Nat)<=_;omega⟩ hks e.strs
    (λa=>hS _ (f a)) j (λa=>hS2 _ (l a)) (Ag.nil _) (by simp) hA.len hA.sub
theorem LE (T:Nat->Prop) (ks:List (l8_)) (os:List AV) (v:Value) (w:World) (h:TK T ks os v w) (hM:∀ q,w.heap.size<=q->T q) (hl:ks.length<=100) (hks:∀ k∈ks,k.length<=9223372036854775807) :
  Calls Tryz.prog 7 #[v] w λe w'=>∃ u:Value,e=.returned u/\LR T (Ic ks os) u w'/\AL w w':=by
 obtain ⟨p,prs,c,rfl,hr,rfl,hA⟩:=h
 have b:prs.length<=100:=by rw [By] at hl;exact hl
 refine (Qo p prs c w hr b).mono λe w' ⟨⟨⟨kp,kc⟩,lp,lc⟩,he,hb,hk,a⟩=>⟨_,he,?_,hb⟩
 exact ⟨⟨7,0,[],kp,prs.length,kc,lp,prs.length,lc,none,0,0⟩,rfl,V9 (by rw [By]) hk a (hA.upN hb) hks (λg hg=>⟨hM g (hk.lt g hg).1,(hk.lt g hg).2⟩) (λg hg=>⟨hM g (a.lt g hg).1,(a.lt g hg).2⟩)⟩
theorem A54  (k:Int) (b:Nat) (hr:AG EN w (some ⟨b,0,none⟩) [CW (DK 8 k [])]) (hS:S b) (hk:-9223372036854775808<=k/\k<=9223372036854775807) :
  AH w S [CW (DK 4 0 KQ),SJ (some ⟨b,0,none⟩) 1 1,CW (DK 2 1 [])] [Ib KQ,oA [oR k],oN 1] :=
 AH.cons (EC w S 4 0 KQ dD dD) (AH.cons (P6 (ys:=[CW (DK 8 k [])]) hr (AH.cons (EC w S 8 k [] hk (by simp)) (AH.nil _ _)) (DP _) dD (λ_=>hS)) (AH.cons (EC w S 2 1 [] dD (by simp)) (AH.nil _ _)))
structure DcI (B N b:Nat) (ks:List (l8_)) (os:List AV) (kv lv:Value) (ys:List AC) (w:World):Prop where
 blk:B0 w b #[Af 7,Af 0,.string (bs []),kv,lv,.slice none 0 0] 27
 keys:AD G8 9 B w kv ks
 row:AD EN 27 B w lv ys
 els:AH w (λq=>(N<=q/\q<w.heap.size/\q≠b)/\kv.ownBlock≠some q/\lv.ownBlock≠some q) ys os
 kn:∀ g,kv.ownBlock=some g->N<=g/\g≠b
 ln:∀ g,lv.ownBlock=some g->N<=g/\g≠b
theorem DcI.rep  {b:Nat} {os:List AV} {kv lv:Value} {ys:List AC} (h:DcI B N b ks os kv lv ys w) (hl:ks.length=ys.length) (hks:∀ k∈ks,k.length<=9223372036854775807) :
  ∃ y:AC,(#[Af 7,Af 0,.string (bs []),kv,lv,.slice none 0 0]:Array Value)=(DN y).toArray/\AB w (λq=>N<=q/\q<w.heap.size) y (Ic ks os):=by
 obtain ⟨kp,kc,rfl,-⟩:=h.keys.row
 obtain ⟨lp,lc,rfl,-⟩:=h.row.row
 have hk:=h.keys
 have hr:=h.row
 rw [hl] at hk ⊢
 refine ⟨⟨7,0,[],kp,ys.length,kc,lp,ys.length,lc,none,0,0⟩,rfl,V9 rfl hk hr (h.els.mono λq hq _=>⟨hq.1.1,hq.1.2.1⟩) hks (λg hg=>⟨(h.kn g (by rw [hl];exact hg)).1,(hk.lt g hg).2⟩) (λg hg=>⟨(h.ln g hg).1,(hr.lt g hg).2⟩)⟩
theorem A3p (x:Ld):∀ k∈[F9,Tn,OT]++(Ro x.bx Pe++Ro x.ft UM),k.length<=9223372036854775807:=by
 obtain ⟨b,f⟩:=x
 cases b <;> cases f <;> exact List.forall_mem_cons.2 ⟨dD,List.forall_mem_cons.2 ⟨dD,List.forall_mem_cons.2 ⟨dD,by simp [Ro,Pe,UM]⟩⟩⟩
theorem UD:∀ (l:List Ld) (j:Nat) (x:Ld),LU j (l++[x])=LU j l++[Tg ((j+l.length+1:Nat):Int) x]
 | [],j,x=>rfl
 | y::r,j,x=>by rw [Bb,LU,LU,UD r (j+1) x,Bb,Aa,show j+1+r.length+1=j+(r.length+1)+1 by omega]
theorem A5f (bx fn:l8_) (i:Nat):(E0 bx fn (i+1)).foldl HK (-1)=HK ((E0 bx fn i).foldl HK (-1)) (Ix bx fn i):=by rw [O3,List.foldl_append];rfl
theorem A5g (bx fn:l8_) (i:Nat):(E0 bx fn (i+1)).foldl N2 (-1)=N2 ((E0 bx fn i).foldl N2 (-1)) (Ix bx fn i):=by rw [O3,List.foldl_append];rfl
theorem A6w (p:Option Addr) (n c:Nat):Tryz.prog.built 27 [(0,Af 9),(5,.slice p n c)]=some (DN ⟨9,0,[],none,0,0,none,0,0,p,n,c⟩).toArray:=by kernel_rfl
end
section
section strings
variable {P:Program} {f:Fr} {x y:Operand} {l m:l8_} {tx ty:TypeId}
theorem BG.lts (hx:CM f x=some (.string (bs l))) (hy:CM f y=some (.string (bs m))):BG P (.binOp .lss tx x y ty) f (.bool (Op.bytesLess l m)):=λρ hρ d ty pos aft g w=>by
 simp [execOp,hρ _ _ hx,hρ _ _ hy,eqGuard,binOp,Op.stringOp,MP]
theorem BG.slbD  {l:List α} {i:Int} (hu:P.underlying tx=some (.slice e)) (hs:∀ w,(sizeOf e).run P w=.ok 1 w) (hx:CM f x=some (.slice p l.length c)) (hi:CM f y=some (Af i)) (a:Nat) (ei:i=a) (ham:a<=l.length) :
  BG P (.slice tx x (some y) none none) f (.slice (DV p c a) (l.drop a).length (c-a)):=by rw [Au];exact BG.slbF hu hs hx hi a ei ham
theorem BG.slbK  {z:Operand} {l:List α} {j:Int} (hu:P.underlying tx=some (.slice e)) (hs:∀ w,(sizeOf e).run P w=.ok 1 w) (hx:CM f x=some (.slice p l.length c)) (hj:CM f z=some (Af j)) (b:Nat) (ej:j=b) (hb:b<=l.length) (hbc:l.length<=c) :
  BG P (.slice tx x none (some z) none) f (.slice (DV p c 0) (l.take b).length c):=by rw [At,Nat.min_eq_left hb];exact BG.slbT hu hs hx hj b ej oO
theorem BG.slmD  {l:List α} {sz:Nat} {i:Int} (hu:P.underlying tx=some (.slice e)) (hs:∀ w,(sizeOf e).run P w=.ok sz w) (hx:CM f x=some (.slice p l.length c)) (hi:CM f y=some (Af i)) (a:Nat) (ei:i=a) (ham:a<=l.length) :
  BG P (.slice tx x (some y) none none) f (.slice (Fk sz p c a) (l.drop a).length (c-a)):=by rw [Au];exact ZC hu hs hx hi a ei ham
theorem BG.slmK  {z:Operand} {l:List α} {sz:Nat} {j:Int} (hu:P.underlying tx=some (.slice e)) (hs:∀ w,(sizeOf e).run P w=.ok sz w) (hx:CM f x=some (.slice p l.length c)) (hj:CM f z=some (Af j)) (b:Nat) (ej:j=b) (hb:b<=l.length) (hbc:l.length<=c) :
  BG P (.slice tx x none (some z) none) f (.slice (Fk sz p c 0) (l.take b).length c):=by rw [At,Nat.min_eq_left hb];exact ZB hu hs hx hj b ej oO
end strings
theorem Lv (p:Option Addr) (c a:Nat):(pA (DV p c a)).block=(pA p).block:=by
 unfold DV;split
 · rfl
 ·
  cases p with
  | none=>rfl
  | some x=>exact Ee _ _
theorem CI (m:Nat) (p:Option Addr) (c a:Nat):(pA (Fk m p c a)).block=(pA p).block:=by
 unfold Fk;split
 · rfl
 ·
  cases p with
  | none=>rfl
  | some x=>exact Ee _ _
theorem Lt  {a:Nat} (h:c=0\/p≠none):c-a=0\/DV p c a≠none:=by
 rcases h with h | h
 · exact .inl oO
 ·
  refine .inr ?_
  cases p with
  | none=>exact De rfl h
  | some a=>unfold DV;split <;> simp
theorem Jv {m:Nat} {a:Nat} (h:c=0\/p≠none):c-a=0\/Fk m p c a≠none:=by
 rcases h with h | h
 · exact .inl oO
 ·
  refine .inr ?_
  cases p with
  | none=>exact De rfl h
  | some a=>unfold Fk;split <;> simp
theorem AH.app  {cs ds:List AC} {os ps:List AV} (h:AH w S cs os) (hs:AH w S ds ps):AH w S (cs++ds) (os++ps):=by
  refine ⟨by rw [A8,A8,h.len,hs.len],λi c d=>?_⟩
  have hl:=h.len
  rcases Bu i cs.length with a | a
  · have b : i < os.length := by omega
    rw [D7 a,D7 b]
    exact h.sub i a b
  · rw [A8] at c d
    rw [CB a,CB oO]
    simp only [hl]
    exact hs.sub _ oO oO
theorem AH.take  {cs:List AC} {os:List AV} (h:AH w S cs os) (n:Nat):AH w S (cs.take n) (os.take n):=⟨by rw [At,At,h.len],λi h1 h2=>by rw [Jh,Jh];exact h.sub i _ _⟩
theorem AH.drop  {cs:List AC} {os:List AV} (h:AH w S cs os) (n:Nat):AH w S (cs.drop n) (os.drop n):=⟨by rw [Au,Au,h.len],λi h1 h2=>by rw [Yi,Yi];exact h.sub _ _ _⟩
def A2d (ks:List (l8_)) (k:l8_) (i:Nat):Prop:=i<=ks.length/\(∀ j<i,Op.bytesLess (ks.getD j []) k=true)/\(i<ks.length->Op.bytesLess (ks.getD i []) k=false)
theorem PW  {b:Nat} {os:List AV} {k:l8_} {y:AC} {o:AV} {cs:List AC} {kv lv:Value} {dc:Nat} {c0:Array Value} {t0:TypeId} (_:B0 w b c0 t0)
    (hb:B0 w1 b #[Af 7,Af 0,.string (bs []),kv,lv,.slice dp 0 dc] 150) (hT:Bh w.heap.size b w w1) (h1:AD G8 9 w.heap.size w1 kv (ks.take i++k::ks.drop i)) (h2:AD EN 27 w.heap.size w1 lv (cs.take i++y::cs.drop i))
    (hA:AH w1 (λq=>q<w.heap.size/\S q) cs os) (hy:AB w1 (λq=>q<w.heap.size/\S q) y o) (hd:dc<=9223372036854775807) (hk:k.length<=9223372036854775807) (hks:∀ k∈ks,k.length<=9223372036854775807) :
    (Ending.returned (.tuple #[])=Ending.returned (.tuple #[]))/\Bh w.heap.size b w w1/\∃ z:AC,B0 w1 b (DN z).toArray 150 /\
      AB w1 (λq=>(S q/\q<w.heap.size)\/(w.heap.size<=q/\q<w1.heap.size)) z (Ic (ks.take i++k::ks.drop i) (os.take i++o::os.drop i)):=by
  refine ⟨rfl,hT,?_⟩
  obtain ⟨kp,kc,rfl,-⟩:=h1.row
  obtain ⟨lp,lc,rfl,-⟩:=h2.row
  obtain ⟨u,f,g,l,c⟩:=h1.full
  obtain ⟨v,m,s,t,d⟩:=h2.full
  have e:AH w1 (λq=>(S q/\q<w.heap.size)\/(w.heap.size<=q/\q<w1.heap.size)) (cs.take i++y::cs.drop i) (os.take i++o::os.drop i):=by
    have hm:∀ q,q<w.heap.size/\S q->q<w1.heap.size->(S q/\q<w.heap.size)\/(w.heap.size<=q/\q<w1.heap.size):=λq h _=>.inl ⟨h.2,h.1⟩
    exact ((hA.mono hm).take i).app (AH.cons (hy.mono hm) ((hA.mono hm).drop i))
  refine ⟨⟨7,0,[],kp,_,kc,lp,_,lc,dp,0,dc⟩,hb,?_⟩
  exact .mk ⟨7,0,[],kp,_,kc,lp,_,lc,dp,0,dc⟩ (ks.take i++k::ks.drop i) _ [] (cs.take i++y::cs.drop i) ⟨by show _<=(0:Int)/\(0:Int)<=_;decide,by show ([]:l8_).length<=_;simp,rfl,rfl,rfl,f,m,FI _,g,s,hd⟩
    (λx hx=>by
      rcases B9.1 hx with hx | hx
      · exact hks x (Eh hx)
      · rcases A6.1 hx with rfl | hx
        · exact hk
        · exact hks x (H0 hx))
    l.strs (λa=>.inr ⟨(h1.lt _ (c a)).1,(h1.lt _ (c a)).2⟩) t (λa=>.inr ⟨(h2.lt _ (d a)).1,(h2.lt _ (d a)).2⟩) ⟨λh=>by simp at h,λj h=>by simp at h⟩ (by simp) e.len e.sub
theorem A2X (bv0:Nat) (x:AC) (ks:List (l8_)) (os:List AV) (k:l8_) (y:AC) (o:AV) (at_:Nat) (S:Nat->Prop) (w:World) (hb:B0 w bv0 (DN x).toArray 150) (hx:AB w S x (Ic ks os)) (hy:AB w S y o) (hS:∀ q,S q->q≠bv0)
  (hx0:ks=[]->x.kc=0/\x.lc=0) (hp:A2d ks k at_) (hl:ks.length<=100) (hkl:k.length<=9223372036854775807) (ho:os.length=ks.length) :
  Calls Tryz.prog 92 #[ptV bv0,.string (bs k),.agg (DN y).toArray] w λe w'=>e=.returned (.tuple #[])/\Bh w.heap.size bv0 w w'/\∃ z:AC,B0 w' bv0 (DN z).toArray 150 /\
   AB w' (λq=>(S q/\q<w.heap.size)\/(w.heap.size<=q/\q<w'.heap.size)) z (Ic (ks.take at_++k::ks.drop at_) (os.take at_++o::os.drop at_)):=by
 obtain ⟨h1,h2,h3⟩:=hp
 obtain ⟨keys,list,data,cs,ir,ok,cC,it,iu,hr,iv,-,-,jn,iG⟩:=hx.inv
 obtain ⟨x1,x2,x3,kp,kl,kc,lp,ll,lc,dp,dl,dc⟩:=x
 simp only at hx0
 have e1:=ok.kl;have e2:=ok.ll;have e3:=ok.dl
 have m1:=ok.kc;have m2:=ok.lc;have m3:=ok.km;have m4:=ok.lm;have m6:=ok.dm
 simp only at e1 e2 e3 m1 m2 m3 m4 m6 ir hr it iu iv
 obtain ⟨rfl,rfl,rfl,rfl,rfl,rfl⟩:=AV.mk.inj ir
 subst e1;subst e2;subst e3
 have bL:=it.rowS
 have hA:AH w (λq=>q<w.heap.size/\S q) cs os:=⟨jn,λi h1 h2=>(iG i h1 h2).mono λq h3 h4=>⟨h4,h3⟩⟩
 have jo:AB w (λq=>q<w.heap.size/\S q) y o:=hy.mono λq h3 h4=>⟨h4,h3⟩
 have iw:AG G8 w (DV kp kc 0) (ks.take at_):=by have:=bL.partT (c:=kc) at_ h1 m1;simpa [Fk,DV,G8] using this
 have iy:AG G8 w (DV kp kc at_) (ks.drop at_):=by have:=bL.partF (a:=at_) (c:=kc) h1 m1;simpa [Fk,DV,G8] using this
 have iz:=hr.partT (c:=lc) at_ oO m2
 have iA:=hr.partF (a:=at_) oO m2
 have nk:kc=0\/kp≠none:=by
  rcases IB ks.length with b | b;exact .inl (hx0 (Dk b)).1;exact .inr (by rw [bL.isp b];simp)
 have nl:lc=0\/lp≠none:=by
  rcases IB ks.length with b | b;exact .inl (hx0 (Dk b)).2;exact .inr (by rw [hr.isp oO];simp)
 have bk:0<ks.length->(pA kp).block≠bv0/\(pA kp).block<w.heap.size:=λb=>⟨hS _ (iu b),bL.lt b⟩
 have bl:0<cs.length->(pA lp).block≠bv0/\(pA lp).block<w.heap.size:=λb=>⟨hS _ (iv b),hr.lt b⟩
 have tk:0<(ks.take at_).length->0<ks.length:=λb=>by rw [At] at b;omega
 have dk:0<(ks.drop at_).length->0<ks.length:=λb=>by rw [Au] at b;omega
 have tl:0<(cs.take at_).length->0<cs.length:=λb=>by rw [At] at b;omega
 have qd:0<(cs.drop at_).length->0<cs.length:=λb=>by rw [Au] at b;omega
 have hb0:B0 w bv0 #[Af 7,Af 0,.string (bs []),.slice kp ks.length kc,.slice lp cs.length lc,.slice dp 0 dc] 150:=hb
 have a3:∀ q,q<w.heap.size/\S q->q≠bv0:=λq h=>hS q h.2
 simp only [DN]
 refine Ar func92 rfl ntmps92 ?_
 have iB:=Bh.refl (w.heap.size) bv0 w
 refine A4<|WL.box rfl rfl (λb1 cT bo iH aj k2=>?_)
 have jp:=AH.same (w1:=cT) hA (λk hk hl=>aj.other k oO)
 have jq:=AB.same (w1:=cT) jo (λk hk hl=>aj.other k oO)
 have jr:=Bl bo hb0.lt
 have E:=hb0.un aj jr
 have iI:=λb=>bo▸bL.lt b
 have iC:=AG.upd bL aj (λb=>CR (iI b))
 have iJ:=λb=>bo▸iw.lt b
 have js:=AG.upd iw aj (λb=>CR (iJ b))
 have fz:=λb=>bo▸iy.lt b
 have iK:=AG.upd iy aj (λb=>CR (fz b))
 have fA:=λb=>bo▸iz.lt b
 have iL:=AG.upd iz aj (λb=>CR (fA b))
 have fB:=λb=>bo▸iA.lt b
 have iM:=AG.upd iA aj (λb=>CR (fB b))
 have fC:=CF bo iB.size
 have iN:=BC iB (DJ aj fC)
 refine A0<|A4<|A9 rfl<|Ad<|AO<|BM (α:=Nat) (λt=>[(0,ptV bv0),(1,.string (bs k)),(5,ptV b1),(6,Af (t:Int))]) (λt w'=>cT=w'/\t<=at_) (λt=>at_-t) (0) ⟨rfl,rfl,rfl,rfl,tT⟩ (⟨rfl,FI _⟩) (λt w1 hR=>?_)
 obtain ⟨i0,rfl⟩:=eX t
 obtain ⟨rfl,kr⟩:=hR
 have hD:∀ h:i0<ks.length,ks.getD i0 []=ks[i0]:=λh=>by rw [BY,Aj h];rfl
 refine Ad<|FT 26 (decide (i0<at_)) ?_ ?_
 refine Am<|A3 rfl<|A3 rfl<|A1 (.nck rfl)<|A1 (.fa I8 rfl CU dD rfl)<|A1 (.fa Ay rfl DU dD rfl)<|Ah (Ae (Fg _) rfl E rfl)<|A1 (.lenS Dy rfl)<|A1 (.lss rfl rfl)<|A3 rfl<|Ck rfl rfl rfl (λv=>?_) (λv=>?_)
 have iO:=dT v
 refine A3 rfl<|Az v<|A1 (.nck rfl)<|Az v<|A1 (.fa I8 rfl CU dD rfl)<|Az v<|A1 (.fa Ay rfl DU dD rfl)<|Az v<|Ah (Ae (Fg _) rfl E rfl)<|Az v<|A3 rfl<|Az v<|A1 (.ixm Dy FH rfl rfl (iC.isp oO) (i0) (rfl) oO)<|Az v<|Ah (Bq (FX _) rfl ((iC.field (i0) oO 0 dD).trans rfl))<|Az v<|A3 rfl<|Az v<|A1 (.lts rfl rfl)<|A1 (.pkT rfl v rfl)<|A0<|?_
 exact ⟨Gy (DM rfl (by (have ex:i0<ks.length:=by omega);(rcases Bu i0 at_ with hq | hq);(rw [AP hq,<- hD ex];exact h2 i0 hq);(have jt:i0=at_:=by omega);(rw [AJ oO,<- hD ex,jt];exact h3 oO))),rfl⟩
 have iO:=dF v
 refine Bc v<|Bc v<|Bc v<|Bc v<|Bc v<|Bc v<|Bc v<|Bc v<|Bc v<|A1 (.pkF rfl v rfl)<|A0<|?_
 exact ⟨Gy (DM rfl (by exact (AJ oO).symm)),rfl⟩
 refine Ai rfl (λey=>?_) (λey=>?_)
 have iP:=dT ey
 refine Ap<|AO<|Am<|A3 rfl<|A1 (.iis (((i0+1:Nat):Int)) (.add rfl rfl (Ba oO)) oO)<|A9 rfl ?_
 exact ⟨i0+1,⟨rfl,rfl,rfl,rfl,tT⟩,⟨rfl,oM⟩,oM⟩
 have iP:=dF ey
 have ea:i0=at_:=by have:=dF (show decide (i0<at_)=false by assumption);omega
 subst ea
 refine BF<|If (α:=Value) (λt=>[(0,ptV bv0),(5,ptV b1),(6,Af (i0:Int))]) (λt w'=>Bh w.heap.size bv0 w w'/\B0 w' bv0 #[Af 7,Af 0,.string (bs []),t,.slice lp cs.length lc,.slice dp 0 dc] 150/\B0 w' b1 (DN y).toArray 27/\AD G8 9 (b1+1) w' t (ks.take i0++k::ks.drop i0)/\AG EN w' (Fk EN.m lp lc 0) (cs.take i0)/\AG EN w' (Fk EN.m lp lc i0) (cs.drop i0)/\AH w' (λq=>q<w.heap.size/\S q) cs os/\AB w' (λq=>q<w.heap.size/\S q) y o) ?_ (λt w1 hR=>?_)
 refine TI 24 rfl rfl BR kR (λw'=>w'.heap[bv0]?=cT.heap[bv0]?/\True) (λiD ak=>?_)
 have ez:=AH.same (w1:=iD) jp (λk hk hl=>(by obtain ⟨m,rfl⟩:=ak;rfl))
 have eA:=AB.same (w1:=iD) jq (λk hk hl=>(by obtain ⟨m,rfl⟩:=ak;rfl))
 have bp:=E.drew ak
 have bO:=iH.drew ak
 have bP:=js.drew ak
 have bQ:=iK.drew ak
 have bR:=iL.drew ak
 have bS:=iM.drew ak
 have bT:=BC iN (Mf ak)
 have a4:=Bs (bp.trans E.symm) Bi
 refine Ab 0 rfl (.mv rfl) a4 ?_
 refine Ab 2 rfl (.mv rfl) a4 ?_
 refine Ab 3 rfl (.nck rfl) a4 ?_
 refine Ab 4 rfl (.fa I8 rfl CU dD rfl) a4 ?_
 refine Ab 5 rfl (.fa Ay rfl DU dD rfl) a4 ?_
 refine BX 6 rfl (λw' hw'=>Ae (Fg _) rfl ((hw'.1).trans E) rfl) a4 rfl ?_
 refine Ab 7 rfl (.mv rfl) a4 ?_
 refine Ab 8 rfl (.slbK (l:=ks) (z:=.tmp 36) Dy FH rfl rfl i0 rfl oO m1) a4 ?_
 refine Ab 10 rfl (.mv rfl) a4 ?_
 refine Ab 13 rfl (.mv rfl) a4 ?_
 refine Ab 14 rfl (.nck rfl) a4 ?_
 refine Ab 15 rfl (.fa I8 rfl CU dD rfl) a4 ?_
 refine Ab 16 rfl (.fa Ay rfl DU dD rfl) a4 ?_
 refine BX 17 rfl (λw' hw'=>Ae (Fg _) rfl ((hw'.1).trans E) rfl) a4 rfl ?_
 refine Ab 18 rfl (.mv rfl) a4 ?_
 refine Ab 19 rfl (.slbD (l:=ks) Dy FH rfl rfl i0 rfl oO) a4 ?_
 refine FA 1 rfl 11 rfl ?_ ?_
 refine Jd Dy FH rfl (λeB cD aE a5 a6 jY=>?_)
 have eC:=AH.same (w1:=cD) ez (λk hk hl=>a6.other k oO)
 have eD:=AB.same (w1:=cD) eA (λk hk hl=>a6.other k oO)
 have iQ:=Bl aE bp.lt
 have bU:=bp.un a6 iQ
 have iR:=Bl aE bO.lt
 have cE:=bO.un a6 iR
 have fD:=λb=>aE▸bP.lt b
 have cF:=AG.upd bP a6 (λb=>CR (fD b))
 have fE:=λb=>aE▸bQ.lt b
 have bV:=AG.upd bQ a6 (λb=>CR (fE b))
 have fF:=λb=>aE▸bR.lt b
 have bW:=AG.upd bR a6 (λb=>CR (fF b))
 have fG:=λb=>aE▸bS.lt b
 have bX:=AG.upd bS a6 (λb=>CR (fG b))
 have a7:=CF aE bT.size
 have cG:=BC bT (DJ a6 a7)
 have a5:=HH (L:=G8) (l:=[]) (a5 eB (DP _))
 have bq:eB<=cD.heap.size:=by omega
 refine A0<|⟨⟨(bU).trans (E).symm,tT⟩,?_⟩
 refine FA 9 rfl 11 rfl ?_ ?_
 refine BS Dy Ma rfl rfl rfl a5 rfl cF (by (try simp only [A8,At,Au,Aa,Ak]);omega) (bq) rfl (λ_=>Lt (a:=0) nk) (λkt eF fH b9 aG jZ=>?_)
 have cH:=bU.below b9 oO
 have eG:=cE.below b9 oO
 have iS:=AH.same eC (λk hk hl=>aG.block k hl (λe=>by (have d:=((a5).lt k e.symm).1;omega)))
 have iT:=AB.same eD (λk hk hl=>aG.block k hl (λe=>by (have d:=((a5).lt k e.symm).1;omega)))
 have eH:=AG.same (w1:=eF) bV (λb=>aG.block _ (bV.lt b) (λhx=>by (have d:=((a5).lt _ hx.symm).1;rw [Lv] at d;have F:=(bk (dk b)).2;omega)))
 have eI:=AG.same (w1:=eF) bW (λb=>aG.block _ (bW.lt b) (λhx=>by (have d:=((a5).lt _ hx.symm).1;rw [CI] at d;have F:=(bl (tl b)).2;omega)))
 have eJ:=AG.same (w1:=eF) bX (λb=>aG.block _ (bX.lt b) (λhx=>by (have d:=((a5).lt _ hx.symm).1;rw [CI] at d;have F:=(bl (qd b)).2;omega)))
 have eK:=BC cG (Fo (b9.mono (a7)))
 have fI:=C9 bq b9.size
 refine A0<|⟨⟨(cH).trans (E).symm,tT⟩,?_⟩
 refine AX 11 rfl<|Cs (ps:=_) Dy FH ZL rfl rfl rfl rfl rfl pR rfl (λku eL aF fJ U j'=>?_)
 have cU:=C9 fI U.size
 have b7:=Fs fH aF U
 have iU:=AH.same (w1:=eL) iS (λk hk hl=>U.other k oO)
 have iV:=AB.same (w1:=eL) iT (λk hk hl=>U.other k oO)
 have iW:=Bl aF cH.lt
 have eM:=cH.un U iW
 have iX:=Bl aF eG.lt
 have iY:=eG.un U iX
 have fK:=λb=>aF▸eH.lt b
 have eN:=AG.upd eH U (λb=>CR (fK b))
 have fL:=λb=>aF▸eI.lt b
 have eO:=AG.upd eI U (λb=>CR (fL b))
 have fM:=λb=>aF▸eJ.lt b
 have eP:=AG.upd eJ U (λb=>CR (fM b))
 have eQ:=CF aF eK.size
 have iZ:=BC eK (DJ U eQ)
 have bt:=AG.lit (V:=G8) (l:=[k]) fJ (rfl)
 refine A0<|⟨⟨(eM).trans (E).symm,tT⟩,?_⟩
 refine AX 12 rfl<|BS Dy Ma rfl rfl rfl b7 rfl bt (by (try simp only [A8,At,Au,Aa,Ak]);omega) (cU) rfl (λh=>nomatch h) (λkw eR aH ba aI k0=>?_)
 have eS:=eM.below ba oO
 have i':=iY.below ba oO
 have j0:=AH.same iU (λk hk hl=>aI.block k hl (λe=>by (have d:=((b7).lt k e.symm).1;omega)))
 have j9:=AB.same iV (λk hk hl=>aI.block k hl (λe=>by (have d:=((b7).lt k e.symm).1;omega)))
 have ja:=AG.same (w1:=eR) eN (λb=>aI.block _ (eN.lt b) (λhx=>by (have d:=((b7).lt _ hx.symm).1;rw [Lv] at d;have F:=(bk (dk b)).2;omega)))
 have eT:=AG.same (w1:=eR) eO (λb=>aI.block _ (eO.lt b) (λhx=>by (have d:=((b7).lt _ hx.symm).1;rw [CI] at d;have F:=(bl (tl b)).2;omega)))
 have eU:=AG.same (w1:=eR) eP (λb=>aI.block _ (eP.lt b) (λhx=>by (have d:=((b7).lt _ hx.symm).1;rw [CI] at d;have F:=(bl (qd b)).2;omega)))
 have jb:=BC iZ (Fo (ba.mono (a7)))
 have fN:=C9 cU ba.size
 refine A0<|⟨⟨(eS).trans (E).symm,tT⟩,?_⟩
 refine AX 20 rfl<|BS Dy Ma rfl rfl rfl aH rfl ja (by (try simp only [A8,At,Au,Aa,Ak]);omega) (fN) rfl (λ_=>Lt nk) (λkx iE cV bY bb k1=>?_)
 have eV:=eS.below bY oO
 have jc:=i'.below bY oO
 have jd:=AH.same j0 (λk hk hl=>bb.block k hl (λe=>by (have d:=((aH).lt k e.symm).1;omega)))
 have je:=AB.same j9 (λk hk hl=>bb.block k hl (λe=>by (have d:=((aH).lt k e.symm).1;omega)))
 have fO:=AG.same (w1:=iE) eT (λb=>bb.block _ (eT.lt b) (λhx=>by (have d:=((aH).lt _ hx.symm).1;rw [CI] at d;have F:=(bl (tl b)).2;omega)))
 have fP:=AG.same (w1:=iE) eU (λb=>bb.block _ (eU.lt b) (λhx=>by (have d:=((aH).lt _ hx.symm).1;rw [CI] at d;have F:=(bl (qd b)).2;omega)))
 have fQ:=BC jb (Fo (bY.mono (a7)))
 refine A0<|?_
 have cW:=Bs (eV.trans E.symm) Bi
 refine ⟨cW,?_⟩
 refine Ab 21 rfl (.nck rfl) cW ?_
 refine Ab 22 rfl (.fa I8 rfl CU dD rfl) cW ?_
 refine Ab 23 rfl (.fa Ay rfl DU dD rfl) cW ?_
 refine BH kR<|Br DU rfl rfl (cV).one eV (by exact Nat.le_of_ble_eq_true rfl) (λcI bu G ju=>?_)
 have bu:B0 cI bv0 _ _:=bu
 have G:CK bv0 _ _:=G
 have cX:=Bx cV G oM
 have fR:=AH.same (w1:=cI) jd (λk hk hl=>G.other k (a3 k hk))
 have fS:=AB.same (w1:=cI) je (λk hk hl=>G.other k (a3 k hk))
 have fT:=jc.up G
 have fU:=AG.upd fO G (λb=>by rw [CI];exact (bl (tl b)).1)
 have fV:=AG.upd fP G (λb=>by rw [CI];exact (bl (qd b)).1)
 have fW:=BC fQ (Bp G)
 refine A0<|?_
 exact ⟨_,⟨rfl,rfl,rfl,tT⟩,fW,bu,fT,by have h9:=(cX).base (C:=b1+1) (λg hg=>by have:=((cX).lt g hg).1;omega);simpa using h9,fU,fV,fR,fS⟩
 refine Cs (ps:=_) Dy FH ZL rfl rfl rfl rfl rfl pR rfl (λjf cY ac eW A jv=>?_)
 have cl:=C9 bq A.size
 have ay:=Fs a5 ac A
 have fX:=AH.same (w1:=cY) eC (λk hk hl=>A.other k oO)
 have fY:=AB.same (w1:=cY) eD (λk hk hl=>A.other k oO)
 have fZ:=Bl ac bU.lt
 have cZ:=bU.un A fZ
 have f':=Bl ac cE.lt
 have g0:=cE.un A f'
 have eY:=λb=>ac▸cF.lt b
 have g1:=AG.upd cF A (λb=>CR (eY b))
 have eZ:=λb=>ac▸bV.lt b
 have c':=AG.upd bV A (λb=>CR (eZ b))
 have e':=λb=>ac▸bW.lt b
 have d0:=AG.upd bW A (λb=>CR (e' b))
 have f0:=λb=>ac▸bX.lt b
 have d1:=AG.upd bX A (λb=>CR (f0 b))
 have es:=CF ac cG.size
 have g2:=BC cG (DJ A es)
 have bt:=AG.lit (V:=G8) (l:=[k]) eW (rfl)
 refine A0<|⟨⟨(cZ).trans (E).symm,tT⟩,?_⟩
 refine AX 9 rfl<|BS Dy Ma rfl rfl rfl ay rfl g1 (by (try simp only [A8,At,Au,Aa,Ak]);omega) (cl) rfl (λ_=>Lt (a:=0) nk) (λk3 bZ af aJ ag jw=>?_)
 have d2:=cZ.below aJ oO
 have g3:=g0.below aJ oO
 have g4:=AH.same fX (λk hk hl=>ag.block k hl (λe=>by (have d:=((ay).lt k e.symm).1;omega)))
 have g5:=AB.same fY (λk hk hl=>ag.block k hl (λe=>by (have d:=((ay).lt k e.symm).1;omega)))
 have d3:=AG.same (w1:=bZ) c' (λb=>ag.block _ (c'.lt b) (λhx=>by (have d:=((ay).lt _ hx.symm).1;rw [Lv] at d;have F:=(bk (dk b)).2;omega)))
 have d4:=AG.same (w1:=bZ) d0 (λb=>ag.block _ (d0.lt b) (λhx=>by (have d:=((ay).lt _ hx.symm).1;rw [CI] at d;have F:=(bl (tl b)).2;omega)))
 have d5:=AG.same (w1:=bZ) d1 (λb=>ag.block _ (d1.lt b) (λhx=>by (have d:=((ay).lt _ hx.symm).1;rw [CI] at d;have F:=(bl (qd b)).2;omega)))
 have g6:=AG.same (w1:=bZ) bt (λb=>ag.block _ (bt.lt b) (λhx=>by have d:jf=eB:=C3 hx;omega))
 have g7:=BC g2 (Fo (aJ.mono (a7)))
 have cm:=C9 cl aJ.size
 refine A0<|⟨⟨(d2).trans (E).symm,tT⟩,?_⟩
 refine AX 12 rfl<|BS Dy Ma rfl rfl rfl af rfl g6 (by (try simp only [A8,At,Au,Aa,Ak]);omega) (cm) rfl (λh=>nomatch h) (λk4 cJ ao aK ap jx=>?_)
 have d6:=d2.below aK oO
 have g8:=g3.below aK oO
 have g9:=AH.same g4 (λk hk hl=>ap.block k hl (λe=>by (have d:=((af).lt k e.symm).1;omega)))
 have ga:=AB.same g5 (λk hk hl=>ap.block k hl (λe=>by (have d:=((af).lt k e.symm).1;omega)))
 have gb:=AG.same (w1:=cJ) d3 (λb=>ap.block _ (d3.lt b) (λhx=>by (have d:=((af).lt _ hx.symm).1;rw [Lv] at d;have F:=(bk (dk b)).2;omega)))
 have d7:=AG.same (w1:=cJ) d4 (λb=>ap.block _ (d4.lt b) (λhx=>by (have d:=((af).lt _ hx.symm).1;rw [CI] at d;have F:=(bl (tl b)).2;omega)))
 have d8:=AG.same (w1:=cJ) d5 (λb=>ap.block _ (d5.lt b) (λhx=>by (have d:=((af).lt _ hx.symm).1;rw [CI] at d;have F:=(bl (qd b)).2;omega)))
 have gc:=BC g7 (Fo (aK.mono (a7)))
 have f1:=C9 cm aK.size
 refine A0<|⟨⟨(d6).trans (E).symm,tT⟩,?_⟩
 refine AX 20 rfl<|BS Dy Ma rfl rfl rfl ao rfl gb (by (try simp only [A8,At,Au,Aa,Ak]);omega) (f1) rfl (λ_=>Lt nk) (λk5 f2 cn bv aL jy=>?_)
 have d9:=d6.below bv oO
 have ge:=g8.below bv oO
 have gf:=AH.same g9 (λk hk hl=>aL.block k hl (λe=>by (have d:=((ao).lt k e.symm).1;omega)))
 have gg:=AB.same ga (λk hk hl=>aL.block k hl (λe=>by (have d:=((ao).lt k e.symm).1;omega)))
 have gh:=AG.same (w1:=f2) d7 (λb=>aL.block _ (d7.lt b) (λhx=>by (have d:=((ao).lt _ hx.symm).1;rw [CI] at d;have F:=(bl (tl b)).2;omega)))
 have gi:=AG.same (w1:=f2) d8 (λb=>aL.block _ (d8.lt b) (λhx=>by (have d:=((ao).lt _ hx.symm).1;rw [CI] at d;have F:=(bl (qd b)).2;omega)))
 have gj:=BC gc (Fo (bv.mono (a7)))
 refine A0<|?_
 have da:=Bs (d9.trans E.symm) Bi
 refine ⟨da,?_⟩
 refine Ab 21 rfl (.nck rfl) da ?_
 refine Ab 22 rfl (.fa I8 rfl CU dD rfl) da ?_
 refine Ab 23 rfl (.fa Ay rfl DU dD rfl) da ?_
 refine BH kR<|Br DU rfl rfl (cn).one d9 (by exact Nat.le_of_ble_eq_true rfl) (λcK bw H jz=>?_)
 have bw:B0 cK bv0 _ _:=bw
 have H:CK bv0 _ _:=H
 have db:=Bx cn H oM
 have gk:=AH.same (w1:=cK) gf (λk hk hl=>H.other k (a3 k hk))
 have gl:=AB.same (w1:=cK) gg (λk hk hl=>H.other k (a3 k hk))
 have gm:=ge.up H
 have go:=AG.upd gh H (λb=>by rw [CI];exact (bl (tl b)).1)
 have gp:=AG.upd gi H (λb=>by rw [CI];exact (bl (qd b)).1)
 have gq:=BC gj (Bp H)
 refine A0<|?_
 exact ⟨_,⟨rfl,rfl,rfl,tT⟩,gq,bw,gm,by have h9:=(db).base (C:=b1+1) (λg hg=>by have:=((db).lt g hg).1;omega);simpa using h9,go,gp,gk,gl⟩
 refine Cs (ps:=_) Dy FH ZL rfl rfl rfl rfl rfl pR rfl (λjg dd al f3 J jA=>?_)
 have gr:=AH.same (w1:=dd) ez (λk hk hl=>J.other k oO)
 have gs:=AB.same (w1:=dd) eA (λk hk hl=>J.other k oO)
 have gt:=Bl al bp.lt
 have b':=bp.un J gt
 have gv:=Bl al bO.lt
 have de:=bO.un J gv
 have f4:=λb=>al▸bP.lt b
 have df:=AG.upd bP J (λb=>CR (f4 b))
 have f5:=λb=>al▸bQ.lt b
 have dg:=AG.upd bQ J (λb=>CR (f5 b))
 have f6:=λb=>al▸bR.lt b
 have dh:=AG.upd bR J (λb=>CR (f6 b))
 have f7:=λb=>al▸bS.lt b
 have di:=AG.upd bS J (λb=>CR (f7 b))
 have et:=CF al bT.size
 have dj:=BC bT (DJ J et)
 have bt:=AG.lit (V:=G8) (l:=[k]) f3 (rfl)
 refine A0<|⟨⟨(b').trans (E).symm,tT⟩,?_⟩
 refine AX 1 rfl<|Jd Dy FH rfl (λcL c0 ad X B jB=>?_)
 have gw:=AH.same (w1:=c0) gr (λk hk hl=>B.other k oO)
 have gx:=AB.same (w1:=c0) gs (λk hk hl=>B.other k oO)
 have gz:=Bl ad b'.lt
 have dn:=b'.un B gz
 have gA:=Bl ad de.lt
 have gB:=de.un B gA
 have f8:=λb=>ad▸df.lt b
 have gC:=AG.upd df B (λb=>CR (f8 b))
 have f9:=λb=>ad▸dg.lt b
 have dq:=AG.upd dg B (λb=>CR (f9 b))
 have fb:=λb=>ad▸dh.lt b
 have dr:=AG.upd dh B (λb=>CR (fb b))
 have fc:=λb=>ad▸di.lt b
 have ds:=AG.upd di B (λb=>CR (fc b))
 have fd:=λb=>ad▸bt.lt b
 have dt:=AG.upd bt B (λb=>CR (fd b))
 have az:=CF ad dj.size
 have gD:=BC dj (DJ B az)
 have X:=HH (L:=G8) (l:=[]) (X cL (DP _))
 have bM:cL<=c0.heap.size:=by omega
 refine A0<|⟨⟨(dn).trans (E).symm,tT⟩,?_⟩
 refine AX 9 rfl<|BS Dy Ma rfl rfl rfl X rfl gC (by (try simp only [A8,At,Au,Aa,Ak]);omega) (bM) rfl (λ_=>Lt (a:=0) nk) (λk6 c2 ah aM ai jC=>?_)
 have du:=dn.below aM oO
 have gE:=gB.below aM oO
 have gF:=AH.same gw (λk hk hl=>ai.block k hl (λe=>by (have d:=((X).lt k e.symm).1;omega)))
 have gG:=AB.same gx (λk hk hl=>ai.block k hl (λe=>by (have d:=((X).lt k e.symm).1;omega)))
 have dv:=AG.same (w1:=c2) dq (λb=>ai.block _ (dq.lt b) (λhx=>by (have d:=((X).lt _ hx.symm).1;rw [Lv] at d;have F:=(bk (dk b)).2;omega)))
 have dw:=AG.same (w1:=c2) dr (λb=>ai.block _ (dr.lt b) (λhx=>by (have d:=((X).lt _ hx.symm).1;rw [CI] at d;have F:=(bl (tl b)).2;omega)))
 have dx:=AG.same (w1:=c2) ds (λb=>ai.block _ (ds.lt b) (λhx=>by (have d:=((X).lt _ hx.symm).1;rw [CI] at d;have F:=(bl (qd b)).2;omega)))
 have gH:=AG.same (w1:=c2) dt (λb=>ai.block _ (dt.lt b) (λhx=>by have d:jg=cL:=C3 hx;omega))
 have gI:=BC gD (Fo (aM.mono (az)))
 have co:=C9 bM aM.size
 refine A0<|⟨⟨(du).trans (E).symm,tT⟩,?_⟩
 refine AX 12 rfl<|BS Dy Ma rfl rfl rfl ah rfl gH (by (try simp only [A8,At,Au,Aa,Ak]);omega) (co) rfl (λh=>nomatch h) (λk7 cM aq aN ar jD=>?_)
 have dy:=du.below aN oO
 have gJ:=gE.below aN oO
 have gK:=AH.same gF (λk hk hl=>ar.block k hl (λe=>by (have d:=((ah).lt k e.symm).1;omega)))
 have gL:=AB.same gG (λk hk hl=>ar.block k hl (λe=>by (have d:=((ah).lt k e.symm).1;omega)))
 have gM:=AG.same (w1:=cM) dv (λb=>ar.block _ (dv.lt b) (λhx=>by (have d:=((ah).lt _ hx.symm).1;rw [Lv] at d;have F:=(bk (dk b)).2;omega)))
 have dz:=AG.same (w1:=cM) dw (λb=>ar.block _ (dw.lt b) (λhx=>by (have d:=((ah).lt _ hx.symm).1;rw [CI] at d;have F:=(bl (tl b)).2;omega)))
 have dA:=AG.same (w1:=cM) dx (λb=>ar.block _ (dx.lt b) (λhx=>by (have d:=((ah).lt _ hx.symm).1;rw [CI] at d;have F:=(bl (qd b)).2;omega)))
 have gN:=BC gI (Fo (aN.mono (az)))
 have fe:=C9 co aN.size
 refine A0<|⟨⟨(dy).trans (E).symm,tT⟩,?_⟩
 refine AX 20 rfl<|BS Dy Ma rfl rfl rfl aq rfl gM (by (try simp only [A8,At,Au,Aa,Ak]);omega) (fe) rfl (λ_=>Lt nk) (λk8 ff cq bz aO jE=>?_)
 have dB:=dy.below bz oO
 have gO:=gJ.below bz oO
 have gP:=AH.same gK (λk hk hl=>aO.block k hl (λe=>by (have d:=((aq).lt k e.symm).1;omega)))
 have gQ:=AB.same gL (λk hk hl=>aO.block k hl (λe=>by (have d:=((aq).lt k e.symm).1;omega)))
 have gR:=AG.same (w1:=ff) dz (λb=>aO.block _ (dz.lt b) (λhx=>by (have d:=((aq).lt _ hx.symm).1;rw [CI] at d;have F:=(bl (tl b)).2;omega)))
 have gS:=AG.same (w1:=ff) dA (λb=>aO.block _ (dA.lt b) (λhx=>by (have d:=((aq).lt _ hx.symm).1;rw [CI] at d;have F:=(bl (qd b)).2;omega)))
 have gT:=BC gN (Fo (bz.mono (az)))
 refine A0<|?_
 have dC:=Bs (dB.trans E.symm) Bi
 refine ⟨dC,?_⟩
 refine Ab 21 rfl (.nck rfl) dC ?_
 refine Ab 22 rfl (.fa I8 rfl CU dD rfl) dC ?_
 refine Ab 23 rfl (.fa Ay rfl DU dD rfl) dC ?_
 refine BH kR<|Br DU rfl rfl (cq).one dB (by exact Nat.le_of_ble_eq_true rfl) (λcN bA K jF=>?_)
 have bA:B0 cN bv0 _ _:=bA
 have K:CK bv0 _ _:=K
 have dE:=Bx cq K oM
 have gU:=AH.same (w1:=cN) gP (λk hk hl=>K.other k (a3 k hk))
 have gV:=AB.same (w1:=cN) gQ (λk hk hl=>K.other k (a3 k hk))
 have gW:=gO.up K
 have gX:=AG.upd gR K (λb=>by rw [CI];exact (bl (tl b)).1)
 have gY:=AG.upd gS K (λb=>by rw [CI];exact (bl (qd b)).1)
 have gZ:=BC gT (Bp K)
 refine A0<|?_
 exact ⟨_,⟨rfl,rfl,rfl,tT⟩,gZ,bA,gW,by have h9:=(dE).base (C:=b1+1) (λg hg=>by have:=((dE).lt g hg).1;omega);simpa using h9,gX,gY,gU,gV⟩
 obtain ⟨kv,jG⟩:=eX t
 subst jG
 obtain ⟨j1,s,u,j4,j5,j6,j7,j8⟩:=hR
 refine TI 24 rfl rfl BR kR (λw'=>w'.heap[bv0]?=w1.heap[bv0]?/\w'.heap[b1]?=w1.heap[b1]?/\True) (λfg ae=>?_)
 have dG:=AD.drew j4 ae
 have dH:=AH.same (w1:=fg) j7 (λk hk hl=>(by obtain ⟨m,rfl⟩:=ae;rfl))
 have dI:=AB.same (w1:=fg) j8 (λk hk hl=>(by obtain ⟨m,rfl⟩:=ae;rfl))
 have f:=s.drew ae
 have j:=u.drew ae
 have bc:=j5.drew ae
 have bd:=j6.drew ae
 have be:=BC j1 (Mf ae)
 refine Ab 0 rfl (.mv rfl) ⟨(f).trans (s).symm,(j).trans (u).symm,tT⟩ ?_
 refine Ab 2 rfl (.mv rfl) ⟨(f).trans (s).symm,(j).trans (u).symm,tT⟩ ?_
 refine Ab 3 rfl (.nck rfl) ⟨(f).trans (s).symm,(j).trans (u).symm,tT⟩ ?_
 refine Ab 4 rfl (.fa I8 rfl CU dD rfl) ⟨(f).trans (s).symm,(j).trans (u).symm,tT⟩ ?_
 refine Ab 5 rfl (.fa Ay rfl Cr dD rfl) ⟨(f).trans (s).symm,(j).trans (u).symm,tT⟩ ?_
 refine BX 6 rfl (λw' hw'=>Ae (Dv _) rfl ((hw'.1).trans s) rfl) ⟨(f).trans (s).symm,(j).trans (u).symm,tT⟩ rfl ?_
 refine Ab 7 rfl (.mv rfl) ⟨(f).trans (s).symm,(j).trans (u).symm,tT⟩ ?_
 refine Ab 8 rfl (.slmK (l:=cs) (z:=.tmp 60) C2 CU rfl rfl i0 rfl oO m2) ⟨(f).trans (s).symm,(j).trans (u).symm,tT⟩ ?_
 refine BX 10 rfl (λw' hw'=>Bk rfl ((hw'.2.1).trans u) Ay rfl Al) ⟨(f).trans (s).symm,(j).trans (u).symm,tT⟩ rfl ?_
 refine Ab 13 rfl (.mv rfl) ⟨(f).trans (s).symm,(j).trans (u).symm,tT⟩ ?_
 refine Ab 14 rfl (.nck rfl) ⟨(f).trans (s).symm,(j).trans (u).symm,tT⟩ ?_
 refine Ab 15 rfl (.fa I8 rfl CU dD rfl) ⟨(f).trans (s).symm,(j).trans (u).symm,tT⟩ ?_
 refine Ab 16 rfl (.fa Ay rfl Cr dD rfl) ⟨(f).trans (s).symm,(j).trans (u).symm,tT⟩ ?_
 refine BX 17 rfl (λw' hw'=>Ae (Dv _) rfl ((hw'.1).trans s) rfl) ⟨(f).trans (s).symm,(j).trans (u).symm,tT⟩ rfl ?_
 refine Ab 18 rfl (.mv rfl) ⟨(f).trans (s).symm,(j).trans (u).symm,tT⟩ ?_
 refine Ab 19 rfl (.slmD (l:=cs) C2 CU rfl rfl i0 rfl oO) ⟨(f).trans (s).symm,(j).trans (u).symm,tT⟩ ?_
 refine FA 1 rfl 11 rfl ?_ ?_
 refine Jd C2 CU rfl (λcO c3 aA a0 a1 jH=>?_)
 have bf:=Fs dG aA a1
 have dJ:=AH.same (w1:=c3) dH (λk hk hl=>a1.other k oO)
 have dK:=AB.same (w1:=c3) dI (λk hk hl=>a1.other k oO)
 have g':=Bl aA f.lt
 have bg:=f.un a1 g'
 have h5:=Bl aA j.lt
 have bh:=j.un a1 h5
 have fh:=λb=>aA▸bc.lt b
 have c4:=AG.upd bc a1 (λb=>CR (fh b))
 have fi:=λb=>aA▸bd.lt b
 have bi:=AG.upd bd a1 (λb=>CR (fi b))
 have T:=CF aA be.size
 have c5:=BC be (DJ a1 T)
 have a0:=HH (L:=EN) (l:=[]) (a0 cO (DP _))
 have b8:cO<=c3.heap.size:=by omega
 refine A0<|⟨⟨(bg).trans (s).symm,(bh).trans (u).symm,tT⟩,?_⟩
 refine FA 9 rfl 11 rfl ?_ ?_
 refine BS C2 EZ rfl rfl rfl a0 rfl c4 (by (try simp only [A8,At,Au,Aa,Ak]);omega) (b8) rfl (λ_=>Jv (a:=0) nl) (λk9 jh fj aP aQ jI=>?_)
 have c6:=bg.below aP oO
 have c7:=bh.below aP oO
 have h6:=AH.same dJ (λk hk hl=>aQ.block k hl (λe=>by (have d:=((a0).lt k e.symm).1;omega)))
 have ha:=AB.same dK (λk hk hl=>aQ.block k hl (λe=>by (have d:=((a0).lt k e.symm).1;omega)))
 have hc:=AD.same bf (λg hg=>aQ.block g ((bf).lt g hg).2 (λhx=>DA a0 bf dD g hx.symm hg))
 have dL:=AG.same (w1:=jh) bi (λb=>aQ.block _ (bi.lt b) (λhx=>by (have d:=((a0).lt _ hx.symm).1;rw [CI] at d;have F:=(bl (qd b)).2;omega)))
 have dM:=BC c5 (Fo (aP.mono (T)))
 have fk:=C9 b8 aP.size
 refine A0<|⟨⟨(c6).trans (s).symm,(c7).trans (u).symm,tT⟩,?_⟩
 refine AX 11 rfl<|Cq (L:=EN) (ps:=_) ([y]) C2 CU Cz rfl rfl rfl rfl rfl (by rfl) rfl rfl (λka dN aB fl P jJ=>?_)
 have c8:=Fs hc aB P
 have cr:=C9 fk P.size
 have aR:=Fs fj aB P
 have hd:=AH.same (w1:=dN) h6 (λk hk hl=>P.other k oO)
 have he:=AB.same (w1:=dN) ha (λk hk hl=>P.other k oO)
 have hf:=Bl aB c6.lt
 have dO:=c6.un P hf
 have hh:=Bl aB c7.lt
 have dP:=c7.un P hh
 have fm:=λb=>aB▸dL.lt b
 have dQ:=AG.upd dL P (λb=>CR (fm b))
 have eu:=CF aB dM.size
 have hi:=BC dM (DJ P eu)
 refine A0<|⟨⟨(dO).trans (s).symm,(dP).trans (u).symm,tT⟩,?_⟩
 refine AX 12 rfl<|BS C2 EZ rfl rfl rfl aR rfl (fl).rowp (by (try simp only [A8,At,Au,Aa,Ak]);omega) (cr) rfl (λh=>nomatch h) (λkb ji aS aT aU jK=>?_)
 have dR:=dO.below aT oO
 have dS:=dP.below aT oO
 have hj:=AH.same hd (λk hk hl=>aU.block k hl (λe=>by (have d:=((aR).lt k e.symm).1;omega)))
 have hm:=AB.same he (λk hk hl=>aU.block k hl (λe=>by (have d:=((aR).lt k e.symm).1;omega)))
 have c9:=AD.same c8 (λg hg=>aU.block g ((c8).lt g hg).2 (λhx=>DA aR c8 dD g hx.symm hg))
 have hn:=AG.same (w1:=ji) dQ (λb=>aU.block _ (dQ.lt b) (λhx=>by (have d:=((aR).lt _ hx.symm).1;rw [CI] at d;have F:=(bl (qd b)).2;omega)))
 have hs:=BC hi (Fo (aT.mono (T)))
 have fn:=C9 cr aT.size
 refine A0<|⟨⟨(dR).trans (s).symm,(dS).trans (u).symm,tT⟩,?_⟩
 refine AX 20 rfl<|BS C2 EZ rfl rfl rfl aS rfl hn (by (try simp only [A8,At,Au,Aa,Ak]);omega) (fn) rfl (λ_=>Jv nl) (λkd ke ct bB bC jL=>?_)
 have aV:=dR.below bB oO
 have bj:=dS.below bB oO
 have ht:=AH.same hj (λk hk hl=>bC.block k hl (λe=>by (have d:=((aS).lt k e.symm).1;omega)))
 have hu:=AB.same hm (λk hk hl=>bC.block k hl (λe=>by (have d:=((aS).lt k e.symm).1;omega)))
 have hv:=AD.same c9 (λg hg=>bC.block g ((c9).lt g hg).2 (λhx=>DA aS c9 dD g hx.symm hg))
 have hz:=BC hs (Fo (bB.mono (T)))
 refine A0<|⟨⟨(aV).trans (s).symm,(bj).trans (u).symm,tT⟩,?_⟩
 refine Ab 21 rfl (.nck rfl) ⟨(aV).trans (s).symm,(bj).trans (u).symm,tT⟩ ?_
 refine Ab 22 rfl (.fa I8 rfl CU dD rfl) ⟨(aV).trans (s).symm,(bj).trans (u).symm,tT⟩ ?_
 refine Ab 23 rfl (.fa Ay rfl Cr dD rfl) ⟨(aV).trans (s).symm,(bj).trans (u).symm,tT⟩ ?_
 refine BH kR<|Br Cr rfl rfl (ct).one aV (by exact Nat.le_of_ble_eq_true rfl) (λcP bD a8 jM=>?_)
 have bD:B0 cP bv0 _ _:=bD
 have a8:CK bv0 _ _:=a8
 have dU:=Bx hv a8 oM
 have dV:=Bx ct a8 oM
 have hB:=AH.same (w1:=cP) ht (λk hk hl=>a8.other k (a3 k hk))
 have hC:=AB.same (w1:=cP) hu (λk hk hl=>a8.other k (a3 k hk))
 have dW:=BC hz (Bp a8)
 refine A0<|Cx (Cd rfl ?_)
 have iF:=(dW).size
 have h1:=(dU).base (C:=w.heap.size) (λg hg=>by have:=((dU).lt g hg).1;omega)
 have h2:=(dV).base (C:=w.heap.size) (λg hg=>by have:=((dV).lt g hg).1;omega)
 simp only [C4,AS,Bb] at h2
 exact PW hb bD dW h1 h2 hB hC m6 hkl cC
 refine Cq (L:=EN) (ps:=_) ([y]) C2 CU Cz rfl rfl rfl rfl rfl (by rfl) rfl rfl (λjj dX am cu D jN=>?_)
 have ca:=Fs bf am D
 have cv:=C9 b8 D.size
 have aW:=Fs a0 am D
 have hE:=AH.same (w1:=dX) dJ (λk hk hl=>D.other k oO)
 have hF:=AB.same (w1:=dX) dK (λk hk hl=>D.other k oO)
 have hG:=Bl am bg.lt
 have dY:=bg.un D hG
 have hH:=Bl am bh.lt
 have dZ:=bh.un D hH
 have fo:=λb=>am▸c4.lt b
 have hI:=AG.upd c4 D (λb=>CR (fo b))
 have fp:=λb=>am▸bi.lt b
 have d':=AG.upd bi D (λb=>CR (fp b))
 have ev:=CF am c5.size
 have hJ:=BC c5 (DJ D ev)
 refine A0<|⟨⟨(dY).trans (s).symm,(dZ).trans (u).symm,tT⟩,?_⟩
 refine AX 9 rfl<|BS C2 EZ rfl rfl rfl aW rfl hI (by (try simp only [A8,At,Au,Aa,Ak]);omega) (cv) rfl (λ_=>Jv (a:=0) nl) (λkf fq au aX av jO=>?_)
 have e0:=dY.below aX oO
 have e4:=dZ.below aX oO
 have hK:=AH.same hE (λk hk hl=>av.block k hl (λe=>by (have d:=((aW).lt k e.symm).1;omega)))
 have hL:=AB.same hF (λk hk hl=>av.block k hl (λe=>by (have d:=((aW).lt k e.symm).1;omega)))
 have cb:=AD.same ca (λg hg=>av.block g ((ca).lt g hg).2 (λhx=>DA aW ca dD g hx.symm hg))
 have e5:=AG.same (w1:=fq) d' (λb=>av.block _ (d'.lt b) (λhx=>by (have d:=((aW).lt _ hx.symm).1;rw [CI] at d;have F:=(bl (qd b)).2;omega)))
 have hM:=AG.same (w1:=fq) (cu).rowp (λb=>av.block _ ((cu).rowp.lt b) (λhx=>by have d:jj=cO:=C3 hx;omega))
 have hN:=BC hJ (Fo (aX.mono (T)))
 have cw:=C9 cv aX.size
 refine A0<|⟨⟨(e0).trans (s).symm,(e4).trans (u).symm,tT⟩,?_⟩
 refine AX 12 rfl<|BS C2 EZ rfl rfl rfl au rfl hM (by (try simp only [A8,At,Au,Aa,Ak]);omega) (cw) rfl (λh=>nomatch h) (λkg jk aY aZ a' jP=>?_)
 have e6:=e0.below aZ oO
 have e7:=e4.below aZ oO
 have hO:=AH.same hK (λk hk hl=>a'.block k hl (λe=>by (have d:=((au).lt k e.symm).1;omega)))
 have hP:=AB.same hL (λk hk hl=>a'.block k hl (λe=>by (have d:=((au).lt k e.symm).1;omega)))
 have cc:=AD.same cb (λg hg=>a'.block g ((cb).lt g hg).2 (λhx=>DA au cb dD g hx.symm hg))
 have hQ:=AG.same (w1:=jk) e5 (λb=>a'.block _ (e5.lt b) (λhx=>by (have d:=((au).lt _ hx.symm).1;rw [CI] at d;have F:=(bl (qd b)).2;omega)))
 have hT:=BC hN (Fo (aZ.mono (T)))
 have fr:=C9 cw aZ.size
 refine A0<|⟨⟨(e6).trans (s).symm,(e7).trans (u).symm,tT⟩,?_⟩
 refine AX 20 rfl<|BS C2 EZ rfl rfl rfl aY rfl hQ (by (try simp only [A8,At,Au,Aa,Ak]);omega) (fr) rfl (λ_=>Jv nl) (λkh ki cy bE bG jQ=>?_)
 have b0:=e6.below bE oO
 have bm:=e7.below bE oO
 have hU:=AH.same hO (λk hk hl=>bG.block k hl (λe=>by (have d:=((aY).lt k e.symm).1;omega)))
 have hV:=AB.same hP (λk hk hl=>bG.block k hl (λe=>by (have d:=((aY).lt k e.symm).1;omega)))
 have hW:=AD.same cc (λg hg=>bG.block g ((cc).lt g hg).2 (λhx=>DA aY cc dD g hx.symm hg))
 have hX:=BC hT (Fo (bE.mono (T)))
 refine A0<|⟨⟨(b0).trans (s).symm,(bm).trans (u).symm,tT⟩,?_⟩
 refine Ab 21 rfl (.nck rfl) ⟨(b0).trans (s).symm,(bm).trans (u).symm,tT⟩ ?_
 refine Ab 22 rfl (.fa I8 rfl CU dD rfl) ⟨(b0).trans (s).symm,(bm).trans (u).symm,tT⟩ ?_
 refine Ab 23 rfl (.fa Ay rfl Cr dD rfl) ⟨(b0).trans (s).symm,(bm).trans (u).symm,tT⟩ ?_
 refine BH kR<|Br Cr rfl rfl (cy).one b0 (by exact Nat.le_of_ble_eq_true rfl) (λcQ bH a9 jR=>?_)
 have bH:B0 cQ bv0 _ _:=bH
 have a9:CK bv0 _ _:=a9
 have e8:=Bx hW a9 oM
 have e9:=Bx cy a9 oM
 have hY:=AH.same (w1:=cQ) hU (λk hk hl=>a9.other k (a3 k hk))
 have hZ:=AB.same (w1:=cQ) hV (λk hk hl=>a9.other k (a3 k hk))
 have eb:=BC hX (Bp a9)
 refine A0<|Cx (Cd rfl ?_)
 have iF:=(eb).size
 have h1:=(e8).base (C:=w.heap.size) (λg hg=>by have:=((e8).lt g hg).1;omega)
 have h2:=(e9).base (C:=w.heap.size) (λg hg=>by have:=((e9).lt g hg).1;omega)
 simp only [C4,AS,Bb] at h2
 exact PW hb bH eb h1 h2 hY hZ m6 hkl cC
 refine Cq (L:=EN) (ps:=_) ([y]) C2 CU Cz rfl rfl rfl rfl rfl (by rfl) rfl rfl (λjl ec aC cz a2 jS=>?_)
 have h':=Fs dG aC a2
 have i1:=AH.same (w1:=ec) dH (λk hk hl=>a2.other k oO)
 have i2:=AB.same (w1:=ec) dI (λk hk hl=>a2.other k oO)
 have i3:=Bl aC f.lt
 have cd:=f.un a2 i3
 have i4:=Bl aC j.lt
 have cf:=j.un a2 i4
 have fs:=λb=>aC▸bc.lt b
 have ed:=AG.upd bc a2 (λb=>CR (fs b))
 have ft:=λb=>aC▸bd.lt b
 have ee:=AG.upd bd a2 (λb=>CR (ft b))
 have ew:=CF aC be.size
 have ef:=BC be (DJ a2 ew)
 refine A0<|⟨⟨(cd).trans (s).symm,(cf).trans (u).symm,tT⟩,?_⟩
 refine AX 1 rfl<|Jd C2 CU rfl (λcR cg an aa Q jT=>?_)
 have ci:=Fs h' an Q
 have i5:=AH.same (w1:=cg) i1 (λk hk hl=>Q.other k oO)
 have i6:=AB.same (w1:=cg) i2 (λk hk hl=>Q.other k oO)
 have i7:=Bl an cd.lt
 have eg:=cd.un Q i7
 have i8:=Bl an cf.lt
 have eh:=cf.un Q i8
 have fu:=λb=>an▸ed.lt b
 have i9:=AG.upd ed Q (λb=>CR (fu b))
 have fv:=λb=>an▸ee.lt b
 have ei:=AG.upd ee Q (λb=>CR (fv b))
 have fw:=λb=>an▸(cz).rowp.lt b
 have ej:=AG.upd (cz).rowp Q (λb=>CR (fw b))
 have aD:=CF an ef.size
 have ia:=BC ef (DJ Q aD)
 have aa:=HH (L:=EN) (l:=[]) (aa cR (DP _))
 have bN:cR<=cg.heap.size:=by omega
 refine A0<|⟨⟨(eg).trans (s).symm,(eh).trans (u).symm,tT⟩,?_⟩
 refine AX 9 rfl<|BS C2 EZ rfl rfl rfl aa rfl i9 (by (try simp only [A8,At,Au,Aa,Ak]);omega) (bN) rfl (λ_=>Jv (a:=0) nl) (λkj fx aw b2 ax jU=>?_)
 have ek:=eg.below b2 oO
 have el:=eh.below b2 oO
 have ib:=AH.same i5 (λk hk hl=>ax.block k hl (λe=>by (have d:=((aa).lt k e.symm).1;omega)))
 have ic:=AB.same i6 (λk hk hl=>ax.block k hl (λe=>by (have d:=((aa).lt k e.symm).1;omega)))
 have cj:=AD.same ci (λg hg=>ax.block g ((ci).lt g hg).2 (λhx=>DA aa ci dD g hx.symm hg))
 have em:=AG.same (w1:=fx) ei (λb=>ax.block _ (ei.lt b) (λhx=>by (have d:=((aa).lt _ hx.symm).1;rw [CI] at d;have F:=(bl (qd b)).2;omega)))
 have id:=AG.same (w1:=fx) ej (λb=>ax.block _ (ej.lt b) (λhx=>by have d:jl=cR:=C3 hx;omega))
 have ie:=BC ia (Fo (b2.mono (aD)))
 have cA:=C9 bN b2.size
 refine A0<|⟨⟨(ek).trans (s).symm,(el).trans (u).symm,tT⟩,?_⟩
 refine AX 12 rfl<|BS C2 EZ rfl rfl rfl aw rfl id (by (try simp only [A8,At,Au,Aa,Ak]);omega) (cA) rfl (λh=>nomatch h) (λkk jm b3 b4 b5 jV=>?_)
 have en:=ek.below b4 oO
 have eo:=el.below b4 oO
 have ig:=AH.same ib (λk hk hl=>b5.block k hl (λe=>by (have d:=((aw).lt k e.symm).1;omega)))
 have ih:=AB.same ic (λk hk hl=>b5.block k hl (λe=>by (have d:=((aw).lt k e.symm).1;omega)))
 have ck:=AD.same cj (λg hg=>b5.block g ((cj).lt g hg).2 (λhx=>DA aw cj dD g hx.symm hg))
 have ii:=AG.same (w1:=jm) em (λb=>b5.block _ (em.lt b) (λhx=>by (have d:=((aw).lt _ hx.symm).1;rw [CI] at d;have F:=(bl (qd b)).2;omega)))
 have ij:=BC ie (Fo (b4.mono (aD)))
 have fy:=C9 cA b4.size
 refine A0<|⟨⟨(en).trans (s).symm,(eo).trans (u).symm,tT⟩,?_⟩
 refine AX 20 rfl<|BS C2 EZ rfl rfl rfl b3 rfl ii (by (try simp only [A8,At,Au,Aa,Ak]);omega) (fy) rfl (λ_=>Jv nl) (λko kq cB bI bJ jW=>?_)
 have b6:=en.below bI oO
 have bn:=eo.below bI oO
 have ik:=AH.same ig (λk hk hl=>bJ.block k hl (λe=>by (have d:=((b3).lt k e.symm).1;omega)))
 have il:=AB.same ih (λk hk hl=>bJ.block k hl (λe=>by (have d:=((b3).lt k e.symm).1;omega)))
 have im:=AD.same ck (λg hg=>bJ.block g ((ck).lt g hg).2 (λhx=>DA b3 ck dD g hx.symm hg))
 have io:=BC ij (Fo (bI.mono (aD)))
 refine A0<|⟨⟨(b6).trans (s).symm,(bn).trans (u).symm,tT⟩,?_⟩
 refine Ab 21 rfl (.nck rfl) ⟨(b6).trans (s).symm,(bn).trans (u).symm,tT⟩ ?_
 refine Ab 22 rfl (.fa I8 rfl CU dD rfl) ⟨(b6).trans (s).symm,(bn).trans (u).symm,tT⟩ ?_
 refine Ab 23 rfl (.fa Ay rfl Cr dD rfl) ⟨(b6).trans (s).symm,(bn).trans (u).symm,tT⟩ ?_
 refine BH kR<|Br Cr rfl rfl (cB).one b6 (by exact Nat.le_of_ble_eq_true rfl) (λcS bK ab jX=>?_)
 have bK:B0 cS bv0 _ _:=bK
 have ab:CK bv0 _ _:=ab
 have ep:=Bx im ab oM
 have eq:=Bx cB ab oM
 have ip:=AH.same (w1:=cS) ik (λk hk hl=>ab.other k (a3 k hk))
 have iq:=AB.same (w1:=cS) il (λk hk hl=>ab.other k (a3 k hk))
 have er:=BC io (Bp ab)
 refine A0<|Cx (Cd rfl ?_)
 have iF:=(er).size
 have h1:=(ep).base (C:=w.heap.size) (λg hg=>by have:=((ep).lt g hg).1;omega)
 have h2:=(eq).base (C:=w.heap.size) (λg hg=>by have:=((eq).lt g hg).1;omega)
 simp only [C4,AS,Bb] at h2
 exact PW hb bK er h1 h2 ip iq m6 hkl cC
end
section
def pg1:PgV:=⟨65536,65536,none,0,0⟩
def A7l:FW Bool:=⟨1,λb=>[.bool b],dD,λ_=>rfl,λx u hu=>by simp only [B8] at hu;subst hu;rfl⟩
theorem A7e:(Tryz.prog.info? 4).map (λi=>(i.zero,i.size,i.bytes))=some (some (.bool false),1,1):=by kernel_rfl
def A63:List Value:=Hu (JG 1)++Hu (JG 1)++YY YZ
theorem A6x:Tryz.prog.built 182 [(0,.agg (Hu (JG 1)).toArray),(1,.agg (Hu (JG 1)).toArray),(2,.agg (YY YZ).toArray)]=some A63.toArray:=by kernel_rfl
theorem S4 (w:World):Cb 120 #[] w (.agg A63.toArray):=by
 refine Ar func120 rfl ntmps120 ?_
 have f:=CN w
 refine A4<|Bj zeroValue182 rfl (λm l g a b j=>?_)
 have h:=uB f g b
 refine A0<|?_
 refine A4<|A1 (.build rfl Y7) ?_
 refine A1 (.build rfl Y7) ?_
 refine A1 (.build rfl A1V) ?_
 refine A1 (.build rfl A6x) ?_
 refine Ax rfl rfl a Tp rfl rfl (λo c d k=>?_)
 have i:=BU h oO d
 refine A0<|AT (BI rfl rfl (Be c underlying182 rfl Tp)  ?_)
 exact ⟨rfl,i⟩
theorem SZ (w:World):Cb 91 #[.agg (pgV pg1).toArray] w (.tuple #[.slice none 0 0,.slice none 0 0,Af 0]):=by
 refine Ar func91 rfl ntmps91 ?_
 have V:=CN w
 refine A4<|WL.box rfl rfl (λb1 af X B C ac=>?_)
 have Y:=uB V X C
 refine Ct rfl<|Ct rfl<|A9 rfl<|A4<|A9 rfl<|A4<|Ao (S4 _) (λw3 u=>?_)
 have v:=B.bl u
 have a0:=Ci Y u
 refine Bj zeroValue182 rfl (λb6 ag x D f ad=>?_)
 have a1:=Bl x v.lt
 have a2:=v.un f a1
 have a3:=uB a0 x f
 refine Ax rfl rfl D Tp rfl rfl (λah a7 b a8=>?_)
 have E:=a2.up b
 have F:=BU a3 oO b
 refine A0<|A4<|Ao (S4 _) (λai g=>?_)
 have h:=E.bl g
 have G:=Ci F g
 refine Bj zeroValue182 rfl (λaj ae i q c a9=>?_)
 have H:=Bl i h.lt
 have J:=h.un c H
 have K:=uB G i c
 refine Ax rfl rfl q Tp rfl rfl (λa4 aa d ab=>?_)
 have j:=J.up d
 have N:=BU K oO d
 refine A0<|A4<|A9 rfl<|A4<|Xa (L:=A7l) (false) (14) underlying184 A7e rfl rfl rfl rfl oO dD rfl (λy s a=>?_)
 have P:=j.below a j.lt
 have Q:=Ci N a
 have a5:=a.size
 refine Ct rfl<|?_
 have k:=(s).rowp
 obtain ⟨b9,hb9⟩:=eX a4.heap.size
 rw [<- hb9] at k ⊢
 refine A0<|Ad<|A4<|A9 rfl<|AO<|BM (α:=Unit) (λt=>[(1,ptV b1),(5,.slice none 0 0),(8,.slice none 0 0),(9,.slice (some ⟨b9,0,none⟩) 14 14),(10,Af 0)]) (λt w'=>y=w') (λt=>0) (()) ⟨rfl,rfl,rfl,rfl,rfl,tT⟩ (rfl) (λt w1 hR=>?_)
 obtain rfl:=hR
 refine Ad<|A4<|A3 rfl<|A1 (.fa Kq rfl Kl dD rfl)<|Ah (Ae (O8 _) rfl P rfl)<|A1 (.lenS R7 rfl)<|A1 (.lss rfl rfl)<|A0<|Ai rfl (λl=>?_) (λl=>?_)
 have T:=dT l
 exact De (show (0:Int)<0 by assumption) dD
 have T:=dF l
 refine BF<|Ad<|A4<|A3 rfl<|A1 (.lenS underlying51 rfl)<|A1 (.bis (false) (.gtr rfl rfl) dD)<|A0<|Aq rfl rfl<|Ap<|Ad<|A4<|A3 rfl<|A1 (.lenS B1 rfl)<|A1 (.bis (false) (.gtr rfl rfl) dD)<|A0<|Aq rfl rfl<|Ap<|A4<|A9 rfl<|Ad<|A4<|A9 rfl<|AO<|BM (α:=Nat) (λt=>[(5,.slice none 0 0),(9,.slice (some ⟨b9,0,none⟩) 14 14),(15,.slice none 0 0),(16,Af (t:Int))]) (λt w'=>y=w'/\t<=14) (λt=>14-t) (0) ⟨rfl,rfl,rfl,rfl,tT⟩ (⟨rfl,FI _⟩) (λt w1 hR=>?_)
 obtain ⟨m,rfl⟩:=eX t
 obtain ⟨rfl,ak⟩:=hR
 have am:(List.replicate 14 false).length=14:=CT
 refine Ad<|A4<|A3 rfl<|A1 (.lss rfl rfl)<|A0<|Ai rfl (λo=>?_) (λo=>?_)
 have U:=dT o
 refine Ap<|Ad<|AO<|A4<|A3 rfl<|A3 rfl<|A1 (.ixm underlying184 RX rfl rfl (k.isp oO) (m) (rfl) oO)<|Ah (Bq (g4_ _) rfl ((k.field (m) oO 0 dD).trans rfl))<|A0<|Ai rfl (λa6=>?_) (λa6=>?_)
 exact De (show (List.replicate 14 false)[m]'oO=true by assumption) (by rw [List.getElem_replicate];decide)
 refine Ap<|Am<|A3 rfl<|A1 (.iis (((m+1:Nat):Int)) (.add rfl rfl (Ba oO)) oO)<|A9 rfl ?_
 exact ⟨m+1,⟨rfl,rfl,rfl,rfl,tT⟩,⟨rfl,oM⟩,oM⟩
 have U:=dF o
 refine BF<|A4<|A3 rfl<|A3 rfl<|Ct rfl<|Ct rfl<|A9 rfl<|AT (A5z rfl rfl rfl rfl ?_)
 exact ⟨rfl,Q⟩
theorem S0 (w:World):Calls Tryz.prog 118 #[Af 65536] w λe w'=>e=.returned (.bool true)/\w=w':=by
 refine Ar func118 rfl ntmps118<|A4<|A9 rfl<|A4<|A3 rfl<|A1 (.bis (true) (.geq rfl rfl) dD)<|A3 rfl<|Az rfl<|A3 rfl<|Az rfl<|A1 (.bis (true) (.leq rfl rfl) dD)<|A1 (.pkT rfl rfl rfl)<|A3 rfl<|Az rfl<|A3 rfl<|Az rfl<|A1 (.rem rfl rfl oO (Int.tmod_eq_emod_of_nonneg oO))<|Az rfl<|A1 (.bis (true) (.eql rfl rfl) dD)<|A1 (.pkT rfl rfl rfl)<|A9 rfl<|AW ?_
 exact ⟨rfl,rfl⟩
theorem PO (w:World):Cb 90 #[.agg (pgV pg1).toArray] w (.bool true):=by
 refine Ar func90 rfl ntmps90 ?_
 have d:=CN w
 refine A4<|WL.box rfl rfl (λl f g a b m=>?_)
 have h:=uB d g b
 refine A9 rfl<|Ad<|A4<|A1 (.fa Kq rfl Bw dD rfl)<|Ah (Ae (BZ _) rfl a rfl)<|Ao (S0 _) (λo i=>?_)
 obtain rfl:=i
 refine A1 (.not rfl)<|A3 rfl<|Az rfl<|A1 (.fa Kq rfl Bw dD rfl)<|Az rfl<|Ah (Ae (BZ _) rfl a rfl)<|Az rfl<|Ao (S0 _) (λq j=>?_)
 obtain rfl:=j
 refine Az rfl<|A1 (.not rfl)<|A1 (.pkF rfl rfl rfl)<|A3 rfl<|Az rfl<|A1 (.fa Kq rfl Kl dD rfl)<|Az rfl<|Ah (Ae (O8 _) rfl a rfl)<|Az rfl<|A1 (.lenS R7 rfl)<|Az rfl<|A1 (.bis (false) (.gtr rfl rfl) dD)<|A1 (.pkF rfl rfl rfl)<|A0<|Aq rfl rfl<|Ap<|Ad<|A4<|A9 rfl<|AO<|BM (α:=Unit) (λt=>[(1,ptV l),(3,Af 0)]) (λt w'=>f=w') (λt=>0) (()) ⟨rfl,rfl,tT⟩ (rfl) (λt s hR=>?_)
 obtain rfl:=hR
 refine Ad<|A4<|A3 rfl<|A1 (.fa Kq rfl Kl dD rfl)<|Ah (Ae (O8 _) rfl a rfl)<|A1 (.lenS R7 rfl)<|A1 (.lss rfl rfl)<|A0<|Ai rfl (λc=>?_) (λc=>?_)
 have k:=dT c
 exact De (show (0:Int)<0 by assumption) dD
 have k:=dF c
 refine BF<|A4<|A9 rfl<|AW ?_
 exact ⟨rfl,h⟩
theorem Nd (n:Int) (w:World):Calls Tryz.prog 95 #[Af n] w λe w'=>e=.returned (.agg (DN (CW (DK 2 n []))).toArray)/\AL w w':=by
 refine Ar func95 rfl ntmps95 ?_
 have f:=CN w
 refine A4<|Bj Cz rfl (λm l g a b j=>?_)
 have h:=uB f g b
 refine A0<|A4<|A3 rfl<|?_
 refine A1 (.build rfl (A6A n)) ?_
 refine Ax rfl rfl a Al rfl rfl (λo c d k=>?_)
 have i:=BU h oO d
 refine A0<|AT (BI rfl rfl (Be c Ay rfl Al)  ?_)
 exact ⟨rfl,i⟩
theorem SY (s:l8_) (w:World):Calls Tryz.prog 93 #[.string (bs s)] w λe w'=>e=.returned (.agg (DN (CW (DK 4 0 s))).toArray)/\AL w w':=by
 refine Ar func93 rfl ntmps93 ?_
 have f:=CN w
 refine A4<|Bj Cz rfl (λm l g a b j=>?_)
 have h:=uB f g b
 refine A0<|A4<|A3 rfl<|?_
 refine A1 (.build rfl (A6B s)) ?_
 refine Ax rfl rfl a Al rfl rfl (λo c d k=>?_)
 have i:=BU h oO d
 refine A0<|AT (BI rfl rfl (Be c Ay rfl Al)  ?_)
 exact ⟨rfl,i⟩
theorem P7 (n:Int) (w:World):Calls Tryz.prog 94 #[Af n] w λe w'=>e=.returned (.agg (DN (CW (DK 8 n []))).toArray)/\AL w w':=by
 refine Ar func94 rfl ntmps94 ?_
 have f:=CN w
 refine A4<|Bj Cz rfl (λm l g a b j=>?_)
 have h:=uB f g b
 refine A0<|A4<|A3 rfl<|?_
 refine A1 (.build rfl (A6y n)) ?_
 refine Ax rfl rfl a Al rfl rfl (λo c d k=>?_)
 have i:=BU h oO d
 refine A0<|AT (BI rfl rfl (Be c Ay rfl Al)  ?_)
 exact ⟨rfl,i⟩
theorem Xu (p:Option Addr) (n c:Nat) (w:World):Cb 96 #[.slice p n c] w (.agg (DN (SJ p n c)).toArray):=by
 refine Ar func96 rfl ntmps96 ?_
 have g:=CN w
 refine A4<|Bj Cz rfl (λo m h a b k=>?_)
 have i:=uB g h b
 refine A0<|A4<|A3 rfl<|?_
 refine A1 (.build rfl (A6D p n c)) ?_
 refine Ax rfl rfl a Al rfl rfl (λq d f l=>?_)
 have j:=BU i oO f
 refine A0<|AT (BI rfl rfl (Be d Ay rfl Al)  ?_)
 exact ⟨rfl,j⟩
end
section
def kPa:l8_:=[80,97,114,101,110,116]
def anC:AV:=Ic [KQ,F9] [oR 2,Ib kCa]
def anN:AV:=Ic [OT,Tn,F9] [oN 1,oA [oR 3],Ib KQ]
def anB:AV:=oA [oN 0,oN 0,oN 1,oN 1]
def anR:AV:=Ic [Kg] [Ic [] []]
def anP:AV:=Ic [So,Pe,kPa,UM,F9] [oR 4,anB,oR 2,anR,Ib Ru]
def anS:AV:=oS [] [] []
def R1:List AV:=[anC,anN,anP,anS]
def ac7:AC:=⟨7,0,[],none,0,0,none,0,0,none,0,0⟩
theorem A1W:Tryz.prog.built 27 [(0,Af 7)]=some (DN ac7).toArray:=by kernel_rfl
theorem Y9:Tryz.prog.built 150 [(0,.agg (DN ac7).toArray)]=some (DN ac7).toArray:=by kernel_rfl
theorem A0l (w:World) (S:Nat->Prop):AB w S ac7 (Ic [] []) :=
 .mk ac7 [] [] [] [] ⟨by show _<=(0:Int)/\(0:Int)<=_;decide,by show ([]:l8_).length<=_;simp,rfl,rfl,rfl,DP _,DP _,DP _,dD,dD,dD⟩ (by simp) (B3.nil _) (by simp) (AG.nil _) (by simp) (Ag.nil _) (by simp) rfl (λi h=>De h (by simp))
def ac9:AC:=⟨9,0,[],none,0,0,none,0,0,none,0,0⟩
theorem A7p:Tryz.prog.built 27 [(0,Af 9),(5,.slice none 0 0)]=some (DN ac9).toArray:=by kernel_rfl
theorem A78 (w:World) (S:Nat->Prop):AB w S ac9 anS :=
 .mk ac9 [] [] [] [] ⟨by show _<=(0:Int)/\(0:Int)<=_;decide,by show ([]:l8_).length<=_;simp,rfl,rfl,rfl,DP _,DP _,DP _,dD,dD,dD⟩ (by simp) (B3.nil _) (by simp) (AG.nil _) (by simp) (Ag.nil _) (by simp) rfl (λi h=>De h (by simp))
def A3O:List AC:=[CW (DK 2 0 []),CW (DK 2 0 []),CW (DK 2 1 []),CW (DK 2 1 [])]
def A2p (N:Nat) (v:Value) (w:World):Prop:=∃ b,v=.slice (some ⟨b,0,none⟩) 4 4/\AG EN w (some ⟨b,0,none⟩) A3O/\N<=b
theorem A2p.up  (v:Value) (w w1:World) (h:A2p N v w) (hb:AL w w1):A2p N v w1:=by
 obtain ⟨b,c,a,d⟩:=h
 exact ⟨b,c,a.below hb λe=>a.lt e,d⟩
def ZH (N:Nat) (v:Value) (w:World):Prop:=∃ b,v=.agg (DN (SJ (some ⟨b,0,none⟩) 4 4)).toArray/\AG EN w (some ⟨b,0,none⟩) A3O/\N<=b
theorem ZH.up  (v:Value) (w w1:World) (h:ZH N v w) (hb:AL w w1):ZH N v w1:=by
 obtain ⟨b,c,a,d⟩:=h
 exact ⟨b,c,a.below hb λe=>a.lt e,d⟩
def nlL:FW Unit:=⟨1,λ_=>[.slice none 0 0],dD,λ_=>rfl,λx u hu=>by simp only [B8] at hu;subst hu;rfl⟩
theorem A6n:(Tryz.prog.info? 22).map (λi=>(i.zero,i.size,i.bytes))=some (some (.slice none 0 0),1,24):=by kernel_rfl
theorem A6m:(Tryz.prog.info? 52).map (λi=>(i.zero,i.size,i.bytes))=some (some (.slice none 0 0),1,24):=by kernel_rfl
abbrev R2:AC:=CW (DK 0 0 [])
def EG (b:Nat) (ys:List AC) (w:World):Prop:=AD EN 27 b w (.slice (some ⟨b,0,none⟩) 4 4) ys
theorem EG.same {b:Nat} {ys:List AC} (h:EG b ys w) (hb:∀ k,k=b->k<w.heap.size->w1.heap[k]?=w.heap[k]?):EG b ys w1:=AD.same h λg hg=>by
 have hg:some b=some g:=hg
 cases hg
 exact hb b rfl (AD.lt h b rfl).2
theorem EG.lt {b:Nat} {ys:List AC} (h:EG b ys w):b<w.heap.size:=(AD.lt h b rfl).2
theorem PX (b:Nat) (x:AC) (ks:List (l8_)) (os:List AV) (k:l8_) (y:AC) (o:AV) (i:Nat) (S:Nat->Prop) (w:World) (hb:B0 w b (DN x).toArray 150) (hx:AB w S x (Ic ks os)) (hy:AB w S y o) (hS:∀ q,S q->q≠b) (hN:∀ q,w.heap.size<=q->S q)
  (hx0:ks=[]->x.kc=0/\x.lc=0) (hp:A2d ks k i) (hl:ks.length<=100) (hkl:k.length<=9223372036854775807) (ho:os.length=ks.length) :
  Calls Tryz.prog 92 #[ptV b,.string (bs k),.agg (DN y).toArray] w λe w'=>e=.returned (.tuple #[])/\AR w.heap.size [b] w w'/\∃ z:AC,B0 w' b (DN z).toArray 150/\AB w' S z (Ic (ks.take i++k::ks.drop i) (os.take i++o::os.drop i)) :=
 (A2X b x ks os k y o i S w hb hx hy hS hx0 hp hl hkl ho).mono λe w' ⟨h1,h2,z,h3,h4⟩=>⟨h1,Lf h2 (by simp) (DP _),z,h3,h4.mono λq h _=>h.elim (λh=>h.1) (λh=>hN q h.1)⟩
theorem GG (ks:List (l8_)) (k:l8_) (i:Nat) (h:(decide (i<=ks.length) && (List.range i).all (λj=>Op.bytesLess (ks.getD j []) k) && (decide (ks.length<=i) || !Op.bytesLess (ks.getD i []) k))=true):A2d ks k i:=by
 simp only [AE,AF,CO,BO,AN,List.mem_range] at h
 exact ⟨h.1.1,λj hj=>h.1.2 j hj,λhi=>h.2.resolve_left oO⟩
theorem Ub (p:Option Addr) (c:Nat) (w:World) (hr:AG Xz w p [pg1]) :
  Calls Tryz.prog 63 #[.slice p 1 c] w λe w'=>∃ x:Option Addr × List AC × Nat,e=.returned (.tuple #[.slice x.1 x.2.1.length x.2.2,Af 0])/\AL w w'/\AG EN w' x.1 x.2.1/\x.2.1.length<=x.2.2/\AH w' (λq=>q<w'.heap.size) x.2.1 R1:=by
 refine Ar func63 rfl ntmps63 ?_
 have kY:=CN w
 refine A4<|Ct rfl<|A9 rfl<|Ad<|A4<|A3 rfl<|A1 (.lenS Ih rfl)<|A1 (.bis (false) (.gtr rfl rfl) dD)<|A0<|Aq rfl rfl<|Ap<|Ad<|A4<|A9 rfl<|AO<|BM (α:=Nat) (λt=>[(0,.slice p 1 c),(4,Af (t:Int))]) (λt w'=>AL w w'/\AG Xz w' p [pg1]/\t<=1) (λt=>1-t) (0) ⟨rfl,rfl,tT⟩ (⟨kY,hr,FI _⟩) (λt w1 hR=>?_)
 obtain ⟨i0,rfl⟩:=eX t
 obtain ⟨q1,q2,q3⟩:=hR
 refine Ad<|A4<|A3 rfl<|A3 rfl<|A1 (.lenS Ih rfl)<|A1 (.lss rfl rfl)<|A0<|Ai rfl (λh1=>?_) (λh1=>?_)
 have kZ:=dT h1
 obtain rfl:i0=0:=by omega
 refine Ap<|Ad<|AO<|A4<|A3 rfl<|A3 rfl<|A1 (.ixm Ih PK rfl rfl (q2.isp (by (simp only [Aa,Ak];omega))) (0) (rfl) (by simp))<|Ah (Dz Kq rfl XM q2 (0) (by (simp only [Aa,Ak];omega)) rfl)<|Ao (PO _) (λw2 jn=>?_)
 have k':=DW q2 jn (λa=>q2.lt a)
 have l0:=Ci q1 jn
 refine A1 (.not rfl)<|A0<|Aq rfl rfl<|Ap<|Am<|A3 rfl<|A1 (.add rfl rfl (Ba oO))<|A9 rfl ?_
 exact ⟨1,⟨rfl,rfl,tT⟩,⟨l0,k',DP _⟩,oM⟩
 have kZ:=dF h1
 refine BF<|A4<|A9 rfl<|A4<|A9 rfl<|A4<|Xa (L:=ivL) ((0:Int)) (14) IX A17 rfl rfl rfl rfl oO dD rfl (λw5 jx bu=>?_)
 have jo:=DW q2 bu (λa=>q2.lt a)
 have jp:=Ci q1 bu
 have lF:=bu.size
 refine Ct rfl<|?_
 have d':=(jx).rowp
 obtain ⟨bU,l1⟩:=eX w1.heap.size
 rw [<- l1] at d' ⊢
 have lW:(List.replicate 14 (0:Int)).length=14:=CT
 refine A0<|Ad<|A4<|A9 rfl<|AO ?_
 obtain ⟨LB,e0⟩:=eX ((w5).heap.size)
 have bv:w.heap.size<=LB:=by rw [e0];exact (jp).size
 have bK:=(jo).lt
 have bL:=(d').lt
 rw [<- e0] at bK bL
 refine BM (α:=Nat × Value × Value) (λt=>[(0,.slice p 1 c),(5,t.2.1),(6,t.2.2),(7,.slice (some ⟨bU,0,none⟩) 14 14),(8,Af (t.1:Int))]) (λt w'=>AL w w'/\AG Xz w' p [pg1]/\AG ivL w' (some ⟨bU,0,none⟩) (List.replicate 14 0)/\AD nlL 22 LB w' t.2.1 (List.replicate t.1 ())/\AD nlL 52 LB w' t.2.2 (List.replicate t.1 ())/\t.1<=1/\LB<=w'.heap.size) (λt=>1-t.1) ((0,.slice none 0 0,.slice none 0 0)) ⟨rfl,rfl,rfl,rfl,rfl,tT⟩ (⟨jp,jo,d',AD.nil _ _ _ _,AD.nil _ _ _ _,FI _,Nat.le_of_eq e0⟩) (λt w1 hR=>?_)
 obtain ⟨⟨i0,v5,v6⟩,e1⟩:=eX t
 subst e1
 obtain ⟨q1,q2,q3,q4,q5,q6,e2⟩:=hR
 simp only at q4 q5 q6
 refine Ad<|A4<|A3 rfl<|A3 rfl<|A1 (.lenS Ih rfl)<|A1 (.lss rfl rfl)<|A0<|Ai rfl (λh8=>?_) (λh8=>?_)
 have l2:=dT h8
 obtain rfl:i0=0:=by omega
 refine Ap<|Ad<|AO<|A4<|A3 rfl<|A3 rfl<|A1 (.ixm Ih PK rfl rfl (q2.isp (by (simp only [Aa,Ak];omega))) (0) (rfl) (by simp))<|Ah (Dz Kq rfl XM q2 (0) (by (simp only [Aa,Ak];omega)) rfl)<|Ao (SZ _) (λw9 aQ=>?_)
 have fk:=C9 e2 aQ.size
 have jy:=AD.below q4 aQ
 have fl:=C9 e2 aQ.size
 have jz:=AD.below q5 aQ
 have e3:=DW q2 aQ (λa=>q2.lt a)
 have e4:=DW q3 aQ (λa=>q3.lt a)
 have e5:=Ci q1 aQ
 refine A3 rfl<|A1 (.ext rfl rfl)<|A1 (.ext rfl rfl)<|A1 (.ext rfl rfl)<|Ct rfl<|Ct rfl<|A9 rfl<|Ad<|A4<|A3 rfl<|A1 (.bis (false) (.neq rfl rfl) dD)<|A0<|Aq rfl rfl<|Ap<|A4<|A3 rfl<|A3 rfl<|Cs (ps:=_) underlying59 D8 zeroValue22 rfl rfl rfl rfl rfl pR rfl (λlX lR aF fm ad lG=>?_)
 have bM:=C9 fk ad.size
 have e6:=Fs jy aF ad
 have fn:=C9 fl ad.size
 have bw:=Fs jz aF ad
 have fo:=λa=>aF▸e3.lt a
 have jA:=AG.upd e3 ad (λa=>CR (fo a))
 have fp:=λa=>aF▸e4.lt a
 have jB:=AG.upd e4 ad (λa=>CR (fp a))
 have jC:=uB e5 aF ad
 have l3:=CF aF e5.size
 have bN:=AG.lit (V:=nlL) (l:=[()]) fm (rfl)
 refine BS underlying59 A6n rfl rfl rfl e6 rfl bN (by simp only [CT,Aa,Ak];omega) (bM) rfl (λh=>nomatch h) (λl4 lY fq aB fr lH=>?_)
 have jD:=AD.same bw (λg hg=>fr.block g ((bw).lt g hg).2 (λhx=>DA e6 bw dD g hx.symm hg))
 have fs:=C9 fn aB.size
 have e7:=DW jA aB bK
 have e8:=DW jB aB bL
 have e9:=Ej jC (aB.mono (bv))
 have ft:=C9 bM aB.size
 obtain ⟨x5,rfl⟩:=eX l4
 refine A9 rfl<|A4<|A3 rfl<|A3 rfl<|Cs (ps:=_) underlying145 sizeOf52 zeroValue52 rfl rfl rfl rfl rfl pR rfl (λlZ lS aG fu ae lI=>?_)
 have fv:=C9 ft ae.size
 have bz:=Fs fq aG ae
 have bP:=C9 fs ae.size
 have ea:=Fs jD aG ae
 have fw:=λa=>aG▸e7.lt a
 have jE:=AG.upd e7 ae (λa=>CR (fw a))
 have fx:=λa=>aG▸e8.lt a
 have jF:=AG.upd e8 ae (λa=>CR (fx a))
 have jG:=uB e9 aG ae
 have l5:=CF aG e9.size
 have eb:=AG.lit (V:=nlL) (l:=[()]) fu (rfl)
 refine BS underlying145 A6m rfl rfl rfl ea rfl eb (by simp only [CT,Aa,Ak];omega) (bP) rfl (λh=>nomatch h) (λl6 l7 fy aC fz lJ=>?_)
 have jH:=AD.same bz (λg hg=>fz.block g ((bz).lt g hg).2 (λhx=>DA ea bz dD g hx.symm hg))
 have lK:=C9 fv aC.size
 have jI:=DW jE aC bK
 have jJ:=DW jF aC bL
 have jK:=Ej jG (aC.mono (bv))
 have lL:=C9 bP aC.size
 obtain ⟨x6,rfl⟩:=eX l6
 refine A9 rfl<|A4<|A9 rfl<|AO<|BM (α:=Unit) (λt=>[(0,.slice p 1 c),(5,x5),(6,x6),(7,.slice (some ⟨bU,0,none⟩) 14 14),(8,Af 0),(10,.slice none 0 0),(12,Af 0)]) (λt w'=>l7=w') (λt=>0) (()) ⟨rfl,rfl,rfl,rfl,rfl,rfl,rfl,tT⟩ (rfl) (λt w1 hR=>?_)
 obtain rfl:=hR
 refine Ad<|A4<|A3 rfl<|A3 rfl<|A1 (.lenS IX rfl)<|A1 (.lss rfl rfl)<|A0<|Ai rfl (λec=>?_) (λec=>?_)
 have jL:=dT ec
 exact De (show (0:Int)<0 by assumption) dD
 have jL:=dF ec
 refine BF<|Am<|A3 rfl<|A1 (.add rfl rfl (Ba oO))<|A9 rfl ?_
 exact ⟨(1,x5,x6),⟨rfl,rfl,rfl,rfl,rfl,tT⟩,⟨jK,jI,jJ,jH,fy,DP _,oM⟩,oM⟩
 have l2:=dF h8
 obtain rfl:i0=1:=by omega
 obtain ⟨p5,c5,rfl,bi,-⟩:=q4.row
 obtain ⟨p6,c6,rfl,ed,-⟩:=q5.row
 refine BF<|A4<|A9 rfl<|Ad<|A4<|A9 rfl<|AO<|BM (α:=Nat) (λt=>[(0,.slice p 1 c),(5,.slice p5 1 c5),(6,.slice p6 1 c6),(7,.slice (some ⟨bU,0,none⟩) 14 14),(13,Af 3),(14,Af (t:Int))]) (λt w'=>w1=w'/\t<=14) (λt=>14-t) (0) ⟨rfl,rfl,rfl,rfl,rfl,rfl,tT⟩ (⟨rfl,FI _⟩) (λt w1 hR=>?_)
 obtain ⟨k0,rfl⟩:=eX t
 obtain ⟨rfl,l'⟩:=hR
 refine Ad<|A4<|A3 rfl<|A1 (.lss rfl rfl)<|A0<|Ai rfl (λee=>?_) (λee=>?_)
 have jM:=dT ee
 refine Ap<|Ad<|AO<|A4<|A3 rfl<|A3 rfl<|A1 (.ixm IX Bw rfl rfl (q3.isp oO) (k0) (rfl) oO)<|Ah (Bq (BZ _) rfl ((q3.field (k0) oO 0 dD).trans rfl))<|A1 (.bis (false) (.eql rfl rfl) (by exact AJ (by show ¬ (List.replicate 14 (0:Int))[k0]'oO=1;rw [List.getElem_replicate];decide)))<|A0<|Aq rfl rfl<|Ap<|Am<|A3 rfl<|A1 (.iis (((k0+1:Nat):Int)) (.add rfl rfl (Ba oO)) oO)<|A9 rfl ?_
 exact ⟨k0+1,⟨rfl,rfl,rfl,rfl,rfl,rfl,tT⟩,⟨rfl,oM⟩,oM⟩
 have jM:=dF ee
 refine BF<|A4<|A9 rfl<|Ad<|A4<|A3 rfl<|A1 (.lenS Ih rfl)<|A1 (.bis (false) (.gtr rfl rfl) dD)<|A0<|Aq rfl rfl<|Ap<|A4<|A3 rfl<|A9 rfl<|A4<|A3 rfl<|A3 rfl<|A1 (.add rfl rfl (Ba oO))<|A9 rfl<|A4<|A3 rfl<|A3 rfl<|A1 (.lenS Ih rfl)<|A1 (.mul rfl rfl (Ba oO))<|A1 (.add rfl rfl (Ba oO))<|A1 (.sub rfl rfl (Ba oO))<|Xa (L:=EN) (R2) (4) C2 EZ rfl rfl rfl rfl oO dD rfl (λl8 fA aq=>?_)
 have ef:=DW q2 aq (λa=>q2.lt a)
 have eg:=DW q3 aq (λa=>q3.lt a)
 have eh:=DW bi aq (λa=>bi.lt a)
 have ei:=DW ed aq (λa=>ed.lt a)
 have ej:=Ci q1 aq
 have l9:=aq.size
 refine Ct rfl<|?_
 obtain ⟨bO,jq⟩:=eX w1.heap.size
 have jr:EG bO [R2,R2,R2,R2] l8:=by rw [jq];exact fA
 have lT:=jr.lt
 have lU:LB<=bO:=by omega
 have aL:0 < [pg1].length->(pA p).block<bO:=λa=>by have:=bK a;omega
 have ek:0<(List.replicate 14 (0:Int)).length->(pA (some ⟨bU,0,none⟩)).block<bO:=λa=>by have:=bL a;omega
 have h5O:0<(List.replicate 1 ()).length->(pA p5).block<bO:=λa=>by have:=bi.lt a;omega
 have h6O:0<(List.replicate 1 ()).length->(pA p6).block<bO:=λa=>by have:=ed.lt a;omega
 rw [<- jq] at ⊢
 refine A0<|?_
 refine A4<|A1 (.build rfl A1W) ?_
 refine A1 (.build rfl Y9) ?_
 refine WL.box rfl rfl (λbQ jN aH fB ar lM=>?_)
 have jO:=EG.same (w1:=jN) jr (λk hk hl=>ar.other k oO)
 have fC:=λa=>aH▸ef.lt a
 have el:=AG.upd ef ar (λa=>CR (fC a))
 have fD:=λa=>aH▸eg.lt a
 have em:=AG.upd eg ar (λa=>CR (fD a))
 have fE:=λa=>aH▸eh.lt a
 have en:=AG.upd eh ar (λa=>CR (fE a))
 have fF:=λa=>aH▸ei.lt a
 have eo:=AG.upd ei ar (λa=>CR (fF a))
 have jP:=uB ej aH ar
 have la:=CF aH ej.size
 refine A9 rfl<|A4<|A3 rfl<|Ao (SY kCa _) (λlb ax=>?_)
 have ep:=EG.same (w1:=lb) jO (λk hk hl=>ax.block k hl)
 have eq:=fB.bl ax
 have er:=DW el ax (λa=>el.lt a)
 have es:=DW em ax (λa=>em.lt a)
 have et:=DW en ax (λa=>en.lt a)
 have eu:=DW eo ax (λa=>eo.lt a)
 have ev:=Ci jP ax
 refine Cm BK rfl rfl ((PX bQ ac7 [] [] F9 _ (Ib kCa) 0 (λq=>q≠bQ/\q≠bO) _ eq (A0l _ _) (EC _ _ 4 0 kCa dD dD) (λq h=>by omega) (λq h=>by have:=(eq).lt;have:=(ep).lt;first | omega | (refine ⟨?_,?_⟩ <;> omega)) (λ_=>⟨rfl,rfl⟩) (GG _ _ _ dD) dD dD rfl)) (λlc ay=>?_)
 have jQ:=EG.same (w1:=lc) ep (λk hk hl=>ay.1.block k hl (by (simp only [A6,A5,As,not_or,Ac];omega)))
 have ew:=NP er ay.1 (λa=>⟨er.lt a,by have:=aL a;simp only [A6,A5,As];omega⟩)
 have ex:=NP es ay.1 (λa=>⟨es.lt a,by have:=ek a;simp only [A6,A5,As];omega⟩)
 have ey:=NP et ay.1 (λa=>⟨et.lt a,by have:=h5O a;simp only [A6,A5,As];omega⟩)
 have ez:=NP eu ay.1 (λa=>⟨eu.lt a,by have:=h6O a;simp only [A6,A5,As];omega⟩)
 have jR:=Ej ev (AR.below ay.1 ev.size (by simp <;> omega))
 obtain ⟨z1,aM,jS⟩:=ay.2
 refine A0<|A4<|A3 rfl<|Ao (P7 2 _) (λjs am=>?_)
 have eA:=EG.same (w1:=js) jQ (λk hk hl=>am.block k hl)
 have jT:=AB.same (w1:=js) jS (λk hk hl=>am.block k hl)
 have eB:=aM.bl am
 have eC:=DW ew am (λa=>ew.lt a)
 have eD:=DW ex am (λa=>ex.lt a)
 have eF:=DW ey am (λa=>ey.lt a)
 have eG:=DW ez am (λa=>ez.lt a)
 have eH:=Ci jR am
 refine Cm BK rfl rfl ((PX bQ z1 [F9] [Ib kCa] KQ _ (oR 2) 0 (λq=>q≠bQ/\q≠bO) _ eB jT (EC _ _ 8 2 [] dD dD) (λq h=>by omega) (λq h=>by have:=(eB).lt;have:=(eA).lt;first | omega | (refine ⟨?_,?_⟩ <;> omega)) (λh=>nomatch h) (GG _ _ _ dD) dD dD rfl)) (λjt az=>?_)
 have jU:=EG.same (w1:=jt) eA (λk hk hl=>az.1.block k hl (by (simp only [A6,A5,As,not_or,Ac];omega)))
 have jV:=NP eC az.1 (λa=>⟨eC.lt a,by have:=aL a;simp only [A6,A5,As];omega⟩)
 have fG:=NP eD az.1 (λa=>⟨eD.lt a,by have:=ek a;simp only [A6,A5,As];omega⟩)
 have fH:=NP eF az.1 (λa=>⟨eF.lt a,by have:=h5O a;simp only [A6,A5,As];omega⟩)
 have fI:=NP eG az.1 (λa=>⟨eG.lt a,by have:=h6O a;simp only [A6,A5,As];omega⟩)
 have fJ:=Ej eH (AR.below az.1 eH.size (by simp <;> omega))
 obtain ⟨z2,lf,jW⟩:=az.2
 refine A0<|Ad ?_
 have ju:AD EN 27 bO jt (.slice (some ⟨bO,0,none⟩) 4 4) [R2,R2,R2,R2]:=jU
 refine Am<|A3 rfl<|A3 rfl<|A1 (.nck rfl)<|A1 (.fa I8 rfl CU dD rfl)<|Ah (Bk rfl lf Ay rfl Al)<|A1 (.ixm C2 CU rfl rfl rfl 0 rfl dD)<|Kb (L:=EN) (z2) (0) ju (by simp) Al rfl rfl rfl (λeI eJ b4 ab eK=>?_)
 have kM:=(ju).lt eJ (by rw [b4];rfl)
 have eL:bO=eJ:=BJ Addr.block (C3 b4)
 have fK:=AB.same (w1:=eI) jW (λk hk hl=>ab.other k oM)
 have bR:=AG.upd jV ab (λa=>by have:=aL a;omega)
 have bS:=AG.upd fG ab (λa=>by have:=ek a;omega)
 have bT:=AG.upd fH ab (λa=>by have:=h5O a;omega)
 have bV:=AG.upd fI ab (λa=>by have:=h6O a;omega)
 have fL:=BU fJ oO ab
 have jX:EG bO [z2,R2,R2,R2] eI:=eK
 refine A0<|A4<|Bf BK rfl rfl ((Ou _)) (λnb aR af=>?_)
 have fM:=AB.same (w1:=aR) fK (λk hk hl=>af.2.2.block k hl)
 have bW:=EG.same (w1:=aR) jX (λk hk hl=>af.2.2.block k hl)
 have bY:=DW bR af.2.2 (λa=>bR.lt a)
 have bZ:=DW bS af.2.2 (λa=>bS.lt a)
 have b':=DW bT af.2.2 (λa=>bT.lt a)
 have c0:=DW bV af.2.2 (λa=>bV.lt a)
 have c2:=Ci fL af.2.2
 refine A9 rfl<|Ad<|A4<|A9 rfl<|AO<|BM (α:=Nat) (λt=>[(0,.slice p 1 c),(5,.slice p5 1 c5),(6,.slice p6 1 c6),(7,.slice (some ⟨bU,0,none⟩) 14 14),(15,Af 0),(16,Af 3),(17,Af 3),(18,.slice (some ⟨bO,0,none⟩) 4 4),(21,Af (t:Int))]) (λt w'=>aR=w'/\t<=14) (λt=>14-t) (0) ⟨rfl,rfl,rfl,rfl,rfl,rfl,rfl,rfl,rfl,tT⟩ (⟨rfl,FI _⟩) (λt w1 hR=>?_)
 obtain ⟨m0,rfl⟩:=eX t
 obtain ⟨rfl,m1⟩:=hR
 refine Ad<|A4<|A3 rfl<|A1 (.lss rfl rfl)<|A0<|Ai rfl (λbA=>?_) (λbA=>?_)
 have fN:=dT bA
 refine Ap<|Ad<|AO<|Ad<|A4<|A3 rfl<|A3 rfl<|A1 (.ixm IX Bw rfl rfl (bZ.isp oO) (m0) (rfl) oO)<|Ah (Bq (BZ _) rfl ((bZ.field (m0) oO 0 dD).trans rfl))<|A1 (.bis (true) (.eql rfl rfl) (by exact AP (by show (List.replicate 14 (0:Int))[m0]'oO=0;rw [List.getElem_replicate])))<|A0<|BQ rfl rfl<|BF<|Am<|A3 rfl<|A1 (.iis (((m0+1:Nat):Int)) (.add rfl rfl (Ba oO)) oO)<|A9 rfl ?_
 exact ⟨m0+1,⟨rfl,rfl,rfl,rfl,rfl,rfl,rfl,rfl,rfl,tT⟩,⟨rfl,oM⟩,oM⟩
 have fN:=dF bA
 refine BF<|Ad ?_
 have lN:=(bW).lt
 have jY:AB aR (λq=>q<aR.heap.size/\q≠bO) z2 anC:=(fM).mono (λq h hl=>⟨hl,h.2⟩)
 refine Am<|A1 (.build rfl A1W) ?_
 refine A1 (.build rfl Y9) ?_
 refine WL.box rfl rfl (λb c3 aD eM ac lg=>?_)
 have fO:=AB.same (w1:=c3) jY (λk hk hl=>ac.other k oO)
 have fP:=EG.same (w1:=c3) bW (λk hk hl=>ac.other k oO)
 have eN:=λa=>aD▸bY.lt a
 have c4:=AG.upd bY ac (λa=>CR (eN a))
 have eO:=λa=>aD▸b'.lt a
 have c7:=AG.upd b' ac (λa=>CR (eO a))
 have eP:=λa=>aD▸c0.lt a
 have c8:=AG.upd c0 ac (λa=>CR (eP a))
 have fQ:=uB c2 aD ac
 have kN:=CF aD c2.size
 refine A9 rfl<|A4<|A3 rfl<|Ao (SY KQ _) (λeQ ag=>?_)
 have fR:=AB.same (w1:=eQ) fO (λk hk hl=>ag.block k hl)
 have c9:=EG.same (w1:=eQ) fP (λk hk hl=>ag.block k hl)
 have ca:=eM.bl ag
 have cb:=DW c4 ag (λa=>c4.lt a)
 have cc:=DW c7 ag (λa=>c7.lt a)
 have cd:=DW c8 ag (λa=>c8.lt a)
 have cf:=Ci fQ ag
 refine Cm BK rfl rfl ((PX b ac7 [] [] F9 _ (Ib KQ) 0 (λq=>q≠b/\q≠bO) _ ca (A0l _ _) (EC _ _ 4 0 KQ dD dD) (λq h=>by omega) (λq h=>by have:=(ca).lt;have:=(c9).lt;first | omega | (refine ⟨?_,?_⟩ <;> omega)) (λ_=>⟨rfl,rfl⟩) (GG _ _ _ dD) dD dD rfl)) (λeR ah=>?_)
 have fS:=AB.same (w1:=eR) fR (λk hk hl=>ah.1.block k hl (by (simp only [A6,A5,As,not_or,Ac];omega)))
 have fT:=EG.same (w1:=eR) c9 (λk hk hl=>ah.1.block k hl (by (simp only [A6,A5,As,not_or,Ac];omega)))
 have cg:=NP cb ah.1 (λa=>⟨cb.lt a,by have:=aL a;simp only [A6,A5,As];omega⟩)
 have ci:=NP cc ah.1 (λa=>⟨cc.lt a,by have:=h5O a;simp only [A6,A5,As];omega⟩)
 have cj:=NP cd ah.1 (λa=>⟨cd.lt a,by have:=h6O a;simp only [A6,A5,As];omega⟩)
 have fU:=Ej cf (AR.below ah.1 cf.size (by simp <;> omega))
 obtain ⟨z3,lh,jZ⟩:=ah.2
 refine A0<|A4<|A3 rfl<|A3 rfl<|A1 (.lenS Ih rfl)<|Ao (Nd 1 _) (λbB a8=>?_)
 have fV:=AB.same (w1:=bB) fS (λk hk hl=>a8.block k hl)
 have ck:=EG.same (w1:=bB) fT (λk hk hl=>a8.block k hl)
 have fW:=AB.same (w1:=bB) jZ (λk hk hl=>a8.block k hl)
 have cl:=lh.bl a8
 have cm:=DW cg a8 (λa=>cg.lt a)
 have cn:=DW ci a8 (λa=>ci.lt a)
 have co:=DW cj a8 (λa=>cj.lt a)
 have cq:=Ci fU a8
 refine Cm BK rfl rfl ((PX b z3 [F9] [Ib KQ] OT _ (oN 1) 0 (λq=>q≠b/\q≠bO) _ cl fW (EC _ _ 2 1 [] dD dD) (λq h=>by omega) (λq h=>by have:=(cl).lt;have:=(ck).lt;first | omega | (refine ⟨?_,?_⟩ <;> omega)) (λh=>nomatch h) (GG _ _ _ dD) dD dD rfl)) (λaI ai=>?_)
 have fX:=AB.same (w1:=aI) fV (λk hk hl=>ai.1.block k hl (by (simp only [A6,A5,As,not_or,Ac];omega)))
 have fY:=EG.same (w1:=aI) ck (λk hk hl=>ai.1.block k hl (by (simp only [A6,A5,As,not_or,Ac];omega)))
 have cr:=NP cm ai.1 (λa=>⟨cm.lt a,by have:=aL a;simp only [A6,A5,As];omega⟩)
 have ct:=NP cn ai.1 (λa=>⟨cn.lt a,by have:=h5O a;simp only [A6,A5,As];omega⟩)
 have cu:=NP co ai.1 (λa=>⟨co.lt a,by have:=h6O a;simp only [A6,A5,As];omega⟩)
 have fZ:=Ej cq (AR.below ai.1 cq.size (by simp <;> omega))
 obtain ⟨z4,li,j'⟩:=ai.2
 refine A0<|Ad ?_
 have k1:AB aI (λq=>q<aI.heap.size/\q≠bO/\q≠b) z4 (Ic [OT,F9] [oN 1,Ib KQ]):=(j').mono (λq h hl=>⟨hl,h.2,h.1⟩)
 have f':AB aI (λq=>q<aI.heap.size/\q≠bO/\q≠b) z2 anC:=(fX).mono (λq h hl=>⟨hl,h.2,oO⟩)
 refine Am<|Ao (Xu none 0 0 _) (λbC a3=>?_)
 have g0:=AB.same (w1:=bC) f' (λk hk hl=>a3.block k hl)
 have g1:=EG.same (w1:=bC) fY (λk hk hl=>a3.block k hl)
 have g2:=AB.same (w1:=bC) k1 (λk hk hl=>a3.block k hl)
 have cv:=li.bl a3
 have cw:=DW cr a3 (λa=>cr.lt a)
 have cy:=DW ct a3 (λa=>ct.lt a)
 have cz:=DW cu a3 (λa=>cu.lt a)
 have cA:=Ci fZ a3
 have lO:=(a3).size
 refine Bj Cz rfl (λd b9 au eS U lj=>?_)
 have g3:=AB.same (w1:=b9) g0 (λk hk hl=>U.other k oO)
 have g4:=EG.same (w1:=b9) g1 (λk hk hl=>U.other k oO)
 have g5:=AB.same (w1:=b9) g2 (λk hk hl=>U.other k oO)
 have g6:=Bl au cv.lt
 have g7:=cv.un U g6
 have aS:=λa=>au▸cw.lt a
 have g8:=AG.upd cw U (λa=>CR (aS a))
 have aT:=λa=>au▸cy.lt a
 have g9:=AG.upd cy U (λa=>CR (aT a))
 have aU:=λa=>au▸cz.lt a
 have ga:=AG.upd cz U (λa=>CR (aU a))
 have gb:=uB cA au U
 have kO:=CF au cA.size
 refine Ax rfl rfl eS Al rfl rfl (λan eT X lk=>?_)
 have gc:=AB.same (w1:=an) g3 (λk hk hl=>X.other k oM)
 have ge:=EG.same (w1:=an) g4 (λk hk hl=>X.other k oM)
 have gf:=AB.same (w1:=an) g5 (λk hk hl=>X.other k oM)
 have gg:=g7.up X
 have gh:=AG.upd g8 X (λa=>CR (aS a))
 have gi:=AG.upd g9 X (λa=>CR (aT a))
 have gj:=AG.upd ga X (λa=>CR (aU a))
 have gk:=BU gb oO X
 refine A0<|Ad<|A4<|A9 rfl<|AO<|BM (α:=Unit) (λt=>[(0,.slice p 1 c),(5,.slice p5 1 c5),(6,.slice p6 1 c6),(15,Af 0),(16,Af 3),(17,Af 3),(18,.slice (some ⟨bO,0,none⟩) 4 4),(23,ptV b),(24,ptV d),(25,Af 0)]) (λt w'=>an=w') (λt=>0) (()) ⟨rfl,rfl,rfl,rfl,rfl,rfl,rfl,rfl,rfl,rfl,tT⟩ (rfl) (λt w1 hR=>?_)
 obtain rfl:=hR
 refine Ad<|A4<|A3 rfl<|A3 rfl<|A1 (.lss rfl rfl)<|A0<|Ai rfl (λbD=>?_) (λbD=>?_)
 have gl:=dT bD
 exact De (show (0:Int)<0 by assumption) dD
 have gl:=dF bD
 refine BF<|Ad<|A4<|A9 rfl<|AO ?_
 have L0:=gk
 have L1:=ge
 have L2:=gc
 have L3:=gf
 have L4:=gg
 have L5:=eT
 have L6:=gh
 have L7:=gi
 have L8:=gj
 refine BM (α:=Nat) (λt=>[(0,.slice p 1 c),(5,.slice p5 1 c5),(6,.slice p6 1 c6),(15,Af 0),(16,Af 3),(17,Af 3),(18,.slice (some ⟨bO,0,none⟩) 4 4),(23,ptV b),(24,ptV d),(29,Af (t:Int))]) (λt w'=>(t=0/\an=w')\/(t=1/\∃ zk zp zs:AC,AL w w'/\EG bO [z2,R2,zp,zs] w'/\AB w' (λq=>q≠bO/\q≠b) z2 anC/\AB w' (λq=>q≠bO/\q≠b) zp anP/\AB w' (λq=>q≠bO/\q≠b) zs anS/\AB w' (λq=>q≠bO/\q≠b) z4 (Ic [OT,F9] [oN 1,Ib KQ])/\AB w' (λq=>q≠bO/\q≠b) zk (oA [oR 3])/\B0 w' b (DN z4).toArray 150/\B0 w' d (DN zk).toArray 27)) (λt=>1-t) (0) ⟨rfl,rfl,rfl,rfl,rfl,rfl,rfl,rfl,rfl,rfl,tT⟩ (.inl ⟨rfl,rfl⟩) (λt w1 hR=>?_)
 obtain ⟨n0,e1⟩:=eX t
 subst e1
 refine Ad<|A4<|A3 rfl<|A3 rfl<|A1 (.lenS Ih rfl)<|A1 (.lss rfl rfl)<|A0<|Ai rfl (λbE=>?_) (λbE=>?_)
 have gm:=dT bE
 obtain ⟨rfl,rfl⟩:=hR.resolve_right (λh=>by have:=h.1;simp_all)
 refine Ap<|Ad<|AO<|A4<|A9 rfl<|Ad<|A4<|A3 rfl<|A1 (.bis (false) (.gtr rfl rfl) dD)<|A0<|Aq rfl rfl ?_
 have k2:=AD.nil EN 27 LB an
 have go:LB<=an.heap.size:=by have:=(L1).lt;omega
 refine TI 10 rfl rfl BR kR (λw'=>w'.heap[d]?=an.heap[d]?/\True) (λbG H=>?_)
 have eU:=Fn go H
 have gp:=AD.drew k2 H
 have gq:=AB.same (w1:=bG) L2 (λk hk hl=>(by obtain ⟨m,rfl⟩:=H;rfl))
 have gr:=EG.same (w1:=bG) L1 (λk hk hl=>(by obtain ⟨m,rfl⟩:=H;rfl))
 have gs:=AB.same (w1:=bG) L3 (λk hk hl=>(by obtain ⟨m,rfl⟩:=H;rfl))
 have gt:=L4.drew H
 have cB:=L5.drew H
 have cC:=L6.drew H
 have cD:=L7.drew H
 have cE:=L8.drew H
 have gv:=C6.below L0 H
 have aM:=Bs (cB.trans L5.symm) Bi
 refine Ab 0 rfl (.fa Ay rfl Cr dD rfl) aM ?_
 refine BX 1 rfl (λw' hw'=>Ae (Dv _) rfl ((hw'.1).trans L5) rfl) aM rfl ?_
 refine Ab 2 rfl (.mv rfl) aM ?_
 refine Ab 3 rfl (.mv rfl) aM ?_
 refine Ab 4 rfl (.iis (0) (.mul rfl rfl (Ba oO)) (by rfl)) aM ?_
 refine Ab 5 rfl (.iis (3) (.add rfl rfl (Ba oO)) (by rfl)) aM ?_
 refine AX 6 rfl<|Ao (P7 3 _) (λbH J=>?_)
 have eV:=C9 eU J.size
 have gw:=AD.below gp J
 have gx:=AB.same (w1:=bH) gq (λk hk hl=>J.block k hl)
 have gz:=EG.same (w1:=bH) gr (λk hk hl=>J.block k hl)
 have gA:=AB.same (w1:=bH) gs (λk hk hl=>J.block k hl)
 have cF:=gt.bl J
 have ba:=cB.bl J
 have cG:=DW cC J (λa=>cC.lt a)
 have cH:=DW cD J (λa=>cD.lt a)
 have cI:=DW cE J (λa=>cE.lt a)
 have cJ:=Ci gv J
 refine A0<|⟨⟨(ba).trans (L5).symm,tT⟩,?_⟩
 refine AX 7 rfl<|Cq (L:=EN) (ps:=_) ([CW (DK 8 3 [])]) C2 CU Cz rfl rfl rfl rfl rfl (by rfl) rfl rfl (λk3 aN a9 eW s ll=>?_)
 have bj:=C9 eV s.size
 have gB:=Fs gw a9 s
 have gC:=AB.same (w1:=aN) gx (λk hk hl=>s.other k oO)
 have cK:=EG.same (w1:=aN) gz (λk hk hl=>s.other k oO)
 have gD:=AB.same (w1:=aN) gA (λk hk hl=>s.other k oO)
 have gE:=Bl a9 cF.lt
 have cL:=cF.un s gE
 have gF:=Bl a9 ba.lt
 have bb:=ba.un s gF
 have eY:=λa=>a9▸cG.lt a
 have cM:=AG.upd cG s (λa=>CR (eY a))
 have eZ:=λa=>a9▸cH.lt a
 have cN:=AG.upd cH s (λa=>CR (eZ a))
 have e':=λa=>a9▸cI.lt a
 have cO:=AG.upd cI s (λa=>CR (e' a))
 have gG:=uB cJ a9 s
 have kP:=CF a9 cJ.size
 have kQ:k3<=aN.heap.size:=by omega
 have G1:=(cL).lt
 have G2:=(bb).lt
 have G3:=(cK).lt
 refine A0<|⟨⟨(bb).trans (L5).symm,tT⟩,?_⟩
 refine AX 8 rfl<|BS C2 EZ rfl rfl rfl gB rfl (eW).rowp oE (bj) rfl (λh=>nomatch h) (λk4 bI bk bm Y f0=>?_)
 have gH:=cL.grown Y (λe=>by cases e)
 have bc:=bb.grown Y (λe=>by cases e)
 have gI:=AB.same gC (λk hk hl=>Y.block k hl (λe=>by cases e))
 have gJ:=EG.same cK (λk hk hl=>Y.block k hl (λe=>by cases e))
 have gK:=AB.same gD (λk hk hl=>Y.block k hl (λe=>by cases e))
 have gL:=AG.same (w1:=bI) cM (λa=>Y.block _ (cM.lt a) (λhx=>by cases hx))
 have gM:=AG.same (w1:=bI) cN (λa=>Y.block _ (cN.lt a) (λhx=>by cases hx))
 have gN:=AG.same (w1:=bI) cO (λa=>Y.block _ (cO.lt a) (λhx=>by cases hx))
 have gO:=Ej gG (bm.mono (bv))
 have f1:=C9 bj bm.size
 have f2:∀ g,(k4).ownBlock=some g->bO<g/\b<g/\d<g:=λg hg=>by
  rcases f0 g hg with h | h;cases h
  omega
 refine A0<|⟨⟨(bc).trans (L5).symm,tT⟩,?_⟩
 refine Ab 9 rfl (.fa Ay rfl Cr dD rfl) ⟨(bc).trans (L5).symm,tT⟩ ?_
 refine BH kR<|Br Cr rfl rfl (bk).one bc (by exact Nat.le_of_ble_eq_true rfl) (λa1 aV i lm=>?_)
 have aV:B0 a1 d _ _:=aV
 have i:CK d _ _:=i
 have ln:=C9 f1 i.size
 have cP:=GI bk i ((λg hg e=>by have:=f2 g hg;omega))
 have gP:=AB.same (w1:=a1) gI (λk hk hl=>i.other k oM)
 have gQ:=EG.same (w1:=a1) gJ (λk hk hl=>i.other k oM)
 have gR:=AB.same (w1:=a1) gK (λk hk hl=>i.other k oM)
 have cQ:=gH.up i
 have cR:=AG.upd gL i (λa=>CR (aS a))
 have cS:=AG.upd gM i (λa=>CR (aT a))
 have cT:=AG.upd gN i (λa=>CR (aU a))
 have cU:=BU gO oO i
 refine A0<|Ad ?_
 have m2:(List.replicate 1 ()).length=1:=rfl
 obtain ⟨kp,kc,lo,-⟩:=(cP).row
 subst lo
 obtain ⟨-,lp,lq,lr,ls⟩:=(cP).full
 have m3:=f2 _ (ls (by simp))
 have lu:AB a1 (λq=>q≠bO/\q≠b/\q≠d) (SJ kp 1 kc) (oA [oR 3]):=P6 lr (AH.cons (EC _ _ 8 3 [] dD dD) (AH.nil _ _)) lp lq (λ_=>by show (pA kp).block≠_/\(pA kp).block≠_/\(pA kp).block≠_;omega)
 have f3:B0 a1 d (DN (SJ kp 1 kc)).toArray 27:=aV
 have gS:AB a1 (λq=>q<a1.heap.size/\q≠bO/\q≠b/\q≠d) (SJ kp 1 kc) (oA [oR 3]):=lu.mono (λq h hl=>⟨hl,h⟩)
 have gT:AB a1 (λq=>q<a1.heap.size/\q≠bO/\q≠b) z4 (Ic [OT,F9] [oN 1,Ib KQ]):=(gR).mono (λq h hl=>⟨hl,h.2⟩)
 have gU:AB a1 (λq=>q<a1.heap.size/\q≠bO/\q≠b) z2 anC:=(gP).mono (λq h hl=>⟨hl,h.2⟩)
 refine Am<|A1 (.build rfl A1W) ?_
 refine Bj Cz rfl (λk5 aO aj f4 B lv=>?_)
 have gV:=AB.same (w1:=aO) gU (λk hk hl=>B.other k oO)
 have gW:=EG.same (w1:=aO) gQ (λk hk hl=>B.other k oO)
 have gX:=AB.same (w1:=aO) gT (λk hk hl=>B.other k oO)
 have gY:=AB.same (w1:=aO) gS (λk hk hl=>B.other k oO)
 have gZ:=Bl aj cQ.lt
 have g':=cQ.un B gZ
 have h2:=Bl aj f3.lt
 have h3:=f3.un B h2
 have bn:=λa=>aj▸cR.lt a
 have h4:=AG.upd cR B (λa=>CR (bn a))
 have bo:=λa=>aj▸cS.lt a
 have h6:=AG.upd cS B (λa=>CR (bo a))
 have bp:=λa=>aj▸cT.lt a
 have h7:=AG.upd cT B (λa=>CR (bp a))
 have h9:=uB cU aj B
 have kS:=CF aj cU.size
 refine Ax rfl rfl f4 Al rfl rfl (λa6 bq C lw=>?_)
 have ha:=AB.same (w1:=a6) gV (λk hk hl=>C.other k oM)
 have cV:=EG.same (w1:=a6) gW (λk hk hl=>C.other k oM)
 have hb:=AB.same (w1:=a6) gX (λk hk hl=>C.other k oM)
 have hc:=AB.same (w1:=a6) gY (λk hk hl=>C.other k oM)
 have bd:=g'.up C
 have be:=h3.up C
 have cW:=AG.upd h4 C (λa=>CR (bn a))
 have cX:=AG.upd h6 C (λa=>CR (bo a))
 have cY:=AG.upd h7 C (λa=>CR (bp a))
 have cZ:=BU h9 oO C
 refine A0<|Ad<|A4<|A9 rfl<|AO<|BM (α:=Unit) (λt=>[(0,.slice p 1 c),(5,.slice p5 1 c5),(6,.slice p6 1 c6),(15,Af 0),(16,Af 3),(17,Af 3),(18,.slice (some ⟨bO,0,none⟩) 4 4),(23,ptV b),(24,ptV d),(29,Af ((0:Nat):Int)),(30,Af 2),(31,ptV k5),(32,Af 0)]) (λt w'=>a6=w') (λt=>0) (()) ⟨rfl,rfl,rfl,rfl,rfl,rfl,rfl,rfl,rfl,rfl,rfl,rfl,rfl,tT⟩ (rfl) (λt w1 hR=>?_)
 obtain rfl:=hR
 refine Ad<|A4<|A3 rfl<|A3 rfl<|A3 rfl<|A1 (.ixm underlying145 sizeOf52 rfl rfl (cY.isp oO) (0) (rfl) (by simp))<|Ah (Bq (isAgg52 _) rfl ((cY.field (0) oO 0 dD).trans rfl))<|A1 (.lenS IX rfl)<|A1 (.lss rfl rfl)<|A0<|Ai rfl (λbJ=>?_) (λbJ=>?_)
 have he:=dT bJ
 exact De (show (0:Int)<0 by assumption) dD
 have he:=dF bJ
 refine BF<|Ad ?_
 have hf:AB a6 (λq=>q<a6.heap.size/\q≠bO/\q≠b/\q≠d) (SJ kp 1 kc) (oA [oR 3]):=(hc).mono (λq h hl=>⟨hl,h.2⟩)
 have hh:AB a6 (λq=>q<a6.heap.size/\q≠bO/\q≠b) z4 (Ic [OT,F9] [oN 1,Ib KQ]):=(hb).mono (λq h hl=>⟨hl,h.2⟩)
 have hi:AB a6 (λq=>q<a6.heap.size/\q≠bO/\q≠b) z2 anC:=(ha).mono (λq h hl=>⟨hl,h.2⟩)
 have J1:=(bd).lt
 have J2:=(be).lt
 have J3:=(cV).lt
 refine Am<|A1 (.build rfl A1W) ?_
 refine A1 (.build rfl Y9) ?_
 refine WL.box rfl rfl (λbf aP ak bt D lx=>?_)
 have hj:=AB.same (w1:=aP) hi (λk hk hl=>D.other k oO)
 have c':=EG.same (w1:=aP) cV (λk hk hl=>D.other k oO)
 have hm:=AB.same (w1:=aP) hh (λk hk hl=>D.other k oO)
 have hn:=AB.same (w1:=aP) hf (λk hk hl=>D.other k oO)
 have ho:=Bl ak bd.lt
 have d0:=bd.un D ho
 have hp:=Bl ak be.lt
 have d1:=be.un D hp
 have hq:=Bl ak bq.lt
 have bg:=bq.un D hq
 have f5:=λa=>ak▸cW.lt a
 have d2:=AG.upd cW D (λa=>CR (f5 a))
 have f6:=λa=>ak▸cX.lt a
 have d3:=AG.upd cX D (λa=>CR (f6 a))
 have d4:=uB cZ ak D
 have kT:=CF ak cZ.size
 refine A9 rfl<|A4<|A3 rfl<|Ah (Bk rfl bg Ay rfl Al)<|Cm BK rfl rfl ((PX bf ac7 [] [] Kg _ (Ic [] []) 0 (λq=>q≠bf/\q≠bO/\q≠b/\q≠d) _ bt (A0l _ _) (A0l _ _) (λq h=>by omega) (λq h=>by have:=(bt).lt;have:=(c').lt;first | omega | (refine ⟨?_,?_⟩ <;> omega)) (λ_=>⟨rfl,rfl⟩) (GG _ _ _ dD) dD dD rfl)) (λa2 N=>?_)
 have ht:=AB.same (w1:=a2) hj (λk hk hl=>N.1.block k hl (by (simp only [A6,A5,As,not_or,Ac];omega)))
 have hu:=EG.same (w1:=a2) c' (λk hk hl=>N.1.block k hl (by (simp only [A6,A5,As,not_or,Ac];omega)))
 have hv:=AB.same (w1:=a2) hm (λk hk hl=>N.1.block k hl (by (simp only [A6,A5,As,not_or,Ac];omega)))
 have hy:=AB.same (w1:=a2) hn (λk hk hl=>N.1.block k hl (by (simp only [A6,A5,As,not_or,Ac];omega)))
 have d5:=B0.keepB d0 N.1 d0.lt (by simp only [A6,A5,As,not_or,Ac];omega)
 have d6:=B0.keepB d1 N.1 d1.lt (by simp only [A6,A5,As,not_or,Ac];omega)
 have hz:=B0.keepB bg N.1 bg.lt (by simp only [A6,A5,As,not_or,Ac];omega)
 have d7:=NP d2 N.1 (λa=>⟨d2.lt a,by have:=aL a;simp only [A6,A5,As];omega⟩)
 have d8:=NP d3 N.1 (λa=>⟨d3.lt a,by have:=h5O a;simp only [A6,A5,As];omega⟩)
 have d9:=Ej d4 (AR.below N.1 d4.size (by simp <;> omega))
 obtain ⟨z5,bN,k6⟩:=N.2
 refine A0<|Ad ?_
 have hB:AB a2 (λq=>q<a2.heap.size/\q≠bO/\q≠b/\q≠d) (SJ kp 1 kc) (oA [oR 3]):=(hy).mono (λq h hl=>⟨hl,h.2⟩)
 have hC:AB a2 (λq=>q<a2.heap.size/\q≠bO/\q≠b) z4 (Ic [OT,F9] [oN 1,Ib KQ]):=(hv).mono (λq h hl=>⟨hl,h.2⟩)
 have hD:AB a2 (λq=>q<a2.heap.size/\q≠bO/\q≠b) z2 anC:=(ht).mono (λq h hl=>⟨hl,h.2⟩)
 have hF:AB a2 (λq=>q<a2.heap.size/\q≠bO/\q≠b/\q≠d) z5 anR:=(k6).mono (λq h hl=>⟨hl,h.2⟩)
 refine Am<|A1 (.build rfl A1W) ?_
 refine A1 (.build rfl Y9) ?_
 refine WL.box rfl rfl (λQ aE aa f7 u ly=>?_)
 have hG:=AB.same (w1:=aE) hD (λk hk hl=>u.other k oO)
 have hH:=EG.same (w1:=aE) hu (λk hk hl=>u.other k oO)
 have hI:=AB.same (w1:=aE) hC (λk hk hl=>u.other k oO)
 have hJ:=AB.same (w1:=aE) hB (λk hk hl=>u.other k oO)
 have hK:=AB.same (w1:=aE) hF (λk hk hl=>u.other k oO)
 have hL:=Bl aa d5.lt
 have hM:=d5.un u hL
 have hN:=Bl aa d6.lt
 have hO:=d6.un u hN
 have lP:=Bl aa hz.lt
 have hP:=Bl aa bN.lt
 have hQ:=bN.un u hP
 have f8:=λa=>aa▸d7.lt a
 have da:=AG.upd d7 u (λa=>CR (f8 a))
 have f9:=λa=>aa▸d8.lt a
 have db:=AG.upd d8 u (λa=>CR (f9 a))
 have hS:=uB d9 aa u
 have kU:=CF aa d9.size
 refine A9 rfl<|A4<|A3 rfl<|Ao (SY Ru _) (λaW E=>?_)
 have hT:=AB.same (w1:=aW) hG (λk hk hl=>E.block k hl)
 have dc:=EG.same (w1:=aW) hH (λk hk hl=>E.block k hl)
 have hU:=AB.same (w1:=aW) hI (λk hk hl=>E.block k hl)
 have hV:=AB.same (w1:=aW) hJ (λk hk hl=>E.block k hl)
 have hW:=AB.same (w1:=aW) hK (λk hk hl=>E.block k hl)
 have dd:=hM.bl E
 have de:=hO.bl E
 have df:=hQ.bl E
 have dg:=f7.bl E
 have dh:=DW da E (λa=>da.lt a)
 have di:=DW db E (λa=>db.lt a)
 have dj:=Ci hS E
 refine Cm BK rfl rfl ((PX Q ac7 [] [] F9 _ (Ib Ru) 0 (λq=>q≠Q/\q≠bO/\q≠b/\q≠d) _ dg (A0l _ _) (EC _ _ 4 0 Ru dD dD) (λq h=>by omega) (λq h=>by have:=(dg).lt;have:=(dc).lt;first | omega | (refine ⟨?_,?_⟩ <;> omega)) (λ_=>⟨rfl,rfl⟩) (GG _ _ _ dD) dD dD rfl)) (λaX F=>?_)
 have hX:=AB.same (w1:=aX) hT (λk hk hl=>F.1.block k hl (by (simp only [A6,A5,As,not_or,Ac];omega)))
 have hY:=EG.same (w1:=aX) dc (λk hk hl=>F.1.block k hl (by (simp only [A6,A5,As,not_or,Ac];omega)))
 have hZ:=AB.same (w1:=aX) hU (λk hk hl=>F.1.block k hl (by (simp only [A6,A5,As,not_or,Ac];omega)))
 have h':=AB.same (w1:=aX) hV (λk hk hl=>F.1.block k hl (by (simp only [A6,A5,As,not_or,Ac];omega)))
 have i1:=AB.same (w1:=aX) hW (λk hk hl=>F.1.block k hl (by (simp only [A6,A5,As,not_or,Ac];omega)))
 have i2:=B0.keepB dd F.1 dd.lt (by simp only [A6,A5,As,not_or,Ac];omega)
 have i3:=B0.keepB de F.1 de.lt (by simp only [A6,A5,As,not_or,Ac];omega)
 have i4:=B0.keepB df F.1 df.lt (by simp only [A6,A5,As,not_or,Ac];omega)
 have dk:=NP dh F.1 (λa=>⟨dh.lt a,by have:=aL a;simp only [A6,A5,As];omega⟩)
 have dl:=NP di F.1 (λa=>⟨di.lt a,by have:=h5O a;simp only [A6,A5,As];omega⟩)
 have i5:=Ej dj (AR.below F.1 dj.size (by simp <;> omega))
 obtain ⟨z6,eb,k7⟩:=F.2
 refine A0<|A4<|A3 rfl<|A3 rfl<|Ao (P7 2 _) (λaJ y=>?_)
 have i6:=AB.same (w1:=aJ) hX (λk hk hl=>y.block k hl)
 have dm:=EG.same (w1:=aJ) hY (λk hk hl=>y.block k hl)
 have i7:=AB.same (w1:=aJ) hZ (λk hk hl=>y.block k hl)
 have i8:=AB.same (w1:=aJ) h' (λk hk hl=>y.block k hl)
 have i9:=AB.same (w1:=aJ) i1 (λk hk hl=>y.block k hl)
 have ia:=AB.same (w1:=aJ) k7 (λk hk hl=>y.block k hl)
 have dn:=i2.bl y
 have dp:=i3.bl y
 have dq:=i4.bl y
 have dr:=eb.bl y
 have ds:=DW dk y (λa=>dk.lt a)
 have dt:=DW dl y (λa=>dl.lt a)
 have du:=Ci i5 y
 refine Cm BK rfl rfl ((PX Q z6 [F9] [Ib Ru] kPa _ (oR 2) 0 (λq=>q≠Q/\q≠bO/\q≠b/\q≠d) _ dr ((ia).mono (λq h hl=>by omega)) (EC _ _ 8 2 [] dD dD) (λq h=>by omega) (λq h=>by have:=(dr).lt;have:=(dm).lt;first | omega | (refine ⟨?_,?_⟩ <;> omega)) (λh=>nomatch h) (GG _ _ _ dD) dD dD rfl)) (λaY G=>?_)
 have ib:=AB.same (w1:=aY) i6 (λk hk hl=>G.1.block k hl (by (simp only [A6,A5,As,not_or,Ac];omega)))
 have ic:=EG.same (w1:=aY) dm (λk hk hl=>G.1.block k hl (by (simp only [A6,A5,As,not_or,Ac];omega)))
 have id:=AB.same (w1:=aY) i7 (λk hk hl=>G.1.block k hl (by (simp only [A6,A5,As,not_or,Ac];omega)))
 have ie:=AB.same (w1:=aY) i8 (λk hk hl=>G.1.block k hl (by (simp only [A6,A5,As,not_or,Ac];omega)))
 have ig:=AB.same (w1:=aY) i9 (λk hk hl=>G.1.block k hl (by (simp only [A6,A5,As,not_or,Ac];omega)))
 have ih:=B0.keepB dn G.1 dn.lt (by simp only [A6,A5,As,not_or,Ac];omega)
 have ii:=B0.keepB dp G.1 dp.lt (by simp only [A6,A5,As,not_or,Ac];omega)
 have ij:=B0.keepB dq G.1 dq.lt (by simp only [A6,A5,As,not_or,Ac];omega)
 have ik:=NP ds G.1 (λa=>⟨ds.lt a,by have:=aL a;simp only [A6,A5,As];omega⟩)
 have il:=NP dt G.1 (λa=>⟨dt.lt a,by have:=h5O a;simp only [A6,A5,As];omega⟩)
 have im:=Ej du (AR.below G.1 du.size (by simp <;> omega))
 obtain ⟨z7,jv,k8⟩:=G.2
 refine A0<|Ad ?_
 have K1:=(jv).lt
 refine Fe 20 rfl BR (λao o=>?_)
 have io:=AB.same (w1:=ao) ib (λk hk hl=>(by obtain ⟨m,rfl⟩:=o;rfl))
 have ip:=EG.same (w1:=ao) ic (λk hk hl=>(by obtain ⟨m,rfl⟩:=o;rfl))
 have iq:=AB.same (w1:=ao) id (λk hk hl=>(by obtain ⟨m,rfl⟩:=o;rfl))
 have ir:=AB.same (w1:=ao) ie (λk hk hl=>(by obtain ⟨m,rfl⟩:=o;rfl))
 have it:=AB.same (w1:=ao) ig (λk hk hl=>(by obtain ⟨m,rfl⟩:=o;rfl))
 have iu:=AB.same (w1:=ao) k8 (λk hk hl=>(by obtain ⟨m,rfl⟩:=o;rfl))
 have dv:=ih.drew o
 have dw:=ii.drew o
 have dx:=ij.drew o
 have dy:=jv.drew o
 have av:=ik.drew o
 have dz:=il.drew o
 have iv:=C6.below im o
 refine AI 0 rfl (.mv rfl) rfl<|AI 3 rfl (.mv rfl) rfl<|AI 4 rfl (.mv rfl) rfl<|AI 5 rfl (.ixm Ih PK rfl rfl (av.isp (by (simp only [Aa,Ak];omega))) (0) (rfl) (by simp)) rfl<|AI 6 rfl (.fa Kq rfl Bw dD rfl) rfl<|AI 10 rfl (.mv rfl) rfl<|AI 11 rfl (.mv rfl) rfl<|AI 12 rfl (.ixm Ih PK rfl rfl (av.isp (by (simp only [Aa,Ak];omega))) (0) (rfl) (by simp)) rfl<|AI 13 rfl (.fa Kq rfl Bw dD rfl) rfl<|Ka [(0,.slice p 1 c),(5,.slice p5 1 c5),(6,.slice p6 1 c6),(15,Af 0),(16,Af 3),(17,Af 3),(18,.slice (some ⟨bO,0,none⟩) 4 4),(23,ptV b),(24,ptV d),(29,Af ((0:Nat):Int)),(33,ptV bf),(34,ptV Q),(337,_),(343,_),(350,_)] [⟨1,338,[],(λv _=>v=.agg (DN (CW (DK 2 0 []))).toArray),false⟩,⟨2,339,[],(λv _=>v=.agg (DN (CW (DK 2 0 []))).toArray),false⟩,⟨7,344,[],(λv _=>v=Af 65536),false⟩,⟨8,345,[(7,344)],(λv _=>v=Af 1),false⟩,⟨9,346,[(8,345)],(λv _=>v=.agg (DN (CW (DK 2 1 []))).toArray),false⟩,⟨14,351,[],(λv _=>v=Af 65536),false⟩,⟨15,352,[(14,351)],(λv _=>v=Af 1),false⟩,⟨16,353,[(15,352)],(λv _=>v=.agg (DN (CW (DK 2 1 []))).toArray),false⟩,⟨17,354,[(1,338),(2,339),(9,346),(16,353)],(A2p ao.heap.size),false⟩,⟨18,355,[(17,354)],(ZH ao.heap.size),false⟩] 1 ⟨rfl,rfl,rfl,rfl,rfl,rfl,rfl,rfl,rfl,rfl,rfl,rfl,rfl,rfl,rfl,tT⟩ rfl kR ⟨⟨(λ_ _ _ h _=>h),λh=>nomatch h⟩,⟨(λ_ _ _ h _=>h),λh=>nomatch h⟩,⟨(λ_ _ _ h _=>h),λh=>nomatch h⟩,⟨(λ_ _ _ h _=>h),λh=>nomatch h⟩,⟨(λ_ _ _ h _=>h),λh=>nomatch h⟩,⟨(λ_ _ _ h _=>h),λh=>nomatch h⟩,⟨(λ_ _ _ h _=>h),λh=>nomatch h⟩,⟨(λ_ _ _ h _=>h),λh=>nomatch h⟩,⟨A2p.up,λh=>nomatch h⟩,⟨ZH.up,λh=>nomatch h⟩,tT⟩ ⟨?_,?_,?_,?_,?_,?_,?_,?_,?_,?_,tT⟩ (λg aA hs j hE hA=>?_)
 intro K g w1 hs j hd k
 have f:FL [] g:=trivial
 refine ⟨_,rfl,WL.front _ f ?_⟩
 refine Ao (Nd 0 _) (λw5 h5=>A0<|?_)
 exact k _ _ _ (Es.front f) rfl h5 (λh=>nomatch h)
 intro K g w1 hs j hd k
 have f:FL [] g:=trivial
 refine ⟨_,rfl,WL.front _ f ?_⟩
 refine Ao (Nd 0 _) (λw5 h5=>A0<|?_)
 exact k _ _ _ (Es.front f) rfl h5 (λh=>nomatch h)
 intro K g w1 hs j hd k
 have f:FL [(343,_)] g:=⟨hs.look rfl,tT⟩
 refine ⟨_,rfl,WL.front _ f ?_⟩
 refine Ah (Bq (BZ _) rfl (((av).below j (λa=>(av).lt a)).cells 0 (by simp) 0 dD))<|A0<|?_
 exact k _ _ _ (Es.front f) rfl (Gb _ _) (λh=>nomatch h)
 intro K g w1 hs j hd k
 obtain ⟨⟨k9,ka,kb⟩,-⟩:=hd
 have f:FL [(344,k9)] g:=⟨ka,tT⟩
 refine ⟨_,rfl,WL.front _ f ?_⟩
 subst kb
 refine A1 (.quo (r:=1) rfl rfl dD dD)<|A0<|?_
 exact k _ _ _ (Es.front f) rfl (Gb _ _) (λh=>nomatch h)
 intro K g w1 hs j hd k
 obtain ⟨⟨kd,ke,kf⟩,-⟩:=hd
 have f:FL [(345,kd)] g:=⟨ke,tT⟩
 refine ⟨_,rfl,WL.front _ f ?_⟩
 subst kf
 refine Ao (Nd 1 _) (λw5 h5=>A0<|?_)
 exact k _ _ _ (Es.front f) rfl h5 (λh=>nomatch h)
 intro K g w1 hs j hd k
 have f:FL [(350,_)] g:=⟨hs.look rfl,tT⟩
 refine ⟨_,rfl,WL.front _ f ?_⟩
 refine Ah (Bq (BZ _) rfl (((av).below j (λa=>(av).lt a)).cells 0 (by simp) 1 dD))<|A0<|?_
 exact k _ _ _ (Es.front f) rfl (Gb _ _) (λh=>nomatch h)
 intro K g w1 hs j hd k
 obtain ⟨⟨kg,kh,ki⟩,-⟩:=hd
 have f:FL [(351,kg)] g:=⟨kh,tT⟩
 refine ⟨_,rfl,WL.front _ f ?_⟩
 subst ki
 refine A1 (.quo (r:=1) rfl rfl dD dD)<|A0<|?_
 exact k _ _ _ (Es.front f) rfl (Gb _ _) (λh=>nomatch h)
 intro K g w1 hs j hd k
 obtain ⟨⟨kj,kk,kl⟩,-⟩:=hd
 have f:FL [(352,kj)] g:=⟨kk,tT⟩
 refine ⟨_,rfl,WL.front _ f ?_⟩
 subst kl
 refine Ao (Nd 1 _) (λw5 h5=>A0<|?_)
 exact k _ _ _ (Es.front f) rfl h5 (λh=>nomatch h)
 intro K g w1 hs j hd k
 obtain ⟨⟨km,ko,kq⟩,⟨kr,ks,kt⟩,⟨ku,kv,kw⟩,⟨kx,ky,kz⟩,-⟩:=hd
 have f:FL [(338,km),(339,kr),(346,ku),(353,kx)] g:=⟨ko,ks,kv,ky,tT⟩
 refine ⟨_,rfl,WL.front _ f ?_⟩
 subst kq
 subst kt
 subst kw
 subst kz
 refine Cq (L:=EN) (ps:=_) (A3O) C2 CU Cz rfl rfl rfl rfl rfl (by rfl) rfl rfl (λb5 w5 lz kA kB lV=>A0<|?_)
 exact k _ _ _ (Es.front f) ⟨b5,rfl,kA.rowp,by have:=j.size;omega⟩ (BU (Gb _ _) (Nat.le_of_eq lz.symm) kB) (λh=>nomatch h)
 intro K g w1 hs j hd k
 obtain ⟨⟨kC,kD,kE⟩,-⟩:=hd
 have f:FL [(354,kC)] g:=⟨kD,tT⟩
 refine ⟨_,rfl,WL.front _ f ?_⟩
 obtain ⟨b5,rfl,bi,hb5⟩:=kE
 refine Ao (Xu (some ⟨b5,0,none⟩) 4 4 _) (λw5 h5=>A0<|?_)
 exact k _ _ _ (Es.front f) (ZH.up _ _ _ ⟨b5,rfl,bi,hb5⟩ h5) h5 (λh=>nomatch h)
 obtain ⟨-,-,-,-,-,-,-,-,-,⟨kF,kG,kH⟩,-⟩:=hE
 refine WY.front [(355,kF),(0,.slice p 1 c),(5,.slice p5 1 c5),(6,.slice p6 1 c6),(15,Af 0),(16,Af 3),(17,Af 3),(18,.slice (some ⟨bO,0,none⟩) 4 4),(23,ptV b),(24,ptV d),(29,Af ((0:Nat):Int)),(33,ptV bf),(34,ptV Q),(337,_),(343,_),(350,_)] ⟨kG,hs.look rfl,hs.look rfl,hs.look rfl,hs.look rfl,hs.look rfl,hs.look rfl,hs.look rfl,hs.look rfl,hs.look rfl,hs.look rfl,hs.look rfl,hs.look rfl,hs.look rfl,hs.look rfl,hs.look rfl,tT⟩ ?_
 have iw:=AB.same (w1:=aA) io (λk hk hl=>j.block k hl)
 have dA:=EG.same (w1:=aA) ip (λk hk hl=>j.block k hl)
 have iy:=AB.same (w1:=aA) iq (λk hk hl=>j.block k hl)
 have iz:=AB.same (w1:=aA) ir (λk hk hl=>j.block k hl)
 have iA:=AB.same (w1:=aA) it (λk hk hl=>j.block k hl)
 have iB:=AB.same (w1:=aA) iu (λk hk hl=>j.block k hl)
 have dB:=dv.below j dv.lt
 have dC:=dw.below j dw.lt
 have dE:=dx.below j dx.lt
 have dG:=dy.below j dy.lt
 have dH:=DW dz j (λa=>dz.lt a)
 have dI:=Ci iv j
 obtain ⟨bX,rfl,lA,m4⟩:=kH
 have lQ:=C6.size o
 have lB:AB aA (λq=>q≠Q/\q≠bO/\q≠b/\q≠d) (SJ (some ⟨bX,0,none⟩) 4 4) anB:=P6 (ys:=A3O) lA (AH.cons (EC _ _ 2 0 [] dD dD) (AH.cons (EC _ _ 2 0 [] dD dD) (AH.cons (EC _ _ 2 1 [] dD dD) (AH.cons (EC _ _ 2 1 [] dD dD) (AH.nil _ _))))) dD dD (λ_=>by show bX≠_/\bX≠_/\bX≠_/\bX≠_;omega)
 refine Av 19 rfl<|Cm BK rfl rfl ((PX Q z7 [kPa,F9] [oR 2,Ib Ru] Pe _ anB 0 (λq=>q≠Q/\q≠bO/\q≠b/\q≠d) _ dG ((iB).mono (λq h hl=>by omega)) lB (λq h=>by omega) (λq h=>by have:=(dG).lt;have:=(dA).lt;first | omega | (refine ⟨?_,?_⟩ <;> omega)) (λh=>nomatch h) (GG _ _ _ dD) dD dD rfl)) (λaZ P=>?_)
 have iC:=AB.same (w1:=aZ) iw (λk hk hl=>P.1.block k hl (by (simp only [A6,A5,As,not_or,Ac];omega)))
 have dJ:=EG.same (w1:=aZ) dA (λk hk hl=>P.1.block k hl (by (simp only [A6,A5,As,not_or,Ac];omega)))
 have iD:=AB.same (w1:=aZ) iy (λk hk hl=>P.1.block k hl (by (simp only [A6,A5,As,not_or,Ac];omega)))
 have iE:=AB.same (w1:=aZ) iz (λk hk hl=>P.1.block k hl (by (simp only [A6,A5,As,not_or,Ac];omega)))
 have iF:=AB.same (w1:=aZ) iA (λk hk hl=>P.1.block k hl (by (simp only [A6,A5,As,not_or,Ac];omega)))
 have dK:=B0.keepB dB P.1 dB.lt (by simp only [A6,A5,As,not_or,Ac];omega)
 have dL:=B0.keepB dC P.1 dC.lt (by simp only [A6,A5,As,not_or,Ac];omega)
 have iG:=B0.keepB dE P.1 dE.lt (by simp only [A6,A5,As,not_or,Ac];omega)
 have dM:=NP dH P.1 (λa=>⟨dH.lt a,by have:=h5O a;simp only [A6,A5,As];omega⟩)
 have dN:=Ej dI (AR.below P.1 dI.size (by simp <;> omega))
 obtain ⟨z8,jw,kI⟩:=P.2
 refine A0<|Bn kR<|A4<|A3 rfl<|A3 rfl<|A1 (.nck rfl)<|A1 (.fa I8 rfl CU dD rfl)<|Ah (Bk rfl iG Ay rfl Al)<|Cm BK rfl rfl ((PX Q z8 [Pe,kPa,F9] [anB,oR 2,Ib Ru] UM _ anR 2 (λq=>q≠Q/\q≠bO/\q≠b/\q≠d) _ jw ((kI).mono (λq h hl=>by omega)) ((iF).mono (λq h hl=>⟨oO,h.2⟩)) (λq h=>by omega) (λq h=>by have:=(jw).lt;have:=(dJ).lt;first | omega | (refine ⟨?_,?_⟩ <;> omega)) (λh=>nomatch h) (GG _ _ _ dD) dD dD rfl)) (λbh a4=>?_)
 have iH:=AB.same (w1:=bh) iC (λk hk hl=>a4.1.block k hl (by (simp only [A6,A5,As,not_or,Ac];omega)))
 have iI:=EG.same (w1:=bh) dJ (λk hk hl=>a4.1.block k hl (by (simp only [A6,A5,As,not_or,Ac];omega)))
 have iJ:=AB.same (w1:=bh) iD (λk hk hl=>a4.1.block k hl (by (simp only [A6,A5,As,not_or,Ac];omega)))
 have iK:=AB.same (w1:=bh) iE (λk hk hl=>a4.1.block k hl (by (simp only [A6,A5,As,not_or,Ac];omega)))
 have iL:=B0.keepB dK a4.1 dK.lt (by simp only [A6,A5,As,not_or,Ac];omega)
 have iM:=B0.keepB dL a4.1 dL.lt (by simp only [A6,A5,As,not_or,Ac];omega)
 have dO:=NP dM a4.1 (λa=>⟨dM.lt a,by have:=h5O a;simp only [A6,A5,As];omega⟩)
 have iN:=Ej dN (AR.below a4.1 dN.size (by simp <;> omega))
 obtain ⟨z9,lC,kJ⟩:=a4.2
 refine A0<|A4<|A3 rfl<|A3 rfl<|A3 rfl<|A1 (.iis (0) (.mul rfl rfl (Ba oO)) (by rfl))<|A1 (.iis (3) (.add rfl rfl (Ba oO)) (by rfl))<|A1 (.iis (4) (.add rfl rfl (Ba oO)) (by rfl))<|Ao (P7 4 _) (λa' T=>?_)
 have iO:=AB.same (w1:=a') iH (λk hk hl=>T.block k hl)
 have dP:=EG.same (w1:=a') iI (λk hk hl=>T.block k hl)
 have iP:=AB.same (w1:=a') iJ (λk hk hl=>T.block k hl)
 have iQ:=AB.same (w1:=a') iK (λk hk hl=>T.block k hl)
 have iR:=AB.same (w1:=a') kJ (λk hk hl=>T.block k hl)
 have dQ:=iL.bl T
 have dR:=iM.bl T
 have dS:=lC.bl T
 have dU:=DW dO T (λa=>dO.lt a)
 have dV:=Ci iN T
 refine Cm BK rfl rfl ((PX Q z9 [Pe,kPa,UM,F9] [anB,oR 2,anR,Ib Ru] So _ (oR 4) 0 (λq=>q≠Q/\q≠bO/\q≠b/\q≠d) _ dS ((iR).mono (λq h hl=>by omega)) (EC _ _ 8 4 [] dD dD) (λq h=>by omega) (λq h=>by have:=(dS).lt;have:=(dP).lt;first | omega | (refine ⟨?_,?_⟩ <;> omega)) (λh=>nomatch h) (GG _ _ _ dD) dD dD rfl)) (λb0 a5=>?_)
 have iS:=AB.same (w1:=b0) iO (λk hk hl=>a5.1.block k hl (by (simp only [A6,A5,As,not_or,Ac];omega)))
 have iT:=EG.same (w1:=b0) dP (λk hk hl=>a5.1.block k hl (by (simp only [A6,A5,As,not_or,Ac];omega)))
 have iU:=AB.same (w1:=b0) iP (λk hk hl=>a5.1.block k hl (by (simp only [A6,A5,As,not_or,Ac];omega)))
 have iV:=AB.same (w1:=b0) iQ (λk hk hl=>a5.1.block k hl (by (simp only [A6,A5,As,not_or,Ac];omega)))
 have iW:=B0.keepB dQ a5.1 dQ.lt (by simp only [A6,A5,As,not_or,Ac];omega)
 have iX:=B0.keepB dR a5.1 dR.lt (by simp only [A6,A5,As,not_or,Ac];omega)
 have iY:=NP dU a5.1 (λa=>⟨dU.lt a,by have:=h5O a;simp only [A6,A5,As];omega⟩)
 have iZ:=Ej dV (AR.below a5.1 dV.size (by simp <;> omega))
 obtain ⟨zP,lD,kK⟩:=a5.2
 refine A0<|Ad ?_
 have dW:AD EN 27 bO b0 (.slice (some ⟨bO,0,none⟩) 4 4) [z2,R2,R2,R2]:=iT
 refine Am<|A3 rfl<|A3 rfl<|A3 rfl<|A1 (.iis (0) (.mul rfl rfl (Ba oO)) (by rfl))<|A1 (.iis (3) (.add rfl rfl (Ba oO)) (by rfl))<|A1 (.iis (2) (.sub rfl rfl (Ba oO)) (by rfl))<|A3 rfl<|A1 (.nck rfl)<|A1 (.fa I8 rfl CU dD rfl)<|Ah (Bk rfl lD Ay rfl Al)<|A1 (.ixm C2 CU rfl rfl rfl 2 rfl dD)<|Kb (L:=EN) (zP) (2) dW (by simp) Al rfl rfl rfl (λaK fb b6 a0 fc=>?_)
 have kV:=(dW).lt fb (by rw [b6];rfl)
 have eL:bO=fb:=BJ Addr.block (C3 b6)
 have i':=AB.same (w1:=aK) iS (λk hk hl=>a0.other k oM)
 have j0:=AB.same (w1:=aK) iU (λk hk hl=>a0.other k oM)
 have j1:=AB.same (w1:=aK) iV (λk hk hl=>a0.other k oM)
 have j2:=AB.same (w1:=aK) kK (λk hk hl=>a0.other k oM)
 have j3:=iW.up a0
 have j4:=iX.up a0
 have dX:=AG.upd iY a0 (λa=>by have:=h5O a;omega)
 have j5:=BU iZ oO a0
 have fd:EG bO [z2,R2,zP,R2] aK:=fc
 refine A0<|?_
 have dY:AD EN 27 bO aK (.slice (some ⟨bO,0,none⟩) 4 4) [z2,R2,zP,R2]:=fd
 refine Am<|A3 rfl<|A3 rfl<|A3 rfl<|A1 (.iis (0) (.mul rfl rfl (Ba oO)) (by rfl))<|A1 (.iis (3) (.add rfl rfl (Ba oO)) (by rfl))<|A3 rfl<|A3 rfl<|A1 (.ixm underlying59 D8 rfl rfl (dX.isp oO) (0) (rfl) (by simp))<|Ah (Bq (g22_ _) rfl ((dX.field (0) oO 0 dD).trans rfl))<|?_
 refine A1 (.build rfl A7p) ?_
 refine A1 (.ixm C2 CU rfl rfl rfl 3 rfl dD)<|Kb (L:=EN) (ac9) (3) dY (by simp) Al rfl rfl rfl (λb1 fe b7 a7 ff=>?_)
 have kW:=(dY).lt fe (by rw [b7];rfl)
 have eL:bO=fe:=BJ Addr.block (C3 b7)
 have j6:=AB.same (w1:=b1) i' (λk hk hl=>a7.other k oM)
 have j7:=AB.same (w1:=b1) j0 (λk hk hl=>a7.other k oM)
 have j8:=AB.same (w1:=b1) j1 (λk hk hl=>a7.other k oM)
 have j9:=AB.same (w1:=b1) j2 (λk hk hl=>a7.other k oM)
 have ja:=j3.up a7
 have jb:=j4.up a7
 have jc:=BU j5 oO a7
 have fg:EG bO [z2,R2,zP,ac9] b1:=ff
 refine A0<|Am<|A3 rfl<|A1 (.add rfl rfl (Ba oO))<|A9 rfl ?_
 exact ⟨1,⟨rfl,rfl,rfl,rfl,rfl,rfl,rfl,rfl,rfl,rfl,tT⟩,.inr ⟨rfl,SJ kp 1 kc,zP,ac9,jc,fg,(j6).mono (λq h hl=>h.2),(j9).mono (λq h hl=>⟨h.2.1,h.2.2.1⟩),A78 _ _,(j7).mono (λq h hl=>h.2),(j8).mono (λq h hl=>⟨h.2.1,h.2.2.1⟩),ja,jb⟩,oM⟩
 have gm:=dF bE
 obtain ⟨rfl,zk,zp,zs,M1,M2,M3,M4,M5,M6,M7,M8,M9⟩:=hR.resolve_left (λh=>by have:=h.1;simp_all)
 refine BF<|A4<|A3 rfl<|Ah (Bk rfl M9 Ay rfl Al)<|Cm BK rfl rfl ((PX b z4 [OT,F9] [oN 1,Ib KQ] Tn _ (oA [oR 3]) 1 (λq=>q≠b/\q≠bO) _ M8 ((M6).mono (λq h hl=>by omega)) ((M7).mono (λq h hl=>⟨h.2,h.1⟩)) (λq h=>by omega) (λq h=>by have:=(M8).lt;have:=(M2).lt;first | omega | (refine ⟨?_,?_⟩ <;> omega)) (λh=>nomatch h) (GG _ _ _ dD) dD dD rfl)) (λb2 aw=>?_)
 have jd:=AB.same (w1:=b2) M3 (λk hk hl=>aw.1.block k hl (by (simp only [A6,A5,As,not_or,Ac];omega)))
 have je:=EG.same (w1:=b2) M2 (λk hk hl=>aw.1.block k hl (by (simp only [A6,A5,As,not_or,Ac];omega)))
 have jf:=AB.same (w1:=b2) M4 (λk hk hl=>aw.1.block k hl (by (simp only [A6,A5,As,not_or,Ac];omega)))
 have jg:=AB.same (w1:=b2) M5 (λk hk hl=>aw.1.block k hl (by (simp only [A6,A5,As,not_or,Ac];omega)))
 have jh:=Ej M1 (AR.below aw.1 M1.size (by simp <;> omega))
 obtain ⟨zN,lE,kL⟩:=aw.2
 refine A0<|Ad ?_
 have dZ:AD EN 27 bO b2 (.slice (some ⟨bO,0,none⟩) 4 4) [z2,R2,zp,zs]:=je
 refine Am<|A3 rfl<|A3 rfl<|A1 (.nck rfl)<|A1 (.fa I8 rfl CU dD rfl)<|Ah (Bk rfl lE Ay rfl Al)<|A1 (.ixm C2 CU rfl rfl rfl 1 rfl dD)<|Kb (L:=EN) (zN) (1) dZ (by simp) Al rfl rfl rfl (λb3 fh b8 ap fi=>?_)
 have kX:=(dZ).lt fh (by rw [b8];rfl)
 have eL:bO=fh:=BJ Addr.block (C3 b8)
 have ji:=AB.same (w1:=b3) jd (λk hk hl=>ap.other k oM)
 have jj:=AB.same (w1:=b3) kL (λk hk hl=>ap.other k oM)
 have jk:=AB.same (w1:=b3) jf (λk hk hl=>ap.other k oM)
 have jl:=AB.same (w1:=b3) jg (λk hk hl=>ap.other k oM)
 have jm:=BU jh oO ap
 have fj:EG bO [z2,zN,zp,zs] b3:=fi
 refine A0<|A4<|A3 rfl<|Ct rfl<|A9 rfl<|AT (D0 rfl rfl rfl ?_)
 exact ⟨(some ⟨bO,0,none⟩,[z2,zN,zp,zs],4),rfl,jm,AD.rowp fj,DP _,AH.cons ((ji).mono (λq _ h=>h)) (AH.cons ((jj).mono (λq _ h=>h)) (AH.cons ((jk).mono (λq _ h=>h)) (AH.cons ((jl).mono (λq _ h=>h)) (AH.nil _ _))))⟩
end
section
theorem QM:∀ o∈R1,FY 32 true o:=by
 refine all_cons ?_ (all_cons ?_ (all_cons ?_ (all_cons ?_ Cp)))
 · exact Kw _ _ dD bL rfl dD dD (all_cons (PF _ dD) (all_cons (N8 _ (JU _ dD)) Cp))
 · exact Kw _ _ dD bL rfl dD dD (all_cons (PG _ dD) (all_cons (Xo _ dD dD (all_cons (PF _ dD) Cp)) (all_cons (N8 _ (JU _ dD)) Cp)))
 · exact Kw _ _ dD bL rfl dD dD (all_cons (PF _ dD) (all_cons (Xo _ dD dD (all_cons (PG _ dD) (all_cons (PG _ dD) (all_cons (PG _ dD) (all_cons (PG _ dD) Cp))))) (all_cons (PF _ dD) (all_cons (Kw _ _ dD bL rfl dD dD (all_cons (Kw _ _ dD bL rfl dD dD Cp) Cp)) (all_cons (N8 _ (JU _ dD)) Cp)))))
 · exact .dict _ _ 9 [] [] [] (.inr ⟨rfl,rfl,dD,dD⟩) dD dD rfl (by simp) dD Cp
theorem A5r:∀ o∈R1,TN 4 o:=by
 have lf:∀ (k m:Int) (s:l8_),k≠8->TN 4 (.mk k m s [] [] []):=λk m s h=>IG (λe=>De e h)
 have rfr:∀ m:Int,1<=m/\m<=4->TN 4 (oR m):=λm h=>IG (λ_=>h)
 refine all_cons ?_ (all_cons ?_ (all_cons ?_ (all_cons ?_ Cp)))
 · exact FQ dD (all_cons (rfr _ dD) (all_cons (lf _ _ _ dD) Cp))
 · exact FQ dD (all_cons (lf _ _ _ dD) (all_cons (FQ dD (all_cons (rfr _ dD) Cp)) (all_cons (lf _ _ _ dD) Cp)))
 · exact FQ dD (all_cons (rfr _ dD) (all_cons (FQ dD (all_cons (lf _ _ _ dD) (all_cons (lf _ _ _ dD) (all_cons (lf _ _ _ dD) (all_cons (lf _ _ _ dD) Cp))))) (all_cons (rfr _ dD) (all_cons (FQ dD (all_cons (FQ dD Cp) Cp)) (all_cons (lf _ _ _ dD) Cp)))))
 · exact FQ dD Cp
theorem A6E:∀ o∈R1,SM o:=by
 refine all_cons ?_ (all_cons ?_ (all_cons ?_ (all_cons ?_ Cp))) <;> simp [anC,anN,anP,anS,anB,anR,Ic,Ib,oR,oA,oN,oS,SM,KnL]
theorem A21:∀ o∈R1,(Dd o).length<=20000:=by
 have hk:∀ o∈R1,SH o<=500:=all_cons dD (all_cons dD (all_cons dD (all_cons dD Cp)))
 intro o ho
 have:=A0x (QM o ho)
 have:=hk o ho
 omega
theorem TF:(CE R1).length<=1048576/\ZF R1:=by
 have b:=SA R1 20000 A21 (by show 4<=4096;decide) dD
 have hl:R1.length=4:=rfl
 have a:(CE R1).length<=1048576:=by rw [hl] at b;omega
 refine ⟨a,QM,?_,by rw [hl];decide,a⟩
 refine all_cons dD (all_cons dD (all_cons bL (all_cons dD Cp)))
theorem A5s:Vx R1:=⟨TF.2,λo ho=>⟨QM o ho,A5r o ho⟩⟩
theorem A3Q:A4w R1 anC anN anP anS where
 len:=rfl
 caV:=rfl
 caT:=rfl
 caP:=rfl
 ndV:=rfl
 ndF:=rfl
 ndT:=rfl
 ndK:=rfl
 ndC:=rfl
 ndD:=rfl
 pgV:=rfl
 pgT:=rfl
 pgC:=rfl
 stV:=rfl
 st6:=by decide
 one:=λl h=>by cases h;exact .inl rfl
theorem W6 (p:Option Addr) (c:Nat) (w:World) (hr:AG Xz w p [pg1]) :
  Calls Tryz.prog 40 #[.slice p 1 c] w λe w'=>∃ x:Option Addr × Nat,e=.returned (.tuple #[.slice x.1 (CE R1).length x.2,Af 0])/\AL w w'/\Ag w' x.1 (CE R1)/\(CE R1).length<=x.2:=by
 refine Ar func40 rfl ntmps40 ?_
 have k:=CN w
 refine A4<|Ct rfl<|A9 rfl<|A4<|A3 rfl<|Bf BK rfl rfl ((Ub p c _ hr)) (λx l b=>?_)
 have m:=Ci k b.1
 obtain ⟨lp,ys,lc⟩:=x
 obtain ⟨d,f,g⟩:=b.2
 simp only at d f g
 refine A3 rfl<|A1 (.ext rfl rfl)<|A1 (.ext rfl rfl)<|Ct rfl<|A9 rfl<|Ad<|A4<|A3 rfl<|A1 (.bis (false) (.neq rfl rfl) dD)<|A0<|Aq rfl rfl<|Ap<|A4<|A3 rfl<|Bf BK rfl rfl ((S1 lp ys R1 lc _ _ d f g (λo ho _=>by have:=A21 o ho;omega) True (λi h a l ha=>(PT _ _ _ l ha (QM _ (AA a)) (A6E _ (AA a))).mono λe w' ⟨u,a⟩=>⟨⟨true,λ_=>QM _ (AA _),λ_=>rfl⟩,u,a⟩))) (λx y j=>?_)
 have q:=Ci m j.1
 obtain ⟨xp,xn,xc,xe⟩:=x
 have hW:=j.2
 simp only at hW ⊢
 obtain rfl:xe=0:=hW.sure trivial (by show 1<=4;decide) (by show 4<=4096;decide) TF.1
 obtain ⟨rfl,s,t,v,-⟩:=hW.ok rfl
 refine A1 (.ext rfl rfl)<|A1 (.ext rfl rfl)<|Ct rfl<|A9 rfl<|AT (D0 rfl rfl rfl ?_)
 exact ⟨(xp,xc),rfl,q,s,t⟩
theorem A7n:Tryz.prog.built 46 [(0,Af 65536),(1,Af 65536)]=some (pgV pg1).toArray:=by kernel_rfl
end
section
theorem A2h:GV R1 anS (Gv anP ⟨none,none⟩) UN=.ok ((65536,65536),none):=by
 have hd:Gv anP ⟨none,none⟩=⟨some (oA [oN 0,oN 0,oN 1,oN 1]),some anR⟩:=rfl
 have hb:=A1P R1 0 0 1 1 dD dD dD dD (some anR)
 rw [hd]
 have hb2:K6 R1 ⟨some (oA [oN 0,oN 0,oN 1,oN 1]),some anR⟩=.ok (65536,65536):=by rw [hb];rfl
 exact JT hb2 (fs:=[]) rfl (l:=[]) rfl
theorem A2k (bf:Nat) (S:Nat->Prop) (w:World) (hf:AM S w bf (CE R1) (Di R1)) (hN:ZN w) :
    Calls Tryz.prog 15 #[ptV bf] w λe w'=>∃ x:Option Addr × Nat,e=.returned (.tuple #[.slice x.1 1 x.2,Af 0])/\AL w w':=by
  have L:=A3Q
  have b:∀ wk,Lc wk bf R1 2 ⟨none,none⟩ 0 [] QX (GV R1 anS (Gv anP ⟨none,none⟩) UN):=λwk =>
    P5 wk bf R1 A5s anN 2 ⟨none,none⟩ 0 [] UN QX _ dD (by simp) ⟨dD,dD⟩ (by simp) L.ndV (by simp) (by simp)
      (.inr ⟨L.ndF,L.ndT,dD,3,L.ndK,L.ndC,P5 wk bf R1 A5s anP 3 _ 1 [2] UN QX _ dD (by simp) ⟨dD,dD⟩ (by simp) L.pgV (by rw [L.ndD];simp) (by rw [L.ndD];simp)
        (.inl ⟨L.pgT,_,anS,L.pgC,L.stV,L.st6,λB l fs a hl=>by cases hl;cases a;exact A4C B [] (.inl rfl) [] (.inl rfl),by rw [L.ndD]⟩)⟩)
  refine (TU bf S R1 A5s anC anN 2 QX (GV R1 anS (Gv anP ⟨none,none⟩) UN) dD L.caV L.caT L.caP ⟨dD,dD⟩ L.ndV L.ndT b w hf hN).mono λe w' q=>?_
  rw [A2h] at q
  obtain ⟨d,p,c,x,a,-⟩:=q
  exact ⟨(p,c),a,d⟩
theorem N0 (p:Option Addr) (c:Nat) (w:World) (hr:AG Xz w p [pg1]) (hN:ZN w) :
  Calls Tryz.prog 18 #[.slice p 1 c] w λe w'=>∃ x:Option Addr × Nat,e=.returned (.tuple #[.slice x.1 1 x.2,Af 0])/\AL w w':=by
 have h:Dh (λk=>k<w.heap.size) w:=⟨hN.lt,hN⟩
 refine Ar func18 rfl ntmps18 ?_
 have i:=CN w
 refine A4<|Ct rfl<|A9 rfl<|A4<|A3 rfl<|Bf BK rfl rfl ((W6 p c _ hr)) (λx w1 a=>?_)
 have j:=Dh.same (w1:=w1) h (λk hk hl=>a.1.block k hl)
 have l:=Ci i a.1
 obtain ⟨xp,xc⟩:=x
 obtain ⟨d,f⟩:=a.2
 simp only at d f
 refine A3 rfl<|A1 (.ext rfl rfl)<|A1 (.ext rfl rfl)<|Ct rfl<|A9 rfl<|Ad<|A4<|A3 rfl<|A1 (.bis (false) (.neq rfl rfl) dD)<|A0<|Aq rfl rfl<|Ap<|A4<|A3 rfl<|Bf BK rfl rfl ((Ow R1 TF.2 xp _ xc _ rfl d f)) (λbf m b=>?_)
 have o:=Dh.same (w1:=m) j (λk hk hl=>b.2.block k hl)
 have q:=Ci l b.2
 have s:=(b.1).mono (T:=λk=>k<m.heap.size) (λk _ hk=>hk)
 refine A3 rfl<|A1 (.ext rfl rfl)<|A1 (.ext rfl rfl)<|Ct rfl<|A9 rfl<|Ad<|A4<|A3 rfl<|A1 (.bis (false) (.neq rfl rfl) dD)<|A0<|Aq rfl rfl<|Ap<|A4<|A3 rfl<|Bf BK rfl rfl ((A2k bf _ _ s (o).blk)) (λx u t=>?_)
 have g:=Ci q t
 refine A1 (.ext rfl rfl)<|A1 (.ext rfl rfl)<|Ct rfl<|A9 rfl<|AT (D0 rfl rfl rfl ?_)
 exact ⟨x,rfl,g⟩
theorem Lq (w:World) (hN:ZN w):Cb 6 #[] w (.bool true):=by
 have i:Dh (λk=>k<w.heap.size) w:=⟨hN.lt,hN⟩
 refine Ar func6 rfl ntmps6 ?_
 have c:=CN w
 refine A4<|A9 rfl ?_
 refine A4<|A1 (.build rfl A7n) ?_
 refine Cq (L:=Xz) (ps:=_) ([pg1]) Ih PK ZP rfl rfl rfl rfl rfl (by rfl) rfl rfl (λq d f h a s=>?_)
 have j:=Dh.same (w1:=d) i (λk hk hl=>a.other k oO)
 have l:=uB c f a
 have o:=CF f c.size
 have b:q<=d.heap.size:=by omega
 refine Bf BK rfl rfl ((N0 _ _ _ (h).rowp (j).blk)) (λx u g=>?_)
 have t:=C9 b g.size
 have m:=Ci l g
 refine A3 rfl<|A1 (.ext rfl rfl)<|A1 (.ext rfl rfl)<|Ct rfl<|A9 rfl<|A4<|A3 rfl<|A1 (.bis (true) (.eql rfl rfl) dD)<|A3 rfl<|Az rfl<|A3 rfl<|Az rfl<|A1 (.lenS Ih rfl)<|Az rfl<|A1 (.bis (true) (.eql rfl rfl) dD)<|A1 (.bis (true) (.pkT rfl rfl rfl) (by rfl))<|A9 rfl<|AW ?_
 exact ⟨rfl,m⟩
end
section
def A7x (w:World) (wd f:Int) (e:Ending) (w':World):Prop:=∃ t:(Option Addr × List PgV × Nat) × Int,e=.returned (.tuple #[.slice t.1.1 t.1.2.1.length t.1.2.2,Af t.2])/\AL w w'/\AG Xz w' t.1.1 t.1.2.1 /\
 (wd<0->t.2=22)/\(¬ wd<0->f<0->t.2=26)/\(¬ wd<0->¬ f<0->t.2=0/\∃ (h:Int) (p:Option Addr) (c:Nat) (i:GY),t.1.2.1=[⟨wd * 65536,h,p,1,c⟩]/\AG Jw w' p [i]/\i.fFont=f)
theorem A4W  {wd f:Int} {e:Ending} (h:Xd w QX (Zd wd f) e w'):A7x w wd f e w':=by
 obtain ⟨b,a⟩:=h
 unfold Zd at a
 by_cases c1:wd<0
 ·
  rw [A7 c1] at a
  exact ⟨((none,[],0),22),a,b,AG.nil _,λ_=>rfl,λh=>De c1 h,λh=>De c1 h⟩
 ·
  rw [A2 c1] at a
  by_cases c2:f<0
  ·
   rw [A7 c2] at a
   exact ⟨((none,[],0),26),a,b,AG.nil _,λh=>De h c1,λ_ _=>rfl,λ_ h=>De c2 h⟩
  ·
   rw [A2 c2] at a
   obtain ⟨p,c,⟨xw,xh,xp,xn,xc⟩,l,m,d,o,L,M,hq⟩:=a
   obtain ⟨g,i,j,k⟩:=hq.here
   simp only at d o g j k
   subst d;subst g
   exact ⟨((p,[_],c),0),l,b,m,λh=>De h c1,λ_ h=>De h c2,λ_ _=>⟨rfl,xh,xp,xc,i,rfl,j,k⟩⟩
theorem A0X (bx fn:l8_) (i:Nat) (hi:i<bx.length):(Ix bx fn i).bx=if (0:Int)<(bx[i].toNat:Int) then some (bx[i].toNat:Int) else none:=by
 unfold Ix
 simp only [BY,Aj hi,Option.getD_some]
 by_cases h:0<bx[i].toNat
 · rw [A7 h,A7 oO]
 · rw [A2 h,A2 oO]
theorem A5h (fn:l8_) (i:Nat) (hi:i<fn.length):fn.getD i 0=fn[i]:=by rw [BY,Aj hi];rfl
theorem DcI.add  {b:Nat} {os:List AV} {kv lv:Value} {ys:List AC} {w0:World} (h0:DcI B N b ks os kv lv ys w0) {kv' lv':Value} {zs:List AC} {k:l8_} {o:AV} {M1 M3:Nat}
  (hb:B0 w b #[Af 7,Af 0,.string (bs []),kv',lv',.slice none 0 0] 27) (hk:AD G8 9 B w kv' (ks++[k])) (hl:AD EN 27 B w lv' (ys++zs))
  (ha:AH w (λq=>(N<=q/\q<w0.heap.size/\q≠b)/\kv.ownBlock≠some q/\lv.ownBlock≠some q) ys os) (hz:AH w (λq=>T q/\q<M3) zs [o])
  (ek:∀ g,kv'.ownBlock=some g->kv.ownBlock=some g\/M1<=g) (hT:∀ q,T q->w0.heap.size<=q/\kv'.ownBlock≠some q) (el:∀ g,lv'.ownBlock=some g->lv.ownBlock=some g\/M3<=g)
  (h1:w0.heap.size<=M1) (h3:w0.heap.size<=M3) (hN:N<=w0.heap.size):DcI B N b (ks++[k]) (os++[o]) kv' lv' (ys++zs) w:=by
 have c:=h0.blk.lt
 have kl:=λg hg=>(h0.keys.lt g hg).2
 have ll:=λg hg=>(h0.row.lt g hg).2
 refine ⟨hb,hk,hl,AH.app (ha.mono λq hq a=>⟨⟨hq.1.1,a,hq.1.2.2⟩,λe=>?_,λe=>?_⟩) (hz.mono λq hq a=>⟨⟨by have:=(hT q hq.1).1;omega,a,by have:=(hT q hq.1).1;omega⟩,λe=>?_,λe=>?_⟩),λg hg=>?_,λg hg=>?_⟩
 ·
  rcases ek q e with h | h
  · exact hq.2.1 h
  · omega
 ·
  rcases el q e with h | h
  · exact hq.2.2 h
  · omega
 · exact (hT q hq.1).2 e
 ·
  rcases el q e with h | h
  · have:=ll q h;have:=(hT q hq.1).1;omega
  · have:=hq.2;omega
 ·
  rcases ek g hg with h | h
  · exact h0.kn g h
  · exact ⟨oO,oO⟩
 ·
  rcases el g hg with h | h
  · exact h0.ln g h
  · exact ⟨oO,oO⟩
theorem TR {x:Ld} {w:Int} (h:x.bx=some a):HK w x=a:=by unfold HK;rw [h];rfl
theorem ZR {x:Ld} {w:Int} (h:x.bx=none):HK w x=w:=by unfold HK;rw [h];rfl
theorem A1v {x:Ld} {w:Int} (h:x.ft=none):N2 w x=w:=by unfold N2;rw [h]
theorem A0W (bx fn:l8_) (i:Nat):(Ix bx fn i).ft=if i<fn.length/\0<(fn.getD i 0).toNat then some (Ly.getD ((fn.getD i 0).toNat % 14) []) else none:=rfl
theorem A3d {k:Nat} (h:k<Ly.length):some (G7 Ly[k])=some (.string (bs (Ly.getD k []))):=by rw [BY,Aj h];rfl
theorem A4A {bx fn:l8_} {b:Option Int} (hb:OkB b) (n:Nat):-1<=b.getD ((E0 bx fn n).foldl HK (-1))/\b.getD ((E0 bx fn n).foldl HK (-1))<=255:=by
 obtain ⟨c,d⟩:=XG bx fn n
 have h:=(QV (E0 bx fn n) (i:=⟨none,none⟩) (w:=-1) (f:=-1) ⟨.inl ⟨rfl,rfl⟩,.inl ⟨rfl,rfl⟩⟩ c d).box
 cases b with
 | none=>show -1<=(E0 bx fn n).foldl HK (-1)/\(E0 bx fn n).foldl HK (-1)<=255;omega
 | some a=>have:=hb a rfl;show -1<=a/\a<=255;omega
theorem LY (pb:Option Addr) (bx:l8_) (cb:Nat) (own:Int) (pf:Option Addr) (fn:l8_) (cf:Nat) (w:World) (hb:Ag w pb bx) (hf:Ag w pf fn) (hown:0<=own/\own<=255) (hN:ZN w) :
  Cb 3 #[.slice pb bx.length cb,.int .u8 own,.slice pf fn.length cf] w (.bool true):=by
 have jo:Dh (λk=>k<w.heap.size) w:=⟨hN.lt,hN⟩
 have jp:0<bx.length->(pA pb).block<w.heap.size:=λj=>hb.lt j
 have jq:0<fn.length->(pA pf).block<w.heap.size:=λj=>hf.lt j
 refine Ar func3 rfl ntmps3 ?_
 have m3:=CN w
 refine A4<|A9 rfl<|A4<|A3 rfl<|A1 (.lenS B1 rfl)<|A9 rfl<|Ad<|A4<|Ao (Lq _ (jo).blk) (λw1 cM=>?_)
 have dv:=Dh.same (w1:=w1) jo (λk hk hl=>cM.block k hl)
 have jr:=DL hb cM (λj=>hb.lt j)
 have js:=DL hf cM (λj=>hf.lt j)
 have dw:=Ci m3 cM
 refine A1 (.not rfl)<|A3 rfl<|Az rfl<|A3 rfl<|Az rfl<|A1 (.gtr rfl rfl)<|A1 (.pkF rfl rfl rfl)<|A3 rfl<|Ck rfl rfl rfl (λg6=>?_) (λg6=>?_)
 have m4:=dF g6
 refine A3 rfl<|Az g6<|A1 (.lss rfl rfl)<|A1 (.pkF rfl g6 rfl)<|A0<|Ai rfl (λf=>?_) (λf=>?_)
 have m5:=dT f
 refine A4<|Ao (Lq _ (dv).blk) (λw8 m6=>?_)
 have jO:=Ci dw m6
 refine A9 rfl<|AW ?_
 exact ⟨rfl,jO⟩
 have m5:=dF f
 refine Ap<|A4<|Ao (LC kCa _) (λm7 bw=>?_)
 have jP:=Dh.same (w1:=m7) dv (λk hk hl=>bw.block k hl)
 have dx:=DL jr bw (λj=>jr.lt j)
 have dy:=DL js bw (λj=>js.lt j)
 have jQ:=Ci dw bw
 refine A1 (.build rfl (P1 F9 (CW (DK 4 0 kCa)))) ?_
 refine Ao (WB 2 _) (λm8 bz=>?_)
 have jR:=Dh.same (w1:=m8) jP (λk hk hl=>bz.block k hl)
 have dz:=DL dx bz (λj=>dx.lt j)
 have dA:=DL dy bz (λj=>dy.lt j)
 have dB:=Ci jQ bz
 refine A1 (.build rfl (P1 KQ (CW (DK 8 2 [])))) ?_
 refine Cq (L:=prL) (ps:=_) ([⟨F9,CW (DK 4 0 kCa)⟩,⟨KQ,CW (DK 8 2 [])⟩]) SP U5 Yk rfl rfl rfl rfl rfl (by rfl) rfl rfl (λm9 cm bA fD aV nC=>?_)
 have jS:=Dh.same (w1:=cm) jR (λk hk hl=>aV.other k oO)
 have fE:=λj=>bA▸dz.lt j
 have dC:=Ce dz aV fE
 have fF:=λj=>bA▸dA.lt j
 have dE:=Ce dA aV fF
 have jT:=uB dB bA aV
 have ma:=CF bA dB.size
 have dG:m9<=cm.heap.size:=by omega
 refine Bf BK rfl rfl ((LE (λq=>cm.heap.size<=q) [F9,KQ] [Ib kCa,oR 2] _ _ ⟨_,[⟨F9,CW (DK 4 0 kCa)⟩,⟨KQ,CW (DK 8 2 [])⟩],_,rfl,(fD).rowp,rfl,AH.cons (EC _ _ 4 0 _ dD dD) (AH.cons (EC _ _ 8 2 _ dD dD) (AH.nil _ _))⟩ (λq hq=>hq) dD dD)) (λu mb az=>?_)
 have nD:=C9 dG az.2.size
 have jU:=Dh.same (w1:=mb) jS (λk hk hl=>az.2.block k hl)
 have dH:=DL dC az.2 (λj=>dC.lt j)
 have dI:=DL dE az.2 (λj=>dE.lt j)
 have dJ:=Ci jT az.2
 obtain ⟨dK,rfl,mc⟩:=az.1
 have o4:=(az.2).size
 refine Cq (L:=EN) (ps:=_) ([dK]) C2 CU Cz rfl rfl rfl rfl rfl (by rfl) rfl rfl (λcN b4 bB cO aC nG=>?_)
 have jV:=Dh.same (w1:=b4) jU (λk hk hl=>aC.other k oO)
 have jW:=AB.same (w1:=b4) mc (λk hk hl=>aC.other k oO)
 have fG:=λj=>bB▸dH.lt j
 have jX:=Ce dH aC fG
 have fH:=λj=>bB▸dI.lt j
 have jY:=Ce dI aC fH
 have jZ:=uB dJ bB aC
 have md:=CF bB dJ.size
 have me:cN<=b4.heap.size:=by omega
 refine A9 rfl<|A4<|Ct rfl<|A9 rfl<|Ad<|A4<|A9 rfl<|AO ?_
 have j':=AD.base (C:=w.heap.size) cO (λg hg=>by have:=((cO).lt g hg).1;omega)
 have k0:AH b4 (λq=>q<(b4).heap.size/\(Value.slice (some ⟨cN,0,none⟩) 1 1).ownBlock≠some q) [dK] (caO::LU 2 (E0 bx fn 0)):=AH.cons ((jW).mono λq hq ah=>⟨ah,λe=>by have f:cN=q:=C3 e;omega⟩) (AH.nil _ _)
 refine BM (α:=Nat × Value × List AC) (λt=>[(0,.slice pb bx.length cb),(1,.int .u8 own),(2,.slice pf fn.length cf),(6,.bool false),(7,Af (bx.length:Int)),(8,t.2.1),(9,Af (List.foldl HK (-1) (E0 bx fn t.1))),(10,Af (List.foldl N2 (-1) (E0 bx fn t.1))),(11,Af (t.1:Int))]) (λt w'=>AL w w'/\Dh (λk=>k<w.heap.size) w'/\Ag w' pb bx/\Ag w' pf fn/\AD EN 27 w.heap.size w' t.2.1 t.2.2/\AH w' (λq=>q<w'.heap.size/\t.2.1.ownBlock≠some q) t.2.2 (caO::LU 2 (E0 bx fn t.1))/\t.1<=bx.length) (λt=>bx.length-t.1) ((0,.slice (some ⟨cN,0,none⟩) 1 1,[dK])) ⟨rfl,rfl,rfl,rfl,rfl,rfl,rfl,rfl,rfl,tT⟩ (⟨jZ,jV,jX,jY,j',k0,FI _⟩) (λt w1 hR=>?_)
 obtain ⟨⟨c,v,ys⟩,b7⟩:=eX t
 subst b7
 obtain ⟨wL,rfl⟩:=eX w1
 obtain ⟨q1,q2,q3,q4,cP,cQ,q7⟩:=hR
 simp only at cP cQ q7
 have jt:w.heap.size<=wL.heap.size:=q1.size
 have b8:∀ g,v.ownBlock=some g->g<wL.heap.size:=λg hg=>(cP.lt g hg).2
 have oC:ys.length=c+1:=by rw [cQ.len,Aa,HT,KM]
 have ju:AL wL wL:=Gb _ _
 have bAt:∀ w2,AL wL w2->Ag w2 pb bx:=λw2 h=>q3.same λj=>h.block _ (by have:=jp j;omega)
 have fAt:∀ w2,AL wL w2->Ag w2 pf fn:=λw2 h=>q4.same λj=>h.block _ (by have:=jq j;omega)
 refine Ad<|A4<|A3 rfl<|A3 rfl<|A1 (.lss rfl rfl)<|A0<|Ai rfl (λdL=>?_) (λdL=>?_)
 have k1:=dT dL
 refine Ap<|Ad<|AO<|A4<|Ao (LC KQ _) (λoD dM=>?_)
 have k2:=Ci ju dM
 have o5:=(dM).size
 refine A1 (.build rfl (P1 F9 (CW (DK 4 0 KQ)))) ?_
 refine A3 rfl<|A1 (.iis (((2+c+1:Nat):Int)) (.add rfl rfl (Ba oO)) oO)<|Ao (WB ((2+c+1:Nat):Int) _) (λoE dN=>?_)
 have dO:=Ci k2 dN
 have o6:=(dN).size
 refine Cq (L:=EN) (ps:=_) ([CW (DK 8 ((2+c+1:Nat):Int) [])]) C2 CU Cz rfl rfl rfl rfl rfl (by rfl) rfl rfl (λb9 k3 dP fI fJ nH=>?_)
 have k4:=uB dO dP fJ
 have mf:wL.heap.size<=b9:=by rw [dP];exact dO.size
 have dQ:b9<=k3.heap.size:=by omega
 refine Ao (Tk _ 1 1 _) (λoG bC=>?_)
 have fK:=C9 dQ bC.size
 have k5:=AD.below fI bC
 have k6:=Ci k4 bC
 have o7:=(bC).size
 refine A1 (.build rfl (P1 Tn (SJ (some ⟨b9,0,none⟩) 1 1))) ?_
 refine Ao (In 1 _) (λoH bD=>?_)
 have fL:=C9 fK bD.size
 have k7:=AD.below k5 bD
 have dR:=Ci k6 bD
 have o8:=(bD).size
 refine A1 (.build rfl (P1 OT (CW (DK 2 1 [])))) ?_
 refine Cq (L:=prL) (ps:=_) ([⟨F9,CW (DK 4 0 KQ)⟩,⟨Tn,SJ (some ⟨b9,0,none⟩) 1 1⟩,⟨OT,CW (DK 2 1 [])⟩]) SP U5 Yk rfl rfl rfl rfl rfl (by rfl) rfl rfl (λjv dS cn fM bE nI=>?_)
 have fN:=C9 fL bE.size
 have dU:=Fs k7 cn bE
 have dV:=uB dR cn bE
 have mg:wL.heap.size<=jv:=by rw [cn];exact dR.size
 have dW:jv<=dS.heap.size:=by omega
 obtain ⟨NA,bv⟩:=eX ((dS).heap.size)
 have co:=A54 (S:=λq=>wL.heap.size<=q/\q<NA) ((2+c+1:Nat):Int) b9 (dU).rowp ⟨oO,bv▸((dU).lt _ rfl).2⟩ oO
 refine Bf BK rfl rfl ((Qo _ [⟨F9,CW (DK 4 0 KQ)⟩,⟨Tn,SJ (some ⟨b9,0,none⟩) 1 1⟩,⟨OT,CW (DK 2 1 [])⟩] _ _ (fM).rowp (by simp))) (λz jw a8=>?_)
 have nJ:=C9 fN a8.1.size
 have nK:=C9 dW a8.1.size
 have k8:=AH.same (w1:=jw) co (λk hk hl=>a8.1.block k hl)
 have dX:=Ci dV a8.1
 obtain ⟨⟨kp,kc⟩,lp,lc⟩:=z
 have o9:=(a8.1).size
 have bY:AD G8 9 wL.heap.size _ _ [F9,Tn,OT]:=AD.base (C:=wL.heap.size) a8.2.1 (λg hg=>by have:=((a8.2.1).lt g hg).1;omega)
 have bZ:AD EN 27 wL.heap.size _ _ [CW (DK 4 0 KQ),SJ (some ⟨b9,0,none⟩) 1 1,CW (DK 2 1 [])]:=AD.base (C:=wL.heap.size) a8.2.2 (λg hg=>by have:=((a8.2.2).lt g hg).1;omega)
 have cR:wL.heap.size<=(jw).heap.size:=by have:=(dV).size;have:=(a8.1).size;omega
 have b':=λg hg=>bv▸((a8.2.1).lt g hg).1
 have c0:=λg hg=>bv▸((a8.2.2).lt g hg).1
 have ax:=λg hg=>(bY.lt g hg).2
 have aD:=λg hg=>(bZ.lt g hg).2
 refine Bj Cz rfl (λP k9 bG fO ar nL=>?_)
 have fP:=C9 cR ar.size
 have ka:=Fs bY bG ar
 have fQ:=C9 cR ar.size
 have kb:=Fs bZ bG ar
 have kd:=AH.same (w1:=k9) k8 (λk hk hl=>ar.other k oO)
 have ke:=uB dX bG ar
 have mh:wL.heap.size<=P:=by rw [bG];exact dX.size
 refine Ax rfl rfl fO Al rfl rfl (λdY aW au nM=>?_)
 have fR:=C9 fP au.size
 have dZ:=GI ka au ((λg hg e=>by (have:=ax g hg;omega)))
 have fS:=C9 fQ au.size
 have d':=GI kb au ((λg hg e=>by (have:=aD g hg;omega)))
 have kg:=AH.same (w1:=dY) kd (λk hk hl=>au.other k (by (have f:=hk.1;have h8:=hk.2;omega)))
 have bH:=BU ke oO au
 refine A0<|If (α:=Value × Value × List AC) (λt=>[(0,.slice pb bx.length cb),(1,.int .u8 own),(2,.slice pf fn.length cf),(6,.bool false),(7,Af (bx.length:Int)),(8,v),(9,Af (HK (List.foldl HK (-1) (E0 bx fn c)) (Ix bx fn c))),(10,Af (List.foldl N2 (-1) (E0 bx fn c))),(11,Af (c:Int)),(12,ptV P)]) (λt w'=>AL wL w'/\DcI wL.heap.size wL.heap.size P ([F9,Tn,OT]++Ro (Ix bx fn c).bx Pe) ([Ib KQ,oA [oR ((2+c+1:Nat):Int)],oN 1]++QW (Ix bx fn c).bx X6) t.1 t.2.1 t.2.2 w') ?_ (λt w1 hR=>?_)
 refine Ad ?_
 have hD:DcI wL.heap.size wL.heap.size P [F9,Tn,OT] [Ib KQ,oA [oR ((2+c+1:Nat):Int)],oN 1] (.slice kp 3 kc) (.slice lp 3 lc) [CW (DK 4 0 KQ),SJ (some ⟨_,0,none⟩) 1 1,CW (DK 2 1 [])] dY:=⟨aW,dZ,d',(kg).mono λq hq ah=>⟨⟨hq.1,ah,oO⟩,λe=>by have:=b' q e;omega,λe=>by have:=c0 q e;omega⟩,λg hg=>⟨by have:=b' g hg;omega,λe=>by have:=ax g hg;omega⟩,λg hg=>⟨by have:=c0 g hg;omega,λe=>by have:=aD g hg;omega⟩⟩
 have cS:=bAt _ bH
 refine Am<|A3 rfl<|A3 rfl<|A1 (.ixb B1 EA rfl rfl (cS.isp oO) (c) (rfl) oO)<|Ah (Bq (Iz _) rfl (cS.cells (c) oO))<|A1 (.gtr rfl rfl)<|A0<|Ai rfl (λe0=>?_) (λe0=>?_)
 have kh:=dT e0
 have ebx:(Ix bx fn c).bx=some (bx[c].toNat:Int):=by rw [A0X bx fn c oO,A7 aS]
 have mi:=bx[c].toNat_lt
 have ewo:=TR (w:=List.foldl HK (-1) (E0 bx fn c)) ebx
 obtain ⟨M1,jx⟩:=eX ((dY).heap.size)
 refine A4<|A3 rfl<|A3 rfl<|A1 (.ixb B1 EA rfl rfl (cS.isp oO) (c) (rfl) oO)<|Ah (Bq (Iz _) rfl (cS.cells (c) oO))<|A1 (.iis (HK (List.foldl HK (-1) (E0 bx fn c)) (Ix bx fn c)) (.cvt FK Mu rfl (Ba oO)) (by rw [TR ebx]))<|A9 rfl<|A4<|A1 (.fa Ay rfl DU dD rfl)<|Ah (Ae (Fg _) rfl aW rfl)<|Cs (ps:=_) Dy FH ZL rfl rfl rfl rfl rfl pR rfl (λmj ki ba fT ao nN=>?_)
 have cT:=C9 fR ao.size
 have e1:=Fs dZ ba ao
 have fU:=C9 fS ao.size
 have cq:=Fs d' ba ao
 have kj:=AH.same (w1:=ki) hD.els (λk hk hl=>ao.other k oO)
 have kk:=Bl ba aW.lt
 have kl:=aW.un ao kk
 have km:=uB bH ba ao
 have mk:wL.heap.size<=mj:=by rw [ba];exact bH.size
 have c3:=AG.lit (V:=G8) (l:=[Pe]) fT (rfl)
 refine BS Dy Ma rfl rfl rfl e1 rfl c3 oF (cT) rfl (λh=>nomatch h) (λml oI cU aX bI fV=>?_)
 have ko:=kl.grown bI (λe=>by exact (hD.kn _ e).2 rfl)
 have fW:=AH.same kj (λk hk hl=>bI.block k hl (λe=>by exact hk.2.1 e.symm))
 have fX:=AD.same cq (λg hg=>bI.block g ((cq).lt g hg).2 (λhx=>DA e1 cq dD g hx.symm hg))
 have e2:=C9 fU aX.size
 have fY:=Ej km (aX.mono (oO))
 have e3:=C9 cT aX.size
 have oa:=aX.size
 have ap:=fV
 refine A1 (.fa Ay rfl DU dD rfl)<|Br DU rfl rfl (cU).one ko (by exact Nat.le_of_ble_eq_true rfl) (λcr bb a4 mm=>?_)
 have bb:B0 cr P _ _:=bb
 have a4:CK P _ _:=a4
 have e4:=C9 e3 a4.size
 have cV:=GI cU a4 ((λg hg e=>by (rcases ap g hg with f | f;exact (hD.kn g f).2 e;omega)))
 have e5:=C9 e2 a4.size
 have fZ:=GI fX a4 ((λg hg e=>by (have:=aD g hg;omega)))
 have f':=AH.same (w1:=cr) fW (λk hk hl=>a4.other k (by exact hk.1.2.2))
 have g0:=BU fY oO a4
 refine A0<|?_
 obtain ⟨M2,c4⟩:=eX cr.heap.size
 have bc:∀ g,(ml).ownBlock=some g->g<M2:=λg hg=>by rw [c4];exact ((cV).lt g hg).2
 refine Fe 13 rfl BR (λkq a1=>?_)
 have e6:=Fn e4 a1
 have g1:=AD.drew cV a1
 have e7:=Fn e5 a1
 have g2:=AD.drew fZ a1
 have g3:=AH.same (w1:=kq) f' (λk hk hl=>(by obtain ⟨m,rfl⟩:=a1;rfl))
 have aY:=bb.drew a1
 have g4:=C6.below g0 a1
 refine AI 0 rfl (.fa Ay rfl Cr dD rfl) rfl<|AI 4 rfl (.mv rfl) rfl<|Ka [(12,ptV P),(73,_),(77,Af (HK (List.foldl HK (-1) (E0 bx fn c)) (Ix bx fn c))),(0,.slice pb bx.length cb),(1,.int .u8 own),(2,.slice pf fn.length cf),(6,.bool false),(7,Af (bx.length:Int)),(8,v),(9,Af (HK (List.foldl HK (-1) (E0 bx fn c)) (Ix bx fn c))),(10,Af (List.foldl N2 (-1) (E0 bx fn c))),(11,Af (c:Int))] [⟨1,74,[],(λv _=>v=(.slice lp 3 lc)),false⟩,⟨2,75,[],(LR (λq=>M2<=q) (oN 0)),false⟩,⟨3,76,[],(LR (λq=>M2<=q) (oN 0)),false⟩,⟨5,78,[],(LR (λq=>M2<=q) (oN (HK (List.foldl HK (-1) (E0 bx fn c)) (Ix bx fn c)))),false⟩,⟨6,79,[],(LR (λq=>M2<=q) (oN 7)),false⟩,⟨7,80,[(2,75),(3,76),(5,78),(6,79)],(MW (λq=>M2<=q) [oN 0,oN 0,oN (HK (List.foldl HK (-1) (E0 bx fn c)) (Ix bx fn c)),oN 7]),false⟩,⟨8,81,[(7,80)],(LR (λq=>M2<=q) (X6 (HK (List.foldl HK (-1) (E0 bx fn c)) (Ix bx fn c)))),false⟩,⟨9,82,[(8,81)],(MW (λq=>M2<=q) [X6 (HK (List.foldl HK (-1) (E0 bx fn c)) (Ix bx fn c))]),false⟩] 3 ⟨rfl,rfl,rfl,rfl,rfl,rfl,rfl,rfl,rfl,rfl,rfl,rfl,tT⟩ rfl kR ⟨⟨(λ_ _ _ h _=>h),λh=>nomatch h⟩,⟨LR.up,λh=>nomatch h⟩,⟨LR.up,λh=>nomatch h⟩,⟨LR.up,λh=>nomatch h⟩,⟨LR.up,λh=>nomatch h⟩,⟨MW.up,λh=>nomatch h⟩,⟨LR.up,λh=>nomatch h⟩,⟨MW.up,λh=>nomatch h⟩,tT⟩ ⟨?_,?_,?_,?_,?_,?_,?_,?_,tT⟩ (λg kr hs b hE hA=>?_)
 intro K g w1 hs b hd k
 have a:FL [(73,_)] g:=⟨hs.look rfl,tT⟩
 refine ⟨_,rfl,WL.front _ a ?_⟩
 refine Ah (Ae (Dv _) rfl (aY.below b aY.lt) rfl)<|A0<|?_
 exact k _ _ _ (Es.front a) rfl (Gb _ _) (λh=>nomatch h)
 intro K g w1 hs b hd k
 have a:FL [] g:=trivial
 refine ⟨_,rfl,WL.front _ a ?_⟩
 refine Ao (In 0 _) (λw5 U=>A0<|?_)
 exact k _ _ _ (Es.front a) (J7 _ 0 _ dD) U (λh=>nomatch h)
 intro K g w1 hs b hd k
 have a:FL [] g:=trivial
 refine ⟨_,rfl,WL.front _ a ?_⟩
 refine Ao (In 0 _) (λw5 U=>A0<|?_)
 exact k _ _ _ (Es.front a) (J7 _ 0 _ dD) U (λh=>nomatch h)
 intro K g w1 hs b hd k
 have a:FL [(77,Af (HK (List.foldl HK (-1) (E0 bx fn c)) (Ix bx fn c)))] g:=⟨hs.look rfl,tT⟩
 refine ⟨_,rfl,WL.front _ a ?_⟩
 refine Ao (In (HK (List.foldl HK (-1) (E0 bx fn c)) (Ix bx fn c)) _) (λw5 U=>A0<|?_)
 exact k _ _ _ (Es.front a) (J7 _ (HK (List.foldl HK (-1) (E0 bx fn c)) (Ix bx fn c)) _ oO) U (λh=>nomatch h)
 intro K g w1 hs b hd k
 have a:FL [] g:=trivial
 refine ⟨_,rfl,WL.front _ a ?_⟩
 refine Ao (In 7 _) (λw5 U=>A0<|?_)
 exact k _ _ _ (Es.front a) (J7 _ 7 _ dD) U (λh=>nomatch h)
 intro K g w1 hs b hd k
 obtain ⟨⟨mn,mo,mp⟩,⟨mq,mr,mt⟩,⟨mu,mw,mx⟩,⟨my,mz,mA⟩,-⟩:=hd
 have a:FL [(75,mn),(76,mq),(78,mu),(79,my)] g:=⟨mo,mr,mw,mz,tT⟩
 refine ⟨_,rfl,WL.front _ a ?_⟩
 obtain ⟨jy,rfl,mB⟩:=mp
 obtain ⟨jz,rfl,mC⟩:=mt
 obtain ⟨jA,rfl,mD⟩:=mx
 obtain ⟨jB,rfl,mE⟩:=mA
 refine Cq (L:=EN) (ps:=_) ([jy,jz,jA,jB]) C2 CU Cz rfl rfl rfl rfl rfl (by rfl) rfl rfl (λb5 w5 D X y aQ=>A0<|?_)
 exact k _ _ _ (Es.front a) (KA [jy,jz,jA,jB] X.rowp (AH.cons mB (AH.cons mC (AH.cons mD (AH.cons mE (AH.nil _ _))))) (BU (Gb _ _) (Nat.le_of_eq D.symm) y) (by have:=b.size;have:=C6.size a1;show M2<=_;omega) (by simp)) (BU (Gb _ _) (Nat.le_of_eq D.symm) y) (λh=>nomatch h)
 intro K g w1 hs b hd k
 obtain ⟨⟨mF,mG,mH⟩,-⟩:=hd
 have a:FL [(80,mF)] g:=⟨mG,tT⟩
 refine ⟨_,rfl,WL.front _ a ?_⟩
 obtain ⟨b6,n6,rfl,h6⟩:=XB mH
 refine Ao (Tk _ n6 n6 _) (λw5 U=>A0<|?_)
 exact k _ _ _ (Es.front a) (LR.up _ _ _ h6 U) U (λh=>nomatch h)
 intro K g w1 hs b hd k
 obtain ⟨⟨mI,mJ,mK⟩,-⟩:=hd
 have a:FL [(81,mI)] g:=⟨mJ,tT⟩
 refine ⟨_,rfl,WL.front _ a ?_⟩
 obtain ⟨jC,rfl,mL⟩:=mK
 refine Cq (L:=EN) (ps:=_) ([jC]) C2 CU Cz rfl rfl rfl rfl rfl (by rfl) rfl rfl (λb5 w5 D X y aQ=>A0<|?_)
 exact k _ _ _ (Es.front a) (KA [jC] X.rowp (AH.cons mL (AH.nil _ _)) (BU (Gb _ _) (Nat.le_of_eq D.symm) y) (by have:=b.size;have:=C6.size a1;show M2<=_;omega) (by simp)) (BU (Gb _ _) (Nat.le_of_eq D.symm) y) (λh=>nomatch h)
 obtain ⟨⟨mM,mN,mO⟩,-,-,-,-,-,-,⟨mP,mQ,mR⟩,-⟩:=hE
 refine WY.front [(74,mM),(82,mP),(12,ptV P),(73,_),(77,Af (HK (List.foldl HK (-1) (E0 bx fn c)) (Ix bx fn c))),(0,.slice pb bx.length cb),(1,.int .u8 own),(2,.slice pf fn.length cf),(6,.bool false),(7,Af (bx.length:Int)),(8,v),(9,Af (HK (List.foldl HK (-1) (E0 bx fn c)) (Ix bx fn c))),(10,Af (List.foldl N2 (-1) (E0 bx fn c))),(11,Af (c:Int))] ⟨mN,mQ,hs.look rfl,hs.look rfl,hs.look rfl,hs.look rfl,hs.look rfl,hs.look rfl,hs.look rfl,hs.look rfl,hs.look rfl,hs.look rfl,hs.look rfl,hs.look rfl,tT⟩ ?_
 have e8:=C9 e6 b.size
 have bJ:=AD.below g1 b
 have c5:=C9 e7 b.size
 have cW:=AD.below g2 b
 have g5:=AH.same (w1:=kr) g3 (λk hk hl=>b.block k hl)
 have g7:=aY.below b aY.lt
 have g8:=Ci g4 b
 subst mO
 obtain ⟨oJ,ob,rfl,kt,A7i,oc,ku⟩:=mR
 have jD:=b.size
 have jE:=C6.size a1
 refine Av 10 rfl<|BS C2 EZ rfl rfl rfl cW rfl kt (by (simp only [A8,Aa,Ak];omega)) (c5) rfl (λ_=>.inr (by simp)) (λe9 od c6 bd aE ea=>?_)
 have g9:=g7.grown aE (λe=>by exact (hD.ln _ e).2 rfl)
 have ga:=AH.same g5 (λk hk hl=>aE.block k hl (λe=>by exact hk.2.2 e.symm))
 have gb:=AH.same ku (λk hk hl=>aE.block k hl (λe=>by (have f:=(hD.row.lt k e.symm).2;have:=hk.1;omega)))
 have gc:=AD.same bJ (λg hg=>aE.block g ((bJ).lt g hg).2 (λhx=>DA cW bJ dD g hx.symm hg))
 have eb:=C9 e8 bd.size
 have ge:=Ej g8 (bd.mono (oO))
 have ec:=C9 c5 bd.size
 have aR:=ea
 refine A0<|AI 11 rfl (.fa Ay rfl Cr dD rfl) rfl<|Av 12 rfl<|Br Cr rfl rfl (c6).one g9 (by exact Nat.le_of_ble_eq_true rfl) (λct be E mS=>?_)
 have be:B0 ct P _ _:=be
 have E:CK P _ _:=E
 have mT:=C9 eb E.size
 have gf:=GI gc E ((λg hg e=>by (rcases ap g hg with f | f;exact (hD.kn g f).2 e;omega)))
 have mU:=C9 ec E.size
 have gg:=GI c6 E ((λg hg e=>by (rcases aR g hg with f | f;exact (hD.ln g f).2 e;omega)))
 have gh:=AH.same (w1:=ct) ga (λk hk hl=>E.other k (by exact hk.1.2.2))
 have gi:=AH.same (w1:=ct) gb (λk hk hl=>E.other k (by (have:=hk.1;omega)))
 have gj:=BU ge oO E
 refine A0<|Bn kR ?_
 exact ⟨(_,_,_),⟨rfl,rfl,rfl,rfl,rfl,rfl,rfl,rfl,rfl,rfl,tT⟩,gj,by rw [ebx];exact hD.add be gf gg gh (by have hz:=gi;rw [ewo] at hz;exact hz) ap (λq hq=>⟨by have hq:M2<=q:=hq;omega,λe=>by have hq:M2<=q:=hq;have:=bc q e;omega⟩) aR oO oO oO⟩
 have kh:=dF e0
 have ebx:(Ix bx fn c).bx=none:=by rw [A0X bx fn c oO,A2 aS]
 refine Ap ?_
 exact ⟨(_,_,_),⟨rfl,rfl,rfl,rfl,rfl,rfl,(by rw [ZR ebx];rfl),rfl,rfl,rfl,tT⟩,bH,by rw [ebx];simpa [Ro,QW] using hD⟩
 obtain ⟨⟨kv,lv,ls⟩,b7⟩:=eX t
 subst b7
 obtain ⟨Q,hD⟩:=hR
 simp only at hD
 have ed:wL.heap.size<=w1.heap.size:=by have:=Q.size;omega
 have oe:ls.length<=4:=by rw [hD.els.len,A8];cases (Ix bx fn c).bx <;> simp [QW]
 have jF:=hD.blk.lt
 have ax:=λg hg=>(hD.keys.lt g hg).2
 have aD:=λg hg=>(hD.row.lt g hg).2
 have oK:(Ro (Ix bx fn c).bx Pe).length<=1:=by cases (Ix bx fn c).bx <;> simp [Ro]
 refine If (α:=Value × Value × List AC) (λt=>[(0,.slice pb bx.length cb),(1,.int .u8 own),(2,.slice pf fn.length cf),(6,.bool false),(7,Af (bx.length:Int)),(8,v),(9,Af (HK (List.foldl HK (-1) (E0 bx fn c)) (Ix bx fn c))),(10,Af (N2 (List.foldl N2 (-1) (E0 bx fn c)) (Ix bx fn c))),(11,Af (c:Int)),(12,ptV P)]) (λt w'=>AL wL w'/\DcI wL.heap.size wL.heap.size P (([F9,Tn,OT]++Ro (Ix bx fn c).bx Pe)++Ro (Ix bx fn c).ft UM) (([Ib KQ,oA [oR ((2+c+1:Nat):Int)],oN 1]++QW (Ix bx fn c).bx X6)++QW (Ix bx fn c).ft rsO) t.1 t.2.1 t.2.2 w') ?_ (λt w1 hR=>?_)
 have cX:=fAt _ Q
 refine FT 95 (decide (c<fn.length/\0<(fn.getD c 0).toNat)) ?_ ?_
 refine Am<|A3 rfl<|A3 rfl<|A1 (.lenS B1 rfl)<|A1 (.lss rfl rfl)<|A3 rfl<|Ck rfl rfl rfl (λa0=>?_) (λa0=>?_)
 have gk:=dT a0
 refine A3 rfl<|Az a0<|A3 rfl<|Az a0<|A1 (.ixb B1 EA rfl rfl (cX.isp oO) (c) (rfl) oO)<|Az a0<|Ah (Bq (Iz _) rfl (cX.cells (c) oO))<|Az a0<|A1 (.gtr rfl rfl)<|A1 (.pkT rfl a0 rfl)<|A0<|?_
 exact ⟨Gy (DM rfl (by (rw [A5h fn c oO,AY];simp only [AF];omega))),rfl⟩
 have gk:=dF a0
 refine Bc a0<|Bc a0<|Bc a0<|Bc a0<|A1 (.pkF rfl a0 rfl)<|A0<|?_
 exact ⟨Gy (DM rfl (by (exact (AJ oO).symm))),rfl⟩
 refine Ai rfl (λcu=>?_) (λcu=>?_)
 have gl:=dT cu
 obtain ⟨ee,kw⟩:=dT (show decide (c<fn.length/\0<(fn.getD c 0).toNat)=true by assumption)
 obtain ⟨kf,cY⟩:=eX ((fn.getD c 0).toNat % 14)
 have jG:kf<Ly.length:=by rw [Nk,cY];exact Nat.mod_lt _ dD
 have ef:kf<14:=by rw [cY];exact Nat.mod_lt _ dD
 have eft:(Ix bx fn c).ft=some (Ly.getD kf []):=by rw [A0W,A7 ⟨ee,kw⟩,cY]
 have jH:=(Tc kf ef).2
 have efo:N2 (List.foldl N2 (-1) (E0 bx fn c)) (Ix bx fn c)=(kf:Int):=by unfold N2;rw [eft];exact BJ _ (Tc kf ef).1
 have mV:=A5h fn c ee
 have mi:=fn[c].toNat_lt
 obtain ⟨tn,eg⟩:=eX (Ly.getD kf [])
 rw [<- eg] at eft jH
 have mW:tn.length<=9223372036854775807:=C9 jH.2.2 dD
 obtain ⟨M1,jx⟩:=eX ((w1).heap.size)
 refine A4<|A3 rfl<|A3 rfl<|A1 (.ixb B1 EA rfl rfl (cX.isp oO) (c) (rfl) oO)<|Ah (Bq (Iz _) rfl (cX.cells (c) oO))<|A1 (.rem rfl rfl oO (Int.tmod_eq_emod_of_nonneg oO))<|A1 (.iis (N2 (List.foldl N2 (-1) (E0 bx fn c)) (Ix bx fn c)) (.cvt FK Mu rfl (Ba oO)) (by rw [efo,cY,mV];omega))<|A9 rfl<|A4<|Ao (LC Kg _) (λkx ad=>?_)
 have eh:=C9 ed ad.size
 have gm:=AD.below hD.keys ad
 have ei:=C9 ed ad.size
 have go:=AD.below hD.row ad
 have gp:=AH.same (w1:=kx) hD.els (λk hk hl=>ad.block k hl)
 have gq:=hD.blk.below ad hD.blk.lt
 have gr:=Ci Q ad
 have nO:=(ad).size
 refine A1 (.build rfl (P1 F9 (CW (DK 4 0 Kg)))) ?_
 refine Ao (LC Vs _) (λky ae=>?_)
 have ej:=C9 eh ae.size
 have gs:=AD.below gm ae
 have ek:=C9 ei ae.size
 have gt:=AD.below go ae
 have gv:=AH.same (w1:=ky) gp (λk hk hl=>ae.block k hl)
 have gw:=gq.bl ae
 have gx:=Ci gr ae
 have nP:=(ae).size
 refine A1 (.build rfl (P1 XL (CW (DK 4 0 Vs)))) ?_
 refine Bf BK rfl rfl ((Ou _)) (λnb kz a9=>?_)
 have el:=C9 ej a9.2.2.size
 have gz:=AD.below gs a9.2.2
 have em:=C9 ek a9.2.2.size
 have gA:=AD.below gt a9.2.2
 have gB:=AH.same (w1:=kz) gv (λk hk hl=>a9.2.2.block k hl)
 have gC:=gw.bl a9.2.2
 have gD:=Ci gx a9.2.2
 have jI:=a9.1
 have nQ:=(a9.2.2).size
 refine A3 rfl<|A1 (.ixb Dy FH rfl rfl (jI.isp oO) (kf) (efo) (jG))<|Ah (Bq (FX _) rfl ((jI.cells (kf) oO).trans (eg▸A3d jG)))<|Ao (LC tn _) (λkA af=>?_)
 have en:=C9 el af.size
 have gE:=AD.below gz af
 have eo:=C9 em af.size
 have gF:=AD.below gA af
 have gG:=AH.same (w1:=kA) gB (λk hk hl=>af.block k hl)
 have cZ:=gC.bl af
 have c':=Ci gD af
 have nR:=(af).size
 refine A1 (.build rfl (P1 Zb (CW (DK 4 0 tn)))) ?_
 refine Cq (L:=prL) (ps:=_) ([⟨F9,CW (DK 4 0 Kg)⟩,⟨XL,CW (DK 4 0 Vs)⟩,⟨Zb,CW (DK 4 0 tn)⟩]) SP U5 Yk rfl rfl rfl rfl rfl (by rfl) rfl rfl (λep bK aF eq aa mX=>?_)
 have er:=C9 en aa.size
 have gH:=Fs gE aF aa
 have es:=C9 eo aa.size
 have gI:=Fs gF aF aa
 have gJ:=AH.same (w1:=bK) gG (λk hk hl=>aa.other k oO)
 have gK:=Bl aF cZ.lt
 have gL:=cZ.un aa gK
 have gM:=uB c' aF aa
 have lT:wL.heap.size<=ep:=by rw [aF];exact c'.size
 have dt:ep<=bK.heap.size:=by omega
 obtain ⟨M0,oL⟩:=eX ((bK).heap.size)
 refine Bf BK rfl rfl ((LE (λq=>M0<=q) [F9,XL,Zb] [Ib Kg,Ib Vs,Ib tn] _ _ ⟨_,[⟨F9,CW (DK 4 0 Kg)⟩,⟨XL,CW (DK 4 0 Vs)⟩,⟨Zb,CW (DK 4 0 tn)⟩],_,rfl,(eq).rowp,rfl,AH.cons (EC _ _ 4 0 _ dD dD) (AH.cons (EC _ _ 4 0 _ dD dD) (AH.cons (EC _ _ 4 0 _ dD mW) (AH.nil _ _)))⟩ (λq hq=>by show M0<=q;omega) (by simp) (by intro x hx;simp only [A6,A5,As] at hx;rcases hx with rfl | rfl | rfl <;> decide))) (λu kB a2=>?_)
 have et:=C9 er a2.2.size
 have gN:=AD.below gH a2.2
 have eu:=C9 es a2.2.size
 have gO:=AD.below gI a2.2
 have mY:=C9 dt a2.2.size
 have gP:=AH.same (w1:=kB) gJ (λk hk hl=>a2.2.block k hl)
 have d0:=gL.bl a2.2
 have d1:=Ci gM a2.2
 obtain ⟨mZ,rfl,m'⟩:=a2.1
 have nS:=(a2.2).size
 refine Bj Cz rfl (λbL d2 aG ev a5 n0=>?_)
 have ew:=C9 et a5.size
 have gQ:=Fs gN aG a5
 have ex:=C9 eu a5.size
 have gR:=Fs gO aG a5
 have gS:=AH.same (w1:=d2) gP (λk hk hl=>a5.other k oO)
 have gT:=AB.same (w1:=d2) m' (λk hk hl=>a5.other k oO)
 have gU:=Bl aG d0.lt
 have gV:=d0.un a5 gU
 have gW:=uB d1 aG a5
 have lU:wL.heap.size<=bL:=by rw [aG];exact d1.size
 refine Ax rfl rfl ev Al rfl rfl (λey c7 a6 n1=>?_)
 have ez:=C9 ew a6.size
 have gX:=GI gQ a6 ((λg hg e=>by (have:=ax g hg;omega)))
 have eA:=C9 ex a6.size
 have gY:=GI gR a6 ((λg hg e=>by (have:=aD g hg;omega)))
 have gZ:=AH.same (w1:=ey) gS (λk hk hl=>a6.other k oM)
 have g':=AB.same (w1:=ey) gT (λk hk hl=>a6.other k oM)
 have bM:=gV.up a6
 have d3:=BU gW oO a6
 refine A0<|A4<|A1 (.fa Ay rfl DU dD rfl)<|Ah (Ae (Fg _) rfl bM rfl)<|Cs (ps:=_) Dy FH ZL rfl rfl rfl rfl rfl pR rfl (λkC d4 av eB F n2=>?_)
 have c8:=C9 ez F.size
 have d5:=Fs gX av F
 have eC:=C9 eA F.size
 have bN:=Fs gY av F
 have h3:=AH.same (w1:=d4) gZ (λk hk hl=>F.other k oO)
 have h4:=AB.same (w1:=d4) g' (λk hk hl=>F.other k oO)
 have h9:=Bl av bM.lt
 have hc:=bM.un F h9
 have he:=Bl av c7.lt
 have hh:=c7.un F he
 have hi:=uB d3 av F
 have lV:wL.heap.size<=kC:=by rw [av];exact d3.size
 have c3:=AG.lit (V:=G8) (l:=[UM]) eB (rfl)
 refine BS Dy Ma rfl rfl rfl d5 rfl c3 (by (simp only [A8,Aa,Ak];omega)) (c8) rfl (λh=>nomatch h) (λeD og ca aH aq eF=>?_)
 have hj:=hc.grown aq (λe=>by exact (hD.kn _ e).2 rfl)
 have hm:=hh.grown aq (λe=>by (have:=ax _ e;omega))
 have hn:=AH.same h3 (λk hk hl=>aq.block k hl (λe=>by exact hk.2.1 e.symm))
 have hp:=AB.same h4 (λk hk hl=>aq.block k hl (λe=>by (have f:=ax k e.symm;have:=hk.1;omega)))
 have hr:=AD.same bN (λg hg=>aq.block g ((bN).lt g hg).2 (λhx=>DA d5 bN dD g hx.symm hg))
 have eG:=C9 eC aH.size
 have ht:=Ej hi (aH.mono (oO))
 have eH:=C9 c8 aH.size
 have nU:=aH.size
 have ap:=eF
 refine A1 (.fa Ay rfl DU dD rfl)<|Br DU rfl rfl (ca).one hj (by exact Nat.le_of_ble_eq_true rfl) (λbO bg B n3=>?_)
 have bg:B0 bO P _ _:=bg
 have B:CK P _ _:=B
 have eI:=C9 eH B.size
 have d6:=GI ca B ((λg hg e=>by (rcases ap g hg with f | f;exact (hD.kn g f).2 e;omega)))
 have eJ:=C9 eG B.size
 have hu:=GI hr B ((λg hg e=>by exact (hD.ln g hg).2 e))
 have hv:=AH.same (w1:=bO) hn (λk hk hl=>B.other k (by exact hk.1.2.2))
 have hy:=AB.same (w1:=bO) hp (λk hk hl=>B.other k (by have:=hk.1;omega))
 have hB:=hm.up B
 have hC:=BU ht oO B
 refine A0<|?_
 obtain ⟨M2,c4⟩:=eX bO.heap.size
 have bc:∀ g,(eD).ownBlock=some g->g<M2:=λg hg=>by rw [c4];exact ((d6).lt g hg).2
 obtain ⟨T0,aT⟩:∃ T:Nat->Prop,∀ q,T q↔M0<=q/\(eD).ownBlock≠some q:=⟨_,λq=>Iff.rfl⟩
 refine Fe 13 rfl BR (λeK s=>?_)
 have eL:=Fn eI s
 have hF:=AD.drew d6 s
 have eM:=Fn eJ s
 have hG:=AD.drew hu s
 have hH:=AH.same (w1:=eK) hv (λk hk hl=>(by obtain ⟨m,rfl⟩:=s;rfl))
 have hI:=AB.same (w1:=eK) hy (λk hk hl=>(by obtain ⟨m,rfl⟩:=s;rfl))
 have aZ:=bg.drew s
 have d7:=hB.drew s
 have hJ:=C6.below hC s
 refine AI 0 rfl (.fa Ay rfl Cr dD rfl) rfl<|Ka [(12,ptV P),(13,ptV bL),(119,_),(0,.slice pb bx.length cb),(1,.int .u8 own),(2,.slice pf fn.length cf),(6,.bool false),(7,Af (bx.length:Int)),(8,v),(9,Af (HK (List.foldl HK (-1) (E0 bx fn c)) (Ix bx fn c))),(10,Af (N2 (List.foldl N2 (-1) (E0 bx fn c)) (Ix bx fn c))),(11,Af (c:Int))] [⟨1,120,[],(λv _=>v=lv),false⟩,⟨2,121,[],(LR T0 (QZ tn)),false⟩,⟨3,122,[(2,121)],(PrN T0 [88] (QZ tn)),false⟩,⟨4,123,[(3,122)],(TK T0 [[88]] [QZ tn]),false⟩,⟨5,124,[(4,123)],(LR T0 (Ic [[88]] [QZ tn])),false⟩,⟨6,125,[(5,124)],(PrN T0 Kg (Ic [[88]] [QZ tn])),false⟩,⟨7,126,[(6,125)],(TK T0 [Kg] [Ic [[88]] [QZ tn]]),false⟩,⟨8,127,[(7,126)],(LR T0 (Ic [Kg] [Ic [[88]] [QZ tn]])),false⟩,⟨9,128,[(8,127)],(MW T0 [rsO tn]),false⟩] 3 ⟨rfl,rfl,rfl,rfl,rfl,rfl,rfl,rfl,rfl,rfl,rfl,rfl,tT⟩ rfl kR ⟨⟨(λ_ _ _ h _=>h),λh=>nomatch h⟩,⟨LR.up,λh=>nomatch h⟩,⟨PrN.up,λh=>nomatch h⟩,⟨TK.up,λh=>nomatch h⟩,⟨LR.up,λh=>nomatch h⟩,⟨PrN.up,λh=>nomatch h⟩,⟨TK.up,λh=>nomatch h⟩,⟨LR.up,λh=>nomatch h⟩,⟨MW.up,λh=>nomatch h⟩,tT⟩ ⟨?_,?_,?_,?_,?_,?_,?_,?_,?_,tT⟩ (λg kD hs b hE hA=>?_)
 intro K g w1 hs b hd k
 have a:FL [(119,_)] g:=⟨hs.look rfl,tT⟩
 refine ⟨_,rfl,WL.front _ a ?_⟩
 refine Ah (Ae (Dv _) rfl (aZ.below b aZ.lt) rfl)<|A0<|?_
 exact k _ _ _ (Es.front a) rfl (Gb _ _) (λh=>nomatch h)
 intro K g w1 hs b hd k
 have a:FL [(13,ptV bL)] g:=⟨hs.look rfl,tT⟩
 refine ⟨_,rfl,WL.front _ a ?_⟩
 refine Ah (Bk rfl (d7.below b d7.lt) Ay rfl Al)<|A0<|?_
 exact k _ _ _ (Es.front a) ⟨mZ,rfl,((hI).mono (λk hk hl=>⟨(aT k).2 ⟨hk.1,λe=>by rcases ap k e with f | f;have:=ax k f;have:=hk.1;omega;have:=hk.2;omega⟩,hl⟩)).upN b⟩ (Gb _ _) (λh=>nomatch h)
 intro K g w1 hs b hd k
 obtain ⟨⟨kE,kF,kG⟩,-⟩:=hd
 have a:FL [(121,kE)] g:=⟨kF,tT⟩
 refine ⟨_,rfl,WL.front _ a ?_⟩
 obtain ⟨eN,rfl,kH⟩:=kG
 refine A1 (.build rfl (P1 [88] eN))<|A0<|?_
 exact k _ _ _ (Es.front a) ⟨eN,rfl,kH⟩ (Gb _ _) (λh=>nomatch h)
 intro K g w1 hs b hd k
 obtain ⟨⟨kI,kJ,kK⟩,-⟩:=hd
 have a:FL [(122,kI)] g:=⟨kJ,tT⟩
 refine ⟨_,rfl,WL.front _ a ?_⟩
 obtain ⟨eO,rfl,kL⟩:=kK
 refine Cq (L:=prL) (ps:=_) ([⟨[88],eO⟩]) SP U5 Yk rfl rfl rfl rfl rfl (by rfl) rfl rfl (λb5 w5 D X y aQ=>A0<|?_)
 exact k _ _ _ (Es.front a) (Uh [⟨[88],eO⟩] X.rowp (AH.cons kL (AH.nil _ _)) (BU (Gb _ _) (Nat.le_of_eq D.symm) y) rfl) (BU (Gb _ _) (Nat.le_of_eq D.symm) y) (λh=>nomatch h)
 intro K g w1 hs b hd k
 obtain ⟨⟨kM,kN,kO⟩,-⟩:=hd
 have a:FL [(123,kM)] g:=⟨kN,tT⟩
 refine ⟨_,rfl,WL.front _ a ?_⟩
 refine Bf BK rfl rfl (LE T0 [[88]] [QZ tn] _ _ kO (λq5 n4=>(aT q5).2 ⟨by have:=b.size;have:=C6.size s;omega,λe=>by have:=bc q5 e;have:=b.size;have:=C6.size s;omega⟩) (by simp) dD) (λu5 w5 U=>A0<|?_)
 exact k _ _ _ (Es.front a) U.1 U.2 (λh=>nomatch h)
 intro K g w1 hs b hd k
 obtain ⟨⟨kP,kQ,kS⟩,-⟩:=hd
 have a:FL [(124,kP)] g:=⟨kQ,tT⟩
 refine ⟨_,rfl,WL.front _ a ?_⟩
 obtain ⟨eP,rfl,kT⟩:=kS
 refine A1 (.build rfl (P1 Kg eP))<|A0<|?_
 exact k _ _ _ (Es.front a) ⟨eP,rfl,kT⟩ (Gb _ _) (λh=>nomatch h)
 intro K g w1 hs b hd k
 obtain ⟨⟨kU,kV,kW⟩,-⟩:=hd
 have a:FL [(125,kU)] g:=⟨kV,tT⟩
 refine ⟨_,rfl,WL.front _ a ?_⟩
 obtain ⟨eQ,rfl,kX⟩:=kW
 refine Cq (L:=prL) (ps:=_) ([⟨Kg,eQ⟩]) SP U5 Yk rfl rfl rfl rfl rfl (by rfl) rfl rfl (λb5 w5 D X y aQ=>A0<|?_)
 exact k _ _ _ (Es.front a) (Uh [⟨Kg,eQ⟩] X.rowp (AH.cons kX (AH.nil _ _)) (BU (Gb _ _) (Nat.le_of_eq D.symm) y) rfl) (BU (Gb _ _) (Nat.le_of_eq D.symm) y) (λh=>nomatch h)
 intro K g w1 hs b hd k
 obtain ⟨⟨kY,kZ,k'⟩,-⟩:=hd
 have a:FL [(126,kY)] g:=⟨kZ,tT⟩
 refine ⟨_,rfl,WL.front _ a ?_⟩
 refine Bf BK rfl rfl (LE T0 [Kg] [Ic [[88]] [QZ tn]] _ _ k' (λq5 n4=>(aT q5).2 ⟨by have:=b.size;have:=C6.size s;omega,λe=>by have:=bc q5 e;have:=b.size;have:=C6.size s;omega⟩) (by simp) dD) (λu5 w5 U=>A0<|?_)
 exact k _ _ _ (Es.front a) U.1 U.2 (λh=>nomatch h)
 intro K g w1 hs b hd k
 obtain ⟨⟨l0,l1,l2⟩,-⟩:=hd
 have a:FL [(127,l0)] g:=⟨l1,tT⟩
 refine ⟨_,rfl,WL.front _ a ?_⟩
 obtain ⟨eR,rfl,l3⟩:=l2
 refine Cq (L:=EN) (ps:=_) ([eR]) C2 CU Cz rfl rfl rfl rfl rfl (by rfl) rfl rfl (λb5 w5 D X y aQ=>A0<|?_)
 exact k _ _ _ (Es.front a) (KA [eR] X.rowp (AH.cons l3 (AH.nil _ _)) (BU (Gb _ _) (Nat.le_of_eq D.symm) y) ((aT _).2 ⟨by have:=b.size;have:=C6.size s;omega,λe=>by have:=bc _ e;have:=b.size;have:=C6.size s;omega⟩) (by simp)) (BU (Gb _ _) (Nat.le_of_eq D.symm) y) (λh=>nomatch h)
 obtain ⟨⟨l4,l5,l6⟩,-,-,-,-,-,-,-,⟨e9,l7,l8⟩,-⟩:=hE
 refine WY.front [(120,l4),(128,e9),(12,ptV P),(13,ptV bL),(119,_),(0,.slice pb bx.length cb),(1,.int .u8 own),(2,.slice pf fn.length cf),(6,.bool false),(7,Af (bx.length:Int)),(8,v),(9,Af (HK (List.foldl HK (-1) (E0 bx fn c)) (Ix bx fn c))),(10,Af (N2 (List.foldl N2 (-1) (E0 bx fn c)) (Ix bx fn c))),(11,Af (c:Int))] ⟨l5,l7,hs.look rfl,hs.look rfl,hs.look rfl,hs.look rfl,hs.look rfl,hs.look rfl,hs.look rfl,hs.look rfl,hs.look rfl,hs.look rfl,hs.look rfl,hs.look rfl,tT⟩ ?_
 have eS:=C9 eL b.size
 have bP:=AD.below hF b
 have cc:=C9 eM b.size
 have d8:=AD.below hG b
 have hK:=AH.same (w1:=kD) hH (λk hk hl=>b.block k hl)
 have hL:=aZ.below b aZ.lt
 have hM:=Ci hJ b
 subst l6
 obtain ⟨oh,nV,rfl,hO,hb128,nW,hP⟩:=l8
 have jD:=b.size
 have jE:=C6.size s
 refine Av 10 rfl<|BS C2 EZ rfl rfl rfl d8 rfl hO oO (cc) rfl (λ_=>.inr (by simp)) (λoi oj cd bh aI eT=>?_)
 have hQ:=hL.grown aI (λe=>by exact (hD.ln _ e).2 rfl)
 have hS:=AH.same hK (λk hk hl=>aI.block k hl (λe=>by exact hk.2.2 e.symm))
 have hT:=AH.same hP (λk hk hl=>aI.block k hl (λe=>by (have f:=((aT k).1 hk.1).1;have h8:=(hD.row.lt k e.symm).2;omega)))
 have hU:=AD.same bP (λg hg=>aI.block g ((bP).lt g hg).2 (λhx=>DA d8 bP dD g hx.symm hg))
 have eU:=C9 eS bh.size
 have hV:=Ej hM (bh.mono (oO))
 have eV:=C9 cc bh.size
 have aR:=eT
 refine A0<|AI 11 rfl (.fa Ay rfl Cr dD rfl) rfl<|Av 12 rfl<|Br Cr rfl rfl (cd).one hQ (by exact Nat.le_of_ble_eq_true rfl) (λcv bi G n5=>?_)
 have bi:B0 cv P _ _:=bi
 have G:CK P _ _:=G
 have n7:=C9 eU G.size
 have hX:=GI hU G ((λg hg e=>by (rcases ap g hg with f | f;exact (hD.kn g f).2 e;omega)))
 have n8:=C9 eV G.size
 have hY:=GI cd G ((λg hg e=>by (rcases aR g hg with f | f;exact (hD.ln g f).2 e;omega)))
 have hZ:=AH.same (w1:=cv) hS (λk hk hl=>G.other k (by exact hk.1.2.2))
 have h':=AH.same (w1:=cv) hT (λk hk hl=>G.other k (by (have:=((aT k).1 hk.1).1;omega)))
 have i1:=BU hV oO G
 refine A0<|Bn kR ?_
 exact ⟨(_,_,_),⟨rfl,rfl,rfl,rfl,rfl,rfl,rfl,rfl,rfl,rfl,tT⟩,i1,by rw [eft];exact hD.add bi hX hY hZ h' ap (λq hq=>⟨by have:=((aT q).1 hq).1;omega,((aT q).1 hq).2⟩) aR oO oO oO⟩
 have gl:=dF cu
 have eft:(Ix bx fn c).ft=none:=by rw [A0W,A2 (dF aS)]
 refine Ap ?_
 exact ⟨(_,_,_),⟨rfl,rfl,rfl,rfl,rfl,rfl,rfl,(by rw [A1v eft];rfl),rfl,rfl,tT⟩,Q,by rw [eft];simpa [Ro,QW] using hD⟩
 obtain ⟨⟨kv,lv,ls⟩,b7⟩:=eX t
 subst b7
 obtain ⟨Q,hD⟩:=hR
 simp only at hD
 have n9:=hD.els.len
 obtain ⟨yd,eyd,aU⟩:=hD.rep (by rw [hD.els.len];obtain ⟨c1,c2⟩:=Ix bx fn c;cases c1 <;> cases c2 <;> rfl) (by rw [AS];exact A3p _)
 have ay:=hD.blk
 rw [eyd] at ay
 have jF:=ay.lt
 rw [AS,AS] at aU
 have aU:AB w1 _ yd (Tg ((2+c+1:Nat):Int) (Ix bx fn c)):=aU
 have bj:AL w w1:=Ej q1 (Q.mono jt)
 have cw:=bAt _ Q
 have cy:=fAt _ Q
 have cz:=Dh.same q2 (λk hk _=>Q.block k oO)
 have cA:=cP.same (λg hg=>Q.block g (b8 g hg))
 have cB:=cQ.same (λk hk _=>Q.block k hk.1)
 refine Am<|A3 rfl<|Ah (Bk rfl ay Ay rfl Al)<|Cq (L:=EN) (ps:=_) ([yd]) C2 CU Cz rfl rfl rfl rfl rfl (by rfl) rfl rfl (λl9 a' aw eW ab na=>?_)
 have d9:=Fs cA aw ab
 have i2:=Dh.same (w1:=a') cz (λk hk hl=>ab.other k oO)
 have i3:=AH.same (w1:=a') cB (λk hk hl=>ab.other k oO)
 have i4:=AB.same (w1:=a') aU (λk hk hl=>ab.other k oO)
 have nX:=Bl aw ay.lt
 have eY:=λj=>aw▸cw.lt j
 have i5:=Ag.upd cw ab (λj=>CR (eY j))
 have eZ:=λj=>aw▸cy.lt j
 have i6:=Ag.upd cy ab (λj=>CR (eZ j))
 have da:=uB bj aw ab
 have lW:=CF aw bj.size
 have lX:l9<=a'.heap.size:=by omega
 refine BS C2 EZ rfl rfl rfl d9 rfl (eW).rowp (by (simp only [A8,Aa,Ak];omega)) (da.size) rfl (λh=>De h (Z8 _ _)) (λol om e' bk bm f0=>?_)
 have i7:=Dh.same i2 (λk hk hl=>bm.block k hl (λe=>by (have f:=((d9).lt k e.symm).1;omega)))
 have i8:=AH.same i3 (λk hk hl=>bm.block k hl (λe=>by exact hk.2 e.symm))
 have ia:=AB.same i4 (λk hk hl=>bm.block k hl (λe=>by (have f:=b8 k e.symm;have:=hk.1;omega)))
 have ib:=DL i5 bk jp
 have ic:=DL i6 bk jq
 have ie:=Ej da (bk.mono (oO))
 have f1:=f0
 refine A9 rfl<|Am<|A3 rfl<|A1 (.add rfl rfl (Ba oO))<|A9 rfl ?_
 exact ⟨(c+1,_,ys++[yd]),⟨rfl,rfl,rfl,rfl,rfl,rfl,(by rw [A5f];rfl),(by rw [A5g];rfl),rfl,tT⟩,⟨ie,i7,ib,ic,e',by
   rw [O3,UD,KM,<- Bb];refine AH.app ((i8).mono λq hq ah=>⟨ah,λe=>?_⟩) (AH.cons ((ia).mono λq hq ah=>⟨ah,λe=>?_⟩) (AH.nil _ _));rcases f1 q e with f | f;exact hq.2 f;have:=hq.1;omega;rcases f1 q e with f | f;have:=b8 q f;have:=hq.1;omega;have:=hq.2;omega,oM⟩,oM⟩
 have k1:=dF dL
 obtain rfl:c=bx.length:=by omega
 refine BF<|A4<|Ao (LC Ru _) (λoo db=>?_)
 have ig:=Ci ju db
 have nY:=(db).size
 refine A1 (.build rfl (P1 F9 (CW (DK 4 0 Ru)))) ?_
 refine A3 rfl<|A1 (.iis (((3+bx.length:Nat):Int)) (.add rfl rfl (Ba oO)) oO)<|Ao (WB ((3+bx.length:Nat):Int) _) (λoq dc=>?_)
 have dd:=Ci ig dc
 have nZ:=(dc).size
 refine A1 (.build rfl (P1 So (CW (DK 8 ((3+bx.length:Nat):Int) [])))) ?_
 refine Cq (L:=prL) (ps:=_) ([⟨F9,CW (DK 4 0 Ru)⟩,⟨So,CW (DK 8 ((3+bx.length:Nat):Int) [])⟩]) SP U5 Yk rfl rfl rfl rfl rfl (by rfl) rfl rfl (λf2 bQ de f3 f4 nc=>?_)
 have df:=uB dd de f4
 have lY:wL.heap.size<=f2:=by rw [de];exact dd.size
 have du:f2<=bQ.heap.size:=by omega
 obtain ⟨NA,bv⟩:=eX ((bQ).heap.size)
 have co:AH bQ (λq=>wL.heap.size<=q/\q<NA) [CW (DK 4 0 Ru),CW (DK 8 ((3+bx.length:Nat):Int) [])] [Ib Ru,oR ((3+bx.length:Nat):Int)]:=AH.cons (EC _ _ 4 0 _ dD dD) (AH.cons (EC _ _ 8 _ _ oO (by simp)) (AH.nil _ _))
 refine Bf BK rfl rfl ((Qo _ [⟨F9,CW (DK 4 0 Ru)⟩,⟨So,CW (DK 8 ((3+bx.length:Nat):Int) [])⟩] _ _ (f3).rowp (by simp))) (λz f5 H=>?_)
 have nd:=C9 du H.1.size
 have ih:=AH.same (w1:=f5) co (λk hk hl=>H.1.block k hl)
 have dg:=Ci df H.1
 obtain ⟨⟨kp,kc⟩,lp,lc⟩:=z
 have n':=(H.1).size
 have bY:AD G8 9 wL.heap.size _ _ [F9,So]:=AD.base (C:=wL.heap.size) H.2.1 (λg hg=>by have:=((H.2.1).lt g hg).1;omega)
 have bZ:AD EN 27 wL.heap.size _ _ [CW (DK 4 0 Ru),CW (DK 8 ((3+bx.length:Nat):Int) [])]:=AD.base (C:=wL.heap.size) H.2.2 (λg hg=>by have:=((H.2.2).lt g hg).1;omega)
 have cg:wL.heap.size<=(f5).heap.size:=by have:=(df).size;have:=(H.1).size;omega
 have b':=λg hg=>bv▸((H.2.1).lt g hg).1
 have c0:=λg hg=>bv▸((H.2.2).lt g hg).1
 have ax:=λg hg=>(bY.lt g hg).2
 have aD:=λg hg=>(bZ.lt g hg).2
 refine Bj Cz rfl (λag ii b0 f6 ai nf=>?_)
 have f7:=C9 cg ai.size
 have ij:=Fs bY b0 ai
 have f8:=C9 cg ai.size
 have ik:=Fs bZ b0 ai
 have il:=AH.same (w1:=ii) ih (λk hk hl=>ai.other k oO)
 have im:=uB dg b0 ai
 have lZ:wL.heap.size<=ag:=by rw [b0];exact dg.size
 refine Ax rfl rfl f6 Al rfl rfl (λcC aJ aj ng=>?_)
 have f9:=C9 f7 aj.size
 have dh:=GI ij aj ((λg hg e=>by (have:=ax g hg;omega)))
 have fb:=C9 f8 aj.size
 have di:=GI ik aj ((λg hg e=>by (have:=aD g hg;omega)))
 have io:=AH.same (w1:=cC) il (λk hk hl=>aj.other k (by (have f:=hk.1;have h8:=hk.2;omega)))
 have bR:=BU im oO aj
 refine A0<|If (α:=Option Int × Value × Value × List AC) (λt=>[(6,.bool false),(7,Af (bx.length:Int)),(8,v),(9,Af (t.1.getD (List.foldl HK (-1) (E0 bx fn bx.length)))),(10,Af (List.foldl N2 (-1) (E0 bx fn bx.length))),(14,ptV ag)]) (λt w'=>AL wL w'/\DcI wL.heap.size wL.heap.size ag ([F9,So]++Ro t.1 Pe) ([Ib Ru,oR ((3+bx.length:Nat):Int)]++QW t.1 X6) t.2.1 t.2.2.1 t.2.2.2 w'/\OkB t.1) ?_ (λt w1 hR=>?_)
 refine Ad ?_
 have hD:DcI wL.heap.size wL.heap.size ag [F9,So] [Ib Ru,oR ((3+bx.length:Nat):Int)] (.slice kp 2 kc) (.slice lp 2 lc) [CW (DK 4 0 Ru),CW (DK 8 ((3+bx.length:Nat):Int) [])] cC:=⟨aJ,dh,di,(io).mono λq hq ah=>⟨⟨hq.1,ah,oO⟩,λe=>by have:=b' q e;omega,λe=>by have:=c0 q e;omega⟩,λg hg=>⟨by have:=b' g hg;omega,λe=>by have:=ax g hg;omega⟩,λg hg=>⟨by have:=c0 g hg;omega,λe=>by have:=aD g hg;omega⟩⟩
 refine Am<|A3 rfl<|A1 (.gtr rfl rfl)<|A0<|Ai rfl (λcD=>?_) (λcD=>?_)
 have ip:=dT cD
 obtain ⟨M1,jx⟩:=eX ((cC).heap.size)
 refine A4<|A3 rfl<|A1 (.iis (own) (.cvt FK Mu rfl (Ba oO)) oO)<|A9 rfl<|A4<|A1 (.fa Ay rfl DU dD rfl)<|Ah (Ae (Fg _) rfl aJ rfl)<|Cs (ps:=_) Dy FH ZL rfl rfl rfl rfl rfl pR rfl (λla iq aK fc ac nh=>?_)
 have ci:=C9 f9 ac.size
 have dj:=Fs dh aK ac
 have fd:=C9 fb ac.size
 have bS:=Fs di aK ac
 have ir:=AH.same (w1:=iq) hD.els (λk hk hl=>ac.other k oO)
 have it:=Bl aK aJ.lt
 have iu:=aJ.un ac it
 have iv:=uB bR aK ac
 have l':wL.heap.size<=la:=by rw [aK];exact bR.size
 have c3:=AG.lit (V:=G8) (l:=[Pe]) fc (rfl)
 refine BS Dy Ma rfl rfl rfl dj rfl c3 (by (simp only [A8,Aa,Ak];omega)) (ci) rfl (λh=>nomatch h) (λlb ot cj aL bn fe=>?_)
 have iw:=iu.grown bn (λe=>by exact (hD.kn _ e).2 rfl)
 have iy:=AH.same ir (λk hk hl=>bn.block k hl (λe=>by exact hk.2.1 e.symm))
 have iz:=AD.same bS (λg hg=>bn.block g ((bS).lt g hg).2 (λhx=>DA dj bS dD g hx.symm hg))
 have ff:=C9 fd aL.size
 have iA:=Ej iv (aL.mono (oO))
 have fg:=C9 ci aL.size
 have o0:=aL.size
 have ap:=fe
 refine A1 (.fa Ay rfl DU dD rfl)<|Br DU rfl rfl (cj).one iw (by exact Nat.le_of_ble_eq_true rfl) (λcE bp a7 ni=>?_)
 have bp:B0 cE ag _ _:=bp
 have a7:CK ag _ _:=a7
 have fh:=C9 fg a7.size
 have dk:=GI cj a7 ((λg hg e=>by (rcases ap g hg with f | f;exact (hD.kn g f).2 e;omega)))
 have fi:=C9 ff a7.size
 have iB:=GI iz a7 ((λg hg e=>by (have:=aD g hg;omega)))
 have iC:=AH.same (w1:=cE) iy (λk hk hl=>a7.other k (by exact hk.1.2.2))
 have iD:=BU iA oO a7
 refine A0<|?_
 obtain ⟨M2,c4⟩:=eX cE.heap.size
 have bc:∀ g,(lb).ownBlock=some g->g<M2:=λg hg=>by rw [c4];exact ((dk).lt g hg).2
 refine Fe 13 rfl BR (λlf a3=>?_)
 have fj:=Fn fh a3
 have iE:=AD.drew dk a3
 have fk:=Fn fi a3
 have iF:=AD.drew iB a3
 have iG:=AH.same (w1:=lf) iC (λk hk hl=>(by obtain ⟨m,rfl⟩:=a3;rfl))
 have b1:=bp.drew a3
 have iH:=C6.below iD a3
 refine AI 0 rfl (.fa Ay rfl Cr dD rfl) rfl<|AI 4 rfl (.mv rfl) rfl<|Ka [(14,ptV ag),(152,_),(156,Af own),(6,.bool false),(7,Af (bx.length:Int)),(8,v),(9,Af own),(10,Af (List.foldl N2 (-1) (E0 bx fn bx.length)))] [⟨1,153,[],(λv _=>v=(.slice lp 2 lc)),false⟩,⟨2,154,[],(LR (λq=>M2<=q) (oN 0)),false⟩,⟨3,155,[],(LR (λq=>M2<=q) (oN 0)),false⟩,⟨5,157,[],(LR (λq=>M2<=q) (oN own)),false⟩,⟨6,158,[],(LR (λq=>M2<=q) (oN 7)),false⟩,⟨7,159,[(2,154),(3,155),(5,157),(6,158)],(MW (λq=>M2<=q) [oN 0,oN 0,oN own,oN 7]),false⟩,⟨8,160,[(7,159)],(LR (λq=>M2<=q) (X6 own)),false⟩,⟨9,161,[(8,160)],(MW (λq=>M2<=q) [X6 own]),false⟩] 3 ⟨rfl,rfl,rfl,rfl,rfl,rfl,rfl,rfl,tT⟩ rfl kR ⟨⟨(λ_ _ _ h _=>h),λh=>nomatch h⟩,⟨LR.up,λh=>nomatch h⟩,⟨LR.up,λh=>nomatch h⟩,⟨LR.up,λh=>nomatch h⟩,⟨LR.up,λh=>nomatch h⟩,⟨MW.up,λh=>nomatch h⟩,⟨LR.up,λh=>nomatch h⟩,⟨MW.up,λh=>nomatch h⟩,tT⟩ ⟨?_,?_,?_,?_,?_,?_,?_,?_,tT⟩ (λg lg hs b hE hA=>?_)
 intro K g w1 hs b hd k
 have a:FL [(152,_)] g:=⟨hs.look rfl,tT⟩
 refine ⟨_,rfl,WL.front _ a ?_⟩
 refine Ah (Ae (Dv _) rfl (b1.below b b1.lt) rfl)<|A0<|?_
 exact k _ _ _ (Es.front a) rfl (Gb _ _) (λh=>nomatch h)
 intro K g w1 hs b hd k
 have a:FL [] g:=trivial
 refine ⟨_,rfl,WL.front _ a ?_⟩
 refine Ao (In 0 _) (λw5 U=>A0<|?_)
 exact k _ _ _ (Es.front a) (J7 _ 0 _ dD) U (λh=>nomatch h)
 intro K g w1 hs b hd k
 have a:FL [] g:=trivial
 refine ⟨_,rfl,WL.front _ a ?_⟩
 refine Ao (In 0 _) (λw5 U=>A0<|?_)
 exact k _ _ _ (Es.front a) (J7 _ 0 _ dD) U (λh=>nomatch h)
 intro K g w1 hs b hd k
 have a:FL [(156,Af own)] g:=⟨hs.look rfl,tT⟩
 refine ⟨_,rfl,WL.front _ a ?_⟩
 refine Ao (In own _) (λw5 U=>A0<|?_)
 exact k _ _ _ (Es.front a) (J7 _ own _ oO) U (λh=>nomatch h)
 intro K g w1 hs b hd k
 have a:FL [] g:=trivial
 refine ⟨_,rfl,WL.front _ a ?_⟩
 refine Ao (In 7 _) (λw5 U=>A0<|?_)
 exact k _ _ _ (Es.front a) (J7 _ 7 _ dD) U (λh=>nomatch h)
 intro K g w1 hs b hd k
 obtain ⟨⟨lh,li,lj⟩,⟨lk,ll,lm⟩,⟨lo,lq,lr⟩,⟨lu,lw,lx⟩,-⟩:=hd
 have a:FL [(154,lh),(155,lk),(157,lo),(158,lu)] g:=⟨li,ll,lq,lw,tT⟩
 refine ⟨_,rfl,WL.front _ a ?_⟩
 obtain ⟨fl,rfl,ly⟩:=lj
 obtain ⟨fm,rfl,lz⟩:=lm
 obtain ⟨fo,rfl,lA⟩:=lr
 obtain ⟨fp,rfl,lB⟩:=lx
 refine Cq (L:=EN) (ps:=_) ([fl,fm,fo,fp]) C2 CU Cz rfl rfl rfl rfl rfl (by rfl) rfl rfl (λb5 w5 D X y aQ=>A0<|?_)
 exact k _ _ _ (Es.front a) (KA [fl,fm,fo,fp] X.rowp (AH.cons ly (AH.cons lz (AH.cons lA (AH.cons lB (AH.nil _ _))))) (BU (Gb _ _) (Nat.le_of_eq D.symm) y) (by have:=b.size;have:=C6.size a3;show M2<=_;omega) (by simp)) (BU (Gb _ _) (Nat.le_of_eq D.symm) y) (λh=>nomatch h)
 intro K g w1 hs b hd k
 obtain ⟨⟨lC,lD,lE⟩,-⟩:=hd
 have a:FL [(159,lC)] g:=⟨lD,tT⟩
 refine ⟨_,rfl,WL.front _ a ?_⟩
 obtain ⟨b6,n6,rfl,h6⟩:=XB lE
 refine Ao (Tk _ n6 n6 _) (λw5 U=>A0<|?_)
 exact k _ _ _ (Es.front a) (LR.up _ _ _ h6 U) U (λh=>nomatch h)
 intro K g w1 hs b hd k
 obtain ⟨⟨lF,lG,lH⟩,-⟩:=hd
 have a:FL [(160,lF)] g:=⟨lG,tT⟩
 refine ⟨_,rfl,WL.front _ a ?_⟩
 obtain ⟨fq,rfl,lI⟩:=lH
 refine Cq (L:=EN) (ps:=_) ([fq]) C2 CU Cz rfl rfl rfl rfl rfl (by rfl) rfl rfl (λb5 w5 D X y aQ=>A0<|?_)
 exact k _ _ _ (Es.front a) (KA [fq] X.rowp (AH.cons lI (AH.nil _ _)) (BU (Gb _ _) (Nat.le_of_eq D.symm) y) (by have:=b.size;have:=C6.size a3;show M2<=_;omega) (by simp)) (BU (Gb _ _) (Nat.le_of_eq D.symm) y) (λh=>nomatch h)
 obtain ⟨⟨lJ,lK,lL⟩,-,-,-,-,-,-,⟨lM,lN,lO⟩,-⟩:=hE
 refine WY.front [(153,lJ),(161,lM),(14,ptV ag),(152,_),(156,Af own),(6,.bool false),(7,Af (bx.length:Int)),(8,v),(9,Af own),(10,Af (List.foldl N2 (-1) (E0 bx fn bx.length)))] ⟨lK,lN,hs.look rfl,hs.look rfl,hs.look rfl,hs.look rfl,hs.look rfl,hs.look rfl,hs.look rfl,hs.look rfl,tT⟩ ?_
 have fr:=C9 fj b.size
 have bT:=AD.below iE b
 have ck:=C9 fk b.size
 have dl:=AD.below iF b
 have iI:=AH.same (w1:=lg) iG (λk hk hl=>b.block k hl)
 have iJ:=b1.below b b1.lt
 have iK:=Ci iH b
 subst lL
 obtain ⟨ou,o1,rfl,iL,A6q,o2,iM⟩:=lO
 have jD:=b.size
 have jE:=C6.size a3
 refine Av 10 rfl<|BS C2 EZ rfl rfl rfl dl rfl iL (by (simp only [A8,Aa,Ak];omega)) (ck) rfl (λ_=>.inr (by simp)) (λov ow cl bq aM fs=>?_)
 have iN:=iJ.grown aM (λe=>by exact (hD.ln _ e).2 rfl)
 have iO:=AH.same iI (λk hk hl=>aM.block k hl (λe=>by exact hk.2.2 e.symm))
 have iP:=AH.same iM (λk hk hl=>aM.block k hl (λe=>by (have f:=(hD.row.lt k e.symm).2;have:=hk.1;omega)))
 have iQ:=AD.same bT (λg hg=>aM.block g ((bT).lt g hg).2 (λhx=>DA dl bT dD g hx.symm hg))
 have fu:=C9 fr bq.size
 have iR:=Ej iK (bq.mono (oO))
 have fv:=C9 ck bq.size
 have aR:=fs
 refine A0<|AI 11 rfl (.fa Ay rfl Cr dD rfl) rfl<|Av 12 rfl<|Br Cr rfl rfl (cl).one iN (by exact Nat.le_of_ble_eq_true rfl) (λcF bt J nj=>?_)
 have bt:B0 cF ag _ _:=bt
 have J:CK ag _ _:=J
 have nk:=C9 fu J.size
 have iS:=GI iQ J ((λg hg e=>by (rcases ap g hg with f | f;exact (hD.kn g f).2 e;omega)))
 have nl:=C9 fv J.size
 have iT:=GI cl J ((λg hg e=>by (rcases aR g hg with f | f;exact (hD.ln g f).2 e;omega)))
 have iU:=AH.same (w1:=cF) iO (λk hk hl=>J.other k (by exact hk.1.2.2))
 have iV:=AH.same (w1:=cF) iP (λk hk hl=>J.other k (by have:=hk.1;omega))
 have iW:=BU iR oO J
 refine A0<|Bn kR ?_
 exact ⟨(some own,_,_,_),⟨rfl,rfl,rfl,rfl,rfl,rfl,tT⟩,iW,hD.add bt iS iT iU iV ap (λq hq=>⟨by have hq:M2<=q:=hq;omega,λe=>by have hq:M2<=q:=hq;have:=bc q e;omega⟩) aR oO oO oO,λw hw=>by cases hw;omega⟩
 have ip:=dF cD
 refine Ap ?_
 exact ⟨(none,_,_,_),⟨rfl,rfl,rfl,rfl,rfl,rfl,tT⟩,bR,by simpa [Ro,QW] using hD,λw hw=>by cases hw⟩
 obtain ⟨⟨bo,kv,lv,ls⟩,b7⟩:=eX t
 subst b7
 obtain ⟨Q,hD,aN⟩:=hR
 simp only at hD aN
 have n9:=hD.els.len
 obtain ⟨yd,eyd,aU⟩:=hD.rep (by rw [hD.els.len];cases bo <;> rfl) (by cases bo <;> (intro k hk;simp [Ro] at hk;rcases hk with rfl | rfl | rfl <;> decide))
 have ay:=hD.blk
 rw [eyd] at ay
 have jF:=ay.lt
 have aU:AB w1 _ yd (pgX ((3+bx.length:Nat):Int) bo):=aU
 have bj:AL w w1:=Ej q1 (Q.mono jt)
 have cw:=bAt _ Q
 have cy:=fAt _ Q
 have cz:=Dh.same q2 (λk hk _=>Q.block k oO)
 have cA:=cP.same (λg hg=>Q.block g (b8 g hg))
 have cB:=cQ.same (λk hk _=>Q.block k hk.1)
 refine A4<|A3 rfl<|Ah (Bk rfl ay Ay rfl Al)<|Cs (ps:=_) B1 EA Mt rfl rfl rfl rfl rfl pR rfl (λcG bU b2 fw ak nm=>?_)
 have iX:=Fs cA b2 ak
 have iY:=Dh.same (w1:=bU) cz (λk hk hl=>ak.other k oO)
 have iZ:=AH.same (w1:=bU) cB (λk hk hl=>ak.other k oO)
 have i':=AB.same (w1:=bU) aU (λk hk hl=>ak.other k oO)
 have j0:=Bl b2 ay.lt
 have j1:=ay.un ak j0
 have j2:=uB bj b2 ak
 have m0:=CF b2 bj.size
 refine MV (U6) B1 FK rfl fw rfl rfl (λcH jJ am nn=>?_)
 have j3:=GI iX am ((λg hg e=>by have:=b8 g hg;omega))
 have j4:=Dh.same (w1:=cH) iY (λk hk hl=>am.other k oM)
 have j5:=AH.same (w1:=cH) iZ (λk hk hl=>am.other k oM)
 have j6:=AB.same (w1:=cH) i' (λk hk hl=>am.other k oM)
 have j7:=j1.up am
 have dm:=BU j2 oO am
 refine A1 (.build rfl (A6w _ _ _)) ?_
 refine Cq (L:=EN) (ps:=_) ([yd,⟨9,0,[],none,0,0,none,0,0,some ⟨cG,0,none⟩,20,20⟩]) C2 CU Cz rfl rfl rfl rfl rfl (by rfl) rfl rfl (λlP b3 aO fx an np=>?_)
 have dn:=Fs j3 aO an
 have j8:=Dh.same (w1:=b3) j4 (λk hk hl=>an.other k oO)
 have j9:=AH.same (w1:=b3) j5 (λk hk hl=>an.other k oO)
 have ja:=AB.same (w1:=b3) j6 (λk hk hl=>an.other k oO)
 have o3:=Bl aO j7.lt
 have fy:=λj=>aO▸jJ.lt j
 have dp:=Ce jJ an fy
 have dq:=uB dm aO an
 have m1:=CF aO dm.size
 have m2:lP<=b3.heap.size:=by omega
 refine BS C2 EZ rfl rfl rfl dn rfl (fx).rowp (by (simp only [A8,Aa,Ak];omega)) (dq.size) rfl (λh=>De h (Z8 _ _)) (λox cI fz fA aP fB=>?_)
 have jb:=Dh.same j8 (λk hk hl=>aP.block k hl (λe=>by (have f:=((dn).lt k e.symm).1;omega)))
 have jc:=AH.same j9 (λk hk hl=>aP.block k hl (λe=>by exact hk.2 e.symm))
 have jd:=AB.same ja (λk hk hl=>aP.block k hl (λe=>by (have f:=b8 k e.symm;have:=hk.1;omega)))
 have dr:=Ag.same (w1:=cI) dp (λj=>aP.block _ (dp.lt j) (λhx=>by have f:(cG:Nat)<wL.heap.size:=b8 _ hx.symm;omega))
 have je:=Ej dq (fA.mono (oO))
 have f1:=fB
 refine A9 rfl<|Ad ?_
 have aA:1<=(E0 bx fn bx.length).length/\(E0 bx fn bx.length).length<=20:=by rw [KM];omega
 obtain ⟨aB,lQ⟩:=XG bx fn bx.length
 have lR:AH cI (λq=>q<(cI).heap.size) (ys++[yd,⟨9,0,[],none,0,0,none,0,0,some ⟨cG,0,none⟩,20,20⟩]) (N1 (E0 bx fn bx.length) bo):=by
  unfold N1;rw [KM,<- Bb];exact AH.app ((jc).mono λq hq ah=>ah) (AH.cons ((jd).mono λq hq ah=>ah) (AH.cons (A2V (ks:=[]) (ys:=[]) (os:=[]) (d:=U6) (B3.nil _) (by simp) (by simp) (AG.nil _) (AH.nil _ _) (by simp) dr (λj=>(dr).lt j) dD dD dD) (AH.nil _ _)))
 obtain ⟨pL,cL,nq,nr,-,ns,-⟩:=(fz).row
 subst nq
 obtain ⟨nt,nu⟩:=XO aA aB aN
 have oy:=A19 aA aB aN
 have jf:=Pf (E0 bx fn bx.length) bo
 rw [KM] at jf
 refine Am<|A3 rfl<|Bf BK rfl rfl ((S1 pL _ (N1 (E0 bx fn bx.length) bo) cL _ _ nr ns lR (λo ho _=>by have:=A18 aA aB aN o ho;omega) True (λi h h2 w1 ha=>(PT _ _ _ w1 ha (OH aA aB aN _ (AA h2)).snd (OH aA aB aN _ (AA h2)).kn).mono λe w' ⟨h1,h2⟩=>⟨⟨true,λ_=>(OH aA aB aN _ (AA _)).snd,λ_=>rfl⟩,h1,h2⟩))) (λx lS bV=>?_)
 have jg:=Dh.same (w1:=lS) jb (λk hk hl=>bV.1.block k hl)
 have jh:=Ci je bV.1
 obtain ⟨xp,xn,xc,xe⟩:=x
 have hW:=bV.2
 simp only at hW ⊢
 obtain rfl:xe=0:=hW.sure trivial oO oO nt
 obtain ⟨rfl,nv,nw,oP,-⟩:=hW.ok rfl
 refine A3 rfl<|A1 (.ext rfl rfl)<|A1 (.ext rfl rfl)<|Ct rfl<|A9 rfl<|Ad<|A4<|A3 rfl<|A1 (.bis (false) (.neq rfl rfl) dD)<|A0<|Aq rfl rfl<|Ap<|A4<|A3 rfl<|Bf BK rfl rfl ((Ow (N1 (E0 bx fn bx.length) bo) nu xp _ xc _ rfl nv nw)) (λbf fC bW=>?_)
 have ji:=Dh.same (w1:=fC) jg (λk hk hl=>bW.2.block k hl)
 have jj:=Ci jh bW.2
 have ny:=(bW.1).mono (T:=λk=>k<fC.heap.size) (λk _ hk=>hk)
 refine A3 rfl<|A1 (.ext rfl rfl)<|A1 (.ext rfl rfl)<|Ct rfl<|A9 rfl<|Ad<|A4<|A3 rfl<|A1 (.bis (false) (.neq rfl rfl) dD)<|A0<|Aq rfl rfl<|Ap<|A4<|A3 rfl<|Bf BK rfl rfl (((Zc aA aB lQ aN bf _ _ ny (ji).blk).mono λe w' h=>A4W h)) (λx oz ds=>?_)
 have bX:=Ci jj ds.1
 obtain ⟨⟨pp,pl,pc⟩,pe⟩:=x
 obtain ⟨bu,jK,jL,jM⟩:=ds.2
 simp only at bu jK jL jM
 refine A3 rfl<|A1 (.ext rfl rfl)<|A1 (.ext rfl rfl)<|Ct rfl<|A9 rfl<|Ad<|A4<|A3 rfl<|A1 (.lss rfl rfl)<|A0<|Ai rfl (λcJ=>?_) (λcJ=>?_)
 have jk:=dT cJ
 refine A4<|A3 rfl<|A1 (.bis (true) (.eql rfl rfl) (by exact AP (jK aS)))<|A9 rfl<|AW ?_
 exact ⟨rfl,bX⟩
 have jk:=dF cJ
 refine Ap<|Ad<|A4<|A3 rfl<|A1 (.lss rfl rfl)<|A0<|Ai rfl (λcK=>?_) (λcK=>?_)
 have jl:=dT cK
 refine A4<|A3 rfl<|A1 (.bis (true) (.eql rfl rfl) (by exact AP (jL aS aS)))<|A9 rfl<|AW ?_
 exact ⟨rfl,bX⟩
 have jl:=dF cK
 refine Ap<|Ad ?_
 obtain ⟨nz,xh,p9,c9,i9,nA,jN,nB⟩:=jM aS aS
 subst nA
 have oQ:=A4A (bx:=bx) (fn:=fn) aN bx.length
 refine Am<|A3 rfl<|A1 (.bis (true) (.eql rfl rfl) (by exact AP nz))<|A3 rfl<|Az rfl<|A3 rfl<|Az rfl<|A1 (.lenS Ih rfl)<|Az rfl<|A1 (.bis (true) (.eql rfl rfl) (by rfl))<|A1 (.pkT rfl rfl rfl)<|A3 rfl<|Az rfl<|A3 rfl<|Az rfl<|A1 (.ixm Ih PK rfl rfl (bu.isp (by (simp only [Aa,Ak];omega))) (0) (rfl) (by simp))<|Az rfl<|A1 (.fa Kq rfl Bw dD rfl)<|Az rfl<|Ah (Bq (BZ _) rfl ((bu.field (0) (by (simp only [Aa,Ak];omega)) 0 dD).trans rfl))<|Az rfl<|A3 rfl<|Az rfl<|A1 (.mul rfl rfl (Ba oO))<|Az rfl<|A1 (.bis (true) (.eql rfl rfl) (by exact AP rfl))<|A1 (.pkT rfl rfl rfl)<|A3 rfl<|Az rfl<|A3 rfl<|Az rfl<|A1 (.ixm Ih PK rfl rfl (bu.isp (by (simp only [Aa,Ak];omega))) (0) (rfl) (by simp))<|Az rfl<|A1 (.fa Kq rfl Kl dD rfl)<|Az rfl<|Ah (Bq (O8 _) rfl ((bu.field (0) (by (simp only [Aa,Ak];omega)) 2 dD).trans rfl))<|Az rfl<|A1 (.lenS R7 rfl)<|Az rfl<|A1 (.bis (true) (.eql rfl rfl) (by rfl))<|A1 (.pkT rfl rfl rfl)<|A3 rfl<|Az rfl<|A3 rfl<|Az rfl<|A1 (.ixm Ih PK rfl rfl (bu.isp (by (simp only [Aa,Ak];omega))) (0) (rfl) (by simp))<|Az rfl<|A1 (.fa Kq rfl Kl dD rfl)<|Az rfl<|Ah (Bq (O8 _) rfl ((bu.field (0) (by (simp only [Aa,Ak];omega)) 2 dD).trans rfl))<|Az rfl<|A1 (.ixm R7 sizeOf57 rfl rfl (jN.isp (by (simp only [Aa,Ak];omega))) (0) (rfl) (by simp))<|Az rfl<|A1 (.fa underlying57 rfl Bw dD rfl)<|Az rfl<|Ah (Bq (BZ _) rfl ((jN.field (0) (by (simp only [Aa,Ak];omega)) 14 dD).trans rfl))<|Az rfl<|A3 rfl<|Az rfl<|A1 (.bis (true) (.eql rfl rfl) (by exact AP nB))<|A1 (.pkT rfl rfl rfl)<|A9 rfl<|AW ?_
 exact ⟨rfl,bX⟩
 have m4:=dT g6
 refine Bc g6<|A1 (.pkT rfl g6 rfl)<|A0<|BQ rfl rfl<|A4<|Ao (Lq _ (dv).blk) (λoB jm=>?_)
 have jn:=Ci dw jm
 refine A9 rfl<|AW ?_
 exact ⟨rfl,jn⟩
end
section
open Go.ChangeShapes Go.WideShapes Go.ChangeAt Go.RowKit
theorem own:ownKnob Tryz.prog.godebug=none:=by kernel_rfl
theorem XI:laidOutB Tryz.prog=true:=by kernel_rfl
def PY (cs:Array Value):Obj->Obj
 | .cells _ t frozen=>.cells cs t frozen
 | o=>o
def firstCells:Array Value:=(Go.Pinned.utf8FirstZ.map λ(n:Nat)=>Value.int .u8 (n:Int)).toArray
def Wc:Array Value:=#[.int .u8 128,.int .u8 191,.int .u8 160,.int .u8 191,.int .u8 128,.int .u8 159,.int .u8 144,.int .u8 191,.int .u8 128,.int .u8 143,.int .u8 0,.int .u8 0,.int .u8 0,.int .u8 0,.int .u8 0,.int .u8 0,.int .u8 0,.int .u8 0,.int .u8 0,.int .u8 0,.int .u8 0,.int .u8 0,.int .u8 0,.int .u8 0,.int .u8 0,.int .u8 0,.int .u8 0,.int .u8 0,.int .u8 0,.int .u8 0,.int .u8 0,.int .u8 0]
noncomputable def O6 (os:Os):World :=
 { World.holding Tryz.prog os ⟨#[],#[],[]⟩ with heap:=(((World.holding Tryz.prog os ⟨#[],#[],[]⟩).heap.modify 2 (PY firstCells)).modify 3 (PY Wc)).modify 1 (PY nmC) }
theorem Z9  {W:World} {name:String} {ss:List (l8_)} {rest:List (String × DataW Unit)} {g:Nat} {t:TypeId} {n:Nat}
  (hg:P.globalNamed name=some g) (hty:(P.globals[g]?).map (·.type)=some t) (ht:P.underlying t=some (.array n e)) (he:P.underlying e=some .string) (hce:P.cellsOf e=1)
  (h:laidMet P ((name,.agg (ss.map λs=>.lit (.string s)))::rest) W):B3 G7 W (some ⟨g,0,none⟩) ss:=by
 obtain ⟨ps,⟨g',t',cs,fuel,p,q,hg',ht',c,hd,_,_⟩,_⟩:=h
 obtain rfl:=C3 (hg.symm.trans hg')
 obtain rfl:=C3 (hty.symm.trans ht')
 obtain ⟨xs,m,rfl,hx,u,hl,hf⟩:=DataW.trod_array ht hd
 rw [hce] at hf
 have a:xs.map (·.1)=ss.map λs=>(DataW.lit (.string s):DataW Unit):=by
  have:=BJ Prod.fst hx
  simpa using this.symm
 have f:xs.length=ss.length:=by have:=BJ List.length a;simpa using this
 refine ⟨λ_=>rfl,λj hj=>?_⟩
 have b:j<xs.length:=by omega
 have i:=(hf j oO).trans (Aj b)
 obtain ⟨s,k,l,-⟩:=DataW.trod_string he i
 have d:xs[j].1=.lit (.string ss[j]):=by
  have:=BJ (·[j]?) a
  simp only [List.getElem?_map,Aj b,Aj hj,Option.map_some,BN] at this
  exact this
 rw [l] at d
 simp only [DataW.lit.injEq,Lit.string.injEq] at d
 have o:cs[j]?=some (.string s):=by
  have:=BJ (·[0]?) k
  simpa [List.getElem?_take,List.getElem?_drop] using this
 show W.cell? ((⟨g,0,none⟩:Addr).add j)=_
 rw [HG,Do,World.var?_cell hg c j,o]
 show _=some (Value.string (bs ss[j]))
 rw [<- d];rfl
theorem A5j {W:World} (h:laidMetH Tryz.prog Rows.treeRefusesRow.laid W) (hS:W.ShapedOpen Tryz.prog):ZN W:=by
 have e:laidMet Tryz.prog (("mezzotint/font.names",.agg (Ly.map λs=>.lit (.string s)))::Rows.treeRefusesRow.laid.tail) W:=by
  rw [MakeChecks.laidMetH_plain _ _ _ kR] at h;exact h
 have f:=Z9 (g:=1) kR kR underlying230 Gk kR e
 obtain ⟨cs,hh,hs,-⟩:=hS.1 1 (List.replicate 14 (Value.string .empty)).toArray 230 (dT kR) kR
 have hs:cs.size=14:=hs
 obtain rfl:cs=nmC:=by
  refine Array.ext (by rw [hs];rfl) λi b j=>?_
  have hi:i<Ly.length:=by rw [hs] at b;exact b
  have a:=f.cells i hi
  have k:W.cell? ⟨1,i,none⟩=some (G7 Ly[i]):=by have a:W.cell? ((⟨1,0,none⟩:Addr).add i)=_:=a;rw [HG,Do] at a;exact a
  have c:cs[i]?=some (G7 Ly[i]):=by simpa [World.cell?,hh] using k
  have d:nmC[i]?=some (G7 Ly[i]):=A4b hi
  rw [Ey b] at c
  rw [Ey j] at d
  exact C3 (c.trans d.symm)
 exact hh
theorem A5R {n:Int} (h:(Lit.int .u8 n).wf=true):0<=n/\n<=255:=by simpa [Lit.wf,IntKind.min,IntKind.max,IntKind.bits,IntKind.signed] using h
end
section
theorem O5 (p:Option Addr) (l:l8_) (c:Nat) (a:Int) (p2:Option Addr) (l2:l8_) (c2:Nat) (w:World) (hN:ZN w) (hb:Ag w p l) (_:l.length<=c) (_:l=[]->c=0\/p≠none) (ha:(Lit.int .u8 a).wf=true) (hb2:Ag w p2 l2) (_:l2.length<=c2) (_:l2=[]->c2=0\/p2≠none) :
  Cb 3 #[.slice p l.length c,.int .u8 a,.slice p2 l2.length c2] w (.bool true) :=
 LY p l c a p2 l2 c2 w hb hb2 (A5R ha) hN
end
end Go.Proofs.YtiddobdioipidaaGreatDoor
