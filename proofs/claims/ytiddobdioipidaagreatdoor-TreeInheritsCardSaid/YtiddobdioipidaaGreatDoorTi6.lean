/-
  What the claim leans on, part 6: pruned and joined by my own tool out of the texts that stand in wip/ as templates.
-/
import Derived.Test.YtiddobdioipidaaGreatDoorTi5
set_option maxHeartbeats 6400000
set_option maxRecDepth 100000
namespace Go.Proofs.YtiddobdioipidaaGreatDoor
open Go.RowKit
open Go.Proofs.Tryz
variable {pa pb:Addr} {aft:Array Edge} {ops:Array Oper} {ats:Array TypeId} {args cs:Array Value} {st:Bool} {Q:Exit->Fr->World->Prop} {f:Fr} {F:FuncId} {D a:Int} {ks:List (List UInt8)} {ns:List Int} {A d l s:List UInt8} {vs xs:List Value} {B M N bf c i id j wk:Nat} {S T:Nat->Prop} {x y:Operand} {dp kp lp p:Option Addr} {P:Program} {pos:String} {α ι:Type} {E e ta tb tx ty:TypeId} {u v z:Value} {w w' w1:World} {S':World->Prop}
section
theorem Lf  {C r:Nat} {S:List Nat} {a b:World} (h:Bh B r a b) (hr:r∈S) (hC:C<=B):AR C S a b:=⟨h.os,h.tape,h.output,h.size,λi hi hS=>h.block i oO (λe=>hS (e▸hr))⟩
theorem MY.below  {sv:Value} {Q:ι->Option Addr->Nat->Nat->World->Prop} {a:(Int × Int) × ι} (h:MY wk bf sv Q a w) (hb:AL w w1):MY wk bf sv Q a w1:=by
 obtain ⟨v,x,b,c,d,e,L,M,f,g⟩:=h
 exact ⟨v,x,b.below hb b.lt,AD.below c hb,d,e,L,M,f,g.same λk _ hk=>hb.block k hk⟩
theorem Yc (w:World) (S:Nat->Prop) (k n:Int) (h:-9223372036854775808<=n/\n<=9223372036854775807):AB w S (CW (DK k n [])) (.mk k n [] [] [] []):=by
 have:=(BP.zero w S k n []).rep (.mk _ _ _ _ _ h (by simp) (by simp) (by simp))
 rw [show SI (Jm k n [])=.mk k n [] [] [] [] by simp [Jm,SI,Yb]] at this
 exact this
theorem A6z (k n:Int):Tryz.prog.built 27 [(0,Af k),(1,Af n)]=some (DN (CW (DK k n []))).toArray:=by kernel_rfl
theorem A2g  {l:List Int} (h:CP e B w (.slice p l.length c) (l.map LZ)):B3 A4Z w p l:=(AG.ofI (AD.ofI h).rowp)
def ObL (N:Nat) (o:AV) (v:Value) (w:World):Prop:=∃ y:AC,v=.agg (DN y).toArray/\AB w (λq=>N<=q/\q<w.heap.size) y o
theorem ObL.up  {o:AV} (v:Value) (w w1:World) (h:ObL N o v w) (hb:AL w w1):ObL N o v w1:=by
 obtain ⟨y,a,b⟩:=h
 have hs:=hb.size
 exact ⟨y,a,(b.same λk hk hl=>hb.block k hl).mono λk h _=>⟨h.1,oO⟩⟩
theorem A2j  {o:AV} (h:ObA w o v w1) (hN:N<=w.heap.size):ObL N o v w1:=by
 obtain ⟨z,a,b⟩:=h
 exact ⟨z,a,b.mono λk h hl=>⟨oO,hl⟩⟩
theorem Xs  {c0:AC} {b:Nat} {t:TypeId} (h:AG EN w p [c0]) (h8:c0.kind=8) (hb:B0 w b (DN (CW (DK 0 0 []))).toArray t):(pA p).block≠b:=λe=>by
 have h1:=h.cells 0 (by simp) 0 dD
 rw [Nat.zero_mul,Do,HE] at h1
 have h2:(EN.V [c0][0])[0]?=some (Af 8):=by show some (Value.int .i64 c0.kind)=_;rw [h8]
 have c:=h1.trans h2
 generalize pA p=a at c e
 obtain ⟨b',o,sp⟩:=a
 obtain rfl:b'=b:=e
 unfold World.cell? at c
 unfold B0 at hb
 simp only [hb] at c
 cases sp with
 | some s=>simp at c
 | none=>match o,c with
  | 0,c=>cases c
  | 1,c=>cases c
  | 2,c=>cases c
  | 3,c=>cases c
  | 4,c=>cases c
  | 5,c=>cases c
  | n+6,c=>simp [DN] at c
def QU (N:Nat) (v:Value) (w:World):Prop:=∃ b,v=ptV b/\B0 w b (DN (CW (DK 0 0 []))).toArray 27/\N<=b
theorem QU.up  (v:Value) (w w1:World) (h:QU N v w) (hb:AL w w1):QU N v w1:=by
 obtain ⟨b,c,a,d⟩:=h
 exact ⟨b,c,a.below hb a.lt,d⟩
theorem QU.lt  (v:Value) (w:World) (h:QU N v w):bOf v<w.heap.size:=by
 obtain ⟨b,rfl,a,-⟩:=h
 exact a.lt
theorem A2C  {b g:Nat} (h:v.ownBlock=some g):vb v b=g:=by unfold vb;rw [h];rfl
theorem Pw {os:List AV} {o:AV} {k nm:l8_} {a b:Bool} (h:G6 os o k nm=.ok a) (h2:G6 os o k nm=.ok b):a=b:=by rw [h] at h2;exact Except.ok.inj h2
theorem V7 {os:List AV} {o:AV} {i:GS} (h:Is os o) (hb:∀ u,i.box=some u->Is os u) (hr:∀ u,i.res=some u->Is os u):(∀ u,(Gv o i).box=some u->Is os u)/\(∀ u,(Gv o i).res=some u->Is os u):=by
 unfold Gv
 refine ⟨λu hu=>?_,λu hu=>?_⟩
 ·
  simp only at hu
  cases hk:Dg o Pe with
  | none=>rw [hk] at hu;exact hb u hu
  | some v=>rw [hk] at hu;cases hu;exact h.key hk
 ·
  simp only at hu
  cases hk:Dg o UM with
  | none=>rw [hk] at hu;exact hr u hu
  | some v=>rw [hk] at hu;cases hu;exact h.key hk
theorem A12  {v1:Value} (h:∀ g,v1.ownBlock=some g->v.ownBlock=some g\/N<=g):∀ g∈[wk,vb v1 wk],g∈[wk,vb v wk]\/N<=g:=λk hk=>by
 simp only [A6,A5,As] at hk ⊢
 rcases hk with rfl | rfl
 · exact .inl (.inl rfl)
 ·
  unfold vb
  cases ho:v1.ownBlock with
  | none=>exact .inl (.inl rfl)
  | some g =>
   rcases h g ho with h | h
   · rw [h];exact .inl (.inr rfl)
   · exact .inr h
theorem A13  {b:Nat} (h1:b≠wk) (h2:∀ g,v.ownBlock=some g->b≠g):b ∉ [wk,vb v wk]:=λhk=>by
 simp only [A6,A5,As] at hk
 rcases hk with hk | hk
 · exact h1 hk
 ·
  unfold vb at hk
  cases ho:v.ownBlock with
  | none=>rw [ho] at hk;exact h1 hk
  | some g=>rw [ho] at hk;exact h2 g ho hk
theorem Tm  (h:∀ g,v.ownBlock=some g->wk+1<=g/\g<M):∀ k∈[wk,vb v wk],wk<=k:=λk hk=>by
 simp only [A6,A5,As] at hk
 rcases hk with rfl | rfl
 · exact DP _
 ·
  unfold vb
  cases ho:v.ownBlock with
  | none=>exact DP _
  | some g=>exact Nat.le_of_succ_le (h g ho).1
def A6P {ι:Type} (wk bf:Nat) (sv:Value) (w:World) (Q:ι->Option Addr->Nat->Nat->World->Prop) (res:Except Int ((Int × Int) × ι)):Ending->World->Prop:=λe w' =>
 GZ 35 res (λa v w'=>v=Af 1/\AR w.heap.size [wk,vb sv wk] w w'/\∃ s,MY wk bf s Q a w') (λw'=>Below wk w w') e w'
def Lc {ι:Type} (wk bf:Nat) (os:List AV) (n:Int) (i:GS) (dp:Int) (sl:List Int) (Q:ι->Option Addr->Nat->Nat->World->Prop) (res:Except Int ((Int × Int) × ι)):Prop :=
 ∀ (w:World) (ps:Option Addr) (cs:Nat) (p q:Option Addr),B0 w wk (Vq bf (.slice ps sl.length cs) (.slice none 0 0)) 86->CP 3 (wk+1) w (.slice ps sl.length cs) (sl.map LZ)->AM (λk=>k<wk) w bf (CE os) (Di os) ->
  DI w (λk=>k≠wk/\(Value.slice ps sl.length cs).ownBlock≠some k) p q i->Dh (λk=>k<wk) w ->
  Calls Tryz.prog 61 #[ptV wk,Af n,.agg #[.pointer p,.pointer q],Af dp] w (A6P wk bf (.slice ps sl.length cs) w Q res)
def A7A {ι:Type} (wk bf:Nat) (os:List AV) (o:AV) (n:Int) (i:GS) (dp:Int) (sl:List Int) (it:l8_->List Jf->Except Int ι) (Q:ι->Option Addr->Nat->Nat->World->Prop) (res:Except Int ((Int × Int) × ι)):Prop :=
 (G6 os o F9 [80,97,103,101]=.ok true/\∃ c r,Dg o So=some c/\Fj os 32 c=some r/\r.kind≠6/\(∀ B l fs,EU os (Gv o i).res=.ok fs->Jb r=.ok l->QQ B l fs (it l fs) Q)/\res=GV os r (Gv o i) it) \/
 (G6 os o F9 [80,97,103,101]=.ok false/\G6 os o F9 [80,97,103,101,115]=.ok true/\dp<32/\∃ k,IO os o [75,105,100,115] 6=.ok (.mk 6 0 [] [] [.mk 8 k [] [] [] []] [])/\IO os o [67,111,117,110,116] 2=.ok (.mk 2 1 [] [] [] [])/\Lc wk bf os k (Gv o i) (dp+1) (sl++[n]) Q res)
theorem P5  (wk bf:Nat) (os:List AV) (H:Vx os) (o:AV) (n:Int) (i:GS) (dp:Int) (sl:List Int) (it:l8_->List Jf->Except Int ι) (Q:ι->Option Addr->Nat->Nat->World->Prop) (res:Except Int ((Int × Int) × ι))
  (hdp:0<=dp) (hn:n ∉ sl) (hn1:1<=n/\n<=os.length) (hsl:sl.length<=1000) (ho:F1 os (.mk 8 n [] [] [] []) 7=.ok o) (hib:∀ u,i.box=some u->Is os u) (hir:∀ u,i.res=some u->Is os u)
  (hO:A7A wk bf os o n i dp sl it Q res):Lc wk bf os n i dp sl Q res:=by
 intro w ps cs p q hk df hf hi hN
 have af:Is os o:=(HL H (Is.ref hn1 H.objs.len) ho).1
 have N:=AD.ofI df
 have a8:=N.lt
 have aM:=hk.lt
 have eM:DI w (λk=>k<w.heap.size/\k≠wk/\(Value.slice ps sl.length cs).ownBlock≠some k) p q i:=hi.mono λk h hk=>⟨hk,h⟩
 refine Ar func61 rfl ntmps61 ?_
 have dg:=AR.refl w.heap.size ([wk,vb (.slice ps sl.length cs) wk]) w
 refine A4<|WL.box rfl rfl (λb1 bd be bg aa fB=>?_)
 have dh:=DC df be aa
 have eN:=AM.same (w1:=bd) hf (λk hk hl=>aa.other k oO)
 have eO:=DI.same (w1:=bd) eM (λk hk hl=>aa.other k oO)
 have eP:=Dh.same (w1:=bd) hN (λk hk hl=>aa.other k oO)
 have eQ:=Bl be hk.lt
 have a':=hk.un aa eQ
 have bL:=CF be dg.size
 have di:=Dl dg (GT aa bL)
 refine A9 rfl<|Ad<|A4<|A3 rfl<|A1 (.nck rfl)<|A1 (.fa OO rfl sizeOf52 dD rfl)<|Ah (Ae (isAgg52 _) rfl a' rfl)<|A3 rfl<|Ao (Rt ps sl cs n _ (A2g dh) oO) (λw9 eR=>?_)
 obtain rfl:=eR
 refine A0<|Ai rfl (λeS=>?_) (λeS=>?_)
 exact De (dT aS) hn
 refine Ap<|If (α:=Option Addr × Nat) (λt=>[(0,ptV wk),(1,Af n),(3,Af dp),(6,ptV b1)]) (λt w'=>AR w.heap.size [wk,vb (.slice ps sl.length cs) wk] w w'/\B0 w' wk (Vq bf (.slice t.1 (sl++[n]).length t.2) (.slice none 0 0)) 86/\B0 w' b1 #[.pointer p,.pointer q] 117/\CP 3 (wk+1) w' (.slice t.1 (sl++[n]).length t.2) ((sl++[n]).map LZ)/\AM (λk=>k<wk) w' bf (CE os) (Di os)/\DI w' (λk=>k<w.heap.size/\k≠wk/\(Value.slice ps sl.length cs).ownBlock≠some k) p q i/\Dh (λk=>k<wk) w'/\(∀ g,(Value.slice t.1 (sl++[n]).length t.2).ownBlock=some g->(Value.slice ps sl.length cs).ownBlock=some g\/w.heap.size<=g)) ?_ (λt w1 hR=>?_)
 refine Am<|A3 rfl<|A3 rfl<|A1 (.nck rfl)<|A1 (.fa OO rfl sizeOf52 dD rfl)<|Ah (Ae (isAgg52 _) rfl a' rfl)<|A3 rfl<|Cs (ps:=_) IX Bw Yj rfl rfl rfl rfl rfl pR rfl (λb0 aN ag bM a1 ft=>?_)
 have dy:=DC dh ag a1
 have dz:=AM.same (w1:=aN) eN (λk hk hl=>a1.other k oO)
 have dA:=DI.same (w1:=aN) eO (λk hk hl=>a1.other k oO)
 have dB:=Dh.same (w1:=aN) eP (λk hk hl=>a1.other k oO)
 have dC:=Bl ag a'.lt
 have dE:=a'.un a1 dC
 have dG:=Bl ag bg.lt
 have dH:=bg.un a1 dG
 have bh:=CF ag di.size
 have ah:=Dl di (GT a1 bh)
 refine A25 IX A17 rfl rfl rfl dy rfl bM rfl (by simp only [By];omega) ((C9 aM ah.size)) rfl (λeT eU bN fu a3 b2=>?_)
 have dI:=dE.grown a3 (λe=>Ev N hk dD _ e rfl)
 have dJ:=dH.grown a3 (λe=>by have:=a8 _ e;omega)
 have dK:=AM.same dz (λk hk hl=>a3.block k hl (λe=>by have h9:=(a8 k e.symm).1;omega))
 have dL:=DI.same dA (λk hk hl=>a3.block k hl (λe=>hk.2.2 e.symm))
 have dM:=Dh.same dB (λk hk hl=>a3.block k hl (λe=>by have h9:=(a8 k e.symm).1;omega))
 have dN:=Dl ah (DZ a3 (λg hg=>.inl (by have hg:(Value.slice ps sl.length cs).ownBlock=some g:=hg;rw [A2C hg];simp)) ah.size)
 have bi:CP 3 (wk+1) eU eT ((sl++[n]).map LZ):=by rw [E9];exact bN
 obtain ⟨pv,cv,evv,-⟩:=CP.row bi
 subst evv
 have aB:∀ g,(Value.slice pv (sl++[n]).length cv).ownBlock=some g->(Value.slice ps sl.length cs).ownBlock=some g\/w.heap.size<=g:=λg hg=>(b2 g hg).imp id (λh=>C9 ah.size h)
 refine A1 (.nck rfl)<|A1 (.fa OO rfl sizeOf52 dD rfl)<|GP 1 ((Vq bf (.slice pv (sl++[n]).length cv) (.slice none 0 0))) dI sizeOf52 (λbj bO a4 fv=>?_)
 have dO:=CP.upd bi a4 (λg hg e=>by subst e;first | exact Ev N hk dD _ hg rfl | (rcases b2 _ hg with D | D <;> first | exact Ev N hk dD _ D rfl | omega) | exact Ev (AD.ofI j4) j3 dD _ hg rfl | (have:=(P _ hg).2;omega))
 have dP:=AM.same (w1:=bj) dK (λk hk hl=>a4.other k oM)
 have dQ:=DI.same (w1:=bj) dL (λk hk hl=>a4.other k oM)
 have dR:=Dh.same (w1:=bj) dM (λk hk hl=>a4.other k oM)
 have dS:=dJ.up a4
 have dU:=Dl dN (by exact QY a4 (by simp))
 refine A0<|?_
 exact ⟨(pv,cv),⟨rfl,rfl,rfl,rfl,tT⟩,dU,bO,dS,dO,dP,dQ,dR,aB⟩
 obtain ⟨⟨pv,cv⟩,bk⟩:=eX t
 subst bk
 obtain ⟨j1,j2,j3,j4,j5,j6,j7,aB⟩:=hR
 simp only at j2 j4 aB
 have fC:=j2.lt
 have fD:=j1.size
 have P:=(AD.ofI j4).lt
 have eV:DI w1 (λk=>k<w.heap.size/\k≠wk/\(Value.slice pv (sl++[n]).length cv).ownBlock≠some k) p q i:=j6.mono λk h hl=>⟨h.1,h.2.1,λe=>(aB k e).elim h.2.2 (λh2=>by have:=h.1;omega)⟩
 have fE:=j3.lt
 refine A4<|A3 rfl<|A3 rfl<|?_
 refine A1 (.build rfl (A6z 8 n)) ?_
 refine Eg BK rfl rfl ((IC wk bf _ _ _ _ os H (CW (DK 8 n [])) _ 7 _ j2 j5 (Yc _ (λ_=>True) 8 n (by have:=H.objs.len;omega)) (Is.ref hn1 H.objs.len))) (λg1 aC ai Y=>?_) (λg2 g3 aC ai Y=>?_)
 exact De (ho.symm.trans ai) (λh=>nomatch h)
 have dV:=CP.below j4 Y.1
 have dW:=AM.same (w1:=aC) j5 (λk hk hl=>Y.1.block k hl)
 have dX:=DI.same (w1:=aC) eV (λk hk hl=>Y.1.block k hl)
 have dY:=Dh.same (w1:=aC) j7 (λk hk hl=>Y.1.block k hl)
 have bm:=j2.bl Y.1
 have bn:=j3.bl Y.1
 have bo:=kB j1 Y.1
 have dj:=ai
 rw [ho] at dj
 obtain rfl:=Except.ok.inj dj
 obtain ⟨x,ex,hx⟩:=Y.2
 subst ex
 obtain ⟨LV,bp⟩:=eX ((w1).heap.size)
 rw [<- bp] at hx
 have dZ:=Y.1.size
 rw [<- bp] at dZ
 have fF:w1.heap.size<=LV:=by rw [bp];exact DP _
 obtain ⟨LW,eW⟩:=eX ((aC).heap.size)
 have eY:=hx.mono (T:=λq=>LV<=q/\q<LW) (λq D h2=>⟨D,by rw [eW];exact h2⟩)
 refine Bj Cz rfl (λaD aj ak bP U fw=>?_)
 have d':=DC dV ak U
 have e0:=AM.same (w1:=aj) dW (λk hk hl=>U.other k oO)
 have ea:=DI.same (w1:=aj) dX (λk hk hl=>U.other k oO)
 have eb:=Dh.same (w1:=aj) dY (λk hk hl=>U.other k oO)
 have ec:=AB.same (w1:=aj) eY (λk hk hl=>U.other k oO)
 have ed:=Bl ak bm.lt
 have ee:=bm.un U ed
 have ef:=Bl ak bn.lt
 have eg:=bn.un U ef
 have bq:=CF ak bo.size
 have eh:=Dl bo (GT U bq)
 refine Ax rfl rfl bP Al rfl rfl (λb3 am V fx=>?_)
 have ei:=CP.upd d' V (λg hg e=>by subst e;first | exact Ev N hk dD _ hg rfl | (rcases HF _ hg with D | D <;> first | exact Ev N hk dD _ D rfl | omega) | exact Ev (AD.ofI j4) j3 dD _ hg rfl | (have:=(P _ hg).2;omega))
 have ej:=AM.same (w1:=b3) e0 (λk hk hl=>V.other k oM)
 have ek:=DI.same (w1:=b3) ea (λk hk hl=>V.other k oM)
 have el:=Dh.same (w1:=b3) eb (λk hk hl=>V.other k oM)
 have bt:=AB.same (w1:=b3) ec (λk hk hl=>V.other k oM)
 have em:=ee.up V
 have bu:=eg.up V
 have en:=Dl eh (by exact GT V oO)
 refine A0<|A4<|A3 rfl<|Ah (Bk rfl am Ay rfl Al)<|Ah (Bk rfl bu Gp rfl Fz)<|Bf BK rfl rfl ((A2H _ p q i _ _ x o _ ek bt)) (λz b4 a0=>?_)
 have eo:=CP.below ei a0.2
 have ep:=AM.same (w1:=b4) ej (λk hk hl=>a0.2.block k hl)
 have eq:=Dh.same (w1:=b4) el (λk hk hl=>a0.2.block k hl)
 have er:=AB.same (w1:=b4) bt (λk hk hl=>a0.2.block k hl)
 have es:=em.bl a0.2
 have et:=bu.bl a0.2
 have eu:=am.bl a0.2
 have ev:=kB en a0.2
 have hz:=(a0).1
 have fG:=am.lt
 obtain ⟨LD,g4⟩:=eX ((b4).heap.size)
 have fH:=(a0).2.size
 have eZ:=hz.mono (T:=λk=>k<LD/\k≠wk/\k≠b1/\k≠aD/\(Value.slice pv (sl++[n]).length cv).ownBlock≠some k) (λk h hl=>⟨oO,(by rcases h with ⟨h,h2⟩ | ⟨h,h2⟩ | h <;> omega),(by rcases h with ⟨h,h2⟩ | ⟨h,h2⟩ | h <;> omega),(by rcases h with ⟨h,h2⟩ | ⟨h,h2⟩ | h <;> omega),λe=>(by have h7:=(P k e).2;rcases h with ⟨h,h2⟩ | ⟨h,h2⟩ | h;exact h.2.2 e;omega;omega)⟩)
 have dk:=V7 af hib hir
 refine Ax rfl rfl et Fz rfl rfl (λb6 bQ X fy=>?_)
 have ew:=CP.upd eo X (λg hg e=>by subst e;first | exact Ev N hk dD _ hg rfl | (rcases HF _ hg with D | D <;> first | exact Ev N hk dD _ D rfl | omega) | exact Ev (AD.ofI j4) j3 dD _ hg rfl | (have:=(P _ hg).2;omega))
 have bv:=AM.same (w1:=b6) ep (λk hk hl=>X.other k oM)
 have ey:=Dh.same (w1:=b6) eq (λk hk hl=>X.other k oM)
 have bw:=AB.same (w1:=b6) er (λk hk hl=>X.other k oM)
 have ez:=DI.same (w1:=b6) eZ (λk hk hl=>X.other k oM)
 have bz:=es.up X
 have bA:=eu.up X
 have eA:=Dl ev (by exact GT X oO)
 refine A0<|Ad<|A4<|A3 rfl<|Ah (Bk rfl bA Ay rfl Al)<|C1 BK rfl rfl ((Jp wk bf _ _ _ _ os H x o F9 [80,97,103,101] _ bz bv bw af)) (λg5 aE an L=>?_) (λg6 aE an L=>?_)
 rcases hO with h | h <;> exact De (h.1.symm.trans an) (λh=>nomatch h)
 have eB:=CP.below ew L
 have aO:=AM.same (w1:=aE) bv (λk hk hl=>L.block k hl)
 have bB:=Dh.same (w1:=aE) ey (λk hk hl=>L.block k hl)
 have aP:=AB.same (w1:=aE) bw (λk hk hl=>L.block k hl)
 have bC:=DI.same (w1:=aE) ez (λk hk hl=>L.block k hl)
 have ao:=bz.bl L
 have bD:=bQ.bl L
 have aQ:=bA.bl L
 have ap:=kB eA L
 have dm:=an
 have fI:=(L).size
 refine A0<|Ai rfl (λe'=>?_) (λe'=>?_)
 obtain ⟨c,r,hc,hr,f0,hV,rfl⟩:∃ c r,Dg o So=some c/\Fj os 32 c=some r/\r.kind≠6/\(∀ B l fs,EU os (Gv o i).res=.ok fs->Jb r=.ok l->QQ B l fs (it l fs) Q)/\res=GV os r (Gv o i) it:=by
  rcases hO with ⟨D,h⟩ | ⟨D,-⟩;exact h;have:=Pw D dm;simp_all
 refine A4<|A3 rfl<|Ah (Bk rfl aQ Ay rfl Al)<|Ah (Bk rfl bD Gp rfl Fz)<|Eg BK rfl rfl ((A2G wk bf _ _ _ _ os H x o c r z.1 z.2 (Gv o i) it Q _ ao aO aP af bC dk.1 dk.2 (bB).blk hc hr f0 (λl fs D h=>hV _ l fs D h))) (λeC f1 aq aR=>?_) (λfJ fK f1 aq aR=>?_)
 exact Bt (GN eC aq (Ej (ap.below (Jg aM) (Tm a8)) (Bh.below aR (Jg ao.lt) (DP _))))
 obtain ⟨rfl,hT,aF⟩:=aR
 have bE:=Dl ap (Lf hT (by simp) ap.size)
 refine A0<|A4<|A9 rfl<|AW ?_
 exact JC _ _ aq rfl ⟨rfl,bE,_,aF⟩
 obtain ⟨dn,hdp,kk,dq,dr,f2⟩:G6 os o F9 [80,97,103,101,115]=.ok true/\dp<32/\∃ k,IO os o [75,105,100,115] 6=.ok (.mk 6 0 [] [] [.mk 8 k [] [] [] []] [])/\IO os o [67,111,117,110,116] 2=.ok (.mk 2 1 [] [] [] [])/\Lc wk bf os k (Gv o i) (dp+1) (sl++[n]) Q res:=by
  rcases hO with ⟨D,-⟩ | ⟨D,h⟩;have:=Pw D dm;simp_all;exact h
 refine Ap<|A4<|A3 rfl<|Ah (Bk rfl aQ Ay rfl Al)<|C1 BK rfl rfl ((Jp wk bf _ _ _ _ os H x o F9 [80,97,103,101,115] _ ao aO aP af)) (λfL ab ac A=>?_) (λfM ab ac A=>?_)
 exact De (dn.symm.trans ac) (λh=>nomatch h)
 have bR:=CP.below eB A
 have bS:=AM.same (w1:=ab) aO (λk hk hl=>A.block k hl)
 have bT:=Dh.same (w1:=ab) bB (λk hk hl=>A.block k hl)
 have bU:=AB.same (w1:=ab) aP (λk hk hl=>A.block k hl)
 have bV:=DI.same (w1:=ab) bC (λk hk hl=>A.block k hl)
 have bW:=ao.bl A
 have bX:=bD.bl A
 have bY:=aQ.bl A
 have bZ:=kB ap A
 have f3:=Pw dn ac
 have fN:=(A).size
 refine C1 BK rfl rfl ((Ei _ _)) (λfO ad aG C=>?_) (λfP ad aG C=>?_)
 exact De (CL aG).1 (by rw [<- f3];decide)
 have b':=CP.below bR C
 have c4:=AM.same (w1:=ad) bS (λk hk hl=>C.block k hl)
 have c5:=Dh.same (w1:=ad) bT (λk hk hl=>C.block k hl)
 have c6:=AB.same (w1:=ad) bU (λk hk hl=>C.block k hl)
 have c7:=DI.same (w1:=ad) bV (λk hk hl=>C.block k hl)
 have c8:=bW.bl C
 have c9:=bX.bl C
 have ca:=bY.bl C
 have cb:=kB bZ C
 have fQ:=(C).size
 refine A0<|Ad<|A4<|A3 rfl<|A1 (.geq rfl rfl)<|A0<|Ai rfl (λaT=>?_) (λaT=>?_)
 have cc:=dT aT
 omega
 have cc:=dF aT
 refine Ap<|Ad<|Fe 10 rfl BR (λar d=>?_)
 have cd:=CP.drew b' d
 have au:=AM.same (w1:=ar) c4 (λk hk hl=>(by obtain ⟨m,rfl⟩:=d;rfl))
 have cf:=Dh.same (w1:=ar) c5 (λk hk hl=>(by obtain ⟨m,rfl⟩:=d;rfl))
 have b7:=AB.same (w1:=ar) c6 (λk hk hl=>(by obtain ⟨m,rfl⟩:=d;rfl))
 have cg:=DI.same (w1:=ar) c7 (λk hk hl=>(by obtain ⟨m,rfl⟩:=d;rfl))
 have a6:=c8.drew d
 have b8:=c9.drew d
 have a7:=ca.drew d
 have b9:=Dl cb (OS d)
 refine AI 0 rfl (.mv rfl) rfl<|AI 3 rfl (.mv rfl) rfl<|Ka [(0,ptV wk),(3,Af dp),(6,ptV b1),(9,ptV aD),(54,ptV wk),(57,ptV wk)] [⟨1,55,[],(λv _=>v=.agg (DN x).toArray),false⟩,⟨2,56,[(1,55)],(ObL LD (.mk 6 0 [] [] [.mk 8 kk [] [] [] []] [])),false⟩,⟨4,58,[],(λv _=>v=.agg (DN x).toArray),false⟩,⟨5,59,[(4,58)],(ObL LD (.mk 2 1 [] [] [] [])),false⟩,⟨6,10,[],(QU LD),true⟩,⟨7,11,[],(QU LD),true⟩] 2 ⟨rfl,rfl,rfl,rfl,rfl,rfl,tT⟩ rfl kR ⟨⟨(λ_ _ _ h _=>h),λh=>nomatch h⟩,⟨ObL.up,λh=>nomatch h⟩,⟨(λ_ _ _ h _=>h),λh=>nomatch h⟩,⟨ObL.up,λh=>nomatch h⟩,⟨QU.up,λ_=>QU.lt⟩,⟨QU.up,λ_=>QU.lt⟩,tT⟩ ⟨?_,?_,?_,?_,?_,?_,tT⟩ (λg aU hs b hE hA=>?_)
 intro K g w1 hs b hd k
 have F:FL [(9,ptV aD)] g:=⟨hs.look rfl,tT⟩
 refine ⟨_,rfl,WL.front _ F ?_⟩
 refine Ah (Bk rfl (a7.below b a7.lt) Ay rfl Al)<|A0<|?_
 exact k _ _ _ (Es.front F) rfl (Gb _ _) (λh=>nomatch h)
 intro K g w1 hs b hd k
 obtain ⟨⟨f4,f5,f6⟩,-⟩:=hd
 have F:FL [(55,f4),(54,ptV wk)] g:=⟨f5,hs.look rfl,tT⟩
 refine ⟨_,rfl,WL.front _ F ?_⟩
 subst f6
 refine Eg BK rfl rfl (NI wk bf _ _ _ _ os H x o [75,105,100,115] 6 _ (a6.below b a6.lt) ((au).same λk hk hl=>b.block k hl) ((b7).same λk hk hl=>b.block k hl) af) (λk5 w5 a9 h5=>De (dq.symm.trans a9) (λh=>nomatch h)) (λa5 x5 w5 a9 h5=>A0<|?_)
 exact k _ _ _ (Es.front F) (by rw [dq] at a9;cases a9;exact A2j h5.2 (by have:=b.size;have:=C6.size d;omega)) h5.1 (λh=>nomatch h)
 intro K g w1 hs b hd k
 have F:FL [(9,ptV aD)] g:=⟨hs.look rfl,tT⟩
 refine ⟨_,rfl,WL.front _ F ?_⟩
 refine Ah (Bk rfl (a7.below b a7.lt) Ay rfl Al)<|A0<|?_
 exact k _ _ _ (Es.front F) rfl (Gb _ _) (λh=>nomatch h)
 intro K g w1 hs b hd k
 obtain ⟨⟨f7,f8,f9⟩,-⟩:=hd
 have F:FL [(58,f7),(57,ptV wk)] g:=⟨f8,hs.look rfl,tT⟩
 refine ⟨_,rfl,WL.front _ F ?_⟩
 subst f9
 refine Eg BK rfl rfl (NI wk bf _ _ _ _ os H x o [67,111,117,110,116] 2 _ (a6.below b a6.lt) ((au).same λk hk hl=>b.block k hl) ((b7).same λk hk hl=>b.block k hl) af) (λk5 w5 a9 h5=>De (dr.symm.trans a9) (λh=>nomatch h)) (λa5 x5 w5 a9 h5=>A0<|?_)
 exact k _ _ _ (Es.front F) (by rw [dr] at a9;cases a9;exact A2j h5.2 (by have:=b.size;have:=C6.size d;omega)) h5.1 (λh=>nomatch h)
 intro K g w1 hs b hd k
 have F:FL [] g:=trivial
 refine ⟨_,rfl,WL.front _ F ?_⟩
 refine Bj Cz rfl (λb5 w5 aH aV aW eD=>A0<|?_)
 exact k _ _ _ (Es.front F) ⟨b5,rfl,aV,by have:=b.size;have:=C6.size d;omega⟩ (BU (Gb _ _) (Nat.le_of_eq aH.symm) aW) (λ_=>Nat.le_of_eq aH.symm)
 intro K g w1 hs b hd k
 have F:FL [] g:=trivial
 refine ⟨_,rfl,WL.front _ F ?_⟩
 refine Bj Cz rfl (λb5 w5 aH aV aW eD=>A0<|?_)
 exact k _ _ _ (Es.front F) ⟨b5,rfl,aV,by have:=b.size;have:=C6.size d;omega⟩ (BU (Gb _ _) (Nat.le_of_eq aH.symm) aW) (λ_=>Nat.le_of_eq aH.symm)
 obtain ⟨-,⟨fb,fc,fd⟩,-,⟨fe,ff,fg⟩,⟨ds,dt,fh⟩,⟨du,dv,fi⟩,-⟩:=hE
 refine WY.front [(56,fb),(59,fe),(10,ds),(11,du),(0,ptV wk),(3,Af dp),(6,ptV b1),(9,ptV aD),(54,ptV wk),(57,ptV wk)] ⟨fc,ff,dt,dv,hs.look rfl,hs.look rfl,hs.look rfl,hs.look rfl,hs.look rfl,hs.look rfl,tT⟩ ?_
 have ci:=CP.below cd b
 have cj:=AM.same (w1:=aU) au (λk hk hl=>b.block k hl)
 have ck:=Dh.same (w1:=aU) cf (λk hk hl=>b.block k hl)
 have cl:=DI.same (w1:=aU) cg (λk hk hl=>b.block k hl)
 have cm:=a6.below b a6.lt
 have cn:=b8.below b b8.lt
 have co:=a7.below b a7.lt
 have cq:=Dl b9 (kb_ b b9.size)
 have dw:bOf ds≠bOf du:=hA 4 5 _ _ rfl rfl rfl rfl (show (6:Nat)≠7 by decide) _ _ dt dv
 obtain ⟨y,rfl,hy⟩:=fd
 obtain ⟨yc,rfl,fj⟩:=fg
 obtain ⟨fk,rfl,A5e,fR⟩:=fh
 obtain ⟨b0,rfl,A5d,fS⟩:=fi
 have dw:fk≠b0:=dw
 have eF:yc.n=1:=fj.nE.symm
 obtain ⟨keys,list,data,cs',dx,ok,-,-,-,hr,fl,-,-,fm,eG⟩:=hy.inv
 obtain ⟨c1,c2,c3,kp,kl,kc,lp,ll,lc,dp',dl,dc⟩:=y
 have e2:=ok.ll
 simp only at e2 hr fl dx
 obtain ⟨rfl,rfl,rfl,rfl,rfl,rfl⟩:=AV.mk.inj dx
 obtain ⟨c0,rfl⟩:=List.length_eq_one_iff.1 (fm.trans rfl)
 subst e2
 have bG:=eG 0 (by simp) (by simp)
 simp only [F5] at bG
 have aI:c0.kind=8:=bG.kind.symm
 have bH:c0.n=kk:=bG.nE.symm
 obtain ⟨e1,e2,e3,e4,e5,e6,e7,e8,e9,g7,g8,g9⟩:=c0
 simp only at aI bH
 subst aI
 subst bH
 have aI:(8:Int)=8:=rfl
 have fT:=Xs hr aI A5e
 have fU:=Xs hr aI A5d
 refine Av 8 rfl<|Ax rfl rfl A5e Al rfl rfl (λaX bI f fn=>?_)
 have cr:=CP.upd ci f (λg hg e=>by subst e;first | exact Ev N hk dD _ hg rfl | (rcases HF _ hg with D | D <;> first | exact Ev N hk dD _ D rfl | omega) | exact Ev (AD.ofI j4) j3 dD _ hg rfl | (have:=(P _ hg).2;omega))
 have ct:=AM.same (w1:=aX) cj (λk hk hl=>f.other k oM)
 have cu:=Dh.same (w1:=aX) ck (λk hk hl=>f.other k oM)
 have cw:=DI.same (w1:=aX) cl (λk hk hl=>f.other k oM)
 have cy:=cm.up f
 have cz:=cn.up f
 have cA:=co.up f
 have cB:=A5d.upd f oM
 have cC:=AG.upd hr f (λ_=>by assumption)
 have cD:=Dl cq (by exact GT f oO)
 refine A0<|Av 9 rfl<|Ax rfl rfl cB Al rfl rfl (λav bJ j fo=>?_)
 have cE:=CP.upd cr j (λg hg e=>by subst e;first | exact Ev N hk dD _ hg rfl | (rcases HF _ hg with D | D <;> first | exact Ev N hk dD _ D rfl | omega) | exact Ev (AD.ofI j4) j3 dD _ hg rfl | (have:=(P _ hg).2;omega))
 have cF:=AM.same (w1:=av) ct (λk hk hl=>j.other k oM)
 have cG:=Dh.same (w1:=av) cu (λk hk hl=>j.other k oM)
 have cH:=DI.same (w1:=av) cw (λk hk hl=>j.other k oM)
 have cI:=cy.up j
 have cJ:=cz.up j
 have cK:=cA.up j
 have ba:=bI.up j
 have cL:=AG.upd cC j (λ_=>by assumption)
 have cM:=Dl cD (by exact GT j oO)
 refine A0<|Bn kR<|A4<|A9 rfl<|Ad<|A4<|A1 (.fa Ay rfl Cr dD rfl)<|Ah (Ae (Dv _) rfl ba rfl)<|A1 (.lenS C2 rfl)<|A3 rfl<|A0<|AO ?_
 have L1:=cI
 have L2:=cE
 have L3:=cF
 have L4:=cH
 have L5:=cG
 have L6:=cJ
 have L7:=bJ
 have L8:=cL
 have L0:=cM
 refine BM (α:=Nat) (λt=>[(0,ptV wk),(3,Af dp),(6,ptV b1),(11,ptV b0),(12,Af (t:Int)),(61,.slice lp 1 lc),(62,Af (1:Int)),(63,Af (t:Int))]) (λt w'=>(t=0/\av=w')\/(t=1/\AR w.heap.size [wk,vb (.slice ps sl.length cs) wk] w w'/\B0 w' b0 (DN yc).toArray 27/\∃ a s,res=.ok a/\MY wk bf s Q a w')) (λt=>1-t) (0) ⟨rfl,rfl,rfl,rfl,rfl,rfl,rfl,rfl,tT⟩ (.inl ⟨rfl,rfl⟩) (λt w1 hR=>?_)
 obtain ⟨i0,bk⟩:=eX t
 subst bk
 refine A4<|A1 (.lss rfl rfl)<|A0<|Ad<|Ai rfl (λaY=>?_) (λaY=>?_)
 have cN:=dT aY
 obtain ⟨rfl,rfl⟩:=hR.resolve_right (λh=>by have:=h.1;simp_all)
 refine Ap<|Ad<|AO<|A4<|A1 (.ixm C2 CU rfl rfl (L8.isp (by (simp only [Aa,Ak];omega))) (0) (rfl) (by simp))<|Ah (Dz Ay rfl Al L8 (0) (by (simp only [Aa,Ak];omega)) rfl)<|Bj Cz rfl (λfV aw a2 bK G fp=>?_)
 have cO:=DC L2 a2 G
 have cP:=AM.same (w1:=aw) L3 (λk hk hl=>G.other k oO)
 have cQ:=Dh.same (w1:=aw) L5 (λk hk hl=>G.other k oO)
 have cR:=DI.same (w1:=aw) L4 (λk hk hl=>G.other k oO)
 have cS:=Bl a2 L1.lt
 have cT:=L1.un G cS
 have cU:=Bl a2 L6.lt
 have cV:=L6.un G cU
 have fz:=Bl a2 cK.lt
 have fA:=Bl a2 ba.lt
 have cW:=Bl a2 L7.lt
 have cX:=L7.un G cW
 have bc:=CF a2 L0.size
 have cY:=Dl L0 (GT G bc)
 refine Ax rfl rfl bK Al rfl rfl (λaZ aJ J fq=>?_)
 have cZ:=CP.upd cO J (λg hg e=>by subst e;first | exact Ev N hk dD _ hg rfl | (rcases HF _ hg with D | D <;> first | exact Ev N hk dD _ D rfl | omega) | exact Ev (AD.ofI j4) j3 dD _ hg rfl | (have:=(P _ hg).2;omega))
 have c':=AM.same (w1:=aZ) cP (λk hk hl=>J.other k oM)
 have d0:=Dh.same (w1:=aZ) cQ (λk hk hl=>J.other k oM)
 have d1:=DI.same (w1:=aZ) cR (λk hk hl=>J.other k oM)
 have d2:=cT.up J
 have d3:=cV.up J
 have d4:=cX.up J
 have d5:=Dl cY (by exact GT J oO)
 refine A0<|A4<|A1 (.fa Ay rfl Bw dD rfl)<|Ah (Ae (BZ _) rfl aJ rfl)<|A1 (.eql rfl rfl)<|C1 BK rfl rfl ((Ei _ _)) (λfW ax aK E=>?_) (λfX ax aK E=>?_)
 exact De (CL aK).1 (show ¬ (decide ((8:Int)=8)=false) by decide)
 have d6:=CP.below cZ E
 have d7:=AM.same (w1:=ax) c' (λk hk hl=>E.block k hl)
 have d8:=Dh.same (w1:=ax) d0 (λk hk hl=>E.block k hl)
 have d9:=DI.same (w1:=ax) d1 (λk hk hl=>E.block k hl)
 have da:=d2.bl E
 have db:=d3.bl E
 have bb:=d4.bl E
 have dd:=aJ.bl E
 have ay:=kB d5 E
 refine A0<|Am<|A3 rfl<|A3 rfl<|A1 (.fa Ay rfl Bw dD rfl)<|Ah (Ae (BZ _) rfl dd rfl)<|Ah (Bk rfl db Gp rfl Fz)<|A3 rfl<|A1 (.add rfl rfl (Ba oO))<|Eg BK rfl rfl ((f2 _ pv cv z.1 z.2 da d6 d7 ((d9).mono (λk h _=>⟨h.2.1,h.2.2.2.2⟩)) d8)) (λeH eI ae az=>?_) (λfY fZ eI ae az=>?_)
 exact Bt (GN eH ae (Ej (ay.below (Jg aM) (Tm a8)) az))
 obtain ⟨rfl,hK,s,aF⟩:=az
 have bE:=Dl ay (C7 hK ay.size (A12 aB))
 have fr:=B0.keepB bb hK (bb).lt (A13 oO (λg hg e=>by have h7:=(P g hg).2;omega))
 refine A1 (.add rfl rfl (Ba oO))<|A9 rfl<|Am<|A1 (.add rfl rfl (Ba oO))<|A3 rfl<|A0<|?_
 exact ⟨1,⟨rfl,rfl,rfl,rfl,rfl,rfl,rfl,rfl,tT⟩,.inr ⟨rfl,bE,fr,_,_,ae,aF⟩,oM⟩
 have cN:=dF aY
 obtain ⟨rfl,z1,z2,a,s,eJ,aF⟩:=hR.resolve_left (λh=>by have:=h.1;simp_all)
 refine BF<|A4<|A3 rfl<|A1 (.fa Ay rfl Bw dD rfl)<|Ah (Ae (BZ _) rfl z2 rfl)<|A1 (.eql rfl rfl)<|C1 BK rfl rfl ((Ei _ _)) (λf' eK aL aA=>?_) (λg0 eK aL aA=>?_)
 exact De (CL aL).1 (by rw [eF];decide)
 have de:=kB z1 aA
 have eL:=aA
 refine A0<|A4<|A3 rfl<|A9 rfl<|AW ?_
 exact JC a _ eJ rfl ⟨rfl,de,s,aF.below eL⟩
end
section
theorem A6C:Tryz.prog.built 117 []=some #[.pointer none,.pointer none]:=by kernel_rfl
theorem A4H  (wk bf:Nat) (os:List AV) (H:Vx os) (o:AV) (n:Int) (Q:ι->Option Addr->Nat->Nat->World->Prop) (res:Except Int ((Int × Int) × ι)) (hn1:1<=n/\n<=os.length) (ho:F1 os (.mk 8 n [] [] [] []) 7=.ok o)
  (hps:G6 os o F9 [80,97,103,101,115]=.ok true) (hNA:Lc wk bf os n ⟨none,none⟩ 0 [] Q res) (w:World) (hk:B0 w wk (Vq bf (.slice none 0 0) (.slice none 0 0)) 86) (hf:AM (λk=>k<wk) w bf (CE os) (Di os)) (hN:Dh (λk=>k<wk) w) :
  Calls Tryz.prog 38 #[ptV wk,Af n] w λe w'=>GZ 35 res (λa v w'=>v=.tuple #[]/\Below wk w w'/\∃ s,MY wk bf s Q a w') (λw'=>Below wk w w') e w':=by
 have ad:Is os o:=(HL H (Is.ref hn1 H.objs.len) ho).1
 have y:=hk.lt
 refine Ar func38 rfl ntmps38 ?_
 have ae:=CN w
 refine A4<|A3 rfl<|A3 rfl<|?_
 refine A1 (.build rfl (A6z 8 n)) ?_
 refine Eg BK rfl rfl ((IC wk bf _ _ _ _ os H (CW (DK 8 n [])) _ 7 _ hk hf (Yc _ (λ_=>True) 8 n (by have:=H.objs.len;omega)) (Is.ref hn1 H.objs.len))) (λk3 w1 m i=>?_) (λa2 x4 w1 m i=>?_)
 exact De (ho.symm.trans m) (λh=>nomatch h)
 have af:=AM.same (w1:=w1) hf (λk hk hl=>i.1.block k hl)
 have ag:=Dh.same (w1:=w1) hN (λk hk hl=>i.1.block k hl)
 have N:=hk.bl i.1
 have P:=Ci ae i.1
 have U:=m
 rw [ho] at U
 obtain rfl:=Except.ok.inj U
 obtain ⟨x,ex,hx⟩:=i.2
 subst ex
 have ah:=hx.mono (T:=λq=>q<w1.heap.size) (λq h1 h2=>h2)
 refine Bj Cz rfl (λb9 A B V c aq=>?_)
 have X:=AM.same (w1:=A) af (λk hk hl=>c.other k oO)
 have Y:=Dh.same (w1:=A) ag (λk hk hl=>c.other k oO)
 have Z:=AB.same (w1:=A) ah (λk hk hl=>c.other k oO)
 have a0:=Bl B N.lt
 have a1:=N.un c a0
 have a3:=uB P B c
 have ao:=CF B P.size
 refine Ax rfl rfl V Al rfl rfl (λC L b ap=>?_)
 have D:=AM.same (w1:=C) X (λk hk hl=>b.other k oM)
 have a4:=Dh.same (w1:=C) Y (λk hk hl=>b.other k oM)
 have a5:=AB.same (w1:=C) Z (λk hk hl=>b.other k oO)
 have E:=a1.up b
 have a6:=BU a3 oO b
 refine A0<|A4<|A3 rfl<|Ah (Bk rfl L Ay rfl Al)<|C1 BK rfl rfl ((Jp wk bf _ _ _ _ os H x o F9 [80,97,103,101,115] _ E D a5 ad)) (λar F j d=>?_) (λau F j d=>?_)
 exact De (hps.symm.trans j) (λh=>nomatch h)
 have a7:=AM.same (w1:=F) D (λk hk hl=>d.block k hl)
 have a8:=Dh.same (w1:=F) a4 (λk hk hl=>d.block k hl)
 have a9:=E.bl d
 have aa:=Ci a6 d
 have ai:=Pw hps j
 refine C1 BK rfl rfl ((Ei _ _)) (λav G u f=>?_) (λaw G u f=>?_)
 exact De (CL u).1 (by rw [<- ai];decide)
 have ab:=AM.same (w1:=G) a7 (λk hk hl=>f.block k hl)
 have ac:=Dh.same (w1:=G) a8 (λk hk hl=>f.block k hl)
 have J:=a9.bl f
 have K:=Ci aa f
 refine A0<|Am<|A3 rfl<|A3 rfl<|?_
 refine A1 (.build rfl A6C) ?_
 refine Eg BK rfl rfl ((hNA _ none 0 none none J (CP.nil _ _ _) ab ⟨rfl,rfl⟩ ac)) (λaj ak l t=>?_) (λax ay ak l t=>?_)
 exact Bt (GN aj l (Ej (Below.mono K (Jg y)) t))
 obtain ⟨-,hK,am⟩:=t
 have an:=Ej (Below.mono K (Jg y)) (hK.below (Jg J.lt) (Tm (M:=0) (λg h=>nomatch h)))
 refine A0<|Cx (Cd rfl ?_)
 exact JC _ _ l rfl ⟨rfl,an,am⟩
theorem A2I {os:List AV} {K:Nat} (hK:K<=4096) (hl:1<=os.length):Is os (ST (K+1)):=by
 refine ⟨SS _ oO,.mk _ (λh=>nomatch h) λx hx=>?_⟩
 rcases A6.1 hx with rfl | hx
 · exact .mk _ (λ_=>⟨dD,by show (1:Int)<=_;omega⟩) (λx hx=>by cases hx)
 ·
  rw [B8.1 hx]
  exact .mk _ (λh=>nomatch h) (λx hx=>by cases hx)
theorem Ur (b4 b5:Nat) (w:World) :
  CallsD Tryz.prog 32 #[ptV b4,ptV b5] .returning w λe u' w'=>u'=.returning/\(∃ v,e=.returned v)/\w'=w:=by
 refine Eo func32 rfl ntmps32 bL rfl<|A0<|AO<|A4<|A1 (.eqNil0 kR rfl)<|A0<|BQ rfl rfl<|Am<|A9 rfl<|Cx (Cd rfl ?_)
 exact ⟨⟨_,rfl⟩,rfl⟩
theorem T9 (b4 b5 B:Nat) (v:Value) (j k:Int) (w:World) (h4:B0 w b4 #[v] 41) (h5:B0 w b5 #[Af j] 35) (hB1:B<=b4) (h45:b4<b5) :
  CallsD Tryz.prog 32 #[ptV b4,ptV b5] (.panicking [{ v:=.iface 35 (Af k),recovered:=false }]) w
   λe u' w'=>u'=.panicking [{ v:=.iface 35 (Af k),recovered:=true }]/\(∃ v,e=.returned v) /\
    B0 w' b4 #[.slice none 0 0] 41/\B0 w' b5 #[Af k] 35/\Below B w w':=by
 refine Eo func32 rfl ntmps32 bL rfl ?_
 have f:=Gb (B) w
 refine A0<|AO<|A4<|A1 (.eqNil kR rfl)<|A0<|Aq rfl rfl<|A4<|A1 (.tas Kr rfl)<|A1 (.ext rfl rfl)<|A1 (.ext rfl rfl)<|A0<|BQ rfl rfl<|A4<|A9 rfl<|Am<|A3 rfl<|Br PL rfl rfl rfl h4 (by exact Nat.le_of_ble_eq_true rfl) (λm c a o=>?_)
 have c:B0 m b4 _ _:=c
 have a:CK b4 _ _:=a
 have g:=h5.upd a oM
 have h:=BU f oO a
 refine Br EJ rfl rfl rfl g (by exact Nat.le_of_ble_eq_true rfl) (λq d b s=>?_)
 have d:B0 q b5 _ _:=d
 have b:CK b5 _ _:=b
 have i:=c.up b
 have l:=BU h oO b
 refine A0<|Cx (Cd rfl ?_)
 exact ⟨⟨_,rfl⟩,i,d,l⟩
theorem JH {P:Program} {fn:Func} {f:Fr} {w:World} {a b:Tmp} {ta tb:TypeId} {pa pb:Addr} {x y:Value} (hr:fn.results=#[.cell a ta,.cell b tb]) (ha:look f a=some (.pointer (some pa))) (hb:look f b=some (.pointer (some pb)))
  (hx:(loadVar ta pa).run P w=.ok x w) (hy:(loadVar tb pb).run P w=.ok y w):CQ P fn f w (.tuple #[x,y]):=λtmps hh=>by
 have e1:=hh _ _ ha;have e2:=hh _ _ hb
 simp only [AK] at e1 e2
 simp [results,hr,e1,e2,asAddr,hx,hy]
abbrev Xd {ι:Type} (w:World) (Q:ι->Option Addr->Nat->Nat->World->Prop) (res:Except Int ((Int × Int) × ι)):Ending->World->Prop:=λe w'=>AL w w'/\match res with
 | .error k=>e=.returned (.tuple #[.slice none 0 0,Af k])
 | .ok a=>∃ (p:Option Addr) (c:Nat) (x:PgV),e=.returned (.tuple #[.slice p 1 c,Af 0])/\AG Xz w' p [x]/\x.wd=a.1.1/\x.ht=a.1.2/\∃ L M,QF L M (Q a.2 x.p x.n x.c) w'
theorem A7m (bf:Nat):Tryz.prog.built 86 [(0,ptV bf)]=some (Vq bf (.slice none 0 0) (.slice none 0 0)):=by kernel_rfl
theorem TU  (bf:Nat) (S:Nat->Prop) (os:List AV) (H:Vx os) (rt nd:AV) (n:Int) (Q:ι->Option Addr->Nat->Nat->World->Prop) (res:Except Int ((Int × Int) × ι)) (hlen:1<=os.length) (hr:F1 os (.mk 8 1 [] [] [] []) 7=.ok rt)
    (hc:G6 os rt F9 [67,97,116,97,108,111,103]=.ok true) (hp:Dg rt [80,97,103,101,115]=some (.mk 8 n [] [] [] [])) (hn1:1<=n/\n<=os.length) (ho:F1 os (.mk 8 n [] [] [] []) 7=.ok nd) (hps:G6 os nd F9 [80,97,103,101,115]=.ok true)
    (hNA:∀ wk,Lc wk bf os n ⟨none,none⟩ 0 [] Q res) (w:World) (hf:AM S w bf (CE os) (Di os)) (hN:ZN w) :
    Calls Tryz.prog 15 #[ptV bf] w (Xd w Q res):=by
  have a':AM (λk=>k<w.heap.size) w bf (CE os) (Di os):=hf.mono λk _ hk=>hk
  have b0:Dh (λk=>k<w.heap.size) w:=⟨hN.lt,hN⟩;have G:=Hk os;have b2:Is os (ST ((Di os).length+1)):=A2I (by rw [G];exact H.objs.len) hlen;have b3:Is os rt:=(HL H (Is.ref ⟨dD,oO⟩ H.objs.len) hr).1;have hg:IO os (ST ((Di os).length+1)) [82,111,111,116] 7=.ok rt:=by rw [Iy (x:=.mk 8 1 [] [] [] []) rfl];exact hr
  refine GQ func15 rfl ntmps15 bL ?_;refine WD.seq<|Am<|Bj zeroValue41 rfl (λb1 aD b4 a9 N bk=>?_);refine Bj SN rfl (λb5 aE aF aa A bm=>?_);have b6:=Bl aF a9.lt;have aG:=a9.un A b6;refine A0<|WD.seq<|A4<|A3 rfl<|A1 (.bis (false) (.eqP ZX rfl) (by rfl))<|A0<|Aq rfl rfl<|Ap<|WD.defer rfl rfl<|Nz<|A4<|A3 rfl<|?_;refine A1 (.build rfl (A7m bf)) ?_;refine WL.box rfl rfl (λX ab P az l bg=>?_);have ac:=AM.same (w1:=ab) (AM.same (w1:=aE) (AM.same (w1:=aD) a' (λk hk hl=>N.other k oO)) (λk hk hl=>A.other k oO)) (λk hk hl=>l.other k oO);have aO:=Bl P aG.lt;have aP:=Bl P aa.lt;refine A9 rfl<|A4<|A3 rfl<|A3 rfl<|Bf BK rfl rfl ((Rj bf _ _ _ _ ac (by rw [G];exact H.objs.len))) (λz aH j=>?_);have ad:=AM.same (w1:=aH) ac (λk hk hl=>j.2.block k hl);have ae:=az.bl j.2;have hz:=j.1.1;refine Eg BK rfl rfl ((NI X bf _ _ _ _ os H z _ [82,111,111,116] 7 _ ae ad hz b2)) (λbt a0 B g=>?_) (λbu bv a0 B g=>?_);exact De (hg.symm.trans B) (λh=>nomatch h);have af:=((aG.un l aO).bl j.2).bl g.1;have ag:=((aa.un l aP).bl j.2).bl g.1;have ah:=ae.bl g.1;have aI:=B;rw [hg] at aI;obtain rfl:=Except.ok.inj aI;obtain ⟨x,ex,hx⟩:=g.2;subst ex;have ai:=hx.mono (T:=λq=>q<a0.heap.size) (λq h1 h2=>h2);refine Bj Cz rfl (λbw U C aA c bh=>?_);have aQ:=Bl C af.lt;have aR:=Bl C ag.lt;have aS:=Bl C ah.lt;refine Ax rfl rfl aA Al rfl rfl (λaj a1 d bi=>?_);have ak:=AM.same (w1:=aj) (AM.same (w1:=U) (AM.same (w1:=a0) ad (λk hk hl=>g.1.block k hl)) (λk hk hl=>c.other k oO)) (λk hk hl=>d.other k oM);have am:=AB.same (w1:=aj) (AB.same (w1:=U) ai (λk hk hl=>c.other k oO)) (λk hk hl=>d.other k oM);have an:=(ah.un c aS).up d;refine A0<|A4<|A3 rfl<|Ah (Bk rfl a1 Ay rfl Al)<|C1 BK rfl rfl ((Jp X bf _ _ _ _ os H x rt F9 [67,97,116,97,108,111,103] _ an ak am b3)) (λbz a2 D e=>?_) (λbA a2 D e=>?_)
  exact De (hc.symm.trans D) (λh=>nomatch h);have b7:=Pw hc D;refine C1 BK rfl rfl ((Ei _ _)) (λbB a3 a4 f=>?_) (λbC a3 a4 f=>?_);exact De (CL a4).1 (by rw [<- b7];decide);refine A0<|A4<|Ah (Bk rfl ((a1.bl e).bl f) Ay rfl Al)<|Bf BK rfl rfl ((HS x rt _ [80,97,103,101,115] _ (AB.same (w1:=a3) (AB.same (w1:=a2) am (λk hk hl=>e.block k hl)) (λk hk hl=>f.block k hl)))) (λzp aJ u=>?_);have ao:=((((af.un c aQ).up d).bl e).bl f).bl u;have ap:=((((ag.un c aR).up d).bl e).bl f).bl u;have aq:=((an.bl e).bl f).bl u;obtain ⟨zp,ar⟩:=zp;rw [hp] at ar;have aK:zp.kind=8:=ar.kind.symm;have aL:zp.n=n:=ar.nE.symm;obtain ⟨e1,e2,e3,e4,e5,e6,e7,e8,e9,bD,bE,bG⟩:=zp;simp only at aK aL;subst aK;subst aL;refine A3 rfl<|A1 (.ext rfl rfl)<|A1 (.ext rfl rfl)<|Bj Cz rfl (λbH au E aB i bj=>?_);have aT:=Bl E ao.lt;have aU:=Bl E ap.lt;have aV:=Bl E aq.lt;refine Ax rfl rfl aB Al rfl rfl (λav J b b8=>?_);refine A9 rfl<|A4<|A3 rfl<|A3 rfl<|Ck rfl rfl rfl (λF=>?_) (λF=>?_);refine A1 (.fa Ay rfl Bw dD rfl)<|Az F<|Ah (Ae (BZ _) rfl J rfl)<|Az F<|A1 (.eql rfl rfl)<|A1 (.pkT rfl F rfl)<|C1 BK rfl rfl ((Ei _ _)) (λbn V K a=>?_) (λbo V K a=>?_);exact De (CL K).1 (show ¬ (decide ((8:Int)=8)=false) by decide);have a5:=Dh.same (w1:=V) (Dh.same (w1:=av) (Dh.same (w1:=au) (Dh.same (w1:=aJ) (Dh.same (w1:=a3) (Dh.same (w1:=a2) (Dh.same (w1:=aj) (Dh.same (w1:=U) (Dh.same (w1:=a0) (Dh.same (w1:=aH) (Dh.same (w1:=ab) (Dh.same (w1:=aE) (Dh.same (w1:=aD) b0 (λk hk hl=>N.other k oO)) (λk hk hl=>A.other k oO)) (λk hk hl=>l.other k oO)) (λk hk hl=>j.2.block k hl)) (λk hk hl=>g.1.block k hl)) (λk hk hl=>c.other k oO)) (λk hk hl=>d.other k oM)) (λk hk hl=>e.block k hl)) (λk hk hl=>f.block k hl)) (λk hk hl=>u.block k hl)) (λk hk hl=>i.other k oO)) (λk hk hl=>b.other k oM)) (λk hk hl=>a.block k hl);have a6:=((ao.un i aT).up b).bl a
  have a7:=((ap.un i aU).up b).bl a;have a8:=Ci (BU (uB (Ci (Ci (Ci (BU (uB (Ci (Ci (uB (uB (uB (CN w) b4 N) aF A) P l) j.2) g.1) C c) oO d) e) f) u) E i) oO b) a;refine A0<|A4<|A3 rfl<|A1 (.fa Ay rfl Bw dD rfl)<|Ah (Ae (BZ _) rfl (J.bl a) rfl)<|Eg BK rfl rfl ((A4H X bf os H nd _ Q res hn1 ho hps (hNA _) _ (((aq.un i aV).up b).bl a) (((AM.same (w1:=V) (AM.same (w1:=av) (AM.same (w1:=au) (AM.same (w1:=aJ) (AM.same (w1:=a3) (AM.same (w1:=a2) ak (λk hk hl=>e.block k hl)) (λk hk hl=>f.block k hl)) (λk hk hl=>u.block k hl)) (λk hk hl=>i.other k oO)) (λk hk hl=>b.other k oM)) (λk hk hl=>a.block k hl))).mono (λk h _=>by omega)) ⟨Nat.lt_of_lt_of_le (a5).at' oO,(a5).blk⟩)) (λaW aX y m=>?_) (λbp bq aX y m=>?_);exact GR A6p (λw'=>_) (T9 b1 b5 w.heap.size _ _ aW _ ((a6).below m oO) ((a7).below m oO) oO oO)
    (λw' hS=>⟨_,JH rfl rfl rfl (B5 hS.1 (isAgg41 _) rfl) (B5 hS.2.1 (Ed _) rfl),Ej a8 (Ej (Below.mono m oO) hS.2.2),by rw [y];rfl⟩)
  obtain ⟨-,aw,s,v,px,b9,aM,ba,ai,L,M,hL,hq⟩:=m;have bb:=y;obtain ⟨pp,pc,ev,aN,-,-,-,bc,-,-⟩:=aM.row;have G:0 < [px].length->X+1<=(pA pp).block:=λh0=>(aM.lt _ (by rw [bc,aN.isp h0];rfl)).1
  subst ev;refine A0<|A4<|A3 rfl<|A1 (.nck rfl)<|A1 (.fa OO rfl PL dD rfl)<|Ah (Ae (isAgg41 _) rfl b9 rfl)<|Cn ((a6).below aw oO) PL (λaY ax o bd=>?_);refine Cn (((a7).below aw oO).up o) EJ (λaZ ay t be=>?_);have aC:=QF.same (w1:=aZ) (QF.same (w1:=aY) hq (λk hk hl=>o.other k oM)) (λk hk hl=>t.other k oM);refine A0<|AT ?_;exact D1.ret A6p (λw'=>_) (Ur b1 b5 _) (λw' hS=>by
    subst hS;exact ⟨_,JH rfl rfl rfl (B5 (ax.up t) (isAgg41 _) rfl) (B5 ay (Ed _) rfl),(BU (BU (Ej a8 (Below.mono aw oO)) oO o) oO t),by rw [bb];exact ⟨_,_,_,rfl,(AG.upd (AG.upd aN o (λh0=>by have:=G h0;omega)) t (λh0=>by have:=G h0;omega)),ba,ai,_,_,aC⟩⟩)
  exact De (show (Dg rt [80,97,103,101,115]).isSome=false by assumption) (by rw [hp];simp)
end
section
def YZ:ZD:=⟨65536,0,0,655360,none,[],0,0⟩
def st1:StH:=⟨I2,JG 1,JG 1,YZ,.slice none 0 0,-1,0⟩
def Ps (fo:Value) (bp:Nat):VwH:=⟨st1,fo,.slice none 0 0,bp,0,false,false,Wy,Wy,.slice none 0 0,.slice none 0 0⟩
def A2m (l:l8_):Prop:=l=[]\/l=[110]
theorem N3 (b4 b5:Nat) (w:World) :
  CallsD Tryz.prog 145 #[ptV b4,ptV b5] .returning w λe u' w'=>u'=.returning/\(∃ v,e=.returned v)/\w'=w:=by
 refine Eo func145 rfl ntmps145 bL rfl<|A0<|AO<|A4<|A1 (.eqNil0 kR rfl)<|A0<|BQ rfl rfl<|Am<|A9 rfl<|Cx (Cd rfl ?_)
 exact ⟨⟨_,rfl⟩,rfl⟩
theorem Y7:Tryz.prog.built 50 [(0,Af 1)]=some (Hu (JG 1)).toArray:=by kernel_rfl
theorem A1V:Tryz.prog.built 54 [(0,Af 65536),(3,Af 655360)]=some (YY YZ).toArray:=by kernel_rfl
theorem A4r:Tryz.prog.built 210 [(0,.agg (Mm I2).toArray),(1,.agg (Hu (JG 1)).toArray),(2,.agg (Hu (JG 1)).toArray),(3,.agg (YY YZ).toArray),(4,.slice none 0 0),(5,Af (-1)),(6,Af 0)]=some (stV st1).toArray:=by kernel_rfl
theorem A4q (p:Option Addr) (n c bp:Nat):Tryz.prog.built 215 [(0,.agg (stV st1).toArray),(1,.slice p n c),(3,ptV bp)]=some (It (Ps (.slice p n c) bp)).toArray:=by kernel_rfl
end
section
def A4k:l8_:=[48,50,55,56,48,50,55,56,48,51,53,53,48,53,53,54,48,53,53,54,48,56,56,57,48,54,54,55,48,50,50,50,48,51,51,51,48,51,51,51,48,51,56,57,48,53,56,52,48,50,55,56,48,51,51,51,48,50,55,56,48,50,55,56,48,53,53,54,48,53,53,54,48,53,53,54,48,53,53,54,48,53,53,54,48,53,53,54,48,53,53,54,48,53,53,54,48,53,53,54,48,53,53,54,48,50,55,56,48,50,55,56,48,53,56,52,48,53,56,52,48,53,56,52,48,53,53,54,49,48,49,53,48,54,54,55,48,54,54,55,48,55,50,50,48,55,50,50,48,54,54,55,48,54,49,49,48,55,55,56,48,55,50,50,48,50,55,56,48,53,48,48,48,54,54,55,48,53,53,54,48,56,51,51,48,55,50,50,48,55,55,56,48,54,54,55,48,55,55,56,48,55,50,50,48,54,54,55,48,54,49,49,48,55,50,50,48,54,54,55,48,57,52,52,48,54,54,55,48,54,54,55,48,54,49,49,48,50,55,56,48,50,55,56,48,50,55,56,48,52,54,57,48,53,53,54,48,50,50,50,48,53,53,54,48,53,53,54,48,53,48,48,48,53,53,54,48,53,53,54,48,50,55,56,48,53,53,54,48,53,53,54,48,50,50,50,48,50,50,50,48,53,48,48,48,50,50,50,48,56,51,51,48,53,53,54,48,53,53,54,48,53,53,54,48,53,53,54,48,51,51,51,48,53,48,48,48,50,55,56,48,53,53,54,48,53,48,48,48,55,50,50,48,53,48,48,48,53,48,48,48,53,48,48,48,51,51,52,48,50,54,48,48,51,51,52,48,53,56,52]
def A1w:l8_:=[48,50,55,56,48,51,51,51,48,52,55,52,48,53,53,54,48,53,53,54,48,56,56,57,48,55,50,50,48,50,55,56,48,51,51,51,48,51,51,51,48,51,56,57,48,53,56,52,48,50,55,56,48,51,51,51,48,50,55,56,48,50,55,56,48,53,53,54,48,53,53,54,48,53,53,54,48,53,53,54,48,53,53,54,48,53,53,54,48,53,53,54,48,53,53,54,48,53,53,54,48,53,53,54,48,51,51,51,48,51,51,51,48,53,56,52,48,53,56,52,48,53,56,52,48,54,49,49,48,57,55,53,48,55,50,50,48,55,50,50,48,55,50,50,48,55,50,50,48,54,54,55,48,54,49,49,48,55,55,56,48,55,50,50,48,50,55,56,48,53,53,54,48,55,50,50,48,54,49,49,48,56,51,51,48,55,50,50,48,55,55,56,48,54,54,55,48,55,55,56,48,55,50,50,48,54,54,55,48,54,49,49,48,55,50,50,48,54,54,55,48,57,52,52,48,54,54,55,48,54,54,55,48,54,49,49,48,51,51,51,48,50,55,56,48,51,51,51,48,53,56,52,48,53,53,54,48,50,55,56,48,53,53,54,48,54,49,49,48,53,53,54,48,54,49,49,48,53,53,54,48,51,51,51,48,54,49,49,48,54,49,49,48,50,55,56,48,50,55,56,48,53,53,54,48,50,55,56,48,56,56,57,48,54,49,49,48,54,49,49,48,54,49,49,48,54,49,49,48,51,56,57,48,53,53,54,48,51,51,51,48,54,49,49,48,53,53,54,48,55,55,56,48,53,53,54,48,53,53,54,48,53,48,48,48,51,56,57,48,50,56,48,48,51,56,57,48,53,56,52]
def A6s:l8_:=[48,50,53,48,48,51,51,51,48,52,48,56,48,53,48,48,48,53,48,48,48,56,51,51,48,55,55,56,48,51,51,51,48,51,51,51,48,51,51,51,48,53,48,48,48,53,54,52,48,50,53,48,48,51,51,51,48,50,53,48,48,50,55,56,48,53,48,48,48,53,48,48,48,53,48,48,48,53,48,48,48,53,48,48,48,53,48,48,48,53,48,48,48,53,48,48,48,53,48,48,48,53,48,48,48,50,55,56,48,50,55,56,48,53,54,52,48,53,54,52,48,53,54,52,48,52,52,52,48,57,50,49,48,55,50,50,48,54,54,55,48,54,54,55,48,55,50,50,48,54,49,49,48,53,53,54,48,55,50,50,48,55,50,50,48,51,51,51,48,51,56,57,48,55,50,50,48,54,49,49,48,56,56,57,48,55,50,50,48,55,50,50,48,53,53,54,48,55,50,50,48,54,54,55,48,53,53,54,48,54,49,49,48,55,50,50,48,55,50,50,48,57,52,52,48,55,50,50,48,55,50,50,48,54,49,49,48,51,51,51,48,50,55,56,48,51,51,51,48,52,54,57,48,53,48,48,48,51,51,51,48,52,52,52,48,53,48,48,48,52,52,52,48,53,48,48,48,52,52,52,48,51,51,51,48,53,48,48,48,53,48,48,48,50,55,56,48,50,55,56,48,53,48,48,48,50,55,56,48,55,55,56,48,53,48,48,48,53,48,48,48,53,48,48,48,53,48,48,48,51,51,51,48,51,56,57,48,50,55,56,48,53,48,48,48,53,48,48,48,55,50,50,48,53,48,48,48,53,48,48,48,52,52,52,48,52,56,48,48,50,48,48,48,52,56,48,48,53,52,49]
def A4j:l8_:=[48,50,53,48,48,51,51,51,48,53,53,53,48,53,48,48,48,53,48,48,49,48,48,48,48,56,51,51,48,51,51,51,48,51,51,51,48,51,51,51,48,53,48,48,48,53,55,48,48,50,53,48,48,51,51,51,48,50,53,48,48,50,55,56,48,53,48,48,48,53,48,48,48,53,48,48,48,53,48,48,48,53,48,48,48,53,48,48,48,53,48,48,48,53,48,48,48,53,48,48,48,53,48,48,48,51,51,51,48,51,51,51,48,53,55,48,48,53,55,48,48,53,55,48,48,53,48,48,48,57,51,48,48,55,50,50,48,54,54,55,48,55,50,50,48,55,50,50,48,54,54,55,48,54,49,49,48,55,55,56,48,55,55,56,48,51,56,57,48,53,48,48,48,55,55,56,48,54,54,55,48,57,52,52,48,55,50,50,48,55,55,56,48,54,49,49,48,55,55,56,48,55,50,50,48,53,53,54,48,54,54,55,48,55,50,50,48,55,50,50,49,48,48,48,48,55,50,50,48,55,50,50,48,54,54,55,48,51,51,51,48,50,55,56,48,51,51,51,48,53,56,49,48,53,48,48,48,51,51,51,48,53,48,48,48,53,53,54,48,52,52,52,48,53,53,54,48,52,52,52,48,51,51,51,48,53,48,48,48,53,53,54,48,50,55,56,48,51,51,51,48,53,53,54,48,50,55,56,48,56,51,51,48,53,53,54,48,53,48,48,48,53,53,54,48,53,53,54,48,52,52,52,48,51,56,57,48,51,51,51,48,53,53,54,48,53,48,48,48,55,50,50,48,53,48,48,48,53,48,48,48,52,52,52,48,51,57,52,48,50,50,48,48,51,57,52,48,53,50,48]
def A4i:l8_:=[48,50,53,48,48,51,51,51,48,52,50,48,48,53,48,48,48,53,48,48,48,56,51,51,48,55,55,56,48,51,51,51,48,51,51,51,48,51,51,51,48,53,48,48,48,54,55,53,48,50,53,48,48,51,51,51,48,50,53,48,48,50,55,56,48,53,48,48,48,53,48,48,48,53,48,48,48,53,48,48,48,53,48,48,48,53,48,48,48,53,48,48,48,53,48,48,48,53,48,48,48,53,48,48,48,51,51,51,48,51,51,51,48,54,55,53,48,54,55,53,48,54,55,53,48,53,48,48,48,57,50,48,48,54,49,49,48,54,49,49,48,54,54,55,48,55,50,50,48,54,49,49,48,54,49,49,48,55,50,50,48,55,50,50,48,51,51,51,48,52,52,52,48,54,54,55,48,53,53,54,48,56,51,51,48,54,54,55,48,55,50,50,48,54,49,49,48,55,50,50,48,54,49,49,48,53,48,48,48,53,53,54,48,55,50,50,48,54,49,49,48,56,51,51,48,54,49,49,48,53,53,54,48,53,53,54,48,51,56,57,48,50,55,56,48,51,56,57,48,52,50,50,48,53,48,48,48,51,51,51,48,53,48,48,48,53,48,48,48,52,52,52,48,53,48,48,48,52,52,52,48,50,55,56,48,53,48,48,48,53,48,48,48,50,55,56,48,50,55,56,48,52,52,52,48,50,55,56,48,55,50,50,48,53,48,48,48,53,48,48,48,53,48,48,48,53,48,48,48,51,56,57,48,51,56,57,48,50,55,56,48,53,48,48,48,52,52,52,48,54,54,55,48,52,52,52,48,52,52,52,48,51,56,57,48,52,48,48,48,50,55,53,48,52,48,48,48,53,52,49]
def A1u:l8_:=[48,50,53,48,48,51,56,57,48,53,53,53,48,53,48,48,48,53,48,48,48,56,51,51,48,55,55,56,48,51,51,51,48,51,51,51,48,51,51,51,48,53,48,48,48,53,55,48,48,50,53,48,48,51,51,51,48,50,53,48,48,50,55,56,48,53,48,48,48,53,48,48,48,53,48,48,48,53,48,48,48,53,48,48,48,53,48,48,48,53,48,48,48,53,48,48,48,53,48,48,48,53,48,48,48,51,51,51,48,51,51,51,48,53,55,48,48,53,55,48,48,53,55,48,48,53,48,48,48,56,51,50,48,54,54,55,48,54,54,55,48,54,54,55,48,55,50,50,48,54,54,55,48,54,54,55,48,55,50,50,48,55,55,56,48,51,56,57,48,53,48,48,48,54,54,55,48,54,49,49,48,56,56,57,48,55,50,50,48,55,50,50,48,54,49,49,48,55,50,50,48,54,54,55,48,53,53,54,48,54,49,49,48,55,50,50,48,54,54,55,48,56,56,57,48,54,54,55,48,54,49,49,48,54,49,49,48,51,51,51,48,50,55,56,48,51,51,51,48,53,55,48,48,53,48,48,48,51,51,51,48,53,48,48,48,53,48,48,48,52,52,52,48,53,48,48,48,52,52,52,48,51,51,51,48,53,48,48,48,53,53,54,48,50,55,56,48,50,55,56,48,53,48,48,48,50,55,56,48,55,55,56,48,53,53,54,48,53,48,48,48,53,48,48,48,53,48,48,48,51,56,57,48,51,56,57,48,50,55,56,48,53,53,54,48,52,52,52,48,54,54,55,48,53,48,48,48,52,52,52,48,51,56,57,48,51,52,56,48,50,50,48,48,51,52,56,48,53,55,48]
def Gd (i:Int):l8_:=if i=4\/i=6 then A4k else if i=5\/i=7 then A1w else if i=8 then A6s else if i=9 then A4j else if i=10 then A4i else if i=11 then A1u else []
theorem A08 (i:Int):(Gd i).length=380\/Gd i=[]:=by
 unfold Gd
 repeat' split
 all_goals first | (right;rfl) | (left;kernel_rfl)
theorem TW (i:Int):(Gd i).all (λd=>decide (48<=d.toNat) && decide (d.toNat<=57))=true:=by
 unfold Gd
 repeat' split
 all_goals kernel_rfl
def QA:Int->l8_->Int
 | n,[]=>n
 | n,d::r=>QA (10 * n+((d.toNat:Int)-48)) r
def JK (i:Int) (c:UInt8):Int :=
 if i<0\/14<=i\/c.toNat<32\/126<c.toNat then 0 else if Gd i=[] then (if i=13 then 788 else 600) else QA 0 (((Gd i).drop (4 * (c.toNat-32))).take 4)
def PD (i:Int):Int->l8_->Int
 | n,[]=>n
 | n,c::r=>PD i (n+JK i c) r
theorem Zr  (h:i<l.length) (n:Int):QA n (l.drop i)=QA (10 * n+((l[i].toNat:Int)-48)) (l.drop (i+1)):=by rw [Aw h];rfl
theorem Yx {f:Int} (h:i<l.length) (n:Int):PD f n (l.drop i)=PD f (n+JK f l[i]) (l.drop (i+1)):=by rw [Aw h];rfl
theorem Y1:∀ (l:l8_) (n:Int),l.all (λd=>decide (48<=d.toNat) && decide (d.toNat<=57))=true->0<=n->0<=QA n l/\QA n l+1<=(n+1) * 10 ^ l.length
 | [],n,_,h0=>by simp [QA];omega
 | d::r,n,h,h0=>by
  rw [List.all_cons,AE,AE,AF,AF] at h
  have ih:=Y1 r (10 * n+((d.toNat:Int)-48)) h.2 oO
  rw [QA]
  refine ⟨ih.1,Int.le_trans ih.2 ?_⟩
  rw [Aa,Int.pow_succ,Int.mul_comm (10 ^ r.length) 10,<- Int.mul_assoc]
  exact Int.mul_le_mul_of_nonneg_right oO (Int.le_of_lt (Int.pow_pos dD))
theorem Vj  {q:α->Bool} {l:List α} (a b:Nat) (h:l.all q=true):((l.drop a).take b).all q=true:=by
 rw [AN] at h ⊢
 exact λx hx=>h x (H0 (Eh hx))
theorem RP (i:Int) (c:UInt8):0<=JK i c/\JK i c<=9999:=by
  unfold JK
  split
  · omega
  · split
    · split <;> omega
    · have h := Y1 (((Gd i).drop (4 * (c.toNat - 32))).take 4) 0 (Vj _ _ (TW i)) oO
      have a:(((Gd i).drop (4 * (c.toNat-32))).take 4).length<=4:=by rw [At];omega
      have b:(10:Int) ^ (((Gd i).drop (4 * (c.toNat-32))).take 4).length<=10000:=by
        generalize (((Gd i).drop (4 * (c.toNat-32))).take 4).length=n at a
        match n,a with
        | 0,_=>decide
        | 1,_=>decide
        | 2,_=>decide
        | 3,_=>decide
        | 4,_=>decide
      omega
theorem PB (i:Int):∀ (l:l8_) (n:Int),0<=n->n<=PD i n l/\PD i n l<=n+9999 * (l.length:Int)
 | [],n,h=>by simp [PD]
 | c::r,n,h=>by
  have h1:=RP i c
  have ih:=PB i r (n+JK i c) oO
  rw [PD,Aa]
  omega
theorem A0A {n:Nat} (h:n<=4):(10:Int) ^ n<=10000:=by
 match n,h with
 | 0,_=>decide
 | 1,_=>decide
 | 2,_=>decide
 | 3,_=>decide
 | 4,_=>decide
theorem WU (i:Int) (w:World):Calls Tryz.prog 277 #[Af i] w λe w'=>e=.returned (.string (bs (Gd i)))/\w=w':=by
 refine Ar func277 rfl ntmps277<|A4<|A9 rfl<|Ad<|A4<|A3 rfl<|A0<|AO<|If (α:=Bool) (λt=>[(3,Af i),(4,.bool t)]) (λt w'=>w=w'/\t=decide (i=4\/i=6)) ?_ (λt x hR=>?_)
 refine A4<|A1 (.eql rfl rfl)<|A9 rfl<|Ai rfl (λa=>?_) (λa=>?_)
 have k:=dT a
 refine Ap ?_
 exact ⟨_,⟨rfl,rfl,tT⟩,rfl,by simp_all⟩
 have k:=dF a
 refine Am<|A1 (.eql rfl rfl)<|A9 rfl ?_
 exact ⟨_,⟨rfl,rfl,tT⟩,rfl,by simp_all⟩
 obtain ⟨rfl,rfl⟩:=hR
 refine Ai rfl (λb=>?_) (λb=>?_)
 have l:=dT b
 refine A4<|A9 rfl<|AW ?_
 exact ⟨DO (by rw [show Gd i=A4k by unfold Gd;rw [A7 aS]];kernel_rfl),rfl⟩
 have l:=dF b
 refine If (α:=Bool) (λt=>[(3,Af i),(7,.bool t)]) (λt w'=>w=w'/\t=decide (i=5\/i=7)) ?_ (λt x hR=>?_)
 refine A4<|A1 (.eql rfl rfl)<|A9 rfl<|Ai rfl (λc=>?_) (λc=>?_)
 have m:=dT c
 refine Ap ?_
 exact ⟨_,⟨rfl,rfl,tT⟩,rfl,by simp_all⟩
 have m:=dF c
 refine Am<|A1 (.eql rfl rfl)<|A9 rfl ?_
 exact ⟨_,⟨rfl,rfl,tT⟩,rfl,by simp_all⟩
 obtain ⟨rfl,rfl⟩:=hR
 refine Ai rfl (λd=>?_) (λd=>?_)
 have o:=dT d
 refine A4<|A9 rfl<|AW ?_
 exact ⟨DO (by rw [show Gd i=A1w by unfold Gd;rw [A2 aS,A7 aS]];kernel_rfl),rfl⟩
 have o:=dF d
 refine A4<|A1 (.eql rfl rfl)<|A9 rfl<|Ai rfl (λf=>?_) (λf=>?_)
 have q:=dT f
 refine A4<|A9 rfl<|AW ?_
 exact ⟨DO (by rw [show Gd i=A6s by unfold Gd;rw [A2 aS,A2 aS,A7 aS]];kernel_rfl),rfl⟩
 have q:=dF f
 refine A4<|A1 (.eql rfl rfl)<|A9 rfl<|Ai rfl (λg=>?_) (λg=>?_)
 have s:=dT g
 refine A4<|A9 rfl<|AW ?_
 exact ⟨DO (by rw [show Gd i=A4j by unfold Gd;rw [A2 aS,A2 aS,A2 aS,A7 aS]];kernel_rfl),rfl⟩
 have s:=dF g
 refine A4<|A1 (.eql rfl rfl)<|A9 rfl<|Ai rfl (λh=>?_) (λh=>?_)
 have u:=dT h
 refine A4<|A9 rfl<|AW ?_
 exact ⟨DO (by rw [show Gd i=A4i by unfold Gd;rw [A2 aS,A2 aS,A2 aS,A2 aS,A7 aS]];kernel_rfl),rfl⟩
 have u:=dF h
 refine A4<|A1 (.eql rfl rfl)<|A9 rfl<|Ai rfl (λj=>?_) (λj=>?_)
 have v:=dT j
 refine A4<|A9 rfl<|AW ?_
 exact ⟨DO (by rw [show Gd i=A1u by unfold Gd;rw [A2 aS,A2 aS,A2 aS,A2 aS,A2 aS,A7 aS]];kernel_rfl),rfl⟩
 have v:=dF j
 refine Ap<|A4<|A9 rfl<|AW ?_
 exact ⟨DO (by rw [show Gd i=[] by unfold Gd;rw [A2 aS,A2 aS,A2 aS,A2 aS,A2 aS,A2 aS]];rfl),rfl⟩
theorem WV (i:Int) (c:UInt8) (w:World):Cb 262 #[Af i,.int .u8 (c.toNat:Int)] w (Af (JK i c)):=by
 refine Ar func262 rfl ntmps262 ?_
 have a:=CN w
 refine A4<|A9 rfl<|Ad<|FT 23 (decide (i<0\/14<=i\/c.toNat<32\/126<c.toNat)) ?_ ?_
 refine Am<|A3 rfl<|A1 (.lss rfl rfl)<|A3 rfl<|Ck rfl rfl rfl (λb=>?_) (λb=>?_)
 have C:=dF b
 refine A3 rfl<|Az b<|A1 (.geq rfl rfl)<|A1 (.pkF rfl b rfl)<|A3 rfl<|Ck rfl rfl rfl (λd=>?_) (λd=>?_)
 have D:=dF d
 refine A3 rfl<|Az d<|A1 (.lss rfl rfl)<|A1 (.pkF rfl d rfl)<|A3 rfl<|Ck rfl rfl rfl (λf=>?_) (λf=>?_)
 have E:=dF f
 refine A3 rfl<|Az f<|A1 (.gtr rfl rfl)<|A1 (.pkF rfl f rfl)<|A0<|?_
 exact ⟨Gy (DM rfl (by (rw [AY];simp;omega))),rfl⟩
 have E:=dT f
 refine Bc f<|A1 (.pkT rfl f rfl)<|A0<|?_
 exact ⟨Gy (DM rfl (by (rw [AY];simp;omega))),rfl⟩
 have D:=dT d
 refine Bc d<|A1 (.pkT rfl d rfl)<|A3 rfl<|Bc rfl<|Bc rfl<|A1 (.pkT rfl rfl rfl)<|A0<|?_
 exact ⟨Gy (DM rfl (by (rw [AY];simp;omega))),rfl⟩
 have C:=dT b
 refine Bc b<|A1 (.pkT rfl b rfl)<|A3 rfl<|Bc rfl<|Bc rfl<|A1 (.pkT rfl rfl rfl)<|A3 rfl<|Bc rfl<|Bc rfl<|A1 (.pkT rfl rfl rfl)<|A0<|?_
 exact ⟨Gy (DM rfl (by (rw [AY];simp;omega))),rfl⟩
 refine Ai rfl (λq=>?_) (λq=>?_)
 have F:=dT q
 have g:=dT (show decide (i<0\/14<=i\/c.toNat<32\/126<c.toNat)=true by assumption)
 refine A4<|A9 rfl<|AW ?_
 exact ⟨DO (BJ _ (A7 g).symm),a⟩
 have F:=dF q
 have g:=dF (show decide (i<0\/14<=i\/c.toNat<32\/126<c.toNat)=false by assumption)
 have hD:JK i c=if Gd i=[] then (if i=13 then 788 else 600) else QA 0 (((Gd i).drop (4 * (c.toNat-32))).take 4):=A2 g
 refine Ap<|A4<|A3 rfl<|Ao (WU i _) (λw5 G=>?_)
 obtain rfl:=G
 refine A9 rfl<|Ad<|A4<|A3 rfl<|A1 (.bis (decide (Gd i=[])) (.eqs rfl rfl) (by rfl))<|A0<|Ai rfl (λs=>?_) (λs=>?_)
 have H:=dT s
 rw [A7 (dT aS)] at hD
 refine Ad<|A4<|A3 rfl<|A1 (.eql rfl rfl)<|A0<|Ai rfl (λu=>?_) (λu=>?_)
 have J:=dT u
 rw [A7 aS] at hD
 refine A4<|A9 rfl<|AW ?_
 exact ⟨DO (by rw [hD]),a⟩
 have J:=dF u
 rw [A2 aS] at hD
 refine Ap<|A4<|A9 rfl<|AW ?_
 exact ⟨DO (by rw [hD]),a⟩
 have H:=dF s
 rw [A2 (dF aS)] at hD
 have a1:(Gd i).length=380:=(A08 i).resolve_right (dF aS)
 have m:=Vj (4 * (c.toNat-32)) 4 (TW i)
 obtain ⟨L,hL⟩:=eX (((Gd i).drop (4 * (c.toNat-32))).take 4)
 have a6:L.length=4:=by rw [hL,At,Au];omega
 rw [<- hL] at hD m
 have K:((Gd i).drop (4 * (c.toNat-32))).take (4 * (c.toNat-32)+4-4 * (c.toNat-32))=L:=by rw [hL,Nat.add_sub_cancel_left]
 refine Ap<|A4<|A9 rfl<|A4<|A3 rfl<|A1 (.sub rfl rfl (Pu oO))<|A1 (.cvt FK Mu rfl (Ba oO))<|A1 (.iis (((4 * (c.toNat-32):Nat):Int)) (.mul rfl rfl (Ba oO)) oO)<|A9 rfl<|Ad<|A4<|A3 rfl<|A3 rfl<|A3 rfl<|A1 (.iis (((4 * (c.toNat-32)+4:Nat):Int)) (.add rfl rfl (Ba oO)) oO)<|A1 (.sis (L) (.slS Gk rfl rfl rfl (4 * (c.toNat-32)) (4 * (c.toNat-32)+4) (rfl) (rfl) oO oO) (by exact K))<|TG Gk B1 FK rfl rfl (λP a7 v o x a2 y a4=>?_)
 have Q:=uB a o y
 have a3:=CF o a.size
 refine A1 (.lenS B1 rfl)<|A3 rfl<|A0<|AO<|BM (α:=Nat × Int) (λt=>[(6,Af t.2),(39,.slice (some ⟨P,0,none⟩) L.length v),(40,Af (L.length:Int)),(41,Af (t.1:Int))]) (λt w'=>AL w w'/\Ag w' (some ⟨P,0,none⟩) L/\t.1<=4/\0<=t.2/\t.2+1<=10 ^ t.1/\QA t.2 (L.drop t.1)=QA 0 L) (λt=>L.length-t.1) ((0,0)) ⟨rfl,rfl,rfl,rfl,tT⟩ (⟨Q,x,oO,dD,dD,rfl⟩) (λt w1 hR=>?_)
 obtain ⟨⟨j,n⟩,T⟩:=eX t
 subst T
 obtain ⟨U,A,V,q4,q5,l⟩:=hR
 simp only at V q4 q5 l
 have a5:=A0A V
 refine A4<|A1 (.lss rfl rfl)<|A0<|Ad<|Ai rfl (λh=>?_) (λh=>?_)
 have B:=dT h
 have k:j<L.length:=by omega
 have X:=AN.1 m L[j] (AA k)
 rw [AE,AF,AF] at X
 have a0:=(Zr k n).symm.trans l
 refine Ap<|Ad<|AO<|A4<|A1 (.ixb B1 EA rfl rfl (A.isp oO) (j) (rfl) oO)<|Ah (Bq (Iz _) rfl (A.cells (j) oO))<|A9 rfl<|Am<|A3 rfl<|A1 (.mul rfl rfl (Ba oO))<|A3 rfl<|A1 (.sub rfl rfl (Pu oO))<|A1 (.cvt FK Mu rfl (Ba oO))<|A1 (.iis (10 * n+((L[j].toNat:Int)-48)) (.add rfl rfl (Ba oO)) oO)<|A9 rfl<|Am<|A1 (.iis (((j+1:Nat):Int)) (.add rfl rfl (Ba (by (try simp only) <;> omega))) oM)<|A3 rfl<|A0<|?_
 exact ⟨(j+1,10 * n+((L[j].toNat:Int)-48)),⟨rfl,rfl,rfl,rfl,tT⟩,⟨U,A,oM,oM,by show _<=(10:Int) ^ (j+1);rw [Int.pow_succ];((try simp only) <;> omega),a0⟩,oM⟩
 have B:=dF h
 have k:j=4:=by omega
 rw [List.drop_of_length_le oO] at l
 refine BF<|A4<|A3 rfl<|A9 rfl<|AW ?_
 exact ⟨DO (by rw [hD,<- l];rfl),U⟩
theorem A1j (i:Int) (p:Option Addr) (l:l8_) (c:Nat) (w:World) (hr:Ag w p l) (hl:l.length<=100000000) :
  Cb 240 #[Af i,.slice p l.length c] w (Af (PD i 0 l)):=by
 have C:=hr.lt
 refine Ar func240 rfl ntmps240 ?_
 have k:=CN w
 refine A4<|A9 rfl<|A4<|A9 rfl<|Ad<|A4<|A3 rfl<|A1 (.lenS B1 rfl)<|A3 rfl<|A0<|AO<|BM (α:=Nat × Int) (λt=>[(0,Af i),(5,Af t.2),(8,.slice p l.length c),(9,Af (l.length:Int)),(10,Af (t.1:Int))]) (λt w'=>AL w w'/\Ag w' p l/\t.1<=l.length/\0<=t.2/\t.2<=9999 * (t.1:Int)/\PD i t.2 (l.drop t.1)=PD i 0 l) (λt=>l.length-t.1) ((0,0)) ⟨rfl,rfl,rfl,rfl,rfl,tT⟩ (⟨k,hr,FI _,dD,dD,rfl⟩) (λt D hR=>?_)
 obtain ⟨⟨j,n⟩,m⟩:=eX t
 subst m
 obtain ⟨o,b,x,y,A,d⟩:=hR
 simp only at x y A d
 refine A4<|A1 (.lss rfl rfl)<|A0<|Ad<|Ai rfl (λh=>?_) (λh=>?_)
 have q:=dT h
 have a:j<l.length:=by omega
 have hw:=RP i l[j]
 have s:=(Yx (f:=i) a n).symm.trans d
 refine Ap<|Ad<|AO<|A4<|A1 (.ixb B1 EA rfl rfl (b.isp oO) (j) (rfl) oO)<|Ah (Bq (Iz _) rfl (b.cells (j) oO))<|A9 rfl<|Am<|A3 rfl<|A3 rfl<|A3 rfl<|Ao (WV i l[j] _) (λE g=>?_)
 have u:=DL b g (λB=>b.lt B)
 have v:=Ci o g
 refine A1 (.add rfl rfl (Ba (by (try simp only) <;> omega)))<|A9 rfl<|Am<|A1 (.iis (((j+1:Nat):Int)) (.add rfl rfl (Ba (by (try simp only) <;> omega))) oM)<|A3 rfl<|A0<|?_
 exact ⟨(j+1,n+JK i l[j]),⟨rfl,rfl,rfl,rfl,rfl,tT⟩,⟨v,u,oM,oM,oM,s⟩,oM⟩
 have q:=dF h
 have a:j=l.length:=by omega
 rw [a,JJ] at d
 refine BF<|A4<|A3 rfl<|A9 rfl<|AW ?_
 exact ⟨DO (by rw [<- d];rfl),o⟩
end
section
theorem BG.mkFv  {xs:List Operand} (hx:R0 f xs=some vs):BG P (.makeFunc (.func F) #[] xs.toArray) f (.func (.func F) #[] vs.toArray):=λρ hρ d ty pos aft g w=>by
 have e:=J9 hρ _ _ hx
 have hargs:xs.toArray.map ρ=vs.toArray:=by simp [e]
 unfold execOp
 simp only [hargs,List.map_toArray,F4]
 rfl
def vh (fo:Value) (bp:Nat) (fn sz:Int) (it lo:Bool) (te li:M6) (ar itv:Value):VwH:=⟨⟨I2,JG 1,JG 1,YZ,.slice none 0 0,fn,sz⟩,fo,.slice none 0 0,bp,0,it,lo,te,li,ar,itv⟩
abbrev VnE (bv:Nat) (w:World) (res:Except Int Unit) (S:VwH->World->Prop):Ending->World->Prop :=
 GZ 35 res (λ_ v w'=>v=.tuple #[]/\AR w.heap.size [bv] w w'/\∃ H,B0 w' bv (It H).toArray 215/\S H w') (λw'=>AR w.heap.size [bv] w w')
theorem Xi (bv:Nat) (H:VwH) (w:World) (h:B0 w bv (It H).toArray 215) (ha:H.args=.slice none 0 0) :
  Calls Tryz.prog 193 #[ptV bv,Af 0] w λe w'=>∃ v,e=.returned v/\AL w w' :=
 (Pr bv 0 H none [] 0 w h ha (AG.nil _) dD dD).mono fun e w' q => by
  obtain ⟨v,h1,h2,-⟩:=q
  exact ⟨v,h1,h2⟩
theorem A5W (bv bp:Nat) (fo:Value) (fn sz:Int) (lo:Bool) (te li:M6) (itv:Value) (w:World) (h:B0 w bv (It (vh fo bp fn sz false lo te li (.slice none 0 0) itv)).toArray 215) :
  Calls Tryz.prog 190 #[ptV bv,.string (bs [66,84])] w (VnE bv w (.ok ()) λH _=>H=vh fo bp fn sz true false I2 I2 (.slice none 0 0) itv):=by
 refine Ar func190 rfl ntmps190 ?_
 have D:=AR.refl w.heap.size ([bv]) w
 refine A4<|A3 rfl<|A1 (.nck rfl)<|A1 (.fa CJ rfl RX dD rfl)<|Ah (Ae (g4_ _) rfl h rfl)<|A3 rfl<|A1 (.nes rfl rfl)<|A1 (.bis (true) (.eqb u4_ rfl rfl) (by rfl))<|C1 BK rfl rfl ((Gg _ _)) (λY P a b=>?_) (λZ P a b=>?_)
 exact De (Fp a).1 (show ¬ (true=false) by decide)
 have m:=h.bl b
 have E:=kB D b
 refine A0<|A4<|A3 rfl<|A0<|AO<|A4<|A1 (.eqs rfl rfl)<|A1 (.bis (true) (.as rfl) dD)<|A0<|BQ rfl rfl<|A4<|A3 rfl<|Bf BK rfl rfl ((Xi bv _ _ m rfl)) (λv w6 o=>?_)
 have F:=m.bl o
 have G:=kB E o
 refine A0<|Am<|A3 rfl<|A3 rfl<|A3 rfl<|A3 rfl<|Ao (Im _) (λw9 q=>?_)
 have s:=F.bl q
 have t:=kB G q
 refine Ao (Im _) (λQ c=>?_)
 have u:=s.bl c
 have x:=kB t c
 refine A1 (.nck rfl)<|A1 (.fa CJ rfl RX dD rfl)<|GP 29 ((It (vh fo bp fn sz true lo te li (.slice none 0 0) itv)).toArray) u RX (λT d e J=>?_)
 have y:=Dl x (by exact QY e (by simp))
 refine A1 (.nck rfl)<|A1 (.fa CJ rfl RX dD rfl)<|GP 30 ((It (vh fo bp fn sz true false te li (.slice none 0 0) itv)).toArray) d RX (λU f g K=>?_)
 have A:=Dl y (by exact QY g (by simp))
 refine A1 (.nck rfl)<|A1 (.fa CJ rfl sizeOf55 dD rfl)<|QO 31 ((It (vh fo bp fn sz true false I2 li (.slice none 0 0) itv)).toArray) f Ef (λV i j L=>?_)
 have B:=Dl A (by exact QY j (by simp))
 refine A1 (.nck rfl)<|A1 (.fa CJ rfl sizeOf55 dD rfl)<|QO 37 ((It (vh fo bp fn sz true false I2 I2 (.slice none 0 0) itv)).toArray) i Ef (λX k l N=>?_)
 have C:=Dl B (by exact QY l (by simp))
 refine A0<|Cx (Cd rfl ?_)
 exact JC () _ rfl rfl ⟨rfl,C,_,k,rfl⟩
theorem A5V (bv bp:Nat) (fo:Value) (fn sz:Int) (lo:Bool) (te li:M6) (itv:Value) (w:World) (h:B0 w bv (It (vh fo bp fn sz true lo te li (.slice none 0 0) itv)).toArray 215) :
  Calls Tryz.prog 190 #[ptV bv,.string (bs [69,84])] w (VnE bv w (.ok ()) λH _=>H=vh fo bp fn sz false lo te li (.slice none 0 0) itv):=by
 refine Ar func190 rfl ntmps190 ?_
 have i:=AR.refl w.heap.size ([bv]) w
 refine A4<|A3 rfl<|A1 (.nck rfl)<|A1 (.fa CJ rfl RX dD rfl)<|Ah (Ae (g4_ _) rfl h rfl)<|A3 rfl<|A1 (.nes rfl rfl)<|A1 (.bis (true) (.eqb u4_ rfl rfl) (by rfl))<|C1 BK rfl rfl ((Gg _ _)) (λq m a b=>?_) (λs m a b=>?_)
 exact De (Fp a).1 (show ¬ (true=false) by decide)
 have c:=h.bl b
 have j:=kB i b
 refine A0<|A4<|A3 rfl<|A0<|AO<|A4<|A1 (.eqs rfl rfl)<|A1 (.bis (false) (.as rfl) dD)<|A0<|Aq rfl rfl<|A4<|A1 (.eqs rfl rfl)<|A1 (.bis (true) (.as rfl) dD)<|A0<|BQ rfl rfl<|A4<|A3 rfl<|Bf BK rfl rfl ((Xi bv _ _ c rfl)) (λv t d=>?_)
 have k:=c.bl d
 have l:=kB j d
 refine A0<|Am<|A3 rfl<|A1 (.nck rfl)<|A1 (.fa CJ rfl RX dD rfl)<|GP 29 ((It (vh fo bp fn sz false lo te li (.slice none 0 0) itv)).toArray) k RX (λu e f o=>?_)
 have g:=Dl l (by exact QY f (by simp))
 refine A0<|Cx (Cd rfl ?_)
 exact JC () _ rfl rfl ⟨rfl,g,_,e,rfl⟩
def FtX (fs:List Jf):Prop:=fs=[]\/∃ k:Int,fs=[⟨[88],k⟩]/\0<=k
theorem XW {α:Type} {q:α->Bool}:∀ {l:List α} {i:Nat} (hi:i<l.length),(∀ j (h:j<l.length),j<i->q l[j]=false)->q l[i]=true->l.find? q=some l[i]
 | x::l,0,_,_,h=>by
  rw [F5] at h ⊢
  rw [List.find?_cons,h]
 | x::l,i+1,hi,hn,h=>by
  have h0:=hn 0 (by simp) oO
  rw [F5] at h0
  rw [Em] at h ⊢
  rw [List.find?_cons,h0]
  exact XW (by simpa using hi) (λj hj hji=>by have:=hn (j+1) (by simpa using hj) oO;simpa using this) h
theorem A3D  {q:α->Bool} {l:List α} (hn:∀ j (h:j<l.length),q l[j]=false):l.find? q=none:=by
 rw [List.find?_eq_none]
 intro x hx
 obtain ⟨j,hj,rfl⟩:=List.mem_iff_getElem.1 hx
 rw [hn j hj];decide
theorem Rs  (hF:D2 Tryz.prog F) (cap:Array Value) (p:Option Addr) (l:List Jf) (c:Nat) (q:Jf->Bool) (w:World) (hr:AG Vt w p l) (hl:l.length<=9223372036854775807)
  (hq:∀ j (h:j<l.length) w1,AL w w1->Calls Tryz.prog F (#[]++[Value.agg (ftV l[j]).toArray].toArray++cap) w1 λe w'=>e=.returned (.bool (q l[j]))/\AL w1 w') :
  Calls Tryz.prog 235 #[.slice p l.length c,.func (.func F) #[] cap] w λe w'=>∃ r:Int,e=.returned (Af r)/\((r=-1/\l.find? q=none)\/∃ j,∃ h:j<l.length,r=j/\l.find? q=some l[j])/\AL w w':=by
 have s:0<l.length->(pA p).block<w.heap.size:=λf=>hr.lt f
 refine Ar func235 rfl ntmps235 ?_
 have k:=CN w
 refine A4<|A9 rfl<|Ad<|A4<|A3 rfl<|A1 (.lenS Kt rfl)<|A3 rfl<|A0<|AO<|BM (α:=Nat) (λt=>[(0,.slice p l.length c),(1,.func (.func F) #[] cap),(7,Af (l.length:Int)),(8,Af (t:Int))]) (λt w'=>AL w w'/\AG Vt w' p l/\t<=l.length/\∀ j (h:j<l.length),j<t->q l[j]=false) (λt=>l.length-t) (0) ⟨rfl,rfl,rfl,rfl,tT⟩ (⟨k,hr,FI _,λj _ h=>De h oO⟩) (λt w1 hR=>?_)
 obtain ⟨i,rfl⟩:=eX t
 obtain ⟨hT,hb1,hi,a⟩:=hR
 refine A4<|A1 (.lss rfl rfl)<|A0<|Ad<|Ai rfl (λg=>?_) (λg=>?_)
 have m:=dT g
 refine Ap<|Ad<|AO<|A4<|A3 rfl<|A9 rfl<|A4<|A3 rfl<|A3 rfl<|A3 rfl<|A1 (.ixm Kt sizeOf206 rfl rfl (hb1.isp oO) (i) (rfl) oO)<|Ah (Dz underlying206 rfl A5a hb1 (i) oO rfl)<|Xb hF rfl rfl rfl rfl (hq i oO _ hT) (λx b=>?_)
 have o:=DW hb1 b (λf=>hb1.lt f)
 have d:=Ci hT b
 refine A0<|Ai rfl (λu=>?_) (λu=>?_)
 refine A4<|A3 rfl<|A9 rfl<|AW ?_
 exact ⟨_,rfl,.inr ⟨i,oO,rfl,XW oO a aS⟩,d⟩
 refine Ap<|Am<|A1 (.iis (((i+1:Nat):Int)) (.add rfl rfl (Ba oO)) oO)<|A3 rfl<|A0<|?_
 exact ⟨i+1,⟨rfl,rfl,rfl,rfl,tT⟩,⟨d,o,oM,λj h hj=>by
  rcases Ig.1 hj with v | rfl;exact a j h v
  assumption⟩,oM⟩
 have m:=dF g
 refine BF<|A4<|A9 rfl<|AW ?_
 exact ⟨_,rfl,.inl ⟨rfl,A3D (λj h=>a j h oO)⟩,hT⟩
theorem VD (bv bc:Nat) (H:VwH) (p:Option Addr) (c:Nat) (f:Jf) (x y:PC) (hxt:x.text=[88]) (w:World) (hbk:B0 w bv (It H).toArray 215) (ha:H.args=.slice p 2 c) (hr:AG KE w p [x,y]) (h1:B0 w bc #[ptV bv] 207) :
  Cb 236 #[.agg (ftV f).toArray,ptV bc] w (.bool (decide (f.name=[88]))):=by
 obtain ⟨s,fo,sa,pa,cl,it,lo,te,li,ar,itv⟩:=H
 simp only at ha
 subst ha
 have J:[x,y].length=2:=rfl
 refine Ar func236 rfl ntmps236 ?_
 have q:=CN w
 refine A4<|WL.box rfl rfl (λA o l a k G=>?_)
 have B:=Bl l h1.lt
 have i:=h1.un k B
 have C:=Bl l hbk.lt
 have j:=hbk.un k C
 have t:=λu=>l▸hr.lt u
 have D:=AG.upd hr k (λu=>CR (t u))
 have E:=uB q l k
 have F:=CF l q.size
 refine A9 rfl<|Ad<|D6 11 rfl BR (λw'=>w'.heap[bc]?=o.heap[bc]?/\w'.heap[bv]?=o.heap[bv]?/\w'.heap[A]?=o.heap[A]?/\AG KE w' p [x,y]/\True) (λK m=>?_)
 have d:=i.drew m
 have g:=j.drew m
 have h:=a.drew m
 have b:=D.drew m
 have v:=C6.below E m
 refine Ab 0 rfl (.fa underlying206 rfl FH dD rfl) ⟨(d).trans (i).symm,(g).trans (j).symm,(h).trans (a).symm,b,tT⟩ ?_
 refine BX 1 rfl (λw' hw'=>Ae (FX _) rfl ((hw'.2.2.1).trans a) rfl) ⟨(d).trans (i).symm,(g).trans (j).symm,(h).trans (a).symm,b,tT⟩ rfl ?_
 refine BX 2 rfl (λw' hw'=>Ae (isAgg207 _) rfl ((hw'.1).trans i) rfl) ⟨(d).trans (i).symm,(g).trans (j).symm,(h).trans (a).symm,b,tT⟩ rfl ?_
 refine Ab 3 rfl (.nck rfl) ⟨(d).trans (i).symm,(g).trans (j).symm,(h).trans (a).symm,b,tT⟩ ?_
 refine Ab 4 rfl (.fa CJ rfl Cr dD rfl) ⟨(d).trans (i).symm,(g).trans (j).symm,(h).trans (a).symm,b,tT⟩ ?_
 refine BX 5 rfl (λw' hw'=>Ae (Dv _) rfl ((hw'.2.1).trans j) rfl) ⟨(d).trans (i).symm,(g).trans (j).symm,(h).trans (a).symm,b,tT⟩ rfl ?_
 refine Ab 6 rfl (.ixm C2 CU rfl rfl (b.isp oO) (0) (rfl) (by simp)) ⟨(d).trans (i).symm,(g).trans (j).symm,(h).trans (a).symm,b,tT⟩ ?_
 refine Ab 7 rfl (.fa Ay rfl FH dD rfl) ⟨(d).trans (i).symm,(g).trans (j).symm,(h).trans (a).symm,b,tT⟩ ?_
 refine BX 8 rfl (λw' hw'=>Bq (FX _) rfl (((hw'.2.2.2.1).field (0) oO 2 dD).trans rfl)) ⟨(d).trans (i).symm,(g).trans (j).symm,(h).trans (a).symm,b,tT⟩ rfl ?_
 refine Ab 9 rfl (.eqs rfl rfl) ⟨(d).trans (i).symm,(g).trans (j).symm,(h).trans (a).symm,b,tT⟩ ?_
 refine Ab 10 rfl (.as rfl) ⟨(d).trans (i).symm,(g).trans (j).symm,(h).trans (a).symm,b,tT⟩ ?_
 refine BH kR<|AW ?_
 exact ⟨DO (by show Value.bool (decide (f.name=x.text))=_;rw [hxt]),v⟩
def chX (fs:List Jf):Except Int Unit:=if fs=[] then .error 26 else .ok ()
theorem Yl (bv bp:Nat) (fs:List Jf) (hfs:FtX fs) (pf:Option Addr) (cf:Nat) (fn sz:Int) (lo:Bool) (te li:M6) (p:Option Addr) (c:Nat) (itv:Value) (x y:PC) (hx4:x.kind=4) (hxt:x.text=[88]) (hy2:y.kind=2) (hy1:y.n=1) (w:World)
  (h:B0 w bv (It (vh (.slice pf fs.length cf) bp fn sz true lo te li (.slice p 2 c) itv)).toArray 215) (hf:AG Vt w pf fs) (hfb:0<fs.length->(pA pf).block≠bv) (har:AG KE w p [x,y]) :
  Calls Tryz.prog 212 #[ptV bv] w (VnE bv w (chX fs) λH _=>∃ k,fs=[⟨[88],k⟩]/\H=vh (.slice pf fs.length cf) bp k 65536 true lo te li (.slice p 2 c) itv):=by
 have az:fs.length<=1:=by rcases hfs with rfl | ⟨k,rfl,-⟩ <;> simp
 have ax:=h.lt
 have aA:[x,y].length=2:=rfl
 have hN:Qc y.kind y.n=(65536,true):=by rw [hy2,hy1];rfl
 refine Ar func212 rfl ntmps212 ?_
 have a8:=AR.refl w.heap.size ([bv]) w
 refine A4<|WL.box rfl rfl (λb1 aB J F t ay=>?_)
 have ap:=Bl J h.lt
 have N:=h.un t ap
 have aa:=λg=>J▸har.lt g
 have K:=AG.upd har t (λg=>CR (aa g))
 have ab:=λg=>J▸hf.lt g
 have a9:=AG.upd hf t (λg=>CR (ab g))
 have a5:=CF J a8.size
 have aq:=Dl a8 (GT t a5)
 refine A0<|A4<|Ah (Ae (isAgg207 _) rfl F rfl)<|A1 (.nck rfl)<|A1 (.fa CJ rfl Cr dD rfl)<|Ah (Ae (Dv _) rfl N rfl)<|A1 (.lenS C2 rfl)<|A1 (.bis (true) (.eql rfl rfl) dD)<|A3 rfl<|Az rfl<|Ah (Ae (isAgg207 _) rfl F rfl)<|Az rfl<|A1 (.nck rfl)<|Az rfl<|A1 (.fa CJ rfl Cr dD rfl)<|Az rfl<|Ah (Ae (Dv _) rfl N rfl)<|Az rfl<|A1 (.ixm C2 CU rfl rfl (K.isp oO) (0) (rfl) (by simp))<|Az rfl<|A1 (.fa Ay rfl Bw dD rfl)<|Az rfl<|Ah (Bq (BZ _) rfl ((K.field (0) oO 0 dD).trans rfl))<|Az rfl<|A1 (.bis (true) (.eql rfl rfl) (by exact AP hx4))<|A1 (.pkT rfl rfl rfl)<|C1 BK rfl rfl ((Gg _ _)) (λaC w9 P s=>?_) (λaD w9 P s=>?_)
 exact De (Fp P).1 (show ¬ (true=false) by decide)
 have Q:=N.bl s
 have T:=F.bl s
 have u:=DW K s (λg=>K.lt g)
 have U:=DW a9 s (λg=>a9.lt g)
 have ac:=kB aq s
 refine A0<|A4<|Ah (Ae (isAgg207 _) rfl T rfl)<|A1 (.nck rfl)<|A1 (.fa CJ rfl Cr dD rfl)<|Ah (Ae (Dv _) rfl Q rfl)<|A1 (.ixm C2 CU rfl rfl (u.isp oO) (1) (rfl) (by simp))<|Ah (Dz Ay rfl Al u (1) oO rfl)<|Ao (OA y _) (λaE l=>?_)
 have ad:=Q.bl l
 have ae:=T.bl l
 have V:=DW u l (λg=>u.lt g)
 have X:=DW U l (λg=>U.lt g)
 have af:=kB ac l
 rw [hN]
 refine A3 rfl<|A1 (.ext rfl rfl)<|A1 (.ext rfl rfl)<|Ct rfl<|A9 rfl<|A4<|A3 rfl<|C1 BK rfl rfl ((Gg _ _)) (λaF ar L i=>?_) (λaG ar L i=>?_)
 exact De (Fp L).1 (show ¬ (true=false) by decide)
 have v:=ad.bl i
 have B:=ae.bl i
 have a0:=DW V i (λg=>V.lt g)
 have G:=DW X i (λg=>X.lt g)
 have ag:=kB af i
 refine A0<|A4<|Ah (Ae (isAgg207 _) rfl B rfl)<|A1 (.nck rfl)<|A1 (.fa CJ rfl sizeOf167 dD rfl)<|Ah (Ae (isAgg167 _) rfl v rfl)<|A1 (.mkFv rfl)<|Bf BK rfl rfl ((Rs BK _ pf fs cf (λf=>decide (f.name=[88])) _ G oO (λj hj wx hb=>VD bv b1 _ p c fs[j] x y hxt _ ((v).below hb (v).lt) rfl ((a0).below hb (a0).lt) ((B).below hb (B).lt)))) (λr au m=>?_)
 have ah:=v.bl m.2
 have a:=B.bl m.2
 have ai:=DW G m.2 (λg=>G.lt g)
 have a1:=kB ag m.2
 have a2:=m.1
 refine A9 rfl<|Ad<|A4<|A3 rfl<|A1 (.lss rfl rfl)<|A0<|Ai rfl (λa3=>?_) (λa3=>?_)
 have aj:=dT a3
 refine Am<|A1 (.mkI Kr rfl)<|Fd rfl (Bt ?_)
 exact GN 26 (by
  unfold chX;rcases hfs with rfl | ⟨k,rfl,-⟩
  rfl
  exfalso;rcases a2 with ⟨-,h⟩ | ⟨j,hj,h,-⟩;simp at h
  omega) a1
 have aj:=dF a3
 obtain ⟨k,rfl,-⟩:=hfs.resolve_left (λe=>by subst e;rcases a2 with ⟨h,-⟩ | ⟨j,hj,-⟩;omega;cases hj)
 obtain rfl:r=0:=by rcases a2 with ⟨h,-⟩ | ⟨j,hj,h,-⟩;omega;simp at hj;omega
 refine Ap<|D6 19 rfl BR (λw'=>w'.heap[b1]?=au.heap[b1]?/\AG Vt w' pf [⟨[88],k⟩]/\True) (λaH C=>?_)
 have a4:=ah.drew C
 have d:=a.drew C
 have b:=ai.drew C
 have ak:=Dl a1 (OS C)
 refine BX 0 rfl (λw' hw'=>Ae (isAgg207 _) rfl ((hw'.1).trans a) rfl) ⟨(d).trans (a).symm,b,tT⟩ rfl ?_
 refine BX 1 rfl (λw' hw'=>Ae (isAgg207 _) rfl ((hw'.1).trans a) rfl) ⟨(d).trans (a).symm,b,tT⟩ rfl ?_
 refine BX 2 rfl (λw' hw'=>Ae (isAgg207 _) rfl ((hw'.1).trans a) rfl) ⟨(d).trans (a).symm,b,tT⟩ rfl ?_
 refine Ab 3 rfl (.nck rfl) ⟨(d).trans (a).symm,b,tT⟩ ?_
 refine Ab 4 rfl (.fa CJ rfl sizeOf167 dD rfl) ⟨(d).trans (a).symm,b,tT⟩ ?_
 refine Ab 6 rfl (.mv rfl) ⟨(d).trans (a).symm,b,tT⟩ ?_
 refine Ab 10 rfl (.mv rfl) ⟨(d).trans (a).symm,b,tT⟩ ?_
 refine AX 5 rfl<|Ah (Ae (isAgg167 _) rfl a4 rfl)<|A0<|⟨⟨(d).trans (a).symm,b,tT⟩,?_⟩
 refine Ab 7 rfl (.ixm Kt sizeOf206 rfl rfl (b.isp (by (simp only [Aa,Ak];omega))) (0) (rfl) (by simp)) ⟨(d).trans (a).symm,b,tT⟩ ?_
 refine Ab 8 rfl (.fa underlying206 rfl Bw dD rfl) ⟨(d).trans (a).symm,b,tT⟩ ?_
 refine AX 9 rfl<|Ah (Bq (BZ _) rfl ((b.field (0) (by (simp only [Aa,Ak];omega)) 1 dD).trans rfl))<|A0<|⟨⟨(d).trans (a).symm,b,tT⟩,?_⟩
 refine Ab 11 rfl (.nck rfl) ⟨(d).trans (a).symm,b,tT⟩ ?_
 refine Ab 12 rfl (.fa CJ rfl Kz dD rfl) ⟨(d).trans (a).symm,b,tT⟩ ?_
 refine Ab 13 rfl (.fa Ks rfl Bw dD rfl) ⟨(d).trans (a).symm,b,tT⟩ ?_
 refine AX 14 rfl<|GP 23 ((It (vh (.slice pf 1 cf) bp k sz true lo te li (.slice p 2 c) itv)).toArray) a4 Bw (λaI a6 D av=>?_)
 have o:=d.up D
 have q:=AG.upd b D (hfb)
 have al:=Dl ak (by exact QY D (by simp))
 refine A0<|⟨⟨(o).trans (a).symm,q,tT⟩,?_⟩
 refine Ab 15 rfl (.nck rfl) ⟨(o).trans (a).symm,q,tT⟩ ?_
 refine Ab 16 rfl (.fa CJ rfl Kz dD rfl) ⟨(o).trans (a).symm,q,tT⟩ ?_
 refine Ab 17 rfl (.fa Ks rfl Bw dD rfl) ⟨(o).trans (a).symm,q,tT⟩ ?_
 refine AX 18 rfl<|GP 24 ((It (vh (.slice pf 1 cf) bp k 65536 true lo te li (.slice p 2 c) itv)).toArray) a6 Bw (λaJ a7 E aw=>?_)
 have am:=o.up E
 have an:=AG.upd q E (hfb)
 have ao:=Dl al (by exact QY E (by simp))
 refine A0<|⟨⟨(am).trans (a).symm,an,tT⟩,?_⟩
 refine BH kR<|Cx (Cd rfl ?_)
 exact JC () _ rfl rfl ⟨rfl,ao,_,a7,k,rfl,rfl⟩
end
section
open Go.RowKit Go.WideShapes Go.ChangeShapes
def itX (k:Int) (m:M6) (q:Option Addr) (cq:Nat):GY:=⟨4,none,[],0,JG 1,none,[],0,A69,k,m.a,m.b,m.c,m.d,m.e,m.f,q,[97],cq⟩
theorem A4s (k:Int) (m:M6) (q:Option Addr) (c:Nat):Tryz.prog.built 57 [(0,Af 4),(2,.agg (Hu (JG 1)).toArray),(5,Af k),(6,.agg (Mm m).toArray),(7,.slice q 1 c)]=some (UO (itX k m q c)).toArray:=by kernel_rfl
theorem A4g:(Tryz.prog.info? 57).map (λi=>(i.zero,i.size,i.bytes))=some (some (.agg (UO ⟨0,none,[],0,JG 0,none,[],0,A69,0,0,0,0,0,0,0,none,[],0⟩).toArray),22,240):=by kernel_rfl
abbrev Itm (N:Nat) (x:GY) (u:Option Addr × Nat) (w:World):Prop:=AD Jw 57 N w (.slice u.1 1 u.2) [x]
theorem To  {x:GY} {u:Option Addr × Nat} (h:Itm N x u w):N<=w.heap.size:=by
 obtain ⟨-,-,-,-,ho⟩:=h.full
 have:=h.lt _ (ho (by simp))
 omega
theorem ZT (bv bp:Nat) (fo:Value) (fn sz:Int) (te li:M6) (ar:Value) (x:GY) (w:World) (h:B0 w bv (It (vh fo bp fn sz true false te li ar (.slice none 0 0))).toArray 215) :
  Calls Tryz.prog 239 #[ptV bv,.agg (UO x).toArray] w λe w'=>∃ u:Option Addr × Nat,e=.returned (.tuple #[])/\AR w.heap.size [bv] w w'/\B0 w' bv (It (vh fo bp fn sz true false te li ar (.slice u.1 1 u.2))).toArray 215/\Itm w.heap.size x u w':=by
 have a':=DP w.heap.size
 refine Ar func239 rfl ntmps239 ?_
 have aj:=AR.refl w.heap.size ([bv]) w
 refine A4<|WL.box rfl rfl (λG b0 ak ap H aZ=>?_)
 have aN:=Bl ak h.lt
 have al:=h.un H aN
 have a8:=CF ak aj.size
 have aO:=Dl aj (GT H a8)
 refine A0<|A4<|A3 rfl<|A1 (.nck rfl)<|A1 (.fa CJ rfl Kl dD rfl)<|Ah (Ae (O8 _) rfl al rfl)<|A1 (.lenS R7 rfl)<|A1 (.bis (true) (.lss rfl rfl) dD)<|C1 BK rfl rfl ((Xg _ _)) (λk7 w5 J A=>?_) (λa6 w5 J A=>?_)
 exfalso;have:=J;unfold U7 at this;cases this
 have am:=al.bl A
 have a:=ap.bl A
 have K:=kB aO A
 refine A0<|Ad<|A4<|A3 rfl<|A1 (.nck rfl)<|A1 (.fa CJ rfl Kz dD rfl)<|A1 (.fa Ks rfl sizeOf51 dD rfl)<|Ah (Ae (isAgg51 _) rfl am rfl)<|A1 (.lenS underlying51 rfl)<|A3 rfl<|A0<|AO<|BM (α:=Unit) (λt=>[(0,ptV bv),(3,ptV G),(18,Af 0),(19,Af 0)]) (λt w'=>w5=w') (λt=>0) (()) ⟨rfl,rfl,rfl,rfl,tT⟩ (rfl) (λt w1 hR=>?_)
 obtain rfl:=hR
 refine A4<|A1 (.lss rfl rfl)<|A0<|Ad<|Ai rfl (λN=>?_) (λN=>?_)
 have aq:=dT N
 exact De (show (0:Int)<0 by assumption) dD
 have aq:=dF N
 refine BF ?_
 have au:=AD.nil Jw 57 w.heap.size w5
 have av:=K.size
 refine D6 11 rfl BR (λw'=>w'.heap[G]?=w5.heap[G]?/\True) (λb2 i=>?_)
 have B:=Fn av i
 have P:=AD.drew au i
 have j:=am.drew i
 have k:=a.drew i
 have m:=Dl K (OS i)
 have l:=Bs (k.trans a.symm) Bi
 refine Ab 0 rfl (.mv rfl) l ?_
 refine Ab 1 rfl (.mv rfl) l ?_
 refine Ab 2 rfl (.nck rfl) l ?_
 refine Ab 3 rfl (.fa CJ rfl Kl dD rfl) l ?_
 refine BX 5 rfl (λw' hw'=>Bk rfl ((hw'.1).trans a) underlying57 rfl A6l) l rfl ?_
 refine FA 4 rfl 6 rfl ?_ ?_
 refine Ah (Ae (O8 _) rfl j rfl)<|A0<|⟨l,?_⟩
 refine AX 6 rfl<|Cq (L:=Jw) (ps:=_) ([x]) R7 sizeOf57 zeroValue57 rfl rfl rfl rfl rfl (by rfl) rfl rfl (λaP aw o a9 b aT=>?_)
 have C:=C9 B b.size
 have ax:=Fs P o b
 have ay:=Bl o j.lt
 have az:=j.un b ay
 have aA:=Bl o k.lt
 have Q:=k.un b aA
 have T:=CF o m.size
 have U:=Dl m (GT b T)
 have aQ:aP<=aw.heap.size:=by omega
 refine A0<|⟨⟨(Q).trans (a).symm,tT⟩,?_⟩
 refine AX 7 rfl<|BS R7 A4g rfl rfl rfl ax rfl (a9).rowp oE (C) rfl (λh=>De h (Z8 _ _)) (λan b3 D aa q ab=>?_)
 have aB:=az.grown q (λe=>by cases e)
 have V:=Q.grown q (λe=>by cases e)
 have aC:=Dl U (DZ q (λg hg=>by cases hg) U.size)
 have ac:=C9 C aa.size
 have X:∀ g,(an).ownBlock=some g->G<g:=λg hg=>by
  rcases ab g hg with h | h;cases h
  omega
 refine A0<|?_
 have Y:=Bs (V.trans a.symm) Bi
 refine ⟨Y,?_⟩
 refine Ab 8 rfl (.nck rfl) Y ?_
 refine Ab 9 rfl (.fa CJ rfl Kl dD rfl) Y ?_
 refine AX 10 rfl<|GP 44 ((It (vh fo bp fn sz true false te li ar an)).toArray) aB Kl (λb4 ad d aU=>?_) (h1:=(D).one)
 have aV:=C9 ac d.size
 have Z:=GI D d ((λg hg e=>by have:=X g hg;omega))
 have aD:=V.up d
 have aE:=Dl aC (by exact QY d (by simp))
 refine A0<|⟨⟨(aD).trans (a).symm,tT⟩,?_⟩
 refine BH kR<|Cx (Cd rfl ?_)
 obtain ⟨pi,ci,a0,-⟩:=(Z).row
 subst a0
 exact ⟨(pi,ci),rfl,aE,ad,Z⟩
 refine Cq (L:=Jw) (ps:=_) ([x]) R7 sizeOf57 zeroValue57 rfl rfl rfl rfl rfl (by rfl) rfl rfl (λaR aF s ae c aW=>?_)
 have E:=C9 B c.size
 have aG:=Fs P s c
 have aH:=Bl s j.lt
 have a1:=j.un c aH
 have aI:=Bl s k.lt
 have y:=k.un c aI
 have a2:=CF s m.size
 have a3:=Dl m (GT c a2)
 have aS:aR<=aF.heap.size:=by omega
 refine A0<|⟨⟨(y).trans (a).symm,tT⟩,?_⟩
 refine AX 4 rfl<|Ah (Ae (O8 _) rfl a1 rfl)<|A0<|⟨⟨(y).trans (a).symm,tT⟩,?_⟩
 refine AX 7 rfl<|BS R7 A4g rfl rfl rfl aG rfl (ae).rowp oE (E) rfl (λh=>De h (Z8 _ _)) (λao b5 F af v ag=>?_)
 have aJ:=a1.grown v (λe=>by cases e)
 have a4:=y.grown v (λe=>by cases e)
 have aK:=Dl a3 (DZ v (λg hg=>by cases hg) a3.size)
 have ah:=C9 E af.size
 have X:∀ g,(ao).ownBlock=some g->G<g:=λg hg=>by
  rcases ag g hg with h | h;cases h
  omega
 refine A0<|?_
 have a5:=Bs (a4.trans a.symm) Bi
 refine ⟨a5,?_⟩
 refine Ab 8 rfl (.nck rfl) a5 ?_
 refine Ab 9 rfl (.fa CJ rfl Kl dD rfl) a5 ?_
 refine AX 10 rfl<|GP 44 ((It (vh fo bp fn sz true false te li ar ao)).toArray) aJ Kl (λb6 ai f aX=>?_) (h1:=(F).one)
 have aY:=C9 ah f.size
 have a7:=GI F f ((λg hg e=>by have:=X g hg;omega))
 have aL:=a4.up f
 have aM:=Dl aK (by exact QY f (by simp))
 refine A0<|⟨⟨(aL).trans (a).symm,tT⟩,?_⟩
 refine BH kR<|Cx (Cd rfl ?_)
 obtain ⟨pi,ci,a0,-⟩:=(a7).row
 subst a0
 exact ⟨(pi,ci),rfl,aM,ai,a7⟩
theorem A3S  {n:Sh} {rest:List Oper} {d ty:Nat} {src dst:TypeId} (hlm:l.length<=maxLen)
  (hs:P.underlying src=some .string) (hd':P.underlying dst=some (.slice e)) (he:P.underlying e=some (.int .u8)) (hx:CM f x=some (.string (bs l))) (hd:Nat.blt d n.n=true)
  (k:∀ b w1 c,b=w.heap.size->Ag w1 (some ⟨b,0,none⟩) l->l.length<=c/\c<=maxLen->CK b w w1->w1.heap.size=b+1->WL P n ops Q rest ((d,.slice (some ⟨b,0,none⟩) l.length c)::f) w1) :
  WL P n ops Q (⟨some d,.convert src dst x,ty,pos,aft,none⟩::rest) f w:=by
 have g:=Lib.run_convert_string_bytes (P:=P) w src dst e (bs l) hs hd' he
 have a:(bs l).size=l.length:=by simp [bs,ByteArray.size]
 have hu:CK w.heap.size w (Lib.bytesWorld w e (bs l)):=⟨rfl,rfl,rfl,by rw [Lib.bytesWorld_size];omega,λj hj=>by
  rcases Bu j w.heap.size with h | h
  · exact Lib.bytesWorld_at_old w e (bs l) j h
  · rw [Dq (by rw [Lib.bytesWorld_size];omega),Dq h]⟩
 refine WL.run hd (w':=Lib.bytesWorld w e (bs l)) (v:=.slice (some ⟨w.heap.size,0,none⟩) l.length (grownCap w l.length 0 e)) (λρ hρ=>?_)
  (k _ _ _ rfl ⟨λ_=>rfl,λj hj=>?_⟩ ⟨grownCap_ge w l.length 0 e,grownCap_le_maxLen w l.length 0 e hlm⟩ hu (Lib.bytesWorld_size w e (bs l)))
 · unfold execOp;simp only [hρ _ _ hx,Ca,g,BT,D3,a]
 ·
  have i:(pA (some ⟨w.heap.size,0,none⟩)).add j=⟨w.heap.size,j,none⟩:=by
   show (⟨w.heap.size,0,none⟩:Addr).add j=_
   unfold Addr.add;split
   · next h=>rw [h]
   · simp
  rw [i,Lib.bytesWorld_cell w e (bs l) j (by rw [a];exact hj)];simp [bs,List.getD,hj]
theorem Zv:A3K (m6S 65536 65536) I2=.ok I2:=by kernel_rfl
theorem Ve:A3K I2 I2=.ok I2:=by kernel_rfl
theorem VC (bv bp:Nat) (fo:Value) (k:Int) (hk:0<=k) (li:M6) (p:Option Addr) (c:Nat) (x:PC) (hx5:x.kind=5) (hxt:x.text=[97]) (w:World) (h:B0 w bv (It (vh fo bp k 65536 true false I2 li (.slice p 1 c) (.slice none 0 0))).toArray 215) (har:AG KE w p [x]) (hab:(pA p).block≠bv) :
  Calls Tryz.prog 216 #[ptV bv] w λe w'=>∃ y:Bool × M6 × GY × Option Addr × Nat,e=.returned (.tuple #[])/\AR w.heap.size [bv] w w'/\B0 w' bv (It (vh fo bp k 65536 true y.1 y.2.1 li (.slice p 1 c) (.slice y.2.2.2.1 1 y.2.2.2.2))).toArray 215/\Itm w.heap.size y.2.2.1 y.2.2.2 w'/\y.2.2.1.fFont=k:=by
 obtain ⟨kd,n,tx,kp,kl,kc,lp,ll,lc⟩:=x
 simp only at hx5 hxt
 subst hx5 hxt
 have dS:[(⟨5,n,[97],kp,kl,kc,lp,ll,lc⟩:PC)].length=1:=rfl
 have dU:([97]:l8_).length=1:=rfl
 refine Ar func216 rfl ntmps216 ?_
 have d0:=AR.refl w.heap.size ([bv]) w
 refine A4<|A3 rfl<|A1 (.nck rfl)<|A1 (.fa CJ rfl Cr dD rfl)<|Ah (Ae (Dv _) rfl h rfl)<|A1 (.lenS C2 rfl)<|A1 (.bis (true) (.eql rfl rfl) dD)<|A3 rfl<|Az rfl<|A3 rfl<|Az rfl<|A1 (.nck rfl)<|Az rfl<|A1 (.fa CJ rfl Cr dD rfl)<|Az rfl<|Ah (Ae (Dv _) rfl h rfl)<|Az rfl<|A1 (.ixm C2 CU rfl rfl (har.isp oO) (0) (rfl) (by simp))<|Az rfl<|A1 (.fa Ay rfl Bw dD rfl)<|Az rfl<|Ah (Bq (BZ _) rfl ((har.field (0) oO 0 dD).trans rfl))<|Az rfl<|A1 (.bis (true) (.eql rfl rfl) (by rfl))<|A1 (.pkT rfl rfl rfl)<|A3 rfl<|Az rfl<|A3 rfl<|Az rfl<|A1 (.nck rfl)<|Az rfl<|A1 (.fa CJ rfl Kz dD rfl)<|Az rfl<|A1 (.fa Ks rfl Bw dD rfl)<|Az rfl<|Ah (Ae (BZ _) rfl h rfl)<|Az rfl<|A1 (.bis (true) (.geq rfl rfl) (by exact AP hk))<|A1 (.pkT rfl rfl rfl)<|A3 rfl<|Az rfl<|A3 rfl<|Az rfl<|A1 (.nck rfl)<|Az rfl<|A1 (.fa CJ rfl RX dD rfl)<|Az rfl<|Ah (Ae (g4_ _) rfl h rfl)<|Az rfl<|A1 (.bis (true) (.not rfl) (by rfl))<|A1 (.pkT rfl rfl rfl)<|C1 BK rfl rfl ((Gg _ _)) (λk3 w1 be aP=>?_) (λa2 w1 be aP=>?_)
 exact De (Fp be).1 (show ¬ (true=false) by decide)
 have bf:=h.bl aP
 have cw:=DW har aP (λb=>har.lt b)
 have cy:=kB d0 aP
 refine A0<|A4<|A3 rfl<|A1 (.nck rfl)<|A1 (.fa CJ rfl Cr dD rfl)<|Ah (Ae (Dv _) rfl bf rfl)<|A1 (.ixm C2 CU rfl rfl (cw.isp oO) (0) (rfl) (by simp))<|A1 (.fa Ay rfl FH dD rfl)<|Ah (Bq (FX _) rfl ((cw.field (0) oO 2 dD).trans rfl))<|A3S (by unfold maxLen;exact (show (1:Nat)<=2 ^ 63-1 by decide)) Gk B1 FK rfl rfl (λq d1 i cz T dj bg ds=>?_)
 have d2:=Bl cz bf.lt
 have a:=bf.un bg d2
 have bN:=CF cz cy.size
 have cB:=Dl cy (GT bg bN)
 refine A9 rfl<|Ad<|A4<|A3 rfl<|A1 (.lenS B1 rfl)<|A1 (.bis (false) (.eql rfl rfl) (by exact AJ (show ¬ ((1:Nat):Int)=0 by decide)))<|A0<|Aq rfl rfl<|Ap<|If (α:=Nat) (λt=>[(0,ptV bv),(2,.slice (some ⟨q,0,none⟩) 1 i),(3,ptV t)]) (λt w'=>AR w.heap.size [bv] w w'/\B0 w' bv (It (vh fo bp k 65536 true false I2 li (.slice p 1 c) (.slice none 0 0))).toArray 215/\Ag w' (some ⟨q,0,none⟩) [97]/\B0 w' t (Mm I2).toArray 55/\w.heap.size<=t) ?_ (λt w1 hR=>?_)
 refine D6 24 rfl BR (λw'=>w'.heap[bv]?=d1.heap[bv]?/\True) (λdV aE=>?_)
 have a9:=a.drew aE
 have aa:=T.drew aE
 have aF:=Dl cB (OS aE)
 have d:=Bs (a9.trans a.symm) Bi
 refine Ab 0 rfl (.mv rfl) d ?_
 refine Ab 1 rfl (.nck rfl) d ?_
 refine Ab 2 rfl (.fa CJ rfl Kz dD rfl) d ?_
 refine Ab 3 rfl (.fa Ks rfl Bw dD rfl) d ?_
 refine BX 4 rfl (λw' hw'=>Ae (BZ _) rfl ((hw'.1).trans a) rfl) d rfl ?_
 refine Ab 5 rfl (.mv rfl) d ?_
 refine Ab 6 rfl (.nck rfl) d ?_
 refine Ab 7 rfl (.fa CJ rfl Kz dD rfl) d ?_
 refine Ab 8 rfl (.fa Ks rfl Bw dD rfl) d ?_
 refine BX 9 rfl (λw' hw'=>Ae (BZ _) rfl ((hw'.1).trans a) rfl) d rfl ?_
 refine Ab 11 rfl (.mv rfl) d ?_
 refine Ab 12 rfl (.nck rfl) d ?_
 refine Ab 13 rfl (.fa CJ rfl sizeOf55 dD rfl) d ?_
 refine BX 14 rfl (λw' hw'=>I7 (L:=m6Y) FN rfl Ef ((hw'.1).trans a) (I2) (rfl) rfl) d rfl ?_
 refine Ab 16 rfl (.mv rfl) d ?_
 refine Ab 17 rfl (.nck rfl) d ?_
 refine Ab 18 rfl (.fa CJ rfl Kz dD rfl) d ?_
 refine Ab 19 rfl (.fa Ks rfl sizeOf55 dD rfl) d ?_
 refine BX 20 rfl (λw' hw'=>I7 (L:=m6Y) FN rfl Ef ((hw'.1).trans a) (I2) (rfl) rfl) d rfl ?_
 refine FA 10 rfl 22 rfl ?_ ?_
 refine Ao (OD 65536 65536 _) (λdW aG=>?_)
 have ab:=a9.bl aG
 have ac:=DL aa aG (λb=>aa.lt b)
 have aH:=kB aF aG
 refine A0<|⟨⟨(ab).trans (a).symm,tT⟩,?_⟩
 refine FA 15 rfl 22 rfl ?_ ?_
 refine C1 BK rfl rfl ((H7 (m6S 65536 65536) I2 _)) (λdX d3 ad ae=>?_) (λdY d3 ad ae=>?_)
 cases Zv.symm.trans ad
 have af:=ab.bl ae
 have ag:=DL ac ae (λb=>ac.lt b)
 have aI:=kB aH ae
 obtain rfl:=Except.ok.inj (Zv.symm.trans ad)
 refine A0<|⟨⟨(af).trans (a).symm,tT⟩,?_⟩
 refine FA 21 rfl 22 rfl ?_ ?_
 refine C1 BK rfl rfl ((H7 _ I2 _)) (λdZ d4 ah ai=>?_) (λd' d4 ah ai=>?_)
 cases Ve.symm.trans ah
 have aJ:=af.bl ai
 have bh:=DL ag ai (λb=>ag.lt b)
 have bi:=kB aI ai
 obtain rfl:=Except.ok.inj (Ve.symm.trans ah)
 refine A0<|⟨⟨(aJ).trans (a).symm,tT⟩,?_⟩
 refine AX 22 rfl<|Bj R3 rfl (λd5 dt aK bO aj dk=>?_)
 have cC:=Bl aK aJ.lt
 have bj:=aJ.un aj cC
 have aQ:=λb=>aK▸bh.lt b
 have cD:=Ce bh aj aQ
 have bk:=CF aK bi.size
 have cE:=Dl bi (GT aj bk)
 refine A0<|⟨⟨(bj).trans (a).symm,tT⟩,?_⟩
 refine AX 23 rfl<|Ax rfl rfl bO Ef rfl rfl (λe0 bP ak dl=>?_)
 have bm:=bj.up ak
 have cF:=Ce cD ak aQ
 have cG:=Dl cE (by exact GT ak oO)
 refine A0<|⟨⟨(bm).trans (a).symm,tT⟩,?_⟩
 refine BH kR ?_
 exact ⟨d5,⟨rfl,rfl,rfl,tT⟩,cG,bm,cF,bP,oO⟩
 refine Bj R3 rfl (λd6 du aL bQ am dm=>?_)
 have cH:=Bl aL af.lt
 have bn:=af.un am cH
 have aR:=λb=>aL▸ag.lt b
 have bo:=Ce ag am aR
 have bq:=CF aL aI.size
 have cI:=Dl aI (GT am bq)
 refine A0<|⟨⟨(bn).trans (a).symm,tT⟩,?_⟩
 refine AX 21 rfl<|C1 BK rfl rfl ((H7 _ I2 _)) (λe1 d7 an U=>?_) (λe2 d7 an U=>?_)
 cases Ve.symm.trans an
 have bt:=bn.bl U
 have cJ:=bQ.bl U
 have cK:=DL bo U (λb=>bo.lt b)
 have cL:=kB cI U
 obtain rfl:=Except.ok.inj (Ve.symm.trans an)
 refine A0<|⟨⟨(bt).trans (a).symm,tT⟩,?_⟩
 refine AX 23 rfl<|Ax rfl rfl cJ Ef rfl rfl (λe3 bR ao dn=>?_)
 have bu:=bt.up ao
 have cM:=Ce cK ao aR
 have cN:=Dl cL (by exact GT ao oO)
 refine A0<|⟨⟨(bu).trans (a).symm,tT⟩,?_⟩
 refine BH kR ?_
 exact ⟨d6,⟨rfl,rfl,rfl,tT⟩,cN,bu,cM,bR,oO⟩
 refine Bj R3 rfl (λd8 dv aM bS ap dp=>?_)
 have cO:=Bl aM ab.lt
 have bw:=ab.un ap cO
 have aS:=λb=>aM▸ac.lt b
 have bz:=Ce ac ap aS
 have bA:=CF aM aH.size
 have cP:=Dl aH (GT ap bA)
 refine A0<|⟨⟨(bw).trans (a).symm,tT⟩,?_⟩
 refine AX 15 rfl<|C1 BK rfl rfl ((H7 (m6S 65536 65536) I2 _)) (λe4 d9 aq V=>?_) (λe5 d9 aq V=>?_)
 cases Zv.symm.trans aq
 have bB:=bw.bl V
 have cQ:=bS.bl V
 have bC:=DL bz V (λb=>bz.lt b)
 have cR:=kB cP V
 obtain rfl:=Except.ok.inj (Zv.symm.trans aq)
 refine A0<|⟨⟨(bB).trans (a).symm,tT⟩,?_⟩
 refine AX 21 rfl<|C1 BK rfl rfl ((H7 _ I2 _)) (λe6 da ar X=>?_) (λe7 da ar X=>?_)
 cases Ve.symm.trans ar
 have bD:=bB.bl X
 have cS:=cQ.bl X
 have cT:=DL bC X (λb=>bC.lt b)
 have cU:=kB cR X
 obtain rfl:=Except.ok.inj (Ve.symm.trans ar)
 refine A0<|⟨⟨(bD).trans (a).symm,tT⟩,?_⟩
 refine AX 23 rfl<|Ax rfl rfl cS Ef rfl rfl (λe8 bT au dq=>?_)
 have bE:=bD.up au
 have cV:=Ce cT au aS
 have cW:=Dl cU (by exact GT au oO)
 refine A0<|⟨⟨(bE).trans (a).symm,tT⟩,?_⟩
 refine BH kR ?_
 exact ⟨d8,⟨rfl,rfl,rfl,tT⟩,cW,bE,cV,bT,oO⟩
 refine Bj R3 rfl (λcX dr av bG a0 db=>?_)
 have bU:=Bl av a9.lt
 have aT:=a9.un a0 bU
 have aw:=λb=>av▸aa.lt b
 have aU:=Ce aa a0 aw
 have bd:=CF av aF.size
 have bV:=Dl aF (GT a0 bd)
 refine A0<|⟨⟨(aT).trans (a).symm,tT⟩,?_⟩
 refine AX 10 rfl<|Ao (OD 65536 65536 _) (λdw C=>?_)
 have aV:=aT.bl C
 have bW:=bG.bl C
 have aW:=DL aU C (λb=>aU.lt b)
 have bX:=kB bV C
 refine A0<|⟨⟨(aV).trans (a).symm,tT⟩,?_⟩
 refine AX 15 rfl<|C1 BK rfl rfl ((H7 (m6S 65536 65536) I2 _)) (λdx cY a1 v=>?_) (λdy cY a1 v=>?_)
 cases Zv.symm.trans a1
 have aX:=aV.bl v
 have bY:=bW.bl v
 have aY:=DL aW v (λb=>aW.lt b)
 have bZ:=kB bX v
 obtain rfl:=Except.ok.inj (Zv.symm.trans a1)
 refine A0<|⟨⟨(aX).trans (a).symm,tT⟩,?_⟩
 refine AX 21 rfl<|C1 BK rfl rfl ((H7 _ I2 _)) (λdz cZ a3 B=>?_) (λdA cZ a3 B=>?_)
 cases Ve.symm.trans a3
 have aZ:=aX.bl B
 have b':=bY.bl B
 have c0:=DL aY B (λb=>aY.lt b)
 have c2:=kB bZ B
 obtain rfl:=Except.ok.inj (Ve.symm.trans a3)
 refine A0<|⟨⟨(aZ).trans (a).symm,tT⟩,?_⟩
 refine AX 23 rfl<|Ax rfl rfl b' Ef rfl rfl (λdB bH a4 dc=>?_)
 have a':=aZ.up a4
 have c3:=Ce c0 a4 aw
 have c4:=Dl c2 (by exact GT a4 oO)
 refine A0<|⟨⟨(a').trans (a).symm,tT⟩,?_⟩
 refine BH kR ?_
 exact ⟨cX,⟨rfl,rfl,rfl,tT⟩,c4,a',c3,bH,oO⟩
 obtain ⟨b3,ax⟩:=eX t
 subst ax
 obtain ⟨i1,i2,i4,i5,i6⟩:=hR
 have dC:=i2.lt
 have dE:=h.lt
 refine If (α:=Option Addr × Nat) (λt=>[(0,ptV bv),(2,.slice (some ⟨q,0,none⟩) 1 i),(3,ptV b3)]) (λt w'=>AR w.heap.size [bv] w w'/\B0 w' bv (It (vh fo bp k 65536 true false I2 li (.slice p 1 c) (.slice t.1 1 t.2))).toArray 215/\Ag w' (some ⟨q,0,none⟩) [97]/\B0 w' b3 (Mm I2).toArray 55/\∃ N,Itm N (itX k I2 (some ⟨q,0,none⟩) i) t w'/\b3<N/\w.heap.size<=N/\N<=w'.heap.size) ?_ (λt w1 hR=>?_)
 refine D6 15 rfl BR (λw'=>w'.heap[b3]?=w1.heap[b3]?/\True) (λdG D=>?_)
 have m:=i2.drew D
 have j:=i5.drew D
 have E:=i4.drew D
 have o:=Dl i1 (OS D)
 have f:=Bs (j.trans i5.symm) Bi
 refine Ab 0 rfl (.mv rfl) f ?_
 refine Ab 1 rfl (.mv rfl) f ?_
 refine Ab 2 rfl (.nck rfl) f ?_
 refine Ab 3 rfl (.fa CJ rfl Kz dD rfl) f ?_
 refine Ab 4 rfl (.fa Ks rfl sizeOf50 dD rfl) f ?_
 refine Ab 6 rfl (.mv rfl) f ?_
 refine Ab 7 rfl (.nck rfl) f ?_
 refine Ab 8 rfl (.fa CJ rfl Kz dD rfl) f ?_
 refine Ab 9 rfl (.fa Ks rfl Bw dD rfl) f ?_
 refine BX 11 rfl (λw' hw'=>I7 (L:=m6Y) FN rfl Ef ((hw'.1).trans i5) (I2) (rfl) rfl) f rfl ?_
 refine Ab 12 rfl (.mv rfl) f ?_
 refine FA 5 rfl 10 rfl ?_ ?_
 refine Ah (I7 (L:=Oi) Yo rfl OG m (JG 1) (rfl) rfl)<|A0<|⟨f,?_⟩
 refine AX 10 rfl<|Ah (Ae (BZ _) rfl m rfl)<|A0<|⟨f,?_⟩
 refine Ab 13 rfl (.build rfl (A4s k I2 (some ⟨q,0,none⟩) i)) f ?_
 refine AX 14 rfl<|Bf BK rfl rfl ((ZT bv bp fo k 65536 I2 li (.slice p 1 c) (itX k I2 (some ⟨q,0,none⟩) i) _ m)) (λu dH c5=>?_)
 obtain ⟨pi,ci⟩:=u
 obtain ⟨hK,ay,az⟩:=c5
 simp only at ay az
 have aN:=o
 have bI:=(j).lt
 have aA:=B0.keepB j hK (j).lt (by have:=h.lt;simp only [B8];omega)
 have bJ:=Dl o (C7 hK o.size (by simp))
 have T:=Ag.keepB E hK (λb=>⟨(E).lt b,by have:=h.lt;show (q:Nat) ∉ _;simp only [B8];omega⟩)
 refine A0<|⟨⟨(aA).trans (i5).symm,tT⟩,?_⟩
 refine BH kR ?_
 exact ⟨(pi,ci),⟨rfl,rfl,rfl,tT⟩,bJ,ay,T,aA,_,az,bI,AR.size aN,hK.size⟩
 refine Ah (Ae (BZ _) rfl m rfl)<|A0<|⟨f,?_⟩
 refine AX 5 rfl<|Ah (I7 (L:=Oi) Yo rfl OG m (JG 1) (rfl) rfl)<|A0<|⟨f,?_⟩
 refine Ab 13 rfl (.build rfl (A4s k I2 (some ⟨q,0,none⟩) i)) f ?_
 refine AX 14 rfl<|Bf BK rfl rfl ((ZT bv bp fo k 65536 I2 li (.slice p 1 c) (itX k I2 (some ⟨q,0,none⟩) i) _ m)) (λu dI c6=>?_)
 obtain ⟨pi,ci⟩:=u
 obtain ⟨hK,ay,az⟩:=c6
 simp only at ay az
 have aN:=o
 have bI:=(j).lt
 have aA:=B0.keepB j hK (j).lt (by have:=h.lt;simp only [B8];omega)
 have bJ:=Dl o (C7 hK o.size (by simp))
 have T:=Ag.keepB E hK (λb=>⟨(E).lt b,by have:=h.lt;show (q:Nat) ∉ _;simp only [B8];omega⟩)
 refine A0<|⟨⟨(aA).trans (i5).symm,tT⟩,?_⟩
 refine BH kR ?_
 exact ⟨(pi,ci),⟨rfl,rfl,rfl,tT⟩,bJ,ay,T,aA,_,az,bI,AR.size aN,hK.size⟩
 obtain ⟨⟨pi,ci⟩,ax⟩:=eX t
 subst ax
 obtain ⟨k1,k2,k4,k5,N4,k6,e9,dd,ea⟩:=hR
 simp only at k2 k6
 have a5:∀ g,(Value.slice pi 1 ci).ownBlock=some g->N4<=g:=λg hg=>(AD.lt k6 g hg).1
 have dJ:=h.lt
 have eb:=(PB k [97] 0 dD).1
 have ec:PD k 0 [97]<=9999:=(PB k [97] 0 dD).2
 refine A4<|A3 rfl<|A1 (.nck rfl)<|A1 (.fa CJ rfl Kz dD rfl)<|A1 (.fa Ks rfl Bw dD rfl)<|Ah (Ae (BZ _) rfl k2 rfl)<|A3 rfl<|Ao (A1j k (some ⟨q,0,none⟩) [97] i _ k4 dD) (λdK F=>?_)
 have G:=AD.below k6 F
 have b0:=k2.bl F
 have b1:=k5.bl F
 have b2:=kB k1 F
 refine A1 (.mul rfl rfl (Ba oO))<|A9 rfl<|A4<|A3 rfl<|A1 (.quo rfl rfl oO (A7h oO oO oO))<|A9 rfl<|If (α:=Int) (λt=>[(0,ptV bv),(3,ptV b3),(5,Af t)]) (λt w'=>AR w.heap.size [bv] w w'/\B0 w' bv (It (vh fo bp k 65536 true false I2 li (.slice p 1 c) (.slice pi 1 ci))).toArray 215/\B0 w' b3 (Mm I2).toArray 55/\Itm N4 (itX k I2 (some ⟨q,0,none⟩) i) (pi,ci) w'/\N4<=w'.heap.size) ?_ (λt w1 hR=>?_)
 refine A4<|A3 rfl<|A1 (.rem rfl rfl oO (Int.tmod_eq_emod_of_nonneg oO))<|A1 (.mul rfl rfl (Ba oO))<|A1 (.geq rfl rfl)<|A0<|Ai rfl (λaO=>?_) (λaO=>?_)
 have c7:=dT aO
 refine Am<|A3 rfl<|A1 (.add rfl rfl (Ba oO))<|A9 rfl ?_
 exact ⟨_,⟨rfl,rfl,rfl,tT⟩,b2,b0,b1,G,To G⟩
 have c7:=dF aO
 refine Ap ?_
 exact ⟨_,⟨rfl,rfl,rfl,tT⟩,b2,b0,b1,G,To G⟩
 obtain ⟨q1,q2,q3,q4,q5⟩:=hR
 obtain ⟨wd,de⟩:=eX t
 subst de
 refine A4<|A3 rfl<|A3 rfl<|A1 (.nck rfl)<|A1 (.fa CJ rfl Kz dD rfl)<|A1 (.fa Ks rfl Bw dD rfl)<|Ah (Ae (BZ _) rfl q2 rfl)<|Ao (XU wd 65536 _) (λc' H=>?_)
 have c8:=AD.below q4 H
 have l:=q2.bl H
 have c9:=q3.bl H
 have ca:=kB q1 H
 simp only [Sb]
 refine A3 rfl<|A1 (.ext rfl rfl)<|A1 (.ext rfl rfl)<|Ct rfl<|A9 rfl<|Ad<|D6 12 rfl BR (λw'=>w'.heap[bv]?=c'.heap[bv]?/\True) (λdL J=>?_)
 have cb:=AD.drew c8 J
 have b4:=l.drew J
 have cc:=c9.drew J
 have cd:=Dl ca (OS J)
 have aB:=Bs (b4.trans l.symm) Bi
 refine Ab 0 rfl (.mv rfl) aB ?_
 refine Ab 2 rfl (.mv rfl) aB ?_
 refine Ab 3 rfl (.nck rfl) aB ?_
 refine Ab 4 rfl (.fa CJ rfl sizeOf55 dD rfl) aB ?_
 refine BX 5 rfl (λw' hw'=>I7 (L:=m6Y) FN rfl Ef ((hw'.1).trans l) (I2) (rfl) rfl) aB rfl ?_
 refine AX 1 rfl<|Ao (Rq _ _ _) (λdM K=>?_)
 have cf:=AD.below cb K
 have b5:=b4.bl K
 have cg:=cc.bl K
 have cj:=kB cd K
 refine A0<|⟨⟨(b5).trans (l).symm,tT⟩,?_⟩
 refine AX 6 rfl<|Ao (Ql _ I2 _) (λdN P=>?_)
 have ck:=AD.below cf P
 have b6:=b5.bl P
 have cl:=cg.bl P
 have cm:=kB cj P
 simp only [m6R]
 refine A0<|?_
 have b8:=Bs (b6.trans l.symm) Bi
 refine ⟨b8,?_⟩
 refine Ab 7 rfl (.mv rfl) b8 ?_
 refine Ab 8 rfl (.ext rfl rfl) b8 ?_
 refine Ab 9 rfl (.ext rfl rfl) b8 ?_
 refine AX 10 rfl<|Ax rfl rfl cl Ef rfl rfl (λdO aC a6 df=>?_)
 have b9:=GI ck a6 ((λg hg e=>by have:=a5 g hg;omega))
 have Q:=b6.up a6
 have ba:=Dl cm (by exact GT a6 oO)
 refine A0<|⟨⟨(Q).trans (l).symm,tT⟩,?_⟩
 refine Ab 11 rfl (.as rfl) ⟨(Q).trans (l).symm,tT⟩ ?_
 refine BH kR<|If (α:=Bool × M6) (λt=>[(0,ptV bv),(3,ptV b3)]) (λt w'=>AR w.heap.size [bv] w w'/\B0 w' bv (It (vh fo bp k 65536 true t.1 I2 li (.slice p 1 c) (.slice pi 1 ci))).toArray 215/\B0 w' b3 (Mm t.2).toArray 55/\Itm N4 (itX k I2 (some ⟨q,0,none⟩) i) (pi,ci) w'/\N4<=w'.heap.size) ?_ (λt w1 hR=>?_)
 refine Am<|A3 rfl<|A3 rfl<|A1 (.neq rfl rfl)<|A3 rfl<|Ck rfl rfl rfl (λs=>?_) (λs=>?_)
 have cn:=ndF s
 refine A3 rfl<|Az s<|A1 (.neq rfl rfl)<|A1 (.pkF rfl s rfl)<|A1 (.nck rfl)<|A1 (.fa CJ rfl RX dD rfl)<|GP 30 ((It (vh fo bp k 65536 true (!decide ((LM (m6T (OR wd 65536).1 0) I2).2=0)) I2 li (.slice p 1 c) (.slice pi 1 ci))).toArray) Q RX (λdP bK a7 dg=>?_)
 have bb:=GI b9 a7 ((λg hg e=>by have:=a5 g hg;omega))
 have co:=aC.up a7
 have cq:=Dl ba (by exact QY a7 (by simp))
 refine A0<|?_
 exact ⟨(_,_),⟨rfl,rfl,tT⟩,cq,bK,co,bb,To bb⟩
 have cn:=ndT s
 refine Bc s<|A1 (.pkT rfl s rfl)<|A1 (.nck rfl)<|A1 (.fa CJ rfl RX dD rfl)<|GP 30 ((It (vh fo bp k 65536 true true I2 li (.slice p 1 c) (.slice pi 1 ci))).toArray) Q RX (λdQ bL a8 dh=>?_)
 have bc:=GI b9 a8 ((λg hg e=>by have:=a5 g hg;omega))
 have cr:=aC.up a8
 have ct:=Dl ba (by exact QY a8 (by simp))
 refine A0<|?_
 exact ⟨(_,_),⟨rfl,rfl,tT⟩,ct,bL,cr,bc,To bc⟩
 obtain ⟨⟨cA,mm⟩,ax⟩:=eX t
 subst ax
 obtain ⟨u1,u2,u3,u4,u5⟩:=hR
 simp only at u2 u3
 refine Am<|A3 rfl<|Ah (I7 (L:=m6Y) FN rfl Ef u3 (mm) (rfl) rfl)<|A1 (.nck rfl)<|A1 (.fa CJ rfl sizeOf55 dD rfl)<|QO 31 ((It (vh fo bp k 65536 true cA mm li (.slice p 1 c) (.slice pi 1 ci))).toArray) u2 Ef (λdR bM aD di=>?_)
 have cu:=GI u4 aD ((λg hg e=>by have:=a5 g hg;omega))
 have cv:=Dl u1 (by exact QY aD (by simp))
 refine A0<|Cx (Cd rfl ?_)
 exact ⟨(cA,mm,itX k I2 (some ⟨q,0,none⟩) i,pi,ci),rfl,cv,bM,AD.base cu (λg hg=>C9 dd (a5 g hg)),rfl⟩
end
section
theorem Wu  (h:KL s):nmB s=true:=by
 obtain ⟨a,b,c⟩:=h
 have d:1<=s.length:=by cases s with | nil=>exact De rfl a | cons _ _=>simp
 unfold nmB
 rw [AJ b,AP oO,AP oO]
 rfl
theorem A34 (i:Int) (kp lp dp:Option Addr) (kc lc dc:Nat) (D:Int) (st:Bool) (w:World) (h:Cy i=true) :
  Cb 41 #[.agg #[Af 2,Af i,.string (bs []),.slice kp 0 kc,.slice lp 0 lc,.slice dp 0 dc],Af D,.bool st] w (.bool true):=by
 refine Ar func41 rfl ntmps41 ?_
 have c:=CN w
 refine A4<|WL.box rfl rfl (λl d f a b k=>?_)
 have g:=uB c f b
 refine A9 rfl<|A4<|A1 (.fa Ay rfl Bw dD rfl)<|Ah (Ae (BZ _) rfl a rfl)<|A1 (.eql rfl rfl)<|A9 rfl<|A4<|A1 (.fa Ay rfl FH dD rfl)<|Ah (Ae (FX _) rfl a rfl)<|A1 (.bis (true) (.eqs rfl rfl) (by rfl))<|A9 rfl<|A4<|A1 (.fa Ay rfl DU dD rfl)<|Ah (Ae (Fg _) rfl a rfl)<|A1 (.lenS Dy rfl)<|A1 (.bis (true) (.eql rfl rfl) (by rfl))<|A9 rfl<|A4<|A1 (.fa Ay rfl Cr dD rfl)<|Ah (Ae (Dv _) rfl a rfl)<|A1 (.lenS C2 rfl)<|A1 (.bis (true) (.eql rfl rfl) (by rfl))<|A9 rfl<|A4<|A1 (.fa Ay rfl D8 dD rfl)<|Ah (Ae (g22_ _) rfl a rfl)<|A1 (.lenS B1 rfl)<|A1 (.bis (true) (.eql rfl rfl) (by rfl))<|A9 rfl<|Ad<|A4<|A1 (.fa Ay rfl Bw dD rfl)<|Ah (Ae (BZ _) rfl a rfl)<|A0<|AO<|A4<|A1 (.bis (false) (.eql rfl rfl) (by rfl))<|A9 rfl<|Aq rfl rfl<|A4<|A1 (.bis (false) (.eql rfl rfl) (by rfl))<|A9 rfl<|Aq rfl rfl<|Ad<|A4<|A1 (.bis (true) (.eql rfl rfl) (by rfl))<|A9 rfl<|BQ rfl rfl<|Ap<|BQ rfl rfl<|A4<|A1 (.fa Ay rfl Bw dD rfl)<|Ah (Ae (BZ _) rfl a rfl)<|Ao (by have q:=A0o i d;rw [h] at q;exact q) (λm j=>?_)
 obtain rfl:=j
 refine A3 rfl<|Az rfl<|A3 rfl<|A1 (.pkT rfl rfl rfl)<|A3 rfl<|Az rfl<|A3 rfl<|A1 (.pkT rfl rfl rfl)<|A3 rfl<|Az rfl<|A3 rfl<|A1 (.pkT rfl rfl rfl)<|A3 rfl<|Az rfl<|A3 rfl<|A1 (.pkT rfl rfl rfl)<|A9 rfl<|AW ?_
 exact ⟨rfl,g⟩
theorem A33 (s:l8_) (kp lp dp:Option Addr) (kc lc dc:Nat) (D:Int) (st:Bool) (w:World) (h:KL s) :
  Cb 41 #[.agg #[Af 4,Af 0,.string (bs s),.slice kp 0 kc,.slice lp 0 lc,.slice dp 0 dc],Af D,.bool st] w (.bool true):=by
 have hn:=Wu h
 have hl:=h.2.2
 refine Ar func41 rfl ntmps41 ?_
 have b:=CN w
 refine A4<|WL.box rfl rfl (λl f c a d k=>?_)
 have g:=uB b c d
 have j:=CF c b.size
 refine A9 rfl<|A4<|A1 (.fa Ay rfl Bw dD rfl)<|Ah (Ae (BZ _) rfl a rfl)<|A1 (.bis (true) (.eql rfl rfl) (by rfl))<|A9 rfl<|A4<|A1 (.fa Ay rfl FH dD rfl)<|Ah (Ae (FX _) rfl a rfl)<|A1 (.eqs rfl rfl)<|A9 rfl<|A4<|A1 (.fa Ay rfl DU dD rfl)<|Ah (Ae (Fg _) rfl a rfl)<|A1 (.lenS Dy rfl)<|A1 (.bis (true) (.eql rfl rfl) (by rfl))<|A9 rfl<|A4<|A1 (.fa Ay rfl Cr dD rfl)<|Ah (Ae (Dv _) rfl a rfl)<|A1 (.lenS C2 rfl)<|A1 (.bis (true) (.eql rfl rfl) (by rfl))<|A9 rfl<|A4<|A1 (.fa Ay rfl D8 dD rfl)<|Ah (Ae (g22_ _) rfl a rfl)<|A1 (.lenS B1 rfl)<|A1 (.bis (true) (.eql rfl rfl) (by rfl))<|A9 rfl<|Ad<|A4<|A1 (.fa Ay rfl Bw dD rfl)<|Ah (Ae (BZ _) rfl a rfl)<|A0<|AO<|A4<|A1 (.bis (false) (.eql rfl rfl) (by rfl))<|A9 rfl<|Aq rfl rfl<|A4<|A1 (.bis (false) (.eql rfl rfl) (by rfl))<|A9 rfl<|Aq rfl rfl<|Ad<|A4<|A1 (.bis (false) (.eql rfl rfl) (by rfl))<|A9 rfl<|Aq rfl rfl<|Am<|A1 (.bis (false) (.eql rfl rfl) (by rfl))<|A9 rfl<|Aq rfl rfl<|A4<|A1 (.bis (true) (.eql rfl rfl) (by rfl))<|A9 rfl<|BQ rfl rfl<|A4<|A3 rfl<|A3 rfl<|Az rfl<|A1 (.fa Ay rfl FH dD rfl)<|Az rfl<|Ah (Ae (FX _) rfl a rfl)<|Az rfl<|Ao (by have q:=NV s f oO;rw [hn] at q;exact q) (λm i=>?_)
 obtain rfl:=i
 refine A1 (.pkT rfl rfl rfl)<|A3 rfl<|Az rfl<|A3 rfl<|A1 (.pkT rfl rfl rfl)<|A3 rfl<|Az rfl<|A3 rfl<|A1 (.pkT rfl rfl rfl)<|A3 rfl<|Az rfl<|A3 rfl<|A1 (.pkT rfl rfl rfl)<|A9 rfl<|AW ?_
 exact ⟨rfl,g⟩
theorem A30 (i:Int) (kp lp dp:Option Addr) (kc lc dc:Nat) (D:Int) (st:Bool) (w:World) (h:1<=i/\i<=4096) :
  Cb 41 #[.agg #[Af 8,Af i,.string (bs []),.slice kp 0 kc,.slice lp 0 lc,.slice dp 0 dc],Af D,.bool st] w (.bool true):=by
 refine Ar func41 rfl ntmps41 ?_
 have c:=CN w
 refine A4<|WL.box rfl rfl (λk j d a b g=>?_)
 have f:=uB c d b
 refine A9 rfl<|A4<|A1 (.fa Ay rfl Bw dD rfl)<|Ah (Ae (BZ _) rfl a rfl)<|A1 (.eql rfl rfl)<|A9 rfl<|A4<|A1 (.fa Ay rfl FH dD rfl)<|Ah (Ae (FX _) rfl a rfl)<|A1 (.bis (true) (.eqs rfl rfl) (by rfl))<|A9 rfl<|A4<|A1 (.fa Ay rfl DU dD rfl)<|Ah (Ae (Fg _) rfl a rfl)<|A1 (.lenS Dy rfl)<|A1 (.bis (true) (.eql rfl rfl) (by rfl))<|A9 rfl<|A4<|A1 (.fa Ay rfl Cr dD rfl)<|Ah (Ae (Dv _) rfl a rfl)<|A1 (.lenS C2 rfl)<|A1 (.bis (true) (.eql rfl rfl) (by rfl))<|A9 rfl<|A4<|A1 (.fa Ay rfl D8 dD rfl)<|Ah (Ae (g22_ _) rfl a rfl)<|A1 (.lenS B1 rfl)<|A1 (.bis (true) (.eql rfl rfl) (by rfl))<|A9 rfl<|Ad<|A4<|A1 (.fa Ay rfl Bw dD rfl)<|Ah (Ae (BZ _) rfl a rfl)<|A0<|AO<|A4<|A1 (.bis (false) (.eql rfl rfl) (by rfl))<|A9 rfl<|Aq rfl rfl<|A4<|A1 (.bis (false) (.eql rfl rfl) (by rfl))<|A9 rfl<|Aq rfl rfl<|Ad<|A4<|A1 (.bis (false) (.eql rfl rfl) (by rfl))<|A9 rfl<|Aq rfl rfl<|Am<|A1 (.bis (false) (.eql rfl rfl) (by rfl))<|A9 rfl<|Aq rfl rfl<|A4<|A1 (.bis (false) (.eql rfl rfl) (by rfl))<|A9 rfl<|Aq rfl rfl<|A4<|A1 (.bis (false) (.eql rfl rfl) (by rfl))<|A9 rfl<|Aq rfl rfl<|A4<|A1 (.bis (true) (.eql rfl rfl) (by rfl))<|A9 rfl<|BQ rfl rfl<|A4<|A1 (.fa Ay rfl Bw dD rfl)<|Ah (Ae (BZ _) rfl a rfl)<|A1 (.bis (true) (.geq rfl rfl) (by exact AP oO))<|A3 rfl<|Az rfl<|A1 (.fa Ay rfl Bw dD rfl)<|Az rfl<|Ah (Ae (BZ _) rfl a rfl)<|Az rfl<|A1 (.bis (true) (.leq rfl rfl) (by exact AP oO))<|A1 (.pkT rfl rfl rfl)<|A3 rfl<|Az rfl<|A3 rfl<|A1 (.pkT rfl rfl rfl)<|A3 rfl<|Az rfl<|A3 rfl<|A1 (.pkT rfl rfl rfl)<|A3 rfl<|Az rfl<|A3 rfl<|A1 (.pkT rfl rfl rfl)<|A3 rfl<|Az rfl<|A3 rfl<|A1 (.pkT rfl rfl rfl)<|A9 rfl<|AW ?_
 exact ⟨rfl,f⟩
theorem A32 (kp lp dp:Option Addr) (kc lc dc:Nat) (D:Int) (st:Bool) (cs:List AC) (list:List AV) (S:Nat->Prop) (w:World) (hD:1<=D) (hD2:D<=100) (hl:cs.length<=65535) (hr:AG EN w lp cs) (hA:AH w S cs list)
  (ih:∀ i (h:i<cs.length) (h2:i<list.length) w1,AB w1 S cs[i] list[i]->Calls Tryz.prog 41 #[.agg (DN cs[i]).toArray,Af (D-1),.bool false] w1 λe w'=>e=.returned (.bool true)/\AL w1 w') :
  Cb 41 #[.agg #[Af 6,Af 0,.string (bs []),.slice kp 0 kc,.slice lp cs.length lc,.slice dp 0 dc],Af D,.bool st] w (.bool true):=by
 have K:=hA.len
 refine Ar func41 rfl ntmps41 ?_
 have m:=CN w
 refine A4<|WL.box rfl rfl (λy A g a c L=>?_)
 have B:=AH.same (w1:=A) hA (λk hk hl=>c.other k oO)
 have s:=λj=>g▸hr.lt j
 have C:=AG.upd hr c (λj=>CR (s j))
 have E:=uB m g c
 have J:=CF g m.size
 refine A9 rfl<|A4<|A1 (.fa Ay rfl Bw dD rfl)<|Ah (Ae (BZ _) rfl a rfl)<|A1 (.bis (true) (.eql rfl rfl) (by rfl))<|A9 rfl<|A4<|A1 (.fa Ay rfl FH dD rfl)<|Ah (Ae (FX _) rfl a rfl)<|A1 (.bis (true) (.eqs rfl rfl) (by rfl))<|A9 rfl<|A4<|A1 (.fa Ay rfl DU dD rfl)<|Ah (Ae (Fg _) rfl a rfl)<|A1 (.lenS Dy rfl)<|A1 (.bis (true) (.eql rfl rfl) (by rfl))<|A9 rfl<|A4<|A1 (.fa Ay rfl Cr dD rfl)<|Ah (Ae (Dv _) rfl a rfl)<|A1 (.lenS C2 rfl)<|A1 (.eql rfl rfl)<|A9 rfl<|A4<|A1 (.fa Ay rfl D8 dD rfl)<|Ah (Ae (g22_ _) rfl a rfl)<|A1 (.lenS B1 rfl)<|A1 (.bis (true) (.eql rfl rfl) (by rfl))<|A9 rfl<|Ad<|A4<|A1 (.fa Ay rfl Bw dD rfl)<|Ah (Ae (BZ _) rfl a rfl)<|A0<|AO<|A4<|A1 (.bis (false) (.eql rfl rfl) (by rfl))<|A9 rfl<|Aq rfl rfl<|A4<|A1 (.bis (false) (.eql rfl rfl) (by rfl))<|A9 rfl<|Aq rfl rfl<|Ad<|A4<|A1 (.bis (false) (.eql rfl rfl) (by rfl))<|A9 rfl<|Aq rfl rfl<|Am<|A1 (.bis (false) (.eql rfl rfl) (by rfl))<|A9 rfl<|Aq rfl rfl<|A4<|A1 (.bis (false) (.eql rfl rfl) (by rfl))<|A9 rfl<|Aq rfl rfl<|A4<|A1 (.bis (false) (.eql rfl rfl) (by rfl))<|A9 rfl<|Aq rfl rfl<|A4<|A1 (.bis (false) (.eql rfl rfl) (by rfl))<|A9 rfl<|Aq rfl rfl<|A4<|A1 (.bis (true) (.eql rfl rfl) (by rfl))<|A9 rfl<|BQ rfl rfl<|A4<|A3 rfl<|A1 (.bis (false) (.lss rfl rfl) (by exact AJ oO))<|A3 rfl<|Az rfl<|A3 rfl<|Az rfl<|A1 (.not rfl)<|A1 (.pkF rfl rfl rfl)<|A3 rfl<|Az rfl<|A3 rfl<|Az rfl<|A1 (.not rfl)<|A1 (.pkF rfl rfl rfl)<|A3 rfl<|Az rfl<|A3 rfl<|Az rfl<|A1 (.not rfl)<|A1 (.pkF rfl rfl rfl)<|A3 rfl<|Az rfl<|A3 rfl<|Az rfl<|A1 (.not rfl)<|A1 (.pkF rfl rfl rfl)<|A0<|Aq rfl rfl<|Ap<|Ad<|A4<|A1 (.fa Ay rfl Cr dD rfl)<|Ah (Ae (Dv _) rfl a rfl)<|A1 (.lenS C2 rfl)<|A1 (.bis (false) (.gtr rfl rfl) (by exact AJ oO))<|A0<|Aq rfl rfl<|Ap<|Ad<|A4<|A9 rfl<|AO<|BM (α:=Nat) (λt=>[(1,Af D),(3,ptV y),(14,Af (t:Int))]) (λt w'=>AL w w'/\B0 w' y #[Af 6,Af 0,.string (bs []),.slice kp 0 kc,.slice lp cs.length lc,.slice dp 0 dc] 27/\AG EN w' lp cs/\AH w' S cs list/\t<=cs.length) (λt=>cs.length-t) (0) ⟨rfl,rfl,rfl,tT⟩ (⟨E,a,C,B,FI _⟩) (λt w1 hR=>?_)
 obtain ⟨f,rfl⟩:=eX t
 obtain ⟨o,l,b,q,P⟩:=hR
 refine Ad<|A4<|A3 rfl<|A1 (.fa Ay rfl Cr dD rfl)<|Ah (Ae (Dv _) rfl l rfl)<|A1 (.lenS C2 rfl)<|A1 (.lss rfl rfl)<|A0<|Ai rfl (λu=>?_) (λu=>?_)
 have F:=dT u
 refine Ap<|Ad<|AO<|A4<|A1 (.fa Ay rfl Cr dD rfl)<|Ah (Ae (Dv _) rfl l rfl)<|A3 rfl<|A1 (.ixm C2 CU rfl rfl (b.isp oO) (f) (rfl) oO)<|Ah (Dz Ay rfl Al b (f) oO rfl)<|A3 rfl<|A1 (.sub rfl rfl (Ba oO))<|Ao (ih f oO oO _ ((q).sub f oO oO)) (λN d=>?_)
 have G:=AH.same (w1:=N) q (λk hk hl=>d.block k hl)
 have H:=l.bl d
 have v:=DW b d (λj=>b.lt j)
 have x:=Ci o d
 refine A1 (.not rfl)<|A0<|Aq rfl rfl<|Ap<|Am<|A3 rfl<|A1 (.iis (((f+1:Nat):Int)) (.add rfl rfl (Ba oO)) oO)<|A9 rfl ?_
 exact ⟨f+1,⟨rfl,rfl,rfl,tT⟩,⟨x,H,v,G,oM⟩,oM⟩
 have F:=dF u
 refine BF<|A4<|A9 rfl<|AW ?_
 exact ⟨rfl,o⟩
theorem A31 (kp lp dp:Option Addr) (kc lc dc:Nat) (D:Int) (st:Bool) (keys:List (l8_)) (cs:List AC) (list:List AV) (S:Nat->Prop) (w:World) (hD:1<=D) (hD2:D<=100) (hl:cs.length<=65535) (hkl:keys.length=list.length) (hn:∀ x∈keys,KL x) (hnd:keys.Nodup) (hk:B3 G7 w kp keys) (hr:AG EN w lp cs) (hA:AH w S cs list)
  (ih:∀ i (h:i<cs.length) (h2:i<list.length) w1,AB w1 S cs[i] list[i]->Calls Tryz.prog 41 #[.agg (DN cs[i]).toArray,Af (D-1),.bool false] w1 λe w'=>e=.returned (.bool true)/\AL w1 w') :
  Cb 41 #[.agg #[Af 7,Af 0,.string (bs []),.slice kp keys.length kc,.slice lp cs.length lc,.slice dp 0 dc],Af D,.bool st] w (.bool true):=by
 have aq:=hA.len
 have ae:∀ i (h:i<keys.length),nmB keys[i]=true:=λi h=>Wu (hn _ (AA h))
 have af:∀ i (h:i<keys.length),keys[i].length<=127:=λi h=>(hn _ (AA h)).2.2
 refine Ar func41 rfl ntmps41 ?_
 have K:=CN w
 refine A4<|WL.box rfl rfl (λy ag u a g ar=>?_)
 have ah:=AH.same (w1:=ag) hA (λk hk hl=>g.other k oO)
 have a0:=λj=>u▸hk.lt j
 have ai:=B3.upd hk g (λj=>CR (a0 j))
 have a1:=λj=>u▸hr.lt j
 have aj:=AG.upd hr g (λj=>CR (a1 j))
 have ak:=uB K u g
 have ap:=CF u K.size
 refine A9 rfl<|A4<|A1 (.fa Ay rfl Bw dD rfl)<|Ah (Ae (BZ _) rfl a rfl)<|A1 (.bis (true) (.eql rfl rfl) (by rfl))<|A9 rfl<|A4<|A1 (.fa Ay rfl FH dD rfl)<|Ah (Ae (FX _) rfl a rfl)<|A1 (.bis (true) (.eqs rfl rfl) (by rfl))<|A9 rfl<|A4<|A1 (.fa Ay rfl DU dD rfl)<|Ah (Ae (Fg _) rfl a rfl)<|A1 (.lenS Dy rfl)<|A1 (.eql rfl rfl)<|A9 rfl<|A4<|A1 (.fa Ay rfl Cr dD rfl)<|Ah (Ae (Dv _) rfl a rfl)<|A1 (.lenS C2 rfl)<|A1 (.eql rfl rfl)<|A9 rfl<|A4<|A1 (.fa Ay rfl D8 dD rfl)<|Ah (Ae (g22_ _) rfl a rfl)<|A1 (.lenS B1 rfl)<|A1 (.bis (true) (.eql rfl rfl) (by rfl))<|A9 rfl<|Ad<|A4<|A1 (.fa Ay rfl Bw dD rfl)<|Ah (Ae (BZ _) rfl a rfl)<|A0<|AO<|A4<|A1 (.bis (false) (.eql rfl rfl) (by rfl))<|A9 rfl<|Aq rfl rfl<|A4<|A1 (.bis (false) (.eql rfl rfl) (by rfl))<|A9 rfl<|Aq rfl rfl<|Ad<|A4<|A1 (.bis (false) (.eql rfl rfl) (by rfl))<|A9 rfl<|Aq rfl rfl<|Am<|A1 (.bis (false) (.eql rfl rfl) (by rfl))<|A9 rfl<|Aq rfl rfl<|A4<|A1 (.bis (false) (.eql rfl rfl) (by rfl))<|A9 rfl<|Aq rfl rfl<|A4<|A1 (.bis (false) (.eql rfl rfl) (by rfl))<|A9 rfl<|Aq rfl rfl<|A4<|A1 (.bis (false) (.eql rfl rfl) (by rfl))<|A9 rfl<|Aq rfl rfl<|A4<|A1 (.bis (false) (.eql rfl rfl) (by rfl))<|A9 rfl<|Aq rfl rfl<|Ad<|A4<|A1 (.bis (true) (.eql rfl rfl) (by rfl))<|A9 rfl<|BQ rfl rfl<|Ap<|BQ rfl rfl<|Ad<|A4<|A3 rfl<|A1 (.bis (false) (.lss rfl rfl) (by exact AJ oO))<|A3 rfl<|Az rfl<|A3 rfl<|Az rfl<|A1 (.not rfl)<|A1 (.pkF rfl rfl rfl)<|A3 rfl<|Az rfl<|A3 rfl<|Az rfl<|A1 (.not rfl)<|A1 (.pkF rfl rfl rfl)<|A3 rfl<|Az rfl<|A1 (.fa Ay rfl DU dD rfl)<|Az rfl<|Ah (Ae (Fg _) rfl a rfl)<|Az rfl<|A1 (.lenS Dy rfl)<|Az rfl<|A1 (.fa Ay rfl Cr dD rfl)<|Az rfl<|Ah (Ae (Dv _) rfl a rfl)<|Az rfl<|A1 (.lenS C2 rfl)<|Az rfl<|A1 (.bis (false) (.neq rfl rfl) (by (have e:keys.length=cs.length:=by omega);(rw [e];simp)))<|A1 (.pkF rfl rfl rfl)<|A3 rfl<|Az rfl<|A1 (.fa Ay rfl Bw dD rfl)<|Az rfl<|Ah (Ae (BZ _) rfl a rfl)<|Az rfl<|A1 (.bis (true) (.eql rfl rfl) (by rfl))<|Az rfl<|A3 rfl<|Az rfl<|A3 rfl<|Az rfl<|A1 (.not rfl)<|Az rfl<|A1 (.pkT rfl rfl rfl)<|A1 (.pkF rfl rfl rfl)<|A3 rfl<|Az rfl<|A1 (.fa Ay rfl Bw dD rfl)<|Az rfl<|Ah (Ae (BZ _) rfl a rfl)<|Az rfl<|A1 (.bis (false) (.eql rfl rfl) (by rfl))<|Az rfl<|A3 rfl<|Bc rfl<|Bc rfl<|Bc rfl<|RI<|RI<|RI<|RI<|Bc rfl<|Az rfl<|A1 (.pkF rfl rfl rfl)<|A1 (.pkF rfl rfl rfl)<|A0<|Aq rfl rfl<|Ap<|A4<|A9 rfl<|AO<|BM (α:=Nat) (λt=>[(1,Af D),(2,.bool st),(3,ptV y),(12,Af (t:Int))]) (λt w'=>AL w w'/\B0 w' y #[Af 7,Af 0,.string (bs []),.slice kp keys.length kc,.slice lp cs.length lc,.slice dp 0 dc] 27/\B3 G7 w' kp keys/\AG EN w' lp cs/\AH w' S cs list/\t<=keys.length) (λt=>keys.length-t) (0) ⟨rfl,rfl,rfl,rfl,tT⟩ (⟨ak,a,ai,aj,ah,FI _⟩) (λt w1 hR=>?_)
 obtain ⟨b,rfl⟩:=eX t
 obtain ⟨L,f,s,B,P,ht⟩:=hR
 refine Ad<|A4<|A3 rfl<|A1 (.fa Ay rfl DU dD rfl)<|Ah (Ae (Fg _) rfl f rfl)<|A1 (.lenS Dy rfl)<|A1 (.lss rfl rfl)<|A0<|Ai rfl (λh8=>?_) (λh8=>?_)
 have al:=dT h8
 refine Ap<|Ad<|AO<|Ad<|A4<|A1 (.fa Ay rfl DU dD rfl)<|Ah (Ae (Fg _) rfl f rfl)<|A3 rfl<|A1 (.ixb Dy FH rfl rfl (s.isp oO) (b) (rfl) oO)<|Ah (Bq (FX _) rfl (s.cells (b) oO))<|Ao (by have q:=NV (keys[b]'oO) w1 (by have:=af b oO;omega);rw [ae b oO] at q;exact q) (λw9 am=>?_)
 obtain rfl:=am
 refine A1 (.not rfl)<|A3 rfl<|Az rfl<|A1 (.fa Ay rfl Bw dD rfl)<|Az rfl<|Ah (Ae (BZ _) rfl f rfl)<|Az rfl<|A1 (.bis (false) (.eql rfl rfl) (by rfl))<|Az rfl<|A3 rfl<|Bc rfl<|Bc rfl<|Bc rfl<|Bc rfl<|Bc rfl<|Bc rfl<|Az rfl<|A1 (.pkF rfl rfl rfl)<|A1 (.pkF rfl rfl rfl)<|A0<|Aq rfl rfl<|Ap<|A4<|A9 rfl<|AO<|BM (α:=Nat) (λt=>[(1,Af D),(2,.bool st),(3,ptV y),(12,Af (b:Int)),(13,Af (t:Int))]) (λt w'=>AL w w'/\B0 w' y #[Af 7,Af 0,.string (bs []),.slice kp keys.length kc,.slice lp cs.length lc,.slice dp 0 dc] 27/\B3 G7 w' kp keys/\AG EN w' lp cs/\AH w' S cs list/\t<=b) (λt=>b-t) (0) ⟨rfl,rfl,rfl,rfl,rfl,tT⟩ (⟨L,f,s,B,P,FI _⟩) (λt w1 hR=>?_)
 obtain ⟨C,rfl⟩:=eX t
 obtain ⟨Q,v,c,E,T,au⟩:=hR
 refine Ad<|A4<|A3 rfl<|A3 rfl<|A1 (.lss rfl rfl)<|A0<|Ai rfl (λF=>?_) (λF=>?_)
 have a2:=dT F
 refine Ap<|Ad<|AO<|Ad<|DH BR kR<|WQ.p (.fa Ay rfl DU dD rfl) rfl<|Db (λm=>Ae (Fg _) rfl v rfl) rfl<|WQ.p (.mv rfl) rfl<|WQ.p (.ixb Dy FH rfl rfl (c.isp oO) (C) (rfl) oO) rfl<|Db (λm=>Bq (FX _) rfl ((c.drewN m).cells (C) oO)) rfl<|WQ.p (.fa Ay rfl DU dD rfl) rfl<|Db (λm=>Ae (Fg _) rfl v rfl) rfl<|WQ.p (.mv rfl) rfl<|WQ.p (.ixb Dy FH rfl rfl (c.isp oO) (b) (rfl) oO) rfl<|Db (λm=>Bq (FX _) rfl ((c.drewN m).cells (b) oO)) rfl<|WQ.p (.eqs rfl rfl) rfl<|CX (λan d=>?_)
 have a3:=AH.same (w1:=an) T (λk hk hl=>(by obtain ⟨m,rfl⟩:=d;rfl))
 have a4:=v.drew d
 have a5:=c.drew d
 have a6:=E.drew d
 have a7:=C6.below Q d
 refine Ai rfl (λG=>?_) (λG=>?_)
 have a8:=dT G
 exact De ((List.nodup_iff_pairwise_ne.1 hnd |> List.pairwise_iff_getElem.1) C b oO oO oO) (λh=>h aS)
 have a8:=dF G
 refine Ap<|Am<|A3 rfl<|A1 (.iis (((C+1:Nat):Int)) (.add rfl rfl (Ba oO)) oO)<|A9 rfl ?_
 exact ⟨C+1,⟨rfl,rfl,rfl,rfl,rfl,tT⟩,⟨a7,a4,a5,a6,a3,oM⟩,oM⟩
 have a2:=dF F
 refine BF<|Am<|A3 rfl<|A1 (.iis (((b+1:Nat):Int)) (.add rfl rfl (Ba oO)) oO)<|A9 rfl ?_
 exact ⟨b+1,⟨rfl,rfl,rfl,rfl,tT⟩,⟨Q,v,c,E,T,oM⟩,oM⟩
 have al:=dF h8
 refine BF<|Ad<|A4<|A1 (.fa Ay rfl Cr dD rfl)<|Ah (Ae (Dv _) rfl f rfl)<|A1 (.lenS C2 rfl)<|A1 (.bis (false) (.gtr rfl rfl) (by exact AJ oO))<|A0<|Aq rfl rfl<|Ap<|Ad<|A4<|A9 rfl<|AO<|BM (α:=Nat) (λt=>[(1,Af D),(3,ptV y),(14,Af (t:Int))]) (λt w'=>AL w w'/\B0 w' y #[Af 7,Af 0,.string (bs []),.slice kp keys.length kc,.slice lp cs.length lc,.slice dp 0 dc] 27/\AG EN w' lp cs/\AH w' S cs list/\t<=cs.length) (λt=>cs.length-t) (0) ⟨rfl,rfl,rfl,tT⟩ (⟨L,f,B,P,FI _⟩) (λt w1 hR=>?_)
 obtain ⟨A,rfl⟩:=eX t
 obtain ⟨V,H,l,X,av⟩:=hR
 refine Ad<|A4<|A3 rfl<|A1 (.fa Ay rfl Cr dD rfl)<|Ah (Ae (Dv _) rfl H rfl)<|A1 (.lenS C2 rfl)<|A1 (.lss rfl rfl)<|A0<|Ai rfl (λJ=>?_) (λJ=>?_)
 have a9:=dT J
 refine Ap<|Ad<|AO<|A4<|A1 (.fa Ay rfl Cr dD rfl)<|Ah (Ae (Dv _) rfl H rfl)<|A3 rfl<|A1 (.ixm C2 CU rfl rfl (l.isp oO) (A) (rfl) oO)<|Ah (Dz Ay rfl Al l (A) oO rfl)<|A3 rfl<|A1 (.sub rfl rfl (Ba oO))<|Ao (ih A oO oO _ ((X).sub A oO oO)) (λao o=>?_)
 have aa:=AH.same (w1:=ao) X (λk hk hl=>o.block k hl)
 have ab:=H.bl o
 have ac:=DW l o (λj=>l.lt j)
 have ad:=Ci V o
 refine A1 (.not rfl)<|A0<|Aq rfl rfl<|Ap<|Am<|A3 rfl<|A1 (.iis (((A+1:Nat):Int)) (.add rfl rfl (Ba oO)) oO)<|A9 rfl ?_
 exact ⟨A+1,⟨rfl,rfl,rfl,tT⟩,⟨ad,ab,ac,aa,oM⟩,oM⟩
 have a9:=dF J
 refine BF<|A4<|A9 rfl<|AW ?_
 exact ⟨rfl,V⟩
theorem A2Z (kp lp dp:Option Addr) (kc lc dc:Nat) (D:Int) (keys:List (l8_)) (data:l8_) (hdl:data.length<=1048576) (hno:[76,101,110,103,116,104] ∉ keys) (cs:List AC) (list:List AV) (S:Nat->Prop) (w:World) (hD:1<=D) (hD2:D<=100) (hl:cs.length<=65535) (hkl:keys.length=list.length) (hn:∀ x∈keys,KL x) (hnd:keys.Nodup) (hk:B3 G7 w kp keys) (hr:AG EN w lp cs) (hA:AH w S cs list)
  (ih:∀ i (h:i<cs.length) (h2:i<list.length) w1,AB w1 S cs[i] list[i]->Calls Tryz.prog 41 #[.agg (DN cs[i]).toArray,Af (D-1),.bool false] w1 λe w'=>e=.returned (.bool true)/\AL w1 w') :
  Cb 41 #[.agg #[Af 9,Af 0,.string (bs []),.slice kp keys.length kc,.slice lp cs.length lc,.slice dp data.length dc],Af D,.bool true] w (.bool true):=by
 have aq:=hA.len
 have af:∀ i (h:i<keys.length),nmB keys[i]=true:=λi h=>Wu (hn _ (AA h))
 have ag:∀ i (h:i<keys.length),keys[i].length<=127:=λi h=>(hn _ (AA h)).2.2
 refine Ar func41 rfl ntmps41 ?_
 have L:=CN w
 refine A4<|WL.box rfl rfl (λy ah u a j ar=>?_)
 have ai:=AH.same (w1:=ah) hA (λk hk hl=>j.other k oO)
 have a0:=λl=>u▸hk.lt l
 have aj:=B3.upd hk j (λl=>CR (a0 l))
 have a1:=λl=>u▸hr.lt l
 have ak:=AG.upd hr j (λl=>CR (a1 l))
 have al:=uB L u j
 have ap:=CF u L.size
 refine A9 rfl<|A4<|A1 (.fa Ay rfl Bw dD rfl)<|Ah (Ae (BZ _) rfl a rfl)<|A1 (.bis (true) (.eql rfl rfl) (by rfl))<|A9 rfl<|A4<|A1 (.fa Ay rfl FH dD rfl)<|Ah (Ae (FX _) rfl a rfl)<|A1 (.bis (true) (.eqs rfl rfl) (by rfl))<|A9 rfl<|A4<|A1 (.fa Ay rfl DU dD rfl)<|Ah (Ae (Fg _) rfl a rfl)<|A1 (.lenS Dy rfl)<|A1 (.eql rfl rfl)<|A9 rfl<|A4<|A1 (.fa Ay rfl Cr dD rfl)<|Ah (Ae (Dv _) rfl a rfl)<|A1 (.lenS C2 rfl)<|A1 (.eql rfl rfl)<|A9 rfl<|A4<|A1 (.fa Ay rfl D8 dD rfl)<|Ah (Ae (g22_ _) rfl a rfl)<|A1 (.lenS B1 rfl)<|A1 (.eql rfl rfl)<|A9 rfl<|Ad<|A4<|A1 (.fa Ay rfl Bw dD rfl)<|Ah (Ae (BZ _) rfl a rfl)<|A0<|AO<|A4<|A1 (.bis (false) (.eql rfl rfl) (by rfl))<|A9 rfl<|Aq rfl rfl<|A4<|A1 (.bis (false) (.eql rfl rfl) (by rfl))<|A9 rfl<|Aq rfl rfl<|Ad<|A4<|A1 (.bis (false) (.eql rfl rfl) (by rfl))<|A9 rfl<|Aq rfl rfl<|Am<|A1 (.bis (false) (.eql rfl rfl) (by rfl))<|A9 rfl<|Aq rfl rfl<|A4<|A1 (.bis (false) (.eql rfl rfl) (by rfl))<|A9 rfl<|Aq rfl rfl<|A4<|A1 (.bis (false) (.eql rfl rfl) (by rfl))<|A9 rfl<|Aq rfl rfl<|A4<|A1 (.bis (false) (.eql rfl rfl) (by rfl))<|A9 rfl<|Aq rfl rfl<|A4<|A1 (.bis (false) (.eql rfl rfl) (by rfl))<|A9 rfl<|Aq rfl rfl<|Ad<|A4<|A1 (.bis (false) (.eql rfl rfl) (by rfl))<|A9 rfl<|Aq rfl rfl<|Am<|A1 (.bis (true) (.eql rfl rfl) (by rfl))<|A9 rfl<|BQ rfl rfl<|Ad<|A4<|A3 rfl<|A1 (.bis (false) (.lss rfl rfl) (by exact AJ oO))<|A3 rfl<|Az rfl<|A3 rfl<|Az rfl<|A1 (.not rfl)<|A1 (.pkF rfl rfl rfl)<|A3 rfl<|Az rfl<|A3 rfl<|Az rfl<|A1 (.not rfl)<|A1 (.pkF rfl rfl rfl)<|A3 rfl<|Az rfl<|A1 (.fa Ay rfl DU dD rfl)<|Az rfl<|Ah (Ae (Fg _) rfl a rfl)<|Az rfl<|A1 (.lenS Dy rfl)<|Az rfl<|A1 (.fa Ay rfl Cr dD rfl)<|Az rfl<|Ah (Ae (Dv _) rfl a rfl)<|Az rfl<|A1 (.lenS C2 rfl)<|Az rfl<|A1 (.bis (false) (.neq rfl rfl) (by (have e:keys.length=cs.length:=by omega);(rw [e];simp)))<|A1 (.pkF rfl rfl rfl)<|A3 rfl<|Az rfl<|A1 (.fa Ay rfl Bw dD rfl)<|Az rfl<|Ah (Ae (BZ _) rfl a rfl)<|Az rfl<|A1 (.bis (false) (.eql rfl rfl) (by rfl))<|Az rfl<|A3 rfl<|Bc rfl<|Bc rfl<|Az rfl<|A1 (.pkF rfl rfl rfl)<|A1 (.pkF rfl rfl rfl)<|A3 rfl<|Az rfl<|A1 (.fa Ay rfl Bw dD rfl)<|Az rfl<|Ah (Ae (BZ _) rfl a rfl)<|Az rfl<|A1 (.bis (true) (.eql rfl rfl) (by rfl))<|Az rfl<|A3 rfl<|Az rfl<|A3 rfl<|Az rfl<|A1 (.not rfl)<|Az rfl<|A3 rfl<|Ck rfl rfl rfl (λB=>?_) (λB=>?_)
 refine A1 (.fa Ay rfl D8 dD rfl)<|GX rfl rfl rfl (by rw [(nF B)] <;> rfl)<|Ah (Ae (g22_ _) rfl a rfl)<|GX rfl rfl rfl (by rw [(nF B)] <;> rfl)<|A1 (.lenS B1 rfl)<|GX rfl rfl rfl (by rw [(nF B)] <;> rfl)<|A1 (.bis (false) (.gtr rfl rfl) (by exact AJ oO))<|Az rfl<|A1 (.pkF rfl (by rw [(nF B)] <;> rfl) rfl)<|Az rfl<|A1 (.pkT rfl rfl rfl)<|A1 (.pkF rfl rfl rfl)<|A0<|Aq rfl rfl<|Ap<|A4<|A9 rfl<|AO<|BM (α:=Nat) (λt=>[(1,Af D),(2,.bool true),(3,ptV y),(12,Af (t:Int))]) (λt w'=>AL w w'/\B0 w' y #[Af 9,Af 0,.string (bs []),.slice kp keys.length kc,.slice lp cs.length lc,.slice dp data.length dc] 27/\B3 G7 w' kp keys/\AG EN w' lp cs/\AH w' S cs list/\t<=keys.length) (λt=>keys.length-t) (0) ⟨rfl,rfl,rfl,rfl,tT⟩ (⟨al,a,aj,ak,ai,FI _⟩) (λt w1 hR=>?_)
 obtain ⟨b,rfl⟩:=eX t
 obtain ⟨P,d,f,C,Q,ht⟩:=hR
 refine Ad<|A4<|A3 rfl<|A1 (.fa Ay rfl DU dD rfl)<|Ah (Ae (Fg _) rfl d rfl)<|A1 (.lenS Dy rfl)<|A1 (.lss rfl rfl)<|A0<|Ai rfl (λh9=>?_) (λh9=>?_)
 have am:=dT h9
 refine Ap<|Ad<|AO<|Ad<|A4<|A1 (.fa Ay rfl DU dD rfl)<|Ah (Ae (Fg _) rfl d rfl)<|A3 rfl<|A1 (.ixb Dy FH rfl rfl (f.isp oO) (b) (rfl) oO)<|Ah (Bq (FX _) rfl (f.cells (b) oO))<|Ao (by have q:=NV (keys[b]'oO) w1 (by have:=ag b oO;omega);rw [af b oO] at q;exact q) (λau a2=>?_)
 obtain rfl:=a2
 refine A1 (.not rfl)<|A3 rfl<|Az rfl<|A1 (.fa Ay rfl Bw dD rfl)<|Az rfl<|Ah (Ae (BZ _) rfl d rfl)<|Az rfl<|A1 (.bis (true) (.eql rfl rfl) (by rfl))<|Az rfl<|A3 rfl<|Az rfl<|A1 (.fa Ay rfl DU dD rfl)<|Az rfl<|Ah (Ae (Fg _) rfl d rfl)<|Az rfl<|A3 rfl<|Az rfl<|A1 (.ixb Dy FH rfl rfl (f.isp oO) (b) (rfl) oO)<|Az rfl<|Ah (Bq (FX _) rfl (f.cells (b) oO))<|Az rfl<|A1 (.bis (false) (.eqs rfl rfl) (by exact AJ (λe=>hno (e▸AA oO))))<|Az rfl<|A1 (.pkT rfl rfl rfl)<|A1 (.pkF rfl rfl rfl)<|A0<|Aq rfl rfl<|Ap<|A4<|A9 rfl<|AO<|BM (α:=Nat) (λt=>[(1,Af D),(2,.bool true),(3,ptV y),(12,Af (b:Int)),(13,Af (t:Int))]) (λt w'=>AL w w'/\B0 w' y #[Af 9,Af 0,.string (bs []),.slice kp keys.length kc,.slice lp cs.length lc,.slice dp data.length dc] 27/\B3 G7 w' kp keys/\AG EN w' lp cs/\AH w' S cs list/\t<=b) (λt=>b-t) (0) ⟨rfl,rfl,rfl,rfl,rfl,tT⟩ (⟨P,d,f,C,Q,FI _⟩) (λt w1 hR=>?_)
 obtain ⟨E,rfl⟩:=eX t
 obtain ⟨T,v,c,F,U,av⟩:=hR
 refine Ad<|A4<|A3 rfl<|A3 rfl<|A1 (.lss rfl rfl)<|A0<|Ai rfl (λG=>?_) (λG=>?_)
 have a3:=dT G
 refine Ap<|Ad<|AO<|Ad<|DH BR kR<|WQ.p (.fa Ay rfl DU dD rfl) rfl<|Db (λm=>Ae (Fg _) rfl v rfl) rfl<|WQ.p (.mv rfl) rfl<|WQ.p (.ixb Dy FH rfl rfl (c.isp oO) (E) (rfl) oO) rfl<|Db (λm=>Bq (FX _) rfl ((c.drewN m).cells (E) oO)) rfl<|WQ.p (.fa Ay rfl DU dD rfl) rfl<|Db (λm=>Ae (Fg _) rfl v rfl) rfl<|WQ.p (.mv rfl) rfl<|WQ.p (.ixb Dy FH rfl rfl (c.isp oO) (b) (rfl) oO) rfl<|Db (λm=>Bq (FX _) rfl ((c.drewN m).cells (b) oO)) rfl<|WQ.p (.eqs rfl rfl) rfl<|CX (λan g=>?_)
 have a4:=AH.same (w1:=an) U (λk hk hl=>(by obtain ⟨m,rfl⟩:=g;rfl))
 have a5:=v.drew g
 have a6:=c.drew g
 have a7:=F.drew g
 have a8:=C6.below T g
 refine Ai rfl (λH=>?_) (λH=>?_)
 have a9:=dT H
 exact De ((List.nodup_iff_pairwise_ne.1 hnd |> List.pairwise_iff_getElem.1) E b oO oO oO) (λh=>h aS)
 have a9:=dF H
 refine Ap<|Am<|A3 rfl<|A1 (.iis (((E+1:Nat):Int)) (.add rfl rfl (Ba oO)) oO)<|A9 rfl ?_
 exact ⟨E+1,⟨rfl,rfl,rfl,rfl,rfl,tT⟩,⟨a8,a5,a6,a7,a4,oM⟩,oM⟩
 have a3:=dF G
 refine BF<|Am<|A3 rfl<|A1 (.iis (((b+1:Nat):Int)) (.add rfl rfl (Ba oO)) oO)<|A9 rfl ?_
 exact ⟨b+1,⟨rfl,rfl,rfl,rfl,tT⟩,⟨T,v,c,F,U,oM⟩,oM⟩
 have am:=dF h9
 refine BF<|Ad<|A4<|A1 (.fa Ay rfl Cr dD rfl)<|Ah (Ae (Dv _) rfl d rfl)<|A1 (.lenS C2 rfl)<|A1 (.bis (false) (.gtr rfl rfl) (by exact AJ oO))<|A0<|Aq rfl rfl<|Ap<|Ad<|A4<|A9 rfl<|AO<|BM (α:=Nat) (λt=>[(1,Af D),(3,ptV y),(14,Af (t:Int))]) (λt w'=>AL w w'/\B0 w' y #[Af 9,Af 0,.string (bs []),.slice kp keys.length kc,.slice lp cs.length lc,.slice dp data.length dc] 27/\AG EN w' lp cs/\AH w' S cs list/\t<=cs.length) (λt=>cs.length-t) (0) ⟨rfl,rfl,rfl,tT⟩ (⟨P,d,C,Q,FI _⟩) (λt w1 hR=>?_)
 obtain ⟨A,rfl⟩:=eX t
 obtain ⟨V,J,o,X,aw⟩:=hR
 refine Ad<|A4<|A3 rfl<|A1 (.fa Ay rfl Cr dD rfl)<|Ah (Ae (Dv _) rfl J rfl)<|A1 (.lenS C2 rfl)<|A1 (.lss rfl rfl)<|A0<|Ai rfl (λK=>?_) (λK=>?_)
 have aa:=dT K
 refine Ap<|Ad<|AO<|A4<|A1 (.fa Ay rfl Cr dD rfl)<|Ah (Ae (Dv _) rfl J rfl)<|A3 rfl<|A1 (.ixm C2 CU rfl rfl (o.isp oO) (A) (rfl) oO)<|Ah (Dz Ay rfl Al o (A) oO rfl)<|A3 rfl<|A1 (.sub rfl rfl (Ba oO))<|Ao (ih A oO oO _ ((X).sub A oO oO)) (λao s=>?_)
 have ab:=AH.same (w1:=ao) X (λk hk hl=>s.block k hl)
 have ac:=J.bl s
 have ad:=DW o s (λl=>o.lt l)
 have ae:=Ci V s
 refine A1 (.not rfl)<|A0<|Aq rfl rfl<|Ap<|Am<|A3 rfl<|A1 (.iis (((A+1:Nat):Int)) (.add rfl rfl (Ba oO)) oO)<|A9 rfl ?_
 exact ⟨A+1,⟨rfl,rfl,rfl,tT⟩,⟨ae,ac,ad,ab,oM⟩,oM⟩
 have aa:=dF K
 refine BF<|A4<|A9 rfl<|AW ?_
 exact ⟨rfl,V⟩
 exact De (show (false:Bool)=true by assumption) dD
mutual
/-- objects of these kinds alone -/
def SM:AV->Prop
 | .mk k _ _ _ l _=>(k=2\/k=4\/k=6\/k=7\/k=8\/k=9)/\KnL l
def KnL:List AV->Prop
 | []=>True
 | o::r=>SM o/\KnL r
end
theorem SM.mem:∀ {l:List AV},KnL l->∀ o∈l,SM o
 | [],_,_,h=>by cases h
 | a::r,h,o,ho=>by
  rcases A6.1 ho with rfl | ho
  · exact h.1
  · exact SM.mem h.2 o ho
theorem We  {o:AV} (hS:FY D st o):SM o->D<=100->∀ (x:AC) (S:Nat->Prop) (w:World),AB w S x o ->
  Cb 41 #[.agg (DN x).toArray,Af D,.bool st] w (.bool true):=by
 induction hS with
 | null D st=>exact λh=>by simp [SM] at h
 | bool D st n h=>exact λh=>by simp [SM] at h
 | text D st t h=>exact λh=>by simp [SM] at h
 | num D st k n hk h =>
  intro hK hD x S w hx
  obtain ⟨keys,list,data,cs,a,ok,-,-,-,-,-,-,-,b,-⟩:=hx.inv
  obtain ⟨u,v,y,kp,kl,kc,lp,ll,lc,dp,dl,dc⟩:=x
  have c:=ok.kl;have f:=ok.ll;have g:=ok.dl
  simp only at c f g a
  obtain ⟨rfl,rfl,rfl,rfl,rfl,rfl⟩:=AV.mk.inj a
  obtain rfl:=Dk b
  subst c;subst f;subst g
  rcases hk with rfl | rfl
  · exact A34 _ _ _ _ _ _ _ _ _ _ h
  · simp [SM] at hK
 | name D st t h =>
  intro hK hD x S w hx
  obtain ⟨keys,list,data,cs,a,ok,-,-,-,-,-,-,-,b,-⟩:=hx.inv
  obtain ⟨u,v,y,kp,kl,kc,lp,ll,lc,dp,dl,dc⟩:=x
  have c:=ok.kl;have f:=ok.ll;have g:=ok.dl
  simp only at c f g a
  obtain ⟨rfl,rfl,rfl,rfl,rfl,rfl⟩:=AV.mk.inj a
  obtain rfl:=Dk b
  subst c;subst f;subst g
  exact A33 _ _ _ _ _ _ _ _ _ _ h
 | ref D st n h =>
  intro hK hD x S w hx
  obtain ⟨keys,list,data,cs,a,ok,-,-,-,-,-,-,-,b,-⟩:=hx.inv
  obtain ⟨u,v,y,kp,kl,kc,lp,ll,lc,dp,dl,dc⟩:=x
  have c:=ok.kl;have f:=ok.ll;have g:=ok.dl
  simp only at c f g a
  obtain ⟨rfl,rfl,rfl,rfl,rfl,rfl⟩:=AV.mk.inj a
  obtain rfl:=Dk b
  subst c;subst f;subst g
  exact A30 _ _ _ _ _ _ _ _ _ _ h
 | arr D st l h1 h2 h ih =>
  intro hK hD x S w hx
  obtain ⟨keys,list,data,cs,a,ok,-,-,-,hr,-,-,-,b,m⟩:=hx.inv
  obtain ⟨u,v,y,kp,kl,kc,lp,ll,lc,dp,dl,dc⟩:=x
  have c:=ok.kl;have f:=ok.ll;have g:=ok.dl
  simp only at c f g a hr
  obtain ⟨rfl,rfl,rfl,rfl,rfl,rfl⟩:=AV.mk.inj a
  subst c;subst f;subst g
  exact A32 _ _ _ _ _ _ _ _ cs _ S _ h1 hD oO hr ⟨b,m⟩ λi hi j q ha=>ih _ (AA j) (SM.mem hK.2 _ (AA j)) oO _ _ _ ha
 | dict D st k ks l d hk h1 h2 h3 h4 h5 h ih =>
  intro hK hD x S w hx
  obtain ⟨keys,list,data,cs,a,ok,-,s,-,hr,-,-,-,b,m⟩:=hx.inv
  obtain ⟨u,v,y,kp,kl,kc,lp,ll,lc,dp,dl,dc⟩:=x
  have c:=ok.kl;have f:=ok.ll;have g:=ok.dl
  simp only at c f g a hr s
  obtain ⟨rfl,rfl,rfl,rfl,rfl,rfl⟩:=AV.mk.inj a
  subst c;subst f;subst g
  have hi:∀ i (hi:i<cs.length) (j:i<l.length) q,AB q S cs[i] l[i]->_:=λi hi j q (ha:AB q S cs[i] l[i])=>ih _ (AA j) (SM.mem hK.2 _ (AA j)) (show D-1<=100 by omega) cs[i] S q ha
  rcases hk with ⟨rfl,rfl⟩ | ⟨rfl,rfl,hd,A⟩
  · exact A31 _ _ _ _ _ _ _ _ _ cs _ S _ h1 hD oO h3 h4 h5 s hr ⟨b,m⟩ hi
  · exact A2Z _ _ _ _ _ _ _ _ _ hd A cs _ S _ h1 hD oO h3 h4 h5 s hr ⟨b,m⟩ hi
theorem PT (x:AC) (o:AV) (S:Nat->Prop) (w:World) (h:AB w S x o) (hS:FY 32 true o) (hK:SM o) :
  Cb 19 #[.agg (DN x).toArray] w (.bool true):=by
 have m:AB w (λk=>k<w.heap.size) x o:=h.mono λk _ hk=>hk
 refine Ar func19 rfl ntmps19 ?_
 have c:=CN w
 refine A4<|WL.box rfl rfl (λs d f b a q=>?_)
 have g:=AB.same (w1:=d) m (λk hk hl=>a.other k oO)
 have i:=uB c f a
 refine A9 rfl<|A4<|Ah (Bk rfl b Ay rfl Al)<|Cm BK rfl rfl ((We hS hK dD x _ _ g)) (λt j=>?_)
 have l:=Ci i j
 refine A9 rfl<|AW ?_
 exact ⟨rfl,l⟩
end
section
def SJ (p:Option Addr) (n c:Nat):AC:=⟨6,0,[],none,0,0,p,n,c,none,0,0⟩
theorem A6A (n:Int):Tryz.prog.built 27 [(0,Af 2),(1,Af n)]=some (DN (CW (DK 2 n []))).toArray:=by kernel_rfl
theorem A6B (s:l8_):Tryz.prog.built 27 [(0,Af 4),(2,.string (bs s))]=some (DN (CW (DK 4 0 s))).toArray:=by kernel_rfl
theorem A6y (n:Int):Tryz.prog.built 27 [(0,Af 8),(1,Af n)]=some (DN (CW (DK 8 n []))).toArray:=by kernel_rfl
theorem A6D (p:Option Addr) (n c:Nat):Tryz.prog.built 27 [(0,Af 6),(4,.slice p n c)]=some (DN (SJ p n c)).toArray:=by kernel_rfl
def A2o (N:Nat) (k:l8_) (v:Value) (w:World):Prop:=∃ b,v=.slice (some ⟨b,0,none⟩) 1 1/\AG G8 w (some ⟨b,0,none⟩) [k]/\N<=b
theorem A2o.up  {k:l8_} (v:Value) (w w1:World) (h:A2o N k v w) (hb:AL w w1):A2o N k v w1:=by
 obtain ⟨b,c,a,d⟩:=h
 exact ⟨b,c,a.below hb λe=>a.lt e,d⟩
def A2n (N:Nat) (o:AC) (v:Value) (w:World):Prop:=∃ b,v=.slice (some ⟨b,0,none⟩) 1 1/\AG EN w (some ⟨b,0,none⟩) [o]/\N<=b
theorem A2n.up  {k:AC} (v:Value) (w w1:World) (h:A2n N k v w) (hb:AL w w1):A2n N k v w1:=by
 obtain ⟨b,c,a,d⟩:=h
 exact ⟨b,c,a.below hb λe=>a.lt e,d⟩
theorem In (n:Int) (w:World):Calls Tryz.prog 11 #[Af n] w λe w'=>e=.returned (.agg (DN (CW (DK 2 n []))).toArray)/\AL w w':=by
 refine Ar func11 rfl ntmps11 ?_
 have f:=CN w
 refine A4<|Bj Cz rfl (λm l g a b j=>?_)
 have h:=uB f g b
 refine A0<|A4<|A3 rfl<|?_
 refine A1 (.build rfl (A6A n)) ?_
 refine Ax rfl rfl a Al rfl rfl (λo c d k=>?_)
 have i:=BU h oO d
 refine A0<|AT (BI rfl rfl (Be c Ay rfl Al)  ?_)
 exact ⟨rfl,i⟩
theorem LC (s:l8_) (w:World):Calls Tryz.prog 8 #[.string (bs s)] w λe w'=>e=.returned (.agg (DN (CW (DK 4 0 s))).toArray)/\AL w w':=by
 refine Ar func8 rfl ntmps8 ?_
 have f:=CN w
 refine A4<|Bj Cz rfl (λm l g a b j=>?_)
 have h:=uB f g b
 refine A0<|A4<|A3 rfl<|?_
 refine A1 (.build rfl (A6B s)) ?_
 refine Ax rfl rfl a Al rfl rfl (λo c d k=>?_)
 have i:=BU h oO d
 refine A0<|AT (BI rfl rfl (Be c Ay rfl Al)  ?_)
 exact ⟨rfl,i⟩
theorem WB (n:Int) (w:World):Calls Tryz.prog 9 #[Af n] w λe w'=>e=.returned (.agg (DN (CW (DK 8 n []))).toArray)/\AL w w':=by
 refine Ar func9 rfl ntmps9 ?_
 have f:=CN w
 refine A4<|Bj Cz rfl (λm l g a b j=>?_)
 have h:=uB f g b
 refine A0<|A4<|A3 rfl<|?_
 refine A1 (.build rfl (A6y n)) ?_
 refine Ax rfl rfl a Al rfl rfl (λo c d k=>?_)
 have i:=BU h oO d
 refine A0<|AT (BI rfl rfl (Be c Ay rfl Al)  ?_)
 exact ⟨rfl,i⟩
theorem Tk (p:Option Addr) (n c:Nat) (w:World):Cb 10 #[.slice p n c] w (.agg (DN (SJ p n c)).toArray):=by
 refine Ar func10 rfl ntmps10 ?_
 have g:=CN w
 refine A4<|Bj Cz rfl (λo m h a b k=>?_)
 have i:=uB g h b
 refine A0<|A4<|A3 rfl<|?_
 refine A1 (.build rfl (A6D p n c)) ?_
 refine Ax rfl rfl a Al rfl rfl (λq d f l=>?_)
 have j:=BU i oO f
 refine A0<|AT (BI rfl rfl (Be d Ay rfl Al)  ?_)
 exact ⟨rfl,j⟩
structure Vv where
 k:l8_
 v:AC
def prV (x:Vv):List Value:=.string (bs x.k)::DN x.v
def prL:FW Vv:=⟨7,prV,dD,λ_=>rfl,λx u hu=>AN.1 (show (prV x).all Value.oneCell'=true from rfl) u hu⟩
theorem DA  {β:Type} {L:FW α} {L':FW β} {e':TypeId} {B':Nat} {v':Value} {l:List α} {l':List β} (h:AD L e B w v l) (h':AD L' e' B' w v' l') (he:e≠e'):∀ g,v.ownBlock=some g->v'.ownBlock≠some g:=λg hg hg'=>by
 rcases h with ⟨rfl,-⟩ | ⟨g1,cap,cur,rfl,-,h1,-⟩
 · cases hg
 ·
  rcases h' with ⟨rfl,-⟩ | ⟨g2,cap2,cur2,rfl,-,h2,-⟩
  · cases hg'
  ·
   cases hg
   cases hg'
   rw [h1] at h2
   simp only [BN,Obj.cells.injEq] at h2
   exact he h2.2.1
theorem A7o:Tryz.prog.built 27 [(0,Af 7)]=some #[Af 7,Af 0,.string (bs []),.slice none 0 0,.slice none 0 0,.slice none 0 0]:=by kernel_rfl
theorem TY  {β:Type} (f:α->β) (l:List α) (i:Nat) (h:i<l.length):(l.take i).map f++[f l[i]]=(l.take (i+1)).map f:=by rw [Bg h,E9];rfl
theorem Qo (p:Option Addr) (prs:List Vv) (c:Nat) (w:World) (hr:AG prL w p prs) (hl:prs.length<=100) :
  Calls Tryz.prog 7 #[.slice p prs.length c] w λe w'=>∃ z:(Option Addr × Nat) × (Option Addr × Nat),e=.returned (.agg #[Af 7,Af 0,.string (bs []),.slice z.1.1 prs.length z.1.2,.slice z.2.1 prs.length z.2.2,.slice none 0 0])/\AL w w' /\
   AD G8 9 w.heap.size w' (.slice z.1.1 prs.length z.1.2) (prs.map Vv.k)/\AD EN 27 w.heap.size w' (.slice z.2.1 prs.length z.2.2) (prs.map Vv.v):=by
 refine Ar func7 rfl ntmps7 ?_
 have be:=CN w
 refine A4<|Bj Cz rfl (λb1 bU av a1 a2 bT=>?_)
 have az:=λd=>av▸hr.lt d
 have aw:=AG.upd hr a2 (λd=>CR (az d))
 have bf:=uB be av a2
 refine A0<|?_
 refine A4<|A1 (.build rfl A7o) ?_
 refine Bj Cz rfl (λs bV A V q a3=>?_)
 have bg:=Bl A a1.lt
 have bh:=a1.un q bg
 have E:=λd=>A▸aw.lt d
 have bi:=AG.upd aw q (λd=>CR (E d))
 have aA:=uB bf A q
 refine Ax rfl rfl V Al rfl rfl (λbj ag F bK=>?_)
 have aB:=bh.up F
 have a4:=AG.upd bi F (λd=>CR (E d))
 have a5:=BU aA oO F
 refine A0<|Ad<|A4<|A9 rfl<|AO ?_
 obtain ⟨LB,ax⟩:=eX ((bj).heap.size)
 have G:w.heap.size<=LB:=by rw [ax];exact (a5).size
 have ay:0<prs.length->(pA p).block<LB:=λd=>by have:=(a4).lt d;omega
 refine BM (α:=Nat × Value × Value) (λt=>[(0,.slice p prs.length c),(2,ptV b1),(3,ptV s),(4,Af (t.1:Int))]) (λt w'=>AL w w'/\B0 w' b1 (DN (CW (DK 0 0 []))).toArray 27/\B0 w' s #[Af 7,Af 0,.string (bs []),t.2.1,t.2.2,.slice none 0 0] 27/\AG prL w' p prs/\AD G8 9 LB w' t.2.1 ((prs.take t.1).map Vv.k)/\AD EN 27 LB w' t.2.2 ((prs.take t.1).map Vv.v)/\t.1<=prs.length/\LB<=w'.heap.size) (λt=>prs.length-t.1) ((0,.slice none 0 0,.slice none 0 0)) ⟨rfl,rfl,rfl,rfl,tT⟩ (⟨a5,aB,ag,a4,AD.nil _ _ _ _,AD.nil _ _ _ _,FI _,Nat.le_of_eq ax⟩) (λt w1 hR=>?_)
 obtain ⟨⟨m,kv,lv⟩,bk⟩:=eX t
 subst bk
 obtain ⟨q1,q2,q3,q4,u,B,q7,a6⟩:=hR
 simp only at q3 u B q7
 refine Ad<|A4<|A3 rfl<|A3 rfl<|A1 (.lenS SP rfl)<|A1 (.lss rfl rfl)<|A0<|Ai rfl (λa7=>?_) (λa7=>?_)
 have aC:=dT a7
 refine Ap<|Ad<|AO<|Ad<|Fe 11 rfl BR (λbW j=>?_)
 have ah:=Fn a6 j
 have aD:=AD.drew u j
 have ai:=Fn a6 j
 have aE:=AD.drew B j
 have a8:=q2.drew j
 have H:=q3.drew j
 have C:=q4.drew j
 have aF:=C6.below q1 j
 refine AI 0 rfl (.fa Ay rfl DU dD rfl) rfl<|AI 2 rfl (.mv rfl) rfl<|AI 3 rfl (.mv rfl) rfl<|AI 4 rfl (.ixm SP U5 rfl rfl (C.isp oO) (m) (rfl) oO) rfl<|AI 5 rfl (.fa underlying31 rfl FH dD rfl) rfl<|Ka [(0,.slice p prs.length c),(2,ptV b1),(3,ptV s),(4,Af (m:Int)),(12,_),(17,_)] [⟨1,13,[],(λv _=>v=kv),false⟩,⟨6,18,[],(λv _=>v=.string (bs (prs[m]'oO).k)),false⟩,⟨7,19,[(6,18)],(A2o LB (prs[m]'oO).k),false⟩] 3 ⟨rfl,rfl,rfl,rfl,rfl,rfl,tT⟩ rfl kR ⟨⟨(λ_ _ _ h _=>h),λh=>nomatch h⟩,⟨(λ_ _ _ h _=>h),λh=>nomatch h⟩,⟨A2o.up,λh=>nomatch h⟩,tT⟩ ⟨?_,?_,?_,tT⟩ (λg bX hs a hE hA=>?_)
 intro K g w1 hs a hd k
 have b:FL [(12,_)] g:=⟨hs.look rfl,tT⟩
 refine ⟨_,rfl,WL.front _ b ?_⟩
 refine Ah (Ae (Fg _) rfl (H.below a H.lt) rfl)<|A0<|?_
 exact k _ _ _ (Es.front b) rfl (Gb _ _) (λh=>nomatch h)
 intro K g w1 hs a hd k
 have b:FL [(17,_)] g:=⟨hs.look rfl,tT⟩
 refine ⟨_,rfl,WL.front _ b ?_⟩
 refine Ah (Bq (FX _) rfl ((((C).below a (λd=>(C).lt d)).field m oO 0 dD).trans rfl))<|A0<|?_
 exact k _ _ _ (Es.front b) rfl (Gb _ _) (λh=>nomatch h)
 intro K g w1 hs a hd k
 obtain ⟨⟨bl,bm,bn⟩,-⟩:=hd
 have b:FL [(18,bl)] g:=⟨bm,tT⟩
 refine ⟨_,rfl,WL.front _ b ?_⟩
 subst bn
 refine Cs (ps:=_) Dy FH ZL rfl rfl rfl rfl rfl pR rfl (λs w5 A V q a3=>A0<|?_)
 exact k _ _ _ (Es.front b) ⟨s,rfl,B3.rowS (B3.lit (l:=[_]) V rfl),by have:=a.size;have:=C6.size j;omega⟩ (BU (Gb _ _) (Nat.le_of_eq A.symm) q) (λh=>nomatch h)
 obtain ⟨⟨bo,bp,bq⟩,-,⟨bt,bu,bv⟩,-⟩:=hE
 refine WY.front [(13,bo),(19,bt),(0,.slice p prs.length c),(2,ptV b1),(3,ptV s),(4,Af (m:Int)),(12,_),(17,_)] ⟨bp,bu,hs.look rfl,hs.look rfl,hs.look rfl,hs.look rfl,hs.look rfl,hs.look rfl,tT⟩ ?_
 have aj:=C9 ah a.size
 have a9:=AD.below aD a
 have ak:=C9 ai a.size
 have X:=AD.below aE a
 have aG:=a8.below a a8.lt
 have aH:=H.below a H.lt
 have aI:=DW C a (λd=>C.lt d)
 have aJ:=Ci aF a
 subst bq
 obtain ⟨bY,rfl,aK,bL⟩:=bv
 refine Av 8 rfl<|BS Dy Ma rfl rfl rfl a9 rfl aK (by rw [By,At];simp only [Aa,Ak];omega) (aj) rfl (λh=>nomatch h) (λbZ b' J x am bM=>?_)
 have aL:=aG.below x oO
 have aM:=aH.below x oO
 have aa:=AD.same X (λg hg=>am.block g ((X).lt g hg).2 (λhx=>DA a9 X dD g hx.symm hg))
 have an:=C9 ak x.size
 have aN:=DW aI x ay
 have aO:=Ej aJ (x.mono (G))
 refine A0<|AI 9 rfl (.fa Ay rfl DU dD rfl) rfl<|Av 10 rfl<|Br DU rfl rfl (J).one aM (by exact Nat.le_of_ble_eq_true rfl) (λbw N f bN=>?_)
 have N:B0 bw s _ _:=N
 have f:CK s _ _:=f
 have aP:=GI J f ((λg hg e=>by have:=((J).lt g hg).1;omega))
 have ao:=C9 an f.size
 have aQ:=GI aa f ((λg hg e=>by have:=((aa).lt g hg).1;omega))
 have aR:=aL.up f
 have aS:=AG.upd aN f (λd=>CR (E d))
 have aT:=BU aO oO f
 refine A0<|Bn kR<|Fe 11 rfl BR (λc0 o=>?_)
 have aU:=AD.drew aP o
 have ap:=Fn ao o
 have aV:=AD.drew aQ o
 have ab:=aR.drew o
 have P:=N.drew o
 have D:=aS.drew o
 have aW:=C6.below aT o
 refine AI 0 rfl (.fa Ay rfl Cr dD rfl) rfl<|AI 2 rfl (.mv rfl) rfl<|AI 3 rfl (.mv rfl) rfl<|AI 4 rfl (.ixm SP U5 rfl rfl (D.isp oO) (m) (rfl) oO) rfl<|AI 5 rfl (.fa underlying31 rfl CU dD rfl) rfl<|Ka [(0,.slice p prs.length c),(2,ptV b1),(3,ptV s),(4,Af (m:Int)),(22,_),(27,_)] [⟨1,23,[],(λv _=>v=lv),false⟩,⟨6,28,[],(λv _=>v=.agg (DN (prs[m]'oO).v).toArray),false⟩,⟨7,29,[(6,28)],(A2n LB (prs[m]'oO).v),false⟩] 3 ⟨rfl,rfl,rfl,rfl,rfl,rfl,tT⟩ rfl kR ⟨⟨(λ_ _ _ h _=>h),λh=>nomatch h⟩,⟨(λ_ _ _ h _=>h),λh=>nomatch h⟩,⟨A2n.up,λh=>nomatch h⟩,tT⟩ ⟨?_,?_,?_,tT⟩ (λg c2 hs a hE hA=>?_)
 intro K g w1 hs a hd k
 have b:FL [(22,_)] g:=⟨hs.look rfl,tT⟩
 refine ⟨_,rfl,WL.front _ b ?_⟩
 refine Ah (Ae (Dv _) rfl (P.below a P.lt) rfl)<|A0<|?_
 exact k _ _ _ (Es.front b) rfl (Gb _ _) (λh=>nomatch h)
 intro K g w1 hs a hd k
 have b:FL [(27,_)] g:=⟨hs.look rfl,tT⟩
 refine ⟨_,rfl,WL.front _ b ?_⟩
 refine Ah (A5A (L':=EN) Ay rfl Al ((D).below a (λd=>(D).lt d)) m oO 1 ((prs[m]'oO).v) rfl rfl)<|A0<|?_
 exact k _ _ _ (Es.front b) rfl (Gb _ _) (λh=>nomatch h)
 intro K g w1 hs a hd k
 obtain ⟨⟨bz,bA,bB⟩,-⟩:=hd
 have b:FL [(28,bz)] g:=⟨bA,tT⟩
 refine ⟨_,rfl,WL.front _ b ?_⟩
 subst bB
 refine Cq (L:=EN) (ps:=_) ([(prs[m]'oO).v]) C2 CU Cz rfl rfl rfl rfl rfl (by rfl) rfl rfl (λs w5 A aX q a3=>A0<|?_)
 exact k _ _ _ (Es.front b) ⟨s,rfl,aX.rowp,by have:=a.size;have:=C6.size o;omega⟩ (BU (Gb _ _) (Nat.le_of_eq A.symm) q) (λh=>nomatch h)
 obtain ⟨⟨bC,bD,bE⟩,-,⟨bG,bH,bI⟩,-⟩:=hE
 refine WY.front [(23,bC),(29,bG),(0,.slice p prs.length c),(2,ptV b1),(3,ptV s),(4,Af (m:Int)),(22,_),(27,_)] ⟨bD,bH,hs.look rfl,hs.look rfl,hs.look rfl,hs.look rfl,hs.look rfl,hs.look rfl,tT⟩ ?_
 have Y:=AD.below aU a
 have a0:=C9 ap a.size
 have ac:=AD.below aV a
 have aY:=ab.below a ab.lt
 have aZ:=P.below a P.lt
 have a':=DW D a (λd=>D.lt d)
 have b0:=Ci aW a
 subst bE
 obtain ⟨c3,rfl,b2,bO⟩:=bI
 refine Av 8 rfl<|BS C2 EZ rfl rfl rfl ac rfl b2 (by rw [By,At];simp only [Aa,Ak];omega) (a0) rfl (λh=>nomatch h) (λc4 c5 Q y aq bP=>?_)
 have b3:=aY.below y oO
 have b4:=aZ.below y oO
 have ad:=AD.same Y (λg hg=>aq.block g ((Y).lt g hg).2 (λhx=>DA ac Y dD g hx.symm hg))
 have b6:=DW a' y ay
 have b7:=Ej b0 (y.mono (G))
 have ar:=C9 a0 y.size
 refine A0<|AI 9 rfl (.fa Ay rfl Cr dD rfl) rfl<|Av 10 rfl<|Br Cr rfl rfl (Q).one b4 (by exact Nat.le_of_ble_eq_true rfl) (λbJ T i bQ=>?_)
 have T:B0 bJ s _ _:=T
 have i:CK s _ _:=i
 have b8:=GI ad i ((λg hg e=>by have:=((ad).lt g hg).1;omega))
 have bR:=C9 ar i.size
 have b9:=GI Q i ((λg hg e=>by have:=((Q).lt g hg).1;omega))
 have ba:=b3.up i
 have bb:=AG.upd b6 i (λd=>CR (E d))
 have bc:=BU b7 oO i
 refine A0<|Bn kR<|Am<|A3 rfl<|A1 (.iis (((m+1:Nat):Int)) (.add rfl rfl (Ba oO)) oO)<|A9 rfl ?_
 exact ⟨(m+1,_,_),⟨rfl,rfl,rfl,rfl,tT⟩,⟨bc,ba,T,bb,by rw [<- TY _ _ _ oO];exact b8,by rw [<- TY _ _ _ oO];exact b9,oM,oM⟩,oM⟩
 have aC:=dF a7
 refine BF<|Ad ?_
 obtain ⟨kp,kc,rfl,-⟩:=u.row
 obtain ⟨lp,lc,rfl,-⟩:=B.row
 refine Am<|Ah (Bk rfl q3 Ay rfl Al)<|Ax rfl rfl q2 Al rfl rfl (λc6 au U bS=>?_)
 have ae:=GI u U ((λg hg e=>by have:=((u).lt g hg).1;omega))
 have af:=GI B U ((λg hg e=>by have:=((B).lt g hg).1;omega))
 have bd:=BU q1 oO U
 refine A0<|AT (BI rfl rfl (Be au Ay rfl Al)  ?_)
 have e0:prs.take m=prs:=An oO
 have h1:=AD.base ae (λg hg=>C9 G ((ae).lt g hg).1)
 have h2:=AD.base af (λg hg=>C9 G ((af).lt g hg).1)
 simp only [e0,By] at h1 h2 ⊢
 exact ⟨((kp,kc),(lp,lc)),rfl,bd,h1,h2⟩
end
section
open Go.RowKit Go.WideShapes Go.ChangeShapes
section
variable {bv bp:Nat} {w:World}
theorem A5U (fs:List Jf) (hfs:FtX fs) (pf:Option Addr) (cf:Nat) (fn sz:Int) (lo:Bool) (te li:M6) (p:Option Addr) (c:Nat) (itv:Value) (x y:PC) (hx4:x.kind=4) (hxt:x.text=[88]) (hy2:y.kind=2) (hy1:y.n=1)
  (h:B0 w bv (It (vh (.slice pf fs.length cf) bp fn sz true lo te li (.slice p 2 c) itv)).toArray 215) (hf:AG Vt w pf fs) (hfb:0<fs.length->(pA pf).block≠bv) (har:AG KE w p [x,y]) :
  Calls Tryz.prog 190 #[ptV bv,.string (bs [84,102])] w (VnE bv w (chX fs) λH _=>∃ k,fs=[⟨[88],k⟩]/\H=vh (.slice pf fs.length cf) bp k 65536 true lo te li (.slice p 2 c) itv):=by
 refine Ar func190 rfl ntmps190 ?_
 have i:=AR.refl w.heap.size ([bv]) w
 refine A4<|A3 rfl<|A1 (.nck rfl)<|A1 (.fa CJ rfl RX dD rfl)<|Ah (Ae (g4_ _) rfl h rfl)<|A3 rfl<|A1 (.nes rfl rfl)<|A1 (.bis (true) (.eqb u4_ rfl rfl) (by rfl))<|C1 BK rfl rfl ((Gg _ _)) (λA t e a=>?_) (λB t e a=>?_)
 exact De (Fp e).1 (show ¬ (true=false) by decide)
 have j:=h.bl a
 have l:=DW har a (λg=>har.lt g)
 have m:=DW hf a (λg=>hf.lt g)
 have d:=kB i a
 refine A0<|A4<|A3 rfl<|A0<|AO<|A4<|A1 (.eqs rfl rfl)<|A1 (.bis (false) (.as rfl) dD)<|A0<|Aq rfl rfl<|A4<|A1 (.eqs rfl rfl)<|A1 (.bis (false) (.as rfl) dD)<|A0<|Aq rfl rfl<|A4<|A1 (.eqs rfl rfl)<|A1 (.bis (true) (.as rfl) dD)<|A0<|BQ rfl rfl<|Am<|A3 rfl<|Eg BK rfl rfl ((Yl bv bp fs hfs pf cf fn sz lo te li p c itv x y hx4 hxt hy2 hy1 _ j m hfb l)) (λo u b f=>?_) (λC v u b f=>?_)
 exact Bt (GN o b (Dl d (C7 f d.size (by simp))))
 have q:=b
 obtain ⟨rfl,hK,hS⟩:=f
 have s:=Dl d (C7 hK d.size (by simp))
 refine A0<|Cx (Cd rfl ?_)
 exact JC _ _ q rfl ⟨rfl,s,hS⟩
theorem A5T (fo:Value) (k:Int) (hk:0<=k) (li:M6) (p:Option Addr) (c:Nat) (x:PC) (hx5:x.kind=5) (hxt:x.text=[97]) (h:B0 w bv (It (vh fo bp k 65536 true false I2 li (.slice p 1 c) (.slice none 0 0))).toArray 215) (har:AG KE w p [x]) (hab:(pA p).block≠bv) :
  Calls Tryz.prog 190 #[ptV bv,.string (bs [84,106])] w (VnE bv w (.ok ()) λH w'=>∃ y:Bool × M6 × GY × Option Addr × Nat,H=vh fo bp k 65536 true y.1 y.2.1 li (.slice p 1 c) (.slice y.2.2.2.1 1 y.2.2.2.2)/\Itm w.heap.size y.2.2.1 y.2.2.2 w'/\y.2.2.1.fFont=k):=by
 refine Ar func190 rfl ntmps190 ?_
 have i:=AR.refl w.heap.size ([bv]) w
 refine A4<|A3 rfl<|A1 (.nck rfl)<|A1 (.fa CJ rfl RX dD rfl)<|Ah (Ae (g4_ _) rfl h rfl)<|A3 rfl<|A1 (.nes rfl rfl)<|A1 (.bis (true) (.eqb u4_ rfl rfl) (by rfl))<|C1 BK rfl rfl ((Gg _ _)) (λv t b a=>?_) (λA t b a=>?_)
 exact De (Fp b).1 (show ¬ (true=false) by decide)
 have j:=h.bl a
 have l:=DW har a (λu=>har.lt u)
 have d:=kB i a
 refine A0<|A4<|A3 rfl<|A0<|AO<|A4<|A1 (.eqs rfl rfl)<|A1 (.bis (false) (.as rfl) dD)<|A0<|Aq rfl rfl<|A4<|A1 (.eqs rfl rfl)<|A1 (.bis (false) (.as rfl) dD)<|A0<|Aq rfl rfl<|A4<|A1 (.eqs rfl rfl)<|A1 (.bis (false) (.as rfl) dD)<|A0<|Aq rfl rfl<|A4<|A1 (.eqs rfl rfl)<|A1 (.bis (false) (.as rfl) dD)<|A0<|Aq rfl rfl<|A4<|A1 (.eqs rfl rfl)<|A1 (.bis (false) (.as rfl) dD)<|A0<|Aq rfl rfl<|Am<|A3 rfl<|Bf BK rfl rfl ((VC bv bp fo k hk li p c x hx5 hxt _ j l hab)) (λy B m=>?_)
 obtain ⟨hK,o,e,q⟩:=m
 have s:=Dl d (C7 hK d.size (by simp))
 have f:=(d).size
 refine A0<|Cx (Cd rfl ?_)
 exact JC _ _ rfl rfl ⟨rfl,s,_,o,y,rfl,AD.base e (λg hg=>C9 f (AD.lt e g hg).1),q⟩
def opX (op:l8_):Prop:=op=[66,84]\/op=[69,84]\/op=[84,102]\/op=[84,106]
theorem Xh (H:VwH) (op:l8_) (hop:opX op) (res:Except Int Unit) (S:VwH->World->Prop) (h:B0 w bv (It H).toArray 215)
  (hT:Calls Tryz.prog 190 #[ptV bv,.string (bs op)] w (VnE bv w res S)) :
  Calls Tryz.prog 166 #[ptV bv,.string (bs op)] w (VnE bv w res S):=by
 refine Ar func166 rfl ntmps166<|Ad<|A4<|A3 rfl<|A0<|AO<|Ad<|A4<|A1 (.bis (false) (.eqs rfl rfl) (by rcases hop with rfl | rfl | rfl | rfl <;> decide))<|A9 rfl<|Aq rfl rfl<|A4<|A1 (.bis (false) (.eqs rfl rfl) (by rcases hop with rfl | rfl | rfl | rfl <;> decide))<|A9 rfl<|Aq rfl rfl<|A4<|A1 (.bis (false) (.eqs rfl rfl) (by rcases hop with rfl | rfl | rfl | rfl <;> decide))<|A9 rfl<|Aq rfl rfl<|A4<|A1 (.bis (false) (.eqs rfl rfl) (by rcases hop with rfl | rfl | rfl | rfl <;> decide))<|A9 rfl<|Aq rfl rfl<|Am<|A1 (.bis (false) (.eqs rfl rfl) (by rcases hop with rfl | rfl | rfl | rfl <;> decide))<|A9 rfl<|Aq rfl rfl<|Ad<|A4<|A1 (.bis (false) (.eqs rfl rfl) (by rcases hop with rfl | rfl | rfl | rfl <;> decide))<|A9 rfl<|Aq rfl rfl<|A4<|A1 (.bis (false) (.eqs rfl rfl) (by rcases hop with rfl | rfl | rfl | rfl <;> decide))<|A9 rfl<|Aq rfl rfl<|A4<|A1 (.bis (false) (.eqs rfl rfl) (by rcases hop with rfl | rfl | rfl | rfl <;> decide))<|A9 rfl<|Aq rfl rfl<|A4<|A1 (.bis (false) (.eqs rfl rfl) (by rcases hop with rfl | rfl | rfl | rfl <;> decide))<|A9 rfl<|Aq rfl rfl<|A4<|A1 (.bis (false) (.eqs rfl rfl) (by rcases hop with rfl | rfl | rfl | rfl <;> decide))<|A9 rfl<|Aq rfl rfl<|Am<|A1 (.bis (false) (.eqs rfl rfl) (by rcases hop with rfl | rfl | rfl | rfl <;> decide))<|A9 rfl<|Aq rfl rfl<|Ad<|A4<|A1 (.eqs rfl rfl)<|A9 rfl<|Ai rfl (λm=>?_) (λm=>?_)
 have t:=dT m
 refine Ap<|BQ rfl m<|A4<|A3 rfl<|A3 rfl<|Eg BK rfl rfl (hT) (λB C d j=>?_) (λN P C d j=>?_)
 exact Bt (GN B d j)
 have a:=d
 obtain ⟨rfl,hS⟩:=j
 refine A0<|AT (Cd rfl  ?_)
 exact JC _ _ a rfl ⟨rfl,hS⟩
 have t:=dF m
 refine A4<|A1 (.eqs rfl rfl)<|A9 rfl<|Ai rfl (λo=>?_) (λo=>?_)
 have u:=dT o
 refine Ap<|BQ rfl o<|A4<|A3 rfl<|A3 rfl<|Eg BK rfl rfl (hT) (λD E e k=>?_) (λQ F E e k=>?_)
 exact Bt (GN D e k)
 have a:=e
 obtain ⟨rfl,hS⟩:=k
 refine A0<|AT (Cd rfl  ?_)
 exact JC _ _ a rfl ⟨rfl,hS⟩
 have u:=dF o
 refine A4<|A1 (.eqs rfl rfl)<|A9 rfl<|Ai rfl (λi=>?_) (λi=>?_)
 have q:=dT i
 refine Ap<|BQ rfl i<|A4<|A3 rfl<|A3 rfl<|Eg BK rfl rfl (hT) (λv x b f=>?_) (λG J x b f=>?_)
 exact Bt (GN v b f)
 have a:=b
 obtain ⟨rfl,hS⟩:=f
 refine A0<|AT (Cd rfl  ?_)
 exact JC _ _ a rfl ⟨rfl,hS⟩
 have q:=dF i
 refine A4<|A1 (.bis (false) (.eqs rfl rfl) (by rcases hop with rfl | rfl | rfl | rfl <;> decide))<|A9 rfl<|Aq rfl rfl<|A4<|A1 (.bis (false) (.eqs rfl rfl) (by rcases hop with rfl | rfl | rfl | rfl <;> decide))<|A9 rfl<|Aq rfl rfl<|Am<|A1 (.eqs rfl rfl)<|A9 rfl<|Ai rfl (λl=>?_) (λl=>?_)
 have s:=dT l
 refine A4<|A3 rfl<|A3 rfl<|Eg BK rfl rfl (hT) (λy A c g=>?_) (λK L A c g=>?_)
 exact Bt (GN y c g)
 have a:=c
 obtain ⟨rfl,hS⟩:=g
 refine A0<|AT (Cd rfl  ?_)
 exact JC _ _ a rfl ⟨rfl,hS⟩
 have s:=dF l
 rcases hop with h | h | h | h <;> contradiction
end
def U6:l8_:=[66,84,32,47,88,32,49,32,84,102,32,40,97,41,32,84,106,32,69,84]
def Wk (k:Nat):Nat:=[0,2,5,7,10,14,17,20].getD k 0
def wdK (k:Nat):l8_:=[[66,84],[],[],[84,102],[],[84,106],[69,84]].getD k []
def XK (k:Nat) (av:Value) (xs:List PC):Prop:=match k with
 | 2=>∃ x,xs=[x]/\x.kind=4/\x.text=[88]
 | 3=>∃ x y,xs=[x,y]/\x.kind=4/\x.text=[88]/\y.kind=2/\y.n=1
 | 5=>∃ x,xs=[x]/\x.kind=5/\x.text=[97]
 | _=>av=.slice none 0 0/\xs=[]
structure VK (fs:List Jf) (k:Nat) (fn sz:Int) (it lo:Bool) (te:M6) (itv:Value) (its:List GY):Prop where
 inT:it=decide (1<=k/\k<=6)
 text:1<=k->k<=5->lo=false/\te=I2
 font:4<=k->sz=65536/\fs=[⟨[88],fn⟩]/\0<=fn
 none:k<=5->itv=.slice none 0 0/\its=[]
 item:6<=k->∃ i,its=[i]/\i.fFont=fn
theorem A2A {bv bp LB:Nat} (k:Nat) (hk:k=0\/k=3\/k=5\/k=6) (fs:List Jf) (hfs:FtX fs) (pf:Option Addr) (cf:Nat) {fn sz:Int} {it lo:Bool} {te li:M6} {av itv:Value} {xs:List PC} {its:List GY}
  (hV:VK fs k fn sz it lo te itv its) (hX:XK k av xs) (h:B0 w bv (It (vh (.slice pf fs.length cf) bp fn sz it lo te li av itv)).toArray 215) (hf:AG Vt w pf fs) (hfb:0<fs.length->(pA pf).block≠bv)
  (ha:AD KE 27 LB w av xs) (hi:AD Jw 57 LB w itv its) (hb:bv<LB) (hL:LB<=w.heap.size) :
  Calls Tryz.prog 166 #[ptV bv,.string (bs (wdK k))] w (VnE bv w (if k=3 then chX fs else .ok ()) λH w'=>∃ fn sz it lo te li itv its,H=vh (.slice pf fs.length cf) bp fn sz it lo te li av itv/\AD Jw 57 LB w' itv its/\VK fs (k+1) fn sz it lo te itv its):=by
 have f:∀ {w':World},AR w.heap.size [bv] w w'->AD Jw 57 LB w' itv its:=λhK=>hi.keepB hK λg hg=>⟨(hi.lt g hg).2,by have:=(hi.lt g hg).1;simp only [B8];omega⟩
 obtain ⟨j,t,u,m,E⟩:=hV
 rcases hk with rfl | rfl | rfl | rfl
 ·
  obtain ⟨rfl,rfl⟩:av=.slice none 0 0/\xs=[]:=hX
  obtain rfl:it=false:=j
  refine Xh _ _ (.inl rfl) _ _ h ((A5W bv bp _ fn sz lo te li itv w h).mono λe w' q=>?_)
  obtain ⟨v,b,c,a,H,d,rfl⟩:=q
  exact ⟨v,b,c,a,_,d,fn,sz,true,false,I2,I2,itv,its,rfl,f a,⟨rfl,λ_ _=>⟨rfl,rfl⟩,λh=>by omega,λ_=>m oO,λh=>by omega⟩⟩
 ·
  obtain ⟨x,y,rfl,o,s,F,G⟩:∃ x y,xs=[x,y]/\x.kind=4/\x.text=[88]/\y.kind=2/\y.n=1:=hX
  obtain rfl:it=true:=j
  obtain ⟨pa,ca,rfl,i,-⟩:=ha.row
  refine Xh _ _ (.inr (.inr (.inl rfl))) _ _ h ((A5U fs hfs pf cf fn sz lo te li pa ca itv x y o s F G h hf hfb i).mono λe w' q=>?_)
  rcases hfs with rfl | ⟨k,rfl,hk⟩
  · exact q
  ·
   obtain ⟨v,b,c,a,H,d,L,A,rfl⟩:=q
   cases A
   exact ⟨v,b,c,a,_,d,k,65536,true,lo,te,li,itv,its,rfl,f a,⟨rfl,λ_ _=>t oO oO,λ_=>⟨rfl,rfl,hk⟩,λ_=>m oO,λh=>by omega⟩⟩
 ·
  obtain ⟨x,rfl,o,s⟩:∃ x,xs=[x]/\x.kind=5/\x.text=[97]:=hX
  obtain rfl:it=true:=j
  obtain ⟨pa,ca,rfl,i,-⟩:=ha.row
  obtain ⟨-,-,-,-,B⟩:=ha.full
  have K:=ha.lt _ (B (by simp))
  obtain ⟨rfl,rfl⟩:=m oO
  obtain ⟨rfl,rfl⟩:=t oO oO
  obtain ⟨rfl,C,l⟩:=u oO
  refine Xh _ _ (.inr (.inr (.inr rfl))) _ _ h ((A5T _ fn l li pa ca x o s h i oO).mono λe w' q=>?_)
  obtain ⟨v,b,c,a,H,d,y,rfl,D,J⟩:=q
  exact ⟨v,b,c,a,_,d,fn,65536,true,y.1,y.2.1,li,_,[y.2.2.1],rfl,AD.base D (λg hg=>C9 hL (AD.lt D g hg).1),⟨rfl,λ_ h=>by omega,λ_=>⟨rfl,C,l⟩,λh=>by omega,λ_=>⟨_,rfl,J⟩⟩⟩
 ·
  obtain ⟨rfl,rfl⟩:av=.slice none 0 0/\xs=[]:=hX
  obtain rfl:it=true:=j
  refine Xh _ _ (.inr (.inl rfl)) _ _ h ((A5V bv bp _ fn sz lo te li itv w h).mono λe w' q=>?_)
  obtain ⟨v,b,c,a,H,d,rfl⟩:=q
  exact ⟨v,b,c,a,_,d,fn,sz,false,lo,te,li,itv,its,rfl,f a,⟨rfl,λ_ h=>by omega,λ_=>u oO,λh=>by omega,λ_=>E oO⟩⟩
def A6L (l:l8_) (k a:Nat):Prop:=(l=[]/\k=0/\a=0)\/(l=U6/\k<=7/\a=Wk k)
def TKo (k:Nat) (o:PV):Prop:=(k=1->pvK o=4/\pvT o=[88])/\(k=2->pvK o=2/\pvN o=1)/\(k=4->pvK o=5/\pvT o=[97])
theorem A60  {k a:Nat} (h:A6L l k a):((Jj l a).2.2.2=26/\(l=[]/\k=0\/l=U6/\k=7))\/(l=U6/\k<7/\(Jj l a).2.2.2=0/\(Jj l a).2.2.1=(Wk (k+1):Int)/\(Jj l a).2.1=wdK k/\TKo k (Jj l a).1):=by
  rcases h with ⟨rfl,rfl,rfl⟩ | ⟨rfl,h,rfl⟩
  · exact .inl ⟨by decide +kernel,.inl ⟨rfl,rfl⟩⟩
  · have : k = 0 ∨ k = 1 ∨ k = 2 ∨ k = 3 ∨ k = 4 ∨ k = 5 ∨ k = 6 ∨ k = 7 := by omega
    unfold TKo
    rcases this with rfl | rfl | rfl | rfl | rfl | rfl | rfl | rfl
    all_goals first
      | exact .inr ⟨rfl,dD,by decide +kernel,by decide +kernel,by decide +kernel,by decide +kernel⟩
      | exact .inl ⟨by decide +kernel,.inr ⟨rfl,rfl⟩⟩
theorem BP.kn  {Z:Nat->Prop} {x:PC} {o:PV} (h:BP w Z x o):pvK o=x.kind/\pvN o=x.n/\pvT o=x.text:=by
 cases h;exact ⟨rfl,rfl,rfl⟩
theorem A4z {k:Nat} (h:k<7) (hw:wdK k=[]):k=1\/k=2\/k=4:=by
 have:k=0\/k=1\/k=2\/k=3\/k=4\/k=5\/k=6:=by omega
 rcases this with rfl | rfl | rfl | rfl | rfl | rfl | rfl <;> first | omega | cases hw
theorem A5S {k:Nat} (h:k<7) (hw:¬ wdK k=[]):k=0\/k=3\/k=5\/k=6:=by
 have:k=0\/k=1\/k=2\/k=3\/k=4\/k=5\/k=6:=by omega
 rcases this with rfl | rfl | rfl | rfl | rfl | rfl | rfl <;> first | omega | exact De rfl hw
theorem XK.len {k:Nat} {av:Value} {xs:List PC} (h:XK k av xs):xs.length<=2:=by
 unfold XK at h
 split at h
 · obtain ⟨x,rfl,-⟩:=h;simp
 · obtain ⟨x,y,rfl,-⟩:=h;simp
 · obtain ⟨x,rfl,-⟩:=h;simp
 · rw [h.2];simp
theorem XK.push {k:Nat} {av av2:Value} {xs:List PC} {x:PC} {o:PV} {Z:Nat->Prop} (h:XK k av xs) (hk:k=1\/k=2\/k=4) (ho:TKo k o) (hp:BP w Z x o):XK (k+1) av2 (xs++[x]):=by
 obtain ⟨a,f,b⟩:=hp.kn
 obtain ⟨c,d,e⟩:=ho
 rcases hk with rfl | rfl | rfl
 ·
  obtain ⟨-,rfl⟩:av=.slice none 0 0/\xs=[]:=h
  exact ⟨x,rfl,a.symm.trans (c rfl).1,b.symm.trans (c rfl).2⟩
 ·
  obtain ⟨y,rfl,g,i⟩:∃ x,xs=[x]/\x.kind=4/\x.text=[88]:=h
  exact ⟨y,x,rfl,g,i,a.symm.trans (d rfl).1,f.symm.trans (d rfl).2⟩
 ·
  obtain ⟨-,rfl⟩:av=.slice none 0 0/\xs=[]:=h
  exact ⟨x,rfl,a.symm.trans (e rfl).1,b.symm.trans (e rfl).2⟩
theorem XK.none {k:Nat} (hk:k=0\/k=3\/k=5\/k=6):XK (k+1) (.slice none 0 0) []:=by
 rcases hk with rfl | rfl | rfl | rfl <;> exact ⟨rfl,rfl⟩
theorem VK.push {fs:List Jf} {k:Nat} {fn sz:Int} {it lo:Bool} {te:M6} {itv:Value} {its:List GY} (h:VK fs k fn sz it lo te itv its) (hk:k=1\/k=2\/k=4):VK fs (k+1) fn sz it lo te itv its:=by
 obtain ⟨a,b,c,d,e⟩:=h
 exact ⟨by rcases hk with rfl | rfl | rfl <;> exact a,λ_ _=>b oO oO,λ_=>c oO,λ_=>d oO,λ_=>by omega⟩
def A0h (l:l8_) (fs:List Jf):Except Int Unit:=if l=[] then .ok () else chX fs
theorem A4D {fs:List Jf} {k:Nat} {fn sz:Int} {it lo:Bool} {te:M6} {itv:Value} {its:List GY} (hk:l=[]/\k=0\/l=U6/\k=7) (h:VK fs k fn sz it lo te itv its):A0h l fs=.ok ()/\(l=[]/\itv=.slice none 0 0/\its=[]\/l=U6/\∃ i,its=[i]/\i.fFont=fn/\fs=[⟨[88],fn⟩]):=by
  rcases hk with ⟨rfl,rfl⟩ | ⟨rfl,rfl⟩
  · exact ⟨rfl,.inl ⟨rfl,h.none dD⟩⟩
  · obtain ⟨-, a, -⟩ := h.font dD
    obtain ⟨i,b,c⟩:=h.item dD
    exact ⟨by rw [a];rfl,.inr ⟨rfl,i,b,c,a⟩⟩
structure VS where
 k:Nat
 a:Nat
 fn:Int
 sz:Int
 it:Bool
 lo:Bool
 te:M6
 li:M6
 av:Value
 itv:Value
 xs:List PC
 its:List GY
theorem A2B {bv bp:Nat} (l:l8_) (hl:l=[]\/l=U6) (fs:List Jf) (hfs:FtX fs) (pf:Option Addr) (cf:Nat) (p:Option Addr) (c:Nat) (h:B0 w bv (It (vh (.slice pf fs.length cf) bp (-1) 0 false false Wy Wy (.slice none 0 0) (.slice none 0 0))).toArray 215)
  (hf:AG Vt w pf fs) (hfb:0<fs.length->(pA pf).block≠bv) (hb:Ag w p l) (hc:l.length<=c) (hpb:0<l.length->(pA p).block≠bv) :
  Calls Tryz.prog 148 #[ptV bv,.slice p l.length c] w (VnE bv w (A0h l fs) λH w'=>∃ t:VS,H=vh (.slice pf fs.length cf) bp t.fn t.sz false t.lo t.te t.li (.slice none 0 0) t.itv/\AD Jw 57 w.heap.size w' t.itv t.its/\(l=[]/\t.itv=.slice none 0 0/\t.its=[]\/l=U6/\∃ i,t.its=[i]/\i.fFont=t.fn/\fs=[⟨[88],t.fn⟩])):=by
 have eY:l.length<=20:=by rcases hl with rfl | rfl <;> decide
 have dt:=h.lt
 have eB:=DP w.heap.size
 have hP:∀ (w1:World) (a:Nat),Ag w1 p l->Calls Tryz.prog 164 #[.slice p l.length c,Af (a:Int)] w1 λe w'=>∃ x:PC,e=.returned (.tuple #[.agg (Wo x).toArray,.string (bs (Jj l a).2.1),Af (Jj l a).2.2.1,Af (Jj l a).2.2.2])/\AL w1 w'/\BP w' (λk=>w1.heap.size<=k) x (Jj l a).1:=λw1 a h1 =>
  Calls.mono (Q2 p l c a w1 h1 hc oO) λe w' q=>by
   obtain ⟨⟨x,h1,h2⟩,h3⟩:=q;exact ⟨x,h1,h3,h2⟩
 refine Ar func148 rfl ntmps148 ?_
 have dc:=AR.refl w.heap.size ([bv]) w
 refine Ad<|A4<|A9 rfl<|AO<|BM (α:=VS) (λt=>[(0,ptV bv),(1,.slice p l.length c),(4,Af (t.a:Int))]) (λt w'=>AR w.heap.size [bv] w w'/\B0 w' bv (It (vh (.slice pf fs.length cf) bp t.fn t.sz t.it t.lo t.te t.li t.av t.itv)).toArray 215/\Ag w' p l/\AG Vt w' pf fs/\AD KE 27 w.heap.size w' t.av t.xs/\AD Jw 57 w.heap.size w' t.itv t.its/\VK fs t.k t.fn t.sz t.it t.lo t.te t.itv t.its/\XK t.k t.av t.xs/\A6L l t.k t.a/\w.heap.size<=w'.heap.size) (λt=>7-t.k) (⟨0,0,-1,0,false,false,Wy,Wy,.slice none 0 0,.slice none 0 0,[],[]⟩) ⟨rfl,rfl,rfl,tT⟩ (⟨dc,h,hb,hf,AD.nil _ _ _ _,AD.nil _ _ _ _,⟨rfl,λh=>by simp at h,λh=>by simp at h,λ_=>⟨rfl,rfl⟩,λh=>by simp at h⟩,⟨rfl,rfl⟩,hl.imp (λh=>⟨h,rfl,rfl⟩) (λh=>⟨h,dD,rfl⟩),(dc).size⟩) (λt w1 hR=>?_)
 obtain ⟨⟨k,a,fn,sz,it,lo,te,li,av,itv,xs,its⟩,e7⟩:=eX t
 subst e7
 obtain ⟨j1,j2,j3,j4,j5,j6,j7,j8,j9,bB⟩:=hR
 simp only at j2 j5 j6 j7 j8 j9
 have bC:=λw1=>hP w1 a
 have hT:=A60 j9
 generalize Jj l a=T at bC hT
 obtain ⟨o,wd,nx,er⟩:=T
 simp only at bC hT
 have eZ:=j8.len
 have E:=j5.lt
 have aC:=j6.lt
 obtain ⟨par,car,ear,-⟩:=j5.row
 subst ear
 refine AO<|A4<|A3 rfl<|A3 rfl<|Bf BK rfl rfl ((bC _ j3)) (λx w1 a4=>?_)
 have du:=C9 bB a4.1.size
 have e8:=AD.below j5 a4.1
 have dv:=C9 bB a4.1.size
 have e9:=AD.below j6 a4.1
 have dd:=j2.bl a4.1
 have de:=DL j3 a4.1 (λb=>j3.lt b)
 have df:=DW j4 a4.1 (λb=>j4.lt b)
 have aD:=kB j1 a4.1
 have aR:=a4.2
 have eI:=a4.1.size
 refine A3 rfl<|A1 (.ext rfl rfl)<|A1 (.ext rfl rfl)<|A1 (.ext rfl rfl)<|A1 (.ext rfl rfl)<|Bj Cz rfl (λak eJ a9 cl G eC=>?_)
 have cm:=C9 du G.size
 have dw:=Fs e8 a9 G
 have cn:=C9 dv G.size
 have dx:=Fs e9 a9 G
 have dy:=Bl a9 dd.lt
 have dz:=dd.un G dy
 have aT:=λb=>a9▸de.lt b
 have dA:=Ce de G aT
 have aU:=λb=>a9▸df.lt b
 have dB:=AG.upd df G (λb=>CR (aU b))
 have bD:=CF a9 aD.size
 have dC:=Dl aD (GT G bD)
 refine Ax rfl rfl cl Al rfl rfl (λe' co J eD=>?_)
 have aV:=C9 cm J.size
 have bE:=GI dw J ((λg hg e=>by (have:=E g hg;omega)))
 have aW:=C9 cn J.size
 have aM:=GI dx J ((λg hg e=>by (have:=aC g hg;omega)))
 have a5:=dz.up J
 have ar:=Ce dA J aT
 have ac:=AG.upd dB J (λb=>CR (aU b))
 have a6:=Dl dC (by exact GT J oO)
 refine Ct rfl<|Ct rfl<|A9 rfl<|Ad<|A4<|A3 rfl<|A1 (.eql rfl rfl)<|A0<|Ai rfl (λbG=>?_) (λbG=>?_)
 have dE:=dT bG
 obtain ⟨-,dg⟩:=hT.resolve_right (λq=>by have:=q.2.2.1;omega)
 obtain ⟨⟨ea,rfl⟩,rfl⟩:(Value.slice par xs.length car=.slice none 0 0/\xs=[])/\it=false:=by rcases dg with ⟨-,rfl⟩ | ⟨-,rfl⟩ <;> exact ⟨j8,j7.inT⟩
 obtain ⟨eb,ec⟩:=A4D dg j7
 refine BF<|Am<|A3 rfl<|A1 (.nck rfl)<|A1 (.fa CJ rfl Cr dD rfl)<|Ah (Ae (Dv _) rfl a5 rfl)<|A1 (.lenS C2 rfl)<|A1 (.bis (true) (.eql rfl rfl) (by rfl))<|A3 rfl<|Az rfl<|A3 rfl<|Az rfl<|A1 (.nck rfl)<|Az rfl<|A1 (.fa CJ rfl sizeOf213 dD rfl)<|Az rfl<|Ah (Ae (isAgg213 _) rfl a5 rfl)<|Az rfl<|A1 (.lenS underlying213 rfl)<|Az rfl<|A1 (.bis (true) (.eql rfl rfl) (by rfl))<|A1 (.pkT rfl rfl rfl)<|A3 rfl<|Az rfl<|A3 rfl<|Az rfl<|A1 (.nck rfl)<|Az rfl<|A1 (.fa CJ rfl RX dD rfl)<|Az rfl<|Ah (Ae (g4_ _) rfl a5 rfl)<|Az rfl<|A1 (.bis (true) (.not rfl) (by rfl))<|A1 (.pkT rfl rfl rfl)<|C1 BK rfl rfl ((Gg _ _)) (λf0 ed aX aa=>?_) (λf1 ed aX aa=>?_)
 exact De (Fp aX).1 (show ¬ (true=false) by decide)
 have eF:=C9 aV aa.size
 have eG:=C9 aW aa.size
 have dG:=AD.below aM aa
 have dH:=a5.bl aa
 have dI:=kB a6 aa
 refine A0<|Cx (Cd rfl ?_)
 exact JC () _ eb rfl ⟨rfl,dI,_,dH,⟨k,a,fn,sz,false,lo,te,li,.slice none 0 0,itv,[],its⟩,by rw [ea],dG,ec⟩
 have dE:=dF bG
 obtain ⟨am,dh,rfl,rfl,rfl,aY⟩:=hT.resolve_left (λq=>by have:=q.1;omega)
 refine Ap<|Ad<|A4<|A3 rfl<|A1 (.bis (false) (.neq rfl rfl) dD)<|A0<|Aq rfl rfl<|Ap<|A4<|A3 rfl<|A9 rfl<|Ad<|A4<|A3 rfl<|A1 (.eqs rfl rfl)<|A0<|Ai rfl (λbH=>?_) (λbH=>?_)
 have dJ:=dT bH
 have ab:=A4z dh aS
 refine A4<|A3 rfl<|A1 (.nck rfl)<|A1 (.fa CJ rfl Cr dD rfl)<|Ah (Ae (Dv _) rfl a5 rfl)<|A1 (.lenS C2 rfl)<|A1 (.bis (true) (.lss rfl rfl) (by exact AP oO))<|C1 BK rfl rfl ((Xg _ _)) (λf2 di aZ P=>?_) (λf3 di aZ P=>?_)
 exfalso;have:=aZ;unfold U7 at this;cases this
 have cq:=C9 aV P.size
 have bI:=AD.below bE P
 have cr:=C9 aW P.size
 have dK:=AD.below aM P
 have dL:=a5.bl P
 have d:=co.bl P
 have dM:=DL ar P (λb=>ar.lt b)
 have dN:=DW ac P (λb=>ac.lt b)
 have dO:=kB a6 P
 refine A0<|Ad ?_
 have eK:=(d).lt
 have arl:=(bI).lt
 have eL:=h.lt
 refine D6 13 rfl BR (λw'=>w'.heap[ak]?=di.heap[ak]?/\True) (λf4 U=>?_)
 have a':=Fn cq U
 have bJ:=AD.drew bI U
 have b0:=Fn cr U
 have bK:=AD.drew dK U
 have ad:=dL.drew U
 have ae:=d.drew U
 have au:=dM.drew U
 have aw:=dN.drew U
 have ax:=Dl dO (OS U)
 have an:=Bs (ae.trans d.symm) Bi
 refine Ab 0 rfl (.mv rfl) an ?_
 refine Ab 1 rfl (.nck rfl) an ?_
 refine Ab 2 rfl (.fa CJ rfl Cr dD rfl) an ?_
 refine BX 4 rfl (λw' hw'=>Bk rfl ((hw'.1).trans d) Ay rfl Al) an rfl ?_
 refine FA 3 rfl 6 rfl ?_ ?_
 refine Ah (Ae (Dv _) rfl ad rfl)<|A0<|⟨an,?_⟩
 refine Ab 5 rfl (.lenS C2 rfl) an ?_
 refine AX 6 rfl<|Cq (L:=KE) (ps:=_) ([DK 0 0 []]) C2 CU Cz rfl rfl rfl rfl rfl (by rfl) rfl rfl (λee dP a7 ct D eH=>?_)
 have b1:=C9 a' D.size
 have bL:=Fs bJ a7 D
 have cu:=C9 b0 D.size
 have aN:=Fs bK a7 D
 have dQ:=Bl a7 ad.lt
 have dR:=ad.un D dQ
 have dS:=Bl a7 ae.lt
 have bM:=ae.un D dS
 have cw:=λb=>a7▸au.lt b
 have bN:=Ce au D cw
 have cy:=λb=>a7▸aw.lt b
 have bO:=AG.upd aw D (λb=>CR (cy b))
 have bP:=CF a7 ax.size
 have bQ:=Dl ax (GT D bP)
 have ef:ee<=dP.heap.size:=by omega
 refine A0<|⟨⟨(bM).trans (d).symm,tT⟩,?_⟩
 refine AX 7 rfl<|BS C2 EZ rfl rfl rfl bL rfl (ct).rowp oE (b1) rfl (λh=>De h (Z8 _ _)) (λf5 dj K b2 a3 b3=>?_)
 have bR:=dR.grown a3 (λe=>by have:=E _ e;omega)
 have aO:=bM.grown a3 (λe=>by have:=E _ e;omega)
 have aP:=AD.same aN (λg hg=>a3.block g ((aN).lt g hg).2 (λhx=>DA bL aN dD g hx.symm hg))
 have b4:=C9 cu b2.size
 have bS:=Ag.same (w1:=dj) bN (λb=>a3.block _ (bN.lt b) (λhx=>by have:=E _ hx.symm;have:=hb.lt;omega))
 have bT:=AG.same (w1:=dj) bO (λb=>a3.block _ (bO.lt b) (λhx=>by have:=E _ hx.symm;have:=hf.lt;omega))
 have bU:=Dl bQ (DZ a3 (λg hg=>.inr (E g hg).1) bQ.size)
 have b5:=C9 b1 b2.size
 obtain ⟨pv,cv,evv,-⟩:=(K).row
 subst evv
 have bV:=(K).rowp.isp (by rw [A8,Gz];omega)
 have eg:(xs++[DK 0 0 []]).length=xs.length+1:=A8
 have V:=(K).lt
 have af:=DA K aP dD
 refine A0<|?_
 have b6:=Bs (aO.trans d.symm) Bi
 refine ⟨b6,?_⟩
 refine Ab 8 rfl (.ixm C2 CU rfl rfl bV xs.length rfl oO) b6 ?_
 refine Ab 10 rfl (.nck rfl) b6 ?_
 refine Ab 11 rfl (.fa CJ rfl Cr dD rfl) b6 ?_
 refine FA 9 rfl 12 rfl ?_ ?_
 refine Kb (L:=KE) (x) (xs.length) K oO Al rfl rfl rfl (λf6 aE aF N b7=>?_)
 have eh:=(K).lt aE (by rw [aF];rfl)
 have F:(Value.slice pv (xs++[DK 0 0 []]).length cv).ownBlock=some aE:=by rw [aF];rfl
 have a0:=(V aE F).1
 have aQ:aE≠ak:=λe=>(b3 aE F).elim (λh1=>by have:=E _ h1;omega) (λh1=>by omega)
 have cz:=C9 b4 N.size
 have dU:=GI aP N ((λg hg e=>by (subst e;exact af _ F hg)))
 have dV:=bR.up N
 have bW:=aO.up N
 have dW:=Ag.upd bS N (λb=>by (have:=hb.lt b;have:=a0;omega))
 have dX:=AG.upd bT N (λb=>by (have:=hf.lt b;have:=a0;omega))
 have dY:=Dl bU (by exact GT N oO)
 have bX:=C9 b5 N.size
 refine A0<|⟨⟨(bW).trans (d).symm,tT⟩,?_⟩
 refine AX 12 rfl<|GP 43 ((It (vh (.slice pf fs.length cf) bp fn sz it lo te li (.slice pv (xs++[DK 0 0 []]).length cv) itv)).toArray) dV Cr (λeM bY j ei=>?_) (h1:=(b7).one)
 have ej:=C9 cz j.size
 have cA:=GI dU j ((λg hg e=>by (have:=aC g hg;omega)))
 have ek:=C9 bX j.size
 have cB:=GI b7 j ((λg hg e=>by (have:=(V g hg).1;omega)))
 have cC:=bW.up j
 have cD:=Ag.upd dW j (λb=>by exact hpb b)
 have cE:=AG.upd dX j (λb=>by exact hfb b)
 have b8:=Dl dY (by exact QY j (by simp))
 refine A0<|⟨⟨(cC).trans (d).symm,tT⟩,?_⟩
 refine BH kR<|BF ?_
 have a8:(xs++[DK 0 0 []]).set xs.length x=xs++[x]:=by rw [List.set_append_right _ _ (DP _),FG,List.set_cons_zero]
 have a1:=cB
 rw [a8] at a1
 exact ⟨⟨k+1,Wk (k+1),fn,sz,it,lo,te,li,.slice pv (xs++[DK 0 0 []]).length cv,itv,xs++[x],its⟩,⟨rfl,rfl,rfl,tT⟩,⟨b8,bY,cD,cE,a1,cA,j7.push ab,j8.push ab aY aR,.inr ⟨am,by show k+1<=7;omega,rfl⟩,(b8).size⟩,by show 7-(k+1)<7-k;omega⟩
 refine GP 43 ((It (vh (.slice pf fs.length cf) bp fn sz it lo te li (.slice pv (xs++[DK 0 0 []]).length cv) itv)).toArray) bR Cr (λeN bZ m el=>?_) (h1:=(K).one)
 have b':=C9 b5 m.size
 have b9:=GI K m ((λg hg e=>by (have:=(V g hg).1;omega)))
 have c0:=C9 b4 m.size
 have cF:=GI aP m ((λg hg e=>by (have:=aC g hg;omega)))
 have ba:=aO.up m
 have cG:=Ag.upd bS m (λb=>by exact hpb b)
 have cH:=AG.upd bT m (λb=>by exact hfb b)
 have cI:=Dl bU (by exact QY m (by simp))
 refine A0<|⟨⟨(ba).trans (d).symm,tT⟩,?_⟩
 refine AX 9 rfl<|Kb (L:=KE) (x) (xs.length) b9 oO Al rfl rfl rfl (λeO ag ao s c2=>?_)
 have e3:=(b9).lt ag (by rw [ao];rfl)
 have F:(Value.slice pv (xs++[DK 0 0 []]).length cv).ownBlock=some ag:=by rw [ao];rfl
 have a0:=(V ag F).1
 have aQ:ag≠ak:=λe=>(b3 ag F).elim (λh1=>by have:=E _ h1;omega) (λh1=>by omega)
 have em:=C9 c0 s.size
 have cJ:=GI cF s ((λg hg e=>by (subst e;exact af _ F hg)))
 have cK:=bZ.up s
 have cL:=ba.up s
 have cM:=Ag.upd cG s (λb=>by (have:=hb.lt b;have:=a0;omega))
 have cN:=AG.upd cH s (λb=>by (have:=hf.lt b;have:=a0;omega))
 have bb:=Dl cI (by exact GT s oO)
 have en:=C9 b' s.size
 refine A0<|⟨⟨(cL).trans (d).symm,tT⟩,?_⟩
 refine BH kR<|BF ?_
 have a8:(xs++[DK 0 0 []]).set xs.length x=xs++[x]:=by rw [List.set_append_right _ _ (DP _),FG,List.set_cons_zero]
 have a1:=c2
 rw [a8] at a1
 exact ⟨⟨k+1,Wk (k+1),fn,sz,it,lo,te,li,.slice pv (xs++[DK 0 0 []]).length cv,itv,xs++[x],its⟩,⟨rfl,rfl,rfl,tT⟩,⟨bb,cK,cM,cN,a1,cJ,j7.push ab,j8.push ab aY aR,.inr ⟨am,by show k+1<=7;omega,rfl⟩,(bb).size⟩,by show 7-(k+1)<7-k;omega⟩
 refine Cq (L:=KE) (ps:=_) ([DK 0 0 []]) C2 CU Cz rfl rfl rfl rfl rfl (by rfl) rfl rfl (λdZ cO X c3 f eo=>?_)
 have aG:=C9 a' f.size
 have bc:=Fs bJ X f
 have c4:=C9 b0 f.size
 have ay:=Fs bK X f
 have cP:=Bl X ad.lt
 have bd:=ad.un f cP
 have cQ:=Bl X ae.lt
 have be:=ae.un f cQ
 have c5:=λb=>X▸au.lt b
 have bf:=Ce au f c5
 have c6:=λb=>X▸aw.lt b
 have bg:=AG.upd aw f (λb=>CR (c6 b))
 have bA:=CF X ax.size
 have bh:=Dl ax (GT f bA)
 have e4:dZ<=cO.heap.size:=by omega
 refine A0<|?_
 have c7:=Bs (be.trans d.symm) Bi
 refine ⟨c7,?_⟩
 refine AX 3 rfl<|Ah (Ae (Dv _) rfl bd rfl)<|A0<|⟨c7,?_⟩
 refine Ab 5 rfl (.lenS C2 rfl) c7 ?_
 refine AX 7 rfl<|BS C2 EZ rfl rfl rfl bc rfl (c3).rowp oE (aG) rfl (λh=>De h (Z8 _ _)) (λeP c8 u aH Q aI=>?_)
 have bi:=bd.grown Q (λe=>by have:=E _ e;omega)
 have az:=be.grown Q (λe=>by have:=E _ e;omega)
 have aA:=AD.same ay (λg hg=>Q.block g ((ay).lt g hg).2 (λhx=>DA bc ay dD g hx.symm hg))
 have aJ:=C9 c4 aH.size
 have bj:=Ag.same (w1:=c8) bf (λb=>Q.block _ (bf.lt b) (λhx=>by have:=E _ hx.symm;have:=hb.lt;omega))
 have bk:=AG.same (w1:=c8) bg (λb=>Q.block _ (bg.lt b) (λhx=>by have:=E _ hx.symm;have:=hf.lt;omega))
 have bm:=Dl bh (DZ Q (λg hg=>.inr (E g hg).1) bh.size)
 have aK:=C9 aG aH.size
 obtain ⟨pv,cv,evv,-⟩:=(u).row
 subst evv
 have bV:=(u).rowp.isp (by rw [A8,Gz];omega)
 have eg:(xs++[DK 0 0 []]).length=xs.length+1:=A8
 have V:=(u).lt
 have af:=DA u aA dD
 refine A0<|?_
 have bn:=Bs (az.trans d.symm) Bi
 refine ⟨bn,?_⟩
 refine Ab 8 rfl (.ixm C2 CU rfl rfl bV xs.length rfl oO) bn ?_
 refine Ab 10 rfl (.nck rfl) bn ?_
 refine Ab 11 rfl (.fa CJ rfl Cr dD rfl) bn ?_
 refine FA 9 rfl 12 rfl ?_ ?_
 refine Kb (L:=KE) (x) (xs.length) u oO Al rfl rfl rfl (λeQ ah ap v aL=>?_)
 have e5:=(u).lt ah (by rw [ap];rfl)
 have F:(Value.slice pv (xs++[DK 0 0 []]).length cv).ownBlock=some ah:=by rw [ap];rfl
 have a0:=(V ah F).1
 have aQ:ah≠ak:=λe=>(aI ah F).elim (λh1=>by have:=E _ h1;omega) (λh1=>by omega)
 have c9:=C9 aJ v.size
 have cR:=GI aA v ((λg hg e=>by (subst e;exact af _ F hg)))
 have cS:=bi.up v
 have bo:=az.up v
 have cT:=Ag.upd bj v (λb=>by (have:=hb.lt b;have:=a0;omega))
 have cU:=AG.upd bk v (λb=>by (have:=hf.lt b;have:=a0;omega))
 have cV:=Dl bm (by exact GT v oO)
 have ca:=C9 aK v.size
 refine A0<|⟨⟨(bo).trans (d).symm,tT⟩,?_⟩
 refine AX 12 rfl<|GP 43 ((It (vh (.slice pf fs.length cf) bp fn sz it lo te li (.slice pv (xs++[DK 0 0 []]).length cv) itv)).toArray) cS Cr (λeR cb y ep=>?_) (h1:=(aL).one)
 have eq:=C9 c9 y.size
 have cW:=GI cR y ((λg hg e=>by (have:=aC g hg;omega)))
 have es:=C9 ca y.size
 have cX:=GI aL y ((λg hg e=>by (have:=(V g hg).1;omega)))
 have cY:=bo.up y
 have cZ:=Ag.upd cT y (λb=>by exact hpb b)
 have c':=AG.upd cU y (λb=>by exact hfb b)
 have bq:=Dl cV (by exact QY y (by simp))
 refine A0<|⟨⟨(cY).trans (d).symm,tT⟩,?_⟩
 refine BH kR<|BF ?_
 have a8:(xs++[DK 0 0 []]).set xs.length x=xs++[x]:=by rw [List.set_append_right _ _ (DP _),FG,List.set_cons_zero]
 have a1:=cX
 rw [a8] at a1
 exact ⟨⟨k+1,Wk (k+1),fn,sz,it,lo,te,li,.slice pv (xs++[DK 0 0 []]).length cv,itv,xs++[x],its⟩,⟨rfl,rfl,rfl,tT⟩,⟨bq,cb,cZ,c',a1,cW,j7.push ab,j8.push ab aY aR,.inr ⟨am,by show k+1<=7;omega,rfl⟩,(bq).size⟩,by show 7-(k+1)<7-k;omega⟩
 refine GP 43 ((It (vh (.slice pf fs.length cf) bp fn sz it lo te li (.slice pv (xs++[DK 0 0 []]).length cv) itv)).toArray) bi Cr (λeS cc B et=>?_) (h1:=(u).one)
 have cd:=C9 aK B.size
 have bt:=GI u B ((λg hg e=>by (have:=(V g hg).1;omega)))
 have cg:=C9 aJ B.size
 have d0:=GI aA B ((λg hg e=>by (have:=aC g hg;omega)))
 have bu:=az.up B
 have d1:=Ag.upd bj B (λb=>by exact hpb b)
 have d2:=AG.upd bk B (λb=>by exact hfb b)
 have d3:=Dl bm (by exact QY B (by simp))
 refine A0<|⟨⟨(bu).trans (d).symm,tT⟩,?_⟩
 refine AX 9 rfl<|Kb (L:=KE) (x) (xs.length) bt oO Al rfl rfl rfl (λeT ai aq C ci=>?_)
 have e6:=(bt).lt ai (by rw [aq];rfl)
 have F:(Value.slice pv (xs++[DK 0 0 []]).length cv).ownBlock=some ai:=by rw [aq];rfl
 have a0:=(V ai F).1
 have aQ:ai≠ak:=λe=>(aI ai F).elim (λh1=>by have:=E _ h1;omega) (λh1=>by omega)
 have eu:=C9 cg C.size
 have d4:=GI d0 C ((λg hg e=>by (subst e;exact af _ F hg)))
 have d5:=cc.up C
 have d6:=bu.up C
 have d7:=Ag.upd d1 C (λb=>by (have:=hb.lt b;have:=a0;omega))
 have d8:=AG.upd d2 C (λb=>by (have:=hf.lt b;have:=a0;omega))
 have bw:=Dl d3 (by exact GT C oO)
 have ev:=C9 cd C.size
 refine A0<|⟨⟨(d6).trans (d).symm,tT⟩,?_⟩
 refine BH kR<|BF ?_
 have a8:(xs++[DK 0 0 []]).set xs.length x=xs++[x]:=by rw [List.set_append_right _ _ (DP _),FG,List.set_cons_zero]
 have a1:=ci
 rw [a8] at a1
 exact ⟨⟨k+1,Wk (k+1),fn,sz,it,lo,te,li,.slice pv (xs++[DK 0 0 []]).length cv,itv,xs++[x],its⟩,⟨rfl,rfl,rfl,tT⟩,⟨bw,d5,d7,d8,a1,d4,j7.push ab,j8.push ab aY aR,.inr ⟨am,by show k+1<=7;omega,rfl⟩,(bw).size⟩,by show 7-(k+1)<7-k;omega⟩
 have dJ:=dF bH
 have dk:=A5S dh aS
 refine Ap<|A4<|A3 rfl<|A3 rfl<|Eg BK rfl rfl ((A2A k dk fs hfs pf cf j7 j8 a5 ac hfb bE aM dt (a6).size)) (λd' e0 aj aB=>?_) (λeU eV e0 aj aB=>?_)
 exact Bt (GN d' (by
  have h9:=aj;unfold A0h;rw [A2 (by rw [am];decide)]
  split at h9;exact h9;cases h9) (Dl a6 (C7 aB a6.size (by simp))))
 have f7:=aj
 obtain ⟨rfl,hK,H9,ew,dl,dm,dn,dp,dq,dr,cj,e1,rfl,ds,ex⟩:=aB
 have aD:=Dl a6 (C7 hK a6.size (by simp))
 have hb9:=Ag.keepB ar hK (λb=>⟨(ar).lt b,by have:=hpb b;simpa using this⟩)
 have ey:=NP ac hK (λb=>⟨(ac).lt b,by have:=hfb b;simpa using this⟩)
 have e2:=aD.size
 refine A0<|Am<|A3 rfl<|A1 (.nck rfl)<|A1 (.fa CJ rfl Cr dD rfl)<|GP 43 ((It (vh (.slice pf fs.length cf) bp dl dm dn dp dq dr (.slice none 0 0) cj)).toArray) ew Cr (λeW ck a2 ez=>?_)
 have eA:=C9 e2 a2.size
 have d9:=GI ds a2 ((λg hg e=>by (have:=(ds.lt g hg).1;omega)))
 have da:=Ag.upd hb9 a2 (λb=>by exact hpb b)
 have db:=AG.upd ey a2 (λb=>by exact hfb b)
 have bz:=Dl aD (by exact QY a2 (by simp))
 refine A0<|?_
 exact ⟨⟨k+1,Wk (k+1),dl,dm,dn,dp,dq,dr,.slice none 0 0,cj,[],e1⟩,⟨rfl,rfl,rfl,tT⟩,⟨bz,ck,da,db,AD.nil _ _ _ _,d9,ex,XK.none dk,.inr ⟨am,by show k+1<=7;omega,rfl⟩,(bz).size⟩,by show 7-(k+1)<7-k;omega⟩
end
section
theorem R5 (b4 b5 B:Nat) (v:Value) (j k:Int) (w:World) (h4:B0 w b4 #[v] 44) (h5:B0 w b5 #[Af j] 35) (hB1:B<=b4) (h45:b4<b5) :
  CallsD Tryz.prog 145 #[ptV b4,ptV b5] (.panicking [{ v:=.iface 35 (Af k),recovered:=false }]) w
   λe u' w'=>u'=.panicking [{ v:=.iface 35 (Af k),recovered:=true }]/\(∃ v,e=.returned v) /\
    B0 w' b4 #[.slice none 0 0] 44/\B0 w' b5 #[Af k] 35/\Below B w w':=by
 refine Eo func145 rfl ntmps145 bL rfl ?_
 have f:=Gb (B) w
 refine A0<|AO<|A4<|A1 (.eqNil kR rfl)<|A0<|Aq rfl rfl<|A4<|A1 (.tas Kr rfl)<|A1 (.ext rfl rfl)<|A1 (.ext rfl rfl)<|A0<|BQ rfl rfl<|A4<|A9 rfl<|Am<|A3 rfl<|Br Kl rfl rfl rfl h4 (by exact Nat.le_of_ble_eq_true rfl) (λm c a o=>?_)
 have c:B0 m b4 _ _:=c
 have a:CK b4 _ _:=a
 have g:=h5.upd a oM
 have h:=BU f oO a
 refine Br EJ rfl rfl rfl g (by exact Nat.le_of_ble_eq_true rfl) (λq d b s=>?_)
 have d:B0 q b5 _ _:=d
 have b:CK b5 _ _:=b
 have i:=c.up b
 have l:=BU h oO b
 refine A0<|Cx (Cd rfl ?_)
 exact ⟨⟨_,rfl⟩,i,d,l⟩
def UN (l:l8_) (fs:List Jf):Except Int (Option Int):=if l=[] then .ok none else match fs with
 | []=>.error 26
 | f::_=>.ok (some f.font)
def QX:Option Int->Option Addr->Nat->Nat->World->Prop
 | none,_,n,_,_=>n=0
 | some k,p,n,_,w=>n=1/\∃ i:GY,AG Jw w p [i]/\i.fFont=k
def A6R (w:World) (l:l8_) (fs:List Jf) (e:Ending) (w':World):Prop:=∃ t:(Option Addr × Nat × Nat) × Int,e=.returned (.tuple #[.slice t.1.1 t.1.2.1 t.1.2.2,Af t.2])/\AL w w' /\
 ∀ w2:World,(∀ k,w.heap.size<=k->k<w'.heap.size->w2.heap[k]?=w'.heap[k]?)->match UN l fs with | .error x=>t.2=x/\x≠0 | .ok a=>t.2=0/\QX a t.1.1 t.1.2.1 t.1.2.2 w2
theorem Xr  {fs:List Jf} {k:Int} (h:A0h l fs=.error k):UN l fs=.error k/\k≠0:=by
 unfold A0h at h
 split at h
 · cases h
 ·
  rename_i hl
  unfold chX at h
  split at h
  ·
   rename_i hf
   cases h;subst hf
   exact ⟨A2 hl,dD⟩
  · cases h
theorem A56  {fs:List Jf} {pi:Option Addr} {ci:Nat} {its:List GY} {fn:Int} (hr:AD Jw 57 w.heap.size w' (.slice pi its.length ci) its) (hB:AL w w')
  (h:l=[]/\Value.slice pi its.length ci=.slice none 0 0/\its=[]\/l=U6/\∃ i,its=[i]/\i.fFont=fn/\fs=[⟨[88],fn⟩]):A6R w l fs (.returned (.tuple #[.slice pi its.length ci,Af 0])) w':=by
 refine ⟨((pi,its.length,ci),0),rfl,hB,λc a=>?_⟩
 rcases h with ⟨rfl,-,rfl⟩ | ⟨rfl,i,rfl,rfl,rfl⟩
 · exact ⟨rfl,rfl⟩
 ·
  refine ⟨rfl,rfl,i,hr.rowp.same λb=>?_,rfl⟩
  obtain ⟨-,-,-,-,ho⟩:=hr.full
  have hl:=hr.lt _ (ho b)
  exact a _ hl.1 hl.2
theorem Ym (p:Option Addr) (l:l8_) (c:Nat) (hl:l=[]\/l=U6) (pf:Option Addr) (fs:List Jf) (cf:Nat) (hfs:FtX fs) (w:World) (hb:Ag w p l) (hc:l.length<=c) (hf:AG Vt w pf fs) :
    Calls Tryz.prog 115 #[.slice p l.length c,.slice pf fs.length cf] w (A6R w l fs):=by
  refine GQ func115 rfl ntmps115 bL ?_;have am:=CN w;refine WD.seq<|Am<|Bj zeroValue44 rfl (λb1 b3 J Q G aV=>?_);have ax:=λa=>J▸hb.lt a
  have an:=Ce hb G ax;have ay:=λa=>J▸hf.lt a
  have ao:=AG.upd hf G (λa=>CR (ay a));have ap:=uB am J G;have aN:=CF J am.size;refine Bj SN rfl (λb7 b4 F T B aW=>?_);have aF:=Bl F Q.lt;have aq:=Q.un B aF;have ac:=λa=>F▸an.lt a
  have U:=Ce an B ac;have ad:=λa=>F▸ao.lt a
  have V:=AG.upd ao B (λa=>CR (ad a));have X:=uB ap F B;have aO:=CF F ap.size;refine A0<|WD.defer rfl rfl<|Nz ?_;refine A4<|A1 (.build rfl Y7) ?_;refine Bj zeroValue50 rfl (λar aX j ae h aP=>?_);have az:=Bl j aq.lt;have aA:=Bl j T.lt;have K:=λa=>j▸U.lt a
  have N:=λa=>j▸V.lt a
  have aG:=CF j X.size;refine Ax rfl rfl ae OG rfl rfl (λaH b i aQ=>?_);refine A0<|Ad<|Lb<|D6 10 rfl BR (λw'=>w'.heap[ar]?=aH.heap[ar]?/\True) (λb5 m=>?_);have Y:=b.drew m;have Z:=(Ce (Ce U h K) i K).drew m;have a0:=(AG.upd (AG.upd V h (λa=>CR (N a))) i (λa=>CR (N a))).drew m;have P:=Bs (Y.trans b.symm) Bi;refine BX 1 rfl (λw' hw'=>I7 (L:=Oi) Yo rfl OG ((hw'.1).trans b) (JG 1) (rfl) rfl) P rfl ?_;refine BX 2 rfl (λw' hw'=>I7 (L:=Oi) Yo rfl OG ((hw'.1).trans b) (JG 1) (rfl) rfl) P rfl ?_;refine Ab 3 rfl (.build rfl A1V) P ?_;refine Ab 5 rfl (.mv rfl) P ?_;refine AX 0 rfl<|Ao (Im _) (λb6 o=>?_);have a1:=(((aq.un h az).up i).drew m).bl o;have a2:=(((T.un h aA).up i).drew m).bl o;have H:=Y.bl o;have a3:=DL Z o (λa=>Z.lt a);have a4:=DW a0 o (λa=>a0.lt a);refine A0<|⟨⟨(H).trans (b).symm,tT⟩,?_⟩;refine Ab 4 rfl (.build rfl A4r) ⟨(H).trans (b).symm,tT⟩ ?_;refine AX 6 rfl<|Bf BK rfl rfl ((Xv 4096 _ dD)) (λbp b8 q=>?_);have a5:=a1.bl q.1;have a6:=a2.bl q.1;have D:=H.bl q.1;have a7:=DL a3 q.1 (λa=>a3.lt a);have a8:=DW a4 q.1 (λa=>a4.lt a);have aa:=Ci (Ci (C6.below (BU (uB X j h) oO i) m) o) q.1;have b9:=(a1).lt;have ba:=(a2).lt;refine A0<|⟨⟨(D).trans (b).symm,tT⟩,?_⟩;refine Ab 7 rfl (.build rfl (A4q pf fs.length cf bp)) ⟨(D).trans (b).symm,tT⟩ ?_;refine AX 8 rfl<|WL.box rfl rfl (λbb aY f af d aR=>?_);have aB:=Bl f a5.lt;have u:=a5.un d aB;have aC:=Bl f a6.lt;have v:=a6.un d aC;have aD:=Bl f D.lt;have ab:=D.un d aD;have ag:=λa=>f▸a7.lt a
  have ah:=λa=>f▸a8.lt a
  have x:=uB aa f d;have aI:=CF f aa.size;refine A0<|⟨⟨(ab).trans (b).symm,tT⟩,?_⟩;refine Ab 9 rfl (.as rfl) ⟨(ab).trans (b).symm,tT⟩ ?_;refine BH kR<|A4<|A3 rfl<|A3 rfl<|Eg BK rfl rfl ((A2B l hl fs hfs pf cf p c af (AG.upd a8 d (λa=>CR (ah a))) (λa=>by have:=hf.lt a;omega) (Ce a7 d ag) hc (λa=>by have:=hb.lt a;omega))) (λau aJ E y=>?_) (λbc bd aJ E y=>?_);exact GR A1g (λw'=>_) (R5 b1 b7 w.heap.size _ _ au _ (B0.keepB u y (u).lt (by simp only [A6,A5,As];omega)) (B0.keepB v y (v).lt (by simp only [A6,A5,As];omega)) oO oO)
    (λw' hS=>⟨_,JH rfl rfl rfl (B5 hS.1 (O8 _) rfl) (B5 hS.2.1 (Ed _) rfl),((none,0,0),au),rfl,Ej x (Ej (AR.below y (x).size (by intro k hk;simp only [A6,A5,As] at hk;omega)) hS.2.2),λw2 _=>by rw [(Xr E).1];exact ⟨rfl,(Xr E).2⟩⟩)
  obtain ⟨rfl,hK,H9,av,⟨k9,a9,be,bf,bg,bh,bi,bj,bk,aZ,bm,a'⟩,rfl,A,aw⟩:=y;simp only at av A aw;obtain ⟨pi,ci,aK,-⟩:=A.row;subst aK;have aE:=hK.size;have b0:=(u).lt;have b2:=(v).lt;have aL:=(x).size;refine A0<|A4<|A3 rfl<|A1 (.nck rfl)<|A1 (.fa CJ rfl Kl dD rfl)<|Ah (Ae (O8 _) rfl av rfl)<|Cn (B0.keepB u hK (u).lt (by simp only [A6,A5,As];omega)) Kl (λbn ai s aS=>?_);have aj:=C9 aE s.size;refine Cn ((B0.keepB v hK (v).lt (by simp only [A6,A5,As];omega)).up s) EJ (λbo ak t aT=>?_);have aU:=C9 aj t.size;refine A0<|AT ?_;have aM:=AD.base (C:=w.heap.size) (GI (GI A s ((λg hg e=>by have:=(A.lt g hg).1;omega))) t ((λg hg e=>by have:=(A.lt g hg).1;omega))) (λg hg=>C9 aL (A.lt g hg).1);exact D1.ret A1g (λw'=>_) (N3 b1 b7 _) (λw' hS=>by
    subst hS;exact ⟨_,JH rfl rfl rfl (B5 (ai.up t) (O8 _) rfl) (B5 ak (Ed _) rfl),A56 aM (BU (BU (Ej x (hK.below x.size (by intro k hk;simp only [A6,A5,As] at hk;omega))) oO s) oO t) aw⟩)
theorem A4C (B:Nat) (l:l8_) (hl:l=[]\/l=U6) (fs:List Jf) (hfs:FtX fs):QQ B l fs (UN l fs) QX:=λw p c fv _ hb hc hf=>by
 obtain ⟨pf,cf,rfl,hr,-⟩:=hf.row
 refine (Ym p l c hl pf fs cf hfs w hb hc hr).mono λe w' ⟨t,h1,h2,h3⟩=>⟨t,h1,h2,λw2 hw=>?_⟩
 have h4:=h3 w2 hw
 revert h4
 cases UN l fs <;> exact id
end
section
def oN (n:Int):AV:=.mk 2 n [] [] [] []
def Ib (t:l8_):AV:=.mk 4 0 t [] [] []
def oR (n:Int):AV:=.mk 8 n [] [] [] []
def oA (l:List AV):AV:=.mk 6 0 [] [] l []
def Ic (ks:List (l8_)) (l:List AV):AV:=.mk 7 0 [] ks l []
def oS (ks:List (l8_)) (l:List AV) (d:l8_):AV:=.mk 9 0 [] ks l d
def Ru:l8_:=[80,97,103,101]
def KQ:l8_:=[80,97,103,101,115]
def kCa:l8_:=[67,97,116,97,108,111,103]
def Tn:l8_:=[75,105,100,115]
def OT:l8_:=[67,111,117,110,116]
def kFl:l8_:=[70,108,97,116,101,68,101,99,111,100,101]
def QZ (t:l8_):AV:=Ic [F9,XL,Zb] [Ib Kg,Ib Vs,Ib t]
def caO:AV:=Ic [F9,KQ] [Ib kCa,oR 2]
def pgO (bx:List AV) (t:l8_):AV:=Ic [F9,Pe,UM,So] [Ib Ru,oA bx,Ic [Kg] [Ic [[70]] [QZ t]],oR 4]
def stO (fl:Bool):AV:=if fl=true then oS [kFi] [Ib kFl] [110] else oS [] [] [110]
theorem JM (os:List AV) (o:AV) (h:o.kind≠8) (k:Int) (hk:o.kind=k):F1 os o k=.ok o:=by unfold F1;rw [Gs os 32 o h];simp only;rw [A7 hk]
theorem P8 (os:List AV) (n:Int) (h:-32768<=n/\n<=32767):LT os (oN n)=.ok (n * 65536):=by
 have hf:WT n=(n * 65536,true):=A2 oO
 unfold LT
 rw [Gs os 32 (oN n) (by exact (show (2:Int)≠8 by decide))]
 show (if (WT n).2=true then Except.ok (WT n).1 else Except.error 22)=_
 rw [hf]
 rfl
theorem A1P (os:List AV) (a b c d:Int) (ha:-32768<=a/\a<=32767) (hb:-32768<=b/\b<=32767) (hc:-32768<=c/\c<=32767) (hd:-32768<=d/\d<=32767) (r:Option AV) :
  K6 os ⟨some (oA [oN a,oN b,oN c,oN d]),r⟩=if GW [a * 65536,b * 65536,c * 65536,d * 65536]=true then .ok (c * 65536,d * 65536) else .error 22:=by
 unfold K6
 simp only
 rw [JM os _ (by exact (show (6:Int)≠8 by decide)) 6 rfl]
 simp only [oA,AV.list,Aa,Ak,A7,FD,P8 os _ ha,P8 os _ hb,P8 os _ hc,P8 os _ hd]
 rfl
theorem A3w (os:List AV) (t:l8_):Fu os (QZ t)=if FJ t<14 then .ok (FJ t:Int) else .error 26:=by
 have a:IO os (QZ t) F9 4=.ok (Ib Kg):=by rw [Iy (x:=Ib Kg) rfl];exact JM os _ (by exact (show (4:Int)≠8 by decide)) 4 rfl
 have b:IO os (QZ t) XL 4=.ok (Ib Vs):=by rw [Iy (x:=Ib Vs) rfl];exact JM os _ (by exact (show (4:Int)≠8 by decide)) 4 rfl
 have c:IO os (QZ t) Zb 4=.ok (Ib t):=by rw [Iy (x:=Ib t) rfl];exact JM os _ (by exact (show (4:Int)≠8 by decide)) 4 rfl
 unfold Fu
 rw [JM os _ (by exact (show (7:Int)≠8 by decide)) 7 rfl]
 simp only
 unfold UP
 rw [SQ a,SQ b,c]
 rfl
theorem UT (os:List AV) (k t:l8_):EU os (some (Ic [Kg] [Ic [k] [QZ t]]))=if FJ t<14 then .ok [⟨k,(FJ t:Int)⟩] else .error 26:=by
 unfold EU
 simp only
 rw [JM os _ (by exact (show (7:Int)≠8 by decide)) 7 rfl]
 simp only
 rw [show Dg (Ic [Kg] [Ic [k] [QZ t]]) Kg=some (Ic [k] [QZ t]) from rfl]
 simp only
 rw [JM os _ (by exact (show (7:Int)≠8 by decide)) 7 rfl]
 simp only [Ic,AV.keys,AV.list]
 show JA os [k] [QZ t]=_
 rw [Jz,A3w]
 by_cases h:FJ t<14
 · simp only [A7 h];rfl
 · simp only [A2 h]
def sdB (a w:Int):Bool:=decide (a=0) && decide (1<=w) && decide (w<=14400)
theorem A1S (a w:Int):GW [a * 65536,0 * 65536,w * 65536,7 * 65536]=sdB a w:=by
 unfold GW sdB VP
 simp only [List.getD_cons_zero,List.getD_cons_succ]
 rw [AY]
 simp only [AE,AF]
 constructor
 · rintro ⟨b,c,⟨d,e,f⟩,-⟩;omega
 · rintro ⟨⟨b,c⟩,d⟩;refine ⟨oO,oO,⟨oO,oO,oO⟩,oO,oO,oO⟩
end
section
def Ok (e:TypeId) (B:Nat) (w:World) (p:Option Addr) (n c:Nat) (l:l8_):Prop :=
 n=l.length/\(CP e B w (.slice p n c) (AQ l)\/(c=n/\0<n/\Ag w p l/\B<=(pA p).block))
section
variable {P:Program} {n:Sh} {f:Fr}
theorem Ok.same  {m:Nat} (h:Ok e B w p m c l) (hb:∀ k,B<=k->k<w.heap.size->w1.heap[k]?=w.heap[k]?):Ok e B w1 p m c l:=by
 obtain ⟨b,h | ⟨o,q,a,d⟩⟩:=h
 ·
  refine ⟨b,.inl ?_⟩
  obtain ⟨hl,h⟩:=h
  exact ⟨hl,h.imp id λ⟨g,cap,cur,s,f,i,t⟩=>⟨g,cap,cur,s,f,(hb g f (Bd.1 i).1).trans i,t⟩⟩
 ·
  refine ⟨b,.inr ⟨o,q,⟨a.isp,λj hj=>?_⟩,d⟩⟩
  rw [World.cell?_of_block (w:=w) (by rw [Ee];exact hb _ d (a.lt oO))]
  exact a.cells j hj
theorem Yd  {rest:List Oper} {d ty:Nat} {s:Operand} {t u:TypeId} {m:Nat} {r:l8_}
    (ht:P.underlying t=some (.slice e)) (hu:P.underlying u=some .string) (hi:(P.info? e).map (λi=>(i.zero,i.size,i.bytes))=some (some (.int .u8 0),1,1))
    (hs:CM f s=some (.slice p m c)) (hown:Ok e B w p m c l) (hx:CM f x=some (.string (bs r))) (hr:r≠[])
    (hn:l.length+r.length<=1000000000) (hB:B<=w.heap.size) (hd:Nat.blt d n.n=true)
    (k:∀ q c' w',CP e B w' (.slice q (l++r).length c') (AQ (l++r))->Below B w w'->WL P n ops Q rest ((d,.slice q (l++r).length c')::f) w') :
    WL P n ops Q (⟨some d,.call ⟨.builtin .append,#[s,x],#[t,u]⟩,ty,pos,aft,none⟩::rest) f w:=by
  obtain ⟨rfl,h | ⟨rfl,J,A,N⟩⟩:=hown
  · refine A3T ht hu hi hs h hx (by simp [AQ]; omega) hB hd fun v' w' ho hb _ => ?_
    rw [show AQ l++AQ r=AQ (l++r) by simp [AQ]] at ho;obtain ⟨q,c',rfl,-⟩:=ho.bytesC;exact k q c' w' ho hb
  · cases hh : P.info? e with
    | none=>rw [hh] at hi;cases hi
    | some i =>
      rw [hh] at hi;simp only [Option.map_some,BN,CA] at hi;obtain ⟨hz,g,C⟩:=hi;have D:(bs r).size=r.length:=BV r;have a:Lib.strCells (bs r)=AQ r:=by simp [Lib.strCells,AQ,bs]
      have M:0<r.length:=List.length_pos_iff.2 hr;have b:(AQ l).length=l.length:=by simp [AQ]
      have E:(AQ r).length=r.length:=by simp [AQ]
      have o:∀ j u,(AQ l)[j]?=some u->w.cell? ((pA p).add j)=some u:=λj u hj=>by
        have hj':j<l.length:=by
          rcases Bu j l.length with h | h
          · exact h
          · rw [AZ (by rw [b];omega)] at hj;cases hj
        rw [A.cells j hj',<- hj];simp [AQ,hj']
      have y:=Lib.run_append_grow_string (P:=P) w t u ty e i (.int .u8 0) ht hu hh hz (pA p) l.length l.length (AQ l) (by rw [g,b];omega) o (bs r) oO oO (by rw [C];exact growslice_fits oO oO);rw [D,a] at y;have F:=grownCap_ge w (l.length+r.length) l.length e;have G:grownCap w (l.length+r.length) l.length e<=maxLen:=grownCap_le_maxLen w (l.length+r.length) l.length e (by unfold maxLen;omega);have K:(AQ (l++r)).length=l.length+r.length:=by simp [AQ]
      refine WL.run hd (w':=_) (v:=.slice (some ⟨w.heap.size,0,none⟩) (l++r).length (grownCap w (l.length+r.length) l.length e)) (λρ hρ=>?_) (k (some ⟨w.heap.size,0,none⟩) _ (w.drew.alloc (.cells ((AQ l).toArray++(AQ r).toArray++Builtin.zeroCells (Value.int .u8 0).cells (grownCap w (l.length+r.length) l.length e-(l.length+r.length))) e)) ?_ ?_)
      · unfold execOp
        simp only [resolve,invoke,builtin,Ca,D3,BT,List.map_toArray,EF,F4,hρ _ _ (hs.trans (by rw [A.isp J])),hρ _ _ hx,y,A8]
      · refine ⟨by simp, .inr ⟨w.heap.size, _, _, by simp [AQ], hB, heap_alloc_new w.drew _, by simpa [AQ] using F, G, ?_, ?_⟩⟩
        · have H : (Value.int IntKind.u8 0).cells.size = 1 := rfl
          simp only [Array.size_append,List.size_toArray,size_zeroCells,H,b,E]
          omega
        · have L : AQ (l ++ r) = AQ l ++ AQ r := by simp [AQ]
          simp only [Array.toList_append,AS,L];rw [<- AS,Nat.mul_one];exact List.take_left
      · exact BU (C6.below (Gb B w) ⟨1,rfl⟩) hB (CK.alloc w.drew _)
end
end
section
structure QN (G:Prop) (w0 w:World) (os:List AV) (p:Option Addr) (n c:Nat) (e:Int):Prop where
 sure:G->1<=os.length->os.length<=4096->(CE os).length<=1048576->e=0
 ok:e=0->n=(CE os).length/\Ag w p (CE os)/\(CE os).length<=c/\(0<(CE os).length->w0.heap.size<=(pA p).block)/\(∀ o∈os,FY 32 true o)/\os.length<=4096/\(CE os).length<=1048576/\ED (λk=>w0.heap.size<=k) w (.slice p (CE os).length c) (CE os)
theorem Fc {G:Prop} {w0:World} {os:List AV} {n:Nat} {e:Int} (h:e≠0) (hs:G->1<=os.length->os.length<=4096->(CE os).length<=1048576->False):QN G w0 w os p n c e:=⟨λg h1 h2 h3=>(hs g h1 h2 h3).elim,λq=>De q h⟩
def ET (os:List AV) (i:Nat):l8_:=JZ++Ez 0 ((os.take i).map Dd)
def Kh (os:List AV) (i:Nat):List Nat:=Ds 9 0 ((os.take i).map Dd)
theorem WO (os:List AV) (i:Nat) (h:i<os.length):ET os i++MG i (Dd os[i])=ET os (i+1):=by
 unfold ET
 rw [Bg h,E9,List.map_singleton,QK,AS]
 congr 2
 rw [By,At,Nat.min_eq_left oO,Do]
theorem WN (os:List AV) (i:Nat) (h:i<os.length):EI (Kh os i)++E4 (ET os i).length=EI (Kh os (i+1)):=by
 unfold Kh ET
 rw [Bg h,E9,List.map_singleton,OB,TZ,A8];rfl
theorem PA (ps:List Nat) (h:∀ p∈ps,p<10000000000):(EI ps).length=20 * (ps.length+1):=by
 unfold EI
 rw [A8,show E7.length=20 from rfl]
 have:(ps.flatMap E4).length=20 * ps.length:=by
  induction ps with
  | nil=>rfl
  | cons a r ih =>
   rw [DD,A8,K0 (h a (by simp)),ih λp hp=>h p (by simp [hp]),Aa];omega
 omega
theorem Zg (os:List AV) (i:Nat) (h:i<=os.length):(Kh os i).length=i:=by unfold Kh;rw [Hl,By,At];omega
theorem A1e (os:List AV) (i:Nat):∀ p∈Kh os i,p<=(ET os i).length:=λp hp=>by
 have:=Ls _ _ _ p hp
 unfold ET;rw [A8];exact this
theorem Uy (i:Nat) (t:l8_) (hi:i<9999):(MG i t).length<=t.length+30:=by
 have:=DB 9 (i+1) oO
 unfold MG;simp only [A8,A1t,Qx,Aa,Ak];omega
theorem QE (n:Nat):EK (n:Int)=B7 n:=by unfold EK;rw [A2 oO];simp
theorem V1 (os:List AV):ET os os.length++((((((((([120,114,101,102,10,48,32]++B7 (os.length+1))++[10])++EI (Kh os os.length))++[116,114,97,105,108,101,114,10,60,60,32,47,82,111,111,116,32,49,32,48,32,82,32,47,83,105,122,101,32])++B7 (os.length+1))++[32,62,62,10,115,116,97,114,116,120,114,101,102,10])++B7 (ET os os.length).length)++[10,37,37,69,79,70,10]))=CE os:=by
 unfold CE EH ET Kh
 simp only [Dc,By,AS,Bb,C4,Tv,LJ,Ph,XY,A8]
 rfl
theorem QJ:∀ (ts:List (l8_)) (i k:Nat),(Ez k (ts.take i)).length<=(Ez k ts).length
 | [],_,_=>by simp
 | t::ts,0,k=>by simp [Ez]
 | t::ts,i+1,k=>by
  have:=QJ ts i (k+1)
  simp only [List.take_succ_cons,Ez,A8];omega
theorem KV (os:List AV) (i:Nat):(ET os i).length<=(CE os).length:=by
 have h:=QJ (os.map Dd) i 0
 unfold ET CE EH
 rw [List.map_take]
 simp only [A8];omega
theorem S1 (lp:Option Addr) (ys:List AC) (os:List AV) (lc:Nat) (S:Nat->Prop) (w:World) (hr:AG EN w lp ys) (hc:ys.length<=lc) (hA:AH w S ys os) (hbk:∀ o∈os,FY 32 true o->(Dd o).length<=50000000) (G:Prop)
  (hsd:∀ i (h:i<ys.length) (h2:i<os.length) (w1:World),AB w1 (λk=>k<w.heap.size) ys[i] os[i]->Calls Tryz.prog 19 #[.agg (DN ys[i]).toArray] w1 λe w'=>∃ b:{ b:Bool // (b=true->FY 32 true os[i])/\(G->b=true) },e=.returned (.bool b.1)/\AL w1 w') :
  Calls Tryz.prog 13 #[.slice lp ys.length lc] w λe w'=>∃ x:Option Addr × Nat × Nat × Int,e=.returned (.tuple #[.slice x.1 x.2.1 x.2.2.1,Af x.2.2.2])/\AL w w'/\QN G w w' os x.1 x.2.1 x.2.2.1 x.2.2.2:=by
 have aO:=hr.lt
 have aj:=hA.len
 have aP:AH w (λk=>k<w.heap.size) ys os:=hA.mono λk _ hk=>hk
 refine Ar func13 rfl ntmps13 ?_
 have H:=CN w
 refine A4<|Ct rfl<|A9 rfl<|Ad<|FT 17 (decide (ys.length<1\/4096<ys.length)) ?_ ?_
 refine Am<|A3 rfl<|A1 (.lenS C2 rfl)<|A1 (.lss rfl rfl)<|A3 rfl<|Ck rfl rfl rfl (λj=>?_) (λj=>?_)
 have aQ:=dF j
 refine A3 rfl<|Az j<|A1 (.lenS C2 rfl)<|Az j<|A1 (.gtr rfl rfl)<|A1 (.pkF rfl j rfl)<|A0<|?_
 exact ⟨Gy (DM rfl (by exact HI.2 oO)),rfl⟩
 have aQ:=dT j
 refine Bc j<|Bc j<|A1 (.pkT rfl j rfl)<|A0<|?_
 exact ⟨Gy (DM rfl (by exact (AP oO).symm)),rfl⟩
 refine Ai rfl (λh2=>?_) (λh2=>?_)
 have aR:=dT h2
 have aT:ys.length<1\/4096<ys.length:=dT aS
 refine A4<|Ct rfl<|A9 rfl<|AT (D0 rfl rfl rfl ?_)
 exact ⟨(none,0,0,22),rfl,H,Fc dD (λ_ h1 h2 _=>by omega)⟩
 have aR:=dF h2
 have aT:¬ (ys.length<1\/4096<ys.length):=dF aS
 refine Ap<|Ad<|A4<|A9 rfl<|AO<|BM (α:=Nat) (λt=>[(0,.slice lp ys.length lc),(2,.slice none 0 0),(3,Af 0),(4,Af (t:Int))]) (λt w'=>AL w w'/\AG EN w' lp ys/\AH w' (λk=>k<w.heap.size) ys os/\(∀ o∈os.take t,FY 32 true o)/\t<=ys.length) (λt=>ys.length-t) (0) ⟨rfl,rfl,rfl,rfl,tT⟩ (⟨H,hr,aP,λo h=>by simp at h,FI _⟩) (λt w1 hR=>?_)
 obtain ⟨i,rfl⟩:=eX t
 obtain ⟨q1,l,q3,q4,q5⟩:=hR
 refine Ad<|A4<|A3 rfl<|A3 rfl<|A1 (.lenS C2 rfl)<|A1 (.lss rfl rfl)<|A0<|Ai rfl (λK=>?_) (λK=>?_)
 have aU:=dT K
 refine Ap<|Ad<|AO<|A4<|A3 rfl<|A3 rfl<|A1 (.ixm C2 CU rfl rfl (l.isp oO) (i) (rfl) oO)<|Ah (Dz Ay rfl Al l (i) oO rfl)<|Bf BK rfl rfl ((hsd i oO oO _ ((q3).sub i oO oO))) (λsb w4 L=>?_)
 have aV:=AH.same (w1:=w4) q3 (λk hk hl=>L.block k hl)
 have aW:=DW l L (λd=>l.lt d)
 have a8:=Ci q1 L
 refine A1 (.not rfl)<|A0<|Ai rfl (λh8=>?_) (λh8=>?_)
 have aX:=(nT h8)
 have aY:G->False:=λg=>by (have q:=sb.2.2 g);(have l:=nT (show (!sb.1)=true by assumption));rw [q] at l;cases l
 refine A4<|Ct rfl<|A9 rfl<|AT (D0 rfl rfl rfl ?_)
 exact ⟨(none,0,0,22),rfl,a8,Fc dD (λg _ _ _=>aY g)⟩
 have aX:=(nF h8)
 have aZ:FY 32 true (os[i]'oO):=sb.2.1 (nF aS)
 refine Ap<|Am<|A3 rfl<|A1 (.iis (((i+1:Nat):Int)) (.add rfl rfl (Ba oO)) oO)<|A9 rfl ?_
 exact ⟨i+1,⟨rfl,rfl,rfl,rfl,tT⟩,⟨a8,aW,aV,λo ho=>by
  rw [Bg oO,B9,B8] at ho;rcases ho with ho | rfl;exact q4 o ho;exact aZ,oM⟩,oM⟩
 have aU:=dF K
 refine BF<|Ad ?_
 have P:∀ o∈os,FY 32 true o:=λo ho=>q4 o (by rw [An oO];exact ho)
 refine Am<|Cs (ps:=_) B1 EA Mt rfl rfl rfl rfl rfl pR rfl (λb9 a' Q ak E b6=>?_)
 have al:=AH.same (w1:=a') q3 (λk hk hl=>E.other k oO)
 have J:=λd=>Q▸l.lt d
 have am:=AG.upd l E (λd=>CR (J d))
 have an:=uB q1 Q E
 have b4:=CF Q q1.size
 refine MV ([37,80,68,70,45,49,46,52,10]) B1 FK rfl ak rfl rfl (λa9 b0 s b5=>?_)
 have ao:=AH.same (w1:=a9) al (λk hk hl=>s.other k oM)
 have ap:=AG.upd am s (λd=>CR (J d))
 have aq:=BU an oO s
 refine A9 rfl<|A4<|A9 rfl<|Ad<|A4<|A9 rfl<|AO ?_
 have H:Ok 5 w.heap.size a9 (some ⟨b9,0,none⟩) 9 9 (ET os 0):=⟨rfl,.inr ⟨rfl,dD,b0,by show w.heap.size<=b9;omega⟩⟩
 refine BM (α:=Option Addr × Nat × Nat) (λt=>[(0,.slice lp ys.length lc),(2,.slice none 0 0),(3,Af 0),(5,.slice t.1 (ET os t.2.2).length t.2.1),(6,.string (bs (EI (Kh os t.2.2)))),(7,Af (t.2.2:Int))]) (λt w'=>AL w w'/\AG EN w' lp ys/\AH w' (λk=>k<w.heap.size) ys os/\Ok 5 w.heap.size w' t.1 (ET os t.2.2).length t.2.1 (ET os t.2.2)/\(ET os t.2.2).length<=1048576/\t.2.2<=ys.length) (λt=>ys.length-t.2.2) ((some ⟨b9,0,none⟩,9,0)) ⟨rfl,rfl,rfl,rfl,rfl,rfl,tT⟩ (⟨aq,ap,ao,H,by show (JZ++Ez 0 []).length<=1048576;decide,FI _⟩) (λt w1 hR=>?_)
 obtain ⟨p,c,i⟩:=t
 obtain ⟨p1,p2,p3,p4,p5,p6⟩:=hR
 simp only at p4 p5 p6 ⊢
 have ba:=Zg os i oO
 have ar:∀ n∈Kh os i,n<10000000000:=λn hn=>by have:=A1e os i n hn;omega
 have bb:=PA (Kh os i) ar
 refine Ad<|A4<|A3 rfl<|A3 rfl<|A1 (.lenS C2 rfl)<|A1 (.lss rfl rfl)<|A0<|Ai rfl (λT=>?_) (λT=>?_)
 have au:=dT T
 refine Ap<|Ad<|AO<|Ad ?_
 have hi:i<os.length:=by omega
 have aa:=P _ (AA hi)
 have bc:=hbk _ (AA hi) aa
 have bd:=DB 9 (i+1) oO
 have be:=Kv (n:=(ET os i).length) oO
 refine Am<|A3 rfl<|A3 rfl<|A1 (.lenS B1 rfl)<|Cm BK rfl rfl ((A2W _ _ oO)) (λab u=>?_)
 have av:=AH.same (w1:=ab) p3 (λk hk hl=>u.block k hl)
 have aw:=Ok.same (w1:=ab) p4 (λk hk hl=>u.block k hl)
 have ax:=DW p2 u (λd=>p2.lt d)
 have ay:=Ci p1 u
 refine A1 (.cat rfl rfl oO)<|A1 (.sis (EI (Kh os (i+1))) (.cat rfl rfl oF) (by rw [<- WN os i hi];unfold E4 Fl;simp only [AS]))<|A9 rfl<|Ad<|D6 14 rfl BR (λw'=>AG EN w' lp ys/\True) (λU v=>?_)
 have az:=AH.same (w1:=U) av (λk hk hl=>(by obtain ⟨m,rfl⟩:=v;rfl))
 have aA:=Ok.same (w1:=U) aw (λk hk hl=>(by obtain ⟨m,rfl⟩:=v;rfl))
 have a:=ax.drew v
 have aB:=C6.below ay v
 refine Ab 0 rfl (.mv rfl) ⟨a,tT⟩ ?_
 refine Ab 1 rfl (.mv rfl) ⟨a,tT⟩ ?_
 refine Ab 2 rfl (.iis (((i+1:Nat):Int)) (.add rfl rfl (Ba oO)) oO) ⟨a,tT⟩ ?_
 refine Ab 5 rfl (.mv rfl) ⟨a,tT⟩ ?_
 refine Ab 6 rfl (.mv rfl) ⟨a,tT⟩ ?_
 refine Ab 7 rfl (.ixm C2 CU rfl rfl (a.isp oO) (i) (rfl) oO) ⟨a,tT⟩ ?_
 refine BX 8 rfl (λw' hw'=>Dz Ay rfl Al (hw'.1) (i) oO rfl) ⟨a,tT⟩ rfl ?_
 refine AX 3 rfl<|Ao (by have q:=FR ((i+1:Nat):Int) U oO oO;rw [QE] at q;exact q) (λac y=>?_)
 have V:=AH.same (w1:=ac) az (λk hk hl=>y.block k hl)
 have aC:=Ok.same (w1:=ac) aA (λk hk hl=>y.block k hl)
 have B:=DW a y (λd=>a.lt d)
 have aD:=Ci aB y
 refine A0<|⟨⟨B,tT⟩,?_⟩
 refine Ab 4 rfl (.cat rfl rfl oF) ⟨B,tT⟩ ?_
 refine AX 9 rfl<|Cm BK rfl rfl ((Wf _ _ (ON _) _ _ _ _ _ ((V).sub i oO hi) aa oO)) (λad C=>?_)
 have aE:=AH.same (w1:=ad) V (λk hk hl=>C.block k hl)
 have aF:=Ok.same (w1:=ad) aC (λk hk hl=>C.block k hl)
 have D:=DW B C (λd=>B.lt d)
 have X:=Ci aD C
 refine A0<|⟨⟨D,tT⟩,?_⟩
 refine Ab 10 rfl (.cat rfl rfl oF) ⟨D,tT⟩ ?_
 refine Ab 11 rfl (.cat rfl rfl oF) ⟨D,tT⟩ ?_
 refine AX 12 rfl<|Yd (r:=MG i (Dd (os[i]'hi))) B1 Gk IN rfl aF rfl (by unfold MG;simp [Od]) (by have:=Uy i (Dd (os[i]'hi)) oO;omega) X.size rfl (λpq cq wq b1 a0=>?_)
 have ae:=Ej X a0
 have aG:Ok 5 w.heap.size wq pq _ cq (ET os i++MG i (Dd (os[i]'hi))):=⟨rfl,.inl b1⟩
 have F:=(D).below a0 aO
 have aH:=AH.same (w1:=wq) aE (λk hk _=>a0.block k hk)
 refine A0<|⟨⟨F,tT⟩,?_⟩
 refine Ab 13 rfl (.as rfl) ⟨F,tT⟩ ?_
 refine BH kR<|Ad ?_
 have af:=WO os i hi
 have f:=aG
 rw [af] at f
 rw [af]
 refine Am<|A3 rfl<|A1 (.lenS B1 rfl)<|A1 (.gtr rfl rfl)<|A0<|Ai rfl (λa1=>?_) (λa1=>?_)
 have aI:=dT a1
 refine A4<|Ct rfl<|A9 rfl<|AT (D0 rfl rfl rfl ?_)
 exact ⟨(none,0,0,25),rfl,ae,Fc dD (λ_ _ _ K=>by have:=KV os (i+1);omega)⟩
 have aI:=dF a1
 refine Ap<|Am<|A3 rfl<|A1 (.iis (((i+1:Nat):Int)) (.add rfl rfl (Ba oO)) oO)<|A9 rfl ?_
 exact ⟨(pq,cq,i+1),⟨rfl,rfl,rfl,rfl,rfl,rfl,tT⟩,⟨ae,F,aH,f,oM,oM⟩,oM⟩
 have au:=dF T
 refine BF<|Ad ?_
 obtain rfl:i=os.length:=by omega
 have b7:=DB 9 (os.length+1) oO
 have b8:=DB 9 (ET os os.length).length oO
 rw [aj]
 refine Am<|A3 rfl<|A1 (.lenS B1 rfl)<|A9 rfl<|A4<|A3 rfl<|A1 (.lenS C2 rfl)<|A1 (.iis (((os.length+1:Nat):Int)) (.add rfl rfl (Ba oO)) oO)<|Ao (by have q:=FR ((os.length+1:Nat):Int) w1 oO oO;rw [QE] at q;exact q) (λag a2=>?_)
 have aJ:=Ok.same (w1:=ag) p4 (λk hk hl=>a2.block k hl)
 have aK:=Ci p1 a2
 refine A9 rfl<|A4<|A3 rfl<|A3 rfl<|A1 (.cat rfl rfl oF)<|A1 (.cat rfl rfl oF)<|A3 rfl<|A1 (.cat rfl rfl oF)<|A1 (.cat rfl rfl oF)<|A3 rfl<|A1 (.cat rfl rfl oF)<|A1 (.cat rfl rfl oF)<|A3 rfl<|Ao (by have q:=FR ((ET os os.length).length:Int) ag oO oO;rw [QE] at q;exact q) (λb2 a3=>?_)
 have aL:=Ok.same (w1:=b2) aJ (λk hk hl=>a3.block k hl)
 have a4:=Ci aK a3
 refine A1 (.cat rfl rfl oF)<|A1 (.cat rfl rfl oF)<|Yd B1 Gk IN rfl aL rfl (by simp) oF a4.size rfl (λpe ce we a5 b3=>?_)
 have ah:=Ej a4 b3
 have aM:ED (λk=>w.heap.size<=k) we _ _:=⟨a5.baseB (FI _),λg hg=>(a5.ltB g hg).1⟩
 have a6:=a5.bytesC
 refine A9 rfl<|Ad<|Ad ?_
 have f:=aM
 rw [V1] at f a6
 rw [V1]
 obtain ⟨pe',ce',ai,hb1,hb2,hb3,-⟩:=a6
 simp only [Value.slice.injEq] at ai
 obtain ⟨rfl,-,rfl⟩:=ai
 refine Am<|A3 rfl<|A1 (.lenS B1 rfl)<|A1 (.gtr rfl rfl)<|A0<|Ai rfl (λa7=>?_) (λa7=>?_)
 have aN:=dT a7
 refine A4<|Ct rfl<|A9 rfl<|AT (D0 rfl rfl rfl ?_)
 exact ⟨(none,0,0,25),rfl,ah,Fc dD (λ_ _ _ K=>by have:=KV os (i+1);omega)⟩
 have aN:=dF a7
 refine Ap<|A4<|A3 rfl<|Ct rfl<|A9 rfl<|AT (D0 rfl rfl rfl ?_)
 exact ⟨(pe,(CE os).length,ce,0),rfl,ah,⟨λ_ _ _ _=>rfl,λ_=>⟨rfl,hb1,hb3,hb2,P,oO,oO,f⟩⟩⟩
end
section
theorem Ow (os:List AV) (H:ZF os) (p:Option Addr) (n c:Nat) (w:World) (hn:n=(CE os).length) (hb:Ag w p (CE os)) (hc:(CE os).length<=c) :
  Calls Tryz.prog 14 #[.slice p n c] w λe w'=>∃ bf,e=.returned (.tuple #[ptV bf,Af 0])/\AM (λk=>w.heap.size<=k) w' bf (CE os) (Di os)/\AL w w':=by
 subst hn
 exact Wi p c (os.map Dd) w hb hc H.size (by rw [By];exact H.len)
theorem SA (os:List AV) (L:Nat) (h:∀ o∈os,(Dd o).length<=L) (hn:os.length<=4096) (hL:L<=100000):(CE os).length<=200+os.length * (L+50):=by
 have hb:∀ (l:List AV) (k:Nat),(∀ o∈l,(Dd o).length<=L)->k+l.length<=9000->(Ez k (l.map Dd)).length<=l.length * (L+30):=by
  intro l
  induction l with
  | nil=>intro k _ _;simp [Ez]
  | cons o r ih =>
   intro k b c
   simp only [Aa] at c
   have d:=ih (k+1) (λo ho=>b o (by simp [ho])) oO
   have f:=b o (by simp)
   have g:=Uy k (Dd o) oO
   simp only [EF,Ez,A8,Aa,Nat.succ_mul]
   omega
 have i:=hb os 0 h oO
 have hm:os.length * (L+30)<=4096 * (L+30):=D4 _ hn
 have a:∀ n∈Ds 9 0 (os.map Dd),n<10000000000:=λn hn=>by
  have:=Ls _ _ _ n hn
  omega
 have ht:=PA _ a
 rw [Hl,By] at ht
 have j:=DB 9 (os.length+1) oO
 have m:=DB 9 (9+(Ez 0 (os.map Dd)).length) oO
 have e:os.length * (L+50)=os.length * (L+30)+20 * os.length:=by rw [Nat.mul_add,Nat.mul_add];omega
 unfold CE EH
 simp only [A8,Aa,By,ht,JZ,Tv,LJ,Ph,XY,Ak]
 omega
end
section
def ObW (o:AV) (v:Value) (w:World):Prop:=∃ y:AC,v=.agg (DN y).toArray/\AB w (λq=>q<w.heap.size) y o
def PrW (k:l8_) (o:AV) (v:Value) (w:World):Prop:=∃ y:AC,v=.agg (prV ⟨k,y⟩).toArray/\AB w (λq=>q<w.heap.size) y o
def A7O (os:List AV) (v:Value) (w:World):Prop:=∃ (p:Option Addr) (ys:List AC) (c:Nat),v=.slice p ys.length c/\AG EN w p ys/\AH w (λq=>q<w.heap.size) ys os/\ys.length<=c/\c<=9223372036854775807
def A7P (ks:List (l8_)) (os:List AV) (v:Value) (w:World):Prop:=∃ (p:Option Addr) (prs:List Vv) (c:Nat),v=.slice p prs.length c/\AG prL w p prs/\prs.map Vv.k=ks/\AH w (λq=>q<w.heap.size) (prs.map Vv.v) os
theorem AH.nil (w:World) (S:Nat->Prop):AH w S [] []:=⟨rfl,λi h=>De h (by simp)⟩
theorem AH.cons {w:World} {S:Nat->Prop} {y:AC} {o:AV} {ys:List AC} {os:List AV} (h:AB w S y o) (hs:AH w S ys os):AH w S (y::ys) (o::os):=⟨BJ (·+1) hs.len,λi h1 h2=>by
 cases i with
 | zero=>exact h
 | succ i=>exact hs.sub i (by simpa using h1) (by simpa using h2)⟩
theorem EC (w:World) (S:Nat->Prop) (k n:Int) (s:l8_) (h:-9223372036854775808<=n/\n<=9223372036854775807) (hs:s.length<=9223372036854775807):AB w S (CW (DK k n s)) (.mk k n s [] [] []):=by
 have:=(BP.zero w S k n s).rep (.mk _ _ _ _ _ h hs (by simp) (by simp))
 rw [show SI (Jm k n s)=.mk k n s [] [] [] by simp [Jm,SI,Yb]] at this
 exact this
theorem P6  {ys:List AC} {os:List AV} (hr:AG EN w p ys) (hA:AH w S ys os) (hc:ys.length<=c) (hm:c<=9223372036854775807) (hs:0<ys.length->S (pA p).block):AB w S (SJ p ys.length c) (oA os) :=
 .mk (SJ p ys.length c) [] os [] ys ⟨by show _<=(0:Int)/\(0:Int)<=_;decide,by show ([]:l8_).length<=_;simp,rfl,rfl,rfl,DP _,hc,DP _,by show (0:Nat)<=_;omega,hm,by show (0:Nat)<=_;omega⟩ (by simp) (B3.nil _) (by simp) hr hs (Ag.nil _) (by simp) hA.len hA.sub
theorem P1 (k:l8_) (y:AC):Tryz.prog.built 31 [(0,.string (bs k)),(1,.agg (DN y).toArray)]=some (prV ⟨k,y⟩).toArray:=by kernel_rfl
end
section
structure A4w (os:List AV) (ca nd pg st:AV):Prop where
 len:os.length=4
 caV:F1 os (.mk 8 1 [] [] [] []) 7=.ok ca
 caT:G6 os ca F9 [67,97,116,97,108,111,103]=.ok true
 caP:Dg ca [80,97,103,101,115]=some (.mk 8 2 [] [] [] [])
 ndV:F1 os (.mk 8 2 [] [] [] []) 7=.ok nd
 ndF:G6 os nd F9 [80,97,103,101]=.ok false
 ndT:G6 os nd F9 [80,97,103,101,115]=.ok true
 ndK:IO os nd [75,105,100,115] 6=.ok (.mk 6 0 [] [] [.mk 8 3 [] [] [] []] [])
 ndC:IO os nd [67,111,117,110,116] 2=.ok (.mk 2 1 [] [] [] [])
 ndD:Gv nd ⟨none,none⟩=⟨none,none⟩
 pgV:F1 os (.mk 8 3 [] [] [] []) 7=.ok pg
 pgT:G6 os pg F9 [80,97,103,101]=.ok true
 pgC:Dg pg So=some (.mk 8 4 [] [] [] [])
 stV:Fj os 32 (.mk 8 4 [] [] [] [])=some st
 st6:st.kind≠6
 one:∀ l,Jb st=.ok l->A2m l
def itU:l8_->List Jf->Except Int Unit:=λ_ _=>.ok ()
theorem PG  (n:Int) (h:Cy n=true):FY D st (oN n):=.num _ _ 2 n (.inl rfl) h
theorem N8  (s:l8_) (h:KL s):FY D st (Ib s):=.name _ _ s h
theorem PF  (n:Int) (h:1<=n/\n<=4096):FY D st (oR n):=.ref _ _ n h
theorem Xo  (l:List AV) (hD:1<=D) (hl:l.length<=100) (h:∀ o∈l,FY (D-1) false o):FY D st (oA l):=.arr _ _ l hD oO h
theorem Kw  (ks:List (l8_)) (l:List AV) (hD:1<=D) (hl:l.length<=100) (hk:ks.length=l.length) (hn:ks.all (λs=>!decide (0∈s) && decide (1<=s.length) && decide (s.length<=127))=true) (hd:ks.Nodup) (h:∀ o∈l,FY (D-1) false o):FY D st (Ic ks l) :=
 .dict _ _ 7 ks l [] (.inl ⟨rfl,rfl⟩) hD oO hk (λx hx=>by
  have:=AN.1 hn x hx
  simp only [AE,BO,AF,Bo] at this
  exact ⟨λe=>by subst e;simp at this,this.1.1,this.2⟩) hd h
theorem Cp {P:AV->Prop}:∀ o∈([]:List AV),P o:=λ_ h=>by cases h
theorem all_cons {P:AV->Prop} {a:AV} {l:List AV} (h:P a) (hl:∀ o∈l,P o):∀ o∈a::l,P o:=λo ho=>by
 rcases A6.1 ho with rfl | ho
 · exact h
 · exact hl o ho
theorem JU (s:l8_) (h:(!decide (0∈s) && decide (1<=s.length) && decide (s.length<=127))=true):KL s:=by
 simp only [AE,BO,AF,Bo] at h
 exact ⟨λe=>by subst e;simp at h,h.1.1,h.2⟩
theorem A3x  (hD:1<=D) (t:l8_) (ht:KL t):FY D false (QZ t) :=
 Kw _ _ hD bL rfl dD dD (all_cons (N8 _ (JU _ dD)) (all_cons (N8 _ (JU _ dD)) (all_cons (N8 _ ht) Cp)))
def A2q (bx:List AV):Prop:=bx.length<=4/\∀ o∈bx,∃ n,o=oN n/\-32768<=n/\n<=32767
theorem A5i {n:Int} (h:-32768<=n/\n<=32767):Cy n=true:=by simp [Cy];omega
theorem A2q.snd {bx:List AV} (h:A2q bx) (hD:1<=D):FY D false (oA bx):=Xo bx hD (C9 h.1 dD) λo ho=>by
 obtain ⟨n,rfl,hn⟩:=h.2 o ho
 exact PG n (A5i hn)
theorem IG {n:Nat} {k m:Int} {t:l8_} (h:k=8->1<=m/\m<=(n:Int)):TN n (.mk k m t [] [] []):=.mk _ h Cp
theorem FQ {n:Nat} {k:Int} {l:List AV} (hk:k≠8) (h:∀ o∈l,TN n o):TN n (.mk k 0 [] ks l d):=.mk _ (λe=>De e hk) h
theorem A2q.rng {bx:List AV} (h:A2q bx) {n:Nat}:TN n (oA bx):=FQ dD λo ho=>by
 obtain ⟨m,rfl,-⟩:=h.2 o ho
 exact IG (λe=>by cases e)
end
section
structure Ld where
 bx:Option Int
 ft:Option (l8_)
def X6 (w:Int):AV:=oA [oN 0,oN 0,oN w,oN 7]
def rsO (t:l8_):AV:=Ic [Kg] [Ic [[88]] [QZ t]]
def Ro {α β:Type} (o:Option α) (k:β):List β:=match o with | none=>[] | some _=>[k]
def QW {α β:Type} (o:Option α) (f:α->β):List β:=match o with | none=>[] | some a=>[f a]
def Tg (k:Int) (x:Ld):AV:=Ic ([F9,Tn,OT]++(Ro x.bx Pe++Ro x.ft UM)) ([Ib KQ,oA [oR k],oN 1]++(QW x.bx X6++QW x.ft rsO))
def pgX (c:Int) (b:Option Int):AV:=Ic ([F9,So]++Ro b Pe) ([Ib Ru,oR c]++QW b X6)
def stX:AV:=oS [] [] U6
def LU:Nat->List Ld->List AV
 | _,[]=>[]
 | j,x::r=>Tg ((j+1:Nat):Int) x::LU (j+1) r
theorem HT:∀ (r:List Ld) (j:Nat),(LU j r).length=r.length
 | [],_=>rfl
 | x::r,j=>by rw [LU,Aa,HT r,Aa]
def N1 (lv:List Ld) (b:Option Int):List AV:=caO::(LU 2 lv++[pgX ((3+lv.length:Nat):Int) b,stX])
theorem Pf (lv:List Ld) (b:Option Int):(N1 lv b).length=lv.length+3:=by
 rw [N1,Aa,A8,HT];rfl
theorem A0P:∀ (r:List Ld) (j i:Nat) (h:i<r.length),(LU j r)[i]?=some (Tg ((j+i+1:Nat):Int) r[i])
 | x::r,j,0,_=>rfl
 | x::r,j,i+1,h=>by
  rw [LU,List.getElem?_cons_succ,A0P r (j+1) i (by simpa using h),Em,show j+1+i+1=j+(i+1)+1 by omega]
theorem P4 {os:List AV} {n:Nat} {o:AV} (h:os[n]?=some o) (hk:o.kind=7):F1 os (.mk 8 ((n+1:Nat):Int) [] [] [] []) 7=.ok o:=by
 unfold F1
 have a:Fj os 32 (.mk 8 ((n+1:Nat):Int) [] [] [] [])=some o:=by
  show (if (8:Int)=8 then Fj os 31 (os.getD (((n+1:Nat):Int)-1).toNat (.mk 0 0 [] [] [] [])) else _)=_
  rw [A7 rfl,show (((n+1:Nat):Int)-1).toNat=n by omega,BY,h]
  exact Gs os 31 o (by rw [hk];decide)
 rw [a]
 simp only
 rw [A7 hk]
def O7 (i:GS) (x:Ld):GS:=⟨(x.bx.map X6).or i.box,(x.ft.map rsO).or i.res⟩
theorem UE (k:Int) (x:Ld) (i:GS):Gv (Tg k x) i=O7 i x:=by
 obtain ⟨b,f⟩:=x
 cases b <;> cases f <;> rfl
theorem Up (c:Int) (b:Option Int) (i:GS):Gv (pgX c b) i=O7 i ⟨b,none⟩:=by
 cases b <;> rfl
theorem A68 (c:Int) (b:Option Int):Dg (pgX c b) So=some (.mk 8 c [] [] [] []):=by cases b <;> rfl
section
variable {os:List AV}
theorem A6c (k:Int) (x:Ld):G6 os (Tg k x) F9 [80,97,103,101]=.ok false:=rfl
theorem A4d (k:Int) (x:Ld):G6 os (Tg k x) F9 [80,97,103,101,115]=.ok true:=rfl
theorem A6e (k:Int) (x:Ld):IO os (Tg k x) [75,105,100,115] 6=.ok (.mk 6 0 [] [] [.mk 8 k [] [] [] []] []):=rfl
theorem A6f (k:Int) (x:Ld):IO os (Tg k x) [67,111,117,110,116] 2=.ok (.mk 2 1 [] [] [] []):=rfl
theorem A7b (c:Int) (b:Option Int):G6 os (pgX c b) F9 [80,97,103,101]=.ok true:=rfl
end
theorem SG  {os:List AV} (H:Vx os) (b:Option Int) (c:Int) (res:Except Int ((Int × Int) × Option Int)) (hst:Fj os 32 (.mk 8 c [] [] [] [])=some stX) :
    ∀ (r:List Ld) (j:Nat) (i:GS) (sl:List Int),2<=j->j+r.length<=33->(∀ m (h:m<r.length),os[j+m-1]?=some (Tg ((j+m+1:Nat):Int) r[m]))->os[j+r.length-1]?=some (pgX c b)->(∀ x∈sl,x<(j:Int))->sl.length<=100-r.length ->
      (∀ u,i.box=some u->Is os u)->(∀ u,i.res=some u->Is os u)->res=GV os stX (O7 (r.foldl O7 i) ⟨b,none⟩) UN->(∀ fs,EU os (O7 (r.foldl O7 i) ⟨b,none⟩).res=.ok fs->FtX fs) ->
      Lc wk bf os (j:Int) i ((j-2:Nat):Int) sl QX res
  | [],j,i,sl,hj,hj2,hn,hp,hsl,hsll,hib,hir,hres,hfx=>by
    have hlt:j-1<os.length:=by
      rcases Bu (j-1) os.length with h | h
      · exact h
      · rw [Ak,Nat.add_zero,AZ h] at hp;cases hp
    have a:j-1+1=j:=by omega
    have hv:=P4 hp rfl
    rw [show j+([]:List Ld).length-1+1=j from a] at hv
    refine P5 wk bf os H (pgX c b) j i _ sl UN QX res oO (λh=>by have:=hsl _ h;omega) ⟨oO,oO⟩ oO hv hib hir (.inl ⟨A7b c b,_,stX,A68 c b,hst,dD,λB l fs hf hl=>?_,by rw [hres,Up];rfl⟩)
    have e:l=U6:=by cases hl;rfl
    rw [Up] at hf
    exact A4C B l (.inr e) fs (hfx fs hf)
  | x::r,j,i,sl,hj,hj2,hn,hp,hsl,hsll,hib,hir,hres,hfx=>by
    have d:=hn 0 (by simp)
    rw [Aa] at hj2 hp hsll
    have hlt:j-1<os.length:=by
      rcases Bu (j-1) os.length with h | h
      · exact h
      · rw [Nat.add_zero,AZ h] at d;cases d
    have a:j-1+1=j:=by omega
    have hv:=P4 d rfl
    rw [show j+0-1+1=j from a] at hv
    have hg:Is os (Tg ((j+0+1:Nat):Int) (x::r)[0]):=(HL H (Is.ref ⟨oO,oO⟩ H.objs.len) hv).1
    have hd:=V7 hg hib hir
    rw [UE] at hd
    refine P5 wk bf os H _ j i _ sl UN QX res oO (λh=>by have:=hsl _ h;omega) ⟨oO,oO⟩ oO hv hib hir (.inr ⟨A6c _ _,A4d _ _,oO,((j+1:Nat):Int),A6e _ _,A6f _ _,?_⟩)
    rw [UE,show (((j-2:Nat):Int)+1)=((j+1-2:Nat):Int) by omega]
    refine SG H b c res hst r (j+1) (O7 i x) (sl++[(j:Int)]) oO oO (λm hm=>?_) ?_ (λy hy=>?_) (by rw [A8,Gz];omega) hd.1 hd.2 hres hfx
    · have := hn (m + 1) (by simpa using hm)
      rw [Em] at this
      rw [show j+1+m-1=j+(m+1)-1 by omega,this,show j+(m+1)+1=j+1+m+1 by omega]
    · rw [show j+1+r.length-1=j+(r.length+1)-1 by omega];exact hp
    · rcases B9.1 hy with h | h
      · have:=hsl y h;omega
      · rw [B8.1 h];omega
end
section
structure ObF (n:Nat) (o:AV):Prop where
 snd:FY 32 true o
 rng:TN n o
 kn:SM o
 bk:SH o<=500
 ln:o.list.length<=100
def OkB (b:Option Int):Prop:=∀ w,b=some w->1<=w/\w<=255
def OkL (x:Ld):Prop:=OkB x.bx/\∀ t,x.ft=some t->KL t
theorem TE {w:Int} (h:1<=w/\w<=255):A2q [oN 0,oN 0,oN w,oN 7]:=⟨DP _,all_cons ⟨0,rfl,dD⟩ (all_cons ⟨0,rfl,dD⟩ (all_cons ⟨w,rfl,oO⟩ (all_cons ⟨7,rfl,dD⟩ Cp)))⟩
theorem A2Q  (hD:3<=D) {t:l8_} (h:KL t):FY D false (rsO t) :=
 Kw _ _ oO bL rfl dD dD (all_cons (Kw _ _ oO bL rfl dD dD (all_cons (A3x oO t h) Cp)) Cp)
theorem ML {n:Nat} (k m:Int) (s:l8_) (h:k≠8):TN n (.mk k m s [] [] []):=IG (λe=>De e h)
theorem A2R {n:Nat} (t:l8_):TN n (rsO t):=FQ dD (all_cons (FQ dD (all_cons (FQ dD (all_cons (ML _ _ _ dD) (all_cons (ML _ _ _ dD) (all_cons (ML _ _ _ dD) Cp)))) Cp)) Cp)
theorem LP {P:AV->Prop} {a b:List AV} (h:∀ o∈a,P o) (h2:∀ o∈b,P o):∀ o∈a++b,P o:=λo ho=>(B9.1 ho).elim (h o) (h2 o)
theorem LO  {P:AV->Prop} {o:Option α} {f:α->AV} (h:∀ a,o=some a->P (f a)):∀ x∈QW o f,P x:=by
 cases o with
 | none=>exact Cp
 | some a=>exact all_cons (h a rfl) Cp
theorem FE (k n:Int) (s:l8_) (h:k=2\/k=4\/k=8):SM (.mk k n s [] [] []):=⟨oO,tT⟩
theorem Nn {k:Int} {l:List AV} (h:k=6\/k=7\/k=9) (hl:KnL l):SM (.mk k 0 [] ks l d):=⟨oO,hl⟩
theorem Tl:∀ {a b:List AV},KnL a->KnL b->KnL (a++b)
 | [],_,_,h=>h
 | _::_,_,h,h2=>⟨h.1,Tl h.2 h2⟩
theorem A1M (w:Int):SM (X6 w):=Nn (.inl rfl) ⟨FE _ _ _ dD,FE _ _ _ dD,FE _ _ _ dD,FE _ _ _ dD,tT⟩
theorem A4O (t:l8_):SM (rsO t):=Nn (.inr (.inl rfl)) ⟨Nn (.inr (.inl rfl)) ⟨Nn (.inr (.inl rfl)) ⟨FE _ _ _ dD,FE _ _ _ dD,FE _ _ _ dD,tT⟩,tT⟩,tT⟩
theorem WF  {o:Option α} {f:α->AV} (h:∀ a,SM (f a)):KnL (QW o f):=by
 cases o with
 | none=>trivial
 | some a=>exact ⟨h a,tT⟩
theorem A6d {n:Nat} (hn:n<=4096) {k:Nat} (hk:1<=k/\k<=n) {x:Ld} (h:OkL x):ObF n (Tg (k:Int) x):=by
  obtain ⟨b,f⟩:=x
  obtain ⟨a,c⟩:=h
  refine ⟨?_,?_,?_,?_,?_⟩
  · refine Kw _ _ dD ?_ ?_ ?_ ?_ (LP (all_cons (N8 _ (JU _ dD)) (all_cons (Xo _ dD (by simp) (all_cons (PF _ oO) Cp)) (all_cons (PG _ dD) Cp))) (LP (LO fun w hw => (TE (a w hw)).snd dD) (LO fun t ht => A2Q dD (c t ht))))
    all_goals cases b <;> cases f <;> first | rfl | exact (show [F9,Tn,OT].Nodup by decide) | exact (show [F9,Tn,OT,UM].Nodup by decide) | exact (show [F9,Tn,OT,Pe].Nodup by decide) | exact (show [F9,Tn,OT,Pe,UM].Nodup by decide) | (simp [QW];done)
  · exact FQ dD (LP (all_cons (ML _ _ _ dD) (all_cons (FQ dD (all_cons (IG λ_=>by omega) Cp)) (all_cons (ML _ _ _ dD) Cp))) (LP (LO λw hw=>(TE (a w hw)).rng) (LO λt _=>A2R t)))
  · exact Nn (.inr (.inl rfl)) (Tl ⟨FE _ _ _ dD,Nn (.inl rfl) ⟨FE _ _ _ dD,tT⟩,FE _ _ _ dD,tT⟩ (Tl (WF A1M) (WF A4O)))
  · have d : ∀ t, f = some t → t.length ≤ 127 := fun t ht => (c t ht).2.2
    cases b <;> cases f
    · simp [Tg,Ro,QW,Ic,Ib,oR,oA,oN,SH,Vu,Vh,F9,Tn,OT,KQ]
    · have := d _ rfl
      simp [Tg,Ro,QW,rsO,QZ,Ic,Ib,oR,oA,oN,SH,Vu,Vh,F9,Tn,OT,KQ,UM,Kg,XL,Zb,Vs];omega
    · simp [Tg,Ro,QW,X6,Ic,Ib,oR,oA,oN,SH,Vu,Vh,F9,Tn,OT,KQ,Pe]
    · have := d _ rfl
      simp [Tg,Ro,QW,rsO,X6,QZ,Ic,Ib,oR,oA,oN,SH,Vu,Vh,F9,Tn,OT,KQ,UM,Kg,XL,Zb,Vs,Pe];omega
  · cases b <;> cases f <;> simp [Tg,QW,Ic,AV.list]
theorem A67 {n:Nat} (hn:n<=4096) {k:Nat} (hk:1<=k/\k<=n) {b:Option Int} (h1:OkB b):ObF n (pgX (k:Int) b):=by
  refine ⟨?_,?_,?_,?_,?_⟩
  · refine Kw _ _ dD ?_ ?_ ?_ ?_ (LP (all_cons (N8 _ (JU _ dD)) (all_cons (PF _ oO) Cp)) (LO fun w hw => (TE (h1 w hw)).snd dD))
    all_goals cases b <;> first | rfl | exact (show [F9,So].Nodup by decide) | exact (show [F9,So,Pe].Nodup by decide) | (simp [QW];done)
  · exact FQ dD (LP (all_cons (ML _ _ _ dD) (all_cons (IG λ_=>by omega) Cp)) (LO λw hw=>(TE (h1 w hw)).rng))
  · exact Nn (.inr (.inl rfl)) (Tl ⟨FE _ _ _ dD,FE _ _ _ dD,tT⟩ (WF A1M))
  · cases b <;> simp [pgX,Ro,QW,X6,Ic,Ib,oR,oA,oN,SH,Vu,Vh,F9,So,Ru,Pe]
  · cases b <;> simp [pgX,QW,Ic,AV.list]
theorem A6u {n:Nat} (hn:2<=n):ObF n caO :=
  ⟨Kw _ _ dD bL rfl dD dD (all_cons (N8 _ (JU _ dD)) (all_cons (PF _ dD) Cp)),
   FQ dD (all_cons (ML _ _ _ dD) (all_cons (IG λ_=>by omega) Cp)),
   Nn (.inr (.inl rfl)) ⟨FE _ _ _ dD,FE _ _ _ dD,tT⟩,dD,dD⟩
theorem A61 (n:Nat):ObF n stX :=
 ⟨.dict _ _ 9 [] [] U6 (.inr ⟨rfl,rfl,dD,dD⟩) dD dD rfl (by simp) dD Cp,FQ dD Cp,Nn (.inr (.inr rfl)) trivial,dD,dD⟩
theorem A0O {n:Nat} (hn:n<=4096):∀ (r:List Ld) (j:Nat),j+r.length<=n->(∀ x∈r,OkL x)->∀ o∈LU j r,ObF n o
 | [],_,_,_=>λo ho=>by cases ho
 | x::r,j,hj,h=>λo ho=>by
  rw [Aa] at hj
  rcases A6.1 ho with rfl | ho
  · exact A6d hn ⟨oO,oO⟩ (h x (by simp))
  · exact A0O hn r (j+1) oO (λy hy=>h y (by simp [hy])) o ho
theorem OH {lv:List Ld} {b:Option Int} (hl:1<=lv.length/\lv.length<=20) (hv:∀ x∈lv,OkL x) (hb:OkB b):∀ o∈N1 lv b,ObF (N1 lv b).length o:=by
 rw [Pf]
 intro o ho
 unfold N1 at ho
 rcases A6.1 ho with rfl | ho
 · exact A6u oO
 ·
  rcases B9.1 ho with ho | ho
  · exact A0O oO lv 2 oO hv o ho
  ·
   rcases A6.1 ho with rfl | ho
   · exact A67 oO ⟨oO,oO⟩ hb
   · rw [B8.1 ho];exact A61 _
theorem A18 {lv:List Ld} {b:Option Int} (hl:1<=lv.length/\lv.length<=20) (hv:∀ x∈lv,OkL x) (hb:OkB b):∀ o∈N1 lv b,(Dd o).length<=20000:=λo ho=>by
 have h:=OH hl hv hb o ho
 have:=A0x h.snd
 have:=h.bk
 omega
theorem XO {lv:List Ld} {b:Option Int} (hl:1<=lv.length/\lv.length<=20) (hv:∀ x∈lv,OkL x) (hb:OkB b):(CE (N1 lv b)).length<=1048576/\ZF (N1 lv b):=by
 have hn:=Pf lv b
 have c:=SA (N1 lv b) 20000 (A18 hl hv hb) oO dD
 have a:(CE (N1 lv b)).length<=1048576:=by
  refine C9 c ?_
  rw [hn];omega
 exact ⟨a,λo ho=>(OH hl hv hb o ho).snd,λo ho=>(OH hl hv hb o ho).ln,oO,a⟩
theorem A19 {lv:List Ld} {b:Option Int} (hl:1<=lv.length/\lv.length<=20) (hv:∀ x∈lv,OkL x) (hb:OkB b):Vx (N1 lv b):=⟨(XO hl hv hb).2,λo ho=>⟨(OH hl hv hb o ho).snd,(OH hl hv hb o ho).rng⟩⟩
end
section
def HK (w:Int) (x:Ld):Int:=x.bx.getD w
def N2 (f:Int) (x:Ld):Int:=match x.ft with | none=>f | some t=>(FJ t:Int)
def OkF (x:Ld):Prop:=∀ t,x.ft=some t->FJ t<14
structure Vw (i:GS) (w f:Int):Prop where
 box:w=-1/\i.box=none\/(1<=w/\w<=255)/\i.box=some (X6 w)
 res:f=-1/\i.res=none\/∃ t,FJ t<14/\f=(FJ t:Int)/\i.res=some (rsO t)
theorem Vw.step {i:GS} {w f:Int} (h:Vw i w f) (x:Ld) (hx:OkL x) (hf:OkF x):Vw (O7 i x) (HK w x) (N2 f x):=by
 obtain ⟨b,t⟩:=x
 refine ⟨?_,?_⟩
 ·
  cases b with
  | none=>exact h.box
  | some a=>exact .inr ⟨hx.1 a rfl,rfl⟩
 ·
  cases t with
  | none=>exact h.res
  | some t=>exact .inr ⟨t,hf t rfl,rfl,rfl⟩
theorem QV:∀ (lv:List Ld) {i:GS} {w f:Int},Vw i w f->(∀ x∈lv,OkL x)->(∀ x∈lv,OkF x)->Vw (lv.foldl O7 i) (lv.foldl HK w) (lv.foldl N2 f)
 | [],_,_,_,h,_,_=>h
 | x::r,_,_,_,h,hx,hf=>QV r (h.step x (hx x (by simp)) (hf x (by simp))) (λy hy=>hx y (by simp [hy])) (λy hy=>hf y (by simp [hy]))
def Zd (w f:Int):Except Int ((Int × Int) × Option Int):=if w<0 then .error 22 else if f<0 then .error 26 else .ok ((w * 65536,7 * 65536),some f)
theorem Vw.page {i:GS} {w f:Int} (h:Vw i w f) (os:List AV):GV os stX i UN=Zd w f:=by
  obtain ⟨bo,re⟩:=i
  obtain ⟨a,b⟩:=h
  simp only at a b
  unfold Zd
  rcases a with ⟨rfl,rfl⟩ | ⟨hw,rfl⟩
  · rw [A7 dD]
    exact XA rfl
  · rw [A2 oO]
    have hb:=A1P os 0 0 w 7 dD dD oO dD re
    rw [A1S,A7 (show sdB 0 w=true by unfold sdB;simp;omega)] at hb
    rcases b with ⟨rfl,rfl⟩ | ⟨t,ht,rfl,rfl⟩
    · rw [A7 dD]
      exact (JT hb (fs:=[]) rfl (l:=U6) rfl).trans rfl
    · rw [A2 oO]
      have hf:=UT os [88] t
      rw [A7 ht] at hf
      exact (JT hb (fs:=[⟨[88],(FJ t:Int)⟩]) hf (l:=U6) rfl).trans rfl
theorem Vw.fonts {i:GS} {w f:Int} (h:Vw i w f) (os:List AV):∀ fs,EU os i.res=.ok fs->FtX fs:=λfs hfs=>by
 obtain ⟨-,h2⟩:=h
 rcases h2 with ⟨-,h2⟩ | ⟨t,ht,-,h2⟩
 · rw [h2] at hfs;cases hfs;exact .inl rfl
 ·
  rw [h2] at hfs
  have hf:=UT os [88] t
  rw [A7 ht] at hf
  rw [show EU os (some (rsO t))=_ from hf] at hfs
  cases hfs
  exact .inr ⟨_,rfl,oO⟩
theorem Zc {lv:List Ld} {b:Option Int} (hl:1<=lv.length/\lv.length<=20) (hv:∀ x∈lv,OkL x) (hf:∀ x∈lv,OkF x) (hb:OkB b) (bf:Nat) (S:Nat->Prop) (w:World) (hfi:AM S w bf (CE (N1 lv b)) (Di (N1 lv b))) (hN:ZN w) :
  Calls Tryz.prog 15 #[ptV bf] w (Xd w QX (Zd (b.getD (lv.foldl HK (-1))) (lv.foldl N2 (-1)))):=by
 have k:=Pf lv b
 have H:=A19 hl hv hb
 have l:Vw (O7 (lv.foldl O7 ⟨none,none⟩) ⟨b,none⟩) (HK (lv.foldl HK (-1)) ⟨b,none⟩) (N2 (lv.foldl N2 (-1)) ⟨b,none⟩) :=
  Vw.step (QV lv ⟨.inl ⟨rfl,rfl⟩,.inl ⟨rfl,rfl⟩⟩ hv hf) ⟨b,none⟩ ⟨hb,λt h=>by cases h⟩ (λt h=>by cases h)
 have d:Vw (O7 (lv.foldl O7 ⟨none,none⟩) ⟨b,none⟩) (b.getD (lv.foldl HK (-1))) (lv.foldl N2 (-1)):=l
 have a:∀ m (h:m<lv.length),(N1 lv b)[2+m-1]?=some (Tg ((2+m+1:Nat):Int) lv[m]):=λm hm=>by
  rw [show 2+m-1=m+1 by omega]
  unfold N1
  rw [List.getElem?_cons_succ,Ex (by rw [HT];exact hm),A0P lv 2 m hm]
 have e:(N1 lv b)[2+lv.length-1]?=some (pgX ((3+lv.length:Nat):Int) b):=by
  rw [show 2+lv.length-1=lv.length+1 by omega]
  unfold N1
  rw [List.getElem?_cons_succ,H5 (by rw [HT];omega),HT,FG]
  rfl
 have c:(N1 lv b)[2+lv.length]?=some stX:=by
  rw [show 2+lv.length=(lv.length+1)+1 by omega]
  unfold N1
  rw [List.getElem?_cons_succ,H5 (by rw [HT];omega),HT,show lv.length+1-lv.length=1 by omega]
  rfl
 have f:Fj (N1 lv b) 32 (.mk 8 ((3+lv.length:Nat):Int) [] [] [] [])=some stX:=by
  show (if (8:Int)=8 then Fj (N1 lv b) 31 ((N1 lv b).getD (((3+lv.length:Nat):Int)-1).toNat (.mk 0 0 [] [] [] [])) else _)=_
  rw [A7 rfl,show (((3+lv.length:Nat):Int)-1).toNat=2+lv.length by omega,BY,c]
  exact Gs (N1 lv b) 31 stX dD
 have g:(N1 lv b)[0]?=some caO:=rfl
 have i:=a 0 oO
 have j:∀ wk,Lc wk bf (N1 lv b) 2 ⟨none,none⟩ 0 [] QX (Zd (b.getD (lv.foldl HK (-1))) (lv.foldl N2 (-1))):=λwk =>
  SG H b _ _ f lv 2 ⟨none,none⟩ [] dD oO a e (by simp) (by rw [Ak];omega) (by simp) (by simp) (d.page _).symm (d.fonts _)
 exact TU bf S (N1 lv b) H caO (Tg ((2+0+1:Nat):Int) lv[0]) 2 QX _ oO (P4 g rfl) rfl rfl ⟨dD,oO⟩ (P4 i rfl) (A4d _ _) j w hfi hN
def Ix (bx fn:l8_) (i:Nat):Ld:=⟨if 0<(bx.getD i 0).toNat then some ((bx.getD i 0).toNat:Int) else none,if i<fn.length/\0<(fn.getD i 0).toNat then some (Ly.getD ((fn.getD i 0).toNat % 14) []) else none⟩
def E0 (bx fn:l8_) (n:Nat):List Ld:=(List.range n).map (Ix bx fn)
theorem KM (bx fn:l8_) (n:Nat):(E0 bx fn n).length=n:=by rw [E0,By,List.length_range]
theorem O3 (bx fn:l8_) (n:Nat):E0 bx fn (n+1)=E0 bx fn n++[Ix bx fn n]:=by rw [E0,List.range_succ,E9];rfl
theorem Tc:∀ k<14,FJ (Ly.getD k [])=k/\KL (Ly.getD k []):=by
 have a:∀ k<14,FJ (Ly.getD k [])=k:=by decide
 have b:∀ k<14,(!decide (0∈Ly.getD k []) && decide (1<=(Ly.getD k []).length) && decide ((Ly.getD k []).length<=127))=true:=by decide
 exact λk hk=>⟨a k hk,JU _ (b k hk)⟩
theorem A0V (bx fn:l8_) (i:Nat):OkL (Ix bx fn i)/\OkF (Ix bx fn i):=by
 have hb:=(bx.getD i 0).toNat_lt
 have a:∀ k:Nat,k % 14<14:=λk=>Nat.mod_lt _ dD
 refine ⟨⟨λw hw=>?_,λt ht=>?_⟩,λt ht=>?_⟩
 ·
  unfold Ix at hw
  simp only at hw
  split at hw
  · cases hw;omega
  · cases hw
 ·
  unfold Ix at ht
  simp only at ht
  split at ht
  · cases ht;exact (Tc _ (a _)).2
  · cases ht
 ·
  unfold Ix at ht
  simp only at ht
  split at ht
  · cases ht;rw [(Tc _ (a _)).1];exact a _
  · cases ht
theorem XG (bx fn:l8_) (n:Nat):(∀ x∈E0 bx fn n,OkL x)/\∀ x∈E0 bx fn n,OkF x:=by
 refine ⟨λx hx=>?_,λx hx=>?_⟩ <;> (obtain ⟨i,-,rfl⟩:=E8.1 hx)
 · exact (A0V bx fn i).1
 · exact (A0V bx fn i).2
end
section
def RfS (bx:List AV) (t:l8_) (want:Int) (fl:Bool):Prop :=
 (∃ a wd:Int,bx=[oN a,oN 0,oN wd,oN 7]/\(-32768<=a/\a<=32767)/\(-32768<=wd/\wd<=32767)/\want=if sdB a wd=true then (if FJ t<14 then (if fl=true then 22 else 0) else 26) else 22) \/
 (∃ a wd:Int,bx=[oN a,oN 0,oN wd]/\(-32768<=a/\a<=32767)/\(-32768<=wd/\wd<=32767)/\want=22)
theorem A2V  {ys:List AC} {os:List AV} (hk:B3 G7 w kp ks) (hks:∀ k∈ks,k.length<=9223372036854775807) (hkS:0<ks.length->S (pA kp).block) (hr:AG EN w lp ys) (hA:AH w S ys os) (hrS:0<ys.length->S (pA lp).block) (hd:Ag w dp d) (hdS:0<d.length->S (pA dp).block)
  (h1:ks.length<=1000) (h2:ys.length<=1000) (h3:d.length<=1000):AB w S ⟨9,0,[],kp,ks.length,ks.length,lp,ys.length,ys.length,dp,d.length,d.length⟩ (oS ks os d) :=
 .mk ⟨9,0,[],kp,ks.length,ks.length,lp,ys.length,ys.length,dp,d.length,d.length⟩ ks os d ys ⟨by show _<=(0:Int)/\(0:Int)<=_;decide,by show ([]:l8_).length<=_;simp,rfl,rfl,rfl,DP _,DP _,DP _,by show ks.length<=_;omega,by show ys.length<=_;omega,by show d.length<=_;omega⟩ hks hk hkS hr hrS hd hdS hA.len hA.sub
end
end Go.Proofs.YtiddobdioipidaaGreatDoor
