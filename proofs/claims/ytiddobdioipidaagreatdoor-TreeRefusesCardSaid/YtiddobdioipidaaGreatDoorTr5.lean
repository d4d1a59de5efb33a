/-
  What the claim leans on, part 5: pruned and joined by my own tool out of the texts that stand in wip/ as templates.
-/
import Derived.Test.YtiddobdioipidaaGreatDoorTr4
set_option maxHeartbeats 6400000
set_option maxRecDepth 100000
namespace Go.Proofs.YtiddobdioipidaaGreatDoor
open Go.RowKit
open Go.Proofs.Tryz
variable {pa pb:Addr} {aft:Array Edge} {ops:Array Oper} {ats:Array TypeId} {args cs:Array Value} {st:Bool} {Q:Exit->Fr->World->Prop} {f:Fr} {F:FuncId} {D a:Int} {ks:List (List UInt8)} {ns:List Int} {A d l s:List UInt8} {vs xs:List Value} {B M N c i id j wk:Nat} {S T:Nat->Prop} {x y:Operand} {dp p:Option Addr} {P:Program} {pos:String} {α ι:Type} {E e ta tb tx ty:TypeId} {u v z:Value} {w w1:World} {S':World->Prop}
section
theorem U4  {k n:Int} {t:l8_} {l:List AV} (h:FJ D st (.mk k n t ks l d)):ks.length<=65535/\l.length<=65535/\d.length<=1048576/\∀ o∈l,∃ D',FJ D' false o:=by
 cases h with
 | null=>exact ⟨by simp,by simp,by simp,λo h=>by cases h⟩
 | bool=>exact ⟨by simp,by simp,by simp,λo h=>by cases h⟩
 | num=>exact ⟨by simp,by simp,by simp,λo h=>by cases h⟩
 | name=>exact ⟨by simp,by simp,by simp,λo h=>by cases h⟩
 | text=>exact ⟨by simp,by simp,by simp,λo h=>by cases h⟩
 | ref=>exact ⟨by simp,by simp,by simp,λo h=>by cases h⟩
 | arr _ _ l hD hl h=>exact ⟨by simp,hl,by simp,λo ho=>⟨_,h o ho⟩⟩
 | dict _ _ k ks l d hk hD hl hkl hn hnd h=>exact ⟨oO,hl,by rcases hk with ⟨-,rfl⟩ | ⟨-,-,h,-⟩;simp;exact h,λo ho=>⟨_,h o ho⟩⟩
theorem S4  {cs zs:List α} (hz:zs.length=i) (h:i<cs.length) (z:α):(zs++cs.drop i).set i z=(zs++[z])++cs.drop (i+1):=by
 rw [Aw h,List.set_append_right _ _ oO,hz,Ot,List.set_cons_zero,AS];rfl
theorem AJ.pushA  {cs:List AC} {acc:List AV} {x:AC} {o:AV} (h:AJ w S cs acc) (hx:At w S x o):AJ w S (cs++[x]) (acc++[o]) :=
  ⟨by simp [h.len], fun i h1 h2 => by
    have hl:=h.len
    by_cases hi:i<cs.length
    · rw [CY hi, CY oO]
      exact h.sub i hi oO
    · simp only [A9, Aa, Am] at h1 h2
      have:i=cs.length:=by omega
      subst this
      rw [Cp oO,Cp oO]
      simpa [hl] using hx⟩
theorem N1:∀ (n:Nat) (o:AV),SizeOf.sizeOf o<n->∀ (x:AC) (S:Nat->Prop) (D:Int) (st:Bool) (w:World),At w S x o->FJ D st o ->
  Calls Tryz.prog 58 #[.agg (D3 x).toArray] w λe w'=>∃ z:AC,e=.returned (.agg (D3 z).toArray)/\JO w' (λk=>w.heap.size<=k) z o/\AL w w':=by
 intro n
 induction n with
 | zero=>intro o h;omega
 | succ n ih =>
 intro o hn x S D st w hx hS
 obtain ⟨keys,list,data,cs,rfl,ok,e9,hk,ea,hr,eb,hd,ec,ed,cX⟩:=hx.inv
 obtain ⟨eL,eM,eN,ee⟩:=U4 hS
 obtain ⟨k,i,s,kp,kl,kc,lp,ll,lc,dp,dl,dc⟩:=x
 have e1:=ok.kl;have e2:=ok.ll;have e3:=ok.dl
 have m7:=ok.text;have m8:=ok.n
 simp only at e1 e2 e3 m7 m8 hk hr hd eb ea ec
 subst e1;subst e2;subst e3
 simp only [AV.mk.sizeOf_spec] at hn
 have ef:∀ j (h:j<list.length),SizeOf.sizeOf list[j]<n:=λj h=>by have:=List.sizeOf_lt_of_mem (Ar h);omega
 have eg:AJ w (λk=>k<w.heap.size) cs list:=⟨ed,λi h h2=>(cX i h h2).mono λk _ hk=>hk⟩
 simp only [D3]
 refine AF func58 rfl ntmps58 ?_
 have cG:=Dh w
 refine A4<|WL.box rfl rfl (λP eh au aW a8 eI=>?_)
 have ei:=AJ.same (w1:=eh) eg (λk hk hl=>a8.other k oO)
 have Y:=λa=>au▸hr.lt a
 have cH:=AA.upd hr a8 (λa=>CV (Y a))
 have cY:=λa=>au▸hk.lt a
 have cI:=AM.upd hk a8 (λa=>CV (cY a))
 have cZ:=λa=>au▸hd.lt a
 have cJ:=Cy hd a8 cZ
 have cK:=uB cG au a8
 have eB:=CW au cG.size
 refine Bm CA rfl (λb c' a2 be X eC=>?_)
 have d0:=AJ.same (w1:=c') ei (λk hk hl=>X.other k oO)
 have d1:=Bt a2 aW.lt
 have d2:=aW.un X d1
 have bf:=λa=>a2▸cH.lt a
 have d3:=AA.upd cH X (λa=>CV (bf a))
 have bg:=λa=>a2▸cI.lt a
 have d4:=AM.upd cI X (λa=>CV (bg a))
 have bh:=λa=>a2▸cJ.lt a
 have d5:=Cy cJ X bh
 have d6:=uB cK a2 X
 have ej:=CW a2 cK.size
 refine A0<|Mz (α:=(Option Addr × Nat) × (Option Addr × Nat)) (λt=>[(1,ptV P),(2,ptV b)]) (λt w'=>AL w w'/\B4 w' P #[Ag k,Ag i,.string (bs s),.slice t.1.1 keys.length t.1.2,.slice lp cs.length lc,.slice t.2.1 data.length t.2.2] 27/\B4 w' b #[Ag 0,Ag 0,.string ⟨#[]⟩,.slice none 0 0,.slice none 0 0,.slice none 0 0] 27/\AA Fi w' lp cs/\AJ w' (λk=>k<w.heap.size) cs list/\AM F4 w' t.1.1 keys/\(0<keys.length->b<(pA t.1.1).block)/\keys.length<=t.1.2/\t.1.2<=9223372036854775807/\Af w' t.2.1 data/\(0<data.length->b<(pA t.2.1).block)/\data.length<=t.2.2/\t.2.2<=9223372036854775807/\DY (λk=>b<k) w' (.slice t.1.1 keys.length t.1.2) keys/\Es (λk=>b<k) w' (.slice t.2.1 data.length t.2.2) data) ?_ (λt w1 hR=>?_)
 refine F2 10 rfl BS (λek a0=>?_)
 have ax:=AJ.same (w1:=ek) d0 (λk hk hl=>(by obtain ⟨m,rfl⟩:=a0;rfl))
 have a1:=d2.drew a0
 have a3:=be.drew a0
 have a4:=d3.drew a0
 have ay:=d4.drew a0
 have a5:=d5.drew a0
 have az:=Cn.below d6 a0
 refine AB 0 rfl (.fa Av rfl E6 dD rfl) rfl<|AB 3 rfl (.fa Av rfl CZ dD rfl) rfl<|Ct 1 rfl 4 rfl ?_ ?_
 refine Aj (Ae (Fs _) rfl a1 rfl)<|A0<|Ct 2 rfl 4 rfl ?_ ?_
 have aX:=(a3).lt
 refine Bf BQ rfl rfl ((Jm _ keys _ _ ay oO)) (λxk el Q=>?_)
 have d7:=AJ.same (w1:=el) ax (λk hk hl=>Q.1.block k hl)
 have aY:=a1.bl Q.1
 have aZ:=a3.bl Q.1
 have a':=Ea a4 Q.1 (λa=>a4.lt a)
 have d8:=Fh a5 Q.1 (λa=>a5.lt a)
 have d9:=Ci az Q.1
 have a6:=Q.2.1
 have c:=Q.2.2
 have a9:=(Q.2.2.2.2.2).mono (T:=λk=>b<k) (λk hk _=>by omega)
 refine A0<|Ao 4 rfl<|Aj (Ae (g22_ _) rfl aY rfl)<|A0<|AB 6 rfl (.fa Av rfl E6 dD rfl) rfl<|Ao 5 rfl ?_
 have b0:=(aZ).lt
 refine Bf BQ rfl rfl ((LL _ data _ _ d8 oO)) (λxd cL K=>?_)
 have da:=AJ.same (w1:=cL) d7 (λk hk hl=>K.1.block k hl)
 have db:=DY.same (w1:=cL) a9 (λk hk hl=>K.1.block k hl)
 have dd:=aY.bl K.1
 have de:=aZ.bl K.1
 have df:=Ea a' K.1 (λa=>a'.lt a)
 have dg:=AM.below a6 K.1 (λa=>a6.lt a)
 have dh:=Ci d9 K.1
 have av:=K.2.1
 have d:=K.2.2
 have aa:=(K.2.2.2.2.2).mono (T:=λk=>b<k) (λk hk _=>by omega)
 refine A0<|Ao 7 rfl<|BA E6 rfl rfl rfl dd (by exact Nat.le_of_ble_eq_true rfl) (λaD ag A eD=>?_)
 have ag:B4 aD P _ _:=ag
 have A:CP P _ _:=A
 have di:=AJ.same (w1:=aD) da (λk hk hl=>A.other k oM)
 have dj:=DY.same (w1:=aD) db (λk hk hl=>A.other k oM)
 have dk:=Es.same (w1:=aD) aa (λk hk hl=>A.other k oM)
 have dm:=de.up A
 have dn:=AA.upd df A (λa=>CV (Y a))
 have dq:=AM.upd dg A ((λa=>by (have:=c.1 a;omega)))
 have dr:=Af.upd av A ((λa=>by (have:=d.1 a;omega)))
 have ds:=BR dh oO A
 refine A0<|AB 8 rfl (.fa Av rfl CZ dD rfl) rfl<|Ao 9 rfl<|BA CZ rfl rfl rfl ag (by exact Nat.le_of_ble_eq_true rfl) (λaE ah B eF=>?_)
 have ah:B4 aE P _ _:=ah
 have B:CP P _ _:=B
 have dt:=AJ.same (w1:=aE) di (λk hk hl=>B.other k oM)
 have du:=DY.same (w1:=aE) dj (λk hk hl=>B.other k oM)
 have dv:=Es.same (w1:=aE) dk (λk hk hl=>B.other k oM)
 have dw:=dm.up B
 have dx:=AA.upd dn B (λa=>CV (Y a))
 have dy:=AM.upd dq B ((λa=>by (have:=c.1 a;omega)))
 have dz:=Af.upd dr B ((λa=>by (have:=d.1 a;omega)))
 have dA:=BR ds oO B
 refine A0<|Be kR ?_
 exact ⟨(xk,xd),⟨rfl,rfl,tT⟩,dA,ah,dw,dx,dt,dy,λa=>by (have:=c.1 a;show b<(pA xk.1).block;omega),c.2.1,c.2.2.1,dz,λa=>by (have:=d.1 a;show b<(pA xd.1).block;omega),d.2.1,d.2.2.1,du,dv⟩
 refine Aj (Ae (g22_ _) rfl a1 rfl)<|A0<|Ao 2 rfl ?_
 have aX:=(a3).lt
 refine Bf BQ rfl rfl ((Jm _ keys _ _ ay oO)) (λxk em U=>?_)
 have dB:=AJ.same (w1:=em) ax (λk hk hl=>U.1.block k hl)
 have dC:=a1.bl U.1
 have b2:=a3.bl U.1
 have b3:=Ea a4 U.1 (λa=>a4.lt a)
 have dE:=Fh a5 U.1 (λa=>a5.lt a)
 have dG:=Ci az U.1
 have a6:=U.2.1
 have c:=U.2.2
 have a9:=(U.2.2.2.2.2).mono (T:=λk=>b<k) (λk hk _=>by omega)
 refine A0<|AB 6 rfl (.fa Av rfl E6 dD rfl) rfl<|Ao 5 rfl ?_
 have b0:=(b2).lt
 refine Bf BQ rfl rfl ((LL _ data _ _ dE oO)) (λxd cM N=>?_)
 have dH:=AJ.same (w1:=cM) dB (λk hk hl=>N.1.block k hl)
 have dI:=DY.same (w1:=cM) a9 (λk hk hl=>N.1.block k hl)
 have dJ:=dC.bl N.1
 have dK:=b2.bl N.1
 have dL:=Ea b3 N.1 (λa=>b3.lt a)
 have dM:=AM.below a6 N.1 (λa=>a6.lt a)
 have dN:=Ci dG N.1
 have av:=N.2.1
 have d:=N.2.2
 have aa:=(N.2.2.2.2.2).mono (T:=λk=>b<k) (λk hk _=>by omega)
 refine A0<|Ao 7 rfl<|BA E6 rfl rfl rfl dJ (by exact Nat.le_of_ble_eq_true rfl) (λaF ai C eG=>?_)
 have ai:B4 aF P _ _:=ai
 have C:CP P _ _:=C
 have dO:=AJ.same (w1:=aF) dH (λk hk hl=>C.other k oM)
 have dP:=DY.same (w1:=aF) dI (λk hk hl=>C.other k oM)
 have dQ:=Es.same (w1:=aF) aa (λk hk hl=>C.other k oM)
 have dR:=dK.up C
 have dS:=AA.upd dL C (λa=>CV (Y a))
 have dU:=AM.upd dM C ((λa=>by (have:=c.1 a;omega)))
 have dV:=Af.upd av C ((λa=>by (have:=d.1 a;omega)))
 have dW:=BR dN oO C
 refine A0<|AB 8 rfl (.fa Av rfl CZ dD rfl) rfl<|Ao 9 rfl<|BA CZ rfl rfl rfl ai (by exact Nat.le_of_ble_eq_true rfl) (λaG aj E eH=>?_)
 have aj:B4 aG P _ _:=aj
 have E:CP P _ _:=E
 have dX:=AJ.same (w1:=aG) dO (λk hk hl=>E.other k oM)
 have bi:=DY.same (w1:=aG) dP (λk hk hl=>E.other k oM)
 have bj:=Es.same (w1:=aG) dQ (λk hk hl=>E.other k oM)
 have bk:=dR.up E
 have bm:=AA.upd dS E (λa=>CV (Y a))
 have bn:=AM.upd dU E ((λa=>by (have:=c.1 a;omega)))
 have bo:=Af.upd dV E ((λa=>by (have:=d.1 a;omega)))
 have bp:=BR dW oO E
 refine A0<|Be kR ?_
 exact ⟨(xk,xd),⟨rfl,rfl,tT⟩,bp,aj,bk,bm,dX,bn,λa=>by (have:=c.1 a;show b<(pA xk.1).block;omega),c.2.1,c.2.2.1,bo,λa=>by (have:=d.1 a;show b<(pA xd.1).block;omega),d.2.1,d.2.2.1,bi,bj⟩
 refine Aj (Ae (g22_ _) rfl a1 rfl)<|A0<|Ao 1 rfl<|Aj (Ae (Fs _) rfl a1 rfl)<|A0<|Ao 2 rfl ?_
 have aX:=(a3).lt
 refine Bf BQ rfl rfl ((Jm _ keys _ _ ay oO)) (λxk dY J=>?_)
 have bq:=AJ.same (w1:=dY) ax (λk hk hl=>J.1.block k hl)
 have bt:=a1.bl J.1
 have aH:=a3.bl J.1
 have aI:=Ea a4 J.1 (λa=>a4.lt a)
 have bu:=Fh a5 J.1 (λa=>a5.lt a)
 have bv:=Ci az J.1
 have a6:=J.2.1
 have c:=J.2.2
 have a9:=(J.2.2.2.2.2).mono (T:=λk=>b<k) (λk hk _=>by omega)
 refine A0<|AB 6 rfl (.fa Av rfl E6 dD rfl) rfl<|Ao 5 rfl ?_
 have b0:=(aH).lt
 refine Bf BQ rfl rfl ((LL _ data _ _ bu oO)) (λxd b4 F=>?_)
 have bw:=AJ.same (w1:=b4) bq (λk hk hl=>F.1.block k hl)
 have bz:=DY.same (w1:=b4) a9 (λk hk hl=>F.1.block k hl)
 have bA:=bt.bl F.1
 have bB:=aH.bl F.1
 have bC:=Ea aI F.1 (λa=>aI.lt a)
 have bD:=AM.below a6 F.1 (λa=>a6.lt a)
 have bE:=Ci bv F.1
 have av:=F.2.1
 have d:=F.2.2
 have aa:=(F.2.2.2.2.2).mono (T:=λk=>b<k) (λk hk _=>by omega)
 refine A0<|Ao 7 rfl<|BA E6 rfl rfl rfl bA (by exact Nat.le_of_ble_eq_true rfl) (λak ab q en=>?_)
 have ab:B4 ak P _ _:=ab
 have q:CP P _ _:=q
 have bG:=AJ.same (w1:=ak) bw (λk hk hl=>q.other k oM)
 have bH:=DY.same (w1:=ak) bz (λk hk hl=>q.other k oM)
 have bI:=Es.same (w1:=ak) aa (λk hk hl=>q.other k oM)
 have bJ:=bB.up q
 have bK:=AA.upd bC q (λa=>CV (Y a))
 have bL:=AM.upd bD q ((λa=>by (have:=c.1 a;omega)))
 have bM:=Af.upd av q ((λa=>by (have:=d.1 a;omega)))
 have bN:=BR bE oO q
 refine A0<|AB 8 rfl (.fa Av rfl CZ dD rfl) rfl<|Ao 9 rfl<|BA CZ rfl rfl rfl ab (by exact Nat.le_of_ble_eq_true rfl) (λam ac u eo=>?_)
 have ac:B4 am P _ _:=ac
 have u:CP P _ _:=u
 have bO:=AJ.same (w1:=am) bG (λk hk hl=>u.other k oM)
 have bP:=DY.same (w1:=am) bH (λk hk hl=>u.other k oM)
 have bQ:=Es.same (w1:=am) bI (λk hk hl=>u.other k oM)
 have bR:=bJ.up u
 have bS:=AA.upd bK u (λa=>CV (Y a))
 have bT:=AM.upd bL u ((λa=>by (have:=c.1 a;omega)))
 have bU:=Af.upd bM u ((λa=>by (have:=d.1 a;omega)))
 have bV:=BR bN oO u
 refine A0<|Be kR ?_
 exact ⟨(xk,xd),⟨rfl,rfl,tT⟩,bV,ac,bR,bS,bO,bT,λa=>by (have:=c.1 a;show b<(pA xk.1).block;omega),c.2.1,c.2.2.1,bU,λa=>by (have:=d.1 a;show b<(pA xd.1).block;omega),d.2.1,d.2.2.1,bP,bQ⟩
 obtain ⟨⟨nkp,nkc⟩,⟨ndp,ndc⟩⟩:=t
 obtain ⟨q1,q2,q3,q4,q5,q6,q7,q8,q9,aJ,aw,cN,cO,cP,cQ⟩:=hR
 simp only at q2 q6 q7 q8 q9 aJ aw cN cO cP cQ
 obtain ⟨LB,cR⟩:=eX w1.heap.size
 have dZ:=q1.size
 have d':=q2.lt
 have e0:=q3.lt
 rw [<- cR] at dZ d' e0
 have e4:=cP.mono (T:=λk=>b<k/\k<LB) (λk hk hl=>⟨hk,oO⟩)
 have e5:=cQ.mono (T:=λk=>b<k/\k<LB) (λk hk hl=>⟨hk,oO⟩)
 refine A4<|A1 (.fa Av rfl CQ dD rfl)<|Aj (Ae (DW _) rfl q2 rfl)<|Bf BQ rfl rfl ((Tb _ cs _ _ q4 oO)) (λxl aA G=>?_)
 have bW:=AJ.same (w1:=aA) q5 (λk hk hl=>G.1.block k hl)
 have bX:=DY.same (w1:=aA) e4 (λk hk hl=>G.1.block k hl)
 have bY:=Es.same (w1:=aA) e5 (λk hk hl=>G.1.block k hl)
 have bZ:=q2.bl G.1
 have b':=q3.bl G.1
 have c0:=AM.below q6 G.1 (λa=>q6.lt a)
 have c2:=Fh aJ G.1 (λa=>aJ.lt a)
 have c3:=Ci q1 G.1
 have cS:=G.2
 have b5:=(G).1.size
 rw [<- cR] at cS b5
 have eJ:=(q6).lt
 have eK:=(aJ).lt
 have hb1L:=(q2).lt
 have hb2L:=(q3).lt
 refine A1 (.fa Av rfl CQ dD rfl)<|BA CQ rfl rfl rfl bZ (by exact Nat.le_of_ble_eq_true rfl) (λad V f ep=>?_)
 have V:B4 ad P _ _:=V
 have f:CP P _ _:=f
 have b6:=CT b5 f.size
 have aK:=Bn cS f oM
 have c4:=AJ.same (w1:=ad) bW (λk hk hl=>f.other k oM)
 have c5:=DY.same (w1:=ad) bX (λk hk hl=>f.other k oM)
 have c6:=Es.same (w1:=ad) bY (λk hk hl=>f.other k oM)
 have aL:=b'.up f
 have aM:=AM.upd c0 f ((λa=>by (have:=q7 a;omega)))
 have aN:=Af.upd c2 f ((λa=>by (have:=aw a;omega)))
 have aO:=BR c3 oO f
 refine A0<|Ad<|A4<|A1 (.fa Av rfl CQ dD rfl)<|Aj (Ae (DW _) rfl V rfl)<|A1 (.lenS Cg rfl)<|A3 rfl<|A0<|AT ?_
 obtain ⟨M,hM⟩:=eX ad.heap.size
 have eq:=aO.size
 have e6:=(V).lt
 have e7:=(aL).lt
 have cT:=(aK).lt
 have er:=(aM).lt
 have es:=(aN).lt
 rw [<- hM] at eq e6 e7 cT er es
 have eO:LB<=M:=by have:=b6;omega
 refine BO (α:=List AC) (λt=>[(1,ptV P),(2,ptV b),(18,Ag (cs.length:Int)),(19,Ag (t.length:Int))]) (λt w'=>AL w w'/\B4 w' P #[Ag k,Ag i,.string (bs s),.slice nkp keys.length nkc,.slice xl.1 cs.length xl.2,.slice ndp data.length ndc] 27/\B4 w' b #[Ag 0,Ag 0,.string ⟨#[]⟩,.slice none 0 0,.slice none 0 0,.slice none 0 0] 27/\AJ w' (λk=>k<w.heap.size) cs list/\AM F4 w' nkp keys/\Af w' ndp data/\AO Fi 27 LB w' (.slice xl.1 cs.length xl.2) (t++cs.drop t.length)/\AJ w' (λk=>M<=k) t (list.take t.length)/\M<=w'.heap.size/\t.length<=cs.length/\DY (λk=>b<k/\k<LB) w' (.slice nkp keys.length nkc) keys/\Es (λk=>b<k/\k<LB) w' (.slice ndp data.length ndc) data) (λt=>cs.length-t.length) ([]) ⟨rfl,rfl,rfl,rfl,tT⟩ (⟨aO,V,aL,c4,aM,aN,aK,⟨rfl,λi h=>by simp at h⟩,oO,FN _,c5,c6⟩) (λt w1 hR=>?_)
 obtain ⟨zs,rfl⟩:=eX t
 obtain ⟨p1,p2,p3,p4,p5,p6,p7,p8,p9,eP,cU,cV⟩:=hR
 have b7:M<=w1.heap.size:=p9
 refine A4<|A1 (.lss rfl rfl)<|A0<|Ad<|Ai rfl (λaB=>?_) (λaB=>?_)
 have c7:=dT aB
 refine As<|Ad<|AT<|A4<|A3 rfl<|A8 rfl ?_
 have et:(zs++cs.drop zs.length)[zs.length]'(by rw [A9,Aq];omega)=cs[zs.length]'oO:=by
  rw [Cp (DS _)];simp [Wg]
 have eQ:(zs++cs.drop zs.length).length=cs.length:=by rw [A9,Aq];omega
 have eu:=(p7).rowp.isp (by rw [A9,Aq];omega)
 have ev:=(p7).rowp
 have eR:=(p7).lt
 refine DF 11 rfl BS (λw'=>w'.heap[P]?=w1.heap[P]?/\True) (λan l=>?_)
 have b8:=HS b7 l
 have c8:=AO.drew p7 l
 have aP:=AJ.same (w1:=an) p4 (λk hk hl=>(by obtain ⟨m,rfl⟩:=l;rfl))
 have c9:=AJ.same (w1:=an) p8 (λk hk hl=>(by obtain ⟨m,rfl⟩:=l;rfl))
 have ca:=DY.same (w1:=an) cU (λk hk hl=>(by obtain ⟨m,rfl⟩:=l;rfl))
 have cb:=Es.same (w1:=an) cV (λk hk hl=>(by obtain ⟨m,rfl⟩:=l;rfl))
 have aQ:=p2.drew l
 have cc:=p3.drew l
 have aR:=p5.drew l
 have aS:=p6.drew l
 have aT:=ev.drew l
 have cd:=Cn.below p1 l
 have a7:=BU (aQ.trans p2.symm) BF
 refine Ac 0 rfl (.fa Av rfl CQ dD rfl) a7 ?_
 refine C6 1 rfl (λw' hw'=>Ae (DW _) rfl ((hw'.1).trans p2) rfl) a7 rfl ?_
 refine Ac 2 rfl (.mv rfl) a7 ?_
 refine Ac 3 rfl (.fa Av rfl CQ dD rfl) a7 ?_
 refine C6 4 rfl (λw' hw'=>Ae (DW _) rfl ((hw'.1).trans p2) rfl) a7 rfl ?_
 refine Ac 5 rfl (.mv rfl) a7 ?_
 refine Ac 6 rfl (.ixm Cg Dd rfl rfl (aT.isp oO) (zs.length) (rfl) oO) a7 ?_
 refine Br 7 rfl<|Aj (DG Av rfl Ah aT (zs.length) oO rfl)<|A0<|⟨a7,?_⟩
 refine Br 8 rfl<|Bf BQ rfl rfl ((ih (list[zs.length]'oO) (ef _ oO) _ (λk=>k<w.heap.size) _ _ _ (by rw [et];exact (aP).sub zs.length oO oO) (ee _ (Ar _)).choose_spec)) (λz ao y=>?_)
 have b9:=CT b8 y.2.size
 have aU:=AO.below c8 y.2
 have cf:=AJ.same (w1:=ao) aP (λk hk hl=>y.2.block k hl)
 have cg:=AJ.same (w1:=ao) c9 (λk hk hl=>y.2.block k hl)
 have ci:=DY.same (w1:=ao) ca (λk hk hl=>y.2.block k hl)
 have cj:=Es.same (w1:=ao) cb (λk hk hl=>y.2.block k hl)
 have ap:=aQ.bl y.2
 have ck:=cc.bl y.2
 have cl:=AM.below aR y.2 (λa=>aR.lt a)
 have cm:=Fh aS y.2 (λa=>aS.lt a)
 have cn:=Ci cd y.2
 have hz:=(y.1).1.mono (T:=λk=>M<=k) (λk hk _=>by (have:=Cn.size l);omega)
 have ew:=(cg).pushA hz
 refine A0<|⟨⟨(ap).trans (p2).symm,tT⟩,?_⟩
 refine Ac 9 rfl (.ixm Cg Dd rfl rfl eu zs.length rfl oO) ⟨(ap).trans (p2).symm,tT⟩ ?_
 refine Br 10 rfl<|Nn (L:=Fi) (z) (zs.length) aU oO Ah rfl rfl rfl (λaq ba af v bb=>?_)
 have e8:=(aU).lt ba (by rw [af];rfl)
 have eS:=cT ba (by rw [af];rfl)
 have co:=AJ.same (w1:=aq) cf (λk hk hl=>v.other k oM)
 have cq:=AJ.same (w1:=aq) ew (λk hk hl=>v.other k oM)
 have cr:=DY.same (w1:=aq) ci (λk hk hl=>v.other k oM)
 have ct:=Es.same (w1:=aq) cj (λk hk hl=>v.other k oM)
 have aV:=ap.up v
 have cu:=ck.up v
 have cv:=AM.upd cl v ((λa=>by (have:=q7 a;omega)))
 have cw:=Af.upd cm v ((λa=>by (have:=aw a;omega)))
 have cy:=BR cn oO v
 have bc:=CT b9 v.size
 have cW:=bb
 rw [S4 rfl oO] at cW
 have ae:=cq
 have ex:list.take zs.length++[list[zs.length]'oO]=list.take (zs++[z]).length:=by rw [A9];exact (B7 oO).symm
 rw [ex] at ae
 refine A0<|⟨⟨(aV).trans (p2).symm,tT⟩,?_⟩
 refine C3 kR<|An<|A1 (.iis (((zs++[z]).length:Int)) (.add rfl rfl (Bb oO)) (by rw [A9];simp))<|A3 rfl<|A0<|?_
 exact ⟨zs++[z],⟨rfl,rfl,rfl,rfl,tT⟩,⟨cy,aV,cu,co,cv,cw,by rw [A9];exact cW,ae,bc,(by rw [A9];simp;omega),cr,ct⟩,by rw [A9];simp;omega⟩
 have c7:=dF aB
 refine BL<|A4<|Aj (Bd rfl p2 Av rfl Ah)<|Az rfl rfl p3 Ah rfl rfl (λaC bd H ey=>?_)
 have ez:=CT b7 H.size
 have cz:=Bn p7 H oM
 have cA:=AJ.same (w1:=aC) p8 (λk hk hl=>H.other k oM)
 have cB:=DY.same (w1:=aC) cU (λk hk hl=>H.other k oM)
 have cC:=Es.same (w1:=aC) cV (λk hk hl=>H.other k oM)
 have cD:=AM.upd p5 H ((λa=>by (have:=q7 a;omega)))
 have cE:=Af.upd p6 H ((λa=>by (have:=aw a;omega)))
 have cF:=BR p1 oO H
 refine A0<|AU (BD rfl rfl (Ba bd Av rfl Ah)  ?_)
 obtain eA:zs.length=cs.length:=by omega
 have ar:=(cz).cast (show zs++cs.drop zs.length=zs by rw [List.drop_of_length_le oO,Fu])
 have ae:=cA
 rw [Al oO] at ae
 obtain ⟨-,r2,r3,r4,r5⟩:=ar.full
 refine ⟨⟨k,i,s,nkp,keys.length,nkc,xl.1,cs.length,xl.2,ndp,data.length,ndc⟩,EO rfl,⟨At.mk ⟨k,i,s,nkp,keys.length,nkc,xl.1,cs.length,xl.2,ndp,data.length,ndc⟩ keys list data zs ⟨m8,m7,rfl,eA.symm,rfl,q8,r2,cN,q9,r3,cO⟩ e9 cD (λa=>by have:=q7 a;show w.heap.size<=(pA nkp).block;omega) r4 (λa=>by have:=(ar.lt _ (r5 a)).1;show w.heap.size<=(pA xl.1).block;omega) cE (λa=>by have:=aw a;show w.heap.size<=(pA ndp).block;omega) oO (λj h1 h2=>(ae.sub j h1 h2).mono λk hk _=>by omega),⟨⟨_,(cB).mono (λk hk _=>by omega)⟩,⟨_,ar.base (λg hg=>FN _),λg hg=>by have:=ar.lt g hg;omega⟩,⟨_,(cC).mono (λk hk _=>by omega)⟩⟩⟩,cF⟩
end
section
theorem Yj (n:Int) (w:World):Calls Tryz.prog 64 #[Ag n] w λe w'=>e=.returned (.bool (Db n))/\w=w' :=
 (I7 n w).mono λe w' h=>⟨h.1,h.2⟩
end
section
theorem At.kind  {x:AC} {o:AV} (h:At w S x o):o.kind=x.kind:=by
 cases h;rfl
end
section
structure Xz (os:List AV):Prop where
 snd:∀ o∈os,FJ 32 true o
 sml:∀ o∈os,o.list.length<=100
 len:os.length<=4096
 size:(Ez (os.map Da)).length<=1048576
def Cw (os:List AV):l8_:=Ez (os.map Da)
def Dl (os:List AV):List Nat:=Dm 9 0 (os.map Da)
theorem GM (os:List AV):(Dl os).length=os.length:=by unfold Dl;rw [GN,Bo]
theorem Zf (os:List AV) (j:Nat) (hj:j<os.length):∃ R,NV j (Da os[j]) R <:+ Cw os/\(Dl os)[j]'(by rw [GM];exact hj)=sx (Cw os) (NV j (Da os[j]) R):=by
 obtain ⟨X,hX⟩:∃ X,Cw os=Jq++(Ep 0 (os.map Da)++X):=⟨_,rfl⟩
 obtain ⟨hp,R,a,b⟩:=P1 (os.map Da) Jq X 0 j (by rw [Bo];exact hj)
 rw [GX,D5] at a
 rw [<- hX] at a
 have e:Lu j (Da os[j])++R=NV j (Da os[j]) R:=by
  unfold Lu NV Zg Pq He
  simp only [AS,Bh,BT]
 rw [e] at a
 have d:(Dl os)[j]'(by rw [GM];exact hj)<=(Cw os).length:=by
  rw [hX];simp only [A9] at b ⊢
  have c:(Dl os)[j]'(by rw [GM];exact hj)=(Dm Jq.length 0 (os.map Da))[j]:=rfl
  omega
 refine ⟨R,?_,?_⟩
 · rw [<- a];exact List.drop_suffix _ _
 ·
  unfold sx
  rw [<- a,Aq]
  have c:(Dl os)[j]'(by rw [GM];exact hj)=(Dm Jq.length 0 (os.map Da))[j]:=rfl
  omega
theorem FJ.nine  {o:AV} (h:FJ D st o) (h9:o.kind=9):∃ ks vs d,o=.mk 9 0 [] ks vs d:=by
 cases h with
 | null=>simp [AV.kind] at h9
 | bool=>simp [AV.kind] at h9
 | num _ _ k n hk hf=>rcases hk with rfl | rfl <;> simp [AV.kind] at h9
 | name=>simp [AV.kind] at h9
 | text=>simp [AV.kind] at h9
 | ref=>simp [AV.kind] at h9
 | arr=>simp [AV.kind] at h9
 | dict _ _ k ks l d hk =>
  have:k=9:=h9
  subst this
  exact ⟨ks,l,d,rfl⟩
theorem Q5 (bf:Nat) (S:Nat->Prop) (os:List AV) (H:Xz os) (j:Nat) (hj:j<os.length) (w:World) (h:AK S w bf (Cw os) (Dl os)) :
  Calls Tryz.prog 111 #[ptV bf,Ag ((j+1:Nat):Int)] w λe w'=>∃ z:AC,e=.returned (.tuple #[.agg (D3 z).toArray,Ag 0])/\JO w' (λk=>w.heap.size<=k) z os[j]/\AL w w':=by
 obtain ⟨R,a,b⟩:=Zf os j hj
 have hS:=H.snd _ (Ar hj)
 have hm:=H.sml _ (Ar hj)
 have hl:=GM os
 have c:=H.len
 generalize os[j]=o at *
 by_cases h9:o.kind=9
 ·
  obtain ⟨ks,vs,d,rfl⟩:=hS.nine h9
  exact Q3 bf S _ _ j ks vs d R w h H.size oO oO a b hS hm
 · exact Q4 bf S _ _ j o R w h H.size oO oO a b hS h9
theorem Q2 (bf:Nat) (S:Nat->Prop) (l:l8_) (ps:List Nat) (w:World) (h:AK S w bf l ps) (hps:ps.length<=4096) :
  Calls Tryz.prog 34 #[ptV bf] w λe w'=>∃ z:AC,e=.returned (.agg (D3 z).toArray)/\JO w' (λk=>w.heap.size<=k) z (Rq (ps.length+1))/\AL w w':=by
 obtain ⟨p,c,bm,y,hf,-,hb,-,hc,hm,-,hy⟩:=h
 have d:=Rp (ps.length+1) oO
 have i:=hy.rep (by rw [<- Uz];exact Ry d)
 rw [<- Uz,ZK d (by simp [Rq,AV.kind])] at i
 refine AF func34 rfl ntmps34 ?_
 have u:=Dh w
 refine A4<|Bm CA rfl (λJ j m o a G=>?_)
 have v:=At.same (w1:=j) i (λk hk hl=>a.other k oO)
 have x:=Bt m hf.lt
 have A:=hf.un a x
 have B:=uB u m a
 refine A0<|Ad<|A4<|A3 rfl<|A1 (.eqP XR rfl)<|A0<|Ay rfl rfl<|As<|A4<|A3 rfl<|A1 (.nck rfl)<|A1 (.fa PP rfl Dd dD rfl)<|Aj (Vj (L:=Fi) Av rfl Ah A (Cx y) (rfl) rfl)<|Bf BQ rfl rfl ((N1 _ _ (NP _) (Cx y) S _ _ _ v d)) (λz H f=>?_)
 have C:=o.bl f.2
 have q:=Ci B f.2
 have hz:=(f.1).mono (T:=λk=>w.heap.size<=k/\j.heap.size<=k/\k<H.heap.size) (λk hk D=>⟨oO,hk,D⟩)
 refine Az rfl rfl C Ah rfl rfl (λE g b F=>?_)
 have s:=JO.same (w1:=E) hz (λk hk hl=>b.other k oM)
 have t:=BR q oO b
 refine A0<|AU (BD rfl rfl (Ba g Av rfl Ah)  ?_)
 exact ⟨z,rfl,(s).mono (λk hk _=>hk.1),t⟩
def FL (os:List AV):Nat->AV->Option AV
 | 0,o=>if o.kind=8 then none else some o
 | f+1,o=>if o.kind=8 then FL os f (os.getD (o.n-1).toNat (.mk 0 0 [] [] [] [])) else some o
theorem HX (os:List AV) (f:Nat) (o:AV) (h:o.kind≠8):FL os f o=some o:=by
 cases f <;> simp [FL,h]
theorem DJ (w:World) (S:Nat->Prop):At w S (Cx (DR 0 0 [])) (.mk 0 0 [] [] [] []):=by
 have:=(BJ.zero w S 0 0 []).rep (.mk _ _ _ _ _ oO (by simp) (by simp) (by simp))
 rw [show Rg (IL 0 0 [])=.mk 0 0 [] [] [] [] by simp [IL,Rg,W5]] at this
 exact this
theorem At.nE  {x:AC} {o:AV} (h:At w S x o):o.n=x.n:=by cases h;rfl
theorem Fj (bf:Nat) (S:Nat->Prop) (os:List AV) (H:Xz os) (hrange:∀ o∈os,o.kind=8->1<=o.n/\o.n<=os.length) (x:AC) (o:AV) (T:Nat->Prop) (R:Option AV) (w:World) (h:AK S w bf (Cw os) (Dl os)) (hx:At w T x o) (hS:FJ 32 true o)
    (hr:o.kind=8->1<=o.n/\o.n<=os.length) (hR:FL os 32 o=R) :
    Calls Tryz.prog 80 #[ptV bf,.agg (D3 x).toArray] w λe w'=>∃ z:AC,e=.returned (.tuple #[.agg (D3 z).toArray,Ag (if R.isSome then 0 else 27)])/\At w' (λk=>w.heap.size<=k) z (R.getD (.mk 0 0 [] [] [] []))/\AL w w':=by
  have aw:AK (λk=>k<w.heap.size) w bf (Cw os) (Dl os):=h.mono λk _ hk=>hk
  have ax:At w (λk=>k<w.heap.size) x o:=hx.mono λk _ hk=>hk
  refine AF func80 rfl ntmps80 ?_;have ay:=Dh w;refine A4<|WL.box rfl rfl (λJ a6 az K g aW=>?_);have aA:=AK.same (w1:=a6) aw (λk hk hl=>g.other k oO);have aB:=At.same (w1:=a6) ax (λk hk hl=>g.other k oO);have aC:=uB ay az g;refine Bm CA rfl (λL a7 a8 ac d aX=>?_);have aD:=AK.same (w1:=a7) aA (λk hk hl=>d.other k oO);have aE:=At.same (w1:=a7) aB (λk hk hl=>d.other k oO);have aF:=Bt a8 K.lt;have aG:=K.un d aF;have ad:=uB aC a8 d;refine A8 rfl<|Ad<|A4<|A3 rfl<|A1 (.eqP XR rfl)<|A0<|Ay rfl rfl<|As<|Ad<|A4<|A3 rfl<|A0<|AT ?_;have aH:=(aE).mono (T:=λk=>k≠J/\k≠L) (λk hk _=>by omega);refine BO (α:=AC × AV × Nat) (λt=>[(0,ptV bf),(3,ptV J),(4,ptV L),(10,Ag (t.2.2:Int))]) (λt w'=>AL w w'/\B4 w' J (D3 t.1).toArray 27/\B4 w' L #[Ag 0,Ag 0,.string ⟨#[]⟩,.slice none 0 0,.slice none 0 0,.slice none 0 0] 27/\AK (λk=>k<w.heap.size) w' bf (Cw os) (Dl os)/\At w' (λk=>k≠J/\k≠L) t.1 t.2.1/\FJ 32 true t.2.1/\(t.2.1.kind=8->1<=t.2.1.n/\t.2.1.n<=os.length)/\FL os (32-t.2.2) t.2.1=R/\t.2.2<=32) (λt=>32-t.2.2) ((x,o,0)) ⟨rfl,rfl,rfl,rfl,tT⟩ (⟨ad,aG,ac,aD,aH,hS,hr,hR,FN _⟩) (λt w1 hR=>?_);obtain ⟨y,u,i⟩:=t;obtain ⟨G,l,m,p4,N,p6,p7,f,p9⟩:=hR;simp only at l N p6 p7 f p9 ⊢;have a9:=N.kind;have aI:=N.nE;refine A4<|A1 (.lss rfl rfl)<|A0<|Ad<|Ai rfl (λP=>?_) (λP=>?_)
  · have ae := dT P
    refine As<|Ad<|AT<|Ad<|A4<|A1 (.fa Av rfl BI dD rfl)<|Aj (Ae (C5 _) rfl l rfl)<|A1 (.bis (!decide (u.kind=8)) (.neq rfl rfl) (by rw [a9]))<|A0<|Ai rfl (λQ=>?_) (λQ=>?_)
    · have af := ndT Q
      have a:R=some u:=by rw [<- f];exact HX _ _ _ aS
      subst a;refine A4<|Aj (Bd rfl l Av rfl Ah)<|?_;have U:=(m).lt;have a0:=G.size;refine Bf BQ rfl rfl ((N1 _ u (NP _) y _ _ _ _ N p6)) (λz aJ s=>?_);have ag:=m.bl s.2;have ah:=Ci G s.2;have hz:=(s.1).1.mono (T:=λk=>w.heap.size<=k/\w1.heap.size<=k/\k<aJ.heap.size) (λk hk D=>⟨oO,hk,D⟩);refine Az rfl rfl ag Ah rfl rfl (λaK a1 E aR=>?_);have V:=At.same (w1:=aK) hz (λk hk hl=>E.other k oM);have v:=BR ah oO E;refine A8 rfl<|AU (Ed rfl rfl (Ba a1 Av rfl Ah) rfl ?_)
      first
      | exact ⟨z,rfl,(V).mono (λk hk _=>hk.1),v⟩
      | (obtain rfl : i = 32 := by omega
         have a:R=none:=by
           rw [<- f]
           show FL os 0 u=none
           unfold FL;exact A5 aS
         subst a;exact ⟨Cx (DR 0 0 []),rfl,DJ _ _,v⟩)
      | (have a : R = some u := by rw [← f]; exact HX _ _ _ aS
         subst a;exact ⟨z,rfl,(V).mono (λk hk _=>hk.1),v⟩)
    have af:=ndF Q;have aa:u.kind=8:=by assumption
    obtain ⟨r1,r2⟩:=p7 aa;obtain ⟨j,aL⟩:∃ j:Nat,u.n=((j+1:Nat):Int):=⟨(u.n-1).toNat,oO⟩;have hj:j<os.length:=by omega
    have aM:y.n=((j+1:Nat):Int):=by rw [<- aI];exact aL
    have aN:os.getD (u.n-1).toNat (.mk 0 0 [] [] [] [])=os[j]:=by
      rw [show (u.n-1).toNat=j by omega,D8,Ak hj];rfl
    refine As<|A4<|A8 rfl<|A4<|A3 rfl<|A1 (.fa Av rfl BI dD rfl)<|Aj (Ae (C5 _) rfl l rfl)<|?_;have U:=(m).lt;refine Bf BQ rfl rfl ((by have q:=Q5 bf _ os H j hj _ p4;rw [<- aM] at q;exact q)) (λz aO c=>?_);have ai:=AK.same (w1:=aO) p4 (λk hk hl=>c.2.block k hl);have aj:=l.bl c.2;have ak:=m.bl c.2;have am:=Ci G c.2;have hz:=(c.1).1.mono (T:=λk=>k≠J/\k≠L) (λk hk D=>⟨oO,oO⟩);refine A3 rfl<|A1 (.ext rfl rfl)<|A1 (.ext rfl rfl)<|Az rfl rfl aj Ah rfl rfl (λab a2 b aT=>?_);have an:=AK.same (w1:=ab) ai (λk hk hl=>b.other k oM);have ao:=At.same (w1:=ab) hz (λk hk hl=>b.other k oM);have ap:=ak.up b;have aq:=BR am oO b;refine A8 rfl<|A4<|A3 rfl<|A1 (.bis (false) (.neq rfl rfl) dD)<|A0<|Ay rfl rfl<|As<|An<|A1 (.iis (((i+1:Nat):Int)) (.add rfl rfl (Bb oO)) oO)<|A3 rfl<|A0<|?_;exact ⟨(z,os[j],i+1),⟨rfl,rfl,rfl,rfl,tT⟩,⟨aq,a2,ap,an,ao,H.snd _ (Ar hj),hrange _ (Ar hj),by (have q:=f);(rw [show 32-i=(32-(i+1))+1 by omega,FL,A5 aa,aN] at q);exact q,oM⟩,oM⟩
  have ae:=dF P;refine BL<|Ad<|A4<|A1 (.fa Av rfl BI dD rfl)<|Aj (Ae (C5 _) rfl l rfl)<|A1 (.bis (decide (u.kind=8)) (.eql rfl rfl) (by rw [a9]))<|A0<|Ai rfl (λX=>?_) (λX=>?_)
  · have ar := dT X
    refine A4<|A1 (.buildL (ps:=_) Ec rfl rfl rfl pZ) ?_;refine Az rfl rfl m Ah rfl rfl (λaY a3 a4 aU=>?_);have A:=BR G oO a4;refine A8 rfl<|AU (Ed rfl rfl (Ba a3 Av rfl Ah) rfl ?_)
    first
    | exact ⟨z,rfl,(FACT).mono (λk hk _=>hk.1),A⟩
    | (obtain rfl : i = 32 := by omega
       have a:R=none:=by
         rw [<- f]
         show FL os 0 u=none
         unfold FL;exact A5 aS
       subst a;exact ⟨Cx (DR 0 0 []),rfl,DJ _ _,A⟩)
    | (have a : R = some u := by rw [← f]; exact HX _ _ _ aS
       subst a;exact ⟨z,rfl,(FACT).mono (λk hk _=>hk.1),A⟩)
  have ar:=dF X;refine As<|A4<|Aj (Bd rfl l Av rfl Ah)<|?_;have U:=(m).lt;have a0:=G.size;refine Bf BQ rfl rfl ((N1 _ u (NP _) y _ _ _ _ N p6)) (λz aP B=>?_);have au:=m.bl B.2;have av:=Ci G B.2;have hz:=(B.1).1.mono (T:=λk=>w.heap.size<=k/\w1.heap.size<=k/\k<aP.heap.size) (λk hk D=>⟨oO,hk,D⟩);refine Az rfl rfl au Ah rfl rfl (λaQ a5 F aV=>?_);have Y:=At.same (w1:=aQ) hz (λk hk hl=>F.other k oM);have C:=BR av oO F;refine A8 rfl<|AU (Ed rfl rfl (Ba a5 Av rfl Ah) rfl ?_)
  first
  | exact ⟨z,rfl,(Y).mono (λk hk _=>hk.1),C⟩
  | (obtain rfl : i = 32 := by omega
     have a:R=none:=by
       rw [<- f]
       show FL os 0 u=none
       unfold FL;exact A5 aS
     subst a;exact ⟨Cx (DR 0 0 []),rfl,DJ _ _,C⟩)
  | (have a : R = some u := by rw [← f]; exact HX _ _ _ aS
     subst a;exact ⟨z,rfl,(Y).mono (λk hk _=>hk.1),C⟩)
end
section
def Mp (s:List (l8_)) (x:l8_):Int:=if x∈s then (s.idxOf x:Int) else -1
theorem RX {s:List (l8_)} {x:l8_} {k:Nat} (hk:k<s.length) (hx:s[k]=x) (hf:x ∉ s.take k):Mp s x=(k:Int):=by
 have hm:x∈s:=hx▸Ar hk
 unfold Mp
 rw [A5 hm]
 congr 1
 have a:s=s.take k++s.drop k:=(Ds k s).symm
 rw [a,List.idxOf_append,A2 hf,Aw hk,hx,List.idxOf_cons_self,Ap]
 omega
theorem YE {s:List (l8_)} {x:l8_} {k:Nat} (hk:k<s.length) (hf:x ∉ s.take k) (hx:s[k]≠x):x ∉ s.take (k+1):=by
 rw [List.take_add_one,Ak hk,Option.toList_some,Bj,not_or,Bl]
 exact ⟨hf,λe=>hx e.symm⟩
theorem Pi (q:Option Addr) (s:List (l8_)) (c:Nat) (x:l8_) (w:World) (hb:AM F4 w q s) (hl:s.length<=9223372036854775807) :
  Calls Tryz.prog 60 #[.slice q s.length c,.string (bs x)] w λe w'=>e=.returned (Ag (Mp s x))/\w=w':=by
 refine AF func60 rfl ntmps60<|A4<|A8 rfl<|Ad<|A4<|A3 rfl<|A1 (.lenS DD rfl)<|A3 rfl<|A0<|AT<|BO (α:=Nat) (λt=>[(0,.slice q s.length c),(1,.string (bs x)),(7,Ag (s.length:Int)),(8,Ag (t:Int))]) (λt w'=>w=w'/\t<=s.length/\x ∉ s.take t) (λt=>s.length-t) (0) ⟨rfl,rfl,rfl,rfl,tT⟩ (⟨rfl,FN _,by simp⟩) (λt g hR=>?_)
 obtain ⟨k,rfl⟩:=eX t
 obtain ⟨rfl,hk,hf⟩:=hR
 refine A4<|A1 (.lss rfl rfl)<|A0<|Ad<|Ai rfl (λa=>?_) (λa=>?_)
 have d:=dT a
 refine As<|Ad<|AT<|A4<|A3 rfl<|A8 rfl<|A4<|A3 rfl<|A3 rfl<|A3 rfl<|A1 (.ixb DD FP rfl rfl (hb.isp oO) (k) (rfl) oO)<|Aj (BG (FU _) rfl (hb.cells (k) oO))<|A1 (.eqs rfl rfl)<|A0<|Ai rfl (λb=>?_) (λb=>?_)
 have f:=dT b
 refine A4<|A3 rfl<|A8 rfl<|AY ?_
 first
 | exact ⟨EO (BH (Value.int .i64) (RX aS (Eq.symm aS) hf).symm),rfl⟩
 | exact ⟨EO (BH (Value.int .i64) (RX (Int.ofNat_lt.1 aS) (Eq.symm aS) hf).symm),rfl⟩
 | exact ⟨EO (BH (Value.int .i64) (by unfold Mp;rw [A2 (by rw [show k=s.length by omega,D7] at hf;exact hf)])),rfl⟩
 have f:=dF b
 refine As<|An<|A1 (.iis (((k+1:Nat):Int)) (.add rfl rfl (Bb oO)) oO)<|A3 rfl<|A0<|?_
 exact ⟨k+1,⟨rfl,rfl,rfl,rfl,tT⟩,⟨rfl,oM,YE oO hf (λe=>Dp e.symm aS)⟩,oM⟩
 have d:=dF a
 refine BL<|A4<|A8 rfl<|AY ?_
 first
 | exact ⟨EO (BH (Value.int .i64) (RX aS (Eq.symm aS) hf).symm),rfl⟩
 | exact ⟨EO (BH (Value.int .i64) (RX (Int.ofNat_lt.1 aS) (Eq.symm aS) hf).symm),rfl⟩
 | exact ⟨EO (BH (Value.int .i64) (by unfold Mp;rw [A2 (by rw [show k=s.length by omega,D7] at hf;exact hf)])),rfl⟩
def De (o:AV) (k:l8_):Option AV:=if o.kind=7\/o.kind=9 then (if k∈o.keys then o.list[o.keys.idxOf k]? else none) else none
def A3j:AV:=.mk 0 0 [] [] [] []
def ES:AC:=Cx (DR 0 0 [])
theorem X8 {o:AV} {k:l8_} (h:¬ (o.kind=7\/o.kind=9)):De o k=none:=A2 h
theorem Gx {o:AV} {k:l8_} (h:Mp o.keys k<0\/(o.list.length:Int)<=Mp o.keys k):De o k=none:=by
 unfold De
 split
 ·
  split
  ·
   rename_i hm
   unfold Mp at h
   rw [A5 hm] at h
   exact AZ oO
  · rfl
 · rfl
theorem VN {o:AV} {k:l8_} (hk:o.kind=7\/o.kind=9) (h:Mp o.keys k=(i:Int)) (hi:i<o.list.length):De o k=some o.list[i]:=by
 unfold De
 unfold Mp at h
 split at h
 ·
  rename_i hm
  have:o.keys.idxOf k=i:=by omega
  rw [A5 hk,A5 hm,this,Ak hi]
 · omega
theorem H8 (x:AC) (o:AV) (S:Nat->Prop) (k:l8_) (w:World) (h:At w S x o) :
  Calls Tryz.prog 37 #[.agg (D3 x).toArray,.string (bs k)] w λe w'=>∃ z:{ z:AC // At w S z ((De o k).getD A3j) },e=.returned (.tuple #[.agg (D3 z.1).toArray,.bool (De o k).isSome])/\AL w w':=by
 obtain ⟨keys,list,data,cs,ho,ok,aH,hk,aI,hr,aJ,hd,aK,aE,f⟩:=h.inv
 obtain ⟨xk,xn,xt,xkp,xkl,xkc,xlp,xll,xlc,xdp,xdl,xdc⟩:=x
 have o1:=ok.kl
 have o2:=ok.ll
 have o3:=ok.kc
 have o4:=ok.km
 have o5:=ok.lc
 have o6:=ok.lm
 simp only at o1 o2 o3 o4 o5 o6 ho hk hr
 subst o1 o2
 have aL:o.kind=xk:=by rw [ho];rfl
 have c:o.keys=keys:=by rw [ho];rfl
 have t:o.list=list:=by rw [ho];rfl
 simp only [D3]
 refine AF func37 rfl ntmps37 ?_
 have ad:=Dh w
 refine A4<|WL.box rfl rfl (λb1 aM J K A aF=>?_)
 have ah:=λg=>J▸hk.lt g
 have ae:=AM.upd hk A (λg=>CV (ah g))
 have ai:=λg=>J▸hr.lt g
 have af:=AA.upd hr A (λg=>CV (ai g))
 have ag:=uB ad J A
 have av:=CW J ad.size
 refine Bm CA rfl (λb7 aN y j u aG=>?_)
 have au:=Bt y K.lt
 have s:=K.un u au
 have U:=λg=>y▸ae.lt g
 have L:=AM.upd ae u (λg=>CV (U g))
 have V:=λg=>y▸af.lt g
 have v:=AA.upd af u (λg=>CV (V g))
 have l:=uB ag y u
 have aw:=CW y ag.size
 refine A8 rfl<|Ad<|A4<|A1 (.fa Av rfl BI dD rfl)<|Aj (Ae (C5 _) rfl s rfl)<|A1 (.neq rfl rfl)<|A3 rfl<|Cc rfl rfl rfl (λm=>?_) (λm=>?_)
 have aj:=ndT m
 refine A1 (.fa Av rfl BI dD rfl)<|AE m<|Aj (Ae (C5 _) rfl s rfl)<|AE m<|A1 (.neq rfl rfl)<|A1 (.pkT rfl m rfl)<|A0<|Ai rfl (λP=>?_) (λP=>?_)
 have ak:=ndT P
 have hn:De o k=none:=X8 oO
 refine A4<|A1 (.buildL (ps:=_) Ec rfl rfl rfl pZ) ?_
 refine Az rfl rfl j Ah rfl rfl (λaO X a0 ax=>?_)
 have B:=BR l oO a0
 refine A8 rfl<|AU (Ed rfl rfl (Ba X Av rfl Ah) rfl ?_)
 first
 | exact ⟨⟨ES,by rw [hn];exact DJ _ _⟩,EO (show Value.tuple #[.agg (D3 ES).toArray,.bool false]=Value.tuple #[.agg (D3 ES).toArray,.bool (De o k).isSome] by rw [hn];rfl),B⟩
 | (have hn:De o k=none:=Gx (.inl (by rw [c];assumption));exact ⟨⟨ES,by rw [hn];exact DJ _ _⟩,EO (show Value.tuple #[.agg (D3 ES).toArray,.bool false]=Value.tuple #[.agg (D3 ES).toArray,.bool (De o k).isSome] by rw [hn];rfl),B⟩)
 | exact ⟨⟨cs[i],by rw [hn];exact (f i oO d)⟩,EO (show Value.tuple #[.agg (D3 cs[i]).toArray,.bool true]=Value.tuple #[.agg (D3 cs[i]).toArray,.bool (De o k).isSome] by rw [hn];rfl),B⟩
 have ak:=ndF P
 refine As<|A4<|A1 (.fa Av rfl E6 dD rfl)<|Aj (Ae (Fs _) rfl s rfl)<|A3 rfl<|Cs BQ rfl rfl ((Pi _ keys _ k _ L oO)) (λaP am=>?_)
 obtain rfl:=am
 refine A8 rfl<|Ad<|A4<|A3 rfl<|A1 (.lss rfl rfl)<|A3 rfl<|Cc rfl rfl rfl (λa=>?_) (λa=>?_)
 have an:=dF a
 refine A3 rfl<|AE a<|A1 (.fa Av rfl CQ dD rfl)<|AE a<|Aj (Ae (DW _) rfl s rfl)<|AE a<|A1 (.lenS Cg rfl)<|AE a<|A1 (.geq rfl rfl)<|A1 (.pkF rfl a rfl)<|A0<|Ai rfl (λQ=>?_) (λQ=>?_)
 have ao:=dT Q
 have hn:De o k=none:=Gx (by rw [c,t];omega)
 refine A4<|A1 (.buildL (ps:=_) Ec rfl rfl rfl pZ) ?_
 refine Az rfl rfl j Ah rfl rfl (λaQ a1 a2 ay=>?_)
 have C:=BR l oO a2
 refine A8 rfl<|AU (Ed rfl rfl (Ba a1 Av rfl Ah) rfl ?_)
 first
 | exact ⟨⟨ES,by rw [hn];exact DJ _ _⟩,EO (show Value.tuple #[.agg (D3 ES).toArray,.bool false]=Value.tuple #[.agg (D3 ES).toArray,.bool (De o k).isSome] by rw [hn];rfl),C⟩
 | (have hn:De o k=none:=Gx (.inl (by rw [c];assumption));exact ⟨⟨ES,by rw [hn];exact DJ _ _⟩,EO (show Value.tuple #[.agg (D3 ES).toArray,.bool false]=Value.tuple #[.agg (D3 ES).toArray,.bool (De o k).isSome] by rw [hn];rfl),C⟩)
 | exact ⟨⟨cs[i],by rw [hn];exact (f i oO d)⟩,EO (show Value.tuple #[.agg (D3 cs[i]).toArray,.bool true]=Value.tuple #[.agg (D3 cs[i]).toArray,.bool (De o k).isSome] by rw [hn];rfl),C⟩
 have ao:=dF Q
 obtain ⟨i,hi⟩:∃ i:Nat,Mp keys k=i:=⟨(Mp keys k).toNat,oO⟩
 have d:i<list.length:=by omega
 have hn:De o k=some list[i]:=by
  have q:=VN (o:=o) (k:=k) (i:=i) oO (by rw [c];exact hi) (by rw [t];exact d);simp only [t] at q;exact q
 refine As<|A4<|A1 (.fa Av rfl CQ dD rfl)<|Aj (Ae (DW _) rfl s rfl)<|A3 rfl<|A1 (.ixm Cg Dd rfl rfl (v.isp oO) (i) (hi) (by show i<cs.length;omega))<|Aj (DG Av rfl Ah v (i) oO rfl)<|Az rfl rfl j Ah rfl rfl (λaR a3 a4 az=>?_)
 have D:=BR l oO a4
 refine A8 rfl<|AU (Ed rfl rfl (Ba a3 Av rfl Ah) rfl ?_)
 first
 | exact ⟨⟨ES,by rw [hn];exact DJ _ _⟩,EO (show Value.tuple #[.agg (D3 ES).toArray,.bool false]=Value.tuple #[.agg (D3 ES).toArray,.bool (De o k).isSome] by rw [hn];rfl),D⟩
 | (have hn:De o k=none:=Gx (.inl (by rw [c];assumption));exact ⟨⟨ES,by rw [hn];exact DJ _ _⟩,EO (show Value.tuple #[.agg (D3 ES).toArray,.bool false]=Value.tuple #[.agg (D3 ES).toArray,.bool (De o k).isSome] by rw [hn];rfl),D⟩)
 | exact ⟨⟨cs[i],by rw [hn];exact (f i oO d)⟩,EO (show Value.tuple #[.agg (D3 cs[i]).toArray,.bool true]=Value.tuple #[.agg (D3 cs[i]).toArray,.bool (De o k).isSome] by rw [hn];rfl),D⟩
 have an:=dT a
 refine B6 a<|B6 a<|B6 a<|B6 a<|A1 (.pkT rfl a rfl)<|A0<|BZ rfl rfl ?_
 refine A4<|A1 (.buildL (ps:=_) Ec rfl rfl rfl pZ) ?_
 refine Az rfl rfl j Ah rfl rfl (λaS a5 a6 aA=>?_)
 have E:=BR l oO a6
 refine A8 rfl<|AU (Ed rfl rfl (Ba a5 Av rfl Ah) rfl ?_)
 first
 | exact ⟨⟨ES,by rw [hn];exact DJ _ _⟩,EO (show Value.tuple #[.agg (D3 ES).toArray,.bool false]=Value.tuple #[.agg (D3 ES).toArray,.bool (De o k).isSome] by rw [hn];rfl),E⟩
 | (have hn:De o k=none:=Gx (.inl (by rw [c];assumption));exact ⟨⟨ES,by rw [hn];exact DJ _ _⟩,EO (show Value.tuple #[.agg (D3 ES).toArray,.bool false]=Value.tuple #[.agg (D3 ES).toArray,.bool (De o k).isSome] by rw [hn];rfl),E⟩)
 | exact ⟨⟨cs[i],by rw [hn];exact (f i oO d)⟩,EO (show Value.tuple #[.agg (D3 cs[i]).toArray,.bool true]=Value.tuple #[.agg (D3 cs[i]).toArray,.bool (De o k).isSome] by rw [hn];rfl),E⟩
 have aj:=ndF m
 refine B6 m<|B6 m<|A1 (.pkF rfl m rfl)<|A0<|Ay rfl rfl<|As<|A4<|A1 (.fa Av rfl E6 dD rfl)<|Aj (Ae (Fs _) rfl s rfl)<|A3 rfl<|Cs BQ rfl rfl ((Pi _ keys _ k _ L oO)) (λaT ap=>?_)
 obtain rfl:=ap
 refine A8 rfl<|Ad<|A4<|A3 rfl<|A1 (.lss rfl rfl)<|A3 rfl<|Cc rfl rfl rfl (λb=>?_) (λb=>?_)
 have aq:=dF b
 refine A3 rfl<|AE b<|A1 (.fa Av rfl CQ dD rfl)<|AE b<|Aj (Ae (DW _) rfl s rfl)<|AE b<|A1 (.lenS Cg rfl)<|AE b<|A1 (.geq rfl rfl)<|A1 (.pkF rfl b rfl)<|A0<|Ai rfl (λT=>?_) (λT=>?_)
 have ar:=dT T
 have hn:De o k=none:=Gx (by rw [c,t];omega)
 refine A4<|A1 (.buildL (ps:=_) Ec rfl rfl rfl pZ) ?_
 refine Az rfl rfl j Ah rfl rfl (λaU a7 a8 aB=>?_)
 have F:=BR l oO a8
 refine A8 rfl<|AU (Ed rfl rfl (Ba a7 Av rfl Ah) rfl ?_)
 first
 | exact ⟨⟨ES,by rw [hn];exact DJ _ _⟩,EO (show Value.tuple #[.agg (D3 ES).toArray,.bool false]=Value.tuple #[.agg (D3 ES).toArray,.bool (De o k).isSome] by rw [hn];rfl),F⟩
 | (have hn:De o k=none:=Gx (.inl (by rw [c];assumption));exact ⟨⟨ES,by rw [hn];exact DJ _ _⟩,EO (show Value.tuple #[.agg (D3 ES).toArray,.bool false]=Value.tuple #[.agg (D3 ES).toArray,.bool (De o k).isSome] by rw [hn];rfl),F⟩)
 | exact ⟨⟨cs[i],by rw [hn];exact (f i oO d)⟩,EO (show Value.tuple #[.agg (D3 cs[i]).toArray,.bool true]=Value.tuple #[.agg (D3 cs[i]).toArray,.bool (De o k).isSome] by rw [hn];rfl),F⟩
 have ar:=dF T
 obtain ⟨i,hi⟩:∃ i:Nat,Mp keys k=i:=⟨(Mp keys k).toNat,oO⟩
 have d:i<list.length:=by omega
 have hn:De o k=some list[i]:=by
  have q:=VN (o:=o) (k:=k) (i:=i) oO (by rw [c];exact hi) (by rw [t];exact d);simp only [t] at q;exact q
 refine As<|A4<|A1 (.fa Av rfl CQ dD rfl)<|Aj (Ae (DW _) rfl s rfl)<|A3 rfl<|A1 (.ixm Cg Dd rfl rfl (v.isp oO) (i) (hi) (by show i<cs.length;omega))<|Aj (DG Av rfl Ah v (i) oO rfl)<|Az rfl rfl j Ah rfl rfl (λaV a9 aa aC=>?_)
 have G:=BR l oO aa
 refine A8 rfl<|AU (Ed rfl rfl (Ba a9 Av rfl Ah) rfl ?_)
 first
 | exact ⟨⟨ES,by rw [hn];exact DJ _ _⟩,EO (show Value.tuple #[.agg (D3 ES).toArray,.bool false]=Value.tuple #[.agg (D3 ES).toArray,.bool (De o k).isSome] by rw [hn];rfl),G⟩
 | (have hn:De o k=none:=Gx (.inl (by rw [c];assumption));exact ⟨⟨ES,by rw [hn];exact DJ _ _⟩,EO (show Value.tuple #[.agg (D3 ES).toArray,.bool false]=Value.tuple #[.agg (D3 ES).toArray,.bool (De o k).isSome] by rw [hn];rfl),G⟩)
 | exact ⟨⟨cs[i],by rw [hn];exact (f i oO d)⟩,EO (show Value.tuple #[.agg (D3 cs[i]).toArray,.bool true]=Value.tuple #[.agg (D3 cs[i]).toArray,.bool (De o k).isSome] by rw [hn];rfl),G⟩
 have aq:=dT b
 refine B6 b<|B6 b<|B6 b<|B6 b<|A1 (.pkT rfl b rfl)<|A0<|BZ rfl rfl ?_
 refine A4<|A1 (.buildL (ps:=_) Ec rfl rfl rfl pZ) ?_
 refine Az rfl rfl j Ah rfl rfl (λaW ab ac aD=>?_)
 have H:=BR l oO ac
 refine A8 rfl<|AU (Ed rfl rfl (Ba ab Av rfl Ah) rfl ?_)
 first
 | exact ⟨⟨ES,by rw [hn];exact DJ _ _⟩,EO (show Value.tuple #[.agg (D3 ES).toArray,.bool false]=Value.tuple #[.agg (D3 ES).toArray,.bool (De o k).isSome] by rw [hn];rfl),H⟩
 | (have hn:De o k=none:=Gx (.inl (by rw [c];assumption));exact ⟨⟨ES,by rw [hn];exact DJ _ _⟩,EO (show Value.tuple #[.agg (D3 ES).toArray,.bool false]=Value.tuple #[.agg (D3 ES).toArray,.bool (De o k).isSome] by rw [hn];rfl),H⟩)
 | exact ⟨⟨cs[i],by rw [hn];exact (f i oO d)⟩,EO (show Value.tuple #[.agg (D3 cs[i]).toArray,.bool true]=Value.tuple #[.agg (D3 cs[i]).toArray,.bool (De o k).isSome] by rw [hn];rfl),H⟩
end
section
abbrev TrE {α:Type} (w:World) (res:Except Int α) (S:α->Value->World->Prop):Ending->World->Prop:=λe w'=>Hl 35 res (λa v w'=>AL w w'/\S a v w') (λw'=>AL w w') e w'
abbrev TrB {α:Type} (w:World) (res:Except Int α) (V:α->Value):Ending->World->Prop:=Ce 35 res V (λ_ w'=>AL w w') (λw'=>AL w w')
def FR (e:Int):Except Int Unit:=if e=0 then .ok () else .error e
def KT (b:Bool):Except Int Unit:=if b=true then .ok () else .error 22
theorem GS (e:Int) (w:World):Calls Tryz.prog 59 #[Ag e] w (TrB w (FR e) λ_=>.tuple #[]):=by
 refine AF func59 rfl ntmps59 ?_
 have a:=Dh w
 refine A4<|A3 rfl<|A1 (.neq rfl rfl)<|A0<|Ai rfl (λb=>?_) (λb=>?_)
 have c:=ndT b
 refine An<|A3 rfl<|A1 (.mkI MM rfl)<|G4 rfl (Bx ?_)
 exact BB e (by unfold FR;rw [A2 aS]) a
 have c:=ndF b
 refine As<|D9 (CU rfl ?_)
 exact Ce.ok () (by unfold FR;rw [A5 aS]) rfl a
theorem T8 {u:Unit}:¬ FR 22=.ok u:=by unfold FR;rw [A2 dD];exact λh=>nomatch h
theorem E5 (b:Bool) (w:World):Calls Tryz.prog 35 #[.bool b] w (TrB w (KT b) λ_=>.tuple #[]):=by
 refine AF func35 rfl ntmps35 ?_
 have c:=Dh w
 refine A4<|A3 rfl<|A1 (.not rfl)<|A0<|Ai rfl (λg=>?_) (λg=>?_)
 refine An<|Ch BQ rfl rfl ((GS 22 _)) (λh i a d=>?_) (λj i a d=>?_)
 have e:=Ex c (Below.mono d c.size)
 exact Bx (BB h (by unfold KT;rw [A2 (by simp_all)];unfold FR at a;rw [A2 dD] at a;exact a) e)
 have f:=Ci c d
 refine A0<|D9 (CU rfl ?_)
 first
 | exact Dp aS T8
 | exact Ce.ok () (by unfold KT;rw [A5 (by simp_all)]) rfl f
 refine As<|D9 (CU rfl ?_)
 first
 | exact Dp aS T8
 | exact Ce.ok () (by unfold KT;rw [A5 (by simp_all)]) rfl c
inductive Sj (n:Nat):AV->Prop
 | mk (o:AV) (h:o.kind=8->1<=o.n/\o.n<=n) (hl:∀ x∈o.list,Sj n x):Sj n o
theorem Sj.ref {n:Nat} {o:AV} (h:Sj n o):o.kind=8->1<=o.n/\o.n<=n:=by cases h;assumption
theorem Sj.sub {n:Nat} {o:AV} (h:Sj n o):∀ x∈o.list,Sj n x:=by cases h;assumption
structure Ir (os:List AV) (o:AV):Prop where
 snd:FJ 32 true o
 rng:Sj os.length o
theorem FJ.more  {E:Int} {su:Bool} {o:AV} (h:FJ D st o) (hD:D<=E) (hs:st=true->su=true):FJ E su o:=by
 induction h generalizing E su with
 | null=>exact .null _ _
 | bool _ _ n h=>exact .bool _ _ n h
 | num _ _ k n hk h=>exact .num _ _ k n hk h
 | name _ _ t h=>exact .name _ _ t h
 | text _ _ t h=>exact .text _ _ t h
 | ref _ _ n h=>exact .ref _ _ n h
 | arr D st l h1 h2 h ih=>exact .arr _ _ l oO h2 λo ho=>ih o ho oO (λe=>by cases e)
 | dict D st k ks l d hk h1 h2 h3 h4 h5 h ih=>exact .dict _ _ k ks l d (hk.imp id λq=>⟨q.1,hs q.2.1,q.2.2⟩) oO h2 h3 h4 h5 λo ho=>ih o ho oO (λe=>by cases e)
theorem FJ.sub  {o:AV} (h:FJ D st o):∀ x∈o.list,FJ (D-1) false x:=by
 cases h with
 | arr _ _ l h1 h2 h=>exact h
 | dict _ _ k ks l d hk h1 h2 h3 h4 h5 h=>exact h
 | _=>exact λx hx=>(by cases hx)
theorem Ir.sub {os:List AV} {o:AV} (h:Ir os o) {x:AV} (hx:x∈o.list):Ir os x:=⟨(h.snd.sub x hx).more oO (λe=>by cases e),h.rng.sub x hx⟩
theorem Ir.key {os:List AV} {o x:AV} {k:l8_} (h:Ir os o) (hk:De o k=some x):Ir os x:=by
 unfold De at hk
 split at hk
 ·
  split at hk
  · exact h.sub (List.mem_of_getElem? hk)
  · cases hk
 · cases hk
theorem Ir.ref {os:List AV} {n:Int} (h:1<=n/\n<=os.length) (hl:os.length<=4096):Ir os (.mk 8 n [] [] [] []):=⟨.ref _ _ _ ⟨h.1,oO⟩,.mk _ (λ_=>h) (λx hx=>(by cases hx))⟩
structure Vl (os:List AV):Prop where
 objs:Xz os
 goo:∀ o∈os,Ir os o
theorem SC {os:List AV} (H:Vl os):∀ (f:Nat) (o r:AV),Ir os o->FL os f o=some r->Ir os r/\r.kind≠8
 | 0,o,r,h,e=>by
  unfold FL at e
  split at e
  · cases e
  · cases e;exact ⟨h,aS⟩
 | f+1,o,r,h,e=>by
  unfold FL at e
  split at e
  ·
   rename_i h8
   obtain ⟨h1,h2⟩:=h.rng.ref h8
   have hj:(o.n-1).toNat<os.length:=by omega
   rw [D8,Ak hj] at e
   exact SC H f _ r (H.goo _ (Ar hj)) e
  · cases e;exact ⟨h,aS⟩
def F3 (os:List AV) (o:AV) (k:Int):Except Int AV:=match FL os 32 o with
 | none=>.error 27
 | some r=>if r.kind=k then .ok r else .error 22
def IP (os:List AV) (o:AV) (key:l8_) (k:Int):Except Int AV:=match De o key with
 | none=>.error 22
 | some x=>F3 os x k
def Gj (os:List AV) (o:AV) (key name:l8_):Except Int Bool:=match IP os o key 4 with
 | .error e=>.error e
 | .ok r=>.ok (decide (r.text=name))
theorem I2 {os:List AV} (H:Vl os) {o r:AV} {k:Int} (h:Ir os o) (e:F3 os o k=.ok r):Ir os r/\r.kind=k:=by
 unfold F3 at e
 cases hr:FL os 32 o with
 | none=>rw [hr] at e;cases e
 | some q =>
  rw [hr] at e
  simp only at e
  split at e
  · cases e;exact ⟨(SC H 32 o _ h hr).1,aS⟩
  · cases e
theorem KE {R:Option AV} {e:Int} (h:FR (if R.isSome then 0 else 27)=.error e):R=none/\e=27:=by
 cases R with
 | none=>exact ⟨rfl,by have:FR 27=.error e:=h;unfold FR at this;rw [A2 dD] at this;cases this;rfl⟩
 | some r=>exact Dp (show FR 0=.error e from h) (by unfold FR;rw [A5 rfl];exact λh=>nomatch h)
theorem Og {R:Option AV} {u:Unit} (h:FR (if R.isSome then 0 else 27)=.ok u):∃ r,R=some r:=by
 cases R with
 | none=>exact Dp (show FR 27=.ok u from h) (by unfold FR;rw [A2 dD];exact λh=>nomatch h)
 | some r=>exact ⟨r,rfl⟩
theorem CB {b:Bool} {e:Int} (h:KT b=.error e):b=false/\e=22:=by
 unfold KT at h;split at h
 · cases h
 · cases h;exact ⟨by simp_all,rfl⟩
theorem DZ {b:Bool} {u:Unit} (h:KT b=.ok u):b=true:=by
 unfold KT at h;split at h
 · assumption
 · cases h
theorem Qv {os:List AV} {o:AV} {k e:Int} (hR:FL os 32 o=none) (he:e=27):F3 os o k=.error e:=by unfold F3;rw [hR,he]
theorem Ko {os:List AV} {o r:AV} {k:Int} (hR:FL os 32 o=some r):F3 os o k=if r.kind=k then .ok r else .error 22:=by unfold F3;rw [hR]
def TO (bf:Nat) (sv pv:Value):Array Value:=#[ptV bf,sv,pv]
def ObA (w:World) (r:AV) (v:Value) (w':World):Prop:=∃ z:AC,v=.agg (D3 z).toArray/\At w' (λq=>w.heap.size<=q) z r
theorem I3 (wk bf:Nat) (sv pv:Value) (S T:Nat->Prop) (os:List AV) (H:Vl os) (x:AC) (o:AV) (k:Int) (w:World) (hk:B4 w wk (TO bf sv pv) 86) (hf:AK S w bf (Cw os) (Dl os)) (hx:At w T x o) (hg:Ir os o) :
  Calls Tryz.prog 57 #[ptV wk,.agg (D3 x).toArray,Ag k] w (TrE w (F3 os o k) (ObA w)):=by
 have bz:AK (λk=>k<w.heap.size) w bf (Cw os) (Dl os):=hf.mono λk _ hk=>hk
 have bA:At w (λk=>k<w.heap.size) x o:=hx.mono λk _ hk=>hk
 unfold TO at hk
 obtain ⟨R,hR⟩:=eX (FL os 32 o)
 refine AF func57 rfl ntmps57 ?_
 have bB:=Dh w
 refine A4<|WL.box rfl rfl (λb1 aK aL a7 G bX=>?_)
 have bC:=AK.same (w1:=aK) bz (λk hk hl=>G.other k oO)
 have bD:=At.same (w1:=aK) bA (λk hk hl=>G.other k oO)
 have bE:=Bt aL hk.lt
 have aM:=hk.un G bE
 have bG:=uB bB aL G
 refine Bm CA rfl (λb7 a4 a8 aQ C bY=>?_)
 have bH:=AK.same (w1:=a4) bC (λk hk hl=>C.other k oO)
 have bI:=At.same (w1:=a4) bD (λk hk hl=>C.other k oO)
 have aR:=Bt a8 aM.lt
 have a:=aM.un C aR
 have aT:=Bt a8 a7.lt
 have b:=a7.un C aT
 have aU:=uB bG a8 C
 refine A0<|Ad<|DF 12 rfl BS (λw'=>w'.heap[wk]?=a4.heap[wk]?/\w'.heap[b1]?=a4.heap[b1]?/\True) (λa9 s=>?_)
 have aa:=AK.same (w1:=a9) bH (λk hk hl=>(by obtain ⟨m,rfl⟩:=s;rfl))
 have ab:=At.same (w1:=a9) bI (λk hk hl=>(by obtain ⟨m,rfl⟩:=s;rfl))
 have c:=a.drew s
 have d:=b.drew s
 have J:=aQ.drew s
 have Y:=Cn.below aU s
 refine Ac 0 rfl (.mv rfl) ⟨(c).trans (a).symm,(d).trans (b).symm,tT⟩ ?_
 refine Ac 1 rfl (.nck rfl) ⟨(c).trans (a).symm,(d).trans (b).symm,tT⟩ ?_
 refine Ac 2 rfl (.fa NS rfl sizeOf38 dD rfl) ⟨(c).trans (a).symm,(d).trans (b).symm,tT⟩ ?_
 refine C6 3 rfl (λw' hw'=>Ae (isAgg38 _) rfl ((hw'.1).trans a) rfl) ⟨(c).trans (a).symm,(d).trans (b).symm,tT⟩ rfl ?_
 refine C6 4 rfl (λw' hw'=>Bd rfl ((hw'.2.1).trans b) Av rfl Ah) ⟨(c).trans (a).symm,(d).trans (b).symm,tT⟩ rfl ?_
 refine IS 5 rfl 9 rfl ?_ ?_
 refine Bf BQ rfl rfl ((Fj bf _ os H.objs (λo ho=>(H.goo o ho).rng.ref) x o _ R _ aa ab hg.snd hg.rng.ref hR.symm)) (λz bJ t=>?_)
 have u:=c.bl t.2
 have v:=d.bl t.2
 have ac:=J.bl t.2
 have aV:=Ci Y t.2
 have hz:=(t).1.mono (T:=λq=>a9.heap.size<=q/\q<bJ.heap.size) (λq Z h2=>⟨Z,h2⟩)
 have aW:=J.lt
 have aX:=Y.size
 have aY:=t.2.size
 refine A0<|⟨⟨(u).trans (a).symm,(v).trans (b).symm,tT⟩,?_⟩
 refine Ac 6 rfl (.mv rfl) ⟨(u).trans (a).symm,(v).trans (b).symm,tT⟩ ?_
 refine Ac 7 rfl (.ext rfl rfl) ⟨(u).trans (a).symm,(v).trans (b).symm,tT⟩ ?_
 refine Ac 8 rfl (.ext rfl rfl) ⟨(u).trans (a).symm,(v).trans (b).symm,tT⟩ ?_
 refine Br 9 rfl<|Bm CA rfl (λb' aZ K az i bS=>?_)
 have a':=At.same (w1:=aZ) hz (λk hk hl=>i.other k oO)
 have b0:=Bt K u.lt
 have ad:=u.un i b0
 have b2:=Bt K v.lt
 have ae:=v.un i b2
 have b3:=Bt K ac.lt
 have b4:=ac.un i b3
 have b5:=uB aV K i
 refine A0<|⟨⟨(ad).trans (a).symm,(ae).trans (b).symm,tT⟩,?_⟩
 refine Br 10 rfl<|Az rfl rfl az Ah rfl rfl (λbK aA j bT=>?_)
 have b6:=At.same (w1:=bK) a' (λk hk hl=>j.other k oO)
 have af:=ad.up j
 have ag:=ae.up j
 have b8:=b4.up j
 have a0:=BR b5 oO j
 refine A0<|⟨⟨(af).trans (a).symm,(ag).trans (b).symm,tT⟩,?_⟩
 refine Ac 11 rfl (.as rfl) ⟨(af).trans (a).symm,(ag).trans (b).symm,tT⟩ ?_
 refine C3 kR<|A4<|A3 rfl<|Ch BQ rfl rfl ((GS _ _)) (λbL aN L y=>?_) (λc0 aN L y=>?_)
 have ah:=Ex a0 (Below.mono y a0.size)
 exact Bx (Ho bL (by obtain ⟨Z,h2⟩:=KE L;exact Qv (by rw [<- hR];exact Z) h2) ah)
 have ai:=At.same (w1:=aN) b6 (λk hk hl=>y.block k hl)
 have b9:=b8.bl y
 have aj:=aA.bl y
 have a1:=Ci a0 y
 obtain ⟨r,hr⟩:=Og L
 subst hr
 have V:r.kind=z.kind:=At.kind (o:=r) ai
 refine A0<|A4<|A1 (.fa Av rfl BI dD rfl)<|Aj (Ae (C5 _) rfl aj rfl)<|A3 rfl<|A1 (.eql rfl rfl)<|Ch BQ rfl rfl ((E5 _ _)) (λbM aO N A=>?_) (λc2 aO N A=>?_)
 have ak:=Ex a1 (Below.mono A a1.size)
 exact Bx (Ho bM (by rw [Ko hR.symm,A2 (by rw [V];exact dF (CB N).1),(CB N).2]) ak)
 have ba:=At.same (w1:=aO) ai (λk hk hl=>A.block k hl)
 have bb:=b9.bl A
 have bc:=aj.bl A
 have bd:=Ci a1 A
 refine A0<|A4<|Aj (Bd rfl bc Av rfl Ah)<|Az rfl rfl bb Ah rfl rfl (λbN aB a5 bU=>?_)
 have be:=At.same (w1:=bN) ba (λk hk hl=>a5.other k oO)
 have bg:=BR bd oO a5
 refine A0<|AU (BD rfl rfl (Ba aB Av rfl Ah)  ?_)
 exact LH r _ (by rw [Ko hR.symm,A5 (by rw [V];exact dT (DZ aS))]) rfl ⟨bg,z,rfl,(be).mono λq h _=>by omega⟩
 refine Bm CA rfl (λc3 a2 P aC e bV=>?_)
 have bh:=AK.same (w1:=a2) aa (λk hk hl=>e.other k oO)
 have bi:=At.same (w1:=a2) ab (λk hk hl=>e.other k oO)
 have bj:=Bt P c.lt
 have am:=c.un e bj
 have bk:=Bt P d.lt
 have an:=d.un e bk
 have bm:=Bt P J.lt
 have ao:=J.un e bm
 have ap:=uB Y P e
 refine A0<|⟨⟨(am).trans (a).symm,(an).trans (b).symm,tT⟩,?_⟩
 refine Br 5 rfl<|Bf BQ rfl rfl ((Fj bf _ os H.objs (λo ho=>(H.goo o ho).rng.ref) x o _ R _ bh bi hg.snd hg.rng.ref hR.symm)) (λz bO g=>?_)
 have D:=am.bl g.2
 have E:=an.bl g.2
 have bn:=ao.bl g.2
 have bo:=aC.bl g.2
 have bp:=Ci ap g.2
 have hz:=(g).1.mono (T:=λq=>a2.heap.size<=q/\q<bO.heap.size) (λq Z h2=>⟨Z,h2⟩)
 have aW:=ao.lt
 have aX:=ap.size
 have aY:=g.2.size
 refine A0<|⟨⟨(D).trans (a).symm,(E).trans (b).symm,tT⟩,?_⟩
 refine Ac 6 rfl (.mv rfl) ⟨(D).trans (a).symm,(E).trans (b).symm,tT⟩ ?_
 refine Ac 7 rfl (.ext rfl rfl) ⟨(D).trans (a).symm,(E).trans (b).symm,tT⟩ ?_
 refine Ac 8 rfl (.ext rfl rfl) ⟨(D).trans (a).symm,(E).trans (b).symm,tT⟩ ?_
 refine Br 10 rfl<|Az rfl rfl bo Ah rfl rfl (λbP aD l bW=>?_)
 have bq:=At.same (w1:=bP) hz (λk hk hl=>l.other k oO)
 have aq:=D.up l
 have ar:=E.up l
 have bt:=bn.up l
 have a3:=BR bp oO l
 refine A0<|⟨⟨(aq).trans (a).symm,(ar).trans (b).symm,tT⟩,?_⟩
 refine Ac 11 rfl (.as rfl) ⟨(aq).trans (a).symm,(ar).trans (b).symm,tT⟩ ?_
 refine C3 kR<|A4<|A3 rfl<|Ch BQ rfl rfl ((GS _ _)) (λbQ aP Q B=>?_) (λc4 aP Q B=>?_)
 have au:=Ex a3 (Below.mono B a3.size)
 exact Bx (Ho bQ (by obtain ⟨Z,h2⟩:=KE Q;exact Qv (by rw [<- hR];exact Z) h2) au)
 have av:=At.same (w1:=aP) bq (λk hk hl=>B.block k hl)
 have bu:=bt.bl B
 have aw:=aD.bl B
 have U:=Ci a3 B
 obtain ⟨r,hr⟩:=Og Q
 subst hr
 have V:r.kind=z.kind:=At.kind (o:=r) av
 refine A0<|A4<|A1 (.fa Av rfl BI dD rfl)<|Aj (Ae (C5 _) rfl aw rfl)<|A3 rfl<|A1 (.eql rfl rfl)<|Ch BQ rfl rfl ((E5 _ _)) (λbv ax F f=>?_) (λbZ ax F f=>?_)
 have a6:=Ex U (Below.mono f U.size)
 exact Bx (Ho bv (by rw [Ko hR.symm,A2 (by rw [V];exact dF (CB F).1),(CB F).2]) a6)
 have aE:=At.same (w1:=ax) av (λk hk hl=>f.block k hl)
 have aF:=bu.bl f
 have aG:=aw.bl f
 have aH:=Ci U f
 refine A0<|A4<|Aj (Bd rfl aG Av rfl Ah)<|Az rfl rfl aF Ah rfl rfl (λbw ay X bR=>?_)
 have aI:=At.same (w1:=bw) aE (λk hk hl=>X.other k oO)
 have aJ:=BR aH oO X
 refine A0<|AU (BD rfl rfl (Ba ay Av rfl Ah)  ?_)
 exact LH r _ (by rw [Ko hR.symm,A5 (by rw [V];exact dT (DZ aS))]) rfl ⟨aJ,z,rfl,(aI).mono λq h _=>by omega⟩
theorem Xf {os:List AV} {o:AV} {key:l8_} {k:Int} (h:De o key=none):IP os o key k=.error 22:=by unfold IP;rw [h]
theorem HZ {os:List AV} {o x:AV} {key:l8_} {k:Int} (h:De o key=some x):IP os o key k=F3 os x k:=by unfold IP;rw [h]
theorem MN (wk bf:Nat) (sv pv:Value) (S T:Nat->Prop) (os:List AV) (H:Vl os) (x:AC) (o:AV) (key:l8_) (k:Int) (w:World) (hk:B4 w wk (TO bf sv pv) 86) (hf:AK S w bf (Cw os) (Dl os)) (hx:At w T x o) (hg:Ir os o) :
  Calls Tryz.prog 33 #[ptV wk,.agg (D3 x).toArray,.string (bs key),Ag k] w (TrE w (IP os o key k) (ObA w)):=by
 have ar:AK (λk=>k<w.heap.size) w bf (Cw os) (Dl os):=hf.mono λk _ hk=>hk
 have au:At w (λk=>k<w.heap.size) x o:=hx.mono λk _ hk=>hk
 refine AF func33 rfl ntmps33 ?_
 have av:=Dh w
 refine A4<|WL.box rfl rfl (λb1 N P v i aL=>?_)
 have aw:=AK.same (w1:=N) ar (λk hk hl=>i.other k oO)
 have ax:=At.same (w1:=N) au (λk hk hl=>i.other k oO)
 have ay:=Bt P hk.lt
 have Q:=hk.un i ay
 have az:=uB av P i
 refine Bm CA rfl (λb7 U A Y e aM=>?_)
 have aA:=AK.same (w1:=U) aw (λk hk hl=>e.other k oO)
 have aB:=At.same (w1:=U) ax (λk hk hl=>e.other k oO)
 have a0:=Bt A Q.lt
 have a1:=Q.un e a0
 have a2:=Bt A v.lt
 have a3:=v.un e a2
 have a4:=uB az A e
 refine A0<|A4<|Aj (Bd rfl a3 Av rfl Ah)<|A3 rfl<|Bf BQ rfl rfl ((H8 x o _ key _ aB)) (λz V f=>?_)
 have a5:=AK.same (w1:=V) aA (λk hk hl=>f.block k hl)
 have B:=a1.bl f
 have C:=Y.bl f
 have a6:=Ci a4 f
 obtain ⟨z,hz⟩:=z
 have hz:=At.same (w1:=V) hz (λk hk hl=>(f).block k hl)
 refine A3 rfl<|A1 (.ext rfl rfl)<|A1 (.ext rfl rfl)<|Bm CA rfl (λaN D l J b aI=>?_)
 have a7:=AK.same (w1:=D) a5 (λk hk hl=>b.other k oO)
 have a8:=At.same (w1:=D) hz (λk hk hl=>b.other k oO)
 have a9:=Bt l B.lt
 have aa:=B.un b a9
 have ab:=Bt l C.lt
 have ac:=C.un b ab
 have ad:=uB a6 l b
 refine Az rfl rfl J Ah rfl rfl (λX K c aJ=>?_)
 have ae:=AK.same (w1:=X) a7 (λk hk hl=>c.other k oM)
 have af:=At.same (w1:=X) a8 (λk hk hl=>c.other k oM)
 have ag:=aa.up c
 have ah:=ac.up c
 have m:=BR ad oO c
 refine A8 rfl<|A4<|A3 rfl<|Ch BQ rfl rfl ((E5 _ _)) (λaC s d a=>?_) (λaO s d a=>?_)
 have E:=Ex m (Below.mono a m.size)
 exact Bx (Ho aC (by rw [Xf (by simpa using (CB d).1),(CB d).2]) E)
 have ai:=AK.same (w1:=s) ae (λk hk hl=>a.block k hl)
 have aj:=At.same (w1:=s) af (λk hk hl=>a.block k hl)
 have ak:=ag.bl a
 have F:=ah.bl a
 have am:=K.bl a
 have j:=Ci m a
 obtain ⟨q,hq⟩:=Option.isSome_iff_exists.1 (DZ d)
 have aD:At s (λq=>q<w.heap.size) z q:=by have:=aj;rw [hq] at this;exact this
 have aE:=hg.key hq
 refine A0<|A4<|A3 rfl<|Aj (Bd rfl am Av rfl Ah)<|A3 rfl<|EE BQ rfl rfl ((I3 wk bf sv pv _ _ os H z q k _ ak ai aD aE)) (λaF aG t g=>?_) (λaP aQ aG t g=>?_)
 have G:=Ex j (Below.mono g j.size)
 exact Bx (Ho aF (by rw [HZ hq];exact t) G)
 have an:=F.bl g.1
 have ao:=Ci j g.1
 obtain ⟨y,ey,hy⟩:=g.2
 subst ey
 have aR:=j.size
 have hb8:=F.lt
 refine Az rfl rfl an Ah rfl rfl (λaH L u aK=>?_)
 have ap:=At.same (w1:=aH) hy (λk hk hl=>u.other k oO)
 have aq:=BR ao oO u
 refine A0<|AU (BD rfl rfl (Ba L Av rfl Ah)  ?_)
 exact LH _ _ (by rw [HZ hq];assumption) rfl ⟨aq,y,rfl,(ap).mono λq h _=>by omega⟩
theorem XS {os:List AV} {o:AV} {key name:l8_} {e:Int} (h:IP os o key 4=.error e):Gj os o key name=.error e:=by unfold Gj;rw [h]
theorem Rn {os:List AV} {o r:AV} {key name:l8_} (h:IP os o key 4=.ok r):Gj os o key name=.ok (decide (r.text=name)):=by unfold Gj;rw [h]
theorem At.textE  {x:AC} {o:AV} (h:At w S x o):o.text=x.text:=by cases h;rfl
theorem IV (wk bf:Nat) (sv pv:Value) (S T:Nat->Prop) (os:List AV) (H:Vl os) (x:AC) (o:AV) (key name:l8_) (w:World) (hk:B4 w wk (TO bf sv pv) 86) (hf:AK S w bf (Cw os) (Dl os)) (hx:At w T x o) (hg:Ir os o) :
  Calls Tryz.prog 36 #[ptV wk,.agg (D3 x).toArray,.string (bs key),.string (bs name)] w (TrB w (Gj os o key name) λb=>.bool b):=by
 have l:AK (λk=>k<w.heap.size) w bf (Cw os) (Dl os):=hf.mono λk _ hk=>hk
 have m:At w (λk=>k<w.heap.size) x o:=hx.mono λk _ hk=>hk
 refine AF func36 rfl ntmps36 ?_
 have q:=Dh w
 refine A4<|WL.box rfl rfl (λG g h i a C=>?_)
 have s:=AK.same (w1:=g) l (λk hk hl=>a.other k oO)
 have t:=At.same (w1:=g) m (λk hk hl=>a.other k oO)
 have u:=Bt h hk.lt
 have v:=hk.un a u
 have e:=uB q h a
 refine A8 rfl<|A4<|A3 rfl<|Aj (Bd rfl i Av rfl Ah)<|A3 rfl<|EE BQ rfl rfl ((MN wk bf sv pv _ _ os H x o key 4 _ v s t hg)) (λD E c d=>?_) (λJ F E c d=>?_)
 have f:=Ex e (Below.mono d e.size)
 exact Bx (BB D (XS c) f)
 have j:=Ci e d.1
 obtain ⟨y,ey,hy⟩:=d.2
 subst ey
 have A:=hy.textE
 have B:=c
 refine A1 (.fld Av rfl FU rfl rfl)<|A3 rfl<|A1 (.eqs rfl rfl)<|A8 rfl<|AY ?_
 exact Ce.ok _ (Rn B) (EO (by rw [A])) j
end
section
def TS:l8_:=[77,101,100,105,97,66,111,120]
def TR:l8_:=[82,101,115,111,117,114,99,101,115]
structure JE where
 box:Option AV
 res:Option AV
def Fg (o:AV) (i:JE):JE:=⟨(De o TS).or i.box,(De o TR).or i.res⟩
def LO (w:World) (S:Nat->Prop) (v:Value) (o:Option AV):Prop:=match o with
 | none=>v=.pointer none
 | some u=>∃ (b:Nat) (z:AC),v=ptV b/\B4 w b (D3 z).toArray 27/\S b/\At w S z u
theorem LO.same  {o:Option AV} (h:LO w S v o) (hb:∀ k,S k->k<w.heap.size->w1.heap[k]?=w.heap[k]?):LO w1 S v o:=by
 cases o with
 | none=>exact h
 | some u =>
  obtain ⟨b,z,d,a,c,e⟩:=h
  exact ⟨b,z,d,(hb b c a.lt).trans a,c,e.same hb⟩
theorem LO.mono  {o:Option AV} (h:LO w S v o) (hST:∀ k,S k->k<w.heap.size->T k):LO w T v o:=by
 cases o with
 | none=>exact h
 | some u =>
  obtain ⟨b,z,c,a,d,e⟩:=h
  exact ⟨b,z,c,a,hST b d a.lt,e.mono hST⟩
structure DB (w:World) (S:Nat->Prop) (p q:Option Addr) (i:JE):Prop where
 box:LO w S (.pointer p) i.box
 res:LO w S (.pointer q) i.res
theorem DB.same  {q:Option Addr} {i:JE} (h:DB w S p q i) (hb:∀ k,S k->k<w.heap.size->w1.heap[k]?=w.heap[k]?):DB w1 S p q i:=⟨h.box.same hb,h.res.same hb⟩
theorem DB.mono  {q:Option Addr} {i:JE} (h:DB w S p q i) (hST:∀ k,S k->k<w.heap.size->T k):DB w T p q i:=⟨h.box.mono hST,h.res.mono hST⟩
theorem EU  {V:Nat->Prop} {b:Nat} {z:AC} {o:AV} {key:l8_} {i:Option AV} (hV:∀ k,S k->V k) (hVb:V b) (hb:B4 w b (D3 z).toArray 27) (hz:At w S z ((De o key).getD A3j)) (h:(De o key).isSome=true):LO w V (ptV b) ((De o key).or i):=by
 cases hk:De o key with
 | none=>rw [hk] at h;cases h
 | some u=>rw [hk] at hz;exact ⟨b,z,rfl,hb,hVb,hz.mono λk h _=>hV k h⟩
theorem FS  {V:Nat->Prop} {o:AV} {key:l8_} {i:Option AV} (hV:∀ k,S k->V k) (hp:LO w S (.pointer p) i) (h:(De o key).isSome=false):LO w V (.pointer p) ((De o key).or i):=by
 cases hk:De o key with
 | none=>exact hp.mono λk h _=>hV k h
 | some u=>rw [hk] at h;cases h
theorem A0u (r:Value) (p q:Option Addr) (i:JE) (S T:Nat->Prop) (x:AC) (o:AV) (w:World) (hi:DB w S p q i) (hx:At w T x o) :
  Calls Tryz.prog 84 #[r,.agg (D3 x).toArray,.agg #[.pointer p,.pointer q]] w λe w'=>∃ z:Option Addr × Option Addr,e=.returned (.agg #[.pointer z.1,.pointer z.2])/\DB w' (λk=>(S k/\k<w.heap.size)\/(T k/\k<w.heap.size)\/w.heap.size<=k) z.1 z.2 (Fg o i)/\AL w w':=by
 have cI:DB w (λk=>k<w.heap.size/\S k) p q i:=hi.mono λk h hk=>⟨hk,h⟩
 have cJ:At w (λk=>k<w.heap.size/\T k) x o:=hx.mono λk h hk=>⟨hk,h⟩
 refine AF func84 rfl ntmps84 ?_
 have cK:=Dh w
 refine A4<|WL.box rfl rfl (λb1 bO cL aK a4 d7=>?_)
 have cM:=DB.same (w1:=bO) cI (λk hk hl=>a4.other k oO)
 have cN:=At.same (w1:=bO) cJ (λk hk hl=>a4.other k oO)
 have cO:=uB cK cL a4
 refine WL.box rfl rfl (λb5 bP bQ aL Q d8=>?_)
 have cP:=DB.same (w1:=bP) cM (λk hk hl=>Q.other k oO)
 have cQ:=At.same (w1:=bP) cN (λk hk hl=>Q.other k oO)
 have cR:=Bt bQ aK.lt
 have bR:=aK.un Q cR
 have bS:=uB cO bQ Q
 refine Bm zeroValue117 rfl (λda aM a5 bk C c'=>?_)
 have bT:=DB.same (w1:=aM) cP (λk hk hl=>C.other k oO)
 have aN:=At.same (w1:=aM) cQ (λk hk hl=>C.other k oO)
 have bU:=Bt a5 bR.lt
 have aO:=bR.un C bU
 have bV:=Bt a5 aL.lt
 have bW:=aL.un C bV
 have bX:=uB bS a5 C
 refine A0<|Ad<|A4<|Aj (Bd rfl aO Av rfl Ah)<|Bf BQ rfl rfl ((H8 x o _ TS _ aN)) (λz aP A=>?_)
 have bY:=DB.same (w1:=aP) bT (λk hk hl=>A.block k hl)
 have bZ:=At.same (w1:=aP) aN (λk hk hl=>A.block k hl)
 have aQ:=aO.bl A
 have aR:=bW.bl A
 have aT:=bk.bl A
 have b':=Ci bX A
 obtain ⟨z,hz⟩:=z
 have hz:=At.same (w1:=aP) hz (λk hk hl=>(A).block k hl)
 refine A3 rfl<|A1 (.ext rfl rfl)<|A1 (.ext rfl rfl)<|Bm CA rfl (λdb a6 U bm m d0=>?_)
 have c0:=DB.same (w1:=a6) bY (λk hk hl=>m.other k oO)
 have c2:=At.same (w1:=a6) bZ (λk hk hl=>m.other k oO)
 have c3:=At.same (w1:=a6) hz (λk hk hl=>m.other k oO)
 have c4:=Bt U aQ.lt
 have c5:=aQ.un m c4
 have c6:=Bt U aR.lt
 have c7:=aR.un m c6
 have c8:=Bt U aT.lt
 have c9:=aT.un m c8
 have ca:=uB b' U m
 refine Az rfl rfl bm Ah rfl rfl (λaU ad s d1=>?_)
 have aV:=DB.same (w1:=aU) c0 (λk hk hl=>s.other k oM)
 have aW:=At.same (w1:=aU) c2 (λk hk hl=>s.other k oM)
 have aX:=At.same (w1:=aU) c3 (λk hk hl=>s.other k oM)
 have aY:=c5.up s
 have aZ:=c7.up s
 have a':=c9.up s
 have b0:=BR ca oO s
 refine A8 rfl<|A4<|A3 rfl<|A0<|Ai rfl (λcS=>?_) (λcS=>?_)
 refine An<|A1 (.fa Ge rfl KX dD rfl)<|BA KX rfl rfl rfl aZ (by exact Nat.le_of_ble_eq_true rfl) (λae V b d2=>?_)
 have V:B4 ae b5 _ _:=V
 have b:CP b5 _ _:=b
 have cb:=DB.same (w1:=ae) aV (λk hk hl=>b.other k oM)
 have cc:=At.same (w1:=ae) aW (λk hk hl=>b.other k oM)
 have cd:=At.same (w1:=ae) aX (λk hk hl=>b.other k oM)
 have cf:=aY.up b
 have cg:=a'.up b
 have ci:=ad.up b
 have cj:=BR b0 oO b
 refine A0<|Ad<|A4<|Aj (Bd rfl cf Av rfl Ah)<|Bf BQ rfl rfl ((H8 x o _ TR _ cc)) (λz2 b2 B=>?_)
 have ck:=DB.same (w1:=b2) cb (λk hk hl=>B.block k hl)
 have cl:=At.same (w1:=b2) cd (λk hk hl=>B.block k hl)
 have b3:=V.bl B
 have b4:=cg.bl B
 have b6:=ci.bl B
 have cm:=Ci cj B
 obtain ⟨z2,N⟩:=z2
 have N:=At.same (w1:=b2) N (λk hk hl=>(B).block k hl)
 refine A3 rfl<|A1 (.ext rfl rfl)<|A1 (.ext rfl rfl)<|Bm CA rfl (λdc a7 X bn t d3=>?_)
 have cn:=DB.same (w1:=a7) ck (λk hk hl=>t.other k oO)
 have co:=At.same (w1:=a7) cl (λk hk hl=>t.other k oO)
 have cq:=At.same (w1:=a7) N (λk hk hl=>t.other k oO)
 have cr:=Bt X b3.lt
 have ct:=b3.un t cr
 have cu:=Bt X b4.lt
 have cv:=b4.un t cu
 have cw:=Bt X b6.lt
 have cy:=b6.un t cw
 have cz:=uB cm X t
 refine Az rfl rfl bn Ah rfl rfl (λb7 af u d4=>?_)
 have b8:=DB.same (w1:=b7) cn (λk hk hl=>u.other k oM)
 have b9:=At.same (w1:=b7) co (λk hk hl=>u.other k oM)
 have ba:=At.same (w1:=b7) cq (λk hk hl=>u.other k oM)
 have bb:=ct.up u
 have bc:=cv.up u
 have bd:=cy.up u
 have be:=BR cz oO u
 refine A8 rfl<|A4<|A3 rfl<|A0<|Ai rfl (λcT=>?_) (λcT=>?_)
 refine An<|A1 (.fa Ge rfl KX dD rfl)<|BA KX rfl rfl rfl bb (by exact Nat.le_of_ble_eq_true rfl) (λag Y c d5=>?_)
 have Y:B4 ag b5 _ _:=Y
 have c:CP b5 _ _:=c
 have cA:=DB.same (w1:=ag) b8 (λk hk hl=>c.other k oM)
 have cB:=At.same (w1:=ag) b9 (λk hk hl=>c.other k oM)
 have cC:=At.same (w1:=ag) ba (λk hk hl=>c.other k oM)
 have cD:=bc.up c
 have cE:=bd.up c
 have cF:=af.up c
 have cG:=BR be oO c
 refine A0<|A4<|Aj (Bd rfl Y Ge rfl Fq)<|Az rfl rfl cD Fq rfl rfl (λbf bo y d6=>?_)
 have a0:=DB.same (w1:=bf) cA (λk hk hl=>y.other k oM)
 have ah:=At.same (w1:=bf) cB (λk hk hl=>y.other k oM)
 have ai:=At.same (w1:=bf) cC (λk hk hl=>y.other k oM)
 have aj:=cE.up y
 have ak:=cF.up y
 have D:=BR cG oO y
 refine A0<|AU (BD rfl rfl (Ba bo Ge rfl Fq)  ?_)
 first
 | exact ⟨(_,_),EO rfl,⟨EU (λk h=>.inr (.inl ⟨h.2,h.1⟩)) (.inr (.inr oO)) aj ah aS,EU (λk h=>.inr (.inl ⟨h.2,h.1⟩)) (.inr (.inr oO)) ak ai aS⟩,D⟩
 | exact ⟨(_,_),EO rfl,⟨EU (λk h=>.inr (.inl ⟨h.2,h.1⟩)) (.inr (.inr oO)) aj ah aS,FS (λk h=>.inl ⟨h.2,h.1⟩) (a0).res aS⟩,D⟩
 | exact ⟨(_,_),EO rfl,⟨FS (λk h=>.inl ⟨h.2,h.1⟩) (a0).box aS,EU (λk h=>.inr (.inl ⟨h.2,h.1⟩)) (.inr (.inr oO)) ak ai aS⟩,D⟩
 | exact ⟨(_,_),EO rfl,⟨FS (λk h=>.inl ⟨h.2,h.1⟩) (a0).box aS,FS (λk h=>.inl ⟨h.2,h.1⟩) (a0).res aS⟩,D⟩
 refine As<|A4<|Aj (Bd rfl bb Ge rfl Fq)<|Az rfl rfl bc Fq rfl rfl (λa8 bg g cU=>?_)
 have E:=DB.same (w1:=a8) b8 (λk hk hl=>g.other k oM)
 have am:=At.same (w1:=a8) b9 (λk hk hl=>g.other k oM)
 have an:=At.same (w1:=a8) ba (λk hk hl=>g.other k oM)
 have ao:=bd.up g
 have ap:=af.up g
 have F:=BR be oO g
 refine A0<|AU (BD rfl rfl (Ba bg Ge rfl Fq)  ?_)
 first
 | exact ⟨(_,_),EO rfl,⟨EU (λk h=>.inr (.inl ⟨h.2,h.1⟩)) (.inr (.inr oO)) ao am aS,EU (λk h=>.inr (.inl ⟨h.2,h.1⟩)) (.inr (.inr oO)) ap an aS⟩,F⟩
 | exact ⟨(_,_),EO rfl,⟨EU (λk h=>.inr (.inl ⟨h.2,h.1⟩)) (.inr (.inr oO)) ao am aS,FS (λk h=>.inl ⟨h.2,h.1⟩) (E).res aS⟩,F⟩
 | exact ⟨(_,_),EO rfl,⟨FS (λk h=>.inl ⟨h.2,h.1⟩) (E).box aS,EU (λk h=>.inr (.inl ⟨h.2,h.1⟩)) (.inr (.inr oO)) ap an aS⟩,F⟩
 | exact ⟨(_,_),EO rfl,⟨FS (λk h=>.inl ⟨h.2,h.1⟩) (E).box aS,FS (λk h=>.inl ⟨h.2,h.1⟩) (E).res aS⟩,F⟩
 refine As<|Ad<|A4<|Aj (Bd rfl aY Av rfl Ah)<|Bf BQ rfl rfl ((H8 x o _ TR _ aW)) (λz2 a9 v=>?_)
 have bp:=DB.same (w1:=a9) aV (λk hk hl=>v.block k hl)
 have bq:=At.same (w1:=a9) aX (λk hk hl=>v.block k hl)
 have aq:=aZ.bl v
 have ar:=a'.bl v
 have au:=ad.bl v
 have bt:=Ci b0 v
 obtain ⟨z2,N⟩:=z2
 have N:=At.same (w1:=a9) N (λk hk hl=>(v).block k hl)
 refine A3 rfl<|A1 (.ext rfl rfl)<|A1 (.ext rfl rfl)<|Bm CA rfl (λd9 a1 G bh d cV=>?_)
 have bu:=DB.same (w1:=a1) bp (λk hk hl=>d.other k oO)
 have bv:=At.same (w1:=a1) bq (λk hk hl=>d.other k oO)
 have bw:=At.same (w1:=a1) N (λk hk hl=>d.other k oO)
 have bz:=Bt G aq.lt
 have bA:=aq.un d bz
 have bB:=Bt G ar.lt
 have bC:=ar.un d bB
 have bD:=Bt G au.lt
 have bE:=au.un d bD
 have bG:=uB bt G d
 refine Az rfl rfl bh Ah rfl rfl (λaa a3 f cW=>?_)
 have av:=DB.same (w1:=aa) bu (λk hk hl=>f.other k oM)
 have aw:=At.same (w1:=aa) bv (λk hk hl=>f.other k oM)
 have ax:=At.same (w1:=aa) bw (λk hk hl=>f.other k oM)
 have ay:=bA.up f
 have az:=bC.up f
 have aA:=bE.up f
 have aB:=BR bG oO f
 refine A8 rfl<|A4<|A3 rfl<|A0<|Ai rfl (λcH=>?_) (λcH=>?_)
 refine An<|A1 (.fa Ge rfl KX dD rfl)<|BA KX rfl rfl rfl ay (by exact Nat.le_of_ble_eq_true rfl) (λa2 P a cX=>?_)
 have P:B4 a2 b5 _ _:=P
 have a:CP b5 _ _:=a
 have bH:=DB.same (w1:=a2) av (λk hk hl=>a.other k oM)
 have bI:=At.same (w1:=a2) aw (λk hk hl=>a.other k oM)
 have bJ:=At.same (w1:=a2) ax (λk hk hl=>a.other k oM)
 have bK:=az.up a
 have bL:=aA.up a
 have bM:=a3.up a
 have bN:=BR aB oO a
 refine A0<|A4<|Aj (Bd rfl P Ge rfl Fq)<|Az rfl rfl bK Fq rfl rfl (λab bi j cY=>?_)
 have H:=DB.same (w1:=ab) bH (λk hk hl=>j.other k oM)
 have aC:=At.same (w1:=ab) bI (λk hk hl=>j.other k oM)
 have aD:=At.same (w1:=ab) bJ (λk hk hl=>j.other k oM)
 have aE:=bL.up j
 have aF:=bM.up j
 have J:=BR bN oO j
 refine A0<|AU (BD rfl rfl (Ba bi Ge rfl Fq)  ?_)
 first
 | exact ⟨(_,_),EO rfl,⟨EU (λk h=>.inr (.inl ⟨h.2,h.1⟩)) (.inr (.inr oO)) aE aC aS,EU (λk h=>.inr (.inl ⟨h.2,h.1⟩)) (.inr (.inr oO)) aF aD aS⟩,J⟩
 | exact ⟨(_,_),EO rfl,⟨EU (λk h=>.inr (.inl ⟨h.2,h.1⟩)) (.inr (.inr oO)) aE aC aS,FS (λk h=>.inl ⟨h.2,h.1⟩) (H).res aS⟩,J⟩
 | exact ⟨(_,_),EO rfl,⟨FS (λk h=>.inl ⟨h.2,h.1⟩) (H).box aS,EU (λk h=>.inr (.inl ⟨h.2,h.1⟩)) (.inr (.inr oO)) aF aD aS⟩,J⟩
 | exact ⟨(_,_),EO rfl,⟨FS (λk h=>.inl ⟨h.2,h.1⟩) (H).box aS,FS (λk h=>.inl ⟨h.2,h.1⟩) (H).res aS⟩,J⟩
 refine As<|A4<|Aj (Bd rfl ay Ge rfl Fq)<|Az rfl rfl az Fq rfl rfl (λac bj l cZ=>?_)
 have K:=DB.same (w1:=ac) av (λk hk hl=>l.other k oM)
 have aG:=At.same (w1:=ac) aw (λk hk hl=>l.other k oM)
 have aH:=At.same (w1:=ac) ax (λk hk hl=>l.other k oM)
 have aI:=aA.up l
 have aJ:=a3.up l
 have L:=BR aB oO l
 refine A0<|AU (BD rfl rfl (Ba bj Ge rfl Fq)  ?_)
 first
 | exact ⟨(_,_),EO rfl,⟨EU (λk h=>.inr (.inl ⟨h.2,h.1⟩)) (.inr (.inr oO)) aI aG aS,EU (λk h=>.inr (.inl ⟨h.2,h.1⟩)) (.inr (.inr oO)) aJ aH aS⟩,L⟩
 | exact ⟨(_,_),EO rfl,⟨EU (λk h=>.inr (.inl ⟨h.2,h.1⟩)) (.inr (.inr oO)) aI aG aS,FS (λk h=>.inl ⟨h.2,h.1⟩) (K).res aS⟩,L⟩
 | exact ⟨(_,_),EO rfl,⟨FS (λk h=>.inl ⟨h.2,h.1⟩) (K).box aS,EU (λk h=>.inr (.inl ⟨h.2,h.1⟩)) (.inr (.inr oO)) aJ aH aS⟩,L⟩
 | exact ⟨(_,_),EO rfl,⟨FS (λk h=>.inl ⟨h.2,h.1⟩) (K).box aS,FS (λk h=>.inl ⟨h.2,h.1⟩) (K).res aS⟩,L⟩
end
section
def V6 (n:Int):Int × Bool:=if n < -32768\/n > 32767 then (0,false) else (n * 65536,true)
def HK (k n:Int):Int × Bool:=if k=3 then (n,Db n) else if k=2 then V6 n else (0,false)
theorem A2t {k n:Int} (h:k=3):HK k n=(n,Db n):=A5 h
theorem A2u {k n:Int} (h:¬ k=3) (h2:k=2):HK k n=V6 n:=by unfold HK;rw [A2 h,A5 h2]
theorem A2v {k n:Int} (h:¬ k=3) (h2:¬ k=2):HK k n=(0,false):=by unfold HK;rw [A2 h,A2 h2]
theorem S0 (n:Int) (w:World):Calls Tryz.prog 163 #[Ag n] w λe w'=>e=.returned (.tuple #[Ag (V6 n).1,Ag (if (V6 n).2 then 0 else 11)])/\w=w':=by
 refine AF func163 rfl ntmps163<|A4<|CL rfl<|A8 rfl<|Ad<|A4<|A3 rfl<|A1 (.lss rfl rfl)<|A3 rfl<|Cc rfl rfl rfl (λa=>?_) (λa=>?_)
 have c:=dF a
 refine A3 rfl<|AE a<|A1 (.gtr rfl rfl)<|A1 (.pkF rfl a rfl)<|A0<|Ai rfl (λb=>?_) (λb=>?_)
 have d:=dT b
 refine A4<|CL rfl<|A8 rfl<|AU (Du rfl rfl rfl ?_)
 first
 | exact ⟨EO (by rw [show V6 n=(n * 65536,true) from A2 oO];rfl),rfl⟩
 | exact ⟨EO (by rw [show V6 n=(0,false) from A5 oO];rfl),rfl⟩
 have d:=dF b
 refine As<|A4<|A3 rfl<|A1 (.mul rfl rfl (Bb oO))<|CL rfl<|A8 rfl<|AU (Du rfl rfl rfl ?_)
 first
 | exact ⟨EO (by rw [show V6 n=(n * 65536,true) from A2 oO];rfl),rfl⟩
 | exact ⟨EO (by rw [show V6 n=(0,false) from A5 oO];rfl),rfl⟩
 have c:=dT a
 refine B6 a<|A1 (.pkT rfl a rfl)<|A0<|BZ rfl rfl<|A4<|CL rfl<|A8 rfl<|AU (Du rfl rfl rfl ?_)
 first
 | exact ⟨EO (by rw [show V6 n=(n * 65536,true) from A2 oO];rfl),rfl⟩
 | exact ⟨EO (by rw [show V6 n=(0,false) from A5 oO];rfl),rfl⟩
theorem Qx (x:AC) (w:World):Cl 142 #[.agg (D3 x).toArray] w (.tuple #[Ag (HK x.kind x.n).1,.bool (HK x.kind x.n).2]):=by
 obtain ⟨k,n,t,kp,kl,kc,lp,ll,lc,dp,dl,dc⟩:=x
 simp only [D3]
 refine AF func142 rfl ntmps142 ?_
 have i:=Dh w
 refine A4<|WL.box rfl rfl (λj l m a f B=>?_)
 have c:=uB i m f
 refine CL rfl<|A8 rfl<|Ad<|A4<|A1 (.fa Av rfl BI dD rfl)<|Aj (Ae (C5 _) rfl a rfl)<|A0<|AT<|A4<|A1 (.eql rfl rfl)<|A8 rfl<|Ai rfl (λg=>?_) (λg=>?_)
 have o:=dT g
 refine Ad<|DF 7 rfl BS (λw'=>w'.heap[j]?=l.heap[j]?/\True) (λC d=>?_)
 have q:=a.drew d
 have s:=Cn.below c d
 have b:=BU (q.trans a.symm) BF
 refine Ac 0 rfl (.fa Av rfl BI dD rfl) b ?_
 refine C6 1 rfl (λw' hw'=>Ae (C5 _) rfl ((hw'.1).trans a) rfl) b rfl ?_
 refine Ac 2 rfl (.fa Av rfl BI dD rfl) b ?_
 refine C6 3 rfl (λw' hw'=>Ae (C5 _) rfl ((hw'.1).trans a) rfl) b rfl ?_
 refine Br 4 rfl<|Au (Mq _ _) (λD u=>?_)
 obtain rfl:=u
 refine A0<|⟨b,?_⟩
 refine Ac 5 rfl (.as rfl) b ?_
 refine Ac 6 rfl (.as rfl) b ?_
 refine C3 kR<|AU (Du rfl rfl rfl ?_)
 exact ⟨EO (by rw [A2t aS];rfl),s⟩
 have o:=dF g
 refine A4<|A1 (.eql rfl rfl)<|A8 rfl<|Ai rfl (λh=>?_) (λh=>?_)
 have v:=dT h
 refine A4<|A1 (.fa Av rfl BI dD rfl)<|Aj (Ae (C5 _) rfl a rfl)<|Au (S0 _ _) (λE y=>?_)
 obtain rfl:=y
 refine A3 rfl<|A1 (.ext rfl rfl)<|A1 (.ext rfl rfl)<|CL rfl<|A8 rfl<|A4<|A3 rfl<|A3 rfl<|A1 (.eql rfl rfl)<|CL rfl<|A8 rfl<|AU (Du rfl rfl rfl ?_)
 exact ⟨EO (by rw [A2u aS aS];cases (V6 n).2 <;> rfl),c⟩
 have v:=dF h
 refine As<|A4<|CL rfl<|A8 rfl<|AU (Du rfl rfl rfl ?_)
 exact ⟨EO (by rw [A2v aS aS]),c⟩
def U9 (n:Int):Bool:=decide (65536<=n) && (decide (n<=943718400) && decide (n % 65536=0))
theorem Vq (n:Int) (w:World) (hn:-9223372036854775808<=n/\n<=9223372036854775807):Calls Tryz.prog 143 #[Ag n] w λe w'=>e=.returned (.bool (U9 n))/\w=w':=by
 refine AF func143 rfl ntmps143<|A4<|A8 rfl<|A4<|A3 rfl<|A1 (.geq rfl rfl)<|A3 rfl<|Cc rfl rfl rfl (λb=>?_) (λb=>?_)
 have c:=dT b
 refine A3 rfl<|AE b<|A1 (.leq rfl rfl)<|A1 (.pkT rfl b rfl)<|A3 rfl<|Cc rfl rfl rfl (λa=>?_) (λa=>?_)
 have d:=dT a
 refine A3 rfl<|AE a<|A1 (.rem rfl rfl oO (Int.tmod_eq_emod_of_nonneg oO))<|AE a<|A1 (.eql rfl rfl)<|A1 (.pkT rfl a rfl)<|A8 rfl<|AY ?_
 exact ⟨EO (BH Value.bool (by unfold U9;apply B3.2;simp_all <;> omega)),rfl⟩
 have d:=dF a
 refine B6 a<|B6 a<|A1 (.pkF rfl a rfl)<|A8 rfl<|AY ?_
 exact ⟨EO (BH Value.bool (by unfold U9;apply B3.2;simp_all <;> omega)),rfl⟩
 have c:=dF b
 refine B6 b<|A1 (.pkF rfl b rfl)<|A3 rfl<|B6 rfl<|B6 rfl<|B6 rfl<|A1 (.pkF rfl rfl rfl)<|A8 rfl<|AY ?_
 exact ⟨EO (BH Value.bool (by unfold U9;apply B3.2;simp_all <;> omega)),rfl⟩
def KP (os:List AV) (o:AV):Except Int Int:=match FL os 32 o with
 | none=>.error 27
 | some r=>if (HK r.kind r.n).2=true then .ok (HK r.kind r.n).1 else .error 22
def Fw (os:List AV):List AV->Except Int (List Int)
 | []=>.ok []
 | o::r=>match KP os o with
  | .error e=>.error e
  | .ok n=>match Fw os r with
   | .error e=>.error e
   | .ok m=>.ok (n::m)
theorem Lv (os:List AV) (o:AV) (r:List AV):Fw os (o::r)=match KP os o with | .error e=>.error e | .ok n=>match Fw os r with | .error e=>.error e | .ok m=>.ok (n::m):=rfl
theorem N4 {os:List AV}:∀ {a b:List AV} {ns:List Int},Fw os a=.ok ns->Fw os (a++b)=match Fw os b with | .error e=>.error e | .ok m=>.ok (ns++m)
 | [],b,ns,h=>by
  cases h
  rw [BT]
  cases Fw os b <;> rfl
 | o::a,b,ns,h=>by
  rw [Lv] at h
  rw [Bh,Lv]
  cases hn:KP os o with
  | error e=>rw [hn] at h;cases h
  | ok n =>
   rw [hn] at h
   cases hm:Fw os a with
   | error e=>rw [hm] at h;cases h
   | ok m =>
    rw [hm] at h
    cases h
    rw [N4 hm]
    cases Fw os b <;> rfl
theorem P8 {os:List AV} {l:List AV} {n:Int} (hi:i<l.length) (h:Fw os (l.take i)=.ok ns) (hn:KP os l[i]=.ok n):Fw os (l.take (i+1))=.ok (ns++[n]):=by
 rw [List.take_add_one,Ak hi,Option.toList_some,N4 h]
 unfold Fw
 rw [hn];rfl
theorem KC {os:List AV} {l:List AV} {e:Int} (hi:i<l.length) (h:Fw os (l.take i)=.ok ns) (hn:KP os l[i]=.error e):Fw os l=.error e:=by
 have a:l=l.take i++l[i]::l.drop (i+1):=by rw [<- Aw hi,Ds]
 rw [a,N4 h]
 unfold Fw
 rw [hn]
theorem QU {os:List AV} {o:AV} {e:Int} (h:FL os 32 o=none) (he:e=27):KP os o=.error e:=by unfold KP;rw [h,he]
theorem QT {os:List AV} {o r:AV} (h:FL os 32 o=some r):KP os o=if (HK r.kind r.n).2=true then .ok (HK r.kind r.n).1 else .error 22:=by unfold KP;rw [h]
theorem A0V {os:List AV} {o:AV} {n:Int} (h:KP os o=.ok n):∃ r,FL os 32 o=some r/\(HK r.kind r.n).2=true/\(HK r.kind r.n).1=n:=by
 unfold KP at h
 cases hr:FL os 32 o with
 | none=>rw [hr] at h;cases h
 | some r =>
  rw [hr] at h
  simp only at h
  split at h
  · cases h;exact ⟨r,rfl,aS,rfl⟩
  · cases h
theorem A0W {k n:Int} (h:(HK k n).2=true):-9223372036854775808<=(HK k n).1/\(HK k n).1<=9223372036854775807:=by
 unfold HK V6 Db at *
 split at h
 ·
  rename_i h3
  simp only [AG,AI] at h
  rw [A5 h3]
  simp only;omega
 ·
  rename_i h3
  rw [A2 h3]
  split at h
  ·
   rename_i h2
   rw [A5 h2]
   split <;> simp only <;> omega
  · cases h
theorem T2 {os:List AV}:∀ {l:List AV} {ns:List Int},Fw os l=.ok ns->∀ x∈ns,-9223372036854775808<=x/\x<=9223372036854775807
 | [],ns,h=>by cases h;exact λx hx=>nomatch hx
 | o::r,ns,h=>by
  rw [Lv] at h
  cases hn:KP os o with
  | error e=>rw [hn] at h;cases h
  | ok n =>
   rw [hn] at h
   cases hm:Fw os r with
   | error e=>rw [hm] at h;cases h
   | ok m =>
    rw [hm] at h
    cases h
    intro x hx
    rcases A7.1 hx with rfl | hx
    · obtain ⟨q,-,h2,rfl⟩:=A0V hn;exact A0W h2
    · exact T2 hm x hx
theorem A1e  (h:ns.length=4):∃ a b c d,ns=[a,b,c,d]:=by
 match ns,h with
 | [a,b,c,d],_=>exact ⟨a,b,c,d,rfl⟩
def GD (ns:List Int):Bool:=decide (ns.getD 0 0=0) && (decide (ns.getD 1 0=0) && (U9 (ns.getD 2 0) && U9 (ns.getD 3 0)))
def IR (os:List AV) (i:JE):Except Int (Int × Int):=match i.box with
 | none=>.error 22
 | some u=>match F3 os u 6 with
  | .error e=>.error e
  | .ok r=>if r.list.length=4 then (match Fw os r.list with
   | .error e=>.error e
   | .ok ns=>if GD ns=true then .ok (ns.getD 2 0,ns.getD 3 0) else .error 22) else .error 22
def NK (ns:List Int):Array Value:=((ns++List.replicate (4-ns.length) 0).map (Value.int .i64)).toArray
theorem R5  {n:Int} (h:ns.length<4):(NK ns).setIfInBounds ns.length (Ag n)=NK (ns++[n]):=by
 unfold NK
 rw [List.setIfInBounds_toArray]
 congr 1
 rw [Ej,Ej,Ej,List.set_append_right _ _ (by simp),Bo,Ot]
 obtain ⟨k,hk⟩:∃ k,4-ns.length=k+1:=⟨3-ns.length,oO⟩
 rw [hk,show 4-(ns++[n]).length=k by simp only [A9,Aa,Am];omega,List.replicate_succ]
 simp
theorem Pn  (h:ns.length<=4):(NK ns).size=4:=by
 unfold NK
 simp;omega
end
section
theorem WN  {i:Option AV} {e:Int} (h:LO w S (.pointer p) i) (hw:KT (!p.isNone)=.error e):i=none:=by
 cases i with
 | none=>rfl
 | some u=>obtain ⟨b,z,a,-⟩:=h;cases a;exact Dp (CB hw).1 (by simp)
theorem WM  {i:Option AV} {x:Unit} (h:LO w S (.pointer p) i) (hw:KT (!p.isNone)=.ok x):∃ u,i=some u:=by
 cases i with
 | none=>cases h;exact Dp (DZ hw) (by simp)
 | some u=>exact ⟨u,rfl⟩
theorem ZB {os:List AV} {u:AV} {r:Option AV} {e:Int} (h:F3 os u 6=.error e):IR os ⟨some u,r⟩=.error e:=by unfold IR;simp only;rw [h]
theorem ZC {os:List AV} {u r:AV} {i:Option AV} (h:F3 os u 6=.ok r) (hl:¬ r.list.length=4):IR os ⟨some u,i⟩=.error 22:=by unfold IR;simp only;rw [h];simp only;rw [A2 hl]
theorem KM {os:List AV} {u r:AV} {i:Option AV} {e:Int} (h:F3 os u 6=.ok r) (hl:r.list.length=4) (hn:Fw os r.list=.error e):IR os ⟨some u,i⟩=.error e:=by unfold IR;simp only;rw [h];simp only;rw [A5 hl,hn]
theorem Jw {os:List AV} {u r:AV} {i:Option AV} (h:F3 os u 6=.ok r) (hl:r.list.length=4) (hn:Fw os r.list=.ok ns) (hb:GD ns=false):IR os ⟨some u,i⟩=.error 22:=by unfold IR;simp only;rw [h];simp only;rw [A5 hl,hn];simp only;rw [hb];rfl
theorem Oo {os:List AV} {u r:AV} {i:Option AV} (h:F3 os u 6=.ok r) (hl:r.list.length=4) (hn:Fw os r.list=.ok ns) (hb:GD ns=true):IR os ⟨some u,i⟩=.ok (ns.getD 2 0,ns.getD 3 0):=by unfold IR;simp only;rw [h];simp only;rw [A5 hl,hn];simp only;rw [hb];rfl
theorem T4 {os:List AV} {o r:AV} {k n:Int} (h:FL os 32 o=some r) (hk:r.kind=k) (hn:r.n=n) (hb:(HK k n).2=false):KP os o=.error 22:=by subst hk;subst hn;rw [QT h,hb];rfl
theorem QV {os:List AV} {o r:AV} {k n:Int} (h:FL os 32 o=some r) (hk:r.kind=k) (hn:r.n=n) (hb:(HK k n).2=true):KP os o=.ok (HK k n).1:=by subst hk;subst hn;rw [QT h,hb];rfl
theorem A2a (wk bf:Nat) (sv pv:Value) (S T:Nat->Prop) (os:List AV) (H:Vl os) (p q:Option Addr) (i:JE) (w:World) (hk:B4 w wk (TO bf sv pv) 86) (hf:AK S w bf (Cw os) (Dl os)) (hi:DB w T p q i) (hg:∀ u,i.box=some u->Ir os u) :
  Calls Tryz.prog 113 #[ptV wk,.agg #[.pointer p,.pointer q]] w (TrB w (IR os i) λn=>.tuple #[Ag n.1,Ag n.2]):=by
 have eY:AK (λk=>k<w.heap.size) w bf (Cw os) (Dl os):=hf.mono λk _ hk=>hk
 have eZ:DB w (λk=>k<w.heap.size) p q i:=hi.mono λk _ hk=>hk
 obtain ⟨ib,ir⟩:=i
 refine AF func113 rfl ntmps113 ?_
 have e':=Dh w
 refine A4<|WL.box rfl rfl (λb1 dU dV bU aM fo=>?_)
 have f0:=AK.same (w1:=dU) eY (λk hk hl=>aM.other k oO)
 have dW:=DB.same (w1:=dU) eZ (λk hk hl=>aM.other k oO)
 have f1:=Bt dV hk.lt
 have f2:=hk.un aM f1
 have bV:=uB e' dV aM
 refine CL rfl<|A8 rfl<|A4<|A1 (.fa Ge rfl KX dD rfl)<|Aj (Ae (isAgg115 _) rfl bU rfl)<|A1 (.neP underlying115 rfl)<|Ch BQ rfl rfl ((E5 _ _)) (λk9 w7 aN aA=>?_) (λa8 w7 aN aA=>?_)
 have cr:=Ex bV (Below.mono aA bV.size)
 exact Bx (BB k9 (by rw [(CB aN).2];have:=WN (dW).box aN;simp only at this;subst this;rfl) cr)
 have bW:=AK.same (w1:=w7) f0 (λk hk hl=>aA.block k hl)
 have bX:=DB.same (w1:=w7) dW (λk hk hl=>aA.block k hl)
 have bY:=f2.bl aA
 have b8:=bU.bl aA
 have aO:=Ci bV aA
 obtain ⟨u,rfl⟩:=WM (bX).box aN
 obtain ⟨pb,z0,f3,f4,fG,f5⟩:=(bX).box
 cases f3
 refine A0<|A4<|A3 rfl<|A1 (.fa Ge rfl KX dD rfl)<|Aj (Ae (isAgg115 _) rfl b8 rfl)<|A1 (.nck rfl)<|Aj (Bd rfl f4 Av rfl Ah)<|EE BQ rfl rfl ((I3 wk bf sv pv _ _ os H z0 u 6 _ bY bW f5 (hg u rfl))) (λf6 b5 ao a2=>?_) (λfH fI b5 ao a2=>?_)
 have bZ:=Ex aO (Below.mono a2 aO.size)
 exact Bx (BB f6 (ZB ao) bZ)
 have e1:=AK.same (w1:=b5) bW (λk hk hl=>a2.1.block k hl)
 have e3:=bY.bl a2.1
 have e4:=b8.bl a2.1
 have b9:=Ci aO a2.1
 obtain ⟨y,ey,hy⟩:=a2.2
 subst ey
 have fJ:=aO.size
 have hb3:=b8.lt
 have f7:=I2 H (hg u rfl) ao
 have K:=ao
 have fK:=a2.1.size
 obtain ⟨keys,list,data,cs,dX,ok,fL,fM,fN,hr,f8,hd,fO,f9,e5⟩:=hy.inv
 obtain ⟨k,n,s,kp,kl,kc,lp,ll,lc,dp,dl,dc⟩:=y
 have e2:=ok.ll
 simp only at e2 hr f8 dX
 subst e2
 subst dX
 have dY:AJ b5 (λq=>w.heap.size<=q/\q<b5.heap.size) cs list:=⟨f9,λi h h2=>(e5 i h h2).mono λq h1 h2=>⟨oM,h2⟩⟩
 obtain ⟨LB,dZ⟩:=eX ((b5).heap.size)
 rw [<- dZ] at dY
 have bk:∀ i (h:i<list.length),Ir os list[i]:=λi h=>f7.1.sub (Ar h)
 refine A1 (.fld Av rfl DW rfl rfl)<|A8 rfl<|A4<|A3 rfl<|A1 (.lenS Cg rfl)<|A1 (.eql rfl rfl)<|Ch BQ rfl rfl ((E5 _ _)) (λfb b' ap L=>?_) (λfP b' ap L=>?_)
 have c0:=Ex b9 (Below.mono L b9.size)
 exact Bx (BB fb (by rw [(CB ap).2];exact ZC K (by have h4:¬ ((cs.length:Nat):Int)=4:=dF (CB ap).1;show ¬ list.length=4;omega)) c0)
 have e6:=AK.same (w1:=b') e1 (λk hk hl=>L.block k hl)
 have e7:=AJ.same (w1:=b') dY (λk hk hl=>L.block k hl)
 have c2:=e3.bl L
 have e8:=e4.bl L
 have c3:=Ea hr L (λb=>hr.lt b)
 have c4:=Ci b9 L
 have e9:=L.size
 rw [<- dZ] at e9
 have x:list.length=4:=by have h4:((cs.length:Nat):Int)=4:=dT (DZ ap);omega
 refine A0<|A4<|Bm zeroValue48 rfl (λB c5 aB ct aa fj=>?_)
 have ea:=AK.same (w1:=c5) e6 (λk hk hl=>aa.other k oO)
 have eb:=AJ.same (w1:=c5) e7 (λk hk hl=>aa.other k oO)
 have ec:=Bt aB c2.lt
 have ed:=c2.un aa ec
 have fp:=Bt aB e8.lt
 have aP:=λb=>aB▸c3.lt b
 have ee:=AA.upd c3 aa (λb=>CV (aP b))
 have ef:=uB c4 aB aa
 have fc:=CW aB c4.size
 refine A0<|Ad<|A4<|A3 rfl<|A1 (.lenS Cg rfl)<|A3 rfl<|A0<|AT ?_
 have fq:LB<=B:=by omega
 refine BO (α:=Nat × List Int) (λt=>[(0,ptV wk),(7,ptV B),(29,.slice lp cs.length lc),(30,Ag (cs.length:Int)),(31,Ag (t.1:Int))]) (λt w'=>AL w w'/\B4 w' wk (TO bf sv pv) 86/\B4 w' B (NK t.2) 48/\AA Fi w' lp cs/\AK (λk=>k<w.heap.size) w' bf (Cw os) (Dl os)/\AJ w' (λq=>w.heap.size<=q/\q<LB) cs list/\t.1<=cs.length/\Fw os (list.take t.1)=.ok t.2/\t.2.length=t.1) (λt=>cs.length-t.1) ((0,[])) ⟨rfl,rfl,rfl,rfl,rfl,tT⟩ (⟨ef,ed,ct,ee,ea,eb,FN _,rfl,rfl⟩) (λt w1 hR=>?_)
 obtain ⟨i0,ns⟩:=t
 obtain ⟨q1,q2,q3,q4,q5,q6,q7,q8,q9⟩:=hR
 simp only at q3 q7 q8 q9
 have fQ:=q3.lt
 have fR:ns.length<5:=by omega
 refine A4<|A1 (.lss rfl rfl)<|A0<|Ad<|Ai rfl (λc6=>?_) (λc6=>?_)
 have eg:=dT c6
 refine As<|Ad<|AT<|A4<|A1 (.iis (((i0:Nat):Int)) (.mv rfl) oO)<|A1 (.ixm Cg Dd rfl rfl (q4.isp oO) _ rfl oO)<|Aj (DG Av rfl Ah q4 (_) oO rfl)<|Bm CA rfl (λd' c7 aC cu a4 fk=>?_)
 have eh:=AK.same (w1:=c7) q5 (λk hk hl=>a4.other k oO)
 have ei:=AJ.same (w1:=c7) q6 (λk hk hl=>a4.other k oO)
 have ej:=Bt aC q2.lt
 have ek:=q2.un a4 ej
 have el:=Bt aC q3.lt
 have em:=q3.un a4 el
 have bm:=λb=>aC▸q4.lt b
 have en:=AA.upd q4 a4 (λb=>CV (bm b))
 have eo:=uB q1 aC a4
 have fd:=CW aC q1.size
 refine CL rfl<|Az rfl rfl cu Ah rfl rfl (λbn a a5 fl=>?_)
 have ep:=AK.same (w1:=bn) eh (λk hk hl=>a5.other k oM)
 have eq:=AJ.same (w1:=bn) ei (λk hk hl=>a5.other k oM)
 have c:=ek.up a5
 have er:=em.up a5
 have es:=AA.upd en a5 (λb=>CV (bm b))
 have et:=BR eo oO a5
 refine A0<|Ad<|DF 12 rfl BS (λw'=>w'.heap[wk]?=bn.heap[wk]?/\w'.heap[d']?=bn.heap[d']?/\True) (λc8 a7=>?_)
 have ba:=AK.same (w1:=c8) ep (λk hk hl=>(by obtain ⟨m,rfl⟩:=a7;rfl))
 have bb:=AJ.same (w1:=c8) eq (λk hk hl=>(by obtain ⟨m,rfl⟩:=a7;rfl))
 have a3:=c.drew a7
 have bc:=er.drew a7
 have P:=a.drew a7
 have aQ:=es.drew a7
 have aR:=Cn.below et a7
 refine Ac 0 rfl (.mv rfl) ⟨(a3).trans (c).symm,(P).trans (a).symm,tT⟩ ?_
 refine Ac 1 rfl (.nck rfl) ⟨(a3).trans (c).symm,(P).trans (a).symm,tT⟩ ?_
 refine Ac 2 rfl (.fa NS rfl sizeOf38 dD rfl) ⟨(a3).trans (c).symm,(P).trans (a).symm,tT⟩ ?_
 refine C6 3 rfl (λw' hw'=>Ae (isAgg38 _) rfl ((hw'.1).trans c) rfl) ⟨(a3).trans (c).symm,(P).trans (a).symm,tT⟩ rfl ?_
 refine C6 4 rfl (λw' hw'=>Bd rfl ((hw'.2.1).trans a) Av rfl Ah) ⟨(a3).trans (c).symm,(P).trans (a).symm,tT⟩ rfl ?_
 refine IS 5 rfl 9 rfl ?_ ?_
 refine Bf BQ rfl rfl ((Fj bf _ os H.objs (λo ho=>(H.goo o ho).rng.ref) (cs[i0]'oO) (list[i0]'oO) _ (FL os 32 (list[i0]'oO)) _ ba ((bb).sub i0 oO oO) (bk i0 oO).snd (bk i0 oO).rng.ref rfl)) (λz c9 Q=>?_)
 have eu:=AK.same (w1:=c9) ba (λk hk hl=>Q.2.block k hl)
 have ev:=AJ.same (w1:=c9) bb (λk hk hl=>Q.2.block k hl)
 have aj:=a3.bl Q.2
 have ca:=bc.bl Q.2
 have ak:=P.bl Q.2
 have cb:=Ea aQ Q.2 (λb=>aQ.lt b)
 have cc:=Ci aR Q.2
 have hz:=(Q).1.mono (T:=λq=>c8.heap.size<=q/\q<c9.heap.size) (λq h1 h2=>⟨h1,h2⟩)
 have ew:=P.lt
 have ex:=aR.size
 have ez:=Q.2.size
 refine A0<|⟨⟨(aj).trans (c).symm,(ak).trans (a).symm,tT⟩,?_⟩
 refine Ac 6 rfl (.mv rfl) ⟨(aj).trans (c).symm,(ak).trans (a).symm,tT⟩ ?_
 refine Ac 7 rfl (.ext rfl rfl) ⟨(aj).trans (c).symm,(ak).trans (a).symm,tT⟩ ?_
 refine Ac 8 rfl (.ext rfl rfl) ⟨(aj).trans (c).symm,(ak).trans (a).symm,tT⟩ ?_
 refine Br 9 rfl<|Bm CA rfl (λfS bd am cv G fm=>?_)
 have eA:=AK.same (w1:=bd) eu (λk hk hl=>G.other k oO)
 have eB:=AJ.same (w1:=bd) ev (λk hk hl=>G.other k oO)
 have eC:=At.same (w1:=bd) hz (λk hk hl=>G.other k oO)
 have eD:=Bt am aj.lt
 have cd:=aj.un G eD
 have eF:=Bt am ca.lt
 have eG:=ca.un G eF
 have eH:=Bt am ak.lt
 have cf:=ak.un G eH
 have bo:=λb=>am▸cb.lt b
 have eI:=AA.upd cb G (λb=>CV (bo b))
 have eJ:=uB cc am G
 have fe:=CW am cc.size
 refine A0<|⟨⟨(cd).trans (c).symm,(cf).trans (a).symm,tT⟩,?_⟩
 refine Br 10 rfl<|Az rfl rfl cv Ah rfl rfl (λcg cw J fn=>?_)
 have eK:=AK.same (w1:=cg) eA (λk hk hl=>J.other k oM)
 have eL:=AJ.same (w1:=cg) eB (λk hk hl=>J.other k oM)
 have eM:=At.same (w1:=cg) eC (λk hk hl=>J.other k oO)
 have be:=cd.up J
 have eN:=eG.up J
 have ci:=cf.up J
 have bp:=AA.upd eI J (λb=>CV (bo b))
 have aS:=BR eJ oO J
 refine A0<|⟨⟨(be).trans (c).symm,(ci).trans (a).symm,tT⟩,?_⟩
 refine Ac 11 rfl (.as rfl) ⟨(be).trans (c).symm,(ci).trans (a).symm,tT⟩ ?_
 refine C3 kR<|A4<|A3 rfl<|Ch BQ rfl rfl ((GS _ _)) (λeO aT aD d=>?_) (λfr aT aD d=>?_)
 have bM:=Ex aS (Below.mono d aS.size)
 exact Bx (BB eO (by obtain ⟨h1,h2⟩:=KE aD;exact KM K x (KC (l:=list) oO q8 (QU h1 h2))) bM)
 have cy:=AK.same (w1:=aT) eK (λk hk hl=>d.block k hl)
 have cz:=AJ.same (w1:=aT) eL (λk hk hl=>d.block k hl)
 have cA:=At.same (w1:=aT) eM (λk hk hl=>d.block k hl)
 have cB:=be.bl d
 have cC:=eN.bl d
 have cD:=cw.bl d
 have bq:=Ea bp d (λb=>bp.lt b)
 have cE:=Ci aS d
 obtain ⟨r,hR⟩:=Og aD
 have a9:=cA
 rw [hR] at a9
 have b6:r.kind=z.kind:=At.kind (o:=r) a9
 refine A0<|A4<|A8 rfl<|A4<|A3 rfl<|Aj (Bd rfl cD Av rfl Ah)<|Au (Qx z _) (λbg U=>?_)
 have cF:=AK.same (w1:=bg) cy (λk hk hl=>U.block k hl)
 have cG:=AJ.same (w1:=bg) cz (λk hk hl=>U.block k hl)
 have cH:=At.same (w1:=bg) a9 (λk hk hl=>U.block k hl)
 have cI:=cB.bl U
 have cJ:=cC.bl U
 have cK:=Ea bq U (λb=>bq.lt b)
 have cL:=Ci cE U
 refine A3 rfl<|A1 (.ext rfl rfl)<|A1 (.ext rfl rfl)<|A1 (.ixr1 LT BI rfl rfl _ rfl oO)<|Ve (o:=ns.length) (NK (ns++[(HK z.kind z.n).1])) BI rfl (by rw [GU,D5,q9]) rfl (rfl) cJ (by rw [Pn oO];omega) (R5 oO) (λaU aE g ff=>?_)
 have aE:B4 aU B _ _:=aE
 have g:CP B _ _:=g
 have cM:=AK.same (w1:=aU) cF (λk hk hl=>g.other k oM)
 have cN:=AJ.same (w1:=aU) cG (λk hk hl=>g.other k oM)
 have bt:=At.same (w1:=aU) cH (λk hk hl=>g.other k oM)
 have cO:=cI.up g
 have bu:=AA.upd cK g (λb=>CV (aP b))
 have aV:=BR cL oO g
 refine A8 rfl<|An<|A3 rfl<|Ch BQ rfl rfl ((E5 _ _)) (λeP aW ab C=>?_) (λfs aW ab C=>?_)
 have bN:=Ex aV (Below.mono C aV.size)
 exact Bx (BB eP (by rw [(CB ab).2];exact KM K x (KC (l:=list) oO q8 (T4 hR b6 (bt).nE (CB ab).1))) bN)
 have cP:=AK.same (w1:=aW) cM (λk hk hl=>C.block k hl)
 have cQ:=AJ.same (w1:=aW) cN (λk hk hl=>C.block k hl)
 have cR:=At.same (w1:=aW) bt (λk hk hl=>C.block k hl)
 have cS:=cO.bl C
 have cT:=aE.bl C
 have cU:=Ea bu C (λb=>bu.lt b)
 have cV:=Ci aV C
 have cj:=QV hR b6 (cR).nE (DZ ab)
 refine A0<|An<|A1 (.add rfl rfl (Bb oO))<|A3 rfl<|A0<|?_
 exact ⟨(i0+1,ns++[(HK z.kind z.n).1]),⟨rfl,rfl,rfl,rfl,rfl,tT⟩,⟨cV,cS,cT,cU,cP,cQ,oM,P8 oO q8 cj,by simp;((try simp only) <;> omega)⟩,oM⟩
 refine Bm CA rfl (λft aX a6 ck E fg=>?_)
 have bv:=AK.same (w1:=aX) ba (λk hk hl=>E.other k oO)
 have bw:=AJ.same (w1:=aX) bb (λk hk hl=>E.other k oO)
 have cW:=Bt a6 a3.lt
 have bz:=a3.un E cW
 have cX:=Bt a6 bc.lt
 have cY:=bc.un E cX
 have cZ:=Bt a6 P.lt
 have aY:=P.un E cZ
 have b7:=λb=>a6▸aQ.lt b
 have bA:=AA.upd aQ E (λb=>CV (b7 b))
 have bB:=uB aR a6 E
 have eW:=CW a6 aR.size
 refine A0<|⟨⟨(bz).trans (c).symm,(aY).trans (a).symm,tT⟩,?_⟩
 refine Br 5 rfl<|Bf BQ rfl rfl ((Fj bf _ os H.objs (λo ho=>(H.goo o ho).rng.ref) (cs[i0]'oO) (list[i0]'oO) _ (FL os 32 (list[i0]'oO)) _ bv ((bw).sub i0 oO oO) (bk i0 oO).snd (bk i0 oO).rng.ref rfl)) (λz bh e=>?_)
 have c':=AK.same (w1:=bh) bv (λk hk hl=>e.2.block k hl)
 have d0:=AJ.same (w1:=bh) bw (λk hk hl=>e.2.block k hl)
 have ac:=bz.bl e.2
 have d1:=cY.bl e.2
 have ad:=aY.bl e.2
 have d2:=ck.bl e.2
 have d3:=Ea bA e.2 (λb=>bA.lt b)
 have d4:=Ci bB e.2
 have hz:=(e).1.mono (T:=λq=>aX.heap.size<=q/\q<bh.heap.size) (λq h1 h2=>⟨h1,h2⟩)
 have ew:=aY.lt
 have ex:=bB.size
 have ez:=e.2.size
 refine A0<|⟨⟨(ac).trans (c).symm,(ad).trans (a).symm,tT⟩,?_⟩
 refine Ac 6 rfl (.mv rfl) ⟨(ac).trans (c).symm,(ad).trans (a).symm,tT⟩ ?_
 refine Ac 7 rfl (.ext rfl rfl) ⟨(ac).trans (c).symm,(ad).trans (a).symm,tT⟩ ?_
 refine Ac 8 rfl (.ext rfl rfl) ⟨(ac).trans (c).symm,(ad).trans (a).symm,tT⟩ ?_
 refine Br 10 rfl<|Az rfl rfl d2 Ah rfl rfl (λbi cl j fh=>?_)
 have d5:=AK.same (w1:=bi) c' (λk hk hl=>j.other k oM)
 have d6:=AJ.same (w1:=bi) d0 (λk hk hl=>j.other k oM)
 have d7:=At.same (w1:=bi) hz (λk hk hl=>j.other k oO)
 have aZ:=ac.up j
 have d8:=d1.up j
 have bC:=ad.up j
 have bD:=AA.upd d3 j (λb=>CV (b7 b))
 have a':=BR d4 oO j
 refine A0<|⟨⟨(aZ).trans (c).symm,(bC).trans (a).symm,tT⟩,?_⟩
 refine Ac 11 rfl (.as rfl) ⟨(aZ).trans (c).symm,(bC).trans (a).symm,tT⟩ ?_
 refine C3 kR<|A4<|A3 rfl<|Ch BQ rfl rfl ((GS _ _)) (λeQ b0 aF f=>?_) (λfu b0 aF f=>?_)
 have bO:=Ex a' (Below.mono f a'.size)
 exact Bx (BB eQ (by obtain ⟨h1,h2⟩:=KE aF;exact KM K x (KC (l:=list) oO q8 (QU h1 h2))) bO)
 have d9:=AK.same (w1:=b0) d5 (λk hk hl=>f.block k hl)
 have da:=AJ.same (w1:=b0) d6 (λk hk hl=>f.block k hl)
 have db:=At.same (w1:=b0) d7 (λk hk hl=>f.block k hl)
 have dd:=aZ.bl f
 have de:=d8.bl f
 have df:=cl.bl f
 have bE:=Ea bD f (λb=>bD.lt b)
 have dg:=Ci a' f
 obtain ⟨r,hR⟩:=Og aF
 have a9:=db
 rw [hR] at a9
 have b6:r.kind=z.kind:=At.kind (o:=r) a9
 refine A0<|A4<|A8 rfl<|A4<|A3 rfl<|Aj (Bd rfl df Av rfl Ah)<|Au (Qx z _) (λbj V=>?_)
 have dh:=AK.same (w1:=bj) d9 (λk hk hl=>V.block k hl)
 have di:=AJ.same (w1:=bj) da (λk hk hl=>V.block k hl)
 have dj:=At.same (w1:=bj) a9 (λk hk hl=>V.block k hl)
 have dk:=dd.bl V
 have dm:=de.bl V
 have dn:=Ea bE V (λb=>bE.lt b)
 have dq:=Ci dg V
 refine A3 rfl<|A1 (.ext rfl rfl)<|A1 (.ext rfl rfl)<|A1 (.ixr1 LT BI rfl rfl _ rfl oO)<|Ve (o:=ns.length) (NK (ns++[(HK z.kind z.n).1])) BI rfl (by rw [GU,D5,q9]) rfl (rfl) dm (by rw [Pn oO];omega) (R5 oO) (λb2 aG v fi=>?_)
 have aG:B4 b2 B _ _:=aG
 have v:CP B _ _:=v
 have dr:=AK.same (w1:=b2) dh (λk hk hl=>v.other k oM)
 have ds:=AJ.same (w1:=b2) di (λk hk hl=>v.other k oM)
 have bG:=At.same (w1:=b2) dj (λk hk hl=>v.other k oM)
 have dt:=dk.up v
 have bH:=AA.upd dn v (λb=>CV (aP b))
 have b3:=BR dq oO v
 refine A8 rfl<|An<|A3 rfl<|Ch BQ rfl rfl ((E5 _ _)) (λeR b4 ae D=>?_) (λfv b4 ae D=>?_)
 have bP:=Ex b3 (Below.mono D b3.size)
 exact Bx (BB eR (by rw [(CB ae).2];exact KM K x (KC (l:=list) oO q8 (T4 hR b6 (bG).nE (CB ae).1))) bP)
 have du:=AK.same (w1:=b4) dr (λk hk hl=>D.block k hl)
 have dv:=AJ.same (w1:=b4) ds (λk hk hl=>D.block k hl)
 have dw:=At.same (w1:=b4) bG (λk hk hl=>D.block k hl)
 have dx:=dt.bl D
 have dy:=aG.bl D
 have dz:=Ea bH D (λb=>bH.lt b)
 have dA:=Ci b3 D
 have cj:=QV hR b6 (dw).nE (DZ ae)
 refine A0<|An<|A1 (.add rfl rfl (Bb oO))<|A3 rfl<|A0<|?_
 exact ⟨(i0+1,ns++[(HK z.kind z.n).1]),⟨rfl,rfl,rfl,rfl,rfl,tT⟩,⟨dA,dx,dy,dz,du,dv,oM,P8 oO q8 cj,by simp;((try simp only) <;> omega)⟩,oM⟩
 have eg:=dF c6
 refine BL<|Ad ?_
 obtain ⟨n0,n1,n2,n3,rfl⟩:=A1e (ns:=ns) oO
 have e0:=T2 q8
 have an:Fw os list=.ok [n0,n1,n2,n3]:=by rw [Al oO] at q8;exact q8
 have a1:B4 w1 B #[Ag n0,Ag n1,Ag n2,Ag n3] 48:=q3
 refine An<|A8 rfl<|A4<|A1 (.ixr1 LT BI rfl rfl 0 rfl oO)<|Aj (Ae (C5 _) rfl a1 rfl)<|A1 (.eql rfl rfl)<|A3 rfl<|Cc rfl rfl rfl (λX=>?_) (λX=>?_)
 have dB:=dT X
 refine A1 (.ixr1 LT BI rfl rfl 1 rfl oO)<|AE X<|Aj (Ae (C5 _) rfl a1 rfl)<|AE X<|A1 (.eql rfl rfl)<|A1 (.pkT rfl X rfl)<|A3 rfl<|Cc rfl rfl rfl (λF=>?_) (λF=>?_)
 have dC:=dT F
 refine A3 rfl<|AE F<|A1 (.ixr1 LT BI rfl rfl 2 rfl oO)<|AE F<|Aj (Ae (C5 _) rfl a1 rfl)<|AE F<|ZQ BQ rfl rfl rfl rfl ((Vq n2 _ (e0 _ (by simp)))) (λfw dE=>?_)
 obtain rfl:=dE
 refine A1 (.pkT rfl F rfl)<|A3 rfl<|Cc rfl rfl rfl (λa0=>?_) (λa0=>?_)
 refine A3 rfl<|AE a0<|A1 (.ixr1 LT BI rfl rfl 3 rfl oO)<|AE a0<|Aj (Ae (C5 _) rfl a1 rfl)<|AE a0<|ZQ BQ rfl rfl rfl rfl ((Vq n3 _ (e0 _ (by simp)))) (λfx dG=>?_)
 obtain rfl:=dG
 refine A1 (.pkT rfl a0 rfl)<|Ch BQ rfl rfl ((E5 _ _)) (λeS cm af aq=>?_) (λfy cm af aq=>?_)
 have bQ:=Ex q1 (Below.mono aq q1.size)
 exact Bx (BB eS (by rw [(CB af).2];exact Jw K x an (by have:=(CB af).1;unfold GD;simp_all)) bQ)
 have ar:=a1.below aq a1.lt
 have dH:=Ci q1 aq
 have aH:GD [n0,n1,n2,n3]=true:=by have:=DZ af;unfold GD;simp_all
 refine A0<|Ad<|DF 6 rfl BS (λw'=>w'.heap[B]?=cm.heap[B]?/\True) (λfz bI=>?_)
 have dI:=ar.drew bI
 have dJ:=Cn.below dH bI
 have aI:=BU (dI.trans ar.symm) BF
 refine Ac 0 rfl (.ixr1 LT BI rfl rfl 2 rfl oO) aI ?_
 refine C6 1 rfl (λw' hw'=>Ae (C5 _) rfl ((hw'.1).trans ar) rfl) aI rfl ?_
 refine Ac 2 rfl (.ixr1 LT BI rfl rfl 3 rfl oO) aI ?_
 refine C6 3 rfl (λw' hw'=>Ae (C5 _) rfl ((hw'.1).trans ar) rfl) aI rfl ?_
 refine Ac 4 rfl (.as rfl) aI ?_
 refine Ac 5 rfl (.as rfl) aI ?_
 refine C3 kR<|AU (Du rfl rfl rfl ?_)
 exact Ce.ok (n2,n3) (Oo K x an aH) rfl dJ
 refine B6 a0<|B6 a0<|B6 a0<|A1 (.pkF rfl a0 rfl)<|Ch BQ rfl rfl ((E5 _ _)) (λeT cn ag au=>?_) (λfA cn ag au=>?_)
 have bR:=Ex q1 (Below.mono au q1.size)
 exact Bx (BB eT (by rw [(CB ag).2];exact Jw K x an (by have:=(CB ag).1;unfold GD;simp_all)) bR)
 have av:=a1.below au a1.lt
 have dK:=Ci q1 au
 have aH:GD [n0,n1,n2,n3]=true:=by have:=DZ ag;unfold GD;simp_all
 refine A0<|Ad<|DF 6 rfl BS (λw'=>w'.heap[B]?=cn.heap[B]?/\True) (λfB bJ=>?_)
 have dL:=av.drew bJ
 have dM:=Cn.below dK bJ
 have aJ:=BU (dL.trans av.symm) BF
 refine Ac 0 rfl (.ixr1 LT BI rfl rfl 2 rfl oO) aJ ?_
 refine C6 1 rfl (λw' hw'=>Ae (C5 _) rfl ((hw'.1).trans av) rfl) aJ rfl ?_
 refine Ac 2 rfl (.ixr1 LT BI rfl rfl 3 rfl oO) aJ ?_
 refine C6 3 rfl (λw' hw'=>Ae (C5 _) rfl ((hw'.1).trans av) rfl) aJ rfl ?_
 refine Ac 4 rfl (.as rfl) aJ ?_
 refine Ac 5 rfl (.as rfl) aJ ?_
 refine C3 kR<|AU (Du rfl rfl rfl ?_)
 exact Ce.ok (n2,n3) (Oo K x an aH) rfl dM
 have dC:=dF F
 refine B6 F<|B6 F<|B6 F<|A1 (.pkF rfl F rfl)<|A3 rfl<|B6 rfl<|B6 rfl<|B6 rfl<|B6 rfl<|A1 (.pkF rfl rfl rfl)<|Ch BQ rfl rfl ((E5 _ _)) (λeU co ah aw=>?_) (λfC co ah aw=>?_)
 have bS:=Ex q1 (Below.mono aw q1.size)
 exact Bx (BB eU (by rw [(CB ah).2];exact Jw K x an (by have:=(CB ah).1;unfold GD;simp_all)) bS)
 have ax:=a1.below aw a1.lt
 have dN:=Ci q1 aw
 have aH:GD [n0,n1,n2,n3]=true:=by have:=DZ ah;unfold GD;simp_all
 refine A0<|Ad<|DF 6 rfl BS (λw'=>w'.heap[B]?=co.heap[B]?/\True) (λfD bK=>?_)
 have dO:=ax.drew bK
 have dP:=Cn.below dN bK
 have aK:=BU (dO.trans ax.symm) BF
 refine Ac 0 rfl (.ixr1 LT BI rfl rfl 2 rfl oO) aK ?_
 refine C6 1 rfl (λw' hw'=>Ae (C5 _) rfl ((hw'.1).trans ax) rfl) aK rfl ?_
 refine Ac 2 rfl (.ixr1 LT BI rfl rfl 3 rfl oO) aK ?_
 refine C6 3 rfl (λw' hw'=>Ae (C5 _) rfl ((hw'.1).trans ax) rfl) aK rfl ?_
 refine Ac 4 rfl (.as rfl) aK ?_
 refine Ac 5 rfl (.as rfl) aK ?_
 refine C3 kR<|AU (Du rfl rfl rfl ?_)
 exact Ce.ok (n2,n3) (Oo K x an aH) rfl dP
 have dB:=dF X
 refine B6 X<|B6 X<|A1 (.pkF rfl X rfl)<|A3 rfl<|B6 rfl<|B6 rfl<|B6 rfl<|B6 rfl<|A1 (.pkF rfl rfl rfl)<|A3 rfl<|B6 rfl<|B6 rfl<|B6 rfl<|B6 rfl<|A1 (.pkF rfl rfl rfl)<|Ch BQ rfl rfl ((E5 _ _)) (λeV cq ai ay=>?_) (λfE cq ai ay=>?_)
 have bT:=Ex q1 (Below.mono ay q1.size)
 exact Bx (BB eV (by rw [(CB ai).2];exact Jw K x an (by have:=(CB ai).1;unfold GD;simp_all)) bT)
 have az:=a1.below ay a1.lt
 have dQ:=Ci q1 ay
 have aH:GD [n0,n1,n2,n3]=true:=by have:=DZ ai;unfold GD;simp_all
 refine A0<|Ad<|DF 6 rfl BS (λw'=>w'.heap[B]?=cq.heap[B]?/\True) (λfF bL=>?_)
 have dR:=az.drew bL
 have dS:=Cn.below dQ bL
 have aL:=BU (dR.trans az.symm) BF
 refine Ac 0 rfl (.ixr1 LT BI rfl rfl 2 rfl oO) aL ?_
 refine C6 1 rfl (λw' hw'=>Ae (C5 _) rfl ((hw'.1).trans az) rfl) aL rfl ?_
 refine Ac 2 rfl (.ixr1 LT BI rfl rfl 3 rfl oO) aL ?_
 refine C6 3 rfl (λw' hw'=>Ae (C5 _) rfl ((hw'.1).trans az) rfl) aL rfl ?_
 refine Ac 4 rfl (.as rfl) aL ?_
 refine Ac 5 rfl (.as rfl) aL ?_
 refine C3 kR<|AU (Du rfl rfl rfl ?_)
 exact Ce.ok (n2,n3) (Oo K x an aH) rfl dS
end
section
def PJ:List (l8_):=[[67,111,117,114,105,101,114],[67,111,117,114,105,101,114,45,66,111,108,100],[67,111,117,114,105,101,114,45,79,98,108,105,113,117,101],[67,111,117,114,105,101,114,45,66,111,108,100,79,98,108,105,113,117,101],[72,101,108,118,101,116,105,99,97],[72,101,108,118,101,116,105,99,97,45,66,111,108,100],[72,101,108,118,101,116,105,99,97,45,79,98,108,105,113,117,101],[72,101,108,118,101,116,105,99,97,45,66,111,108,100,79,98,108,105,113,117,101],[84,105,109,101,115,45,82,111,109,97,110],[84,105,109,101,115,45,66,111,108,100],[84,105,109,101,115,45,73,116,97,108,105,99],[84,105,109,101,115,45,66,111,108,100,73,116,97,108,105,99],[83,121,109,98,111,108],[90,97,112,102,68,105,110,103,98,97,116,115]]
theorem A2C:(Tryz.prog.info? 230).map (·.size)=some 14:=by kernel_rfl
theorem Iy:PJ.length=14:=rfl
abbrev nmC:Array Value:=(PJ.map F4).toArray
abbrev XA (w:World):Prop:=B4 w 1 nmC 230
theorem A1N  (h:i<PJ.length):nmC[i]?=some (.string (bs PJ[i])):=by
 rw [List.getElem?_toArray,List.getElem?_map,Ak h];rfl
def Ew (s:l8_):Nat:=PJ.findIdx (·=s)
def LF (s:l8_):Int:=if Ew s<14 then (Ew s:Int) else 0
theorem A1h  (h:Ew s<14):LF s=(Ew s:Int):=A5 h
theorem Oi  (h:i<PJ.length) (ho:∀ j<i,PJ.getD j []≠s) (he:PJ[i]=s):Ew s=i:=by
 unfold Ew
 rw [List.findIdx_eq h]
 refine ⟨by simpa using he,λj hj=>?_⟩
 have:=ho j hj
 rw [D8,Ak oO] at this
 simpa using this
theorem Oj  (ho:∀ j<14,PJ.getD j []≠s):Ew s=14:=by
 unfold Ew
 rw [List.findIdx_eq_length_of_false]
 · rfl
 ·
  intro x hx
  obtain ⟨j,hj,rfl⟩:=List.mem_iff_getElem.1 hx
  have:=ho j hj
  rw [D8,Ak hj] at this
  simpa using this
theorem A1O  (h:i<PJ.length):PJ.getD i []=PJ[i]:=by rw [D8,Ak h];rfl
theorem VS  (h:Ew s=i) (hi:i<14):(Value.tuple #[Ag (i:Int),.bool true])=.tuple #[Ag (LF s),.bool (decide (Ew s<14))]:=by unfold LF;rw [h,A5 hi,AR hi]
theorem Tl  (h:Ew s=14):(Value.tuple #[Ag 0,.bool false])=.tuple #[Ag (LF s),.bool (decide (Ew s<14))]:=by unfold LF;rw [h];rfl
theorem Zd  (h:Ew s=i) (hi:i<14):Value.int .i64 (i:Int)=Ag (if Ew s<14 then (Ew s:Int) else -1):=by rw [h,A5 hi]
theorem Ze  (h:Ew s=14):Value.int .i64 (-1)=Ag (if Ew s<14 then (Ew s:Int) else -1):=by rw [h];rfl
theorem R6 (s:l8_) (w:World) (hN:XA w):Calls Tryz.prog 144 #[.string (bs s)] w λe w'=>e=.returned (.tuple #[Ag (LF s),.bool (decide (Ew s<14))])/\w=w':=by
 refine AF func144 rfl ntmps144<|A4<|CL rfl<|A8 rfl<|Ad<|A4<|Aj (Bd rfl hN underlying230 rfl A2C)<|A3 rfl<|A0<|AT<|BO (α:=Nat) (λt=>[(0,.string (bs s)),(6,.agg nmC),(7,Ag (t:Int))]) (λt w'=>w=w'/\t<=14/\∀ j<t,PJ.getD j []≠s) (λt=>14-t) (0) ⟨rfl,rfl,rfl,tT⟩ (⟨rfl,oO,λj hj=>by omega⟩) (λt g hR=>?_)
 obtain ⟨a,rfl⟩:=eX t
 obtain ⟨rfl,ht,ho⟩:=hR
 refine A4<|A1 (.lss rfl rfl)<|A0<|Ad<|Ai rfl (λb=>?_) (λb=>?_)
 have d:=dT b
 refine As<|Ad<|AT<|A4<|A3 rfl<|A1 (.ixv underlying230 FU FP rfl rfl (a) (rfl) oO (A1N (i:=a) (by rw [Iy];omega)))<|CL rfl<|A8 rfl<|A4<|A3 rfl<|A3 rfl<|A1 (.eqs rfl rfl)<|A0<|Ai rfl (λc=>?_) (λc=>?_)
 have f:=dT c
 refine A4<|A3 rfl<|CL rfl<|A8 rfl<|AU (Du rfl rfl rfl ?_)
 first
 | exact ⟨EO (VS (i:=a) (Oi (by rw [Iy];omega) ho aS) oO),rfl⟩
 | exact ⟨EO (Tl (Oj λj hj=>ho j oO)),rfl⟩
 have f:=dF c
 refine As<|An<|A1 (.add rfl rfl (Bb oO))<|A3 rfl<|A0<|?_
 exact ⟨a+1,⟨rfl,rfl,rfl,tT⟩,⟨rfl,oO,λj hj=>by
  rcases MJ.1 hj with h | rfl;exact ho j h;rw [A1O (by rw [Iy];omega)];assumption⟩,oO⟩
 have d:=dF b
 refine BL<|A4<|CL rfl<|A8 rfl<|AU (Du rfl rfl rfl ?_)
 first
 | exact ⟨EO (VS (i:=a) (Oi (by rw [Iy];omega) ho aS) oO),rfl⟩
 | exact ⟨EO (Tl (Oj λj hj=>ho j oO)),rfl⟩
theorem Nz (w:World):Calls Tryz.prog 12 #[] w λe w'=>∃ b:Nat,e=.returned (.slice (some ⟨b,0,none⟩) 14 14)/\AM F4 w' (some ⟨b,0,none⟩) PJ/\w.heap.size<=b/\AL w w':=by
 refine AF func12 rfl ntmps12 ?_
 have d:=Dh w
 refine A4<|A8 rfl<|A4<|CC (ps:=_) DD FP z9_ rfl rfl rfl rfl rfl pR rfl (λk j f a c i=>?_)
 have g:=uB d f c
 have h:=AM.lit (V:=F4) (l:=PJ) a (rfl)
 refine A8 rfl<|AY ?_
 exact ⟨_,EO rfl,h,oM,g⟩
theorem Us (s:l8_) (w:World):Cl 17 #[.string (bs s)] w (Ag (if Ew s<14 then (Ew s:Int) else -1)):=by
 refine AF func17 rfl ntmps17 ?_
 have l:=Dh w
 refine A4<|A8 rfl<|A4<|Bf BQ rfl rfl ((Nz _)) (λb v d=>?_)
 have m:=Ci l d.2.2
 have o:=d.1
 refine A8 rfl<|Ad<|A4<|A8 rfl<|AT<|BO (α:=Nat) (λt=>[(0,.string (bs s)),(3,.slice (some ⟨b,0,none⟩) 14 14),(4,Ag (t:Int))]) (λt w'=>AL w w'/\AM F4 w' (some ⟨b,0,none⟩) PJ/\t<=14/\∀ j<t,PJ.getD j []≠s) (λt=>14-t) (0) ⟨rfl,rfl,rfl,tT⟩ (⟨m,o,oO,λj hj=>by omega⟩) (λt v hR=>?_)
 obtain ⟨a,rfl⟩:=eX t
 obtain ⟨c,f,ht,ho⟩:=hR
 refine Ad<|A4<|A3 rfl<|A3 rfl<|A1 (.lenS DD rfl)<|A1 (.lss rfl rfl)<|A0<|Ai rfl (λg=>?_) (λg=>?_)
 have q:=dT g
 refine As<|Ad<|AT<|A4<|A3 rfl<|A3 rfl<|?_
 have x:=Iy
 refine A1 (.ixb DD FP rfl rfl (f.isp oO) (a) (rfl) oO)<|Aj (BG (FU _) rfl (f.cells (a) oO))<|A3 rfl<|A1 (.eqs rfl rfl)<|A0<|Ai rfl (λk=>?_) (λk=>?_)
 have u:=dT k
 refine A4<|A3 rfl<|A8 rfl<|AY ?_
 first
 | exact ⟨EO (Zd (i:=a) (Oi (by rw [Iy];omega) ho aS) oO),c⟩
 | exact ⟨EO (Ze (Oj λj hj=>ho j oO)),c⟩
 have u:=dF k
 refine As<|An<|A3 rfl<|A1 (.add rfl rfl (Bb oO))<|A8 rfl ?_
 exact ⟨a+1,⟨rfl,rfl,rfl,tT⟩,⟨c,f,oO,λj hj=>by
  rcases MJ.1 hj with h | rfl;exact ho j h;rw [A1O (by rw [Iy];omega)];assumption⟩,oO⟩
 have q:=dF g
 refine BL<|A4<|A8 rfl<|AY ?_
 first
 | exact ⟨EO (Zd (i:=a) (Oi (by rw [Iy];omega) ho aS) oO),c⟩
 | exact ⟨EO (Ze (Oj λj hj=>ho j oO)),c⟩
end
section
def ftV (f:Nr):List Value:=[.string (bs f.name),Ag f.font]
def ftL:FK Nr:=⟨2,ftV,dD,λ_=>rfl,λx u hu=>AP.1 (show (ftV x).all Value.oneCell'=true from rfl) u hu⟩
theorem RW:(Tryz.prog.info? 206).map (λi=>(i.zero,i.size,i.bytes))=some (some (.agg #[.string ⟨#[]⟩,Ag 0]),2,24):=by kernel_rfl
theorem W2 (s:l8_) (n:Int):Tryz.prog.built 206 [(0,.string (bs s)),(1,Ag n)]=some (ftV ⟨s,n⟩).toArray:=by kernel_rfl
def IO:l8_:=[70,111,110,116]
def FA:l8_:=[84,121,112,101]
def X9:l8_:=[83,117,98,116,121,112,101]
def UY:l8_:=[84,121,112,101,49]
def XH:l8_:=[66,97,115,101,70,111,110,116]
def Tf (os:List AV) (d:AV):Except Int Bool:=match Gj os d FA IO with
 | .error e=>.error e
 | .ok b=>if b=true then Gj os d X9 UY else .ok false
def Ff (os:List AV) (o:AV):Except Int Int:=match F3 os o 7 with
 | .error e=>.error e
 | .ok d=>match Tf os d with
  | .error e=>.error e
  | .ok b=>if b=true then (match IP os d XH 4 with
   | .error e=>.error e
   | .ok n=>if Ew n.text<14 then .ok (Ew n.text:Int) else .error 26) else .error 22
def J8 (os:List AV):List (l8_)->List AV->Except Int (List Nr)
 | k::ks,o::r=>match Ff os o with
  | .error e=>.error e
  | .ok n=>match J8 os ks r with
   | .error e=>.error e
   | .ok m=>.ok (⟨k,n⟩::m)
 | _,_=>.ok []
def Ft (os:List AV) (r:Option AV):Except Int (List Nr):=match r with
 | none=>.ok []
 | some u=>match F3 os u 7 with
  | .error e=>.error e
  | .ok d=>match De d IO with
   | none=>.ok []
   | some x=>match F3 os x 7 with
    | .error e=>.error e
    | .ok a=>J8 os a.keys a.list
theorem J7 (os:List AV) (k:l8_) (ks:List (l8_)) (o:AV) (r:List AV):J8 os (k::ks) (o::r)=match Ff os o with | .error e=>.error e | .ok n=>match J8 os ks r with | .error e=>.error e | .ok m=>.ok (⟨k,n⟩::m):=rfl
theorem Po {os:List AV}:∀ {a:List (l8_)} {c:List AV} {b:List (l8_)} {d:List AV} {ns:List Nr},a.length=c.length->J8 os a c=.ok ns->J8 os (a++b) (c++d)=match J8 os b d with | .error e=>.error e | .ok m=>.ok (ns++m)
 | [],[],b,d,ns,_,h=>by
  cases h
  rw [BT,BT]
  cases J8 os b d <;> rfl
 | k::a,o::c,b,d,ns,hl,h=>by
  rw [J7] at h
  rw [Bh,Bh,J7]
  cases hn:Ff os o with
  | error e=>rw [hn] at h;cases h
  | ok n =>
   rw [hn] at h
   cases hm:J8 os a c with
   | error e=>rw [hm] at h;cases h
   | ok m =>
    rw [hm] at h
    cases h
    rw [Po (by simpa using hl) hm]
    cases J8 os b d <;> rfl
 | [],_::_,_,_,_,hl,_=>by simp at hl
 | _::_,[],_,_,_,hl,_=>by simp at hl
theorem Xj {os:List AV} {l:List AV} {ns:List Nr} {n:Int} (hk:ks.length=l.length) (hi:i<l.length) (h:J8 os (ks.take i) (l.take i)=.ok ns) (hn:Ff os l[i]=.ok n):J8 os (ks.take (i+1)) (l.take (i+1))=.ok (ns++[⟨ks[i],n⟩]):=by
 rw [List.take_add_one,List.take_add_one,Ak hi,Ak oO,Option.toList_some,Option.toList_some,Po (by simp [hk]) h,J7,hn]
 rfl
theorem Gy {os:List AV} {l:List AV} {ns:List Nr} {e:Int} (hk:ks.length=l.length) (hi:i<l.length) (h:J8 os (ks.take i) (l.take i)=.ok ns) (hn:Ff os l[i]=.error e):J8 os ks l=.error e:=by
 have a:l=l.take i++l[i]::l.drop (i+1):=by rw [<- Aw hi,Ds]
 have b:ks=ks.take i++ks[i]'oO::ks.drop (i+1):=by rw [<- Aw oO,Ds]
 rw [a,b,Po (by simp [hk]) h,J7,hn]
theorem Xk {os:List AV} {o:AV} {e:Int} (h:F3 os o 7=.error e):Ff os o=.error e:=by unfold Ff;rw [h]
theorem Z7 {os:List AV} {o d:AV} {e:Int} (h:F3 os o 7=.ok d) (h1:Gj os d FA IO=.error e):Ff os o=.error e:=by unfold Ff Tf;rw [h];simp only;rw [h1]
theorem Z9 {os:List AV} {o d:AV} (h:F3 os o 7=.ok d) (h1:Gj os d FA IO=.ok false):Ff os o=.error 22:=by unfold Ff Tf;rw [h];simp only;rw [h1];rfl
theorem Z8 {os:List AV} {o d:AV} {e:Int} (h:F3 os o 7=.ok d) (h1:Gj os d FA IO=.ok true) (h2:Gj os d X9 UY=.error e):Ff os o=.error e:=by unfold Ff Tf;rw [h];simp only;rw [h1];simp only;rw [A5 trivial,h2]
theorem Za {os:List AV} {o d:AV} (h:F3 os o 7=.ok d) (h1:Gj os d FA IO=.ok true) (h2:Gj os d X9 UY=.ok false):Ff os o=.error 22:=by unfold Ff Tf;rw [h];simp only;rw [h1];simp only;rw [A5 trivial,h2];rfl
theorem Zc {os:List AV} {o d:AV} {e:Int} (h:F3 os o 7=.ok d) (h1:Gj os d FA IO=.ok true) (h2:Gj os d X9 UY=.ok true) (h3:IP os d XH 4=.error e):Ff os o=.error e:=by unfold Ff Tf;rw [h];simp only;rw [h1];simp only;rw [A5 trivial,h2];simp only;rw [A5 trivial,h3]
theorem Tj {os:List AV} {o d n:AV} (h:F3 os o 7=.ok d) (h1:Gj os d FA IO=.ok true) (h2:Gj os d X9 UY=.ok true) (h3:IP os d XH 4=.ok n):Ff os o=if Ew n.text<14 then .ok (Ew n.text:Int) else .error 26:=by unfold Ff Tf;rw [h];simp only;rw [h1];simp only;rw [A5 trivial,h2];simp only;rw [A5 trivial,h3]
theorem Z5 {os:List AV} {u:AV} {e:Int} (h:F3 os u 7=.error e):Ft os (some u)=.error e:=by unfold Ft;simp only;rw [h]
theorem Pp {os:List AV} {u d:AV} (h:F3 os u 7=.ok d) (h1:De d IO=none):Ft os (some u)=.ok []:=by unfold Ft;simp only;rw [h];simp only;rw [h1]
theorem Z4 {os:List AV} {u d x:AV} {e:Int} (h:F3 os u 7=.ok d) (h1:De d IO=some x) (h2:F3 os x 7=.error e):Ft os (some u)=.error e:=by unfold Ft;simp only;rw [h];simp only;rw [h1];simp only;rw [h2]
theorem Fe {os:List AV} {u d x a:AV} (h:F3 os u 7=.ok d) (h1:De d IO=some x) (h2:F3 os x 7=.ok a):Ft os (some u)=J8 os a.keys a.list:=by unfold Ft;simp only;rw [h];simp only;rw [h1];simp only;rw [h2]
theorem Ir.dict {os:List AV} {o:AV} (h:Ir os o):o.kind=7->o.keys.length=o.list.length:=by
 have b:=h.snd
 cases b with
 | dict _ _ k ks l d hk b h2 h3 h4 h5 h=>exact λ_=>h3
 | num _ _ k n hk h=>intro a;rcases hk with rfl | rfl <;> exact Dp a (by simp [AV.kind])
 | arr=>intro a;exact Dp a (by simp [AV.kind])
 | _=>intro a;exact Dp a (by simp [AV.kind])
theorem Ir.short {os:List AV} {o:AV} (h:Ir os o):o.list.length<=65535:=by
 have a:=h.snd
 cases a with
 | dict _ _ k ks l d hk a h2 h3 h4 h5 h=>exact h2
 | arr _ _ l a h2 h=>exact h2
 | _=>exact FN _
end
section
structure DM (S:Nat->Prop) (w:World):Prop where
 at':S 1
 blk:XA w
theorem DM.same  (h:DM S w) (hb:∀ k,S k->k<w.heap.size->w1.heap[k]?=w.heap[k]?):DM S w1:=⟨h.at',(hb _ h.at' h.blk.lt).trans h.blk⟩
theorem RA  {i:Option AV} (h:LO w S (.pointer p) i) (hp:p.isNone=true):i=none:=by
 cases i with
 | none=>rfl
 | some u=>obtain ⟨b,z,a,-⟩:=h;cases a;cases hp
theorem A2m  {i:Option AV} (h:LO w S (.pointer p) i) (hp:p.isNone=false):∃ u,i=some u:=by
 cases i with
 | none=>cases h;cases hp
 | some u=>exact ⟨u,rfl⟩
theorem YI {u:Unit}:¬ FR 26=.ok u:=by unfold FR;rw [A2 dD];exact λh=>nomatch h
theorem Z6 {os:List AV} {o m:AV} {e:Int} (h:Ff os o=if Ew m.text<14 then .ok (Ew m.text:Int) else .error 26) (hm:m.text=s) (hs:(!decide (Ew s<14))=true) (he:FR 26=.error e):Ff os o=.error e:=by
 unfold FR at he
 rw [A2 dD] at he
 cases he
 rw [h,hm,A2 (by simpa using hs)]
theorem Zb {os:List AV} {o m:AV} (h:Ff os o=if Ew m.text<14 then .ok (Ew m.text:Int) else .error 26) (hm:m.text=s) (hs:(!decide (Ew s<14))=false):Ff os o=.ok (LF s):=by
 rw [h,hm,A5 (by simpa using hs),A1h (by simpa using hs)]
theorem XT (wk bf:Nat) (sv pv:Value) (S T:Nat->Prop) (os:List AV) (H:Vl os) (p q:Option Addr) (i:JE) (w:World) (hk:B4 w wk (TO bf sv pv) 86) (hf:AK S w bf (Cw os) (Dl os)) (hi:DB w T p q i) (hg:∀ u,i.res=some u->Ir os u) (hN:XA w) :
  Calls Tryz.prog 114 #[ptV wk,.agg #[.pointer p,.pointer q]] w (TrE w (Ft os i.res) λl v w'=>AO ftL 206 w.heap.size w' v l):=by
 have he:AK (λk=>k<w.heap.size) w bf (Cw os) (Dl os):=hf.mono λk _ hk=>hk
 have hh:DB w (λk=>k<w.heap.size) p q i:=hi.mono λk _ hk=>hk
 have hj:DM (λk=>k<w.heap.size) w:=⟨hN.lt,hN⟩
 obtain ⟨ib,ir⟩:=i
 refine AF func114 rfl ntmps114 ?_
 have hm:=Dh w
 refine A4<|WL.box rfl rfl (λb1 cR fL bK aL io=>?_)
 have fM:=AK.same (w1:=cR) he (λk hk hl=>aL.other k oO)
 have cS:=DB.same (w1:=cR) hh (λk hk hl=>aL.other k oO)
 have hn:=DM.same (w1:=cR) hj (λk hk hl=>aL.other k oO)
 have ho:=Bt fL hk.lt
 have fN:=hk.un aL ho
 have b0:=uB hm fL aL
 refine A8 rfl<|Ad<|A4<|A1 (.fa Ge rfl KX dD rfl)<|Aj (Ae (isAgg115 _) rfl bK rfl)<|A1 (.eqP underlying115 rfl)<|A0<|Ai rfl (λh8=>?_) (λh8=>?_)
 refine A4<|A8 rfl<|AY ?_
 first
 | exact LH [] _ (by rw [RA (cS).res h8];rfl) rfl ⟨b0,AO.nil _ _ _ _⟩
 | exact LH [] _ (Pp a0 (by simp_all)) rfl ⟨b0,AO.nil _ _ _ _⟩
 | exact LH ns _ (by rw [Fe a0 hx ad];show J8 os keys list=_;rw [Al oO,Al oO] at X;exact X) rfl ⟨b0,AO.base OWN (λg hg=>CT ah ((OWN).lt g hg).1)⟩
 refine As<|Ad ?_
 obtain ⟨u,rfl⟩:=A2m (cS).res (by simp_all)
 obtain ⟨pb,z0,hp,hq,iM,hs⟩:=(cS).res
 cases hp
 refine An<|A3 rfl<|A1 (.fa Ge rfl KX dD rfl)<|Aj (Ae (isAgg115 _) rfl bK rfl)<|A1 (.nck rfl)<|Aj (Bd rfl hq Av rfl Ah)<|EE BQ rfl rfl ((I3 wk bf sv pv _ _ os H z0 u 7 _ fN fM hs (hg u rfl))) (λht w9 b3 ar=>?_) (λhu iN w9 b3 ar=>?_)
 have dH:=Ex b0 (Below.mono ar b0.size)
 exact Bx (Ho ht (Z5 b3) dH)
 have fV:=AK.same (w1:=w9) fM (λk hk hl=>ar.1.block k hl)
 have fW:=DM.same (w1:=w9) hn (λk hk hl=>ar.1.block k hl)
 have fX:=fN.bl ar.1
 have fY:=bK.bl ar.1
 have fZ:=Ci b0 ar.1
 obtain ⟨d,hv⟩:=eX hu
 subst hv
 obtain ⟨y,ey,hy⟩:=ar.2
 subst ey
 have fO:=(I2 H (hg u rfl) b3).1
 have a0:=b3
 have hA:=hy.mono (T:=λq=>q<w9.heap.size) (λq h1 h2=>h2)
 refine Bf BQ rfl rfl ((H8 y d _ IO _ hA)) (λz cT ai=>?_)
 have f':=AK.same (w1:=cT) fV (λk hk hl=>ai.block k hl)
 have g0:=DM.same (w1:=cT) fW (λk hk hl=>ai.block k hl)
 have cU:=fX.bl ai
 have cV:=fY.bl ai
 have cW:=Ci fZ ai
 obtain ⟨z,hz⟩:=z
 have hz:=At.same (w1:=cT) hz (λk hk hl=>(ai).block k hl)
 have ip:=(ai).size
 refine A3 rfl<|A1 (.ext rfl rfl)<|A1 (.ext rfl rfl)<|Bm CA rfl (λiO bL b4 dI ae ic=>?_)
 have g1:=AK.same (w1:=bL) f' (λk hk hl=>ae.other k oO)
 have g2:=DM.same (w1:=bL) g0 (λk hk hl=>ae.other k oO)
 have g3:=At.same (w1:=bL) hz (λk hk hl=>ae.other k oO)
 have g4:=Bt b4 cU.lt
 have g5:=cU.un ae g4
 have g6:=Bt b4 cV.lt
 have g7:=cV.un ae g6
 have g8:=uB cW b4 ae
 have hB:=CW b4 cW.size
 refine Az rfl rfl dI Ah rfl rfl (λcX bP af ie=>?_)
 have cY:=AK.same (w1:=cX) g1 (λk hk hl=>af.other k oM)
 have g9:=DM.same (w1:=cX) g2 (λk hk hl=>af.other k oM)
 have ga:=At.same (w1:=cX) g3 (λk hk hl=>af.other k oM)
 have cZ:=g5.up af
 have gb:=g7.up af
 have aq:=BR g8 oO af
 refine A8 rfl<|Ad<|A4<|A3 rfl<|A1 (.not rfl)<|A0<|Ai rfl (λc'=>?_) (λc'=>?_)
 have gc:=(nT c')
 refine A4<|A8 rfl<|AY ?_
 first
 | exact LH [] _ (by rw [RA (FACT).res h8];rfl) rfl ⟨aq,AO.nil _ _ _ _⟩
 | exact LH [] _ (Pp a0 (by simp_all)) rfl ⟨aq,AO.nil _ _ _ _⟩
 | exact LH ns _ (by rw [Fe a0 hx ad];show J8 os keys list=_;rw [Al oO,Al oO] at X;exact X) rfl ⟨aq,AO.base OWN (λg hg=>CT ah ((OWN).lt g hg).1)⟩
 have gc:=(nF c')
 refine As<|Ad ?_
 obtain ⟨x,hx⟩:=Option.isSome_iff_exists.1 (show (De d IO).isSome=true by simp_all)
 have fP:=ga
 rw [hx] at fP
 refine An<|A3 rfl<|Aj (Bd rfl bP Av rfl Ah)<|EE BQ rfl rfl ((I3 wk bf sv pv _ _ os H z x 7 _ cZ cY fP (fO.key hx))) (λhC bt av aa=>?_) (λhD iP bt av aa=>?_)
 have d0:=Ex aq (Below.mono aa aq.size)
 exact Bx (Ho hC (Z4 a0 hx av) d0)
 have ge:=AK.same (w1:=bt) cY (λk hk hl=>aa.1.block k hl)
 have gf:=DM.same (w1:=bt) g9 (λk hk hl=>aa.1.block k hl)
 have d1:=cZ.bl aa.1
 have gg:=gb.bl aa.1
 have gh:=bP.bl aa.1
 have d2:=Ci aq aa.1
 obtain ⟨a,hE⟩:=eX hD
 subst hE
 obtain ⟨y2,ey,hF⟩:=aa.2
 subst ey
 have bQ:=I2 H (fO.key hx) av
 have ad:=av
 obtain ⟨keys,list,data,cs,fQ,ok,iQ,bR,hG,hr,hH,hd,iR,hI,gi⟩:=hF.inv
 obtain ⟨k,n,s,kp,kl,kc,lp,ll,lc,dp,dl,dc⟩:=y2
 have e1:=ok.kl
 have e2:=ok.ll
 have m1:=ok.kc
 have m4:=ok.km
 simp only at e1 e2 m1 m4 hr hH bR hG fQ
 subst e1
 subst e2
 subst fQ
 have hJ:AJ bt (λq=>q<bt.heap.size) cs list:=⟨hI,λi h h2=>(gi i h h2).mono λq h1 h2=>h2⟩
 have hK:=λb=>hr.lt b
 have gj:=λb=>bR.lt b
 have iS:list.length<=65535:=bQ.1.short
 have a5:keys.length=list.length:=bQ.1.dict bQ.2
 have fR:∀ i (h:i<list.length),Ir os list[i]:=λi h=>bQ.1.sub (Ar h)
 refine Bm CA rfl (λfS bM aj dJ ab ig=>?_)
 have gk:=AK.same (w1:=bM) ge (λk hk hl=>ab.other k oO)
 have gl:=DM.same (w1:=bM) gf (λk hk hl=>ab.other k oO)
 have gm:=AJ.same (w1:=bM) hJ (λk hk hl=>ab.other k oO)
 have go:=Bt aj d1.lt
 have gp:=d1.un ab go
 have iq:=Bt aj gg.lt
 have it:=Bt aj gh.lt
 have bS:=λb=>aj▸hr.lt b
 have gq:=AA.upd hr ab (λb=>CV (bS b))
 have bT:=λb=>aj▸bR.lt b
 have gr:=AM.upd bR ab (λb=>CV (bT b))
 have gs:=uB d2 aj ab
 have hL:=CW aj d2.size
 refine Az rfl rfl dJ Ah rfl rfl (λbU bV ac ih=>?_)
 have gt:=AK.same (w1:=bU) gk (λk hk hl=>ac.other k oM)
 have gv:=DM.same (w1:=bU) gl (λk hk hl=>ac.other k oM)
 have gw:=AJ.same (w1:=bU) gm (λk hk hl=>ac.other k oM)
 have gx:=gp.up ac
 have gz:=AA.upd gq ac (λb=>CV (bS b))
 have gA:=AM.upd gr ac (λb=>CV (bT b))
 have d3:=BR gs oO ac
 refine A0<|A4<|A8 rfl<|Ad<|A4<|A1 (.fa Av rfl E6 dD rfl)<|Aj (Ae (Fs _) rfl bV rfl)<|A1 (.lenS DD rfl)<|A3 rfl<|A0<|AT ?_
 obtain ⟨LB,fT⟩:=eX ((bU).heap.size)
 have ah:w.heap.size<=LB:=by rw [fT];exact (d3).size
 have bW:0<keys.length->(pA kp).block<LB:=λb=>by have:=gj b;((try simp only) <;> omega)
 have bX:0<cs.length->(pA lp).block<LB:=λb=>by have:=hK b;((try simp only) <;> omega)
 refine BO (α:=Nat × Value × List Nr) (λt=>[(0,ptV wk),(7,ptV fS),(8,t.2.1),(33,.slice kp keys.length kc),(34,Ag (keys.length:Int)),(35,Ag (t.1:Int))]) (λt w'=>AL w w'/\B4 w' wk (TO bf sv pv) 86/\B4 w' fS #[Ag k,Ag n,.string (bs s),.slice kp keys.length kc,.slice lp cs.length lc,.slice dp dl dc] 27/\AM F4 w' kp keys/\AA Fi w' lp cs/\AK (λk=>k<w.heap.size) w' bf (Cw os) (Dl os)/\DM (λk=>k<w.heap.size) w'/\AJ w' (λq=>q<LB) cs list/\AO ftL 206 LB w' t.2.1 t.2.2/\t.1<=keys.length/\J8 os (keys.take t.1) (list.take t.1)=.ok t.2.2/\t.2.2.length=t.1/\LB<=w'.heap.size) (λt=>keys.length-t.1) ((0,.slice none 0 0,[])) ⟨rfl,rfl,rfl,rfl,rfl,rfl,tT⟩ (⟨d3,gx,bV,gA,gz,gt,gv,(gw).mono (λq h1 h2=>by ((try simp only) <;> omega)),AO.nil _ _ _ _,FN _,rfl,rfl,Nat.le_of_eq fT⟩) (λt w1 hR=>?_)
 obtain ⟨⟨i0,ov,ns⟩,hM⟩:=eX t
 subst hM
 obtain ⟨q1,q2,q3,q4,q5,q6,q7,q8,q9,hO,X,hP,gB⟩:=hR
 simp only at q9 hO X hP
 refine A4<|A1 (.lss rfl rfl)<|A0<|Ad<|Ai rfl (λd4=>?_) (λd4=>?_)
 have gC:=dT d4
 refine As<|Ad<|AT<|A4<|A3 rfl<|A1 (.ixb DD FP rfl rfl (q4.isp oO) _ rfl oO)<|Aj (BG (FU _) rfl (q4.cells _ oO))<|CL rfl<|A8 rfl<|A4<|A3 rfl<|A1 (.fa Av rfl CQ dD rfl)<|Aj (Ae (DW _) rfl q3 rfl)<|A3 rfl<|A1 (.ixm Cg Dd rfl rfl (q5.isp oO) _ rfl oO)<|Aj (DG Av rfl Ah q5 (_) oO rfl)<|EE BQ rfl rfl ((I3 wk bf sv pv _ _ os H (cs[i0]'oO) (list[i0]'oO) 7 _ q2 q6 ((q8).sub i0 oO oO) (fR i0 oO))) (λhQ bu aw U=>?_) (λhS iT bu aw U=>?_)
 have d5:=Ex q1 (Below.mono U q1.size)
 exact Bx (Ho hQ (by rw [Fe a0 hx ad];exact Gy (ks:=keys) (l:=list) a5 oO X (Xk aw)) d5)
 have dK:=CT gB U.1.size
 have gD:=AO.below q9 U.1
 have gE:=AK.same (w1:=bu) q6 (λk hk hl=>U.1.block k hl)
 have gF:=DM.same (w1:=bu) q7 (λk hk hl=>U.1.block k hl)
 have gG:=AJ.same (w1:=bu) q8 (λk hk hl=>U.1.block k hl)
 have d6:=q2.bl U.1
 have d7:=q3.bl U.1
 have d8:=AM.below q4 U.1 (λb=>q4.lt b)
 have d9:=Ea q5 U.1 (λb=>q5.lt b)
 have da:=Ci q1 U.1
 obtain ⟨f,hT⟩:=eX hS
 subst hT
 obtain ⟨yf,ey,hU⟩:=U.2
 subst ey
 have bY:=(I2 H (fR i0 oO) aw).1
 have aM:=aw
 have iu:=U.1.size
 have gH:=hU.mono (T:=λq=>q<bu.heap.size) (λq h1 h2=>h2)
 refine Bm CA rfl (λiU b5 ak dL V ii=>?_)
 have dM:=CT dK V.size
 have gI:=Ix gD ak V
 have gJ:=AK.same (w1:=b5) gE (λk hk hl=>V.other k oO)
 have gK:=DM.same (w1:=b5) gF (λk hk hl=>V.other k oO)
 have dN:=AJ.same (w1:=b5) gG (λk hk hl=>V.other k oO)
 have dO:=At.same (w1:=b5) gH (λk hk hl=>V.other k oO)
 have dP:=Bt ak d6.lt
 have dQ:=d6.un V dP
 have dR:=Bt ak d7.lt
 have dS:=d7.un V dR
 have bv:=λb=>ak▸d8.lt b
 have dU:=AM.upd d8 V (λb=>CV (bv b))
 have bw:=λb=>ak▸d9.lt b
 have dV:=AA.upd d9 V (λb=>CV (bw b))
 have dW:=uB da ak V
 have hV:=CW ak da.size
 refine Az rfl rfl dL Ah rfl rfl (λb6 bz E hW=>?_)
 have db:=CT dM E.size
 have dX:=TP gI E ((λg hg e=>by have:=(q9.lt g hg).2;omega))
 have bZ:=AK.same (w1:=b6) gJ (λk hk hl=>E.other k oM)
 have dY:=DM.same (w1:=b6) gK (λk hk hl=>E.other k oM)
 have dZ:=AJ.same (w1:=b6) dN (λk hk hl=>E.other k oM)
 have b':=At.same (w1:=b6) dO (λk hk hl=>E.other k oM)
 have c0:=dQ.up E
 have d':=dS.up E
 have c3:=AM.upd dU E (λb=>CV (bv b))
 have c4:=AA.upd dV E (λb=>CV (bw b))
 have b7:=BR dW oO E
 refine A0<|A4<|A3 rfl<|Aj (Bd rfl bz Av rfl Ah)<|Ch BQ rfl rfl ((IV wk bf sv pv _ _ os H yf f FA IO _ c0 bZ b' bY)) (λgL aN aO c=>?_) (λgM aN aO c=>?_)
 have cJ:=Ex b7 (Below.mono c b7.size)
 exact Bx (Ho gL (by rw [Fe a0 hx ad];exact Gy (ks:=keys) (l:=list) a5 oO X (Z7 aM aO)) cJ)
 have bA:=CT db c.size
 have c5:=AO.below dX c
 have b8:=AK.same (w1:=aN) bZ (λk hk hl=>c.block k hl)
 have c6:=DM.same (w1:=aN) dY (λk hk hl=>c.block k hl)
 have c7:=AJ.same (w1:=aN) dZ (λk hk hl=>c.block k hl)
 have b9:=At.same (w1:=aN) b' (λk hk hl=>c.block k hl)
 have ba:=c0.bl c
 have c8:=d'.bl c
 have bb:=bz.bl c
 have ax:=AM.below c3 c (λb=>c3.lt b)
 have ay:=Ea c4 c (λb=>c4.lt b)
 have ag:=Ci b7 c
 obtain ⟨c1,hX⟩:=eX gM
 subst hX
 have b2:=aO
 refine A3 rfl<|Cc rfl rfl rfl (λam=>?_) (λam=>?_)
 refine A3 rfl<|AE am<|Aj (Bd rfl bb Av rfl Ah)<|AE am<|Ch BQ rfl rfl ((IV wk bf sv pv _ _ os H yf f X9 UY _ ba b8 b9 bY)) (λgN aP aQ j=>?_) (λgO aP aQ j=>?_)
 have cK:=Ex ag (Below.mono j ag.size)
 exact Bx (Ho gN (by rw [Fe a0 hx ad];exact Gy (ks:=keys) (l:=list) a5 oO X (Z8 aM (b2.trans (BH Except.ok aS)) aQ)) cK)
 have dd:=CT bA j.size
 have e0:=AO.below c5 j
 have e3:=AK.same (w1:=aP) b8 (λk hk hl=>j.block k hl)
 have e4:=DM.same (w1:=aP) c6 (λk hk hl=>j.block k hl)
 have e5:=AJ.same (w1:=aP) c7 (λk hk hl=>j.block k hl)
 have e6:=At.same (w1:=aP) b9 (λk hk hl=>j.block k hl)
 have e7:=ba.bl j
 have e8:=c8.bl j
 have e9:=bb.bl j
 have c9:=AM.below ax j (λb=>ax.lt b)
 have ca:=Ea ay j (λb=>ay.lt b)
 have bc:=Ci ag j
 obtain ⟨c2,hY⟩:=eX gO
 subst hY
 have cb:=aQ
 refine A1 (.pkT rfl am rfl)<|Ch BQ rfl rfl ((E5 _ _)) (λgP aR an o=>?_) (λiv aR an o=>?_)
 have cL:=Ex bc (Below.mono o bc.size)
 exact Bx (Ho gP (by rw [Fe a0 hx ad,(CB an).2];exact Gy (ks:=keys) (l:=list) a5 oO X (by exact Za aM (b2.trans (BH Except.ok aS)) (cb.trans (BH Except.ok (CB an).1)))) cL)
 have de:=CT dd o.size
 have ea:=AO.below e0 o
 have cc:=AK.same (w1:=aR) e3 (λk hk hl=>o.block k hl)
 have eb:=DM.same (w1:=aR) e4 (λk hk hl=>o.block k hl)
 have ec:=AJ.same (w1:=aR) e5 (λk hk hl=>o.block k hl)
 have ed:=At.same (w1:=aR) e6 (λk hk hl=>o.block k hl)
 have cd:=e7.bl o
 have ee:=e8.bl o
 have cf:=e9.bl o
 have cg:=AM.below c9 o (λb=>c9.lt b)
 have ci:=Ea ca o (λb=>ca.lt b)
 have bd:=Ci bc o
 have au:=an
 refine A0<|A4<|A3 rfl<|Aj (Bd rfl cf Av rfl Ah)<|EE BQ rfl rfl ((MN wk bf sv pv _ _ os H yf f XH 4 _ cd cc ed bY)) (λgQ be aT B=>?_) (λgR iw be aT B=>?_)
 have cM:=Ex bd (Below.mono B bd.size)
 exact Bx (Ho gQ (by rw [Fe a0 hx ad];exact Gy (ks:=keys) (l:=list) a5 oO X (by exact Zc aM (b2.trans (BH Except.ok aS)) (cb.trans (BH Except.ok (DZ au))) aT)) cM)
 have bB:=CT de B.1.size
 have cj:=AO.below ea B.1
 have ck:=AK.same (w1:=be) cc (λk hk hl=>B.1.block k hl)
 have bg:=DM.same (w1:=be) eb (λk hk hl=>B.1.block k hl)
 have cl:=AJ.same (w1:=be) ec (λk hk hl=>B.1.block k hl)
 have bh:=cd.bl B.1
 have bi:=ee.bl B.1
 have cm:=cf.bl B.1
 have az:=AM.below cg B.1 (λb=>cg.lt b)
 have aA:=Ea ci B.1 (λb=>ci.lt b)
 have ao:=Ci bd B.1
 obtain ⟨m,df⟩:=eX gR
 subst df
 obtain ⟨ym,ey,dg⟩:=B.2
 subst ey
 have dh:=aT
 have di:=dg.textE
 refine A1 (.fld Av rfl FU rfl rfl)<|Au (R6 ym.text _ (bg).blk) (λiy ef=>?_)
 obtain rfl:=ef
 refine A3 rfl<|A1 (.ext rfl rfl)<|A1 (.ext rfl rfl)<|CL rfl<|A8 rfl<|Ad<|A4<|A3 rfl<|A1 (.not rfl)<|A0<|Ai rfl (λbN=>?_) (λbN=>?_)
 have eg:=(nT bN)
 refine An<|Ch BQ rfl rfl ((GS 26 _)) (λgS bj aU F=>?_) (λiz bj aU F=>?_)
 have cN:=Ex ao (Below.mono F ao.size)
 exact Bx (Ho gS (by rw [Fe a0 hx ad];exact Gy (ks:=keys) (l:=list) a5 oO X (by exact Z6 (Tj aM (b2.trans (BH Except.ok aS)) (cb.trans (BH Except.ok (DZ au))) dh) di aS aU)) cN)
 have dj:=CT bB F.size
 have eh:=AO.below cj F
 have ei:=AK.same (w1:=bj) ck (λk hk hl=>F.block k hl)
 have ej:=DM.same (w1:=bj) bg (λk hk hl=>F.block k hl)
 have ek:=AJ.same (w1:=bj) cl (λk hk hl=>F.block k hl)
 have cn:=bh.bl F
 have co:=bi.bl F
 have el:=cm.bl F
 have cq:=AM.below az F (λb=>az.lt b)
 have cr:=Ea aA F (λb=>aA.lt b)
 have ct:=Ci ao F
 have fU:=aU
 refine A0<|An<|A3 rfl<|A3 rfl<|A3 rfl<|?_
 refine A1 (.build rfl (W2 (keys[i0]'oO) (LF ym.text))) ?_
 refine CR (L:=ftL) (ps:=_) ([(⟨keys[i0]'oO,LF ym.text⟩:Nr)]) Nw sizeOf206 zeroValue206 rfl rfl rfl rfl rfl (by rfl) rfl rfl (λgT aB a1 dk J hZ=>?_)
 have bC:=CT dj J.size
 have aC:=Ix eh a1 J
 have em:=AK.same (w1:=aB) ei (λk hk hl=>J.other k oO)
 have en:=DM.same (w1:=aB) ej (λk hk hl=>J.other k oO)
 have eo:=AJ.same (w1:=aB) ek (λk hk hl=>J.other k oO)
 have ep:=Bt a1 cn.lt
 have eq:=cn.un J ep
 have er:=Bt a1 co.lt
 have es:=co.un J er
 have ij:=Bt a1 el.lt
 have dm:=λb=>a1▸cq.lt b
 have et:=AM.upd cq J (λb=>CV (dm b))
 have dn:=λb=>a1▸cr.lt b
 have eu:=AA.upd cr J (λb=>CV (dn b))
 have ev:=uB ct a1 J
 have h3:=CW a1 ct.size
 have h4:gT<=aB.heap.size:=by omega
 refine Cb Nw RW rfl rfl rfl aC rfl (dk).rowp oE (bC) rfl (λh=>Dp h (lc_ _ _)) (λiA iB dq a6 aV h'=>?_)
 have ew:=eq.below a6 oO
 have ex:=es.below a6 oO
 have ez:=AK.same em (λk hk hl=>aV.block k hl (λe=>by have h9:=((aC).lt k e.symm).1;omega))
 have eA:=DM.same en (λk hk hl=>aV.block k hl (λe=>by have h9:=((aC).lt k e.symm).1;omega))
 have eB:=AJ.same eo (λk hk hl=>aV.block k hl (λe=>by have h9:=((aC).lt k e.symm).1;omega))
 have eC:=AM.below et a6 bW
 have eD:=Ea eu a6 bX
 have eF:=Ex ev (a6.mono (ah))
 have i1:=CT bC a6.size
 refine A8 rfl<|An<|A1 (.add rfl rfl (Bb oO))<|A3 rfl<|A0<|?_
 exact ⟨(i0+1,_,_),⟨rfl,rfl,rfl,rfl,rfl,rfl,tT⟩,⟨eF,ew,ex,eC,eD,ez,eA,eB,dq,oM,by exact Dp fU YI,by simp;((try simp only) <;> omega),oM⟩,oM⟩
 have eg:=(nF bN)
 refine As<|An<|A3 rfl<|A3 rfl<|A3 rfl<|?_
 refine A1 (.build rfl (W2 (keys[i0]'oO) (LF ym.text))) ?_
 refine CR (L:=ftL) (ps:=_) ([(⟨keys[i0]'oO,LF ym.text⟩:Nr)]) Nw sizeOf206 zeroValue206 rfl rfl rfl rfl rfl (by rfl) rfl rfl (λgU aD a2 dr K i2=>?_)
 have bD:=CT bB K.size
 have aE:=Ix cj a2 K
 have eG:=AK.same (w1:=aD) ck (λk hk hl=>K.other k oO)
 have eH:=DM.same (w1:=aD) bg (λk hk hl=>K.other k oO)
 have eI:=AJ.same (w1:=aD) cl (λk hk hl=>K.other k oO)
 have eJ:=Bt a2 bh.lt
 have eK:=bh.un K eJ
 have eL:=Bt a2 bi.lt
 have eM:=bi.un K eL
 have ik:=Bt a2 cm.lt
 have ds:=λb=>a2▸az.lt b
 have eN:=AM.upd az K (λb=>CV (ds b))
 have dt:=λb=>a2▸aA.lt b
 have eO:=AA.upd aA K (λb=>CV (dt b))
 have eP:=uB ao a2 K
 have h5:=CW a2 ao.size
 have h6:gU<=aD.heap.size:=by omega
 refine Cb Nw RW rfl rfl rfl aE rfl (dr).rowp oE (bD) rfl (λh=>Dp h (lc_ _ _)) (λiC iD du a7 aW i3=>?_)
 have eQ:=eK.below a7 oO
 have eR:=eM.below a7 oO
 have eS:=AK.same eG (λk hk hl=>aW.block k hl (λe=>by have h9:=((aE).lt k e.symm).1;omega))
 have eT:=DM.same eH (λk hk hl=>aW.block k hl (λe=>by have h9:=((aE).lt k e.symm).1;omega))
 have eU:=AJ.same eI (λk hk hl=>aW.block k hl (λe=>by have h9:=((aE).lt k e.symm).1;omega))
 have eV:=AM.below eN a7 bW
 have eW:=Ea eO a7 bX
 have eY:=Ex eP (a7.mono (ah))
 have i4:=CT bD a7.size
 refine A8 rfl<|An<|A1 (.add rfl rfl (Bb oO))<|A3 rfl<|A0<|?_
 exact ⟨(i0+1,_,_),⟨rfl,rfl,rfl,rfl,rfl,rfl,tT⟩,⟨eY,eQ,eR,eV,eW,eS,eT,eU,du,oM,by exact Xj a5 oO X (Zb (Tj aM (b2.trans (BH Except.ok aS)) (cb.trans (BH Except.ok (DZ au))) dh) di aS),by simp;((try simp only) <;> omega),oM⟩,oM⟩
 refine B6 am<|B6 am<|A1 (.pkF rfl am rfl)<|Ch BQ rfl rfl ((E5 _ _)) (λgV aX aY C=>?_) (λiE aX aY C=>?_)
 have cO:=Ex ag (Below.mono C ag.size)
 exact Bx (Ho gV (by rw [Fe a0 hx ad,(CB aY).2];exact Gy (ks:=keys) (l:=list) a5 oO X (by exact Z9 aM (b2.trans (BH Except.ok aS)))) cO)
 have dv:=CT bA C.size
 have eZ:=AO.below c5 C
 have cu:=AK.same (w1:=aX) b8 (λk hk hl=>C.block k hl)
 have e':=DM.same (w1:=aX) c6 (λk hk hl=>C.block k hl)
 have f0:=AJ.same (w1:=aX) c7 (λk hk hl=>C.block k hl)
 have f1:=At.same (w1:=aX) b9 (λk hk hl=>C.block k hl)
 have cv:=ba.bl C
 have f2:=c8.bl C
 have cw:=bb.bl C
 have cy:=AM.below ax C (λb=>ax.lt b)
 have cz:=Ea ay C (λb=>ay.lt b)
 have bk:=Ci ag C
 have au:=aY
 refine A0<|A4<|A3 rfl<|Aj (Bd rfl cw Av rfl Ah)<|EE BQ rfl rfl ((MN wk bf sv pv _ _ os H yf f XH 4 _ cv cu f1 bY)) (λgW bm bE D=>?_) (λgX iF bm bE D=>?_)
 have cP:=Ex bk (Below.mono D bk.size)
 exact Bx (Ho gW (by rw [Fe a0 hx ad];exact Gy (ks:=keys) (l:=list) a5 oO X (by exact Dp (DZ au) dD)) cP)
 have bG:=CT dv D.1.size
 have cA:=AO.below eZ D.1
 have cB:=AK.same (w1:=bm) cu (λk hk hl=>D.1.block k hl)
 have bn:=DM.same (w1:=bm) e' (λk hk hl=>D.1.block k hl)
 have cC:=AJ.same (w1:=bm) f0 (λk hk hl=>D.1.block k hl)
 have bo:=cv.bl D.1
 have bp:=f2.bl D.1
 have cD:=cw.bl D.1
 have aF:=AM.below cy D.1 (λb=>cy.lt b)
 have aG:=Ea cz D.1 (λb=>cz.lt b)
 have ap:=Ci bk D.1
 obtain ⟨m,df⟩:=eX gX
 subst df
 obtain ⟨ym,ey,dg⟩:=D.2
 subst ey
 have dh:=bE
 have di:=dg.textE
 refine A1 (.fld Av rfl FU rfl rfl)<|Au (R6 ym.text _ (bn).blk) (λiG f3=>?_)
 obtain rfl:=f3
 refine A3 rfl<|A1 (.ext rfl rfl)<|A1 (.ext rfl rfl)<|CL rfl<|A8 rfl<|Ad<|A4<|A3 rfl<|A1 (.not rfl)<|A0<|Ai rfl (λbO=>?_) (λbO=>?_)
 have f4:=(nT bO)
 refine An<|Ch BQ rfl rfl ((GS 26 _)) (λgY bq bH G=>?_) (λiH bq bH G=>?_)
 have cQ:=Ex ap (Below.mono G ap.size)
 exact Bx (Ho gY (by rw [Fe a0 hx ad];exact Gy (ks:=keys) (l:=list) a5 oO X (by exact Dp (DZ au) dD)) cQ)
 have dw:=CT bG G.size
 have f5:=AO.below cA G
 have f6:=AK.same (w1:=bq) cB (λk hk hl=>G.block k hl)
 have f7:=DM.same (w1:=bq) bn (λk hk hl=>G.block k hl)
 have f8:=AJ.same (w1:=bq) cC (λk hk hl=>G.block k hl)
 have cE:=bo.bl G
 have cF:=bp.bl G
 have f9:=cD.bl G
 have cG:=AM.below aF G (λb=>aF.lt b)
 have cH:=Ea aG G (λb=>aG.lt b)
 have cI:=Ci ap G
 have fU:=bH
 refine A0<|An<|A3 rfl<|A3 rfl<|A3 rfl<|?_
 refine A1 (.build rfl (W2 (keys[i0]'oO) (LF ym.text))) ?_
 refine CR (L:=ftL) (ps:=_) ([(⟨keys[i0]'oO,LF ym.text⟩:Nr)]) Nw sizeOf206 zeroValue206 rfl rfl rfl rfl rfl (by rfl) rfl rfl (λgZ aH a3 dx P i5=>?_)
 have bI:=CT dw P.size
 have aI:=Ix f5 a3 P
 have fb:=AK.same (w1:=aH) f6 (λk hk hl=>P.other k oO)
 have fc:=DM.same (w1:=aH) f7 (λk hk hl=>P.other k oO)
 have fd:=AJ.same (w1:=aH) f8 (λk hk hl=>P.other k oO)
 have fe:=Bt a3 cE.lt
 have ff:=cE.un P fe
 have fg:=Bt a3 cF.lt
 have fh:=cF.un P fg
 have il:=Bt a3 f9.lt
 have dy:=λb=>a3▸cG.lt b
 have fi:=AM.upd cG P (λb=>CV (dy b))
 have dz:=λb=>a3▸cH.lt b
 have fj:=AA.upd cH P (λb=>CV (dz b))
 have fk:=uB cI a3 P
 have h7:=CW a3 cI.size
 have ha:gZ<=aH.heap.size:=by omega
 refine Cb Nw RW rfl rfl rfl aI rfl (dx).rowp oE (bI) rfl (λh=>Dp h (lc_ _ _)) (λiI iJ dA a8 aZ i6=>?_)
 have fl:=ff.below a8 oO
 have fm:=fh.below a8 oO
 have fn:=AK.same fb (λk hk hl=>aZ.block k hl (λe=>by have h9:=((aI).lt k e.symm).1;omega))
 have fo:=DM.same fc (λk hk hl=>aZ.block k hl (λe=>by have h9:=((aI).lt k e.symm).1;omega))
 have fp:=AJ.same fd (λk hk hl=>aZ.block k hl (λe=>by have h9:=((aI).lt k e.symm).1;omega))
 have fq:=AM.below fi a8 bW
 have fr:=Ea fj a8 bX
 have fs:=Ex fk (a8.mono (ah))
 have i7:=CT bI a8.size
 refine A8 rfl<|An<|A1 (.add rfl rfl (Bb oO))<|A3 rfl<|A0<|?_
 exact ⟨(i0+1,_,_),⟨rfl,rfl,rfl,rfl,rfl,rfl,tT⟩,⟨fs,fl,fm,fq,fr,fn,fo,fp,dA,oM,by exact Dp (DZ au) dD,by simp;((try simp only) <;> omega),oM⟩,oM⟩
 have f4:=(nF bO)
 refine As<|An<|A3 rfl<|A3 rfl<|A3 rfl<|?_
 refine A1 (.build rfl (W2 (keys[i0]'oO) (LF ym.text))) ?_
 refine CR (L:=ftL) (ps:=_) ([(⟨keys[i0]'oO,LF ym.text⟩:Nr)]) Nw sizeOf206 zeroValue206 rfl rfl rfl rfl rfl (by rfl) rfl rfl (λg' aJ a4 dB Q i8=>?_)
 have bJ:=CT bG Q.size
 have aK:=Ix cA a4 Q
 have ft:=AK.same (w1:=aJ) cB (λk hk hl=>Q.other k oO)
 have fu:=DM.same (w1:=aJ) bn (λk hk hl=>Q.other k oO)
 have fv:=AJ.same (w1:=aJ) cC (λk hk hl=>Q.other k oO)
 have fw:=Bt a4 bo.lt
 have fx:=bo.un Q fw
 have fy:=Bt a4 bp.lt
 have fz:=bp.un Q fy
 have im:=Bt a4 cD.lt
 have dC:=λb=>a4▸aF.lt b
 have fA:=AM.upd aF Q (λb=>CV (dC b))
 have dE:=λb=>a4▸aG.lt b
 have fB:=AA.upd aG Q (λb=>CV (dE b))
 have fC:=uB ap a4 Q
 have hb:=CW a4 ap.size
 have hc:g'<=aJ.heap.size:=by omega
 refine Cb Nw RW rfl rfl rfl aK rfl (dB).rowp oE (bJ) rfl (λh=>Dp h (lc_ _ _)) (λiK iL dG a9 a' i9=>?_)
 have fD:=fx.below a9 oO
 have fE:=fz.below a9 oO
 have fF:=AK.same ft (λk hk hl=>a'.block k hl (λe=>by have h9:=((aK).lt k e.symm).1;omega))
 have fG:=DM.same fu (λk hk hl=>a'.block k hl (λe=>by have h9:=((aK).lt k e.symm).1;omega))
 have fH:=AJ.same fv (λk hk hl=>a'.block k hl (λe=>by have h9:=((aK).lt k e.symm).1;omega))
 have fI:=AM.below fA a9 bW
 have fJ:=Ea fB a9 bX
 have fK:=Ex fC (a9.mono (ah))
 have ia:=CT bJ a9.size
 refine A8 rfl<|An<|A1 (.add rfl rfl (Bb oO))<|A3 rfl<|A0<|?_
 exact ⟨(i0+1,_,_),⟨rfl,rfl,rfl,rfl,rfl,rfl,tT⟩,⟨fK,fD,fE,fI,fJ,fF,fG,fH,dG,oM,by exact Dp (DZ au) dD,by simp;((try simp only) <;> omega),oM⟩,oM⟩
 have gC:=dF d4
 refine BL<|A4<|A3 rfl<|A8 rfl<|AY ?_
 first
 | exact LH [] _ (by rw [RA (FACT).res h8];rfl) rfl ⟨q1,AO.nil _ _ _ _⟩
 | exact LH [] _ (Pp a0 (by simp_all)) rfl ⟨q1,AO.nil _ _ _ _⟩
 | exact LH ns _ (by rw [Fe a0 hx ad];show J8 os keys list=_;rw [Al oO,Al oO] at X;exact X) rfl ⟨q1,AO.base q9 (λg hg=>CT ah ((q9).lt g hg).1)⟩
end
section
def VO:l8_:=[70,105,108,116,101,114]
def Te:l8_:=[67,111,110,116,101,110,116,115]
def IB (o:AV):Except Int (l8_):=if o.kind=9 then (if (De o VO).isSome=true then .error 22 else .ok o.data) else .error 22
theorem VZ {o:AV} (h:¬ o.kind=9):IB o=.error 22:=A2 h
theorem W0 {o:AV} (h:(De o VO).isSome=true):IB o=.error 22:=by unfold IB;split <;> simp_all
theorem VY {o:AV} (h:o.kind=9) (h1:(De o VO).isSome=false):IB o=.ok o.data:=by unfold IB;rw [A5 h,h1];rfl
def DaA (S:Nat->Prop) (l:l8_) (v:Value) (w':World):Prop:=∃ (p:Option Addr) (c:Nat),v=.slice p l.length c/\Af w' p l/\(0<l.length->S (pA p).block)/\l.length<=c/\c<=9223372036854775807
theorem DaA.mono  (h:DaA S l v w) (hST:∀ k,S k->T k):DaA T l v w:=by
 obtain ⟨p,c,a,b,d,e⟩:=h
 exact ⟨p,c,a,b,λf=>hST _ (d f),e⟩
theorem At.dataR  {x:AC} {o:AV} (h:At w S x o):DaA S o.data (.slice x.dp x.dl x.dc) w:=by
 obtain ⟨keys,list,data,cs,a,ok,d,e,f,hr,g,hd,b,i,c⟩:=h.inv
 subst a
 exact ⟨x.dp,x.dc,by rw [ok.dl];rfl,hd,b,ok.dc,ok.dm⟩
theorem Vs (S:Nat->Prop) (x:AC) (o:AV) (w:World) (hx:At w S x o):Calls Tryz.prog 149 #[.agg (D3 x).toArray] w (TrE w (IB o) λl v w'=>DaA (λq=>q<w.heap.size) l v w'):=by
 have a1:At w (λk=>k<w.heap.size) x o:=hx.mono λk _ hk=>hk
 have m:=hx.kind
 refine AF func149 rfl ntmps149 ?_
 have a2:=Dh w
 refine A4<|WL.box rfl rfl (λb1 a3 a4 s t af=>?_)
 have C:=At.same (w1:=a3) a1 (λk hk hl=>t.other k oO)
 have a5:=uB a2 a4 t
 refine A8 rfl<|A4<|Aj (Bd rfl s Av rfl Ah)<|Bf BQ rfl rfl ((H8 x o _ VO _ C)) (λz w4 u=>?_)
 have a6:=At.same (w1:=w4) C (λk hk hl=>u.block k hl)
 have D:=s.bl u
 have a7:=Ci a5 u
 refine A3 rfl<|A1 (.ext rfl rfl)<|A1 (.ext rfl rfl)<|Bm CA rfl (λb8 a8 E H i ag=>?_)
 have a9:=At.same (w1:=a8) a6 (λk hk hl=>i.other k oO)
 have J:=Bt E D.lt
 have K:=D.un i J
 have L:=uB a7 E i
 refine Az rfl rfl H Ah rfl rfl (λaa ad g ae=>?_)
 have y:=At.same (w1:=aa) a9 (λk hk hl=>g.other k oM)
 have j:=K.up g
 have a:=BR L oO g
 refine A8 rfl<|A4<|A1 (.fa Av rfl BI dD rfl)<|Aj (Ae (C5 _) rfl j rfl)<|A1 (.eql rfl rfl)<|A3 rfl<|Cc rfl rfl rfl (λd=>?_) (λd=>?_)
 have P:=dT d
 refine A3 rfl<|AE d<|A1 (.not rfl)<|A1 (.pkT rfl d rfl)<|Ch BQ rfl rfl ((E5 _ _)) (λab F b e=>?_) (λah F b e=>?_)
 have A:=Ex a (Below.mono e a.size)
 exact Bx (Ho ab (by rw [(CB b).2];first | exact VZ (by rw [m];assumption) | exact W0 (by have:=(CB b).1;simp_all)) A)
 have Q:=At.same (w1:=F) y (λk hk hl=>e.block k hl)
 have T:=j.bl e
 have U:=Ci a e
 have h:=b
 refine A0<|A4<|A1 (.fa Av rfl CZ dD rfl)<|Aj (Ae (g22_ _) rfl T rfl)<|A8 rfl<|AY ?_
 first
 | exact LH o.data _ (VY (by rw [m];assumption) (by have:=DZ h;simp_all)) rfl ⟨U,(Q).dataR⟩
 | exact Dp (DZ h) dD
 have P:=dF d
 refine B6 d<|A1 (.pkF rfl d rfl)<|Ch BQ rfl rfl ((E5 _ _)) (λac G c f=>?_) (λai G c f=>?_)
 have B:=Ex a (Below.mono f a.size)
 exact Bx (Ho ac (by rw [(CB c).2];first | exact VZ (by rw [m];assumption) | exact W0 (by have:=(CB c).1;simp_all)) B)
 have V:=At.same (w1:=G) y (λk hk hl=>f.block k hl)
 have X:=j.bl f
 have a0:=Ci a f
 have h:=c
 refine A0<|A4<|A1 (.fa Av rfl CZ dD rfl)<|Aj (Ae (g22_ _) rfl X rfl)<|A8 rfl<|AY ?_
 first
 | exact LH o.data _ (VY (by rw [m];assumption) (by have:=DZ h;simp_all)) rfl ⟨a0,(V).dataR⟩
 | exact Dp (DZ h) dD
theorem So (wk bf:Nat) (sv pv:Value) (S T:Nat->Prop) (os:List AV) (H:Vl os) (x:AC) (o c r:AV) (w:World) (hk:B4 w wk (TO bf sv pv) 86) (hf:AK S w bf (Cw os) (Dl os)) (hx:At w T x o) (hg:Ir os o) (hc:De o Te=some c) (hr:FL os 32 c=some r) (hr6:r.kind≠6) :
  Calls Tryz.prog 116 #[ptV wk,.agg (D3 x).toArray] w (TrE w (IB r) λl v w'=>DaA (λq=>q<w'.heap.size) l v w'):=by
 have aR:AK (λk=>k<w.heap.size) w bf (Cw os) (Dl os):=hf.mono λk _ hk=>hk
 have aS:At w (λk=>k<w.heap.size) x o:=hx.mono λk _ hk=>hk
 refine AF func116 rfl ntmps116 ?_
 have ai:=Dh w
 refine A4<|WL.box rfl rfl (λb1 aj N P h bd=>?_)
 have aT:=AK.same (w1:=aj) aR (λk hk hl=>h.other k oO)
 have aU:=At.same (w1:=aj) aS (λk hk hl=>h.other k oO)
 have aV:=Bt N hk.lt
 have aW:=hk.un h aV
 have aX:=uB ai N h
 have b8:=CW N ai.size
 refine A8 rfl<|A4<|Aj (Bd rfl P Av rfl Ah)<|Bf BQ rfl rfl ((H8 x o _ Te _ aU)) (λz w7 C=>?_)
 have aY:=AK.same (w1:=w7) aT (λk hk hl=>C.block k hl)
 have Q:=aW.bl C
 have ao:=P.bl C
 have U:=Ci aX C
 obtain ⟨z,hz⟩:=z
 have hz:=At.same (w1:=w7) hz (λk hk hl=>(C).block k hl)
 rw [hc] at hz
 refine A3 rfl<|A1 (.ext rfl rfl)<|A1 (.ext rfl rfl)<|Bm CA rfl (λbg V i ae b b9=>?_)
 have ap:=AK.same (w1:=V) aY (λk hk hl=>b.other k oO)
 have aq:=At.same (w1:=V) hz (λk hk hl=>b.other k oO)
 have ar:=Bt i Q.lt
 have au:=Q.un b ar
 have be:=Bt i ao.lt
 have av:=uB U i b
 have aZ:=CW i U.size
 refine Az rfl rfl ae Ah rfl rfl (λak af d ba=>?_)
 have aw:=AK.same (w1:=ak) ap (λk hk hl=>d.other k oM)
 have ax:=At.same (w1:=ak) aq (λk hk hl=>d.other k oM)
 have ay:=au.up d
 have az:=BR av oO d
 refine A8 rfl<|Ad<|A4<|A3 rfl<|A1 (.not rfl)<|A0<|Ai rfl (λX=>?_) (λX=>?_)
 have aA:=(nT X)
 exfalso;simp_all
 have aA:=(nF X)
 refine As<|Ad<|F2 11 rfl BS (λF e=>?_)
 have Y:=AK.same (w1:=F) aw (λk hk hl=>(by obtain ⟨m,rfl⟩:=e;rfl))
 have a0:=At.same (w1:=F) ax (λk hk hl=>(by obtain ⟨m,rfl⟩:=e;rfl))
 have a1:=ay.drew e
 have a:=af.drew e
 have j:=Cn.below az e
 refine AB 0 rfl (.mv rfl) rfl<|AB 1 rfl (.nck rfl) rfl<|AB 2 rfl (.fa NS rfl sizeOf38 dD rfl) rfl<|Ct 3 rfl 4 rfl ?_ ?_
 refine Aj (Ae (isAgg38 _) rfl a1 rfl)<|A0<|Ao 4 rfl<|Aj (Bd rfl a Av rfl Ah)<|A0<|Ao 5 rfl<|Bf BQ rfl rfl ((Fj bf _ os H.objs (λo ho=>(H.goo o ho).rng.ref) z c _ (some r) _ Y a0 (hg.key hc).snd (hg.key hc).rng.ref hr)) (λz2 a' s=>?_)
 have aB:=a.bl s.2
 have aC:=Ci j s.2
 have a2:=(s).1.mono (T:=λq=>F.heap.size<=q/\q<a'.heap.size) (λq h1 h2=>⟨h1,h2⟩)
 have aD:=a.lt
 have aE:=j.size
 have aF:=s.2.size
 refine A0<|AB 6 rfl (.mv rfl) rfl<|AB 7 rfl (.ext rfl rfl) rfl<|AB 8 rfl (.ext rfl rfl) rfl<|Ao 9 rfl<|Az rfl rfl aB Ah rfl rfl (λb0 ag G bb=>?_)
 have aG:=At.same (w1:=b0) a2 (λk hk hl=>G.other k oM)
 have aH:=BR aC oO G
 refine A0<|AB 10 rfl (.as rfl) rfl<|Be kR<|A4<|A3 rfl<|Ch BQ rfl rfl ((GS _ _)) (λbh am J t=>?_) (λbi am J t=>?_)
 exact Dp (KE J).1 (by simp)
 have a3:=At.same (w1:=am) aG (λk hk hl=>t.block k hl)
 have a4:=ag.bl t
 have D:=Ci aH t
 have a5:r.kind=z2.kind:=At.kind (o:=r) a3
 refine A0<|Ad<|A4<|A1 (.fa Av rfl BI dD rfl)<|Aj (Ae (C5 _) rfl a4 rfl)<|A1 (.neq rfl rfl)<|A0<|Ai rfl (λa6=>?_) (λa6=>?_)
 have aI:=ndT a6
 refine A4<|Aj (Bd rfl a4 Av rfl Ah)<|EE BQ rfl rfl ((Vs _ z2 r _ a3)) (λb2 b3 u f=>?_) (λbj bk b3 u f=>?_)
 have a7:=Ex D (Below.mono f D.size)
 exact Bx (Ho b2 u a7)
 have aJ:=Ci D f.1
 have a8:=f.2
 have a9:=u
 have aK:=f.1.size
 refine A8 rfl<|AY ?_
 exact LH _ _ a9 rfl ⟨aJ,a8.mono (λq h1=>by omega)⟩
 have aI:=ndF a6
 exact Dp (by rw [a5];simp_all) hr6
 refine Aj (Bd rfl a Av rfl Ah)<|A0<|Ao 3 rfl<|Aj (Ae (isAgg38 _) rfl a1 rfl)<|A0<|Ao 5 rfl<|Bf BQ rfl rfl ((Fj bf _ os H.objs (λo ho=>(H.goo o ho).rng.ref) z c _ (some r) _ Y a0 (hg.key hc).snd (hg.key hc).rng.ref hr)) (λz2 b4 y=>?_)
 have aL:=a.bl y.2
 have aM:=Ci j y.2
 have a2:=(y).1.mono (T:=λq=>F.heap.size<=q/\q<b4.heap.size) (λq h1 h2=>⟨h1,h2⟩)
 have aD:=a.lt
 have aE:=j.size
 have aF:=y.2.size
 refine A0<|AB 6 rfl (.mv rfl) rfl<|AB 7 rfl (.ext rfl rfl) rfl<|AB 8 rfl (.ext rfl rfl) rfl<|Ao 9 rfl<|Az rfl rfl aL Ah rfl rfl (λb5 ah K bc=>?_)
 have aN:=At.same (w1:=b5) a2 (λk hk hl=>K.other k oM)
 have aO:=BR aM oO K
 refine A0<|AB 10 rfl (.as rfl) rfl<|Be kR<|A4<|A3 rfl<|Ch BQ rfl rfl ((GS _ _)) (λbm an L A=>?_) (λbn an L A=>?_)
 exact Dp (KE L).1 (by simp)
 have aa:=At.same (w1:=an) aN (λk hk hl=>A.block k hl)
 have ab:=ah.bl A
 have E:=Ci aO A
 have a5:r.kind=z2.kind:=At.kind (o:=r) aa
 refine A0<|Ad<|A4<|A1 (.fa Av rfl BI dD rfl)<|Aj (Ae (C5 _) rfl ab rfl)<|A1 (.neq rfl rfl)<|A0<|Ai rfl (λac=>?_) (λac=>?_)
 have aP:=ndT ac
 refine A4<|Aj (Bd rfl ab Av rfl Ah)<|EE BQ rfl rfl ((Vs _ z2 r _ aa)) (λb6 b7 B g=>?_) (λbo bp b7 B g=>?_)
 have ad:=Ex E (Below.mono g E.size)
 exact Bx (Ho b6 B ad)
 have aQ:=Ci E g.1
 have a8:=g.2
 have a9:=B
 have aK:=g.1.size
 refine A8 rfl<|AY ?_
 exact LH _ _ a9 rfl ⟨aQ,a8.mono (λq h1=>by omega)⟩
 have aP:=ndF ac
 exact Dp (by rw [a5];simp_all) hr6
end
section
structure PgV where
 wd:Int
 ht:Int
 p:Option Addr
 n:Nat
 c:Nat
def pgV (x:PgV):List Value:=[Ag x.wd,Ag x.ht,.slice x.p x.n x.c]
def WW:FK PgV:=⟨3,pgV,dD,λ_=>rfl,λx u hu=>AP.1 (show (pgV x).all Value.oneCell'=true from rfl) u hu⟩
theorem YW:(Tryz.prog.info? 46).map (λi=>(i.zero,i.size,i.bytes))=some (some (.agg #[Ag 0,Ag 0,.slice none 0 0]),3,40):=by kernel_rfl
def Sd {ι:Type} (B:Nat) (l:l8_) (fs:List Nr) (res:Except Int ι) (Q:ι->Option Addr->Nat->Nat->World->Prop):Prop :=
 ∀ (w:World) (p:Option Addr) (c:Nat) (fv:Value),B<=w.heap.size->Af w p l->l.length<=c->AO ftL 206 B w fv fs ->
  Calls Tryz.prog 115 #[.slice p l.length c,fv] w λe w'=>∃ t:(Option Addr × Nat × Nat) × Int,e=.returned (.tuple #[.slice t.1.1 t.1.2.1 t.1.2.2,Ag t.2])/\AL w w' /\
   ∀ w2:World,(∀ k,w.heap.size<=k->k<w'.heap.size->w2.heap[k]?=w'.heap[k]?)->match res with | .error x=>t.2=x/\x≠0 | .ok a=>t.2=0/\Q a t.1.1 t.1.2.1 t.1.2.2 w2
def FY {ι:Type} (os:List AV) (r:AV) (i:JE) (it:l8_->List Nr->Except Int ι):Except Int ((Int × Int) × ι):=match IR os i with
 | .error e=>.error e
 | .ok b=>match Ft os i.res with
  | .error e=>.error e
  | .ok fs=>match IB r with
   | .error e=>.error e
   | .ok l=>match it l fs with
    | .error e=>.error e
    | .ok a=>.ok (b,a)
theorem RH  {os:List AV} {r:AV} {i:JE} {it:l8_->List Nr->Except Int ι} {e:Int} (h:IR os i=.error e):FY os r i it=.error e:=by unfold FY;rw [h]
theorem VG  {os:List AV} {r:AV} {i:JE} {it:l8_->List Nr->Except Int ι} {e:Int} {b:Int × Int} (h:IR os i=.ok b) (h1:Ft os i.res=.error e):FY os r i it=.error e:=by unfold FY;rw [h];simp only;rw [h1]
theorem VH  {os:List AV} {r:AV} {i:JE} {it:l8_->List Nr->Except Int ι} {e:Int} {b:Int × Int} {fs:List Nr} (h:IR os i=.ok b) (h1:Ft os i.res=.ok fs) (h2:IB r=.error e):FY os r i it=.error e:=by unfold FY;rw [h];simp only;rw [h1];simp only;rw [h2]
theorem Ky  {os:List AV} {r:AV} {i:JE} {it:l8_->List Nr->Except Int ι} {b:Int × Int} {fs:List Nr} (h:IR os i=.ok b) (h1:Ft os i.res=.ok fs) (h2:IB r=.ok l):FY os r i it=match it l fs with | .error e=>.error e | .ok a=>.ok (b,a):=by unfold FY;rw [h];simp only;rw [h1];simp only;rw [h2]
theorem A27  {res:Except Int ι} {k e:Int} {P:ι->Prop} (h:match res with | .error x=>k=x/\x≠0 | .ok a=>k=0/\P a) (hm:FR k=.error e):res=.error e:=by
 cases res with
 | error x=>obtain ⟨rfl,b⟩:=h;unfold FR at hm;rw [A2 b] at hm;cases hm;rfl
 | ok a=>obtain ⟨rfl,-⟩:=h;cases hm
theorem A3f  {res:Except Int ι} {k:Int} {u:Unit} {P:ι->Prop} (h:match res with | .error x=>k=x/\x≠0 | .ok a=>k=0/\P a) (hm:FR k=.ok u):∃ a,res=.ok a/\P a:=by
 cases res with
 | error x=>obtain ⟨rfl,b⟩:=h;unfold FR at hm;rw [A2 b] at hm;cases hm
 | ok a=>exact ⟨a,rfl,h.2⟩
structure QF (L M:Nat) (P:World->Prop) (w:World):Prop where
 h:∀ w2:World,(∀ k,L<=k->k<M->w2.heap[k]?=w.heap[k]?)->P w2
 lt:∀ k,L<=k->k<M->k<w.heap.size
theorem QF.here  {L:Nat} {P:World->Prop} (q:QF L M P w):P w:=q.h w λ_ _ _=>rfl
theorem QF.imp  {L:Nat} {P P':World->Prop} (q:QF L M P w) (h:∀ w2,P w2->P' w2):QF L M P' w:=⟨λw2 h2=>h w2 (q.h w2 h2),q.lt⟩
theorem QF.same  {L:Nat} {P:World->Prop} (q:QF L M P w) (hb:∀ k,(L<=k/\k<M)->k<w.heap.size->w1.heap[k]?=w.heap[k]?):QF L M P w1 :=
 ⟨λw2 h2=>q.h w2 λk h3 h4=>(h2 k h3 h4).trans (hb k ⟨h3,h4⟩ (q.lt k h3 h4)),λk h3 h4=>by
  have h6:=hb k ⟨h3,h4⟩ (q.lt k h3 h4)
  rw [Eo (q.lt k h3 h4)] at h6
  exact (B5.1 h6).1⟩
def LQ {ι:Type} (wk bf:Nat) (sv:Value) (Q:ι->Option Addr->Nat->Nat->World->Prop) (a:(Int × Int) × ι) (w':World):Prop :=
 ∃ (v:Value) (x:PgV),B4 w' wk (TO bf sv v) 86/\AO WW 46 (wk+1) w' v [x]/\x.wd=a.1.1/\x.ht=a.1.2/\∃ L M,wk<L/\QF L M (Q a.2 x.p x.n x.c) w'
theorem A0t  (wk bf:Nat) (sv:Value) (S T U:Nat->Prop) (os:List AV) (H:Vl os) (x:AC) (o c r:AV) (p q:Option Addr) (i:JE) (it:l8_->List Nr->Except Int ι) (Q:ι->Option Addr->Nat->Nat->World->Prop) (w:World)
  (hk:B4 w wk (TO bf sv (.slice none 0 0)) 86) (hf:AK S w bf (Cw os) (Dl os)) (hx:At w U x o) (hg:Ir os o) (hi:DB w T p q i) (hib:∀ u,i.box=some u->Ir os u) (hir:∀ u,i.res=some u->Ir os u) (hN:XA w)
  (hc:De o Te=some c) (hr:FL os 32 c=some r) (hr6:r.kind≠6) (hV:∀ l fs,Ft os i.res=.ok fs->IB r=.ok l->Sd w.heap.size l fs (it l fs) Q) :
  Calls Tryz.prog 85 #[ptV wk,.agg (D3 x).toArray,.agg #[.pointer p,.pointer q]] w λe w'=>Hl 35 (FY os r i it) (λa v w'=>v=.tuple #[]/\B8 w.heap.size wk w w'/\LQ wk bf sv Q a w') (λw'=>B8 w.heap.size wk w w') e w':=by
 have da:AK (λk=>k<w.heap.size) w bf (Cw os) (Dl os):=hf.mono λk _ hk=>hk
 have db:DB w (λk=>k<w.heap.size) p q i:=hi.mono λk _ hk=>hk
 have dd:At w (λk=>k<w.heap.size) x o:=hx.mono λk _ hk=>hk
 have de:DM (λk=>k<w.heap.size) w:=⟨hN.lt,hN⟩
 refine AF func85 rfl ntmps85 ?_
 have cc:=B8.refl (w.heap.size) wk w
 refine A4<|WL.box rfl rfl (λb1 aG cd aU X dQ=>?_)
 have df:=AK.same (w1:=aG) da (λk hk hl=>X.other k oO)
 have dg:=At.same (w1:=aG) dd (λk hk hl=>X.other k oO)
 have dh:=DB.same (w1:=aG) db (λk hk hl=>X.other k oO)
 have di:=DM.same (w1:=aG) de (λk hk hl=>X.other k oO)
 have dj:=Bt cd hk.lt
 have cf:=hk.un X dj
 have bv:=CW cd cc.size
 have cg:=Bs cc (DC X bv)
 refine WL.box rfl rfl (λb9 aH aV aW N dR=>?_)
 have cm:=AK.same (w1:=aH) df (λk hk hl=>N.other k oO)
 have cn:=At.same (w1:=aH) dg (λk hk hl=>N.other k oO)
 have co:=DB.same (w1:=aH) dh (λk hk hl=>N.other k oO)
 have cq:=DM.same (w1:=aH) di (λk hk hl=>N.other k oO)
 have cr:=Bt aV cf.lt
 have aD:=cf.un N cr
 have ct:=Bt aV aU.lt
 have aX:=aU.un N ct
 have bw:=CW aV cg.size
 have aY:=Bs cg (DC N bw)
 refine A0<|Ad<|A4<|A3 rfl<|A1 (.nck rfl)<|A1 (.fa NS rfl OO dD rfl)<|Aj (Ae (isAgg41 _) rfl aD rfl)<|A1 (.lenS In rfl)<|A1 (.geq rfl rfl)<|A0<|Ai rfl (λaZ=>?_) (λaZ=>?_)
 have cu:=dT aZ
 exfalso;simp_all
 have cu:=dF aZ
 refine As<|A4<|Bm XJ rfl (λaI ab ac bz f dM=>?_)
 have a':=AK.same (w1:=ab) cm (λk hk hl=>f.other k oO)
 have cv:=At.same (w1:=ab) cn (λk hk hl=>f.other k oO)
 have b0:=DB.same (w1:=ab) co (λk hk hl=>f.other k oO)
 have cw:=DM.same (w1:=ab) cq (λk hk hl=>f.other k oO)
 have cy:=Bt ac aD.lt
 have b2:=aD.un f cy
 have cz:=Bt ac aX.lt
 have cA:=aX.un f cz
 have cB:=Bt ac aW.lt
 have b3:=aW.un f cB
 have b4:=CW ac aY.size
 have ad:=Bs aY (DC f b4)
 refine A0<|A4<|A3 rfl<|Aj (Bd rfl b3 Ge rfl Fq)<|Ch BQ rfl rfl ((A2a wk bf sv (.slice none 0 0) _ _ os H p q i _ b2 a' b0 hib)) (λdk au ae d=>?_) (λdl au ae d=>?_)
 have b5:=Bs ad (EN (Fb d) ad.size)
 exact Bx (Ho dk (RH ae) b5)
 have cC:=AK.same (w1:=au) a' (λk hk hl=>d.block k hl)
 have cD:=At.same (w1:=au) cv (λk hk hl=>d.block k hl)
 have cE:=DB.same (w1:=au) b0 (λk hk hl=>d.block k hl)
 have cF:=DM.same (w1:=au) cw (λk hk hl=>d.block k hl)
 have cG:=b2.bl d
 have cH:=cA.bl d
 have cI:=b3.bl d
 have cJ:=bz.bl d
 have cK:=Bs ad (EN (Fb d) ad.size)
 obtain ⟨⟨a6,a7⟩,dm⟩:=eX dl
 subst dm
 have a8:=ae
 refine A3 rfl<|A1 (.ext rfl rfl)<|A1 (.ext rfl rfl)<|A1 (.fa Lj rfl BI dD rfl)<|C2 cJ BI (λaJ bA j dN=>?_)
 have cL:=AK.same (w1:=aJ) cC (λk hk hl=>j.other k oM)
 have cM:=At.same (w1:=aJ) cD (λk hk hl=>j.other k oM)
 have cN:=DB.same (w1:=aJ) cE (λk hk hl=>j.other k oM)
 have cO:=DM.same (w1:=aJ) cF (λk hk hl=>j.other k oM)
 have cP:=cG.up j
 have cQ:=cH.up j
 have cR:=cI.up j
 have cS:=Bs cK (DC j oO)
 refine A1 (.fa Lj rfl BI dD rfl)<|BA BI rfl rfl rfl bA (by exact Nat.le_of_ble_eq_true rfl) (λav af b dO=>?_)
 have af:B4 av aI _ _:=af
 have b:CP aI _ _:=b
 have b6:=AK.same (w1:=av) cL (λk hk hl=>b.other k oM)
 have cT:=At.same (w1:=av) cM (λk hk hl=>b.other k oM)
 have cU:=DB.same (w1:=av) cN (λk hk hl=>b.other k oM)
 have cV:=DM.same (w1:=av) cO (λk hk hl=>b.other k oM)
 have b7:=cP.up b
 have cW:=cQ.up b
 have cX:=cR.up b
 have a0:=Bs cS (DC b oO)
 refine A0<|A4<|A3 rfl<|Aj (Bd rfl cX Ge rfl Fq)<|EE BQ rfl rfl ((XT wk bf sv (.slice none 0 0) _ _ os H p q i _ b7 b6 cU hir (cV).blk)) (λdn b8 ag y=>?_) (λdq dr b8 ag y=>?_)
 have ba:=Bs a0 (EN (Fb y) a0.size)
 exact Bx (Ho dn (VG a8 ag) ba)
 have cY:=AK.same (w1:=b8) b6 (λk hk hl=>y.1.block k hl)
 have cZ:=At.same (w1:=b8) cT (λk hk hl=>y.1.block k hl)
 have bb:=b7.bl y.1
 have c':=cW.bl y.1
 have d0:=af.bl y.1
 have ah:=Bs a0 (EN (Fb y.1) a0.size)
 obtain ⟨fs,ds⟩:=eX dq
 subst ds
 obtain ⟨fv,d1⟩:=eX dr
 subst d1
 have dt:=AO.base y.2 (λg hg=>CT a0.size ((y.2).lt g hg).1)
 have a9:=ag
 refine A8 rfl<|A4<|A8 rfl<|A4<|A3 rfl<|Aj (Bd rfl c' Av rfl Ah)<|EE BQ rfl rfl ((So wk bf sv (.slice none 0 0) _ _ os H x o c r _ bb cY cZ hg hc hr hr6)) (λdu ci ai P=>?_) (λdv e3 ci ai P=>?_)
 have bc:=Bs ah (EN (Fb P) ah.size)
 exact Bx (Ho du (VH a8 a9 ai) bc)
 have bd:=bb.bl P.1
 have be:=d0.bl P.1
 have aE:=Bs ah (EN (Fb P.1) ah.size)
 obtain ⟨l,dw⟩:=eX dv
 subst dw
 obtain ⟨dp,dc,ed,dx,e4,dy,e5⟩:=P.2
 subst ed
 have aw:=ai
 have d2:=AO.below dt P.1
 refine A3 rfl<|Bf BQ rfl rfl ((hV l fs a9 aw ci dp dc fv aE.size dx dy d2)) (λt dz aj=>?_)
 have d3:=bd.bl aj.1
 have d4:=be.bl aj.1
 have d5:=Bs aE (EN (Fb aj.1) aE.size)
 have cj:QF _ _ _ dz:=⟨aj.2,λk _ h=>h⟩
 have ck:=cj.here
 have dS:=be.lt
 have aF:=bd.lt
 refine A3 rfl<|A1 (.ext rfl rfl)<|A1 (.ext rfl rfl)<|A1 (.fa Lj rfl SA dD rfl)<|BA SA rfl rfl rfl d4 (by exact Nat.le_of_ble_eq_true rfl) (λcl ak V dP=>?_)
 have ak:B4 cl aI _ _:=ak
 have V:CP aI _ _:=V
 have d6:=QF.same (w1:=cl) cj (λk hk hl=>V.other k oM)
 have bB:=d3.up V
 have Y:=Bs d5 (DC V oO)
 refine A8 rfl<|A4<|A3 rfl<|Ch BQ rfl rfl ((GS _ _)) (λd7 am a1 G=>?_) (λdU am a1 G=>?_)
 have aQ:=Bs Y (EN (Fb G) Y.size)
 exact Bx (Ho d7 (by rw [Ky a8 a9 aw,A27 ck a1]) aQ)
 have bC:=QF.same (w1:=am) d6 (λk hk hl=>G.block k hl)
 have bD:=bB.bl G
 have bE:=ak.bl G
 have aK:=Bs Y (EN (Fb G) Y.size)
 obtain ⟨ia,aa,e6⟩:=A3f ck a1
 have dA:=AO.nil WW 46 w.heap.size am
 have d8:w.heap.size<=am.heap.size:=by exact (aK).size
 refine A0<|F2 11 rfl BS (λd9 J=>?_)
 have a2:=HS d8 J
 have an:=AO.drew dA J
 have ao:=QF.same (w1:=d9) bC (λk hk hl=>(by obtain ⟨m,rfl⟩:=J;rfl))
 have s:=bD.drew J
 have aL:=bE.drew J
 have K:=Bs aK (KU J)
 refine AB 0 rfl (.mv rfl) rfl<|AB 1 rfl (.mv rfl) rfl<|AB 2 rfl (.nck rfl) rfl<|AB 3 rfl (.fa NS rfl OO dD rfl) rfl<|Ct 4 rfl 5 rfl ?_ ?_
 refine Aj (Ae (isAgg41 _) rfl s rfl)<|A0<|Ao 5 rfl<|Aj (Bd rfl aL Lj rfl VP)<|A0<|Ao 6 rfl<|CR (L:=WW) (ps:=_) ([(⟨a6,a7,t.1.1,t.1.2.1,t.1.2.2⟩:PgV)]) In Rt XJ rfl rfl rfl rfl rfl (by rfl) rfl rfl (λdV bG ap bg A dB=>?_)
 have bh:=CT a2 A.size
 have bH:=Ix an ap A
 have bI:=QF.same (w1:=bG) ao (λk hk hl=>A.other k oO)
 have bJ:=Bt ap s.lt
 have bK:=s.un A bJ
 have aR:=CW ap K.size
 have bL:=Bs K (DC A aR)
 refine A0<|Ao 7 rfl<|Cb In YW rfl rfl rfl bH rfl (bg).rowp oE (bh) rfl (λh=>Dp h (lc_ _ _)) (λdW dX ax ay bi dC=>?_)
 have bM:=bK.below ay oO
 have bN:=QF.same bI (λk hk hl=>bi.block k hl (λe=>by cases e))
 have bO:=Bs bL (Fb (ay.mono (DS _)))
 refine A0<|AB 8 rfl (.nck rfl) rfl<|AB 9 rfl (.fa NS rfl OO dD rfl) rfl<|Ao 10 rfl<|BA OO rfl rfl (ax).one bM (by exact Nat.le_of_ble_eq_true rfl) (λbj a3 B dE=>?_)
 have a3:B4 bj wk _ _:=a3
 have B:CP wk _ _:=B
 have aM:=Bn ax B oM
 have bP:=QF.same (w1:=bj) bN (λk hk hl=>B.other k oM)
 have bQ:=Bs bO (Bk B)
 refine A0<|Be kR<|D9 (CU rfl ?_)
 exact LH _ _ (by rw [Ky a8 a9 aw,aa]) rfl ⟨rfl,bQ,_,⟨a6,a7,t.1.1,t.1.2.1,t.1.2.2⟩,a3,AO.base aM (λg hg=>by have:=((aM).lt g hg).1;have:=hk.lt;omega),rfl,rfl,_,_,aF,(bP).imp (λw2 h9=>by rw [aa] at h9;exact h9.2)⟩
 refine Aj (Bd rfl aL Lj rfl VP)<|A0<|Ct 4 rfl 6 rfl ?_ ?_
 refine Aj (Ae (isAgg41 _) rfl s rfl)<|A0<|Ao 6 rfl<|CR (L:=WW) (ps:=_) ([(⟨a6,a7,t.1.1,t.1.2.1,t.1.2.2⟩:PgV)]) In Rt XJ rfl rfl rfl rfl rfl (by rfl) rfl rfl (λdY bR aq bk C dG=>?_)
 have bm:=CT a2 C.size
 have bS:=Ix an aq C
 have bT:=QF.same (w1:=bR) ao (λk hk hl=>C.other k oO)
 have bU:=Bt aq s.lt
 have bV:=s.un C bU
 have aS:=CW aq K.size
 have bW:=Bs K (DC C aS)
 refine A0<|Ao 7 rfl<|Cb In YW rfl rfl rfl bS rfl (bk).rowp oE (bm) rfl (λh=>Dp h (lc_ _ _)) (λdZ d' az aA bn dH=>?_)
 have bX:=bV.below aA oO
 have bY:=QF.same bT (λk hk hl=>bn.block k hl (λe=>by cases e))
 have bZ:=Bs bW (Fb (aA.mono (DS _)))
 refine A0<|AB 8 rfl (.nck rfl) rfl<|AB 9 rfl (.fa NS rfl OO dD rfl) rfl<|Ao 10 rfl<|BA OO rfl rfl (az).one bX (by exact Nat.le_of_ble_eq_true rfl) (λbo a4 D dI=>?_)
 have a4:B4 bo wk _ _:=a4
 have D:CP wk _ _:=D
 have aN:=Bn az D oM
 have b':=QF.same (w1:=bo) bY (λk hk hl=>D.other k oM)
 have c0:=Bs bZ (Bk D)
 refine A0<|Be kR<|D9 (CU rfl ?_)
 exact LH _ _ (by rw [Ky a8 a9 aw,aa]) rfl ⟨rfl,c0,_,⟨a6,a7,t.1.1,t.1.2.1,t.1.2.2⟩,a4,AO.base aN (λg hg=>by have:=((aN).lt g hg).1;have:=hk.lt;omega),rfl,rfl,_,_,aF,(b').imp (λw2 h9=>by rw [aa] at h9;exact h9.2)⟩
 refine CR (L:=WW) (ps:=_) ([(⟨a6,a7,t.1.1,t.1.2.1,t.1.2.2⟩:PgV)]) In Rt XJ rfl rfl rfl rfl rfl (by rfl) rfl rfl (λe0 c2 ar bp E dJ=>?_)
 have bq:=CT a2 E.size
 have c3:=Ix an ar E
 have c4:=QF.same (w1:=c2) ao (λk hk hl=>E.other k oO)
 have c5:=Bt ar s.lt
 have aO:=s.un E c5
 have aT:=CW ar K.size
 have c6:=Bs K (DC E aT)
 refine A0<|Ao 4 rfl<|Aj (Ae (isAgg41 _) rfl aO rfl)<|A0<|Ao 7 rfl<|Cb In YW rfl rfl rfl c3 rfl (bp).rowp oE (bq) rfl (λh=>Dp h (lc_ _ _)) (λe1 e2 aB aC bt dK=>?_)
 have c7:=aO.below aC oO
 have c8:=QF.same c4 (λk hk hl=>bt.block k hl (λe=>by cases e))
 have c9:=Bs c6 (Fb (aC.mono (DS _)))
 refine A0<|AB 8 rfl (.nck rfl) rfl<|AB 9 rfl (.fa NS rfl OO dD rfl) rfl<|Ao 10 rfl<|BA OO rfl rfl (aB).one c7 (by exact Nat.le_of_ble_eq_true rfl) (λbu a5 F dL=>?_)
 have a5:B4 bu wk _ _:=a5
 have F:CP wk _ _:=F
 have aP:=Bn aB F oM
 have ca:=QF.same (w1:=bu) c8 (λk hk hl=>F.other k oM)
 have cb:=Bs c9 (Bk F)
 refine A0<|Be kR<|D9 (CU rfl ?_)
 exact LH _ _ (by rw [Ky a8 a9 aw,aa]) rfl ⟨rfl,cb,_,⟨a6,a7,t.1.1,t.1.2.1,t.1.2.2⟩,a5,AO.base aP (λg hg=>by have:=((aP).lt g hg).1;have:=hk.lt;omega),rfl,rfl,_,_,aF,(ca).imp (λw2 h9=>by rw [aa] at h9;exact h9.2)⟩
end
section
def A2s (n:Int):Value:=Ag n
theorem US (p:Option Addr) (l:List Int) (c:Nat) (n:Int) (w:World) (h:AM A2s w p l) (hl:l.length<=10000000) :
  Calls Tryz.prog 112 #[.slice p l.length c,Ag n] w λe w'=>∃ k:Int,e=.returned (Ag k)/\decide (0<=k)=decide (n∈l)/\w=w':=by
 refine AF func112 rfl ntmps112<|A4<|A8 rfl<|Ad<|A4<|A3 rfl<|A1 (.lenS NT rfl)<|A3 rfl<|A0<|AT<|BO (α:=Nat) (λt=>[(0,.slice p l.length c),(1,Ag n),(7,Ag (l.length:Int)),(8,Ag (t:Int))]) (λt w'=>w=w'/\t<=l.length/\n ∉ l.take t) (λt=>l.length-t) (0) ⟨rfl,rfl,rfl,rfl,tT⟩ (⟨rfl,FN _,by simp⟩) (λt i hR=>?_)
 obtain ⟨a,rfl⟩:=eX t
 obtain ⟨rfl,ht,ho⟩:=hR
 refine A4<|A1 (.lss rfl rfl)<|A0<|Ad<|Ai rfl (λb=>?_) (λb=>?_)
 have f:=dT b
 refine As<|Ad<|AT<|A4<|A3 rfl<|A8 rfl<|A4<|A3 rfl<|A3 rfl<|A3 rfl<|A1 (.ixb NT BI rfl rfl (h.isp oO) (a) (rfl) oO)<|Aj (BG (C5 _) rfl (h.cells (a) oO))<|A1 (.eql rfl rfl)<|A0<|Ai rfl (λd=>?_) (λd=>?_)
 have g:=dT d
 refine A4<|A3 rfl<|A8 rfl<|AY ?_
 first
 | exact ⟨_,rfl,by rw [AR oO,AR (by have:=Ar (l:=l) (n:=a) oO;simp_all)],rfl⟩
 | exact ⟨_,rfl,by rw [AH oO,AH (by rw [Al oO] at ho;exact ho)],rfl⟩
 have g:=dF d
 refine As<|An<|A1 (.add rfl rfl (Bb oO))<|A3 rfl<|A0<|?_
 exact ⟨a+1,⟨rfl,rfl,rfl,rfl,tT⟩,⟨rfl,oO,by rw [List.take_add_one,Ak oO];simp only [Option.toList_some,Bj,Bl,not_or];exact ⟨ho,aS⟩⟩,oO⟩
 have f:=dF b
 refine BL<|A4<|A8 rfl<|AY ?_
 first
 | exact ⟨_,rfl,by rw [AR oO,AR (by have:=Ar (l:=l) (n:=a) oO;simp_all)],rfl⟩
 | exact ⟨_,rfl,by rw [AH oO,AH (by rw [Al oO] at ho;exact ho)],rfl⟩
theorem Qb (p:Option Addr) (l:List Int) (c:Nat) (n:Int) (w:World) (h:AM A2s w p l) (hl:l.length<=10000000) :
  Calls Tryz.prog 83 #[.slice p l.length c,Ag n] w λe w'=>e=.returned (.bool (decide (n∈l)))/\w=w':=by
 refine AF func83 rfl ntmps83<|A4<|A8 rfl<|A4<|A3 rfl<|A3 rfl<|Bf BQ rfl rfl ((US p l c n _ h hl)) (λk d a=>?_)
 obtain ⟨b,rfl⟩:=a
 refine A1 (.geq rfl rfl)<|A8 rfl<|AY ?_
 exact ⟨EO (BH Value.bool b),rfl⟩
end
section
def Ns {α:Type} (p:α->Prop):List α->Prop
 | []=>True
 | a::r=>p a/\Ns p r
theorem Ns.mem {α:Type} {p:α->Prop}:∀ {l:List α},Ns p l->∀ a∈l,p a
 | [],_,_,h=>by cases h
 | b::r,h,a,ha=>by
  rcases A7.1 ha with rfl | ha
  · exact h.1
  · exact Ns.mem h.2 a ha
theorem Sg {α:Type} {p:α->Prop}:∀ {l:List α},(∀ a∈l,p a)->Ns p l
 | [],_=>trivial
 | b::r,h=>⟨h b (by simp),Sg λa ha=>h a (by simp [ha])⟩
structure Sp where
 i:Nat
 d:Nat
 ds:List (Nat × Nat)
 p:Value->World->Prop
 a:Bool:=false
def ZJ:Value->Nat
 | .pointer (some a)=>a.block
 | _=>0
def phi:List Sp->Nat->Value->World->Prop
 | [],_=>λ_ _=>False
 | s::r,j=>bif Nat.beq s.i j then s.p else phi r j
def V0:List (Nat × Nat)->Nat->Bool
 | [],_=>false
 | s::r,j=>bif Nat.beq s.1 j then true else V0 r j
def Tu (ops:Array Oper) (i:Nat):List Nat:=match ops[i]? with
 | none=>[]
 | some o=>(o.after.toList.filter λe=>Region.binds .any e).map (·.on)
def trE (ops:Array Oper) (L:Array Bool):Nat->Nat->List Nat
 | 0,_=>[]
 | n+1,i=>(Tu ops i).flatMap λj=>bif L.getD j false then [] else j::trE ops L n j
def UX (sp:List Sp):List (Nat × Nat):=sp.map λs=>(s.i,s.d)
def P4 (ops:Array Oper) (L:Array Bool):List (Nat × Nat)->List (Nat × Nat)->Bool
 | _,[]=>true
 | a,s::r=>!V0 a s.1 && (a.all λt=>!Nat.beq t.2 s.2) && (Tu ops s.1).all (λj=>L.getD j false || V0 a j) && P4 ops L (s::a) r
def A3g (ops:Array Oper) (L:Array Bool) (f:List Nat) (sp:List (Nat × Nat × List (Nat × Nat))):Bool :=
 sp.all (λs=>((ops[s.1]?).bind (·.dst)) == some s.2.1 && !L.getD s.1 true && (f.all λt=>!Nat.beq t s.2.1) && s.2.2.all λt=>(Tu ops s.1).contains t.1 && sp.any λu=>Nat.beq u.1 t.1 && Nat.beq u.2.1 t.2) &&
 P4 ops L [] (sp.map λs=>(s.1,s.2.1)) &&
 (List.range ops.size).all λi=>L.getD i false || (sp.any λs=>Nat.beq s.1 i) || sp.all λs=>(trE ops L ops.size i).contains s.1
def Di (L:Array Bool):List Nat->Array Bool
 | []=>L
 | i::r=>Di (L.setIfInBounds i true) r
theorem VK :j∈Tu ops i↔∃ o,ops[i]?=some o/\∃ e∈o.after,Region.binds .any e=true/\e.on=j:=by
 unfold Tu
 cases h:ops[i]? with
 | none=>simp
 | some o=>simp [and_assoc]
theorem MZ  {L:Array Bool} (h:i∈Region.ready .any ops L):L.getD i true=false/\∀ j∈Tu ops i,L.getD j false=true:=by
 obtain ⟨b,o,ho,a⟩:=mem_ready.1 h
 refine ⟨b,λj hj=>?_⟩
 obtain ⟨o',ho',e,he,hb,rfl⟩:=VK.1 hj
 rw [ho] at ho'
 cases ho'
 exact a e he hb
theorem Nf  {L:Array Bool} {o:Oper} (ho:ops[i]?=some o) (h0:L.getD i true=false) (h:∀ j∈Tu ops i,L.getD j false=true):i∈Region.ready .any ops L :=
 mem_ready.2 ⟨h0,o,ho,λe he hb=>h _ (VK.2 ⟨o,ho,e,he,hb,rfl⟩)⟩
def DH (d:Nat) (v:Value) (g h:Fr):Prop:=look h d=some v/\∀ s u,s≠d->look g s=some u->look h s=some u
theorem YM  {g:Fr} (hs:ET f g) {s:Nat} (h:look g s=some u):look (f++g) s=some u:=by
 induction f with
 | nil=>exact h
 | cons p f ih =>
  obtain ⟨j,v⟩:=p
  show (bif Nat.beq j s then some v else look (f++g) s)=some u
  cases hb:Nat.beq j s with
  | true =>
   obtain rfl:j=s:=Bu hb
   rw [cond_true,<- h];exact hs.1.symm
  | false=>rw [cond_false];exact ih hs.2
theorem ZL  {g:Fr} (hs:ET f g) {s:Nat} (h:look (f++g) s=some u):look g s=some u:=by
 induction f with
 | nil=>exact h
 | cons p f ih =>
  obtain ⟨j,v⟩:=p
  have h:(bif Nat.beq j s then some v else look (f++g) s)=some u:=h
  cases hb:Nat.beq j s with
  | true =>
   obtain rfl:j=s:=Bu hb
   rw [hb,cond_true] at h
   rw [<- h];exact hs.1
  | false=>rw [hb,cond_false] at h;exact ih hs.2 h
theorem NO.front {n:Sh} {g:Fr} {a:Act} (h:NO n g a) (hs:ET f g):NO n (f++g) a:=⟨h.1,h.2.1,λi v hv=>h.2.2 i v (ZL hs hv)⟩
theorem DH.front {d:Nat} {g:Fr} (hs:ET f g):DH d v g ((d,v)::(f++g)):=by
 refine ⟨?_,λs u a h=>?_⟩
 ·
  show (bif Nat.beq d d then some v else look (f++g) d)=some v
  rw [Nat.beq_refl,cond_true]
 ·
  show (bif Nat.beq d s then some v else look (f++g) s)=some u
  have hb:Nat.beq d s=false:=by
   cases hq:Nat.beq d s with
   | true=>exact Dp (Bu hq).symm a
   | false=>rfl
  rw [hb,cond_false];exact YM hs h
section
variable {P:Program} {n:Sh} {f g:Fr} {ops:Array Oper} {Q:Exit->Fr->World->Prop} {w:World} {fuel:Nat} {listed:Array Bool}
theorem WL.front {l:List Oper} (f:Fr) (hs:ET f g) (h:WL P n ops Q l (f++g) w):WL P n ops Q l g w:=by
 unfold WL at h ⊢
 exact λa ha=>h a (ha.front hs)
theorem WY.front (f:Fr) (hs:ET f g) (h:WY P n ops Q fuel listed (f++g) w):WY P n ops Q fuel listed g w:=by
 unfold WY at h ⊢
 exact λa ha=>h a (ha.front hs)
theorem TN:∀ {rs:List Nat},(∀ i∈rs,∃ o,ops[i]?=some o/\WL P n ops (nx (λf' w'=>WY P n ops Q fuel (listed.setIfInBounds i true) f' w') Q) [o] f w)->ME P n ops Q fuel listed f w rs
 | [],_=>trivial
 | j::r,h=>⟨h j (by simp),TN λi hi=>h i (by simp [hi])⟩
def Stp (P:Program) (n:Sh) (ops:Array Oper) (Q:Exit->Fr->World->Prop) (f0:Fr) (w:World) (sp:List Sp) (s:Sp):Prop :=
 ∀ (K:Fr->World->Prop) (g:Fr) (w1:World),ET f0 g->AL w w1->Ns (λt:Nat × Nat=>∃ v,look g t.2=some v/\phi sp t.1 v w1) s.ds ->
  (∀ v h w2,DH s.d v g h->s.p v w2->AL w1 w2->(s.a=true->w1.heap.size<=ZJ v)->K h w2)->∃ o,ops[s.i]?=some o/\WL P n ops (nx K Q) [o] g w1
theorem Oh {L:Array Bool} (h:L.getD i false=true):L.getD i true=true:=by
 rw [AD] at h ⊢
 cases hh:L[i]? with
 | none=>rfl
 | some b=>rw [hh] at h;exact h
theorem A1d {L:Array Bool} (h:L.getD i true=false):i<L.size:=by
 rcases By i L.size with a | a
 · exact a
 · rw [AD,Ef a] at h;cases h
theorem Jl:∀ (l:List Nat) (L:Array Bool) (i:Nat),Di L (l++[i])=(Di L l).setIfInBounds i true
 | [],_,_=>rfl
 | j::r,L,i=>by rw [Bh,Di,Jl r];rfl
theorem Y9 {L:Array Bool}:(L.setIfInBounds i true).setIfInBounds j true=(L.setIfInBounds j true).setIfInBounds i true:=by
 by_cases h:i=j
 · subst h;rfl
 · exact Array.setIfInBounds_comm _ _ h
theorem RR {l m:List Nat} (h:l.Perm m):∀ L:Array Bool,Di L l=Di L m:=by
 induction h with
 | nil=>exact λ_=>rfl
 | cons a _ ih=>exact λL=>ih _
 | swap a b l=>exact λL=>by rw [Di,Di,Di,Di,Y9]
 | trans _ _ h1 h2=>exact λL=>(h1 L).trans (h2 L)
theorem NI:∀ {l:List Nat} {L:Array Bool} {j:Nat},j∈l->j<L.size->(Di L l).getD j false=true
 | i::r,L,j,hj,hs=>by
  rcases A7.1 hj with rfl | hj
  ·
   have:∀ (r:List Nat) (L:Array Bool),L.getD j false=true->(Di L r).getD j false=true:=by
    intro r
    induction r with
    | nil=>exact λ_ h=>h
    | cons a r ih=>exact λL h=>ih _ (getD_set_true h)
   exact this r _ (by simp [hs])
  ·
   show (Di (L.setIfInBounds i true) r).getD j false=true
   exact NI hj (by simpa using hs)
theorem K5:∀ {l:List Nat} {L:Array Bool} {j:Nat},L.getD j false=true->(Di L l).getD j false=true
 | [],_,_,h=>h
 | i::r,L,j,h=>show (Di (L.setIfInBounds i true) r).getD j false=true from K5 (getD_set_true h)
theorem Ha:∀ {l:List Nat} {L:Array Bool} {j:Nat} {b:Bool},j ∉ l->(Di L l).getD j b=L.getD j b
 | [],_,_,_,_=>rfl
 | i::r,L,j,b,h=>by
  rw [Di,Ha (λq=>h (by simp [q])),getD_set_ne b (λq=>h (by simp [q]))]
theorem Tg:∀ {a:List (Nat × Nat)} {j:Nat},V0 a j=true->∃ s∈a,s.1=j
 | s::r,j,h=>by
  have h:(bif Nat.beq s.1 j then true else V0 r j)=true:=h
  cases hb:Nat.beq s.1 j with
  | true=>exact ⟨s,by simp,Bu hb⟩
  | false =>
   rw [hb,cond_false] at h
   obtain ⟨t,h1,h2⟩:=Tg h
   exact ⟨t,by simp [h1],h2⟩
theorem T9:∀ {a:List (Nat × Nat)} {s:Nat × Nat},s∈a->V0 a s.1=true
 | t::r,s,h=>by
  show (bif Nat.beq t.1 s.1 then true else V0 r s.1)=true
  rcases A7.1 h with rfl | h
  · rw [Nat.beq_refl,cond_true]
  · rw [T9 h];cases Nat.beq t.1 s.1 <;> rfl
theorem QQ {L0 L:Array Bool} {done:List Nat}:∀ {l a:List (Nat × Nat)},P4 ops L0 a l=true->(∀ j,L0.getD j false=true->L.getD j false=true)->(∀ j∈done,L.getD j false=true)->(∀ s∈a,s.1∈done)->(∃ s∈l,s.1 ∉ done) ->
    ∃ s∈l,s.1 ∉ done/\∀ j∈Tu ops s.1,L.getD j false=true
  | [],_,_,_,_,_,⟨_,h,_⟩=>by cases h
  | s::r,a,h,h0,h1,ha,he=>by
    simp only [P4,AG] at h
    by_cases hs:s.1∈done
    · obtain ⟨t, ht, htn⟩ := he
      obtain ⟨u,hu,hun,hue⟩:=QQ (l:=r) (a:=s::a) h.2 h0 h1 (λx hx=>by
        rcases A7.1 hx with rfl | hx
        · exact hs
        · exact ha x hx) ⟨t,(A7.1 ht).resolve_left (λe=>htn (e▸hs)),htn⟩
      exact ⟨u,by simp [hu],hun,hue⟩
    · refine ⟨s, by simp, hs, fun j hj => ?_⟩
      have:=AP.1 h.1.2 j hj
      rw [CD] at this
      rcases this with h3 | h3
      · exact h0 j h3
      · obtain ⟨t, ht, rfl⟩ := Tg h3
        exact h1 _ (ha t ht)
theorem QR {L0:Array Bool}:∀ {l a:List (Nat × Nat)},P4 ops L0 a l=true->(∀ s∈l,∀ t∈a,s.1≠t.1/\s.2≠t.2)/\l.Pairwise (λs t=>s.1≠t.1/\s.2≠t.2)
  | [],_,_=>⟨(λ_ h=>by cases h),List.Pairwise.nil⟩
  | s::r,a,h=>by
    simp only [P4,AG] at h
    obtain ⟨⟨⟨h1,h2⟩,-⟩,h4⟩:=h
    obtain ⟨i1,i2⟩:=QR h4
    have hs:∀ t∈a,s.1≠t.1/\s.2≠t.2:=λt ht=>⟨(λe=>by rw [e,T9 ht] at h1;cases h1),(λe=>by
      have:=AP.1 h2 t ht
      rw [e,Nat.beq_refl] at this;cases this)⟩
    refine ⟨λt ht u hu=>?_,List.Pairwise.cons (λt ht=>?_) i2⟩
    · rcases A7.1 ht with rfl | ht
      · exact hs u hu
      · exact i1 t ht u (by simp [hu])
    · have := i1 t ht s (by simp)
      exact ⟨this.1.symm,this.2.symm⟩
theorem Rz {l:List Sp} (h:(UX l).Pairwise (λs t=>s.1≠t.1/\s.2≠t.2)) {s t:Sp} (hs:s∈l) (ht:t∈l):s=t\/(s.i≠t.i/\s.d≠t.d):=by
 induction l with
 | nil=>cases hs
 | cons a r ih =>
  rw [show UX (a::r)=(a.i,a.d)::UX r from rfl,List.pairwise_cons] at h
  rcases A7.1 hs with b | b <;> rcases A7.1 ht with c | c
  · exact .inl (b.trans c.symm)
  · subst b;exact .inr (h.1 (t.i,t.d) (Ee.2 ⟨t,c,rfl⟩))
  ·
   subst c
   have:=h.1 (s.i,s.d) (Ee.2 ⟨s,b,rfl⟩)
   exact .inr ⟨this.1.symm,this.2.symm⟩
  · exact ih h.2 b c
theorem A2p {l:List Sp} (h:(UX l).Pairwise (λs t=>s.1≠t.1/\s.2≠t.2)) {s:Sp} (hs:s∈l):phi l s.i=s.p:=by
 induction l with
 | nil=>cases hs
 | cons a r ih =>
  rw [show UX (a::r)=(a.i,a.d)::UX r from rfl,List.pairwise_cons] at h
  show (bif Nat.beq a.i s.i then a.p else phi r s.i)=s.p
  rcases A7.1 hs with b | b
  · subst b;rw [Nat.beq_refl,cond_true]
  ·
   have hb:Nat.beq a.i s.i=false:=by
    cases hq:Nat.beq a.i s.i with
    | true=>exact Dp (Bu hq) (h.1 (s.i,s.d) (Ee.2 ⟨s,b,rfl⟩)).1
    | false=>rfl
   rw [hb,cond_false];exact ih h.2 b
theorem U1 {L0 L:Array Bool} (hcl:∀ j,L.getD j false=true->L0.getD j false=false->∀ e∈Tu ops j,L.getD e false=true):∀ (m i:Nat),(∀ e∈Tu ops i,L.getD e false=true)->∀ j∈trE ops L0 m i,L.getD j false=true
 | 0,_,_,_,h=>by cases h
 | m+1,i,he,j,h=>by
  obtain ⟨x,hx,hj⟩:=List.mem_flatMap.1 h
  cases hl:L0.getD x false with
  | true=>rw [hl,cond_true] at hj;cases hj
  | false =>
   rw [hl,cond_false] at hj
   rcases A7.1 hj with rfl | hj
   · exact he _ hx
   · exact U1 hcl m x (hcl x (he x hx) hl) j hj
theorem JA (f0:Fr) (sp:List Sp) (k:Nat) (hf:ET f0 f) (hfu:fuel=sp.length+k) (hok:A3g ops listed (f0.map (·.1)) (sp.map λs=>(s.i,s.d,s.ds))=true)
  (hmono:Ns (λs:Sp=>(∀ v w1 w2,s.p v w1->AL w1 w2->s.p v w2)/\(s.a=true->∀ v w1,s.p v w1->ZJ v<w1.heap.size)) sp) (hstep:Ns (Stp P n ops Q f0 w sp) sp)
  (hend:∀ g w1,ET f0 g->AL w w1->Ns (λs:Sp=>∃ v,look g s.d=some v/\s.p v w1) sp->(∀ (i j:Nat) (s t:Sp),sp[i]?=some s->sp[j]?=some t->s.a=true->t.a=true->s.i≠t.i->∀ v u,look g s.d=some v->look g t.d=some u->ZJ v≠ZJ u)->WY P n ops Q k (Di listed (sp.map (·.i))) g w1):WY P n ops Q fuel listed f w:=by
 simp only [A3g,AG,List.all_map,List.map_map] at hok
 obtain ⟨⟨a9,G⟩,aa⟩:=hok
 have G:P4 ops listed [] (UX sp)=true:=G
 have E:=(QR G).2
 have D:∀ s∈sp,((ops[s.i]?).bind (·.dst))=some s.d/\listed.getD s.i true=false/\(∀ p∈f0,p.1≠s.d)/\∀ t∈s.ds,t.1∈Tu ops s.i/\∃ u∈sp,u.i=t.1/\u.d=t.2:=λs hs=>by
  have h:=AP.1 a9 s hs;simp only [Function.comp,AG,BE,beq_iff_eq] at h;obtain ⟨⟨⟨A,B⟩,h3⟩,h4⟩:=h;refine ⟨A,B,λp hp e=>?_,λt ht=>?_⟩
  · have:=AP.1 h3 p hp;simp only [Function.comp,BE] at this;rw [e,Nat.beq_refl] at this;cases this
  · have:=AP.1 h4 t ht;simp only [AG,List.contains_iff_mem,List.any_map,List.any_eq_true,Function.comp] at this;obtain ⟨C,u,hu,F,h7⟩:=this;exact ⟨C,u,hu,Bu F,Bu h7⟩
 have main:∀ (m:Nat) (done todo:List Nat) (g:Fr) (w1:World),todo.length=m->(done++todo).Perm (sp.map (·.i))->(∀ p∈f0,look g p.1=some p.2)->AL w w1 ->
   (∀ s∈sp,s.i∈done->∃ v,look g s.d=some v/\s.p v w1)->(∀ j∈done,∀ e∈Tu ops j,(Di listed done).getD e false=true)->(∀ s∈sp,∀ t∈sp,s.i∈done->t.i∈done->s.a=true->t.a=true->s.i≠t.i->∀ v u,look g s.d=some v->look g t.d=some u->ZJ v≠ZJ u)->WY P n ops Q (m+k) (Di listed done) g w1:=by
  intro m
  induction m with
  | zero =>
   intro done todo g w1 hm hp hg hB hd X Y;obtain rfl:=Dg hm;rw [Fu] at hp;rw [RR hp,D5];refine hend g w1 ?_ hB (Sg λs hs=>hd s hs (hp.mem_iff.2 (Ee.2 ⟨s,hs,rfl⟩))) (λi j s t hs ht=>Y s (List.mem_of_getElem? hs) t (List.mem_of_getElem? ht) (hp.mem_iff.2 (Ee.2 ⟨s,List.mem_of_getElem? hs,rfl⟩)) (hp.mem_iff.2 (Ee.2 ⟨t,List.mem_of_getElem? ht,rfl⟩)));have:∀ l:Fr,(∀ p∈l,look g p.1=some p.2)->ET l g:=by
    intro l
    induction l with
    | nil=>exact λ_=>trivial
    | cons p l ih=>exact λh=>⟨h p (by simp),ih λq hq=>h q (by simp [hq])⟩
   exact this f0 hg
  | succ m ih =>
   intro done todo g w1 hm hp hg hB hd X Y;have ab:ET f0 g:=by
    have:∀ l:Fr,(∀ p∈l,look g p.1=some p.2)->ET l g:=by
     intro l
     induction l with
     | nil=>exact λ_=>trivial
     | cons p l ih=>exact λh=>⟨h p (by simp),ih λq hq=>h q (by simp [hq])⟩
    exact this f0 hg
   have ac:(done++todo).Nodup:=hp.nodup_iff.2 (by
    have:=List.pairwise_map.1 (show (sp.map λs=>(s.i,s.d)).Pairwise _ from E);exact List.pairwise_map.2 (this.imp λh=>h.1))
   have H:∀ j,j∈done++todo->∃ s∈sp,s.i=j:=λj hj=>by
    obtain ⟨s,hs,e⟩:=Ee.1 (hp.mem_iff.1 hj);exact ⟨s,hs,e⟩
   have a6:∀ j∈done,(Di listed done).getD j false=true:=λj hj=>by
    obtain ⟨s,hs,rfl⟩:=H j (by simp [hj]);exact NI hj (A1d (D s hs).2.1)
   have Z:∀ j∈todo,j ∉ done:=λj hj hd=>(List.nodup_append.1 ac).2.2 j hd j hj rfl
   obtain ⟨t0,J⟩:∃ t,t∈todo:=by
    cases todo with
    | nil=>cases hm
    | cons a r=>exact ⟨a,by simp⟩
   have K:(Region.ready .any ops (Di listed done)).isEmpty=false:=by
    obtain ⟨V,M,e0⟩:=H t0 (by simp [J]);obtain ⟨x,hx,ad,ae⟩:=QQ (L:=Di listed done) (done:=done) G (λj h=>K5 h) a6 (λ_ h=>by cases h) ⟨(V.i,V.d),Ee.2 ⟨V,M,rfl⟩,by rw [e0];exact Z t0 J⟩;obtain ⟨s,hs,rfl⟩:=Ee.1 hx;have A:=(D s hs).1;cases ho:ops[s.i]? with
    | none=>rw [ho] at A;cases A
    | some o =>
     have:=Nf (L:=Di listed done) ho (by rw [Ha ad];exact (D s hs).2.1) ae;cases hr:Region.ready .any ops (Di listed done) with
     | nil=>rw [hr] at this;cases this
     | cons _ _=>rfl
   rw [show m+1+k=(m+k)+1 by omega];refine Ri _ rfl K (TN λi hi=>?_);obtain ⟨N,a0⟩:=MZ hi;have af:i<ops.size:=by
    obtain ⟨-,o,ho,-⟩:=mem_ready.1 hi;exact (B5.1 ho).1
   have a8:∀ j,(Di listed done).getD j false=true->listed.getD j false=false->∀ e∈Tu ops j,(Di listed done).getD e false=true:=λj A B=>by
    by_cases hj:j∈done
    · exact X j hj
    · rw [Ha hj,B] at A;cases A
   have O:i∈todo:=by
    have h:=AP.1 aa i (List.mem_range.2 af);simp only [CD,List.any_map,List.any_eq_true,Function.comp] at h;rcases h with (h | ⟨s,hs,h⟩) | h
    · rw [Oh (K5 h)] at N;cases N
    ·
     obtain rfl:=Bu h;rcases Bj.1 (hp.mem_iff.2 (Ee.2 ⟨s,hs,rfl⟩)) with A | A
     · rw [Oh (a6 _ A)] at N;cases N
     · exact A
    · exfalso;obtain ⟨V,M,e0⟩:=H t0 (by simp [J]);have A:=AP.1 h V M;simp only [Function.comp,List.contains_iff_mem] at A;have B:=Oh (U1 a8 _ i a0 _ A);rw [Ha (by rw [e0];exact Z t0 J),(D V M).2.1] at B;cases B
   obtain ⟨s,hs,rfl⟩:=H i (by simp [O]);have ag:=Z _ O;obtain ⟨o,ho,hw⟩:=hstep.mem s hs (λf' w'=>WY P n ops Q (m+k) ((Di listed done).setIfInBounds s.i true) f' w') g w1 ab hB (Sg λt ht=>by
    obtain ⟨A,u,hu,B,h3⟩:=(D s hs).2.2.2 t ht;have ah:u.i∈done:=by
     have:=a0 _ (B▸A);rw [B] at this
     by_cases hq:u.i∈done
     · exact hq
     · rw [<- B,Ha hq] at this;have C:=(D u hu).2.1;rw [Oh this] at C;cases C
    obtain ⟨v,hv,a1⟩:=hd u hu ah;exact ⟨v,h3▸hv,by rw [<- B,A2p E hu];exact a1⟩) (λv h w2 hx a1 hb ai=>by
    have aj:((done++[s.i])++todo.erase s.i).Perm (sp.map (·.i)):=by
     rw [AS];exact (List.Perm.append_left done (List.perm_cons_erase O).symm).trans hp
    have:=ih (done++[s.i]) (todo.erase s.i) h w2 (by rw [List.length_erase_of_mem O];omega) aj (λp hp=>hx.2 _ _ ((D s hs).2.2.1 p hp) (hg p hp)) (Ex hB (Below.mono hb hB.size)) (λt ht ak=>by
     rcases Bj.1 ak with A | A
     ·
      obtain ⟨u,hu,a2⟩:=hd t ht A;rcases Rz E ht hs with rfl | C
      · exact Dp A ag
      · exact ⟨u,hx.2 _ _ C.2 hu,(hmono.mem t ht).1 _ _ _ a2 hb⟩
     ·
      rcases Rz E ht hs with rfl | C
      · exact ⟨v,hx.1,a1⟩
      · exact Dp (Bl.1 A) C.1) (λj hj e he=>by
     rw [Jl];rcases Bj.1 hj with A | A
     · exact getD_set_true (X j A e he)
     · rw [Bl.1 A] at he;exact getD_set_true (a0 e he)) (λx a3 y R al a7 a4 T K a b ha hb1=>by
     have old:∀ z∈sp,z.i∈done++[s.i]->z.i≠s.i->z.a=true->∀ c,look h z.d=some c->z.i∈done/\look g z.d=some c/\ZJ c<w1.heap.size:=λz hz am U a5 c hc=>by
      have A:=(Bj.1 am).resolve_right (λq=>U (Bl.1 q));obtain ⟨u,hu,a2⟩:=hd z hz A;have C:=(Rz E hz hs).resolve_left (λq=>U (q▸rfl));have F:=hx.2 _ _ C.2 hu;rw [hc] at F;cases F;exact ⟨A,hu,(hmono.mem z hz).2 a5 _ _ a2⟩
     have new:∀ z∈sp,z.i=s.i->z.a=true->∀ c,look h z.d=some c->w1.heap.size<=ZJ c:=λz hz U a5 c hc=>by
      rcases Rz E hz hs with rfl | C
      · have F:=hx.1;rw [hc] at F;cases F;exact ai a5
      · exact Dp U C.1
     by_cases hxs:x.i=s.i
     ·
      have A:=new x a3 hxs a4 a ha;have B:=(old y R a7 (λq=>K (hxs.trans q.symm)) T b hb1).2.2
      omega
     ·
      have A:=old x a3 al hxs a4 a ha
      by_cases hys:y.i=s.i
      ·
       have B:=new y R hys T b hb1;have:=A.2.2
       omega
      · have B:=old y R a7 hys T b hb1;exact Y x a3 y R A.1 B.1 a4 T K a b A.2.1 B.2.1)
    rw [Jl] at this;exact this)
   exact ⟨o,ho,hw⟩
 subst hfu
 have h0:=main sp.length [] (sp.map (·.i)) f w (by simp) (List.Perm.refl _) (λp hp=>?_) (Fl _ _) (λ_ _ h=>by cases h) (λ_ h=>by cases h) (λ_ _ _ _ h=>by cases h)
 · exact h0
 ·
  have:∀ l:Fr,ET l f->∀ p∈l,look f p.1=some p.2:=by
   intro l
   induction l with
   | nil=>exact λ_ _ h=>by cases h
   | cons q l ih =>
    intro h p hp;rcases A7.1 hp with rfl | hp
    · exact h.1
    · exact ih h.2 p hp
  exact this f0 hf p hp
def UV (ops:Array Oper) (m:Nat):Bool:=(ops.toList.all λo=>o.guard.isNone) && ((List.range ops.size).all λi=>(Tu ops i).all λj=>Nat.blt j i) && (List.range m).all λi=>(trE ops #[] ops.size m).contains i
theorem J5 {L:Array Bool} {k:Nat}:(L.push false).getD k false=L.getD k false:=by
 rw [AD,AD,Array.getElem?_push]
 split
 · rename_i h;subst h;rw [Ef (DS _)];rfl
 · rfl
theorem LC {L:Array Bool} {k:Nat} (h:k<L.size):(L.push false).getD k true=L.getD k true:=by
 rw [AD,AD,Array.getElem?_push,A2 oO]
theorem TU {init:List Oper} {o:Oper} {Q0 Q1:Exit->Act->World->Prop} (hok:UV (init++[o]).toArray init.length=true) (hQ:∀ e a w,e≠.normal->Q1 e a w->Q0 e a w)
    (hN:∀ a w,Q1 .normal a w->wpOp P (init++[o]).toArray Q0 init.length (λa' w'=>Q0 .normal a' w') a w):∀ (fuel:Nat) (L:Array Bool) (a:Act) (w:World),L.size=init.length->(∀ j,L.getD j false=true->∀ e∈Tu (init++[o]).toArray j,L.getD e false=true) ->
      wpAny P .any init.toArray Q1 fuel L a w->wpAny P .any (init++[o]).toArray Q0 (fuel+1) (L.push false) a w:=by
  simp only [UV,AG] at hok
  obtain ⟨⟨hg,s⟩,t⟩:=hok
  have E:(init++[o]).toArray.size=init.length+1:=by simp
  have back:∀ j,j<=init.length->∀ e∈Tu (init++[o]).toArray j,e<j:=λj hj e he=>by
    have d:=AP.1 (AP.1 s j (List.mem_range.2 oO)) e he
    simpa using d
  have lst:∀ (L:Array Bool),L.size=init.length->(∀ j,L.getD j false=true->∀ e∈Tu (init++[o]).toArray j,L.getD e false=true)->init.length∈Region.ready .any (init++[o]).toArray (L.push false)->∀ j<init.length,L.getD j false=true:=by
    intro L hL g hr j hj
    have d:=(MZ hr).2
    have c:=AP.1 t j (List.mem_range.2 hj)
    simp only [List.contains_iff_mem] at c
    exact U1 (L0:=#[]) (L:=L) (λj hl _=>g j hl) _ _ (λe he=>by rw [<- J5];exact d e he) j c
  have rdy:∀ (L:Array Bool) (j:Nat),L.size=init.length->j<init.length->(j∈Region.ready .any (init++[o]).toArray (L.push false)↔j∈Region.ready .any init.toArray L):=by
    intro L j hL hj
    rw [mem_ready,mem_ready,LC oO,List.getElem?_toArray,List.getElem?_toArray,Fm hj]
    simp only [J5]
  have ft:∀ (L:Array Bool) (j:Nat),j<L.size->L.getD j true=L.getD j false:=λL j h=>by
    rw [AD,AD,Eo h];rfl
  have none:∀ (L:Array Bool),L.size=init.length->Region.ready .any (init++[o]).toArray (L.push false)≠[]:=by
    intro L hL k
    have b:∀ j,j<init.length->L.getD j false=true:=by
      intro j
      induction j using Nat.strongRecOn with
      | _ j ih =>
        intro hj
        cases hd:L.getD j false with
        | true=>rfl
        | false =>
          exfalso
          have u:(init++[o]).toArray[j]?=some (init[j]'hj):=by rw [List.getElem?_toArray,Fm hj,Ak hj]
          have:=Nf (L:=L.push false) u (by rw [LC oO,ft L j oO];exact hd) (λe he=>by
            have d:=back j oO e he
            rw [J5];exact ih e d oO)
          rw [k] at this;cases this
    have v:(init++[o]).toArray[init.length]?=some o:=by rw [List.getElem?_toArray];simp
    have:=Nf (L:=L.push false) v (by rw [AD,Array.getElem?_push,A5 hL.symm];rfl) (λe he=>by
      have d:=back init.length (DS _) e he
      rw [J5];exact b e d)
    rw [k] at this;cases this
  have fin:∀ (fuel:Nat) (L:Array Bool) (a:Act) (w:World),L.size=init.length->(∀ j<init.length,L.getD j false=true)->Q1 .normal a w->wpOp P (init++[o]).toArray Q0 init.length (wpAny P .any (init++[o]).toArray Q0 fuel ((L.push false).setIfInBounds init.length true)) a w:=by
    intro fuel L a w hL b hq
    refine wpOp_mono (λa' w' h=>wpAny_done ?_ h fuel) (hN a w hq)
    cases hr:Region.ready .any (init++[o]).toArray ((L.push false).setIfInBounds init.length true) with
    | nil=>rfl
    | cons x r =>
      exfalso
      have hx:x∈Region.ready .any (init++[o]).toArray ((L.push false).setIfInBounds init.length true):=by rw [hr];simp
      obtain ⟨d,ox,f,-⟩:=mem_ready.1 hx
      have m:x<init.length+1:=by have:=(B5.1 f).1;omega
      rcases By x init.length with c | c
      · rw [getD_set_ne true oO,LC oO,ft L x oO,b x c] at d;cases d
      · obtain rfl : x = init.length := by omega
        rw [AD] at d
        simp [hL] at d
  have em:∀ (L:Array Bool) (a:Act) (w:World) (fuel:Nat),L.size=init.length->(∀ j<init.length,L.getD j false=true)->wpAny P .any init.toArray Q1 fuel L a w->Q1 .normal a w:=by
    intro L a w fuel hL b h
    have k:Region.ready .any init.toArray L=[]:=by
      cases hr:Region.ready .any init.toArray L with
      | nil=>rfl
      | cons x r =>
        exfalso
        have hx:x∈Region.ready .any init.toArray L:=by rw [hr];simp
        obtain ⟨d,ox,f,-⟩:=mem_ready.1 hx
        have m:x<init.length:=by have:=(B5.1 f).1;simpa using this
        rw [ft L x oO,b x m] at d;cases d
    cases fuel with
    | zero=>exact h.2
    | succ fuel=>exact h.1 k
  intro fuel
  induction fuel with
  | zero =>
    intro L a w hL g h
    refine ⟨λk=>Dp k (none L hL),λi hi=>?_⟩
    rcases By i init.length with c | c
    · have := (rdy L i hL c).1 hi
      rw [h.1] at this;cases this
    · have y : i < init.length + 1 := by
        obtain ⟨-,ox,f,-⟩:=mem_ready.1 hi
        have:=(B5.1 f).1;omega
      obtain rfl:i=init.length:=by omega
      have b:=lst L hL g hi
      exact fin 0 L a w hL b (em L a w 0 hL b h)
  | succ fuel ih =>
    intro L a w hL g h
    refine ⟨λk=>Dp k (none L hL),λi hi=>?_⟩
    rcases By i init.length with c | c
    · have l := h.2 i ((rdy L i hL c).1 hi)
      have A:=(MZ hi).2
      have C:init.toArray[i]?=some (init[i]'c):=by rw [List.getElem?_toArray,Ak c]
      have D:(init++[o]).toArray[i]?=some (init[i]'c):=by rw [List.getElem?_toArray,Fm c,Ak c]
      have B:(init[i]'c).guard=Option.none:=by
        have:=AP.1 hg (init[i]'c) (by simp)
        simpa using this
      have hK:∀ a' w',wpAny P .any init.toArray Q1 fuel (L.setIfInBounds i true) a' w'->wpAny P .any (init++[o]).toArray Q0 (fuel+1) ((L.push false).setIfInBounds i true) a' w':=λa' w' q=>by
        have:=ih (L.setIfInBounds i true) a' w' (by simpa using hL) (λj hj e he=>by
          by_cases hji:i=j
          · subst hji
            have:=A e he
            rw [J5] at this
            exact getD_set_true this
          · rw [getD_set_ne false hji] at hj
            exact getD_set_true (g j hj e he)) q
        rwa [show (L.setIfInBounds i true).push false=(L.push false).setIfInBounds i true by
          apply Array.ext'
          rw [Array.toList_push,Array.toList_setIfInBounds,Array.toList_setIfInBounds,Array.toList_push,List.set_append_left _ _ (by rw [Array.length_toList];omega)]] at this
      unfold wpOp at l ⊢
      simp only [C] at l
      simp only [D]
      rw [A5 (by simp [Region.wanted,B])] at l ⊢
      rcases l with l | ⟨l,a',w',q⟩
      · exact .inl (MK (Oper.wp_mono hK l) λe a w he h=>hQ e a w he h)
      · exact .inr ⟨l,a',w',hQ _ _ _ (by simp) q⟩
    · have y : i < init.length + 1 := by
        obtain ⟨-,ox,f,-⟩:=mem_ready.1 hi
        have:=(B5.1 f).1;omega
      obtain rfl:i=init.length:=by omega
      have b:=lst L hL g hi
      exact fin (fuel+1) L a w hL b (em L a w (fuel+1) hL b h)
theorem Sc  {l:List Oper} {o:Oper} (N:Nat) (hl:l=l.dropLast++[o]) (hN:l.dropLast.length=N) (hm:P.follows .mixedOrders=true) (hok:UV l.toArray N=true) (S:World->Prop)
  (h:∀ w1,Cn w w1->WH P n l.dropLast.toArray (nx (λf' w'=>WL P n l.toArray Q [o] f' w') Q) S N (Array.replicate N false) f w1):W P n (.region id l.toArray true) Q f w:=by
 unfold W
 intro a ha
 generalize hi:l.dropLast=init at *
 subst hl
 subst hN
 refine wp_region_any hm ?_
 have g:=h (w.drewN 1) ⟨1,rfl⟩
 unfold WH at g
 have c:=wpAny_of_held _ _ _ _ (g a ha)
 have d:=TU (Q0:=Io n Q) hok (λe a w he hq=>by
  obtain ⟨f',hr,hq⟩:=hq
  cases e with
  | normal=>exact Dp rfl he
  | _=>exact ⟨f',hr,hq⟩) (λa w hq=>by
  obtain ⟨f',hr,hq⟩:=hq
  have hq:WL P n (init++[o]).toArray Q [o] f' w:=hq
  unfold WL at hq
  have b:=hq a hr
  unfold wpOp
  rw [show (init++[o]).toArray[init.length]?=some o by rw [List.getElem?_toArray];simp]
  unfold wpList at b
  split at b
  · next hw=>simp only [hw,if_true];exact b.imp (λh=>by simpa [wpList] using h) (λ⟨c,a',w',d⟩=>⟨c,a',w',d⟩)
  ·
   next hw=>simp only [hw];simpa [wpList] using b) init.length (Array.replicate init.length false) a (w.drewN 1) (by simp) (λj hj=>by
   rw [AD] at hj
   rcases By j init.length with h | h
   · rw [Eo (by simpa using h)] at hj;simp at hj
   · rw [Ef (by simpa using h)] at hj;cases hj) c
 rw [show (init++[o]).toArray.size=init.length+1 by simp,show Array.replicate (init.length+1) false=(Array.replicate init.length false).push false from Array.replicate_succ]
 exact d
end
end
section
section
variable {P:Program} {n:Sh} {f:Fr}
theorem Qq  {t:TypeId} {i:TypeInfo} {by':Nat} (ht:P.underlying t=some (.slice e)) (hi:P.info? e=some i) (hz:i.zero=some z) (hsize:i.size=1) (hby:i.bytes=by') (hby2:by'<=16) (hzs:z.cells.size=1)
 {m:Nat} (hown:w.ownsRow B e 1 v m xs) {a:Addr} (hnews:∀ j y,[u][j]?=some y->w.cell? (a.add j)=some y) (h1:u.oneCell'=true) (hm:m<=1000000000) {v':Value} {w':World}
    (hr:(Builtin.append_ #[t,t] ty #[v,.slice (some a) 1 c]).run P w=.ok v' w'):∀ g,v'.ownBlock=some g->v.ownBlock=some g\/w.heap.size<=g:=by
  have q:(m+1) * by'<=(m+1) * 16:=Nat.mul_le_mul_left _ hby2
  rcases hown.2 with ⟨rfl,rfl⟩ | ⟨g,cap,cur,rfl,s,hg,x,A,h,l⟩
  · have hx : xs = [] := Dg (by simpa using hown.1)
    subst hx
    obtain ⟨C,D,b,o,-,-⟩:=run_append_own (P:=P) (w:=w) w.heap.size t ty e i z 1 by' ht hi hz hsize hby hzs dD (.slice none 0 0) 0 [] (World.ownsRow_nil w w.heap.size e 1) a 1 c [u] rfl hnews (by simpa using h1) (by unfold maxLen;omega) oO (DS _)
    have he:=hr.symm.trans b
    simp only [Result.ok.injEq] at he
    obtain ⟨rfl,rfl⟩:=he
    intro g hg
    exact .inr (o.lt g hg).1
  · by_cases hroom : m + 1 ≤ cap
    · have f : m * i.size + [u].length ≤ cur.size := by rw [hsize]; have : cur.size = cap * 1 := h; simp; omega
      have b:=run_append_room (P:=P) w t ty e i ht hi g m cap cur hg a 1 c [u] (by rw [hsize];rfl) hnews (by simpa using h1) hroom f
      have he:=hr.symm.trans b
      simp only [Result.ok.injEq] at he
      obtain ⟨rfl,rfl⟩:=he
      intro k hk
      exact .inl (by simpa [Value.ownBlock] using hk)
    · have d : ∀ j u, xs[j]? = some u → w.cell? ((⟨g, 0, none⟩ : Addr).add j) = some u := hown.cells (g := g) rfl
      have b:=run_append_grow (P:=P) w t ty e i z ht hi hz ⟨g,0,none⟩ m cap xs (by rw [hsize];exact hown.1) d a 1 c [u] (by rw [hsize];rfl) hnews oO oO (growslice_fits oO (by rw [hby];omega))
      have he:=hr.symm.trans b
      simp only [Result.ok.injEq] at he
      obtain ⟨rfl,rfl⟩:=he
      intro k hk
      simp only [Value.ownBlock,BK] at hk
      exact .inr oO
theorem ZS  {rest:List Oper} {d ty:Nat} {s:Operand} {t:TypeId} {b by':Nat}
    (ht:P.underlying t=some (.slice e)) (hi:(P.info? e).map (λi=>(i.zero,i.size,i.bytes))=some (some z,1,by')) (hby2:Nat.ble by' 16=true) (hzs:z.cells.size=1)
    (hs:CE f s=some v) (hown:CF e B w v xs) (hx:CE f x=some (.slice (some ⟨b,0,none⟩) 1 c)) (hb:B4 w b #[u] tb) (h1:u.oneCell'=true)
    (hn:xs.length<=1000000000) (hB:B<=w.heap.size) (hd:Nat.blt d n.n=true)
    (k:∀ v' w',CF e B w' v' (xs++[u])->Below B w w'->w.grownBy w' v.ownBlock->(∀ g,v'.ownBlock=some g->v.ownBlock=some g\/w.heap.size<=g)->WL P n ops Q rest ((d,v')::f) w') :
    WL P n ops Q (⟨some d,.call ⟨.builtin .append,#[s,x],#[t,t]⟩,ty,pos,aft,none⟩::rest) f w:=by
  cases hh:P.info? e with
  | none=>rw [hh] at hi;cases hi
  | some i =>
    rw [hh] at hi;simp only [Option.map_some,BK,Co] at hi;obtain ⟨hz,a,o⟩:=hi;have m:by'<=16:=by simpa using hby2
    have l:∀ j y,[u][j]?=some y->w.cell? ((⟨b,0,none⟩:Addr).add j)=some y:=λj y hj=>by
      have C:j=0:=by
        rcases I1 j with h | h
        · exact h
        · rw [AZ (by simp;omega)] at hj;cases hj
      subst C;simp only [List.getElem?_cons_zero,BK] at hj;subst hj;rw [EM,hb.cell 0];rfl
    have G:(xs.length+1) * by'<=(xs.length+1) * 16:=Nat.mul_le_mul_left _ m
    obtain ⟨v',w',q,D,A,-⟩:=run_append_own (P:=P) (w:=w) B t ty e i z 1 by' ht hh hz a o hzs dD v xs.length xs hown ⟨b,0,none⟩ 1 c [u] rfl l (by simpa using h1) (by unfold maxLen;omega) oO hB
    have E:=Qq (P:=P) ht hh hz a o m hzs hown l h1 hn q;refine WL.run hd (w':=w') (v:=v') (λρ hρ=>?_) (k v' w' ?_ ((Fl _ _).grown A hB λk hk=>(hown.lt k hk).1) A E)
    · unfold execOp
      simp only [resolve,invoke,builtin,Cd,D4,BW,List.map_toArray,Ev,Fz,hρ _ _ hs,hρ _ _ hx,q]
    · have F : (xs ++ [u]).length = xs.length + 1 := by simp
      unfold CF;rw [F];exact D
end
end
section
theorem Kk  {C r:Nat} {S:List Nat} {a b:World} (h:B8 B r a b) (hr:r∈S) (hC:C<=B):B9 C S a b:=⟨h.os,h.tape,h.output,h.size,λi hi hS=>h.block i oO (λe=>hS (e▸hr))⟩
theorem LQ.below  {bf:Nat} {sv:Value} {Q:ι->Option Addr->Nat->Nat->World->Prop} {a:(Int × Int) × ι} (h:LQ wk bf sv Q a w) (hb:AL w w1):LQ wk bf sv Q a w1:=by
 obtain ⟨v,x,b,c,d,e,L,M,f,g⟩:=h
 exact ⟨v,x,b.below hb b.lt,AO.below c hb,d,e,L,M,f,g.same λk _ hk=>hb.block k hk⟩
theorem W6 (w:World) (S:Nat->Prop) (k n:Int) (h:-9223372036854775808<=n/\n<=9223372036854775807):At w S (Cx (DR k n [])) (.mk k n [] [] [] []):=by
 have:=(BJ.zero w S k n []).rep (.mk _ _ _ _ _ h (by simp) (by simp) (by simp))
 rw [show Rg (IL k n [])=.mk k n [] [] [] [] by simp [IL,Rg,W5]] at this
 exact this
theorem A3C (k n:Int):Tryz.prog.built 27 [(0,Ag k),(1,Ag n)]=some (D3 (Cx (DR k n []))).toArray:=by kernel_rfl
theorem A04  {l:List Int} (h:CF e B w (.slice p l.length c) (l.map Qd)):AM A2s w p l:=(ZV (G5 h).rowp)
def ObL (N:Nat) (o:AV) (v:Value) (w:World):Prop:=∃ y:AC,v=.agg (D3 y).toArray/\At w (λq=>N<=q/\q<w.heap.size) y o
theorem ObL.up  {o:AV} (v:Value) (w w1:World) (h:ObL N o v w) (hb:AL w w1):ObL N o v w1:=by
 obtain ⟨y,a,b⟩:=h
 have hs:=hb.size
 exact ⟨y,a,(b.same λk hk hl=>hb.block k hl).mono λk h _=>⟨h.1,oO⟩⟩
theorem A06  {o:AV} (h:ObA w o v w1) (hN:N<=w.heap.size):ObL N o v w1:=by
 obtain ⟨z,a,b⟩:=h
 exact ⟨z,a,b.mono λk h hl=>⟨oO,hl⟩⟩
theorem Vy  {c0:AC} {b:Nat} {t:TypeId} (h:AA Fi w p [c0]) (h8:c0.kind=8) (hb:B4 w b (D3 (Cx (DR 0 0 []))).toArray t):(pA p).block≠b:=λe=>by
 have h1:=h.cells 0 (by simp) 0 dD
 rw [Nat.zero_mul,D5,EM] at h1
 have h2:(Fi.V [c0][0])[0]?=some (Ag 8):=by show some (Value.int .i64 c0.kind)=_;rw [h8]
 have c:=h1.trans h2
 generalize pA p=a at c e
 obtain ⟨b',o,sp⟩:=a
 obtain rfl:b'=b:=e
 unfold World.cell? at c
 unfold B4 at hb
 simp only [hb] at c
 cases sp with
 | some s=>simp at c
 | none=>match o,c with
  | 0,c=>cases c
  | 1,c=>cases c
  | 2,c=>cases c
  | 3,c=>cases c
  | 4,c=>cases c
  | 5,c=>cases c
  | n+6,c=>simp [D3] at c
def MB (N:Nat) (v:Value) (w:World):Prop:=∃ b,v=ptV b/\B4 w b (D3 (Cx (DR 0 0 []))).toArray 27/\N<=b
theorem MB.up  (v:Value) (w w1:World) (h:MB N v w) (hb:AL w w1):MB N v w1:=by
 obtain ⟨b,c,a,d⟩:=h
 exact ⟨b,c,a.below hb a.lt,d⟩
theorem MB.lt  (v:Value) (w:World) (h:MB N v w):ZJ v<w.heap.size:=by
 obtain ⟨b,rfl,a,-⟩:=h
 exact a.lt
theorem A0o  {b g:Nat} (h:v.ownBlock=some g):vb v b=g:=by unfold vb;rw [h];rfl
theorem OC {os:List AV} {o:AV} {k nm:l8_} {a b:Bool} (h:Gj os o k nm=.ok a) (h2:Gj os o k nm=.ok b):a=b:=by rw [h] at h2;exact Except.ok.inj h2
theorem Zo {os:List AV} {o:AV} {i:JE} (h:Ir os o) (hb:∀ u,i.box=some u->Ir os u) (hr:∀ u,i.res=some u->Ir os u):(∀ u,(Fg o i).box=some u->Ir os u)/\(∀ u,(Fg o i).res=some u->Ir os u):=by
 unfold Fg
 refine ⟨λu hu=>?_,λu hu=>?_⟩
 ·
  simp only at hu
  cases hk:De o TS with
  | none=>rw [hk] at hu;exact hb u hu
  | some v=>rw [hk] at hu;cases hu;exact h.key hk
 ·
  simp only at hu
  cases hk:De o TR with
  | none=>rw [hk] at hu;exact hr u hu
  | some v=>rw [hk] at hu;cases hu;exact h.key hk
theorem YQ  {v1:Value} (h:∀ g,v1.ownBlock=some g->v.ownBlock=some g\/N<=g):∀ g∈[wk,vb v1 wk],g∈[wk,vb v wk]\/N<=g:=λk hk=>by
 simp only [A7,A6,Ax] at hk ⊢
 rcases hk with rfl | rfl
 · exact .inl (.inl rfl)
 ·
  unfold vb
  cases ho:v1.ownBlock with
  | none=>exact .inl (.inl rfl)
  | some g =>
   rcases h g ho with h | h
   · rw [h];exact .inl (.inr rfl)
   · exact .inr h
theorem YR  {b:Nat} (h1:b≠wk) (h2:∀ g,v.ownBlock=some g->b≠g):b ∉ [wk,vb v wk]:=λhk=>by
 simp only [A7,A6,Ax] at hk
 rcases hk with hk | hk
 · exact h1 hk
 ·
  unfold vb at hk
  cases ho:v.ownBlock with
  | none=>rw [ho] at hk;exact h1 hk
  | some g=>rw [ho] at hk;exact h2 g ho hk
theorem RT  (h:∀ g,v.ownBlock=some g->wk+1<=g/\g<M):∀ k∈[wk,vb v wk],wk<=k:=λk hk=>by
 simp only [A7,A6,Ax] at hk
 rcases hk with rfl | rfl
 · exact DS _
 ·
  unfold vb
  cases ho:v.ownBlock with
  | none=>exact DS _
  | some g=>exact Nat.le_of_succ_le (h g ho).1
def A3Q {ι:Type} (wk bf:Nat) (sv:Value) (w:World) (Q:ι->Option Addr->Nat->Nat->World->Prop) (res:Except Int ((Int × Int) × ι)):Ending->World->Prop:=λe w' =>
 Hl 35 res (λa v w'=>v=Ag 1/\B9 w.heap.size [wk,vb sv wk] w w'/\∃ s,LQ wk bf s Q a w') (λw'=>Below wk w w') e w'
def Nq {ι:Type} (wk bf:Nat) (os:List AV) (n:Int) (i:JE) (dp:Int) (sl:List Int) (Q:ι->Option Addr->Nat->Nat->World->Prop) (res:Except Int ((Int × Int) × ι)):Prop :=
 ∀ (w:World) (ps:Option Addr) (cs:Nat) (p q:Option Addr),B4 w wk (TO bf (.slice ps sl.length cs) (.slice none 0 0)) 86->CF 3 (wk+1) w (.slice ps sl.length cs) (sl.map Qd)->AK (λk=>k<wk) w bf (Cw os) (Dl os) ->
  DB w (λk=>k≠wk/\(Value.slice ps sl.length cs).ownBlock≠some k) p q i->DM (λk=>k<wk) w ->
  Calls Tryz.prog 61 #[ptV wk,Ag n,.agg #[.pointer p,.pointer q],Ag dp] w (A3Q wk bf (.slice ps sl.length cs) w Q res)
def A4x {ι:Type} (wk bf:Nat) (os:List AV) (o:AV) (n:Int) (i:JE) (dp:Int) (sl:List Int) (it:l8_->List Nr->Except Int ι) (Q:ι->Option Addr->Nat->Nat->World->Prop) (res:Except Int ((Int × Int) × ι)):Prop :=
 (Gj os o FA [80,97,103,101]=.ok true/\∃ c r,De o Te=some c/\FL os 32 c=some r/\r.kind≠6/\(∀ B l fs,Ft os (Fg o i).res=.ok fs->IB r=.ok l->Sd B l fs (it l fs) Q)/\res=FY os r (Fg o i) it) \/
 (Gj os o FA [80,97,103,101]=.ok false/\Gj os o FA [80,97,103,101,115]=.ok true/\dp<32/\∃ k,IP os o [75,105,100,115] 6=.ok (.mk 6 0 [] [] [.mk 8 k [] [] [] []] [])/\IP os o [67,111,117,110,116] 2=.ok (.mk 2 1 [] [] [] [])/\Nq wk bf os k (Fg o i) (dp+1) (sl++[n]) Q res)
theorem Vr  (wk bf:Nat) (os:List AV) (H:Vl os) (o:AV) (n:Int) (i:JE) (dp:Int) (sl:List Int) (it:l8_->List Nr->Except Int ι) (Q:ι->Option Addr->Nat->Nat->World->Prop) (res:Except Int ((Int × Int) × ι))
  (hdp:0<=dp) (hn:n ∉ sl) (hn1:1<=n/\n<=os.length) (hsl:sl.length<=1000) (ho:F3 os (.mk 8 n [] [] [] []) 7=.ok o) (hib:∀ u,i.box=some u->Ir os u) (hir:∀ u,i.res=some u->Ir os u)
  (hO:A4x wk bf os o n i dp sl it Q res):Nq wk bf os n i dp sl Q res:=by
 intro w ps cs p q hk df hf hi hN
 have af:Ir os o:=(I2 H (Ir.ref hn1 H.objs.len) ho).1
 have N:=G5 df
 have a8:=N.lt
 have aM:=hk.lt
 have eM:DB w (λk=>k<w.heap.size/\k≠wk/\(Value.slice ps sl.length cs).ownBlock≠some k) p q i:=hi.mono λk h hk=>⟨hk,h⟩
 refine AF func61 rfl ntmps61 ?_
 have dg:=B9.refl w.heap.size ([wk,vb (.slice ps sl.length cs) wk]) w
 refine A4<|WL.box rfl rfl (λb1 bd be bg aa fB=>?_)
 have dh:=Dw df be aa
 have eN:=AK.same (w1:=bd) hf (λk hk hl=>aa.other k oO)
 have eO:=DB.same (w1:=bd) eM (λk hk hl=>aa.other k oO)
 have eP:=DM.same (w1:=bd) hN (λk hk hl=>aa.other k oO)
 have eQ:=Bt be hk.lt
 have a':=hk.un aa eQ
 have bL:=CW be dg.size
 have di:=E7 dg (Ip aa bL)
 refine A8 rfl<|Ad<|A4<|A3 rfl<|A1 (.nck rfl)<|A1 (.fa NS rfl sizeOf52 dD rfl)<|Aj (Ae (isAgg52 _) rfl a' rfl)<|A3 rfl<|Au (Qb ps sl cs n _ (A04 dh) oO) (λw9 eR=>?_)
 obtain rfl:=eR
 refine A0<|Ai rfl (λeS=>?_) (λeS=>?_)
 exact Dp (dT aS) hn
 refine As<|Mz (α:=Option Addr × Nat) (λt=>[(0,ptV wk),(1,Ag n),(3,Ag dp),(6,ptV b1)]) (λt w'=>B9 w.heap.size [wk,vb (.slice ps sl.length cs) wk] w w'/\B4 w' wk (TO bf (.slice t.1 (sl++[n]).length t.2) (.slice none 0 0)) 86/\B4 w' b1 #[.pointer p,.pointer q] 117/\CF 3 (wk+1) w' (.slice t.1 (sl++[n]).length t.2) ((sl++[n]).map Qd)/\AK (λk=>k<wk) w' bf (Cw os) (Dl os)/\DB w' (λk=>k<w.heap.size/\k≠wk/\(Value.slice ps sl.length cs).ownBlock≠some k) p q i/\DM (λk=>k<wk) w'/\(∀ g,(Value.slice t.1 (sl++[n]).length t.2).ownBlock=some g->(Value.slice ps sl.length cs).ownBlock=some g\/w.heap.size<=g)) ?_ (λt w1 hR=>?_)
 refine An<|A3 rfl<|A3 rfl<|A1 (.nck rfl)<|A1 (.fa NS rfl sizeOf52 dD rfl)<|Aj (Ae (isAgg52 _) rfl a' rfl)<|A3 rfl<|CC (ps:=_) NT BI z3_ rfl rfl rfl rfl rfl pR rfl (λb0 aN ag bM a1 ft=>?_)
 have dy:=Dw dh ag a1
 have dz:=AK.same (w1:=aN) eN (λk hk hl=>a1.other k oO)
 have dA:=DB.same (w1:=aN) eO (λk hk hl=>a1.other k oO)
 have dB:=DM.same (w1:=aN) eP (λk hk hl=>a1.other k oO)
 have dC:=Bt ag a'.lt
 have dE:=a'.un a1 dC
 have dG:=Bt ag bg.lt
 have dH:=bg.un a1 dG
 have bh:=CW ag di.size
 have ah:=E7 di (Ip a1 bh)
 refine ZS NT A19 rfl rfl rfl dy rfl bM rfl (by simp only [Bo];omega) ((CT aM ah.size)) rfl (λeT eU bN fu a3 b2=>?_)
 have dI:=dE.grown a3 (λe=>Em N hk dD _ e rfl)
 have dJ:=dH.grown a3 (λe=>by have:=a8 _ e;omega)
 have dK:=AK.same dz (λk hk hl=>a3.block k hl (λe=>by have h9:=(a8 k e.symm).1;omega))
 have dL:=DB.same dA (λk hk hl=>a3.block k hl (λe=>hk.2.2 e.symm))
 have dM:=DM.same dB (λk hk hl=>a3.block k hl (λe=>by have h9:=(a8 k e.symm).1;omega))
 have dN:=E7 ah (GB a3 (λg hg=>.inl (by have hg:(Value.slice ps sl.length cs).ownBlock=some g:=hg;rw [A0o hg];simp)) ah.size)
 have bi:CF 3 (wk+1) eU eT ((sl++[n]).map Qd):=by rw [Ej];exact bN
 obtain ⟨pv,cv,evv,-⟩:=CF.row bi
 subst evv
 have aB:∀ g,(Value.slice pv (sl++[n]).length cv).ownBlock=some g->(Value.slice ps sl.length cs).ownBlock=some g\/w.heap.size<=g:=λg hg=>(b2 g hg).imp id (λh=>CT ah.size h)
 refine A1 (.nck rfl)<|A1 (.fa NS rfl sizeOf52 dD rfl)<|W7 1 ((TO bf (.slice pv (sl++[n]).length cv) (.slice none 0 0))) dI sizeOf52 (λbj bO a4 fv=>?_)
 have dO:=CF.upd bi a4 (λg hg e=>by subst e;first | exact Em N hk dD _ hg rfl | (rcases b2 _ hg with D | D <;> first | exact Em N hk dD _ D rfl | omega) | exact Em (G5 j4) j3 dD _ hg rfl | (have:=(P _ hg).2;omega))
 have dP:=AK.same (w1:=bj) dK (λk hk hl=>a4.other k oM)
 have dQ:=DB.same (w1:=bj) dL (λk hk hl=>a4.other k oM)
 have dR:=DM.same (w1:=bj) dM (λk hk hl=>a4.other k oM)
 have dS:=dJ.up a4
 have dU:=E7 dN (by exact Qc a4 (by simp))
 refine A0<|?_
 exact ⟨(pv,cv),⟨rfl,rfl,rfl,rfl,tT⟩,dU,bO,dS,dO,dP,dQ,dR,aB⟩
 obtain ⟨⟨pv,cv⟩,bk⟩:=eX t
 subst bk
 obtain ⟨j1,j2,j3,j4,j5,j6,j7,aB⟩:=hR
 simp only at j2 j4 aB
 have fC:=j2.lt
 have fD:=j1.size
 have P:=(G5 j4).lt
 have eV:DB w1 (λk=>k<w.heap.size/\k≠wk/\(Value.slice pv (sl++[n]).length cv).ownBlock≠some k) p q i:=j6.mono λk h hl=>⟨h.1,h.2.1,λe=>(aB k e).elim h.2.2 (λh2=>by have:=h.1;omega)⟩
 have fE:=j3.lt
 refine A4<|A3 rfl<|A3 rfl<|?_
 refine A1 (.build rfl (A3C 8 n)) ?_
 refine EE BQ rfl rfl ((I3 wk bf _ _ _ _ os H (Cx (DR 8 n [])) _ 7 _ j2 j5 (W6 _ (λ_=>True) 8 n (by have:=H.objs.len;omega)) (Ir.ref hn1 H.objs.len))) (λg1 aC ai Y=>?_) (λg2 g3 aC ai Y=>?_)
 exact Dp (ho.symm.trans ai) (λh=>nomatch h)
 have dV:=CF.below j4 Y.1
 have dW:=AK.same (w1:=aC) j5 (λk hk hl=>Y.1.block k hl)
 have dX:=DB.same (w1:=aC) eV (λk hk hl=>Y.1.block k hl)
 have dY:=DM.same (w1:=aC) j7 (λk hk hl=>Y.1.block k hl)
 have bm:=j2.bl Y.1
 have bn:=j3.bl Y.1
 have bo:=kB j1 Y.1
 have dj:=ai
 rw [ho] at dj
 obtain rfl:=Except.ok.inj dj
 obtain ⟨x,ex,hx⟩:=Y.2
 subst ex
 obtain ⟨LV,bp⟩:=eX ((w1).heap.size)
 rw [<- bp] at hx
 have dZ:=Y.1.size
 rw [<- bp] at dZ
 have fF:w1.heap.size<=LV:=by rw [bp];exact DS _
 obtain ⟨LW,eW⟩:=eX ((aC).heap.size)
 have eY:=hx.mono (T:=λq=>LV<=q/\q<LW) (λq D h2=>⟨D,by rw [eW];exact h2⟩)
 refine Bm CA rfl (λaD aj ak bP U fw=>?_)
 have d':=Dw dV ak U
 have e0:=AK.same (w1:=aj) dW (λk hk hl=>U.other k oO)
 have ea:=DB.same (w1:=aj) dX (λk hk hl=>U.other k oO)
 have eb:=DM.same (w1:=aj) dY (λk hk hl=>U.other k oO)
 have ec:=At.same (w1:=aj) eY (λk hk hl=>U.other k oO)
 have ed:=Bt ak bm.lt
 have ee:=bm.un U ed
 have ef:=Bt ak bn.lt
 have eg:=bn.un U ef
 have bq:=CW ak bo.size
 have eh:=E7 bo (Ip U bq)
 refine Az rfl rfl bP Ah rfl rfl (λb3 am V fx=>?_)
 have ei:=CF.upd d' V (λg hg e=>by subst e;first | exact Em N hk dD _ hg rfl | (rcases HF _ hg with D | D <;> first | exact Em N hk dD _ D rfl | omega) | exact Em (G5 j4) j3 dD _ hg rfl | (have:=(P _ hg).2;omega))
 have ej:=AK.same (w1:=b3) e0 (λk hk hl=>V.other k oM)
 have ek:=DB.same (w1:=b3) ea (λk hk hl=>V.other k oM)
 have el:=DM.same (w1:=b3) eb (λk hk hl=>V.other k oM)
 have bt:=At.same (w1:=b3) ec (λk hk hl=>V.other k oM)
 have em:=ee.up V
 have bu:=eg.up V
 have en:=E7 eh (by exact Ip V oO)
 refine A0<|A4<|A3 rfl<|Aj (Bd rfl am Av rfl Ah)<|Aj (Bd rfl bu Ge rfl Fq)<|Bf BQ rfl rfl ((A0u _ p q i _ _ x o _ ek bt)) (λz b4 a0=>?_)
 have eo:=CF.below ei a0.2
 have ep:=AK.same (w1:=b4) ej (λk hk hl=>a0.2.block k hl)
 have eq:=DM.same (w1:=b4) el (λk hk hl=>a0.2.block k hl)
 have er:=At.same (w1:=b4) bt (λk hk hl=>a0.2.block k hl)
 have es:=em.bl a0.2
 have et:=bu.bl a0.2
 have eu:=am.bl a0.2
 have ev:=kB en a0.2
 have hz:=(a0).1
 have fG:=am.lt
 obtain ⟨LD,g4⟩:=eX ((b4).heap.size)
 have fH:=(a0).2.size
 have eZ:=hz.mono (T:=λk=>k<LD/\k≠wk/\k≠b1/\k≠aD/\(Value.slice pv (sl++[n]).length cv).ownBlock≠some k) (λk h hl=>⟨oO,(by rcases h with ⟨h,h2⟩ | ⟨h,h2⟩ | h <;> omega),(by rcases h with ⟨h,h2⟩ | ⟨h,h2⟩ | h <;> omega),(by rcases h with ⟨h,h2⟩ | ⟨h,h2⟩ | h <;> omega),λe=>(by have h7:=(P k e).2;rcases h with ⟨h,h2⟩ | ⟨h,h2⟩ | h;exact h.2.2 e;omega;omega)⟩)
 have dk:=Zo af hib hir
 refine Az rfl rfl et Fq rfl rfl (λb6 bQ X fy=>?_)
 have ew:=CF.upd eo X (λg hg e=>by subst e;first | exact Em N hk dD _ hg rfl | (rcases HF _ hg with D | D <;> first | exact Em N hk dD _ D rfl | omega) | exact Em (G5 j4) j3 dD _ hg rfl | (have:=(P _ hg).2;omega))
 have bv:=AK.same (w1:=b6) ep (λk hk hl=>X.other k oM)
 have ey:=DM.same (w1:=b6) eq (λk hk hl=>X.other k oM)
 have bw:=At.same (w1:=b6) er (λk hk hl=>X.other k oM)
 have ez:=DB.same (w1:=b6) eZ (λk hk hl=>X.other k oM)
 have bz:=es.up X
 have bA:=eu.up X
 have eA:=E7 ev (by exact Ip X oO)
 refine A0<|Ad<|A4<|A3 rfl<|Aj (Bd rfl bA Av rfl Ah)<|Ch BQ rfl rfl ((IV wk bf _ _ _ _ os H x o FA [80,97,103,101] _ bz bv bw af)) (λg5 aE an L=>?_) (λg6 aE an L=>?_)
 rcases hO with h | h <;> exact Dp (h.1.symm.trans an) (λh=>nomatch h)
 have eB:=CF.below ew L
 have aO:=AK.same (w1:=aE) bv (λk hk hl=>L.block k hl)
 have bB:=DM.same (w1:=aE) ey (λk hk hl=>L.block k hl)
 have aP:=At.same (w1:=aE) bw (λk hk hl=>L.block k hl)
 have bC:=DB.same (w1:=aE) ez (λk hk hl=>L.block k hl)
 have ao:=bz.bl L
 have bD:=bQ.bl L
 have aQ:=bA.bl L
 have ap:=kB eA L
 have dm:=an
 have fI:=(L).size
 refine A0<|Ai rfl (λe'=>?_) (λe'=>?_)
 obtain ⟨c,r,hc,hr,f0,hV,rfl⟩:∃ c r,De o Te=some c/\FL os 32 c=some r/\r.kind≠6/\(∀ B l fs,Ft os (Fg o i).res=.ok fs->IB r=.ok l->Sd B l fs (it l fs) Q)/\res=FY os r (Fg o i) it:=by
  rcases hO with ⟨D,h⟩ | ⟨D,-⟩;exact h;have:=OC D dm;simp_all
 refine A4<|A3 rfl<|Aj (Bd rfl aQ Av rfl Ah)<|Aj (Bd rfl bD Ge rfl Fq)<|EE BQ rfl rfl ((A0t wk bf _ _ _ _ os H x o c r z.1 z.2 (Fg o i) it Q _ ao aO aP af bC dk.1 dk.2 (bB).blk hc hr f0 (λl fs D h=>hV _ l fs D h))) (λeC f1 aq aR=>?_) (λfJ fK f1 aq aR=>?_)
 exact Bx (Ho eC aq (Ex (ap.below (IF aM) (RT a8)) (B8.below aR (IF ao.lt) (DS _))))
 obtain ⟨rfl,hT,aF⟩:=aR
 have bE:=E7 ap (Kk hT (by simp) ap.size)
 refine A0<|A4<|A8 rfl<|AY ?_
 exact LH _ _ aq rfl ⟨rfl,bE,_,aF⟩
 obtain ⟨dn,hdp,kk,dq,dr,f2⟩:Gj os o FA [80,97,103,101,115]=.ok true/\dp<32/\∃ k,IP os o [75,105,100,115] 6=.ok (.mk 6 0 [] [] [.mk 8 k [] [] [] []] [])/\IP os o [67,111,117,110,116] 2=.ok (.mk 2 1 [] [] [] [])/\Nq wk bf os k (Fg o i) (dp+1) (sl++[n]) Q res:=by
  rcases hO with ⟨D,-⟩ | ⟨D,h⟩;have:=OC D dm;simp_all;exact h
 refine As<|A4<|A3 rfl<|Aj (Bd rfl aQ Av rfl Ah)<|Ch BQ rfl rfl ((IV wk bf _ _ _ _ os H x o FA [80,97,103,101,115] _ ao aO aP af)) (λfL ab ac A=>?_) (λfM ab ac A=>?_)
 exact Dp (dn.symm.trans ac) (λh=>nomatch h)
 have bR:=CF.below eB A
 have bS:=AK.same (w1:=ab) aO (λk hk hl=>A.block k hl)
 have bT:=DM.same (w1:=ab) bB (λk hk hl=>A.block k hl)
 have bU:=At.same (w1:=ab) aP (λk hk hl=>A.block k hl)
 have bV:=DB.same (w1:=ab) bC (λk hk hl=>A.block k hl)
 have bW:=ao.bl A
 have bX:=bD.bl A
 have bY:=aQ.bl A
 have bZ:=kB ap A
 have f3:=OC dn ac
 have fN:=(A).size
 refine Ch BQ rfl rfl ((E5 _ _)) (λfO ad aG C=>?_) (λfP ad aG C=>?_)
 exact Dp (CB aG).1 (by rw [<- f3];decide)
 have b':=CF.below bR C
 have c4:=AK.same (w1:=ad) bS (λk hk hl=>C.block k hl)
 have c5:=DM.same (w1:=ad) bT (λk hk hl=>C.block k hl)
 have c6:=At.same (w1:=ad) bU (λk hk hl=>C.block k hl)
 have c7:=DB.same (w1:=ad) bV (λk hk hl=>C.block k hl)
 have c8:=bW.bl C
 have c9:=bX.bl C
 have ca:=bY.bl C
 have cb:=kB bZ C
 have fQ:=(C).size
 refine A0<|Ad<|A4<|A3 rfl<|A1 (.geq rfl rfl)<|A0<|Ai rfl (λaT=>?_) (λaT=>?_)
 have cc:=dT aT
 omega
 have cc:=dF aT
 refine As<|Ad<|F2 10 rfl BS (λar d=>?_)
 have cd:=CF.drew b' d
 have au:=AK.same (w1:=ar) c4 (λk hk hl=>(by obtain ⟨m,rfl⟩:=d;rfl))
 have cf:=DM.same (w1:=ar) c5 (λk hk hl=>(by obtain ⟨m,rfl⟩:=d;rfl))
 have b7:=At.same (w1:=ar) c6 (λk hk hl=>(by obtain ⟨m,rfl⟩:=d;rfl))
 have cg:=DB.same (w1:=ar) c7 (λk hk hl=>(by obtain ⟨m,rfl⟩:=d;rfl))
 have a6:=c8.drew d
 have b8:=c9.drew d
 have a7:=ca.drew d
 have b9:=E7 cb (RU d)
 refine AB 0 rfl (.mv rfl) rfl<|AB 3 rfl (.mv rfl) rfl<|JA [(0,ptV wk),(3,Ag dp),(6,ptV b1),(9,ptV aD),(54,ptV wk),(57,ptV wk)] [⟨1,55,[],(λv _=>v=.agg (D3 x).toArray),false⟩,
  ⟨2,56,[(1,55)],(ObL LD (.mk 6 0 [] [] [.mk 8 kk [] [] [] []] [])),false⟩,
  ⟨4,58,[],(λv _=>v=.agg (D3 x).toArray),false⟩,
  ⟨5,59,[(4,58)],(ObL LD (.mk 2 1 [] [] [] [])),false⟩,
  ⟨6,10,[],(MB LD),true⟩,
  ⟨7,11,[],(MB LD),true⟩] 2 ⟨rfl,rfl,rfl,rfl,rfl,rfl,tT⟩ rfl kR ⟨⟨(λ_ _ _ h _=>h),λh=>nomatch h⟩,⟨ObL.up,λh=>nomatch h⟩,⟨(λ_ _ _ h _=>h),λh=>nomatch h⟩,⟨ObL.up,λh=>nomatch h⟩,⟨MB.up,λ_=>MB.lt⟩,⟨MB.up,λ_=>MB.lt⟩,tT⟩ ⟨?_,?_,?_,?_,?_,?_,tT⟩ (λg aU hs b hE hA=>?_)
 intro K g w1 hs b hd k
 have F:ET [(9,ptV aD)] g:=⟨hs.look rfl,tT⟩
 refine ⟨_,rfl,WL.front _ F ?_⟩
 refine Aj (Bd rfl (a7.below b a7.lt) Av rfl Ah)<|A0<|?_
 exact k _ _ _ (DH.front F) rfl (Fl _ _) (λh=>nomatch h)
 intro K g w1 hs b hd k
 obtain ⟨⟨f4,f5,f6⟩,-⟩:=hd
 have F:ET [(55,f4),(54,ptV wk)] g:=⟨f5,hs.look rfl,tT⟩
 refine ⟨_,rfl,WL.front _ F ?_⟩
 subst f6
 refine EE BQ rfl rfl (MN wk bf _ _ _ _ os H x o [75,105,100,115] 6 _ (a6.below b a6.lt) ((au).same λk hk hl=>b.block k hl) ((b7).same λk hk hl=>b.block k hl) af) (λk5 w5 a9 h5=>Dp (dq.symm.trans a9) (λh=>nomatch h)) (λa5 x5 w5 a9 h5=>A0<|?_)
 exact k _ _ _ (DH.front F) (by rw [dq] at a9;cases a9;exact A06 h5.2 (by have:=b.size;have:=Cn.size d;omega)) h5.1 (λh=>nomatch h)
 intro K g w1 hs b hd k
 have F:ET [(9,ptV aD)] g:=⟨hs.look rfl,tT⟩
 refine ⟨_,rfl,WL.front _ F ?_⟩
 refine Aj (Bd rfl (a7.below b a7.lt) Av rfl Ah)<|A0<|?_
 exact k _ _ _ (DH.front F) rfl (Fl _ _) (λh=>nomatch h)
 intro K g w1 hs b hd k
 obtain ⟨⟨f7,f8,f9⟩,-⟩:=hd
 have F:ET [(58,f7),(57,ptV wk)] g:=⟨f8,hs.look rfl,tT⟩
 refine ⟨_,rfl,WL.front _ F ?_⟩
 subst f9
 refine EE BQ rfl rfl (MN wk bf _ _ _ _ os H x o [67,111,117,110,116] 2 _ (a6.below b a6.lt) ((au).same λk hk hl=>b.block k hl) ((b7).same λk hk hl=>b.block k hl) af) (λk5 w5 a9 h5=>Dp (dr.symm.trans a9) (λh=>nomatch h)) (λa5 x5 w5 a9 h5=>A0<|?_)
 exact k _ _ _ (DH.front F) (by rw [dr] at a9;cases a9;exact A06 h5.2 (by have:=b.size;have:=Cn.size d;omega)) h5.1 (λh=>nomatch h)
 intro K g w1 hs b hd k
 have F:ET [] g:=trivial
 refine ⟨_,rfl,WL.front _ F ?_⟩
 refine Bm CA rfl (λb5 w5 aH aV aW eD=>A0<|?_)
 exact k _ _ _ (DH.front F) ⟨b5,rfl,aV,by have:=b.size;have:=Cn.size d;omega⟩ (BR (Fl _ _) (Nat.le_of_eq aH.symm) aW) (λ_=>Nat.le_of_eq aH.symm)
 intro K g w1 hs b hd k
 have F:ET [] g:=trivial
 refine ⟨_,rfl,WL.front _ F ?_⟩
 refine Bm CA rfl (λb5 w5 aH aV aW eD=>A0<|?_)
 exact k _ _ _ (DH.front F) ⟨b5,rfl,aV,by have:=b.size;have:=Cn.size d;omega⟩ (BR (Fl _ _) (Nat.le_of_eq aH.symm) aW) (λ_=>Nat.le_of_eq aH.symm)
 obtain ⟨-,⟨fb,fc,fd⟩,-,⟨fe,ff,fg⟩,⟨ds,dt,fh⟩,⟨du,dv,fi⟩,-⟩:=hE
 refine WY.front [(56,fb),(59,fe),(10,ds),(11,du),(0,ptV wk),(3,Ag dp),(6,ptV b1),(9,ptV aD),(54,ptV wk),(57,ptV wk)] ⟨fc,ff,dt,dv,hs.look rfl,hs.look rfl,hs.look rfl,hs.look rfl,hs.look rfl,hs.look rfl,tT⟩ ?_
 have ci:=CF.below cd b
 have cj:=AK.same (w1:=aU) au (λk hk hl=>b.block k hl)
 have ck:=DM.same (w1:=aU) cf (λk hk hl=>b.block k hl)
 have cl:=DB.same (w1:=aU) cg (λk hk hl=>b.block k hl)
 have cm:=a6.below b a6.lt
 have cn:=b8.below b b8.lt
 have co:=a7.below b a7.lt
 have cq:=E7 b9 (kb_ b b9.size)
 have dw:ZJ ds≠ZJ du:=hA 4 5 _ _ rfl rfl rfl rfl (show (6:Nat)≠7 by decide) _ _ dt dv
 obtain ⟨y,rfl,hy⟩:=fd
 obtain ⟨yc,rfl,fj⟩:=fg
 obtain ⟨fk,rfl,A2F,fR⟩:=fh
 obtain ⟨b0,rfl,A2E,fS⟩:=fi
 have dw:fk≠b0:=dw
 have eF:yc.n=1:=fj.nE.symm
 obtain ⟨keys,list,data,cs',dx,ok,-,-,-,hr,fl,-,-,fm,eG⟩:=hy.inv
 obtain ⟨c1,c2,c3,kp,kl,kc,lp,ll,lc,dp',dl,dc⟩:=y
 have e2:=ok.ll
 simp only at e2 hr fl dx
 obtain ⟨rfl,rfl,rfl,rfl,rfl,rfl⟩:=AV.mk.inj dx
 obtain ⟨c0,rfl⟩:=List.length_eq_one_iff.1 (fm.trans rfl)
 subst e2
 have bG:=eG 0 (by simp) (by simp)
 simp only [IG] at bG
 have aI:c0.kind=8:=bG.kind.symm
 have bH:c0.n=kk:=bG.nE.symm
 obtain ⟨e1,e2,e3,e4,e5,e6,e7,e8,e9,g7,g8,g9⟩:=c0
 simp only at aI bH
 subst aI
 subst bH
 have aI:(8:Int)=8:=rfl
 have fT:=Vy hr aI A2F
 have fU:=Vy hr aI A2E
 refine Ao 8 rfl<|Az rfl rfl A2F Ah rfl rfl (λaX bI f fn=>?_)
 have cr:=CF.upd ci f (λg hg e=>by subst e;first | exact Em N hk dD _ hg rfl | (rcases HF _ hg with D | D <;> first | exact Em N hk dD _ D rfl | omega) | exact Em (G5 j4) j3 dD _ hg rfl | (have:=(P _ hg).2;omega))
 have ct:=AK.same (w1:=aX) cj (λk hk hl=>f.other k oM)
 have cu:=DM.same (w1:=aX) ck (λk hk hl=>f.other k oM)
 have cw:=DB.same (w1:=aX) cl (λk hk hl=>f.other k oM)
 have cy:=cm.up f
 have cz:=cn.up f
 have cA:=co.up f
 have cB:=A2E.upd f oM
 have cC:=AA.upd hr f (λ_=>by assumption)
 have cD:=E7 cq (by exact Ip f oO)
 refine A0<|Ao 9 rfl<|Az rfl rfl cB Ah rfl rfl (λav bJ j fo=>?_)
 have cE:=CF.upd cr j (λg hg e=>by subst e;first | exact Em N hk dD _ hg rfl | (rcases HF _ hg with D | D <;> first | exact Em N hk dD _ D rfl | omega) | exact Em (G5 j4) j3 dD _ hg rfl | (have:=(P _ hg).2;omega))
 have cF:=AK.same (w1:=av) ct (λk hk hl=>j.other k oM)
 have cG:=DM.same (w1:=av) cu (λk hk hl=>j.other k oM)
 have cH:=DB.same (w1:=av) cw (λk hk hl=>j.other k oM)
 have cI:=cy.up j
 have cJ:=cz.up j
 have cK:=cA.up j
 have ba:=bI.up j
 have cL:=AA.upd cC j (λ_=>by assumption)
 have cM:=E7 cD (by exact Ip j oO)
 refine A0<|Be kR<|A4<|A8 rfl<|Ad<|A4<|A1 (.fa Av rfl CQ dD rfl)<|Aj (Ae (DW _) rfl ba rfl)<|A1 (.lenS Cg rfl)<|A3 rfl<|A0<|AT ?_
 have L1:=cI
 have L2:=cE
 have L3:=cF
 have L4:=cH
 have L5:=cG
 have L6:=cJ
 have L7:=bJ
 have L8:=cL
 have L0:=cM
 refine BO (α:=Nat) (λt=>[(0,ptV wk),(3,Ag dp),(6,ptV b1),(11,ptV b0),(12,Ag (t:Int)),(61,.slice lp 1 lc),(62,Ag (1:Int)),(63,Ag (t:Int))]) (λt w'=>(t=0/\av=w')\/(t=1/\B9 w.heap.size [wk,vb (.slice ps sl.length cs) wk] w w'/\B4 w' b0 (D3 yc).toArray 27/\∃ a s,res=.ok a/\LQ wk bf s Q a w')) (λt=>1-t) (0) ⟨rfl,rfl,rfl,rfl,rfl,rfl,rfl,rfl,tT⟩ (.inl ⟨rfl,rfl⟩) (λt w1 hR=>?_)
 obtain ⟨i0,bk⟩:=eX t
 subst bk
 refine A4<|A1 (.lss rfl rfl)<|A0<|Ad<|Ai rfl (λaY=>?_) (λaY=>?_)
 have cN:=dT aY
 obtain ⟨rfl,rfl⟩:=hR.resolve_right (λh=>by have:=h.1;simp_all)
 refine As<|Ad<|AT<|A4<|A1 (.ixm Cg Dd rfl rfl (L8.isp (by (simp only [Aa,Am];omega))) (0) (rfl) (by simp))<|Aj (DG Av rfl Ah L8 (0) (by (simp only [Aa,Am];omega)) rfl)<|Bm CA rfl (λfV aw a2 bK G fp=>?_)
 have cO:=Dw L2 a2 G
 have cP:=AK.same (w1:=aw) L3 (λk hk hl=>G.other k oO)
 have cQ:=DM.same (w1:=aw) L5 (λk hk hl=>G.other k oO)
 have cR:=DB.same (w1:=aw) L4 (λk hk hl=>G.other k oO)
 have cS:=Bt a2 L1.lt
 have cT:=L1.un G cS
 have cU:=Bt a2 L6.lt
 have cV:=L6.un G cU
 have fz:=Bt a2 cK.lt
 have fA:=Bt a2 ba.lt
 have cW:=Bt a2 L7.lt
 have cX:=L7.un G cW
 have bc:=CW a2 L0.size
 have cY:=E7 L0 (Ip G bc)
 refine Az rfl rfl bK Ah rfl rfl (λaZ aJ J fq=>?_)
 have cZ:=CF.upd cO J (λg hg e=>by subst e;first | exact Em N hk dD _ hg rfl | (rcases HF _ hg with D | D <;> first | exact Em N hk dD _ D rfl | omega) | exact Em (G5 j4) j3 dD _ hg rfl | (have:=(P _ hg).2;omega))
 have c':=AK.same (w1:=aZ) cP (λk hk hl=>J.other k oM)
 have d0:=DM.same (w1:=aZ) cQ (λk hk hl=>J.other k oM)
 have d1:=DB.same (w1:=aZ) cR (λk hk hl=>J.other k oM)
 have d2:=cT.up J
 have d3:=cV.up J
 have d4:=cX.up J
 have d5:=E7 cY (by exact Ip J oO)
 refine A0<|A4<|A1 (.fa Av rfl BI dD rfl)<|Aj (Ae (C5 _) rfl aJ rfl)<|A1 (.eql rfl rfl)<|Ch BQ rfl rfl ((E5 _ _)) (λfW ax aK E=>?_) (λfX ax aK E=>?_)
 exact Dp (CB aK).1 (show ¬ (decide ((8:Int)=8)=false) by decide)
 have d6:=CF.below cZ E
 have d7:=AK.same (w1:=ax) c' (λk hk hl=>E.block k hl)
 have d8:=DM.same (w1:=ax) d0 (λk hk hl=>E.block k hl)
 have d9:=DB.same (w1:=ax) d1 (λk hk hl=>E.block k hl)
 have da:=d2.bl E
 have db:=d3.bl E
 have bb:=d4.bl E
 have dd:=aJ.bl E
 have ay:=kB d5 E
 refine A0<|An<|A3 rfl<|A3 rfl<|A1 (.fa Av rfl BI dD rfl)<|Aj (Ae (C5 _) rfl dd rfl)<|Aj (Bd rfl db Ge rfl Fq)<|A3 rfl<|A1 (.add rfl rfl (Bb oO))<|EE BQ rfl rfl ((f2 _ pv cv z.1 z.2 da d6 d7 ((d9).mono (λk h _=>⟨h.2.1,h.2.2.2.2⟩)) d8)) (λeH eI ae az=>?_) (λfY fZ eI ae az=>?_)
 exact Bx (Ho eH ae (Ex (ay.below (IF aM) (RT a8)) az))
 obtain ⟨rfl,hK,s,aF⟩:=az
 have bE:=E7 ay (Do hK ay.size (YQ aB))
 have fr:=B4.keepB bb hK (bb).lt (YR oO (λg hg e=>by have h7:=(P g hg).2;omega))
 refine A1 (.add rfl rfl (Bb oO))<|A8 rfl<|An<|A1 (.add rfl rfl (Bb oO))<|A3 rfl<|A0<|?_
 exact ⟨1,⟨rfl,rfl,rfl,rfl,rfl,rfl,rfl,rfl,tT⟩,.inr ⟨rfl,bE,fr,_,_,ae,aF⟩,oM⟩
 have cN:=dF aY
 obtain ⟨rfl,z1,z2,a,s,eJ,aF⟩:=hR.resolve_left (λh=>by have:=h.1;simp_all)
 refine BL<|A4<|A3 rfl<|A1 (.fa Av rfl BI dD rfl)<|Aj (Ae (C5 _) rfl z2 rfl)<|A1 (.eql rfl rfl)<|Ch BQ rfl rfl ((E5 _ _)) (λf' eK aL aA=>?_) (λg0 eK aL aA=>?_)
 exact Dp (CB aL).1 (by rw [eF];decide)
 have de:=kB z1 aA
 have eL:=aA
 refine A0<|A4<|A3 rfl<|A8 rfl<|AY ?_
 exact LH a _ eJ rfl ⟨rfl,de,s,aF.below eL⟩
end
section
theorem A3F:Tryz.prog.built 117 []=some #[.pointer none,.pointer none]:=by kernel_rfl
theorem A29  (wk bf:Nat) (os:List AV) (H:Vl os) (o:AV) (n:Int) (Q:ι->Option Addr->Nat->Nat->World->Prop) (res:Except Int ((Int × Int) × ι)) (hn1:1<=n/\n<=os.length) (ho:F3 os (.mk 8 n [] [] [] []) 7=.ok o)
  (hps:Gj os o FA [80,97,103,101,115]=.ok true) (hNA:Nq wk bf os n ⟨none,none⟩ 0 [] Q res) (w:World) (hk:B4 w wk (TO bf (.slice none 0 0) (.slice none 0 0)) 86) (hf:AK (λk=>k<wk) w bf (Cw os) (Dl os)) (hN:DM (λk=>k<wk) w) :
  Calls Tryz.prog 38 #[ptV wk,Ag n] w λe w'=>Hl 35 res (λa v w'=>v=.tuple #[]/\Below wk w w'/\∃ s,LQ wk bf s Q a w') (λw'=>Below wk w w') e w':=by
 have ad:Ir os o:=(I2 H (Ir.ref hn1 H.objs.len) ho).1
 have y:=hk.lt
 refine AF func38 rfl ntmps38 ?_
 have ae:=Dh w
 refine A4<|A3 rfl<|A3 rfl<|?_
 refine A1 (.build rfl (A3C 8 n)) ?_
 refine EE BQ rfl rfl ((I3 wk bf _ _ _ _ os H (Cx (DR 8 n [])) _ 7 _ hk hf (W6 _ (λ_=>True) 8 n (by have:=H.objs.len;omega)) (Ir.ref hn1 H.objs.len))) (λk3 w1 m i=>?_) (λa2 x4 w1 m i=>?_)
 exact Dp (ho.symm.trans m) (λh=>nomatch h)
 have af:=AK.same (w1:=w1) hf (λk hk hl=>i.1.block k hl)
 have ag:=DM.same (w1:=w1) hN (λk hk hl=>i.1.block k hl)
 have N:=hk.bl i.1
 have P:=Ci ae i.1
 have U:=m
 rw [ho] at U
 obtain rfl:=Except.ok.inj U
 obtain ⟨x,ex,hx⟩:=i.2
 subst ex
 have ah:=hx.mono (T:=λq=>q<w1.heap.size) (λq h1 h2=>h2)
 refine Bm CA rfl (λb9 A B V c aq=>?_)
 have X:=AK.same (w1:=A) af (λk hk hl=>c.other k oO)
 have Y:=DM.same (w1:=A) ag (λk hk hl=>c.other k oO)
 have Z:=At.same (w1:=A) ah (λk hk hl=>c.other k oO)
 have a0:=Bt B N.lt
 have a1:=N.un c a0
 have a3:=uB P B c
 have ao:=CW B P.size
 refine Az rfl rfl V Ah rfl rfl (λC L b ap=>?_)
 have D:=AK.same (w1:=C) X (λk hk hl=>b.other k oM)
 have a4:=DM.same (w1:=C) Y (λk hk hl=>b.other k oM)
 have a5:=At.same (w1:=C) Z (λk hk hl=>b.other k oO)
 have E:=a1.up b
 have a6:=BR a3 oO b
 refine A0<|A4<|A3 rfl<|Aj (Bd rfl L Av rfl Ah)<|Ch BQ rfl rfl ((IV wk bf _ _ _ _ os H x o FA [80,97,103,101,115] _ E D a5 ad)) (λar F j d=>?_) (λau F j d=>?_)
 exact Dp (hps.symm.trans j) (λh=>nomatch h)
 have a7:=AK.same (w1:=F) D (λk hk hl=>d.block k hl)
 have a8:=DM.same (w1:=F) a4 (λk hk hl=>d.block k hl)
 have a9:=E.bl d
 have aa:=Ci a6 d
 have ai:=OC hps j
 refine Ch BQ rfl rfl ((E5 _ _)) (λav G u f=>?_) (λaw G u f=>?_)
 exact Dp (CB u).1 (by rw [<- ai];decide)
 have ab:=AK.same (w1:=G) a7 (λk hk hl=>f.block k hl)
 have ac:=DM.same (w1:=G) a8 (λk hk hl=>f.block k hl)
 have J:=a9.bl f
 have K:=Ci aa f
 refine A0<|An<|A3 rfl<|A3 rfl<|?_
 refine A1 (.build rfl A3F) ?_
 refine EE BQ rfl rfl ((hNA _ none 0 none none J (CF.nil _ _ _) ab ⟨rfl,rfl⟩ ac)) (λaj ak l t=>?_) (λax ay ak l t=>?_)
 exact Bx (Ho aj l (Ex (Below.mono K (IF y)) t))
 obtain ⟨-,hK,am⟩:=t
 have an:=Ex (Below.mono K (IF y)) (hK.below (IF J.lt) (RT (M:=0) (λg h=>nomatch h)))
 refine A0<|D9 (CU rfl ?_)
 exact LH _ _ l rfl ⟨rfl,an,am⟩
theorem A0v {os:List AV} {K:Nat} (hK:K<=4096) (hl:1<=os.length):Ir os (Rq (K+1)):=by
 refine ⟨Rp _ oO,.mk _ (λh=>nomatch h) λx hx=>?_⟩
 rcases A7.1 hx with rfl | hx
 · exact .mk _ (λ_=>⟨dD,by show (1:Int)<=_;omega⟩) (λx hx=>by cases hx)
 ·
  rw [Bl.1 hx]
  exact .mk _ (λh=>nomatch h) (λx hx=>by cases hx)
theorem SU (b4 b5:Nat) (w:World) :
  CallsD Tryz.prog 32 #[ptV b4,ptV b5] .returning w λe u' w'=>u'=.returning/\(∃ v,e=.returned v)/\w'=w:=by
 refine Et func32 rfl ntmps32 bL rfl<|A0<|AT<|A4<|A1 (.eqNil0 kR rfl)<|A0<|BZ rfl rfl<|An<|A8 rfl<|D9 (CU rfl ?_)
 exact ⟨⟨_,rfl⟩,rfl⟩
theorem RG (b4 b5 B:Nat) (v:Value) (j k:Int) (w:World) (h4:B4 w b4 #[v] 41) (h5:B4 w b5 #[Ag j] 35) (hB1:B<=b4) (h45:b4<b5) :
  CallsD Tryz.prog 32 #[ptV b4,ptV b5] (.panicking [{ v:=.iface 35 (Ag k),recovered:=false }]) w
   λe u' w'=>u'=.panicking [{ v:=.iface 35 (Ag k),recovered:=true }]/\(∃ v,e=.returned v) /\
    B4 w' b4 #[.slice none 0 0] 41/\B4 w' b5 #[Ag k] 35/\Below B w w':=by
 refine Et func32 rfl ntmps32 bL rfl ?_
 have f:=Fl (B) w
 refine A0<|AT<|A4<|A1 (.eqNil kR rfl)<|A0<|Ay rfl rfl<|A4<|A1 (.tas MM rfl)<|A1 (.ext rfl rfl)<|A1 (.ext rfl rfl)<|A0<|BZ rfl rfl<|A4<|A8 rfl<|An<|A3 rfl<|BA OO rfl rfl rfl h4 (by exact Nat.le_of_ble_eq_true rfl) (λm c a o=>?_)
 have c:B4 m b4 _ _:=c
 have a:CP b4 _ _:=a
 have g:=h5.upd a oM
 have h:=BR f oO a
 refine BA Fd rfl rfl rfl g (by exact Nat.le_of_ble_eq_true rfl) (λq d b s=>?_)
 have d:B4 q b5 _ _:=d
 have b:CP b5 _ _:=b
 have i:=c.up b
 have l:=BR h oO b
 refine A0<|D9 (CU rfl ?_)
 exact ⟨⟨_,rfl⟩,i,d,l⟩
theorem No {P:Program} {fn:Func} {f:Fr} {w:World} {a b:Tmp} {ta tb:TypeId} {pa pb:Addr} {x y:Value} (hr:fn.results=#[.cell a ta,.cell b tb]) (ha:look f a=some (.pointer (some pa))) (hb:look f b=some (.pointer (some pb)))
  (hx:(loadVar ta pa).run P w=.ok x w) (hy:(loadVar tb pb).run P w=.ok y w):CK P fn f w (.tuple #[x,y]):=λtmps hh=>by
 have e1:=hh _ _ ha;have e2:=hh _ _ hb
 simp only [AD] at e1 e2
 simp [results,hr,e1,e2,asAddr,hx,hy]
abbrev A31 {ι:Type} (w:World) (Q:ι->Option Addr->Nat->Nat->World->Prop) (res:Except Int ((Int × Int) × ι)):Ending->World->Prop:=λe w'=>AL w w'/\match res with
 | .error k=>e=.returned (.tuple #[.slice none 0 0,Ag k])
 | .ok a=>∃ (p:Option Addr) (c:Nat) (x:PgV),e=.returned (.tuple #[.slice p 1 c,Ag 0])/\AA WW w' p [x]/\x.wd=a.1.1/\x.ht=a.1.2/\∃ L M,QF L M (Q a.2 x.p x.n x.c) w'
theorem A4j (bf:Nat):Tryz.prog.built 86 [(0,ptV bf)]=some (TO bf (.slice none 0 0) (.slice none 0 0)):=by kernel_rfl
theorem XU  (bf:Nat) (S:Nat->Prop) (os:List AV) (H:Vl os) (rt nd:AV) (n:Int) (Q:ι->Option Addr->Nat->Nat->World->Prop) (res:Except Int ((Int × Int) × ι)) (hlen:1<=os.length) (hr:F3 os (.mk 8 1 [] [] [] []) 7=.ok rt)
    (hc:Gj os rt FA [67,97,116,97,108,111,103]=.ok true) (hp:De rt [80,97,103,101,115]=some (.mk 8 n [] [] [] [])) (hn1:1<=n/\n<=os.length) (ho:F3 os (.mk 8 n [] [] [] []) 7=.ok nd) (hps:Gj os nd FA [80,97,103,101,115]=.ok true)
    (hNA:∀ wk,Nq wk bf os n ⟨none,none⟩ 0 [] Q res) (w:World) (hf:AK S w bf (Cw os) (Dl os)) (hN:XA w) :
    Calls Tryz.prog 15 #[ptV bf] w (A31 w Q res):=by
  have a':AK (λk=>k<w.heap.size) w bf (Cw os) (Dl os):=hf.mono λk _ hk=>hk
  have b0:DM (λk=>k<w.heap.size) w:=⟨hN.lt,hN⟩;have G:=GM os;have b2:Ir os (Rq ((Dl os).length+1)):=A0v (by rw [G];exact H.objs.len) hlen;have b3:Ir os rt:=(I2 H (Ir.ref ⟨dD,oO⟩ H.objs.len) hr).1;have hg:IP os (Rq ((Dl os).length+1)) [82,111,111,116] 7=.ok rt:=by rw [HZ (x:=.mk 8 1 [] [] [] []) rfl];exact hr
  refine Hk func15 rfl ntmps15 bL ?_;refine WD.seq<|An<|Bm zeroValue41 rfl (λb1 aD b4 a9 N bk=>?_);refine Bm Sk rfl (λb5 aE aF aa A bm=>?_);have b6:=Bt aF a9.lt;have aG:=a9.un A b6;refine A0<|WD.seq<|A4<|A3 rfl<|A1 (.bis (false) (.eqP XR rfl) (by rfl))<|A0<|Ay rfl rfl<|As<|WD.defer rfl rfl<|NN<|A4<|A3 rfl<|?_;refine A1 (.build rfl (A4j bf)) ?_;refine WL.box rfl rfl (λX ab P az l bg=>?_);have ac:=AK.same (w1:=ab) (AK.same (w1:=aE) (AK.same (w1:=aD) a' (λk hk hl=>N.other k oO)) (λk hk hl=>A.other k oO)) (λk hk hl=>l.other k oO);have aO:=Bt P aG.lt;have aP:=Bt P aa.lt;refine A8 rfl<|A4<|A3 rfl<|A3 rfl<|Bf BQ rfl rfl ((Q2 bf _ _ _ _ ac (by rw [G];exact H.objs.len))) (λz aH j=>?_);have ad:=AK.same (w1:=aH) ac (λk hk hl=>j.2.block k hl);have ae:=az.bl j.2;have hz:=j.1.1;refine EE BQ rfl rfl ((MN X bf _ _ _ _ os H z _ [82,111,111,116] 7 _ ae ad hz b2)) (λbt a0 B g=>?_) (λbu bv a0 B g=>?_);exact Dp (hg.symm.trans B) (λh=>nomatch h);have af:=((aG.un l aO).bl j.2).bl g.1;have ag:=((aa.un l aP).bl j.2).bl g.1;have ah:=ae.bl g.1;have aI:=B;rw [hg] at aI;obtain rfl:=Except.ok.inj aI;obtain ⟨x,ex,hx⟩:=g.2;subst ex;have ai:=hx.mono (T:=λq=>q<a0.heap.size) (λq h1 h2=>h2);refine Bm CA rfl (λbw U C aA c bh=>?_);have aQ:=Bt C af.lt;have aR:=Bt C ag.lt;have aS:=Bt C ah.lt;refine Az rfl rfl aA Ah rfl rfl (λaj a1 d bi=>?_);have ak:=AK.same (w1:=aj) (AK.same (w1:=U) (AK.same (w1:=a0) ad (λk hk hl=>g.1.block k hl)) (λk hk hl=>c.other k oO)) (λk hk hl=>d.other k oM);have am:=At.same (w1:=aj) (At.same (w1:=U) ai (λk hk hl=>c.other k oO)) (λk hk hl=>d.other k oM);have an:=(ah.un c aS).up d;refine A0<|A4<|A3 rfl<|Aj (Bd rfl a1 Av rfl Ah)<|Ch BQ rfl rfl ((IV X bf _ _ _ _ os H x rt FA [67,97,116,97,108,111,103] _ an ak am b3)) (λbz a2 D e=>?_) (λbA a2 D e=>?_)
  exact Dp (hc.symm.trans D) (λh=>nomatch h);have b7:=OC hc D;refine Ch BQ rfl rfl ((E5 _ _)) (λbB a3 a4 f=>?_) (λbC a3 a4 f=>?_);exact Dp (CB a4).1 (by rw [<- b7];decide);refine A0<|A4<|Aj (Bd rfl ((a1.bl e).bl f) Av rfl Ah)<|Bf BQ rfl rfl ((H8 x rt _ [80,97,103,101,115] _ (At.same (w1:=a3) (At.same (w1:=a2) am (λk hk hl=>e.block k hl)) (λk hk hl=>f.block k hl)))) (λzp aJ u=>?_);have ao:=((((af.un c aQ).up d).bl e).bl f).bl u;have ap:=((((ag.un c aR).up d).bl e).bl f).bl u;have aq:=((an.bl e).bl f).bl u;obtain ⟨zp,ar⟩:=zp;rw [hp] at ar;have aK:zp.kind=8:=ar.kind.symm;have aL:zp.n=n:=ar.nE.symm;obtain ⟨e1,e2,e3,e4,e5,e6,e7,e8,e9,bD,bE,bG⟩:=zp;simp only at aK aL;subst aK;subst aL;refine A3 rfl<|A1 (.ext rfl rfl)<|A1 (.ext rfl rfl)<|Bm CA rfl (λbH au E aB i bj=>?_);have aT:=Bt E ao.lt;have aU:=Bt E ap.lt;have aV:=Bt E aq.lt;refine Az rfl rfl aB Ah rfl rfl (λav J b b8=>?_);refine A8 rfl<|A4<|A3 rfl<|A3 rfl<|Cc rfl rfl rfl (λF=>?_) (λF=>?_);refine A1 (.fa Av rfl BI dD rfl)<|AE F<|Aj (Ae (C5 _) rfl J rfl)<|AE F<|A1 (.eql rfl rfl)<|A1 (.pkT rfl F rfl)<|Ch BQ rfl rfl ((E5 _ _)) (λbn V K a=>?_) (λbo V K a=>?_);exact Dp (CB K).1 (show ¬ (decide ((8:Int)=8)=false) by decide);have a5:=DM.same (w1:=V) (DM.same (w1:=av) (DM.same (w1:=au) (DM.same (w1:=aJ) (DM.same (w1:=a3) (DM.same (w1:=a2) (DM.same (w1:=aj) (DM.same (w1:=U) (DM.same (w1:=a0) (DM.same (w1:=aH) (DM.same (w1:=ab) (DM.same (w1:=aE) (DM.same (w1:=aD) b0 (λk hk hl=>N.other k oO)) (λk hk hl=>A.other k oO)) (λk hk hl=>l.other k oO)) (λk hk hl=>j.2.block k hl)) (λk hk hl=>g.1.block k hl)) (λk hk hl=>c.other k oO)) (λk hk hl=>d.other k oM)) (λk hk hl=>e.block k hl)) (λk hk hl=>f.block k hl)) (λk hk hl=>u.block k hl)) (λk hk hl=>i.other k oO)) (λk hk hl=>b.other k oM)) (λk hk hl=>a.block k hl);have a6:=((ao.un i aT).up b).bl a
  have a7:=((ap.un i aU).up b).bl a;have a8:=Ci (BR (uB (Ci (Ci (Ci (BR (uB (Ci (Ci (uB (uB (uB (Dh w) b4 N) aF A) P l) j.2) g.1) C c) oO d) e) f) u) E i) oO b) a;refine A0<|A4<|A3 rfl<|A1 (.fa Av rfl BI dD rfl)<|Aj (Ae (C5 _) rfl (J.bl a) rfl)<|EE BQ rfl rfl ((A29 X bf os H nd _ Q res hn1 ho hps (hNA _) _ (((aq.un i aV).up b).bl a) (((AK.same (w1:=V) (AK.same (w1:=av) (AK.same (w1:=au) (AK.same (w1:=aJ) (AK.same (w1:=a3) (AK.same (w1:=a2) ak (λk hk hl=>e.block k hl)) (λk hk hl=>f.block k hl)) (λk hk hl=>u.block k hl)) (λk hk hl=>i.other k oO)) (λk hk hl=>b.other k oM)) (λk hk hl=>a.block k hl))).mono (λk h _=>by omega)) ⟨Nat.lt_of_lt_of_le (a5).at' oO,(a5).blk⟩)) (λaW aX y m=>?_) (λbp bq aX y m=>?_);exact HQ A3s (λw'=>_) (RG b1 b5 w.heap.size _ _ aW _ ((a6).below m oO) ((a7).below m oO) oO oO)
    (λw' hS=>⟨_,No rfl rfl rfl (B2 hS.1 (isAgg41 _) rfl) (B2 hS.2.1 (Eh _) rfl),Ex a8 (Ex (Below.mono m oO) hS.2.2),by rw [y];rfl⟩)
  obtain ⟨-,aw,s,v,px,b9,aM,ba,ai,L,M,hL,hq⟩:=m;have bb:=y;obtain ⟨pp,pc,ev,aN,-,-,-,bc,-,-⟩:=aM.row;have G:0 < [px].length->X+1<=(pA pp).block:=λh0=>(aM.lt _ (by rw [bc,aN.isp h0];rfl)).1
  subst ev;refine A0<|A4<|A3 rfl<|A1 (.nck rfl)<|A1 (.fa NS rfl OO dD rfl)<|Aj (Ae (isAgg41 _) rfl b9 rfl)<|C2 ((a6).below aw oO) OO (λaY ax o bd=>?_);refine C2 (((a7).below aw oO).up o) Fd (λaZ ay t be=>?_);have aC:=QF.same (w1:=aZ) (QF.same (w1:=aY) hq (λk hk hl=>o.other k oM)) (λk hk hl=>t.other k oM);refine A0<|AU ?_;exact CX.ret A3s (λw'=>_) (SU b1 b5 _) (λw' hS=>by
    subst hS;exact ⟨_,No rfl rfl rfl (B2 (ax.up t) (isAgg41 _) rfl) (B2 ay (Eh _) rfl),(BR (BR (Ex a8 (Below.mono aw oO)) oO o) oO t),by rw [bb];exact ⟨_,_,_,rfl,(AA.upd (AA.upd aN o (λh0=>by have:=G h0;omega)) t (λh0=>by have:=G h0;omega)),ba,ai,_,_,aC⟩⟩)
  exact Dp (show (De rt [80,97,103,101,115]).isSome=false by assumption) (by rw [hp];simp)
end
end Go.Proofs.YtiddobdioipidaaGreatDoor
