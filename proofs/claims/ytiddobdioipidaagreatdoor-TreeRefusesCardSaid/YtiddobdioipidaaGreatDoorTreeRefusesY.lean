/-
  The law TreeRefuses: Pages answers a file of one page, its box, fonts, filters and contents in order, or says why not. No condition beyond the row's own.
-/
import Derived.Test.YtiddobdioipidaaGreatDoorTr6
set_option maxHeartbeats 6400000
set_option maxRecDepth 100000
namespace Go.Proofs.YtiddobdioipidaaGreatDoor
open Go.RowKit
open Go.Proofs.Tryz
variable {pa pb:Addr} {aft:Array Edge} {ops:Array Oper} {ats:Array TypeId} {args cs:Array Value} {st:Bool} {Q:Exit->Fr->World->Prop} {f:Fr} {F:FuncId} {D a:Int} {ks:List (List UInt8)} {ns:List Int} {A d l s:List UInt8} {vs xs:List Value} {B M N c i id j wk:Nat} {S T:Nat->Prop} {x y:Operand} {dp p:Option Addr} {P:Program} {pos:String} {α ι:Type} {E e ta tb tx ty:TypeId} {u v z:Value} {w w1:World} {S':World->Prop}
section
def RfS (bx:List AV) (t:l8_) (want:Int) (fl:Bool):Prop :=
 (∃ a wd:Int,bx=[oN a,oN 0,oN wd,oN 7]/\(-32768<=a/\a<=32767)/\(-32768<=wd/\wd<=32767)/\want=if Sw a wd=true then (if Ew t<14 then (if fl=true then 22 else 0) else 26) else 22) \/
 (∃ a wd:Int,bx=[oN a,oN 0,oN wd]/\(-32768<=a/\a<=32767)/\(-32768<=wd/\wd<=32767)/\want=22)
def Dt:l8_:=[67,111,117,114,105,101,114]
theorem BX  {kp lp:Option Addr} {ys:List AC} {os:List AV} (hk:AM F4 w kp ks) (hks:∀ k∈ks,k.length<=9223372036854775807) (hkS:0<ks.length->S (pA kp).block) (hr:AA Fi w lp ys) (hA:AJ w S ys os) (hrS:0<ys.length->S (pA lp).block) (hd:Af w dp d) (hdS:0<d.length->S (pA dp).block)
  (h1:ks.length<=1000) (h2:ys.length<=1000) (h3:d.length<=1000):At w S ⟨9,0,[],kp,ks.length,ks.length,lp,ys.length,ys.length,dp,d.length,d.length⟩ (oS ks os d) :=
 .mk ⟨9,0,[],kp,ks.length,ks.length,lp,ys.length,ys.length,dp,d.length,d.length⟩ ks os d ys ⟨by show _<=(0:Int)/\(0:Int)<=_;decide,by show ([]:l8_).length<=_;simp,rfl,rfl,rfl,DS _,DS _,DS _,by show ks.length<=_;omega,by show ys.length<=_;omega,by show d.length<=_;omega⟩ hks hk hkS hr hrS hd hdS hA.len hA.sub
theorem Rh (w:World) (S:Nat->Prop):∀ (l:List Int),(∀ n∈l,-32768<=n/\n<=32767)->AJ w S (l.map λn=>Cx (DR 2 n [])) (l.map oN)
 | [],_=>AJ.nil _ _
 | n::l,h=>AJ.cons (E9 w S 2 n [] (by have:=h n (by simp);omega) (by simp)) (Rh w S l λm hm=>h m (by simp [hm]))
theorem BY  {b:Nat} (l:List Int) (hl:∀ n∈l,-32768<=n/\n<=32767) (h4:l.length<=4) (hr:AA Fi w (some ⟨b,0,none⟩) (l.map λn=>Cx (DR 2 n []))):At w (λq=>q<w.heap.size) (G7 (some ⟨b,0,none⟩) l.length 4) (oA (l.map oN)):=by
 have:=Oa (c:=4) hr (Rh w (λq=>q<w.heap.size) l hl) (by rw [Bo];omega) dD (λa=>hr.lt a)
 rw [Bo] at this
 exact this
theorem RfS.bx {bx:List AV} {t:l8_} {want:Int} {fl:Bool} (h:RfS bx t want fl):O6 bx:=by
 have d:∃ n,oN 0=oN n/\-32768<=n/\n<=32767:=⟨0,rfl,dD⟩
 have e:∃ n,oN 7=oN n/\-32768<=n/\n<=32767:=⟨7,rfl,dD⟩
 rcases h with ⟨a,wd,rfl,b,c,-⟩ | ⟨a,wd,rfl,b,c,-⟩
 · exact ⟨by simp,all_cons ⟨a,rfl,b⟩ (all_cons d (all_cons ⟨wd,rfl,c⟩ (all_cons e C0)))⟩
 · exact ⟨by simp,all_cons ⟨a,rfl,b⟩ (all_cons d (all_cons ⟨wd,rfl,c⟩ C0))⟩
theorem RfS.res {bx:List AV} {t:l8_} {want:Int} {fl:Bool} (h:RfS bx t want fl) (os:List AV):(match FY os (Y6 fl) (Fg (UH bx t) ⟨none,none⟩) YT with | .error k=>k | .ok _=>0)=want/\∀ k,FY os (Y6 fl) (Fg (UH bx t) ⟨none,none⟩) YT=.error k->k≠0:=by
 rcases h with ⟨a,wd,rfl,c,d,b⟩ | ⟨a,wd,rfl,c,d,b⟩
 ·
  rw [A0D a wd t fl os YT (λ_=>rfl) c d,b]
  by_cases c1:Sw a wd=true
  ·
   by_cases c2:Ew t<14
   · cases fl <;> simp [c1,c2]
   · simp [c1,c2]
  · simp [c1]
 ·
  rw [Yc,b]
  exact ⟨rfl,λk h=>by cases h;decide⟩
theorem A1H (wd:Int):Sw 0 wd=decide (1<=wd/\wd<=14400):=by unfold Sw;simp
theorem CI (wd want0:Int) (t:l8_) (h:want0=if wd<1\/14400<wd then 22 else 0):(if want0=0/\¬ Ew t<14 then 26 else want0)=if Sw 0 wd=true then (if Ew t<14 then (if false=true then 22 else 0) else 26) else 22:=by
  by_cases c1:wd<1\/14400<wd
  · have e : Sw 0 wd = false := by rw [A1H]; exact AH oO
    rw [A5 c1] at h;subst h;rw [A2 (by simp),e];rfl
  · have e : Sw 0 wd = true := by rw [A1H]; exact AR oO
    rw [A2 c1] at h;subst h;rw [e]
    by_cases c2:Ew t<14 <;> simp [c2]
theorem Fx (s:l8_):(if Ew s<14 then (Ew s:Int) else -1)<0↔¬ Ew s<14:=by split <;> omega
theorem A2g  {cs:List AC} {b:Nat} {t:TypeId} (h:AA Fi w p cs) (h0:0<cs.length) (h8:cs[0].kind≠0) (hb:B4 w b (D3 (Cx (DR 0 0 []))).toArray t):(pA p).block≠b:=λe=>by
  have h1:=h.cells 0 h0 0 dD
  rw [Nat.zero_mul,D5,EM] at h1
  have h2:(Fi.V cs[0])[0]?=some (Ag cs[0].kind):=rfl
  have h3:=h1.trans h2
  generalize pA p=a at h3 e
  obtain ⟨b',o,sp⟩:=a
  obtain rfl:b'=b:=e
  unfold World.cell? at h3
  unfold B4 at hb
  simp only [hb] at h3
  cases sp with
  | some s=>simp at h3
  | none=>match o,h3 with
    | 0, h3 => exact h8 (by have h4 : (0 : Int) = cs[0].kind := by simpa [D3, Cx, DR] using h3
                            exact h4.symm)
    | 1, h3 => exact h8 (by have h4 : (0 : Int) = cs[0].kind := by simpa [D3, Cx, DR] using h3
                            exact h4.symm)
    | 2,h3=>simp [D3,Cx,DR] at h3
    | 3,h3=>simp [D3,Cx,DR] at h3
    | 4,h3=>simp [D3,Cx,DR] at h3
    | 5,h3=>simp [D3,Cx,DR] at h3
    | n+6,h3=>simp [D3] at h3
theorem A2A {w:World} {p:Option Addr} {ks:List (l8_)} {b:Nat} {t:TypeId} (h:AM F4 w p ks) (h0:0<ks.length) (h8:ks[0]≠[]) (hb:B4 w b (D3 (Cx (DR 0 0 []))).toArray t):(pA p).block≠b:=λe=>by
 have h3:=h.cells 0 h0
 rw [EM] at h3
 generalize pA p=a at h3 e
 obtain ⟨b',o,sp⟩:=a
 obtain rfl:b'=b:=e
 unfold World.cell? at h3
 unfold B4 at hb
 simp only [hb] at h3
 cases sp with
 | some s=>simp at h3
 | none=>match o,h3 with
  | 0,h3=>simp [D3,Cx,DR,F4] at h3
  | 1,h3=>simp [D3,Cx,DR,F4] at h3
  | 2,h3 =>
   have h4:bs []=bs ks[0]:=by simpa [D3,Cx,DR,F4] using h3
   exact h8 (List.toArray_inj (BH ByteArray.data h4)).symm
  | 3,h3=>simp [D3,Cx,DR,F4] at h3
  | 4,h3=>simp [D3,Cx,DR,F4] at h3
  | 5,h3=>simp [D3,Cx,DR,F4] at h3
  | n+6,h3=>simp [D3] at h3
theorem A2O {w:World} {p:Option Addr} {d:l8_} {b:Nat} {t:TypeId} (h:Af w p d) (h0:0<d.length) (hb:B4 w b (D3 (Cx (DR 0 0 []))).toArray t):(pA p).block≠b:=λe=>by
 have h3:=h.cells 0 h0
 rw [EM] at h3
 generalize pA p=a at h3 e
 obtain ⟨b',o,sp⟩:=a
 obtain rfl:b'=b:=e
 unfold World.cell? at h3
 unfold B4 at hb
 simp only [hb] at h3
 cases sp with
 | some s=>simp at h3
 | none=>match o,h3 with
  | 0,h3=>simp [D3,Cx,DR] at h3
  | 1,h3=>simp [D3,Cx,DR] at h3
  | 2,h3=>simp [D3,Cx,DR] at h3
  | 3,h3=>simp [D3,Cx,DR] at h3
  | 4,h3=>simp [D3,Cx,DR] at h3
  | 5,h3=>simp [D3,Cx,DR] at h3
  | n+6,h3=>simp [D3] at h3
theorem A0e  {y:AC} {o:AV} {b:Nat} {t:TypeId} (hb:B4 w b (D3 (Cx (DR 0 0 []))).toArray t) (h:At w S y o):∀ {D:Int} {st:Bool},FJ D st o->PM o->At w (λk=>S k/\k≠b) y o:=by
 induction h with
 | mk x keys list data cs ok hkl hk hks hr hrs hd hds hlen hsub ih =>
  intro D st hS hK
  refine .mk x keys list data cs ok hkl hk (λa=>⟨hks a,?_⟩) hr (λa=>⟨hrs a,?_⟩) hd (λa=>⟨hds a,A2O hd a hb⟩) hlen (λi d c=>ih i d c (hS.sub _ (Ar c)) (PM.mem hK.2 _ (Ar c)))
  ·
   refine A2A hk a ?_ hb
   generalize x.kind=kk at *
   generalize x.n=nn at *
   generalize x.text=tt at *
   cases hS with
   | dict _ _ _ _ _ _ _ _ _ _ hn=>exact (hn _ (Ar a)).1
   | _=>simp at a
  ·
   refine A2g hr a ?_ hb
   have d:=(hsub 0 a oO).kind
   have c:=PM.mem hK.2 _ (Ar (show 0<list.length by omega))
   rw [<- d]
   generalize list[0]=oo at c
   obtain ⟨e,g,j,f,l,m⟩:=oo
   have q:=c.1
   show e≠0
   omega
theorem Gz:Ew Dt<14:=by decide
theorem N9 (which:UInt8) (wd:Int) (nm:l8_) (w:World) (hwd:-32768<=wd/\wd<=32767) (hnl:nm.length<=9223372036854775807) (hN:XA w)
    (hans:∀ w1,XA w1->Calls Tryz.prog 6 #[] w1 λe w'=>e=.returned (.bool true)/\AL w1 w') :
    Cl 5 #[.int .u8 (which.toNat:Int),.int .i16 wd,.string (bs nm)] w (.bool true):=by
  have iF:DM (λk=>k<w.heap.size) w:=⟨hN.lt,hN⟩;refine AF func5 rfl ntmps5 ?_;have iG:=Dh w;refine A4<|A8 rfl<|A4<|Au (KF 0 _) (λw1 f4=>?_);have iH:=DM.same (w1:=w1) iF (λk hk hl=>f4.block k hl);have iI:=Ci iG f4;refine Au (KF 0 _) (λw4 f5=>?_);have iJ:=DM.same (w1:=w4) iH (λk hk hl=>f5.block k hl);have iK:=Ci iI f5;refine A3 rfl<|A1 (.cvt underlying62 ML rfl (Bb oO))<|Au (KF wd _) (λw7 f6=>?_);have iL:=DM.same (w1:=w7) iJ (λk hk hl=>f6.block k hl);have iM:=Ci iK f6;refine Au (KF 7 _) (λiN cb=>?_);have fi:=DM.same (w1:=iN) iL (λk hk hl=>cb.block k hl);have cc:=Ci iM cb;refine CR (L:=Fi) (ps:=_) ([Cx (DR 2 0 []),Cx (DR 2 0 []),Cx (DR 2 wd []),Cx (DR 2 7 [])]) Cg Dd CA rfl rfl rfl rfl rfl (by rfl) rfl rfl (λs cd cf bI bJ jS=>?_);have fj:=DM.same (w1:=cd) fi (λk hk hl=>bJ.other k oO);have fk:=uB cc cf bJ;have iO:=CW cf cc.size;have cg:s<=cd.heap.size:=by omega
  have jT:=((bI).lt _ rfl).2;obtain ⟨bR,iP⟩:=eX s;refine Au (VM _ 4 4 _) (λiQ b8=>?_);have dd:=CT cg b8.size;have fm:=AO.below bI b8;have fn:=DM.same (w1:=iQ) fj (λk hk hl=>b8.block k hl);have ci:=Ci fk b8;have k5:=(b8).size;refine Bm CA rfl (λaL fo bp de aZ jU=>?_);have df:=CT dd aZ.size;have fp:=Ix fm bp aZ;have fq:=DM.same (w1:=fo) fn (λk hk hl=>aZ.other k oO);have fr:=uB ci bp aZ;have iR:=CW bp ci.size;refine Az rfl rfl de Ah rfl rfl (λiS bK a' jV=>?_);have dg:=CT df a'.size;have fs:=TP fp a' ((λg hg e=>by have h7:s=g:=Bi hg;omega));have ft:=DM.same (w1:=iS) fq (λk hk hl=>a'.other k oM);have cj:=BR fr oO a';refine A0<|A4<|A8 rfl<|A4<|CC (ps:=_) B1 EC Li rfl rfl rfl rfl rfl pR rfl (λB fu bi dh aU jW=>?_);have di:=CT dg aU.size;have fv:=Ix fs bi aU;have fw:=DM.same (w1:=fu) ft (λk hk hl=>aU.other k oO);have fx:=Bt bi bK.lt;have fy:=bK.un aU fx;have fz:=uB cj bi aU;have iT:=CW bi cj.size;refine LM ([110]) B1 Ga rfl dh rfl rfl (λiU f7 aV jX=>?_);have dj:=CT di aV.size;have fA:=TP fv aV ((λg hg e=>by have h7:s=g:=Bi hg;omega));have fB:=DM.same (w1:=iU) fw (λk hk hl=>aV.other k oM);have ck:=fy.up aV;have cl:=BR fz oO aV;refine A1 (.buildL (ps:=_) Ec rfl rfl rfl pS) ?_;refine Bm CA rfl (λah fC b9 dk aO jY=>?_);have dl:=CT dj aO.size;have fD:=Ix fA b9 aO;have fE:=DM.same (w1:=fC) fB (λk hk hl=>aO.other k oO);have fF:=Bt b9 ck.lt;have fG:=ck.un aO fF;have b0:=λc=>b9▸f7.lt c
  have fH:=Cy f7 aO b0;have fI:=uB cl b9 aO;have iV:=CW b9 cl.size;refine Az rfl rfl dk Ah rfl rfl (λf8 E aP jZ=>?_);have b1:=CT dl aP.size;have P:=TP fD aP ((λg hg e=>by have h7:s=g:=Bi hg;omega));have Q:=DM.same (w1:=f8) fE (λk hk hl=>aP.other k oM);have H:=fG.up aP;have D:=Cy fH aP b0;have J:=BR fI oO aP;refine A0<|A4<|A8 rfl<|Mz (α:=Int) (λt=>[(0,.int .u8 (which.toNat:Int)),(1,.int .i16 wd),(2,.string (bs nm)),(6,.bool false),(7,ptV aL),(8,.string (bs Dt)),(9,ptV ah),(10,Ag t)]) (λt w'=>f8=w'/\t=if wd<1\/14400<wd then 22 else 0) ?_ (λt w1 hR=>?_);refine FG 36 (decide (wd<1\/14400<wd)) ?_ ?_;refine An<|A3 rfl<|A1 (.lss rfl rfl)<|A3 rfl<|Cc rfl rfl rfl (λba=>?_) (λba=>?_)
  · have fJ := dF ba
    refine A3 rfl<|AE ba<|A1 (.gtr rfl rfl)<|A1 (.pkF rfl ba rfl)<|A0<|?_;exact ⟨GC (DI rfl (by (simp;omega))),rfl⟩
  have fJ:=dT ba;refine B6 ba<|A1 (.pkT rfl ba rfl)<|A0<|?_;exact ⟨GC (DI rfl (by (simp;omega))),rfl⟩;refine Ai rfl (λcm=>?_) (λcm=>?_)
  · have fK := dT cm
    refine An<|A8 rfl ?_
    first
    | exact ⟨22,⟨rfl,rfl,rfl,rfl,rfl,rfl,rfl,rfl,tT⟩,rfl,(A5 (dT aS)).symm⟩
    | exact ⟨0,⟨rfl,rfl,rfl,rfl,rfl,rfl,rfl,rfl,tT⟩,rfl,(A2 (dF aS)).symm⟩
  have fK:=dF cm;refine As ?_
  first
  | exact ⟨22,⟨rfl,rfl,rfl,rfl,rfl,rfl,rfl,rfl,tT⟩,rfl,(A5 (dT aS)).symm⟩
  | exact ⟨0,⟨rfl,rfl,rfl,rfl,rfl,rfl,rfl,rfl,tT⟩,rfl,(A2 (dF aS)).symm⟩
  obtain ⟨f,cn⟩:=eX t;subst cn;obtain ⟨rfl,G⟩:=hR;refine Mz (α:=AC × AC × List AV × l8_ × Int × Bool) (λt=>[(6,.bool false),(7,ptV aL),(8,.string (bs t.2.2.2.1)),(9,ptV ah),(10,Ag t.2.2.2.2.1)]) (λt w'=>AL w w'/\DM (λk=>k<w.heap.size) w'/\B4 w' aL (D3 t.1).toArray 27/\At w' (λq=>q<w'.heap.size) t.1 (oA t.2.2.1)/\B4 w' ah (D3 t.2.1).toArray 27/\At w' (λq=>q<w'.heap.size) t.2.1 (Y6 t.2.2.2.2.2)/\t.2.2.2.1.length<=9223372036854775807/\RfS t.2.2.1 t.2.2.2.1 t.2.2.2.2.1 t.2.2.2.2.2) ?_ (λt w1 hR=>?_);refine A4<|A3 rfl<|A1 (.rem rfl rfl oO (Int.tmod_eq_emod_of_nonneg oO))<|A0<|AT<|A4<|A1 (.eql rfl rfl)<|A8 rfl<|Ai rfl (λco=>?_) (λco=>?_)
  · have fL := dT co
    refine A4<|CC (ps:=_) DD FP z9_ rfl rfl rfl rfl rfl pR rfl (λaW fM aX dm ap j'=>?_);have dn:=CT b1 ap.size;have fN:=Ix P aX ap;have fO:=DM.same (w1:=fM) Q (λk hk hl=>ap.other k oO);have fP:=Bt aX H.lt;have fQ:=H.un ap fP;have fR:=Bt aX E.lt;have fS:=E.un ap fR;have dp:=λc=>aX▸D.lt c
    have cq:=Cy D ap dp;have fT:=uB J aX ap;have iW:=CW aX J.size;have f9:=AA.lit (V:=GZ) (l:=[VO]) dm (rfl);refine Au (Jn Si _) (λiX aM=>?_);have dq:=CT dn aM.size;have fU:=AO.below fN aM;have fV:=DM.same (w1:=iX) fO (λk hk hl=>aM.block k hl);have cr:=fQ.bl aM;have ct:=fS.bl aM;have cu:=Fh cq aM (λc=>cq.lt c);have cv:=Ea f9 aM (λc=>f9.lt c);have cw:=Ci fT aM;refine CR (L:=Fi) (ps:=_) ([Cx (DR 4 0 Si)]) Cg Dd CA rfl rfl rfl rfl rfl (by rfl) rfl rfl (λbL cy aR bM am k0=>?_);have dr:=CT dq am.size;have fW:=Ix fU aR am;have fX:=DM.same (w1:=cy) fV (λk hk hl=>am.other k oO);have fY:=Bt aR cr.lt;have fZ:=cr.un am fY;have f':=Bt aR ct.lt;have g0:=ct.un am f';have ds:=λc=>aR▸cu.lt c
    have g1:=Cy cu am ds;have dt:=λc=>aR▸cv.lt c
    have g2:=AA.upd cv am (λc=>CV (dt c));have g3:=uB cw aR am;have iY:=CW aR cw.size;have cz:bL<=cy.heap.size:=by omega
    have k1:=((bM).lt _ rfl).2;refine A1 (.fa Av rfl E6 dD rfl)<|BA E6 rfl rfl rfl g0 (by exact Nat.le_of_ble_eq_true rfl) (λfb bj a9 k2=>?_);have bj:B4 fb ah _ _:=bj;have a9:CP ah _ _:=a9;have du:=CT dr a9.size;have g4:=TP fW a9 ((λg hg e=>by have h7:s=g:=Bi hg;omega));have cA:=CT cz a9.size;have g5:=TP bM a9 ((λg hg e=>by have h7:bL=g:=Bi hg;omega));have dv:=DM.same (w1:=fb) fX (λk hk hl=>a9.other k oM);have dw:=fZ.up a9;have dx:=Cy g1 a9 b0;have dy:=AA.upd g2 a9 (λc=>by show (aW:Nat)≠_;omega);have dz:=BR g3 oO a9;refine A1 (.fa Av rfl CQ dD rfl)<|BA CQ rfl rfl rfl bj (by exact Nat.le_of_ble_eq_true rfl) (λcB aa a7 iZ=>?_);have aa:B4 cB ah _ _:=aa;have a7:CP ah _ _:=a7;have i':=CT du a7.size;have aq:=TP g4 a7 ((λg hg e=>by have h7:s=g:=Bi hg;omega));have j0:=CT cA a7.size;have bN:=TP g5 a7 ((λg hg e=>by have h7:bL=g:=Bi hg;omega));have ar:=DM.same (w1:=cB) dv (λk hk hl=>a7.other k oM);have au:=dw.up a7;have X:=Cy dx a7 b0;have bO:=AA.upd dy a7 (λc=>by show (aW:Nat)≠_;omega);have av:=BR dz oO a7;refine A0<|An<|A8 rfl ?_
    first
    | exact ⟨((G7 (some ⟨s,0,none⟩) 4 4),⟨9,0,[],some ⟨aW,0,none⟩,1,1,some ⟨bL,0,none⟩,1,1,some ⟨B,0,none⟩,1,1⟩,[oN 0,oN 0,oN wd,oN 7],Dt,22,true),⟨rfl,rfl,rfl,rfl,rfl,tT⟩,av,ar,au,BY [0,0,wd,7] (λn hn=>by simp at hn;omega) (by simp) (aq).rowp,aa,BX (ks:=[VO]) (ys:=[Cx (DR 4 0 Si)]) (os:=[oNm Si]) (d:=[110]) (bO).strs dD (λc=>(bO).lt c) (bN).rowp (AJ.cons (E9 _ _ 4 0 _ dD dD) (AJ.nil _ _)) (λc=>(bN).rowp.lt c) X (λc=>(X).lt c) dD dD dD,(show Dt.length<=9223372036854775807 by decide),.inl ⟨0,wd,rfl,dD,hwd,by rw [A5 Gz,A5 rfl];split <;> rfl⟩⟩
    | exact ⟨((G7 (some ⟨s,0,none⟩) 3 4),⟨9,0,[],none,0,0,none,0,0,some ⟨B,0,none⟩,1,1⟩,[oN 0,oN 0,oN wd],Dt,22,false),⟨rfl,rfl,rfl,rfl,rfl,tT⟩,av,ar,au,BY [0,0,wd] (λn hn=>by simp at hn;omega) (by simp) ((aq).cutc 3 (by simp)).rowp,aa,BX (ks:=[]) (ys:=[]) (os:=[]) (d:=[110]) (AM.nil _) (by simp) (by simp) (AA.nil _) (AJ.nil _ _) (by simp) X (λc=>(X).lt c) dD dD dD,(show Dt.length<=9223372036854775807 by decide),.inr ⟨0,wd,rfl,dD,hwd,rfl⟩⟩
    | exact ⟨((G7 (some ⟨s,0,none⟩) 4 4),⟨9,0,[],none,0,0,none,0,0,some ⟨B,0,none⟩,1,1⟩,[oN 1,oN 0,oN wd,oN 7],Dt,22,false),⟨rfl,rfl,rfl,rfl,rfl,tT⟩,av,ar,au,BY [1,0,wd,7] (λn hn=>by simp at hn;omega) (by simp) (aq).rowp,aa,BX (ks:=[]) (ys:=[]) (os:=[]) (d:=[110]) (AM.nil _) (by simp) (by simp) (AA.nil _) (AJ.nil _ _) (by simp) X (λc=>(X).lt c) dD dD dD,(show Dt.length<=9223372036854775807 by decide),.inl ⟨1,wd,rfl,dD,hwd,by rw [A2 (by simp [Sw])]⟩⟩
    | exact ⟨((G7 (some ⟨s,0,none⟩) 4 4),⟨9,0,[],none,0,0,none,0,0,some ⟨B,0,none⟩,1,1⟩,[oN 0,oN 0,oN wd,oN 7],nm,26,false),⟨rfl,rfl,rfl,rfl,rfl,tT⟩,av,ar,au,BY [0,0,wd,7] (λn hn=>by simp at hn;omega) (by simp) (aq).rowp,aa,BX (ks:=[]) (ys:=[]) (os:=[]) (d:=[110]) (AM.nil _) (by simp) (by simp) (AA.nil _) (AJ.nil _ _) (by simp) X (λc=>(X).lt c) dD dD dD,hnl,.inl ⟨0,wd,rfl,dD,hwd,by rw [<- CI wd f nm G,A5 ⟨aS,(Fx _).1 aS⟩]⟩⟩
    | exact ⟨((G7 (some ⟨s,0,none⟩) 4 4),⟨9,0,[],none,0,0,none,0,0,some ⟨B,0,none⟩,1,1⟩,[oN 0,oN 0,oN wd,oN 7],nm,f,false),⟨rfl,rfl,rfl,rfl,rfl,tT⟩,av,ar,au,BY [0,0,wd,7] (λn hn=>by simp at hn;omega) (by simp) (aq).rowp,aa,BX (ks:=[]) (ys:=[]) (os:=[]) (d:=[110]) (AM.nil _) (by simp) (by simp) (AA.nil _) (AJ.nil _ _) (by simp) X (λc=>(X).lt c) dD dD dD,hnl,.inl ⟨0,wd,rfl,dD,hwd,by rw [<- CI wd f nm G,A2 (λq=>Dp ((Fx _).2 q.2) aS)]⟩⟩
    | exact ⟨((G7 (some ⟨s,0,none⟩) 4 4),⟨9,0,[],none,0,0,none,0,0,some ⟨B,0,none⟩,1,1⟩,[oN 0,oN 0,oN wd,oN 7],nm,f,false),⟨rfl,rfl,rfl,rfl,rfl,tT⟩,av,ar,au,BY [0,0,wd,7] (λn hn=>by simp at hn;omega) (by simp) (aq).rowp,aa,BX (ks:=[]) (ys:=[]) (os:=[]) (d:=[110]) (AM.nil _) (by simp) (by simp) (AA.nil _) (AJ.nil _ _) (by simp) X (λc=>(X).lt c) dD dD dD,hnl,.inl ⟨0,wd,rfl,dD,hwd,by rw [<- CI wd f nm G,A2 (λq=>Dp q.1 aS)]⟩⟩
    | exact ⟨((G7 (some ⟨s,0,none⟩) 4 4),⟨9,0,[],none,0,0,none,0,0,some ⟨B,0,none⟩,1,1⟩,[oN 0,oN 0,oN wd,oN 7],Dt,f,false),⟨rfl,rfl,rfl,rfl,rfl,tT⟩,av,ar,au,BY [0,0,wd,7] (λn hn=>by simp at hn;omega) (by simp) (aq).rowp,aa,BX (ks:=[]) (ys:=[]) (os:=[]) (d:=[110]) (AM.nil _) (by simp) (by simp) (AA.nil _) (AJ.nil _ _) (by simp) X (λc=>(X).lt c) dD dD dD,(show Dt.length<=9223372036854775807 by decide),.inl ⟨0,wd,rfl,dD,hwd,by rw [<- CI wd f Dt G,A2 (λh=>h.2 Gz)]⟩⟩
  have fL:=dF co;refine A4<|A1 (.eql rfl rfl)<|A8 rfl<|Ai rfl (λbb=>?_) (λbb=>?_)
  · have dA := dT bb
    refine A4<|A1 (.fa Av rfl CQ dD rfl)<|Aj (Ae (DW _) rfl H rfl)<|A1 (.slmT Cg Dd rfl rfl 3 rfl (show (3:Nat)<=4 by decide))<|A1 (.fa Av rfl CQ dD rfl)<|BA CQ rfl rfl rfl H (by exact Nat.le_of_ble_eq_true rfl) (λcC ab ae j7=>?_);have ab:B4 cC aL _ _:=ab;have ae:CP aL _ _:=ae;have j8:=CT b1 ae.size;have aw:=TP P ae ((λg hg e=>by have h7:s=g:=Bi hg;omega));have ax:=DM.same (w1:=cC) Q (λk hk hl=>ae.other k oM);have ay:=E.up ae;have a0:=Af.upd D ae (λc=>by show (B:Nat)≠_;omega);have az:=BR J oO ae;refine A0<|An<|A8 rfl ?_
    first
    | exact ⟨((G7 (some ⟨s,0,none⟩) 4 4),⟨9,0,[],some ⟨aW,0,none⟩,1,1,some ⟨OB,0,none⟩,1,1,some ⟨B,0,none⟩,1,1⟩,[oN 0,oN 0,oN wd,oN 7],Dt,22,true),⟨rfl,rfl,rfl,rfl,rfl,tT⟩,az,ax,ab,BY [0,0,wd,7] (λn hn=>by simp at hn;omega) (by simp) (aw).rowp,ay,BX (ks:=[VO]) (ys:=[Cx (DR 4 0 Si)]) (os:=[oNm Si]) (d:=[110]) (VIEW).strs dD (λc=>(VIEW).lt c) (OWN).rowp (AJ.cons (E9 _ _ 4 0 _ dD dD) (AJ.nil _ _)) (λc=>(OWN).rowp.lt c) a0 (λc=>(a0).lt c) dD dD dD,(show Dt.length<=9223372036854775807 by decide),.inl ⟨0,wd,rfl,dD,hwd,by rw [A5 Gz,A5 rfl];split <;> rfl⟩⟩
    | exact ⟨((G7 (some ⟨s,0,none⟩) 3 4),⟨9,0,[],none,0,0,none,0,0,some ⟨B,0,none⟩,1,1⟩,[oN 0,oN 0,oN wd],Dt,22,false),⟨rfl,rfl,rfl,rfl,rfl,tT⟩,az,ax,ab,BY [0,0,wd] (λn hn=>by simp at hn;omega) (by simp) ((aw).cutc 3 (by simp)).rowp,ay,BX (ks:=[]) (ys:=[]) (os:=[]) (d:=[110]) (AM.nil _) (by simp) (by simp) (AA.nil _) (AJ.nil _ _) (by simp) a0 (λc=>(a0).lt c) dD dD dD,(show Dt.length<=9223372036854775807 by decide),.inr ⟨0,wd,rfl,dD,hwd,rfl⟩⟩
    | exact ⟨((G7 (some ⟨s,0,none⟩) 4 4),⟨9,0,[],none,0,0,none,0,0,some ⟨B,0,none⟩,1,1⟩,[oN 1,oN 0,oN wd,oN 7],Dt,22,false),⟨rfl,rfl,rfl,rfl,rfl,tT⟩,az,ax,ab,BY [1,0,wd,7] (λn hn=>by simp at hn;omega) (by simp) (aw).rowp,ay,BX (ks:=[]) (ys:=[]) (os:=[]) (d:=[110]) (AM.nil _) (by simp) (by simp) (AA.nil _) (AJ.nil _ _) (by simp) a0 (λc=>(a0).lt c) dD dD dD,(show Dt.length<=9223372036854775807 by decide),.inl ⟨1,wd,rfl,dD,hwd,by rw [A2 (by simp [Sw])]⟩⟩
    | exact ⟨((G7 (some ⟨s,0,none⟩) 4 4),⟨9,0,[],none,0,0,none,0,0,some ⟨B,0,none⟩,1,1⟩,[oN 0,oN 0,oN wd,oN 7],nm,26,false),⟨rfl,rfl,rfl,rfl,rfl,tT⟩,az,ax,ab,BY [0,0,wd,7] (λn hn=>by simp at hn;omega) (by simp) (aw).rowp,ay,BX (ks:=[]) (ys:=[]) (os:=[]) (d:=[110]) (AM.nil _) (by simp) (by simp) (AA.nil _) (AJ.nil _ _) (by simp) a0 (λc=>(a0).lt c) dD dD dD,hnl,.inl ⟨0,wd,rfl,dD,hwd,by rw [<- CI wd f nm G,A5 ⟨aS,(Fx _).1 aS⟩]⟩⟩
    | exact ⟨((G7 (some ⟨s,0,none⟩) 4 4),⟨9,0,[],none,0,0,none,0,0,some ⟨B,0,none⟩,1,1⟩,[oN 0,oN 0,oN wd,oN 7],nm,f,false),⟨rfl,rfl,rfl,rfl,rfl,tT⟩,az,ax,ab,BY [0,0,wd,7] (λn hn=>by simp at hn;omega) (by simp) (aw).rowp,ay,BX (ks:=[]) (ys:=[]) (os:=[]) (d:=[110]) (AM.nil _) (by simp) (by simp) (AA.nil _) (AJ.nil _ _) (by simp) a0 (λc=>(a0).lt c) dD dD dD,hnl,.inl ⟨0,wd,rfl,dD,hwd,by rw [<- CI wd f nm G,A2 (λq=>Dp ((Fx _).2 q.2) aS)]⟩⟩
    | exact ⟨((G7 (some ⟨s,0,none⟩) 4 4),⟨9,0,[],none,0,0,none,0,0,some ⟨B,0,none⟩,1,1⟩,[oN 0,oN 0,oN wd,oN 7],nm,f,false),⟨rfl,rfl,rfl,rfl,rfl,tT⟩,az,ax,ab,BY [0,0,wd,7] (λn hn=>by simp at hn;omega) (by simp) (aw).rowp,ay,BX (ks:=[]) (ys:=[]) (os:=[]) (d:=[110]) (AM.nil _) (by simp) (by simp) (AA.nil _) (AJ.nil _ _) (by simp) a0 (λc=>(a0).lt c) dD dD dD,hnl,.inl ⟨0,wd,rfl,dD,hwd,by rw [<- CI wd f nm G,A2 (λq=>Dp q.1 aS)]⟩⟩
    | exact ⟨((G7 (some ⟨s,0,none⟩) 4 4),⟨9,0,[],none,0,0,none,0,0,some ⟨B,0,none⟩,1,1⟩,[oN 0,oN 0,oN wd,oN 7],Dt,f,false),⟨rfl,rfl,rfl,rfl,rfl,tT⟩,az,ax,ab,BY [0,0,wd,7] (λn hn=>by simp at hn;omega) (by simp) (aw).rowp,ay,BX (ks:=[]) (ys:=[]) (os:=[]) (d:=[110]) (AM.nil _) (by simp) (by simp) (AA.nil _) (AJ.nil _ _) (by simp) a0 (λc=>(a0).lt c) dD dD dD,(show Dt.length<=9223372036854775807 by decide),.inl ⟨0,wd,rfl,dD,hwd,by rw [<- CI wd f Dt G,A2 (λh=>h.2 Gz)]⟩⟩
  have dA:=dF bb;refine A4<|A1 (.eql rfl rfl)<|A8 rfl<|Ai rfl (λbc=>?_) (λbc=>?_)
  · have dB := dT bc
    refine Ad<|F2 5 rfl BS (λg6 aA=>?_);have cD:=HS b1 aA;have dC:=AO.drew P aA;have dE:=DM.same (w1:=g6) Q (λk hk hl=>(by obtain ⟨m,rfl⟩:=aA;rfl));have b2:=H.drew aA;have bP:=E.drew aA;have bQ:=D.drew aA;have dG:=Cn.below J aA;refine AB 0 rfl (.fa Av rfl CQ dD rfl) rfl<|JA [(6,.bool false),(7,ptV aL),(8,.string (bs Dt)),(9,ptV ah),(54,_)] [⟨1,55,[],(λv _=>v=.slice (some ⟨s,0,none⟩) 4 4),false⟩,
  ⟨2,56,[],(λv _=>v=.agg (D3 (Cx (DR 2 1 []))).toArray),false⟩] 2 ⟨rfl,rfl,rfl,rfl,rfl,tT⟩ rfl kR ⟨⟨(λ_ _ _ h _=>h),λh=>nomatch h⟩,⟨(λ_ _ _ h _=>h),λh=>nomatch h⟩,tT⟩ ⟨?_,?_,tT⟩ (λg g7 hs j hE hA=>?_)
    · intro K g w1 hs j hd k
      have b:ET [(54,_)] g:=⟨hs.look rfl,tT⟩;refine ⟨_,rfl,WL.front _ b ?_⟩;refine Aj (Ae (DW _) rfl (b2.below j b2.lt) rfl)<|A0<|?_;exact k _ _ _ (DH.front b) rfl (Fl _ _) (λh=>nomatch h)
    · intro K g w1 hs j hd k
      have b:ET [] g:=trivial;refine ⟨_,rfl,WL.front _ b ?_⟩;refine Au (KF 1 _) (λw5 h5=>A0<|?_);exact k _ _ _ (DH.front b) rfl h5 (λh=>nomatch h)
    obtain ⟨⟨j9,ja,jb⟩,⟨jc,jd,je⟩,-⟩:=hE;refine WY.front [(55,j9),(56,jc),(6,.bool false),(7,ptV aL),(8,.string (bs Dt)),(9,ptV ah),(54,_)] ⟨ja,jd,hs.look rfl,hs.look rfl,hs.look rfl,hs.look rfl,hs.look rfl,tT⟩ ?_;have cE:=CT cD j.size;have bS:=AO.below dC j;have dH:=DM.same (w1:=g7) dE (λk hk hl=>j.block k hl);have dI:=b2.below j b2.lt;have dJ:=bP.below j bP.lt;have dK:=Fh bQ j (λc=>bQ.lt c);have dL:=Ci dG j;subst jb;subst je;refine AB 3 rfl (.ixm Cg Dd rfl rfl rfl 0 rfl dD) rfl<|Ao 4 rfl<|Nn (L:=Fi) (Cx (DR 2 1 [])) (0) bS (by simp) Ah rfl rfl rfl (λg8 cF bg an ai=>?_);have iC:=(bS).lt cF (by rw [bg];rfl);have k6:bR=cF:=iP.trans (BH Addr.block (Bi bg));have aB:=DM.same (w1:=g8) dH (λk hk hl=>an.other k oM);have aC:=dI.up an;have aD:=dJ.up an;have a1:=Af.upd dK an (λc=>by show (B:Nat)≠_;omega);have aE:=BR dL oO an;have jf:=CT cE an.size;refine A0<|Be kR<|An<|A8 rfl ?_
    first
    | exact ⟨((G7 (some ⟨s,0,none⟩) 4 4),⟨9,0,[],some ⟨aW,0,none⟩,1,1,some ⟨OB,0,none⟩,1,1,some ⟨B,0,none⟩,1,1⟩,[oN 0,oN 0,oN wd,oN 7],Dt,22,true),⟨rfl,rfl,rfl,rfl,rfl,tT⟩,aE,aB,aC,BY [0,0,wd,7] (λn hn=>by simp at hn;omega) (by simp) (ai).rowp,aD,BX (ks:=[VO]) (ys:=[Cx (DR 4 0 Si)]) (os:=[oNm Si]) (d:=[110]) (VIEW).strs dD (λc=>(VIEW).lt c) (OWN).rowp (AJ.cons (E9 _ _ 4 0 _ dD dD) (AJ.nil _ _)) (λc=>(OWN).rowp.lt c) a1 (λc=>(a1).lt c) dD dD dD,(show Dt.length<=9223372036854775807 by decide),.inl ⟨0,wd,rfl,dD,hwd,by rw [A5 Gz,A5 rfl];split <;> rfl⟩⟩
    | exact ⟨((G7 (some ⟨s,0,none⟩) 3 4),⟨9,0,[],none,0,0,none,0,0,some ⟨B,0,none⟩,1,1⟩,[oN 0,oN 0,oN wd],Dt,22,false),⟨rfl,rfl,rfl,rfl,rfl,tT⟩,aE,aB,aC,BY [0,0,wd] (λn hn=>by simp at hn;omega) (by simp) ((ai).cutc 3 (by simp)).rowp,aD,BX (ks:=[]) (ys:=[]) (os:=[]) (d:=[110]) (AM.nil _) (by simp) (by simp) (AA.nil _) (AJ.nil _ _) (by simp) a1 (λc=>(a1).lt c) dD dD dD,(show Dt.length<=9223372036854775807 by decide),.inr ⟨0,wd,rfl,dD,hwd,rfl⟩⟩
    | exact ⟨((G7 (some ⟨s,0,none⟩) 4 4),⟨9,0,[],none,0,0,none,0,0,some ⟨B,0,none⟩,1,1⟩,[oN 1,oN 0,oN wd,oN 7],Dt,22,false),⟨rfl,rfl,rfl,rfl,rfl,tT⟩,aE,aB,aC,BY [1,0,wd,7] (λn hn=>by simp at hn;omega) (by simp) (ai).rowp,aD,BX (ks:=[]) (ys:=[]) (os:=[]) (d:=[110]) (AM.nil _) (by simp) (by simp) (AA.nil _) (AJ.nil _ _) (by simp) a1 (λc=>(a1).lt c) dD dD dD,(show Dt.length<=9223372036854775807 by decide),.inl ⟨1,wd,rfl,dD,hwd,by rw [A2 (by simp [Sw])]⟩⟩
    | exact ⟨((G7 (some ⟨s,0,none⟩) 4 4),⟨9,0,[],none,0,0,none,0,0,some ⟨B,0,none⟩,1,1⟩,[oN 0,oN 0,oN wd,oN 7],nm,26,false),⟨rfl,rfl,rfl,rfl,rfl,tT⟩,aE,aB,aC,BY [0,0,wd,7] (λn hn=>by simp at hn;omega) (by simp) (ai).rowp,aD,BX (ks:=[]) (ys:=[]) (os:=[]) (d:=[110]) (AM.nil _) (by simp) (by simp) (AA.nil _) (AJ.nil _ _) (by simp) a1 (λc=>(a1).lt c) dD dD dD,hnl,.inl ⟨0,wd,rfl,dD,hwd,by rw [<- CI wd f nm G,A5 ⟨aS,(Fx _).1 aS⟩]⟩⟩
    | exact ⟨((G7 (some ⟨s,0,none⟩) 4 4),⟨9,0,[],none,0,0,none,0,0,some ⟨B,0,none⟩,1,1⟩,[oN 0,oN 0,oN wd,oN 7],nm,f,false),⟨rfl,rfl,rfl,rfl,rfl,tT⟩,aE,aB,aC,BY [0,0,wd,7] (λn hn=>by simp at hn;omega) (by simp) (ai).rowp,aD,BX (ks:=[]) (ys:=[]) (os:=[]) (d:=[110]) (AM.nil _) (by simp) (by simp) (AA.nil _) (AJ.nil _ _) (by simp) a1 (λc=>(a1).lt c) dD dD dD,hnl,.inl ⟨0,wd,rfl,dD,hwd,by rw [<- CI wd f nm G,A2 (λq=>Dp ((Fx _).2 q.2) aS)]⟩⟩
    | exact ⟨((G7 (some ⟨s,0,none⟩) 4 4),⟨9,0,[],none,0,0,none,0,0,some ⟨B,0,none⟩,1,1⟩,[oN 0,oN 0,oN wd,oN 7],nm,f,false),⟨rfl,rfl,rfl,rfl,rfl,tT⟩,aE,aB,aC,BY [0,0,wd,7] (λn hn=>by simp at hn;omega) (by simp) (ai).rowp,aD,BX (ks:=[]) (ys:=[]) (os:=[]) (d:=[110]) (AM.nil _) (by simp) (by simp) (AA.nil _) (AJ.nil _ _) (by simp) a1 (λc=>(a1).lt c) dD dD dD,hnl,.inl ⟨0,wd,rfl,dD,hwd,by rw [<- CI wd f nm G,A2 (λq=>Dp q.1 aS)]⟩⟩
    | exact ⟨((G7 (some ⟨s,0,none⟩) 4 4),⟨9,0,[],none,0,0,none,0,0,some ⟨B,0,none⟩,1,1⟩,[oN 0,oN 0,oN wd,oN 7],Dt,f,false),⟨rfl,rfl,rfl,rfl,rfl,tT⟩,aE,aB,aC,BY [0,0,wd,7] (λn hn=>by simp at hn;omega) (by simp) (ai).rowp,aD,BX (ks:=[]) (ys:=[]) (os:=[]) (d:=[110]) (AM.nil _) (by simp) (by simp) (AA.nil _) (AJ.nil _ _) (by simp) a1 (λc=>(a1).lt c) dD dD dD,(show Dt.length<=9223372036854775807 by decide),.inl ⟨0,wd,rfl,dD,hwd,by rw [<- CI wd f Dt G,A2 (λh=>h.2 Gz)]⟩⟩
  have dB:=dF bc;refine A4<|A1 (.eql rfl rfl)<|A8 rfl<|Ai rfl (λbq=>?_) (λbq=>?_)
  · have dM := dT bq
    refine A4<|A3 rfl<|A8 rfl<|A4<|A3 rfl<|A1 (.eql rfl rfl)<|A3 rfl<|Cc rfl rfl rfl (λaF=>?_) (λaF=>?_)
    · have dN := dT aF
      refine A3 rfl<|AE aF<|Au (Us nm _) (λg9 aG=>?_);have jg:=CT b1 aG.size;have a2:=AO.below P aG;have a3:=DM.same (w1:=g9) Q (λk hk hl=>aG.block k hl);have a4:=H.bl aG;have a5:=E.bl aG;have C:=Fh D aG (λc=>D.lt c);have a6:=Ci J aG;refine AE aF<|A1 (.lss rfl rfl)<|A1 (.pkT rfl aF rfl)<|A0<|Ai rfl (λbt=>?_) (λbt=>?_)
      · have dO := dT bt
        refine An<|A8 rfl ?_
        first
        | exact ⟨((G7 (some ⟨s,0,none⟩) 4 4),⟨9,0,[],some ⟨aW,0,none⟩,1,1,some ⟨OB,0,none⟩,1,1,some ⟨B,0,none⟩,1,1⟩,[oN 0,oN 0,oN wd,oN 7],Dt,22,true),⟨rfl,rfl,rfl,rfl,rfl,tT⟩,a6,a3,a4,BY [0,0,wd,7] (λn hn=>by simp at hn;omega) (by simp) (a2).rowp,a5,BX (ks:=[VO]) (ys:=[Cx (DR 4 0 Si)]) (os:=[oNm Si]) (d:=[110]) (VIEW).strs dD (λc=>(VIEW).lt c) (OWN).rowp (AJ.cons (E9 _ _ 4 0 _ dD dD) (AJ.nil _ _)) (λc=>(OWN).rowp.lt c) C (λc=>(C).lt c) dD dD dD,(show Dt.length<=9223372036854775807 by decide),.inl ⟨0,wd,rfl,dD,hwd,by rw [A5 Gz,A5 rfl];split <;> rfl⟩⟩
        | exact ⟨((G7 (some ⟨s,0,none⟩) 3 4),⟨9,0,[],none,0,0,none,0,0,some ⟨B,0,none⟩,1,1⟩,[oN 0,oN 0,oN wd],Dt,22,false),⟨rfl,rfl,rfl,rfl,rfl,tT⟩,a6,a3,a4,BY [0,0,wd] (λn hn=>by simp at hn;omega) (by simp) ((a2).cutc 3 (by simp)).rowp,a5,BX (ks:=[]) (ys:=[]) (os:=[]) (d:=[110]) (AM.nil _) (by simp) (by simp) (AA.nil _) (AJ.nil _ _) (by simp) C (λc=>(C).lt c) dD dD dD,(show Dt.length<=9223372036854775807 by decide),.inr ⟨0,wd,rfl,dD,hwd,rfl⟩⟩
        | exact ⟨((G7 (some ⟨s,0,none⟩) 4 4),⟨9,0,[],none,0,0,none,0,0,some ⟨B,0,none⟩,1,1⟩,[oN 1,oN 0,oN wd,oN 7],Dt,22,false),⟨rfl,rfl,rfl,rfl,rfl,tT⟩,a6,a3,a4,BY [1,0,wd,7] (λn hn=>by simp at hn;omega) (by simp) (a2).rowp,a5,BX (ks:=[]) (ys:=[]) (os:=[]) (d:=[110]) (AM.nil _) (by simp) (by simp) (AA.nil _) (AJ.nil _ _) (by simp) C (λc=>(C).lt c) dD dD dD,(show Dt.length<=9223372036854775807 by decide),.inl ⟨1,wd,rfl,dD,hwd,by rw [A2 (by simp [Sw])]⟩⟩
        | exact ⟨((G7 (some ⟨s,0,none⟩) 4 4),⟨9,0,[],none,0,0,none,0,0,some ⟨B,0,none⟩,1,1⟩,[oN 0,oN 0,oN wd,oN 7],nm,26,false),⟨rfl,rfl,rfl,rfl,rfl,tT⟩,a6,a3,a4,BY [0,0,wd,7] (λn hn=>by simp at hn;omega) (by simp) (a2).rowp,a5,BX (ks:=[]) (ys:=[]) (os:=[]) (d:=[110]) (AM.nil _) (by simp) (by simp) (AA.nil _) (AJ.nil _ _) (by simp) C (λc=>(C).lt c) dD dD dD,hnl,.inl ⟨0,wd,rfl,dD,hwd,by rw [<- CI wd f nm G,A5 ⟨aS,(Fx _).1 aS⟩]⟩⟩
        | exact ⟨((G7 (some ⟨s,0,none⟩) 4 4),⟨9,0,[],none,0,0,none,0,0,some ⟨B,0,none⟩,1,1⟩,[oN 0,oN 0,oN wd,oN 7],nm,f,false),⟨rfl,rfl,rfl,rfl,rfl,tT⟩,a6,a3,a4,BY [0,0,wd,7] (λn hn=>by simp at hn;omega) (by simp) (a2).rowp,a5,BX (ks:=[]) (ys:=[]) (os:=[]) (d:=[110]) (AM.nil _) (by simp) (by simp) (AA.nil _) (AJ.nil _ _) (by simp) C (λc=>(C).lt c) dD dD dD,hnl,.inl ⟨0,wd,rfl,dD,hwd,by rw [<- CI wd f nm G,A2 (λq=>Dp ((Fx _).2 q.2) aS)]⟩⟩
        | exact ⟨((G7 (some ⟨s,0,none⟩) 4 4),⟨9,0,[],none,0,0,none,0,0,some ⟨B,0,none⟩,1,1⟩,[oN 0,oN 0,oN wd,oN 7],nm,f,false),⟨rfl,rfl,rfl,rfl,rfl,tT⟩,a6,a3,a4,BY [0,0,wd,7] (λn hn=>by simp at hn;omega) (by simp) (a2).rowp,a5,BX (ks:=[]) (ys:=[]) (os:=[]) (d:=[110]) (AM.nil _) (by simp) (by simp) (AA.nil _) (AJ.nil _ _) (by simp) C (λc=>(C).lt c) dD dD dD,hnl,.inl ⟨0,wd,rfl,dD,hwd,by rw [<- CI wd f nm G,A2 (λq=>Dp q.1 aS)]⟩⟩
        | exact ⟨((G7 (some ⟨s,0,none⟩) 4 4),⟨9,0,[],none,0,0,none,0,0,some ⟨B,0,none⟩,1,1⟩,[oN 0,oN 0,oN wd,oN 7],Dt,f,false),⟨rfl,rfl,rfl,rfl,rfl,tT⟩,a6,a3,a4,BY [0,0,wd,7] (λn hn=>by simp at hn;omega) (by simp) (a2).rowp,a5,BX (ks:=[]) (ys:=[]) (os:=[]) (d:=[110]) (AM.nil _) (by simp) (by simp) (AA.nil _) (AJ.nil _ _) (by simp) C (λc=>(C).lt c) dD dD dD,(show Dt.length<=9223372036854775807 by decide),.inl ⟨0,wd,rfl,dD,hwd,by rw [<- CI wd f Dt G,A2 (λh=>h.2 Gz)]⟩⟩
      have dO:=dF bt;refine As ?_
      first
      | exact ⟨((G7 (some ⟨s,0,none⟩) 4 4),⟨9,0,[],some ⟨aW,0,none⟩,1,1,some ⟨OB,0,none⟩,1,1,some ⟨B,0,none⟩,1,1⟩,[oN 0,oN 0,oN wd,oN 7],Dt,22,true),⟨rfl,rfl,rfl,rfl,rfl,tT⟩,a6,a3,a4,BY [0,0,wd,7] (λn hn=>by simp at hn;omega) (by simp) (a2).rowp,a5,BX (ks:=[VO]) (ys:=[Cx (DR 4 0 Si)]) (os:=[oNm Si]) (d:=[110]) (VIEW).strs dD (λc=>(VIEW).lt c) (OWN).rowp (AJ.cons (E9 _ _ 4 0 _ dD dD) (AJ.nil _ _)) (λc=>(OWN).rowp.lt c) C (λc=>(C).lt c) dD dD dD,(show Dt.length<=9223372036854775807 by decide),.inl ⟨0,wd,rfl,dD,hwd,by rw [A5 Gz,A5 rfl];split <;> rfl⟩⟩
      | exact ⟨((G7 (some ⟨s,0,none⟩) 3 4),⟨9,0,[],none,0,0,none,0,0,some ⟨B,0,none⟩,1,1⟩,[oN 0,oN 0,oN wd],Dt,22,false),⟨rfl,rfl,rfl,rfl,rfl,tT⟩,a6,a3,a4,BY [0,0,wd] (λn hn=>by simp at hn;omega) (by simp) ((a2).cutc 3 (by simp)).rowp,a5,BX (ks:=[]) (ys:=[]) (os:=[]) (d:=[110]) (AM.nil _) (by simp) (by simp) (AA.nil _) (AJ.nil _ _) (by simp) C (λc=>(C).lt c) dD dD dD,(show Dt.length<=9223372036854775807 by decide),.inr ⟨0,wd,rfl,dD,hwd,rfl⟩⟩
      | exact ⟨((G7 (some ⟨s,0,none⟩) 4 4),⟨9,0,[],none,0,0,none,0,0,some ⟨B,0,none⟩,1,1⟩,[oN 1,oN 0,oN wd,oN 7],Dt,22,false),⟨rfl,rfl,rfl,rfl,rfl,tT⟩,a6,a3,a4,BY [1,0,wd,7] (λn hn=>by simp at hn;omega) (by simp) (a2).rowp,a5,BX (ks:=[]) (ys:=[]) (os:=[]) (d:=[110]) (AM.nil _) (by simp) (by simp) (AA.nil _) (AJ.nil _ _) (by simp) C (λc=>(C).lt c) dD dD dD,(show Dt.length<=9223372036854775807 by decide),.inl ⟨1,wd,rfl,dD,hwd,by rw [A2 (by simp [Sw])]⟩⟩
      | exact ⟨((G7 (some ⟨s,0,none⟩) 4 4),⟨9,0,[],none,0,0,none,0,0,some ⟨B,0,none⟩,1,1⟩,[oN 0,oN 0,oN wd,oN 7],nm,26,false),⟨rfl,rfl,rfl,rfl,rfl,tT⟩,a6,a3,a4,BY [0,0,wd,7] (λn hn=>by simp at hn;omega) (by simp) (a2).rowp,a5,BX (ks:=[]) (ys:=[]) (os:=[]) (d:=[110]) (AM.nil _) (by simp) (by simp) (AA.nil _) (AJ.nil _ _) (by simp) C (λc=>(C).lt c) dD dD dD,hnl,.inl ⟨0,wd,rfl,dD,hwd,by rw [<- CI wd f nm G,A5 ⟨aS,(Fx _).1 aS⟩]⟩⟩
      | exact ⟨((G7 (some ⟨s,0,none⟩) 4 4),⟨9,0,[],none,0,0,none,0,0,some ⟨B,0,none⟩,1,1⟩,[oN 0,oN 0,oN wd,oN 7],nm,f,false),⟨rfl,rfl,rfl,rfl,rfl,tT⟩,a6,a3,a4,BY [0,0,wd,7] (λn hn=>by simp at hn;omega) (by simp) (a2).rowp,a5,BX (ks:=[]) (ys:=[]) (os:=[]) (d:=[110]) (AM.nil _) (by simp) (by simp) (AA.nil _) (AJ.nil _ _) (by simp) C (λc=>(C).lt c) dD dD dD,hnl,.inl ⟨0,wd,rfl,dD,hwd,by rw [<- CI wd f nm G,A2 (λq=>Dp ((Fx _).2 q.2) aS)]⟩⟩
      | exact ⟨((G7 (some ⟨s,0,none⟩) 4 4),⟨9,0,[],none,0,0,none,0,0,some ⟨B,0,none⟩,1,1⟩,[oN 0,oN 0,oN wd,oN 7],nm,f,false),⟨rfl,rfl,rfl,rfl,rfl,tT⟩,a6,a3,a4,BY [0,0,wd,7] (λn hn=>by simp at hn;omega) (by simp) (a2).rowp,a5,BX (ks:=[]) (ys:=[]) (os:=[]) (d:=[110]) (AM.nil _) (by simp) (by simp) (AA.nil _) (AJ.nil _ _) (by simp) C (λc=>(C).lt c) dD dD dD,hnl,.inl ⟨0,wd,rfl,dD,hwd,by rw [<- CI wd f nm G,A2 (λq=>Dp q.1 aS)]⟩⟩
      | exact ⟨((G7 (some ⟨s,0,none⟩) 4 4),⟨9,0,[],none,0,0,none,0,0,some ⟨B,0,none⟩,1,1⟩,[oN 0,oN 0,oN wd,oN 7],Dt,f,false),⟨rfl,rfl,rfl,rfl,rfl,tT⟩,a6,a3,a4,BY [0,0,wd,7] (λn hn=>by simp at hn;omega) (by simp) (a2).rowp,a5,BX (ks:=[]) (ys:=[]) (os:=[]) (d:=[110]) (AM.nil _) (by simp) (by simp) (AA.nil _) (AJ.nil _ _) (by simp) C (λc=>(C).lt c) dD dD dD,(show Dt.length<=9223372036854775807 by decide),.inl ⟨0,wd,rfl,dD,hwd,by rw [<- CI wd f Dt G,A2 (λh=>h.2 Gz)]⟩⟩
    have dN:=dF aF;refine B6 aF<|B6 aF<|A1 (.pkF rfl aF rfl)<|A0<|Ay rfl rfl<|As ?_
    first
    | exact ⟨((G7 (some ⟨s,0,none⟩) 4 4),⟨9,0,[],some ⟨aW,0,none⟩,1,1,some ⟨OB,0,none⟩,1,1,some ⟨B,0,none⟩,1,1⟩,[oN 0,oN 0,oN wd,oN 7],Dt,22,true),⟨rfl,rfl,rfl,rfl,rfl,tT⟩,J,Q,H,BY [0,0,wd,7] (λn hn=>by simp at hn;omega) (by simp) (P).rowp,E,BX (ks:=[VO]) (ys:=[Cx (DR 4 0 Si)]) (os:=[oNm Si]) (d:=[110]) (VIEW).strs dD (λc=>(VIEW).lt c) (OWN).rowp (AJ.cons (E9 _ _ 4 0 _ dD dD) (AJ.nil _ _)) (λc=>(OWN).rowp.lt c) D (λc=>(D).lt c) dD dD dD,(show Dt.length<=9223372036854775807 by decide),.inl ⟨0,wd,rfl,dD,hwd,by rw [A5 Gz,A5 rfl];split <;> rfl⟩⟩
    | exact ⟨((G7 (some ⟨s,0,none⟩) 3 4),⟨9,0,[],none,0,0,none,0,0,some ⟨B,0,none⟩,1,1⟩,[oN 0,oN 0,oN wd],Dt,22,false),⟨rfl,rfl,rfl,rfl,rfl,tT⟩,J,Q,H,BY [0,0,wd] (λn hn=>by simp at hn;omega) (by simp) ((P).cutc 3 (by simp)).rowp,E,BX (ks:=[]) (ys:=[]) (os:=[]) (d:=[110]) (AM.nil _) (by simp) (by simp) (AA.nil _) (AJ.nil _ _) (by simp) D (λc=>(D).lt c) dD dD dD,(show Dt.length<=9223372036854775807 by decide),.inr ⟨0,wd,rfl,dD,hwd,rfl⟩⟩
    | exact ⟨((G7 (some ⟨s,0,none⟩) 4 4),⟨9,0,[],none,0,0,none,0,0,some ⟨B,0,none⟩,1,1⟩,[oN 1,oN 0,oN wd,oN 7],Dt,22,false),⟨rfl,rfl,rfl,rfl,rfl,tT⟩,J,Q,H,BY [1,0,wd,7] (λn hn=>by simp at hn;omega) (by simp) (P).rowp,E,BX (ks:=[]) (ys:=[]) (os:=[]) (d:=[110]) (AM.nil _) (by simp) (by simp) (AA.nil _) (AJ.nil _ _) (by simp) D (λc=>(D).lt c) dD dD dD,(show Dt.length<=9223372036854775807 by decide),.inl ⟨1,wd,rfl,dD,hwd,by rw [A2 (by simp [Sw])]⟩⟩
    | exact ⟨((G7 (some ⟨s,0,none⟩) 4 4),⟨9,0,[],none,0,0,none,0,0,some ⟨B,0,none⟩,1,1⟩,[oN 0,oN 0,oN wd,oN 7],nm,26,false),⟨rfl,rfl,rfl,rfl,rfl,tT⟩,J,Q,H,BY [0,0,wd,7] (λn hn=>by simp at hn;omega) (by simp) (P).rowp,E,BX (ks:=[]) (ys:=[]) (os:=[]) (d:=[110]) (AM.nil _) (by simp) (by simp) (AA.nil _) (AJ.nil _ _) (by simp) D (λc=>(D).lt c) dD dD dD,hnl,.inl ⟨0,wd,rfl,dD,hwd,by rw [<- CI wd f nm G,A5 ⟨aS,(Fx _).1 aS⟩]⟩⟩
    | exact ⟨((G7 (some ⟨s,0,none⟩) 4 4),⟨9,0,[],none,0,0,none,0,0,some ⟨B,0,none⟩,1,1⟩,[oN 0,oN 0,oN wd,oN 7],nm,f,false),⟨rfl,rfl,rfl,rfl,rfl,tT⟩,J,Q,H,BY [0,0,wd,7] (λn hn=>by simp at hn;omega) (by simp) (P).rowp,E,BX (ks:=[]) (ys:=[]) (os:=[]) (d:=[110]) (AM.nil _) (by simp) (by simp) (AA.nil _) (AJ.nil _ _) (by simp) D (λc=>(D).lt c) dD dD dD,hnl,.inl ⟨0,wd,rfl,dD,hwd,by rw [<- CI wd f nm G,A2 (λq=>Dp ((Fx _).2 q.2) aS)]⟩⟩
    | exact ⟨((G7 (some ⟨s,0,none⟩) 4 4),⟨9,0,[],none,0,0,none,0,0,some ⟨B,0,none⟩,1,1⟩,[oN 0,oN 0,oN wd,oN 7],nm,f,false),⟨rfl,rfl,rfl,rfl,rfl,tT⟩,J,Q,H,BY [0,0,wd,7] (λn hn=>by simp at hn;omega) (by simp) (P).rowp,E,BX (ks:=[]) (ys:=[]) (os:=[]) (d:=[110]) (AM.nil _) (by simp) (by simp) (AA.nil _) (AJ.nil _ _) (by simp) D (λc=>(D).lt c) dD dD dD,hnl,.inl ⟨0,wd,rfl,dD,hwd,by rw [<- CI wd f nm G,A2 (λq=>Dp q.1 aS)]⟩⟩
    | exact ⟨((G7 (some ⟨s,0,none⟩) 4 4),⟨9,0,[],none,0,0,none,0,0,some ⟨B,0,none⟩,1,1⟩,[oN 0,oN 0,oN wd,oN 7],Dt,f,false),⟨rfl,rfl,rfl,rfl,rfl,tT⟩,J,Q,H,BY [0,0,wd,7] (λn hn=>by simp at hn;omega) (by simp) (P).rowp,E,BX (ks:=[]) (ys:=[]) (os:=[]) (d:=[110]) (AM.nil _) (by simp) (by simp) (AA.nil _) (AJ.nil _ _) (by simp) D (λc=>(D).lt c) dD dD dD,(show Dt.length<=9223372036854775807 by decide),.inl ⟨0,wd,rfl,dD,hwd,by rw [<- CI wd f Dt G,A2 (λh=>h.2 Gz)]⟩⟩
  have dM:=dF bq;refine As ?_
  first
  | exact ⟨((G7 (some ⟨s,0,none⟩) 4 4),⟨9,0,[],some ⟨aW,0,none⟩,1,1,some ⟨OB,0,none⟩,1,1,some ⟨B,0,none⟩,1,1⟩,[oN 0,oN 0,oN wd,oN 7],Dt,22,true),⟨rfl,rfl,rfl,rfl,rfl,tT⟩,J,Q,H,BY [0,0,wd,7] (λn hn=>by simp at hn;omega) (by simp) (P).rowp,E,BX (ks:=[VO]) (ys:=[Cx (DR 4 0 Si)]) (os:=[oNm Si]) (d:=[110]) (VIEW).strs dD (λc=>(VIEW).lt c) (OWN).rowp (AJ.cons (E9 _ _ 4 0 _ dD dD) (AJ.nil _ _)) (λc=>(OWN).rowp.lt c) D (λc=>(D).lt c) dD dD dD,(show Dt.length<=9223372036854775807 by decide),.inl ⟨0,wd,rfl,dD,hwd,by rw [A5 Gz,A5 rfl];split <;> rfl⟩⟩
  | exact ⟨((G7 (some ⟨s,0,none⟩) 3 4),⟨9,0,[],none,0,0,none,0,0,some ⟨B,0,none⟩,1,1⟩,[oN 0,oN 0,oN wd],Dt,22,false),⟨rfl,rfl,rfl,rfl,rfl,tT⟩,J,Q,H,BY [0,0,wd] (λn hn=>by simp at hn;omega) (by simp) ((P).cutc 3 (by simp)).rowp,E,BX (ks:=[]) (ys:=[]) (os:=[]) (d:=[110]) (AM.nil _) (by simp) (by simp) (AA.nil _) (AJ.nil _ _) (by simp) D (λc=>(D).lt c) dD dD dD,(show Dt.length<=9223372036854775807 by decide),.inr ⟨0,wd,rfl,dD,hwd,rfl⟩⟩
  | exact ⟨((G7 (some ⟨s,0,none⟩) 4 4),⟨9,0,[],none,0,0,none,0,0,some ⟨B,0,none⟩,1,1⟩,[oN 1,oN 0,oN wd,oN 7],Dt,22,false),⟨rfl,rfl,rfl,rfl,rfl,tT⟩,J,Q,H,BY [1,0,wd,7] (λn hn=>by simp at hn;omega) (by simp) (P).rowp,E,BX (ks:=[]) (ys:=[]) (os:=[]) (d:=[110]) (AM.nil _) (by simp) (by simp) (AA.nil _) (AJ.nil _ _) (by simp) D (λc=>(D).lt c) dD dD dD,(show Dt.length<=9223372036854775807 by decide),.inl ⟨1,wd,rfl,dD,hwd,by rw [A2 (by simp [Sw])]⟩⟩
  | exact ⟨((G7 (some ⟨s,0,none⟩) 4 4),⟨9,0,[],none,0,0,none,0,0,some ⟨B,0,none⟩,1,1⟩,[oN 0,oN 0,oN wd,oN 7],nm,26,false),⟨rfl,rfl,rfl,rfl,rfl,tT⟩,J,Q,H,BY [0,0,wd,7] (λn hn=>by simp at hn;omega) (by simp) (P).rowp,E,BX (ks:=[]) (ys:=[]) (os:=[]) (d:=[110]) (AM.nil _) (by simp) (by simp) (AA.nil _) (AJ.nil _ _) (by simp) D (λc=>(D).lt c) dD dD dD,hnl,.inl ⟨0,wd,rfl,dD,hwd,by rw [<- CI wd f nm G,A5 ⟨aS,(Fx _).1 aS⟩]⟩⟩
  | exact ⟨((G7 (some ⟨s,0,none⟩) 4 4),⟨9,0,[],none,0,0,none,0,0,some ⟨B,0,none⟩,1,1⟩,[oN 0,oN 0,oN wd,oN 7],nm,f,false),⟨rfl,rfl,rfl,rfl,rfl,tT⟩,J,Q,H,BY [0,0,wd,7] (λn hn=>by simp at hn;omega) (by simp) (P).rowp,E,BX (ks:=[]) (ys:=[]) (os:=[]) (d:=[110]) (AM.nil _) (by simp) (by simp) (AA.nil _) (AJ.nil _ _) (by simp) D (λc=>(D).lt c) dD dD dD,hnl,.inl ⟨0,wd,rfl,dD,hwd,by rw [<- CI wd f nm G,A2 (λq=>Dp ((Fx _).2 q.2) aS)]⟩⟩
  | exact ⟨((G7 (some ⟨s,0,none⟩) 4 4),⟨9,0,[],none,0,0,none,0,0,some ⟨B,0,none⟩,1,1⟩,[oN 0,oN 0,oN wd,oN 7],nm,f,false),⟨rfl,rfl,rfl,rfl,rfl,tT⟩,J,Q,H,BY [0,0,wd,7] (λn hn=>by simp at hn;omega) (by simp) (P).rowp,E,BX (ks:=[]) (ys:=[]) (os:=[]) (d:=[110]) (AM.nil _) (by simp) (by simp) (AA.nil _) (AJ.nil _ _) (by simp) D (λc=>(D).lt c) dD dD dD,hnl,.inl ⟨0,wd,rfl,dD,hwd,by rw [<- CI wd f nm G,A2 (λq=>Dp q.1 aS)]⟩⟩
  | exact ⟨((G7 (some ⟨s,0,none⟩) 4 4),⟨9,0,[],none,0,0,none,0,0,some ⟨B,0,none⟩,1,1⟩,[oN 0,oN 0,oN wd,oN 7],Dt,f,false),⟨rfl,rfl,rfl,rfl,rfl,tT⟩,J,Q,H,BY [0,0,wd,7] (λn hn=>by simp at hn;omega) (by simp) (P).rowp,E,BX (ks:=[]) (ys:=[]) (os:=[]) (d:=[110]) (AM.nil _) (by simp) (by simp) (AA.nil _) (AJ.nil _ _) (by simp) D (λc=>(D).lt c) dD dD dD,(show Dt.length<=9223372036854775807 by decide),.inl ⟨0,wd,rfl,dD,hwd,by rw [<- CI wd f Dt G,A2 (λh=>h.2 Gz)]⟩⟩
  obtain ⟨⟨y,z,bx,font,want,fl⟩,cn⟩:=eX t;subst cn;obtain ⟨j1,j2,j3,j4,j5,j6,fc,cG⟩:=hR;simp only at j3 j4 j5 j6 fc cG;have aY:=cG.bx;refine Ad<|A4<|A8 rfl<|AT<|BO (α:=Nat) (λt=>[(6,.bool false),(7,ptV aL),(8,.string (bs font)),(9,ptV ah),(10,Ag want),(11,Ag (t:Int))]) (λt w'=>w1=w'/\t<=font.length/\0 ∉ font.take t) (λt=>font.length-t) (0) ⟨rfl,rfl,rfl,rfl,rfl,rfl,tT⟩ (⟨rfl,FN _,by simp⟩) (λt w1 hR=>?_);obtain ⟨i0,rfl⟩:=eX t;obtain ⟨rfl,kf,cH⟩:=hR;refine Ad<|A4<|A3 rfl<|A3 rfl<|A1 (.len FV rfl)<|A1 (.lss rfl rfl)<|A0<|Ai rfl (λbu=>?_) (λbu=>?_)
  · have dP := dT bu
    refine As<|Ad<|AT<|A4<|A3 rfl<|A3 rfl<|A1 (.ix FV rfl rfl (i0) (rfl) oO)<|A1 (.eql rfl rfl)<|A0<|Ai rfl (λbv=>?_) (λbv=>?_)
    · have dQ := dT bv
      refine A4<|Au (hans _ (j2).blk) (λk7 dR=>?_);have dS:=Ci j1 dR;refine A8 rfl<|AY ?_;exact ⟨rfl,dS⟩
    have dQ:=dF bv;refine As<|An<|A3 rfl<|A1 (.iis (((i0+1:Nat):Int)) (.add rfl rfl (Bb oO)) oO)<|A8 rfl ?_;exact ⟨i0+1,⟨rfl,rfl,rfl,rfl,rfl,rfl,tT⟩,⟨rfl,oM,XO oO cH (D6 (d:=0) aS)⟩,oM⟩
  have dP:=dF bu;refine BL<|Ad<|FG 86 (decide (font.length<1\/127<font.length)) ?_ ?_;refine An<|A3 rfl<|A1 (.len FV rfl)<|A1 (.lss rfl rfl)<|A3 rfl<|Cc rfl rfl rfl (λaH=>?_) (λaH=>?_)
  · have dU := dF aH
    refine A3 rfl<|AE aH<|A1 (.len FV rfl)<|AE aH<|A1 (.gtr rfl rfl)<|A1 (.pkF rfl aH rfl)<|A0<|?_;exact ⟨GC (DI rfl (by (rw [B3];simp only [AI];omega))),rfl⟩
  have dU:=dT aH;refine B6 aH<|B6 aH<|A1 (.pkT rfl aH rfl)<|A0<|?_;exact ⟨GC (DI rfl (by exact (AR oO).symm)),rfl⟩;refine Ai rfl (λbw=>?_) (λbw=>?_)
  · have dV := dT bw
    refine A4<|Au (hans _ (j2).blk) (λk8 dW=>?_);have dX:=Ci j1 dW;refine A8 rfl<|AY ?_;exact ⟨rfl,dX⟩
  have dV:=dF bw;have bh:JM font:=by
    have h9:=dF (show decide (font.length<1\/127<font.length)=false by assumption);rw [Al oO] at cH;exact ⟨λe=>by subst e;simp at h9,cH,oO⟩
  obtain ⟨jh,ji⟩:=Vz fl aY bh;have ga:=A2j fl aY bh;refine As<|A4<|Au (Jn IO _) (λbz aI=>?_);have dY:=DM.same (w1:=bz) j2 (λk hk hl=>aI.block k hl);have dZ:=At.same (w1:=bz) j4 (λk hk hl=>aI.block k hl);have d':=At.same (w1:=bz) j6 (λk hk hl=>aI.block k hl);have e0:=j3.bl aI;have e1:=j5.bl aI;have e2:=Ci j1 aI;have k9:=(aI).size;refine A1 (.build rfl (Mx FA (Cx (DR 4 0 IO)))) ?_;refine Au (Jn UY _) (λbA aJ=>?_);have e3:=DM.same (w1:=bA) dY (λk hk hl=>aJ.block k hl);have e4:=At.same (w1:=bA) dZ (λk hk hl=>aJ.block k hl);have e5:=At.same (w1:=bA) d' (λk hk hl=>aJ.block k hl);have e6:=e0.bl aJ;have e7:=e1.bl aJ;have e8:=Ci e2 aJ;have ka:=(aJ).size;refine A1 (.build rfl (Mx X9 (Cx (DR 4 0 UY)))) ?_;refine A3 rfl<|Au (Jn font _) (λbB aK=>?_);have e9:=DM.same (w1:=bB) e3 (λk hk hl=>aK.block k hl);have ea:=At.same (w1:=bB) e4 (λk hk hl=>aK.block k hl);have eb:=At.same (w1:=bB) e5 (λk hk hl=>aK.block k hl);have bT:=e6.bl aK;have bU:=e7.bl aK;have bV:=Ci e8 aK;have kb:=(aK).size;refine A1 (.build rfl (Mx XH (Cx (DR 4 0 font)))) ?_;refine CR (L:=prL) (ps:=_) ([⟨FA,Cx (DR 4 0 IO)⟩,⟨X9,Cx (DR 4 0 UY)⟩,⟨XH,Cx (DR 4 0 font)⟩]) Rm SB Wh rfl rfl rfl rfl rfl (by rfl) rfl rfl (λgb b3 b4 cI ao jj=>?_);have ec:=DM.same (w1:=b3) e9 (λk hk hl=>ao.other k oO);have ed:=At.same (w1:=b3) ea (λk hk hl=>ao.other k oO);have ee:=At.same (w1:=b3) eb (λk hk hl=>ao.other k oO);have ef:=Bt b4 bT.lt;have eg:=bT.un ao ef;have eh:=Bt b4 bU.lt;have ei:=bU.un ao eh;have ej:=uB bV b4 ao;have iD:=CW b4 bV.size;have ca:gb<=b3.heap.size:=by omega
  refine Bf BQ rfl rfl ((HY [FA,X9,XH] [oNm IO,oNm UY,oNm font] _ _ ⟨_,[⟨FA,Cx (DR 4 0 IO)⟩,⟨X9,Cx (DR 4 0 UY)⟩,⟨XH,Cx (DR 4 0 font)⟩],_,rfl,(cI).rowp,rfl,AJ.cons (E9 _ _ 4 0 _ dD dD) (AJ.cons (E9 _ _ 4 0 _ dD dD) (AJ.cons (E9 _ _ 4 0 _ dD fc) (AJ.nil _ _)))⟩ dD dD)) (λu bC af=>?_);have jk:=CT ca af.2.size;have ek:=DM.same (w1:=bC) ec (λk hk hl=>af.2.block k hl);have el:=At.same (w1:=bC) ed (λk hk hl=>af.2.block k hl);have em:=At.same (w1:=bC) ee (λk hk hl=>af.2.block k hl);have bW:=eg.bl af.2;have bX:=ei.bl af.2;have bY:=Ci ej af.2;obtain ⟨jl,rfl,jm⟩:=af.1;have kc:=(af.2).size;refine Bm CA rfl (λbD b6 b7 cJ aj jn=>?_);have en:=DM.same (w1:=b6) ek (λk hk hl=>aj.other k oO);have eo:=At.same (w1:=b6) el (λk hk hl=>aj.other k oO);have ep:=At.same (w1:=b6) em (λk hk hl=>aj.other k oO);have eq:=At.same (w1:=b6) jm (λk hk hl=>aj.other k oO);have er:=Bt b7 bW.lt;have es:=bW.un aj er;have et:=Bt b7 bX.lt;have eu:=bX.un aj et;have ev:=uB bY b7 aj;have iE:=CW b7 bY.size;refine Az rfl rfl cJ Ah rfl rfl (λbk cK ak jo=>?_);have ew:=DM.same (w1:=bk) en (λk hk hl=>ak.other k oM);have ex:=At.same (w1:=bk) eo (λk hk hl=>ak.other k oM);have ey:=At.same (w1:=bk) ep (λk hk hl=>ak.other k oM);have ez:=At.same (w1:=bk) eq (λk hk hl=>ak.other k oM);have eA:=es.up ak;have eB:=eu.up ak;have eC:=BR ev oO ak;refine A0<|Ad<|F2 18 rfl BS (λbd ag=>?_);have eD:=DM.same (w1:=bd) ew (λk hk hl=>(by obtain ⟨m,rfl⟩:=ag;rfl));have eF:=At.same (w1:=bd) ex (λk hk hl=>(by obtain ⟨m,rfl⟩:=ag;rfl));have eG:=At.same (w1:=bd) ey (λk hk hl=>(by obtain ⟨m,rfl⟩:=ag;rfl));have eH:=At.same (w1:=bd) ez (λk hk hl=>(by obtain ⟨m,rfl⟩:=ag;rfl));have bZ:=eA.drew ag;have b':=eB.drew ag;have c0:=cK.drew ag;have eI:=Cn.below eC ag
  refine JA [(6,.bool false),(7,ptV aL),(9,ptV ah),(10,Ag want),(12,ptV bD)] [⟨0,97,[],(IT (oNm Td)),false⟩,
    ⟨1,98,[(0,97)],(O4 FA (oNm Td)),false⟩,
    ⟨2,99,[],(IT (oA bx)),false⟩,
    ⟨3,100,[(2,99)],(O4 TS (oA bx)),false⟩,
    ⟨4,101,[],(IT (MH font)),false⟩,
    ⟨5,102,[(4,101)],(O4 [70] (MH font)),false⟩,
    ⟨6,103,[(5,102)],(LP [[70]] [MH font]),false⟩,
    ⟨7,104,[(6,103)],(IT (oDi [[70]] [MH font])),false⟩,
    ⟨8,105,[(7,104)],(O4 IO (oDi [[70]] [MH font])),false⟩,
    ⟨9,106,[(8,105)],(LP [IO] [oDi [[70]] [MH font]]),false⟩,
    ⟨10,107,[(9,106)],(IT (oDi [IO] [oDi [[70]] [MH font]])),false⟩,
    ⟨11,108,[(10,107)],(O4 TR (oDi [IO] [oDi [[70]] [MH font]])),false⟩,
    ⟨12,109,[],(IT (oR 4)),false⟩,
    ⟨13,110,[(12,109)],(O4 Te (oR 4)),false⟩,
    ⟨14,111,[(1,98),(3,100),(11,108),(13,110)],(LP [FA,TS,TR,Te] [oNm Td,oA bx,oDi [IO] [oDi [[70]] [MH font]],oR 4]),false⟩,
    ⟨15,112,[(14,111)],(IT (oDi [FA,TS,TR,Te] [oNm Td,oA bx,oDi [IO] [oDi [[70]] [MH font]],oR 4])),false⟩,
    ⟨16,13,[],(MB bd.heap.size),true⟩] 1 ⟨rfl,rfl,rfl,rfl,rfl,tT⟩ rfl kR ⟨⟨IT.up,λh=>nomatch h⟩,⟨O4.up,λh=>nomatch h⟩,⟨IT.up,λh=>nomatch h⟩,⟨O4.up,λh=>nomatch h⟩,⟨IT.up,λh=>nomatch h⟩,⟨O4.up,λh=>nomatch h⟩,⟨LP.up,λh=>nomatch h⟩,⟨IT.up,λh=>nomatch h⟩,⟨O4.up,λh=>nomatch h⟩,⟨LP.up,λh=>nomatch h⟩,⟨IT.up,λh=>nomatch h⟩,⟨O4.up,λh=>nomatch h⟩,⟨IT.up,λh=>nomatch h⟩,⟨O4.up,λh=>nomatch h⟩,⟨LP.up,λh=>nomatch h⟩,⟨IT.up,λh=>nomatch h⟩,⟨MB.up,λ_=>MB.lt⟩,tT⟩ ⟨?_,?_,?_,?_,?_,?_,?_,?_,?_,?_,?_,?_,?_,?_,?_,?_,?_,tT⟩ (λg cL hs j hE hA=>?_)
  · intro K g w1 hs j hd k
    have b:ET [] g:=trivial;refine ⟨_,rfl,WL.front _ b ?_⟩;refine Au (Jn Td _) (λw5 h5=>A0<|?_);exact k _ _ _ (DH.front b) (RJ Td _ dD) h5 (λh=>nomatch h)
  · intro K g w1 hs j hd k
    obtain ⟨⟨jp,jq,jr⟩,-⟩:=hd;have b:ET [(97,jp)] g:=⟨jq,tT⟩;refine ⟨_,rfl,WL.front _ b ?_⟩;obtain ⟨fd,rfl,js⟩:=jr;refine A1 (.build rfl (Mx FA fd))<|A0<|?_;exact k _ _ _ (DH.front b) ⟨fd,rfl,js⟩ (Fl _ _) (λh=>nomatch h)
  · intro K g w1 hs j hd k
    have b:ET [(7,ptV aL)] g:=⟨hs.look rfl,tT⟩;refine ⟨_,rfl,WL.front _ b ?_⟩;refine Aj (Bd rfl (bZ.below j bZ.lt) Av rfl Ah)<|A0<|?_;exact k _ _ _ (DH.front b) ⟨y,rfl,((eF).mono (λk _ hk=>hk)).up j⟩ (Fl _ _) (λh=>nomatch h)
  · intro K g w1 hs j hd k
    obtain ⟨⟨jt,ju,jv⟩,-⟩:=hd;have b:ET [(99,jt)] g:=⟨ju,tT⟩;refine ⟨_,rfl,WL.front _ b ?_⟩;obtain ⟨fe,rfl,jw⟩:=jv;refine A1 (.build rfl (Mx TS fe))<|A0<|?_;exact k _ _ _ (DH.front b) ⟨fe,rfl,jw⟩ (Fl _ _) (λh=>nomatch h)
  · intro K g w1 hs j hd k
    have b:ET [(12,ptV bD)] g:=⟨hs.look rfl,tT⟩;refine ⟨_,rfl,WL.front _ b ?_⟩;refine Aj (Bd rfl (c0.below j c0.lt) Av rfl Ah)<|A0<|?_;exact k _ _ _ (DH.front b) ⟨jl,rfl,((eH).mono (λk _ hk=>hk)).up j⟩ (Fl _ _) (λh=>nomatch h)
  · intro K g w1 hs j hd k
    obtain ⟨⟨gc,ge,gf⟩,-⟩:=hd;have b:ET [(101,gc)] g:=⟨ge,tT⟩;refine ⟨_,rfl,WL.front _ b ?_⟩;obtain ⟨cM,rfl,gg⟩:=gf;refine A1 (.build rfl (Mx [70] cM))<|A0<|?_;exact k _ _ _ (DH.front b) ⟨cM,rfl,gg⟩ (Fl _ _) (λh=>nomatch h)
  · intro K g w1 hs j hd k
    obtain ⟨⟨gh,gi,gj⟩,-⟩:=hd;have b:ET [(102,gh)] g:=⟨gi,tT⟩;refine ⟨_,rfl,WL.front _ b ?_⟩;obtain ⟨cN,rfl,gk⟩:=gj;refine CR (L:=prL) (ps:=_) ([⟨[70],cN⟩]) Rm SB Wh rfl rfl rfl rfl rfl (by rfl) rfl rfl (λb5 w5 a8 ac F aT=>A0<|?_);exact k _ _ _ (DH.front b) (Mc [⟨[70],cN⟩] ac.rowp (AJ.cons gk (AJ.nil _ _)) (BR (Fl _ _) (Nat.le_of_eq a8.symm) F) rfl) (BR (Fl _ _) (Nat.le_of_eq a8.symm) F) (λh=>nomatch h)
  · intro K g w1 hs j hd k
    obtain ⟨⟨gl,gm,go⟩,-⟩:=hd;have b:ET [(103,gl)] g:=⟨gm,tT⟩;refine ⟨_,rfl,WL.front _ b ?_⟩;refine Bf BQ rfl rfl (HY [[70]] [MH font] _ _ go (by simp) dD) (λu5 w5 h5=>A0<|?_);exact k _ _ _ (DH.front b) h5.1 h5.2 (λh=>nomatch h)
  · intro K g w1 hs j hd k
    obtain ⟨⟨gp,gq,gr⟩,-⟩:=hd;have b:ET [(104,gp)] g:=⟨gq,tT⟩;refine ⟨_,rfl,WL.front _ b ?_⟩;obtain ⟨cO,rfl,gs⟩:=gr;refine A1 (.build rfl (Mx IO cO))<|A0<|?_;exact k _ _ _ (DH.front b) ⟨cO,rfl,gs⟩ (Fl _ _) (λh=>nomatch h)
  · intro K g w1 hs j hd k
    obtain ⟨⟨gt,gv,gw⟩,-⟩:=hd;have b:ET [(105,gt)] g:=⟨gv,tT⟩;refine ⟨_,rfl,WL.front _ b ?_⟩;obtain ⟨cP,rfl,gx⟩:=gw;refine CR (L:=prL) (ps:=_) ([⟨IO,cP⟩]) Rm SB Wh rfl rfl rfl rfl rfl (by rfl) rfl rfl (λb5 w5 a8 ac F aT=>A0<|?_);exact k _ _ _ (DH.front b) (Mc [⟨IO,cP⟩] ac.rowp (AJ.cons gx (AJ.nil _ _)) (BR (Fl _ _) (Nat.le_of_eq a8.symm) F) rfl) (BR (Fl _ _) (Nat.le_of_eq a8.symm) F) (λh=>nomatch h)
  · intro K g w1 hs j hd k
    obtain ⟨⟨gz,gA,gB⟩,-⟩:=hd;have b:ET [(106,gz)] g:=⟨gA,tT⟩;refine ⟨_,rfl,WL.front _ b ?_⟩;refine Bf BQ rfl rfl (HY [IO] [oDi [[70]] [MH font]] _ _ gB (by simp) dD) (λu5 w5 h5=>A0<|?_);exact k _ _ _ (DH.front b) h5.1 h5.2 (λh=>nomatch h)
  · intro K g w1 hs j hd k
    obtain ⟨⟨gC,gD,gE⟩,-⟩:=hd;have b:ET [(107,gC)] g:=⟨gD,tT⟩;refine ⟨_,rfl,WL.front _ b ?_⟩;obtain ⟨cQ,rfl,gF⟩:=gE;refine A1 (.build rfl (Mx TR cQ))<|A0<|?_;exact k _ _ _ (DH.front b) ⟨cQ,rfl,gF⟩ (Fl _ _) (λh=>nomatch h)
  · intro K g w1 hs j hd k
    have b:ET [] g:=trivial;refine ⟨_,rfl,WL.front _ b ?_⟩;refine Au (UT 4 _) (λw5 h5=>A0<|?_);exact k _ _ _ (DH.front b) (UM 4 _ dD) h5 (λh=>nomatch h)
  · intro K g w1 hs j hd k
    obtain ⟨⟨gG,gH,gI⟩,-⟩:=hd;have b:ET [(109,gG)] g:=⟨gH,tT⟩;refine ⟨_,rfl,WL.front _ b ?_⟩;obtain ⟨cR,rfl,gJ⟩:=gI;refine A1 (.build rfl (Mx Te cR))<|A0<|?_;exact k _ _ _ (DH.front b) ⟨cR,rfl,gJ⟩ (Fl _ _) (λh=>nomatch h)
  · intro K g w1 hs j hd k
    obtain ⟨⟨jx,jy,jz⟩,⟨gK,gL,gM⟩,⟨gN,gO,gP⟩,⟨gQ,gR,gS⟩,-⟩:=hd;have b:ET [(98,jx),(100,gK),(108,gN),(110,gQ)] g:=⟨jy,gL,gO,gR,tT⟩;refine ⟨_,rfl,WL.front _ b ?_⟩;obtain ⟨ff,rfl,jA⟩:=jz;obtain ⟨cS,rfl,gT⟩:=gM;obtain ⟨cT,rfl,gU⟩:=gP;obtain ⟨cU,rfl,gV⟩:=gS;refine CR (L:=prL) (ps:=_) ([⟨FA,ff⟩,⟨TS,cS⟩,⟨TR,cT⟩,⟨Te,cU⟩]) Rm SB Wh rfl rfl rfl rfl rfl (by rfl) rfl rfl (λb5 w5 a8 ac F aT=>A0<|?_);exact k _ _ _ (DH.front b) (Mc [⟨FA,ff⟩,⟨TS,cS⟩,⟨TR,cT⟩,⟨Te,cU⟩] ac.rowp (AJ.cons jA (AJ.cons gT (AJ.cons gU (AJ.cons gV (AJ.nil _ _))))) (BR (Fl _ _) (Nat.le_of_eq a8.symm) F) rfl) (BR (Fl _ _) (Nat.le_of_eq a8.symm) F) (λh=>nomatch h)
  · intro K g w1 hs j hd k
    obtain ⟨⟨gW,gX,gY⟩,-⟩:=hd;have b:ET [(111,gW)] g:=⟨gX,tT⟩;refine ⟨_,rfl,WL.front _ b ?_⟩;refine Bf BQ rfl rfl (HY [FA,TS,TR,Te] [oNm Td,oA bx,oDi [IO] [oDi [[70]] [MH font]],oR 4] _ _ gY (by simp) dD) (λu5 w5 h5=>A0<|?_);exact k _ _ _ (DH.front b) h5.1 h5.2 (λh=>nomatch h)
  · intro K g w1 hs j hd k
    have b:ET [] g:=trivial;refine ⟨_,rfl,WL.front _ b ?_⟩;refine Bm CA rfl (λb5 w5 a8 gZ F aT=>A0<|?_);exact k _ _ _ (DH.front b) ⟨b5,rfl,gZ,by have:=j.size;omega⟩ (BR (Fl _ _) (Nat.le_of_eq a8.symm) F) (λ_=>Nat.le_of_eq a8.symm)
  obtain ⟨-,-,-,-,-,-,-,-,-,-,-,-,-,-,-,⟨g',h3,h4⟩,⟨jB,jC,jD⟩,-⟩:=hE;refine WY.front [(112,g'),(13,jB),(6,.bool false),(7,ptV aL),(9,ptV ah),(10,Ag want),(12,ptV bD)] ⟨h3,jC,hs.look rfl,hs.look rfl,hs.look rfl,hs.look rfl,hs.look rfl,tT⟩ ?_;have eJ:=DM.same (w1:=cL) eD (λk hk hl=>j.block k hl);have eK:=At.same (w1:=cL) eG (λk hk hl=>j.block k hl);have eL:=b'.below j b'.lt;have eM:=Ci eI j;obtain ⟨jE,rfl,bE⟩:=h4;obtain ⟨s,rfl,cV,kd⟩:=jD;have bE:=A0e cV bE (MV (t:=font) fl aY bh (UH bx font) (by simp [QC])) (A1J (t:=font) fl aY (UH bx font) (by simp [QC]));have k3:=Cn.size ag;have k4:=j.size;refine Ao 17 rfl<|Az rfl rfl cV Ah rfl rfl (λbG cW aN jF=>?_);have eN:=DM.same (w1:=bG) eJ (λk hk hl=>aN.other k oM);have eO:=At.same (w1:=bG) eK (λk hk hl=>aN.other k oM);have eP:=At.same (w1:=bG) bE (λk hk hl=>aN.other k oM);have eQ:=eL.up aN;have eR:=BR eM oO aN;refine A0<|Be kR<|Ad<|F2 25 rfl BS (λbH aQ=>?_);have eS:=DM.same (w1:=bH) eN (λk hk hl=>(by obtain ⟨m,rfl⟩:=aQ;rfl));have eT:=At.same (w1:=bH) eO (λk hk hl=>(by obtain ⟨m,rfl⟩:=aQ;rfl));have eU:=At.same (w1:=bH) eP (λk hk hl=>(by obtain ⟨m,rfl⟩:=aQ;rfl));have c2:=eQ.drew aQ;have c3:=cW.drew aQ;have eV:=Cn.below eR aQ;refine JA [(6,.bool false),(9,ptV ah),(10,Ag want),(13,ptV s)] [⟨0,114,[],(IT (oNm Xa)),false⟩,
    ⟨1,115,[(0,114)],(O4 FA (oNm Xa)),false⟩,
    ⟨2,116,[],(IT (oR 2)),false⟩,
    ⟨3,117,[(2,116)],(O4 Mn (oR 2)),false⟩,
    ⟨4,118,[(1,115),(3,117)],(LP [FA,Mn] [oNm Xa,oR 2]),false⟩,
    ⟨5,119,[(4,118)],(IT (oDi [FA,Mn] [oNm Xa,oR 2])),false⟩,
    ⟨6,120,[],(IT (oNm Mn)),false⟩,
    ⟨7,121,[(6,120)],(O4 FA (oNm Mn)),false⟩,
    ⟨8,122,[],(IT (oR 3)),false⟩,
    ⟨9,123,[(8,122)],(TJ [oR 3]),false⟩,
    ⟨10,124,[(9,123)],(IT (oA [oR 3])),false⟩,
    ⟨11,125,[(10,124)],(O4 kKi (oA [oR 3])),false⟩,
    ⟨12,126,[],(IT (oN 1)),false⟩,
    ⟨13,127,[(12,126)],(O4 TT (oN 1)),false⟩,
    ⟨14,128,[(7,121),(11,125),(13,127)],(LP [FA,kKi,TT] [oNm Mn,oA [oR 3],oN 1]),false⟩,
    ⟨15,129,[(14,128)],(IT (oDi [FA,kKi,TT] [oNm Mn,oA [oR 3],oN 1])),false⟩,
    ⟨16,130,[],(IT (UH bx font)),false⟩,
    ⟨17,131,[],(IT (Y6 fl)),false⟩,
    ⟨18,132,[(5,119),(15,129),(16,130),(17,131)],(TJ (QC bx font fl)),false⟩] 6 ⟨rfl,rfl,rfl,rfl,tT⟩ rfl kR ⟨⟨IT.up,λh=>nomatch h⟩,⟨O4.up,λh=>nomatch h⟩,⟨IT.up,λh=>nomatch h⟩,⟨O4.up,λh=>nomatch h⟩,⟨LP.up,λh=>nomatch h⟩,⟨IT.up,λh=>nomatch h⟩,⟨IT.up,λh=>nomatch h⟩,⟨O4.up,λh=>nomatch h⟩,⟨IT.up,λh=>nomatch h⟩,⟨TJ.up,λh=>nomatch h⟩,⟨IT.up,λh=>nomatch h⟩,⟨O4.up,λh=>nomatch h⟩,⟨IT.up,λh=>nomatch h⟩,⟨O4.up,λh=>nomatch h⟩,⟨LP.up,λh=>nomatch h⟩,⟨IT.up,λh=>nomatch h⟩,⟨IT.up,λh=>nomatch h⟩,⟨IT.up,λh=>nomatch h⟩,⟨TJ.up,λh=>nomatch h⟩,tT⟩ ⟨?_,?_,?_,?_,?_,?_,?_,?_,?_,?_,?_,?_,?_,?_,?_,?_,?_,?_,?_,tT⟩ (λg h6 hs j hE hA=>?_)
  · intro K g w1 hs j hd k
    have b:ET [] g:=trivial;refine ⟨_,rfl,WL.front _ b ?_⟩;refine Au (Jn Xa _) (λw5 h5=>A0<|?_);exact k _ _ _ (DH.front b) (RJ Xa _ dD) h5 (λh=>nomatch h)
  · intro K g w1 hs j hd k
    obtain ⟨⟨h8,hb,hc⟩,-⟩:=hd;have b:ET [(114,h8)] g:=⟨hb,tT⟩;refine ⟨_,rfl,WL.front _ b ?_⟩;obtain ⟨cX,rfl,he⟩:=hc;refine A1 (.build rfl (Mx FA cX))<|A0<|?_;exact k _ _ _ (DH.front b) ⟨cX,rfl,he⟩ (Fl _ _) (λh=>nomatch h)
  · intro K g w1 hs j hd k
    have b:ET [] g:=trivial;refine ⟨_,rfl,WL.front _ b ?_⟩;refine Au (UT 2 _) (λw5 h5=>A0<|?_);exact k _ _ _ (DH.front b) (UM 2 _ dD) h5 (λh=>nomatch h)
  · intro K g w1 hs j hd k
    obtain ⟨⟨hf,hh,hi⟩,-⟩:=hd;have b:ET [(116,hf)] g:=⟨hh,tT⟩;refine ⟨_,rfl,WL.front _ b ?_⟩;obtain ⟨cY,rfl,bb⟩:=hi;refine A1 (.build rfl (Mx Mn cY))<|A0<|?_;exact k _ _ _ (DH.front b) ⟨cY,rfl,bb⟩ (Fl _ _) (λh=>nomatch h)
  · intro K g w1 hs j hd k
    obtain ⟨⟨hj,hm,hp⟩,⟨hq,hr,ht⟩,-⟩:=hd;have b:ET [(115,hj),(117,hq)] g:=⟨hm,hr,tT⟩;refine ⟨_,rfl,WL.front _ b ?_⟩;obtain ⟨cZ,rfl,hu⟩:=hp;obtain ⟨c',rfl,hv⟩:=ht;refine CR (L:=prL) (ps:=_) ([⟨FA,cZ⟩,⟨Mn,c'⟩]) Rm SB Wh rfl rfl rfl rfl rfl (by rfl) rfl rfl (λb5 w5 a8 ac F aT=>A0<|?_);exact k _ _ _ (DH.front b) (Mc [⟨FA,cZ⟩,⟨Mn,c'⟩] ac.rowp (AJ.cons hu (AJ.cons hv (AJ.nil _ _))) (BR (Fl _ _) (Nat.le_of_eq a8.symm) F) rfl) (BR (Fl _ _) (Nat.le_of_eq a8.symm) F) (λh=>nomatch h)
  · intro K g w1 hs j hd k
    obtain ⟨⟨hx,hy,hz⟩,-⟩:=hd;have b:ET [(118,hx)] g:=⟨hy,tT⟩;refine ⟨_,rfl,WL.front _ b ?_⟩;refine Bf BQ rfl rfl (HY [FA,Mn] [oNm Xa,oR 2] _ _ hz (by simp) dD) (λu5 w5 h5=>A0<|?_);exact k _ _ _ (DH.front b) h5.1 h5.2 (λh=>nomatch h)
  · intro K g w1 hs j hd k
    have b:ET [] g:=trivial;refine ⟨_,rfl,WL.front _ b ?_⟩;refine Au (Jn Mn _) (λw5 h5=>A0<|?_);exact k _ _ _ (DH.front b) (RJ Mn _ dD) h5 (λh=>nomatch h)
  · intro K g w1 hs j hd k
    obtain ⟨⟨hB,hC,hD⟩,-⟩:=hd;have b:ET [(120,hB)] g:=⟨hC,tT⟩;refine ⟨_,rfl,WL.front _ b ?_⟩;obtain ⟨d0,rfl,hF⟩:=hD;refine A1 (.build rfl (Mx FA d0))<|A0<|?_;exact k _ _ _ (DH.front b) ⟨d0,rfl,hF⟩ (Fl _ _) (λh=>nomatch h)
  · intro K g w1 hs j hd k
    have b:ET [] g:=trivial;refine ⟨_,rfl,WL.front _ b ?_⟩;refine Au (UT 3 _) (λw5 h5=>A0<|?_);exact k _ _ _ (DH.front b) (UM 3 _ dD) h5 (λh=>nomatch h)
  · intro K g w1 hs j hd k
    obtain ⟨⟨hG,hH,hI⟩,-⟩:=hd;have b:ET [(122,hG)] g:=⟨hH,tT⟩;refine ⟨_,rfl,WL.front _ b ?_⟩;obtain ⟨d1,rfl,hJ⟩:=hI;refine CR (L:=Fi) (ps:=_) ([d1]) Cg Dd CA rfl rfl rfl rfl rfl (by rfl) rfl rfl (λb5 w5 a8 ac F aT=>A0<|?_);exact k _ _ _ (DH.front b) (Vx [d1] ac.rowp (AJ.cons hJ (AJ.nil _ _)) (BR (Fl _ _) (Nat.le_of_eq a8.symm) F) (by simp)) (BR (Fl _ _) (Nat.le_of_eq a8.symm) F) (λh=>nomatch h)
  · intro K g w1 hs j hd k
    obtain ⟨⟨hK,hL,hM⟩,-⟩:=hd;have b:ET [(123,hK)] g:=⟨hL,tT⟩;refine ⟨_,rfl,WL.front _ b ?_⟩;obtain ⟨p5,jG,c5,rfl,jH,jI,jJ,jK⟩:=hM;refine Au (VM p5 jG.length c5 _) (λw5 h5=>A0<|?_);exact k _ _ _ (DH.front b) (IT.up _ _ _ (A0T jH jI jJ jK) h5) h5 (λh=>nomatch h)
  · intro K g w1 hs j hd k
    obtain ⟨⟨hO,hP,hQ⟩,-⟩:=hd;have b:ET [(124,hO)] g:=⟨hP,tT⟩;refine ⟨_,rfl,WL.front _ b ?_⟩;obtain ⟨d2,rfl,bc⟩:=hQ;refine A1 (.build rfl (Mx kKi d2))<|A0<|?_;exact k _ _ _ (DH.front b) ⟨d2,rfl,bc⟩ (Fl _ _) (λh=>nomatch h)
  · intro K g w1 hs j hd k
    have b:ET [] g:=trivial;refine ⟨_,rfl,WL.front _ b ?_⟩;refine Au (KF 1 _) (λw5 h5=>A0<|?_);exact k _ _ _ (DH.front b) (A0S 1 _ dD) h5 (λh=>nomatch h)
  · intro K g w1 hs j hd k
    obtain ⟨⟨hS,hT,hU⟩,-⟩:=hd;have b:ET [(126,hS)] g:=⟨hT,tT⟩;refine ⟨_,rfl,WL.front _ b ?_⟩;obtain ⟨d3,rfl,hV⟩:=hU;refine A1 (.build rfl (Mx TT d3))<|A0<|?_;exact k _ _ _ (DH.front b) ⟨d3,rfl,hV⟩ (Fl _ _) (λh=>nomatch h)
  · intro K g w1 hs j hd k
    obtain ⟨⟨hX,hY,hZ⟩,⟨h',i1,i2⟩,⟨i3,i4,i5⟩,-⟩:=hd;have b:ET [(121,hX),(125,h'),(127,i3)] g:=⟨hY,i1,i4,tT⟩;refine ⟨_,rfl,WL.front _ b ?_⟩;obtain ⟨d4,rfl,i6⟩:=hZ;obtain ⟨d5,rfl,i7⟩:=i2;obtain ⟨d6,rfl,i8⟩:=i5;refine CR (L:=prL) (ps:=_) ([⟨FA,d4⟩,⟨kKi,d5⟩,⟨TT,d6⟩]) Rm SB Wh rfl rfl rfl rfl rfl (by rfl) rfl rfl (λb5 w5 a8 ac F aT=>A0<|?_);exact k _ _ _ (DH.front b) (Mc [⟨FA,d4⟩,⟨kKi,d5⟩,⟨TT,d6⟩] ac.rowp (AJ.cons i6 (AJ.cons i7 (AJ.cons i8 (AJ.nil _ _)))) (BR (Fl _ _) (Nat.le_of_eq a8.symm) F) rfl) (BR (Fl _ _) (Nat.le_of_eq a8.symm) F) (λh=>nomatch h)
  · intro K g w1 hs j hd k
    obtain ⟨⟨i9,ia,ib⟩,-⟩:=hd;have b:ET [(128,i9)] g:=⟨ia,tT⟩;refine ⟨_,rfl,WL.front _ b ?_⟩;refine Bf BQ rfl rfl (HY [FA,kKi,TT] [oNm Mn,oA [oR 3],oN 1] _ _ ib (by simp) dD) (λu5 w5 h5=>A0<|?_);exact k _ _ _ (DH.front b) h5.1 h5.2 (λh=>nomatch h)
  · intro K g w1 hs j hd k
    have b:ET [(13,ptV s)] g:=⟨hs.look rfl,tT⟩;refine ⟨_,rfl,WL.front _ b ?_⟩;refine Aj (Bd rfl (c3.below j c3.lt) Av rfl Ah)<|A0<|?_;exact k _ _ _ (DH.front b) ⟨jE,rfl,((eU).mono (λk _ hk=>hk)).up j⟩ (Fl _ _) (λh=>nomatch h)
  · intro K g w1 hs j hd k
    have b:ET [(9,ptV ah)] g:=⟨hs.look rfl,tT⟩;refine ⟨_,rfl,WL.front _ b ?_⟩;refine Aj (Bd rfl (c2.below j c2.lt) Av rfl Ah)<|A0<|?_;exact k _ _ _ (DH.front b) ⟨z,rfl,((eT).mono (λk _ hk=>hk)).up j⟩ (Fl _ _) (λh=>nomatch h)
  · intro K g w1 hs j hd k
    obtain ⟨⟨ic,ie,ig⟩,⟨ih,ii,ij⟩,⟨ik,il,im⟩,⟨io,ip,iq⟩,-⟩:=hd;have b:ET [(119,ic),(129,ih),(130,ik),(131,io)] g:=⟨ie,ii,il,ip,tT⟩;refine ⟨_,rfl,WL.front _ b ?_⟩;obtain ⟨d7,rfl,ir⟩:=ig;obtain ⟨d8,rfl,it⟩:=ij;obtain ⟨d9,rfl,iu⟩:=im;obtain ⟨da,rfl,iv⟩:=iq;refine CR (L:=Fi) (ps:=_) ([d7,d8,d9,da]) Cg Dd CA rfl rfl rfl rfl rfl (by rfl) rfl rfl (λb5 w5 a8 ac F aT=>A0<|?_);exact k _ _ _ (DH.front b) (Vx [d7,d8,d9,da] ac.rowp (AJ.cons ir (AJ.cons it (AJ.cons iu (AJ.cons iv (AJ.nil _ _))))) (BR (Fl _ _) (Nat.le_of_eq a8.symm) F) (by simp)) (BR (Fl _ _) (Nat.le_of_eq a8.symm) F) (λh=>nomatch h)
  obtain ⟨-,-,-,-,-,-,-,-,-,-,-,-,-,-,-,-,-,-,⟨iw,iy,iz⟩,-⟩:=hE;refine WY.front [(132,iw),(6,.bool false),(9,ptV ah),(10,Ag want),(13,ptV s)] ⟨iy,hs.look rfl,hs.look rfl,hs.look rfl,hs.look rfl,tT⟩ ?_;have eW:=DM.same (w1:=h6) eS (λk hk hl=>j.block k hl);have eY:=Ci eV j;obtain ⟨lp,ys,lc,rfl,jL,jM,jN,kg⟩:=iz;refine Ao 19 rfl<|Bf BQ rfl rfl ((QG lp ys (QC bx font fl) lc _ _ jL jN jM (λo ho _=>by have:=Yd fl aY bh o ho;omega) True (λi h h2 w1 ha=>(OW _ _ _ w1 ha (MV fl aY bh _ (Ar h2)) (A1J fl aY _ (Ar h2))).mono λe w' ⟨h1,h2⟩=>⟨⟨true,λ_=>MV fl aY bh _ (Ar _),λ_=>rfl⟩,h1,h2⟩))) (λx iA bm=>?_);have eZ:=DM.same (w1:=iA) eW (λk hk hl=>bm.1.block k hl);have e':=Ci eY bm.1;obtain ⟨xp,xn,xc,xe⟩:=x;have hW:=bm.2;simp only at hW ⊢;obtain rfl:xe=0:=hW.sure trivial (by show 1<=4;decide) (by show 4<=4096;decide) jh;obtain ⟨rfl,jO,jP,kh,-⟩:=hW.ok rfl;refine A0<|AB 20 rfl (.mv rfl) rfl<|AB 21 rfl (.ext rfl rfl) rfl<|AB 22 rfl (.ext rfl rfl) rfl<|AB 23 rfl (.as rfl) rfl<|AB 24 rfl (.as rfl) rfl<|Be kR<|Ad<|A4<|A3 rfl<|A1 (.bis (false) (.neq rfl rfl) dD)<|A0<|Ay rfl rfl<|As<|A4<|A3 rfl<|Bf BQ rfl rfl ((NB (QC bx font fl) ji xp _ xc _ rfl jO jP)) (λbf db bn=>?_);have c4:=DM.same (w1:=db) eZ (λk hk hl=>bn.2.block k hl);have f0:=Ci e' bn.2;have jQ:=(bn.1).mono (T:=λk=>k<db.heap.size) (λk _ hk=>hk);refine A3 rfl<|A1 (.ext rfl rfl)<|A1 (.ext rfl rfl)<|CL rfl<|A8 rfl<|Ad<|A4<|A3 rfl<|A1 (.bis (false) (.neq rfl rfl) dD)<|A0<|Ay rfl rfl<|As<|A4<|A3 rfl<|Bf BQ rfl rfl ((Pg bf _ (QC bx font fl) ga caO ndO (UH bx font) (Y6 fl) (A0E bx font fl) _ jQ (c4).blk)) (λx iB bo=>?_);have f1:=DM.same (w1:=iB) c4 (λk hk hl=>bo.1.block k hl);have f2:=Ci f0 bo.1;obtain ⟨⟨pp,pl,pc⟩,pe⟩:=x;obtain ⟨dc,be⟩:=bo.2;simp only at dc be;refine A3 rfl<|A1 (.ext rfl rfl)<|A1 (.ext rfl rfl)<|CL rfl<|A8 rfl<|Ad ?_;obtain ⟨c6,fg⟩:=cG.res (QC bx font fl)
  have fh:pe=want/\(pe=0->∃ x,pl=[x]/\x.n=0):=by
    cases hR:FY (QC bx font fl) (Y6 fl) (Fg (UH bx font) ⟨none,none⟩) YT with
    | error k=>rw [hR] at be c6 fg;exact ⟨be.trans c6,λh=>Dp (be.symm.trans h) (fg k rfl)⟩
    | ok a=>rw [hR] at be c6;exact ⟨be.1.trans c6,λ_=>be.2⟩
  refine An<|Au (hans _ (f1).blk) (λke c7=>?_);have c8:=Ea dc c7 (λc=>dc.lt c);have c9:=Ci f2 c7;refine A3 rfl<|AE rfl<|A3 rfl<|AE rfl<|A3 rfl<|AE rfl<|A1 (.bis (true) (.eql rfl rfl) (by exact AR fh.1))<|A1 (.pkT rfl rfl rfl)<|A3 rfl<|AE rfl<|A3 rfl<|AE rfl<|A1 (.neq rfl rfl)<|AE rfl<|A3 rfl<|Cc rfl rfl rfl (λad=>?_) (λad=>?_)
  · have f3 := ndF ad
    obtain ⟨px,rfl,jR⟩:=fh.2 aS;refine A3 rfl<|AE ad<|A1 (.lenS In rfl)<|AE ad<|A1 (.bis (true) (.eql rfl rfl) (by rfl))<|AE ad<|A3 rfl<|AE rfl<|A3 rfl<|AE rfl<|A1 (.ixm In Rt rfl rfl (c8.isp (by (simp only [Aa,Am];omega))) (0) (rfl) (by simp))<|AE rfl<|A1 (.fa Lj rfl SA dD rfl)<|AE rfl<|Aj (BG (isAgg44 _) rfl ((c8.field (0) (by (simp only [Aa,Am];omega)) 2 dD).trans rfl))<|AE rfl<|A1 (.lenS A0q rfl)<|AE rfl<|A1 (.bis (true) (.eql rfl rfl) (by exact AR (by show ((px.n:Nat):Int)=0;rw [jR];rfl)))<|AE ad<|A1 (.pkT rfl rfl rfl)<|AE rfl<|A1 (.pkF rfl ad rfl)<|A1 (.pkT rfl rfl rfl)<|A8 rfl<|AY ?_;exact ⟨rfl,c9⟩
  have f3:=ndT ad;refine B6 ad<|B6 ad<|B6 ad<|KR<|KR<|KR<|KR<|KR<|KR<|B6 ad<|AE rfl<|A1 (.pkT rfl ad rfl)<|A1 (.pkT rfl rfl rfl)<|A8 rfl<|AY ?_;exact ⟨rfl,c9⟩
end
section
theorem PD:∀ o∈PK,FJ 32 true o:=by
 refine all_cons ?_ (all_cons ?_ (all_cons ?_ (all_cons ?_ C0)))
 · exact JR _ _ dD bL rfl dD dD (all_cons (OJ _ dD) (all_cons (KW _ (IM _ dD)) C0))
 · exact JR _ _ dD bL rfl dD dD (all_cons (OK _ dD) (all_cons (Vu _ dD dD (all_cons (OJ _ dD) C0)) (all_cons (KW _ (IM _ dD)) C0)))
 · exact JR _ _ dD bL rfl dD dD (all_cons (OJ _ dD) (all_cons (Vu _ dD dD (all_cons (OK _ dD) (all_cons (OK _ dD) (all_cons (OK _ dD) (all_cons (OK _ dD) C0))))) (all_cons (OJ _ dD) (all_cons (JR _ _ dD bL rfl dD dD (all_cons (JR _ _ dD bL rfl dD dD C0) C0)) (all_cons (KW _ (IM _ dD)) C0)))))
 · exact .dict _ _ 9 [] [] [] (.inr ⟨rfl,rfl,dD,dD⟩) dD dD rfl (by simp) dD C0
theorem A2R:∀ o∈PK,Sj 4 o:=by
 have lf:∀ (k m:Int) (s:l8_),k≠8->Sj 4 (.mk k m s [] [] []):=λk m s h=>JU (λe=>Dp e h)
 have rfr:∀ m:Int,1<=m/\m<=4->Sj 4 (oR m):=λm h=>JU (λ_=>h)
 refine all_cons ?_ (all_cons ?_ (all_cons ?_ (all_cons ?_ C0)))
 · exact Fp dD (all_cons (rfr _ dD) (all_cons (lf _ _ _ dD) C0))
 · exact Fp dD (all_cons (lf _ _ _ dD) (all_cons (Fp dD (all_cons (rfr _ dD) C0)) (all_cons (lf _ _ _ dD) C0)))
 · exact Fp dD (all_cons (rfr _ dD) (all_cons (Fp dD (all_cons (lf _ _ _ dD) (all_cons (lf _ _ _ dD) (all_cons (lf _ _ _ dD) (all_cons (lf _ _ _ dD) C0))))) (all_cons (rfr _ dD) (all_cons (Fp dD (all_cons (Fp dD C0) C0)) (all_cons (lf _ _ _ dD) C0)))))
 · exact Fp dD C0
theorem A3H:∀ o∈PK,PM o:=by
 refine all_cons ?_ (all_cons ?_ (all_cons ?_ (all_cons ?_ C0))) <;> simp [anC,anN,anP,anS,anB,anR,oDi,oNm,oR,oA,oN,oS,PM,KnL]
theorem ZN:∀ o∈PK,(Da o).length<=20000:=by
 have hk:∀ o∈PK,TD o<=500:=all_cons dD (all_cons dD (all_cons dD (all_cons dD C0)))
 intro o ho
 have:=Ys (PD o ho)
 have:=hk o ho
 omega
theorem Sa:(Cw PK).length<=1048576/\Xz PK:=by
 have b:=R9 PK 20000 ZN (by show 4<=4096;decide) dD
 have hl:PK.length=4:=rfl
 have a:(Cw PK).length<=1048576:=by rw [hl] at b;omega
 refine ⟨a,PD,?_,by rw [hl];decide,a⟩
 refine all_cons dD (all_cons dD (all_cons bL (all_cons dD C0)))
theorem A2S:Vl PK:=⟨Sa.2,λo ho=>⟨PD o ho,A2R o ho⟩⟩
theorem A1v:A09 PK anC anN anP anS where
 len:=rfl
 caV:=rfl
 caT:=rfl
 caP:=rfl
 ndV:=rfl
 ndF:=rfl
 ndT:=rfl
 ndK:=rfl
 ndC:=rfl
 ndD:=rfl
 pgV:=rfl
 pgT:=rfl
 pgC:=rfl
 stV:=rfl
 st6:=by decide
 one:=λl h=>by cases h;exact .inl rfl
theorem A1u:FY PK anS (Fg anP ⟨none,none⟩) YT=.ok ((65536,65536),()):=by
 have hd:Fg anP ⟨none,none⟩=⟨some (oA [oN 0,oN 0,oN 1,oN 1]),some anR⟩:=rfl
 have hb:=ZA PK 0 0 1 1 dD dD dD dD (some anR)
 rw [hd]
 have hb2:IR PK ⟨some (oA [oN 0,oN 0,oN 1,oN 1]),some anR⟩=.ok (65536,65536):=by rw [hb];rfl
 exact Ky hb2 (fs:=[]) rfl (l:=[]) rfl
theorem Up (p:Option Addr) (c:Nat) (w:World) (hr:AA WW w p [pg1]) :
  Calls Tryz.prog 40 #[.slice p 1 c] w λe w'=>∃ x:Option Addr × Nat,e=.returned (.tuple #[.slice x.1 (Cw PK).length x.2,Ag 0])/\AL w w'/\Af w' x.1 (Cw PK)/\(Cw PK).length<=x.2:=by
 refine AF func40 rfl ntmps40 ?_
 have k:=Dh w
 refine A4<|CL rfl<|A8 rfl<|A4<|A3 rfl<|Bf BQ rfl rfl ((SF p c _ hr)) (λx l b=>?_)
 have m:=Ci k b.1
 obtain ⟨lp,ys,lc⟩:=x
 obtain ⟨d,f,g⟩:=b.2
 simp only at d f g
 refine A3 rfl<|A1 (.ext rfl rfl)<|A1 (.ext rfl rfl)<|CL rfl<|A8 rfl<|Ad<|A4<|A3 rfl<|A1 (.bis (false) (.neq rfl rfl) dD)<|A0<|Ay rfl rfl<|As<|A4<|A3 rfl<|Bf BQ rfl rfl ((QG lp ys PK lc _ _ d f g (λo ho _=>by have:=ZN o ho;omega) True (λi h a l ha=>(OW _ _ _ l ha (PD _ (Ar a)) (A3H _ (Ar a))).mono λe w' ⟨u,a⟩=>⟨⟨true,λ_=>PD _ (Ar _),λ_=>rfl⟩,u,a⟩))) (λx y j=>?_)
 have q:=Ci m j.1
 obtain ⟨xp,xn,xc,xe⟩:=x
 have hW:=j.2
 simp only at hW ⊢
 obtain rfl:xe=0:=hW.sure trivial (by show 1<=4;decide) (by show 4<=4096;decide) Sa.1
 obtain ⟨rfl,s,t,v,-⟩:=hW.ok rfl
 refine A1 (.ext rfl rfl)<|A1 (.ext rfl rfl)<|CL rfl<|A8 rfl<|AU (Du rfl rfl rfl ?_)
 exact ⟨(xp,xc),rfl,q,s,t⟩
theorem UU (p:Option Addr) (c:Nat) (w:World) (hr:AA WW w p [pg1]) (hN:XA w) :
  Calls Tryz.prog 18 #[.slice p 1 c] w λe w'=>∃ x:Option Addr × Nat,e=.returned (.tuple #[.slice x.1 1 x.2,Ag 0])/\AL w w':=by
 have m:DM (λk=>k<w.heap.size) w:=⟨hN.lt,hN⟩
 refine AF func18 rfl ntmps18 ?_
 have o:=Dh w
 refine A4<|CL rfl<|A8 rfl<|A4<|A3 rfl<|Bf BQ rfl rfl ((Up p c _ hr)) (λx w1 a=>?_)
 have q:=DM.same (w1:=w1) m (λk hk hl=>a.1.block k hl)
 have s:=Ci o a.1
 obtain ⟨xp,xc⟩:=x
 obtain ⟨d,f⟩:=a.2
 simp only at d f
 refine A3 rfl<|A1 (.ext rfl rfl)<|A1 (.ext rfl rfl)<|CL rfl<|A8 rfl<|Ad<|A4<|A3 rfl<|A1 (.bis (false) (.neq rfl rfl) dD)<|A0<|Ay rfl rfl<|As<|A4<|A3 rfl<|Bf BQ rfl rfl ((NB PK Sa.2 xp _ xc _ rfl d f)) (λbf t b=>?_)
 have u:=DM.same (w1:=t) q (λk hk hl=>b.2.block k hl)
 have v:=Ci s b.2
 have y:=(b.1).mono (T:=λk=>k<t.heap.size) (λk _ hk=>hk)
 refine A3 rfl<|A1 (.ext rfl rfl)<|A1 (.ext rfl rfl)<|CL rfl<|A8 rfl<|Ad<|A4<|A3 rfl<|A1 (.bis (false) (.neq rfl rfl) dD)<|A0<|Ay rfl rfl<|As<|A4<|A3 rfl<|Bf BQ rfl rfl ((Pg bf _ PK A2S anC anN anP anS A1v _ y (u).blk)) (λx C g=>?_)
 have l:=Ci v g.1
 obtain ⟨⟨pp,pl,pc⟩,pe⟩:=x
 obtain ⟨B,h⟩:=g.2
 rw [A1u] at h
 obtain ⟨i,px,j,-⟩:=h
 simp only at i j
 subst i j
 refine A1 (.ext rfl rfl)<|A1 (.ext rfl rfl)<|CL rfl<|A8 rfl<|AU (Du rfl rfl rfl ?_)
 exact ⟨(pp,pc),rfl,l⟩
theorem A4k:Tryz.prog.built 46 [(0,Ag 65536),(1,Ag 65536)]=some (pgV pg1).toArray:=by kernel_rfl
theorem Tc (w:World) (hN:XA w):Cl 6 #[] w (.bool true):=by
 have c:DM (λk=>k<w.heap.size) w:=⟨hN.lt,hN⟩
 refine AF func6 rfl ntmps6 ?_
 have d:=Dh w
 refine A4<|A8 rfl ?_
 refine A4<|A1 (.build rfl A4k) ?_
 refine CR (L:=WW) (ps:=_) ([pg1]) In Rt XJ rfl rfl rfl rfl rfl (by rfl) rfl rfl (λo f g b a m=>?_)
 have h:=DM.same (w1:=f) c (λk hk hl=>a.other k oO)
 have i:=uB d g a
 refine Bf BQ rfl rfl ((UU _ _ _ (b).rowp (h).blk)) (λx q j=>?_)
 have l:=Ci i j
 refine A3 rfl<|A1 (.ext rfl rfl)<|A1 (.ext rfl rfl)<|CL rfl<|A8 rfl<|A4<|A3 rfl<|A1 (.bis (true) (.eql rfl rfl) dD)<|A3 rfl<|AE rfl<|A3 rfl<|AE rfl<|A1 (.lenS In rfl)<|AE rfl<|A1 (.bis (true) (.eql rfl rfl) dD)<|A1 (.bis (true) (.pkT rfl rfl rfl) (by rfl))<|A8 rfl<|AY ?_
 exact ⟨rfl,l⟩
theorem LA (which:UInt8) (wd:Int) (nm:l8_) (w:World) (hwd:-32768<=wd/\wd<=32767) (hnl:nm.length<=9223372036854775807) (hN:XA w) :
  Cl 5 #[.int .u8 (which.toNat:Int),.int .i16 wd,.string (bs nm)] w (.bool true) :=
 N9 which wd nm w hwd hnl hN Tc
end
section
open Go.ChangeShapes Go.WideShapes Go.ChangeAt Go.RowKit
theorem own:ownKnob Tryz.prog.godebug=none:=by kernel_rfl
def P0 (cs:Array Value):Obj->Obj
 | .cells _ t frozen=>.cells cs t frozen
 | o=>o
def firstCells:Array Value:=(Go.Pinned.utf8FirstZ.map λ(n:Nat)=>Value.int .u8 (n:Int)).toArray
def Uw:Array Value:=#[.int .u8 128,.int .u8 191,.int .u8 160,.int .u8 191,.int .u8 128,.int .u8 159,.int .u8 144,.int .u8 191,.int .u8 128,.int .u8 143,.int .u8 0,.int .u8 0,.int .u8 0,.int .u8 0,.int .u8 0,.int .u8 0,.int .u8 0,.int .u8 0,.int .u8 0,.int .u8 0,.int .u8 0,.int .u8 0,.int .u8 0,.int .u8 0,.int .u8 0,.int .u8 0,.int .u8 0,.int .u8 0,.int .u8 0,.int .u8 0,.int .u8 0,.int .u8 0]
noncomputable def Na (os:Os):World :=
 { World.holding Tryz.prog os ⟨#[],#[],[]⟩ with heap:=(((World.holding Tryz.prog os ⟨#[],#[],[]⟩).heap.modify 2 (P0 firstCells)).modify 3 (P0 Uw)).modify 1 (P0 nmC) }
theorem X7  {W:World} {name:String} {ss:List (l8_)} {rest:List (String × DataW Unit)} {g:Nat} {t:TypeId} {n:Nat}
  (hg:P.globalNamed name=some g) (hty:(P.globals[g]?).map (·.type)=some t) (ht:P.underlying t=some (.array n e)) (he:P.underlying e=some .string) (hce:P.cellsOf e=1)
  (h:laidMet P ((name,.agg (ss.map λs=>.lit (.string s)))::rest) W):AM F4 W (some ⟨g,0,none⟩) ss:=by
 obtain ⟨ps,⟨g',t',cs,fuel,p,q,hg',ht',c,hd,_,_⟩,_⟩:=h
 obtain rfl:=Bi (hg.symm.trans hg')
 obtain rfl:=Bi (hty.symm.trans ht')
 obtain ⟨xs,m,rfl,hx,u,hl,hf⟩:=DataW.trod_array ht hd
 rw [hce] at hf
 have a:xs.map (·.1)=ss.map λs=>(DataW.lit (.string s):DataW Unit):=by
  have:=BH Prod.fst hx
  simpa using this.symm
 have f:xs.length=ss.length:=by have:=BH List.length a;simpa using this
 refine ⟨λ_=>rfl,λj hj=>?_⟩
 have b:j<xs.length:=by omega
 have i:=(hf j oO).trans (Ak b)
 obtain ⟨s,k,l,-⟩:=DataW.trod_string he i
 have d:xs[j].1=.lit (.string ss[j]):=by
  have:=BH (·[j]?) a
  simp only [List.getElem?_map,Ak b,Ak hj,Option.map_some,BK] at this
  exact this
 rw [l] at d
 simp only [DataW.lit.injEq,Lit.string.injEq] at d
 have o:cs[j]?=some (.string s):=by
  have:=BH (·[0]?) k
  simpa [List.getElem?_take,List.getElem?_drop] using this
 show W.cell? ((⟨g,0,none⟩:Addr).add j)=_
 rw [GU,D5,World.var?_cell hg c j,o]
 show _=some (Value.string (bs ss[j]))
 rw [<- d];rfl
theorem A2I {W:World} (h:laidMetH Tryz.prog Rows.treeRefusesRow.laid W) (hS:W.ShapedOpen Tryz.prog):XA W:=by
 have e:laidMet Tryz.prog (("mezzotint/font.names",.agg (PJ.map λs=>.lit (.string s)))::Rows.treeRefusesRow.laid.tail) W:=by
  rw [MakeChecks.laidMetH_plain _ _ _ kR] at h;exact h
 have f:=X7 (g:=1) kR kR underlying230 FV kR e
 obtain ⟨cs,hh,hs,-⟩:=hS.1 1 (List.replicate 14 (Value.string .empty)).toArray 230 (dT kR) kR
 have hs:cs.size=14:=hs
 obtain rfl:cs=nmC:=by
  refine Array.ext (by rw [hs];rfl) λi b j=>?_
  have hi:i<PJ.length:=by rw [hs] at b;exact b
  have a:=f.cells i hi
  have k:W.cell? ⟨1,i,none⟩=some (F4 PJ[i]):=by have a:W.cell? ((⟨1,0,none⟩:Addr).add i)=_:=a;rw [GU,D5] at a;exact a
  have c:cs[i]?=some (F4 PJ[i]):=by simpa [World.cell?,hh] using k
  have d:nmC[i]?=some (F4 PJ[i]):=A1N hi
  rw [Eo b] at c
  rw [Eo j] at d
  exact Bi (c.trans d.symm)
 exact hh
theorem A3d {n:Int} (h:(Lit.int .u8 n).wf=true):0<=n/\n<=255:=by simpa [Lit.wf,IntKind.min,IntKind.max,IntKind.bits,IntKind.signed] using h
theorem A25 {n:Int} (h:(Lit.int .i16 n).wf=true):-32768<=n/\n<=32767:=by simpa [Lit.wf,IntKind.min,IntKind.max,IntKind.bits,IntKind.signed] using h
theorem A1s (s:ByteArray):bs s.data.toList=s:=rfl
theorem A2y {s:ByteArray} (h:s.size<=maxLen):s.data.toList.length<=9223372036854775807:=by
 have e:s.data.toList.length=s.size:=by rw [Array.length_toList];rfl
 rw [e];exact CT h (by unfold maxLen;decide)
theorem NW (a wd:Int) (s:ByteArray) (w:World) (hN:XA w) (ha:(Lit.int .u8 a).wf=true) (hw:(Lit.int .i16 wd).wf=true) (hm:s.size<=maxLen) :
  Cl 5 #[.int .u8 a,.int .i16 wd,.string s] w (.bool true):=by
 have b:=A3d ha
 obtain ⟨k,rfl⟩:=Int.eq_ofNat_of_zero_le b.1
 have hk:(UInt8.ofNat k).toNat=k:=UInt8.toNat_ofNat_of_lt' (by show k<256;omega)
 rw [<- A1s s]
 have:=LA (UInt8.ofNat k) wd s.data.toList w (A25 hw) (A2y hm) hN
 rw [hk] at this
 exact this
end
section
open Go.ChangeShapes Go.WideShapes Go.ChangeAt Go.RowKit
open Go.ChangeMaps (open_string shut_string)
theorem Kh (H:Type) (enc:TypeId × Value->H) (W:World) (base:Nat) (args:Array Value) (ds gs:List (DataW H)) (before:List MemPlace)
  (hval:∀ (j:Nat) t v,Tryz.f5.params[j]?=some t->args[j]?=some v->Value.okWide Tryz.prog W .any base t v)
  (hW:DataW.Whole enc Tryz.prog Tryz.f5.params.toList Rows.treeRefusesSpec.vars false W args.toList ds gs before) (hL:laidMetH Tryz.prog Rows.treeRefusesRow.laid W) (hS:W.ShapedOpen Tryz.prog) :
  Calls Tryz.prog 5 args W λe W'=>∃ v,e=.returned v/\Rows.treeRefusesSpec.post enc Tryz.prog Tryz.f5 false true false false W args v W':=by
 have hW':=hW
 obtain ⟨p,q,a,hV,rfl,D,E⟩:=hW
 have hA:DataW.TrodAll enc Tryz.prog W 0 (λ_=>true) true Tryz.f5.params.toList args.toList ds p:=a
 rw [Tryz.params5] at hA hval
 obtain ⟨f,F,N,G,O,P,g,rfl,rfl,o,s⟩:=trodAll_cons hA
 obtain ⟨i,J,Q,K,R,T,k,rfl,rfl,u,w⟩:=trodAll_cons s
 obtain ⟨l,L,U,M,V,X,m,rfl,rfl,x,y⟩:=trodAll_cons w
 obtain ⟨rfl,rfl,rfl⟩:=trodAll_nil y
 obtain rfl:args=#[f,i,l]:=by cases args;simp_all
 obtain ⟨rfl,rfl⟩:=trodVars_none hV
 obtain ⟨A,rfl,rfl,rfl,b⟩:=open_int Ga (hval 0 5 f rfl rfl) o
 obtain ⟨B,rfl,rfl,rfl,c⟩:=open_int underlying62 (hval 1 62 i rfl rfl) u
 obtain ⟨C,rfl,rfl,rfl,d⟩:=open_string FV (hval 2 9 l rfl rfl) x
 clear a
 simp only [Fu] at hW'
 refine (NW A B C W (A2I hL hS) b c d).mono λe W' ⟨he,bel⟩=>?_
 subst he
 exact ⟨_,rfl,_,_,_,[],_,[],hW',trodAll_mk1 (shut_bool underlying4 _),(trodAll_cons_mk (shut_int Ga b) (trodAll_cons_mk (shut_int underlying62 c) (trodAll_cons_mk (shut_string FV d) trodAll_mk0))),rfl,bel.frame _,λh=>by cases h⟩
theorem K7 (os:Os):laidMet Tryz.prog Rows.treeRefusesRow.laid ((Na os).forCall (λ_ _=>0) ⟨#[],#[.int .u8 0,.int .i16 0,.string .empty],[]⟩).memory :=
 laidMet_of_run' 8 kR kR
theorem Ma (os:Os) {H:Type} (enc:TypeId × Value->H):∃ places,DataW.whole enc Tryz.prog ((Na os).forCall (λ_ _=>0) ⟨#[],#[.int .u8 0,.int .i16 0,.string .empty],[]⟩).memory Tryz.f5.params.toList Rows.treeRefusesSpec.vars false #[Value.int .u8 0,.int .i16 0,.string .empty].toList 8=some ([.lit (.int .u8 0),.lit (.int .i16 0),.lit (.string [])],[],places) :=
 ⟨[],kR⟩
theorem Ly (os:Os) (started:os.Started) (H:Type) (enc:TypeId × Value->H) (F:Stop.Interp) :
    ReturnsInHanded {} Tryz.checked os 5 .any ((OpenSpec.ofChange Rows.treeRefusesSpec).preRow enc Tryz.prog Tryz.f5 Rows.treeRefusesRow.domain false Rows.treeRefusesRow.laid) (((OpenSpec.ofChange Rows.treeRefusesSpec).at F).post enc Tryz.prog Tryz.f5 false true false false):=by
  obtain ⟨places,hx⟩:=Ma os enc
  refine returnsInHanded_of_row (C:=Tryz.checked) (s:=OpenSpec.ofChange Rows.treeRefusesSpec) own started kR func5
    (witness_row_at (enc:=enc) (C:=Tryz.checked) false (Na os) #[.int .u8 0,.int .i16 0,.string .empty] rfl kR kR kR
      (OpenSpec.preRow_of_cond 8 hx kR (λk hk=>by cases hk) kR (K7 os))) ?_
  intro W base args ds gs before a hW _ b _ hL hS _
  exact Kh H enc W base args ds gs before a hW hL hS
theorem MU:Rows.TreeRefusesSaid :=
  OpenClaim.holds_of_cond 5 Tryz.f5 rfl rfl rfl rfl rfl rfl rfl ⟨rfl,rfl,rfl,rfl,rfl⟩ rfl rfl rfl rfl rfl kR func5 kR
    (dT kR) (by unfold Func.isWrapper;first | (rw [A5 (by decide +kernel)];kernel_rfl) | (rw [A2 (by decide +kernel)];exact ⟨rfl,rfl⟩))
    (λos started H enc _ F=>by rw [OpenClaim.pre_eq_preRow];exact Ly os started H enc F)
theorem Mf (f:FuncId) (fn:Func) (hf:Tryz.pinned.checked.prog.funcNamed "mezzotint/mezzotintlaw24.TreeRefuses"=some f) (hfn:Tryz.pinned.checked.prog.funcs[f]?=some fn) :
  true=Tryz.pinned.checked.prog.looks []/\∀ (j:Nat) t,fn.params[j]?=some t->Tryz.pinned.checked.prog.wantsStandIn t=false:=by
 obtain rfl:f=5:=Bi ((show Tryz.prog.funcNamed "mezzotint/mezzotintlaw24.TreeRefuses"=some 5 by kernel_rfl).symm.trans hf) |>.symm
 obtain rfl:fn=Tryz.f5:=(Bi (func5.symm.trans hfn)).symm
 refine ⟨kR,λj t ht=>?_⟩
 rw [Tryz.params5] at ht
 have a:=Array.mem_of_getElem? ht
 simp only [List.mem_toArray,A7,A6,Ax] at a
 rcases a with rfl | rfl | rfl
 · exact (show Tryz.prog.wantsStandIn 5=false by kernel_rfl)
 · exact (show Tryz.prog.wantsStandIn 62=false by kernel_rfl)
 · exact (show Tryz.prog.wantsStandIn 9=false by kernel_rfl)
theorem TreeRefuses_holds:Rows.TreeRefusesCardSaid :=
 Claim7.holds_tied_plain_at .later [] _ _ _ _ MU (λ_ h=>by cases h) kR (λ_ h=>by cases h) treeRefuses_row_tie rfl ⟨rfl,rfl⟩ kR rfl Mf kR
#print axioms TreeRefuses_holds
end
end Go.Proofs.YtiddobdioipidaaGreatDoor
