/-
  What the claim leans on, part 3: pruned and joined by my own tool out of the texts that stand in wip/ as templates.
-/
import Derived.Test.YtiddobdioipidaaGreatDoorTr2
set_option maxHeartbeats 6400000
set_option maxRecDepth 100000
namespace Go.Proofs.YtiddobdioipidaaGreatDoor
open Go.RowKit
open Go.Proofs.Tryz
variable {pa pb:Addr} {aft:Array Edge} {ops:Array Oper} {ats:Array TypeId} {args cs:Array Value} {st:Bool} {Q:Exit->Fr->World->Prop} {f:Fr} {F:FuncId} {D a:Int} {ks:List (List UInt8)} {ns:List Int} {A d l s:List UInt8} {vs xs:List Value} {B M N c i id j wk:Nat} {S T:Nat->Prop} {x y:Operand} {dp p:Option Addr} {P:Program} {pos:String} {α ι:Type} {E e ta tb tx ty:TypeId} {u v z:Value} {w w1:World} {S':World->Prop}
section
section
variable {P:Program} {f:Fr} {x y:Operand} {tx ty:TypeId} {a b r:Int} {k:IntKind}
theorem Bz.shr6 (hx:CE f x=some (.int .u8 a)) (hr:a.fdiv 64=r):Bz P (.binOp .shr tx x (.const (.int .u64 6)) ty) f (.int .u8 r):=λρ hρ d ty' pos aft g w=>by
 have h4:ρ (.const (.int .u64 6))=.int .u64 6:=hρ _ _ rfl
 have e:(Op.shift .shr .u8 a .u64 6).run P w=.ok (.int .u8 r) w:=by
  subst hr;rfl
 simp [execOp,hρ _ _ hx,h4,eqGuard,binOp,e]
theorem Bz.and (hx:CE f x=some (.int k a)) (hy:CE f y=some (.int k b)) (hr:bits .and k a b=r):Bz P (.binOp .and tx x y ty) f (.int k r):=λρ hρ d ty' pos aft g w=>by
 simp [execOp,hρ _ _ hx,hρ _ _ hy,eqGuard,binOp,intBits_and,hr]
end
def YL (c:UInt8):UInt8:=c ||| ((32:UInt8) * ((c >>> (6:UInt8)) &&& (1:UInt8)))
theorem A12 (c:UInt8):(c.toNat:Int).fdiv 64=((c >>> (6:UInt8)).toNat:Int):=by
 have key:∀ n:Fin 256,((UInt8.ofNat n.1).toNat:Int).fdiv 64=(((UInt8.ofNat n.1) >>> (6:UInt8)).toNat:Int):=by decide +kernel
 have h:=key ⟨c.toNat,C7 c⟩
 have e:UInt8.ofNat (⟨c.toNat,C7 c⟩:Fin 256).1=c:=UInt8.ofNat_toNat
 rw [e] at h
 exact h
theorem A15 (c:UInt8):bits .and .u8 ((c >>> (6:UInt8)).toNat:Int) 1=(((c >>> (6:UInt8)) &&& (1:UInt8)).toNat:Int):=by
 have key:∀ n:Fin 256,bits .and .u8 (((UInt8.ofNat n.1) >>> (6:UInt8)).toNat:Int) 1=((((UInt8.ofNat n.1) >>> (6:UInt8)) &&& (1:UInt8)).toNat:Int):=by decide +kernel
 have h:=key ⟨c.toNat,C7 c⟩
 have e:UInt8.ofNat (⟨c.toNat,C7 c⟩:Fin 256).1=c:=UInt8.ofNat_toNat
 rw [e] at h
 exact h
theorem A13 (c:UInt8):IntKind.u8.wrap (32 * (((c >>> (6:UInt8)) &&& (1:UInt8)).toNat:Int))=(((32:UInt8) * ((c >>> (6:UInt8)) &&& (1:UInt8))).toNat:Int):=by
 have key:∀ n:Fin 256,IntKind.u8.wrap (32 * ((((UInt8.ofNat n.1) >>> (6:UInt8)) &&& (1:UInt8)).toNat:Int))=(((32:UInt8) * (((UInt8.ofNat n.1) >>> (6:UInt8)) &&& (1:UInt8))).toNat:Int):=by decide +kernel
 have h:=key ⟨c.toNat,C7 c⟩
 have e:UInt8.ofNat (⟨c.toNat,C7 c⟩:Fin 256).1=c:=UInt8.ofNat_toNat
 rw [e] at h
 exact h
theorem A2x (c:UInt8):bits .or .u8 (c.toNat:Int) (((32:UInt8) * ((c >>> (6:UInt8)) &&& (1:UInt8))).toNat:Int)=((YL c).toNat:Int):=by
 have key:∀ n:Fin 256,bits .or .u8 ((UInt8.ofNat n.1).toNat:Int) (((32:UInt8) * (((UInt8.ofNat n.1) >>> (6:UInt8)) &&& (1:UInt8))).toNat:Int)=((YL (UInt8.ofNat n.1)).toNat:Int):=by decide +kernel
 have h:=key ⟨c.toNat,C7 c⟩
 have e:UInt8.ofNat (⟨c.toNat,C7 c⟩:Fin 256).1=c:=UInt8.ofNat_toNat
 rw [e] at h
 exact h
theorem A14 (c:UInt8):Lib.indexByte [48,49,50,51,52,53,54,55,56,57,97,98,99,100,101,102] (YL c)=LJ c:=by
 have key:∀ n:Fin 256,Lib.indexByte [48,49,50,51,52,53,54,55,56,57,97,98,99,100,101,102] (YL (UInt8.ofNat n.1))=LJ (UInt8.ofNat n.1):=by decide +kernel
 have h:=key ⟨c.toNat,C7 c⟩
 have e:UInt8.ofNat (⟨c.toNat,C7 c⟩:Fin 256).1=c:=UInt8.ofNat_toNat
 rw [e] at h
 exact h
theorem I9 (c:UInt8) (w:World):Calls Tryz.prog 129 #[.int .u8 (c.toNat:Int)] w λe w'=>e=.returned (Ag (LJ c))/\w=w':=by
 refine AF func129 rfl ntmps129<|A4<|A8 rfl<|A4<|A3 rfl<|A3 rfl<|A1 (.shr6 rfl (A12 c))<|A1 (.and rfl rfl (A15 c))<|A1 (.mul rfl rfl (A13 c))<|A1 (.or rfl rfl (A2x c))<|Au (K6 [48,49,50,51,52,53,54,55,56,57,97,98,99,100,101,102] (YL c) _) (λb a=>?_)
 obtain rfl:=a
 refine A8 rfl<|AY ?_
 exact ⟨DL (A14 c),rfl⟩
theorem VW (c:UInt8) (w:World) (m:Nat):Calls Tryz.prog 129 #[.int .u8 (c.toNat:Int)] (w.drewN m) λe w'=>e=.returned (Ag (LJ c))/\∃ k,w'=w.drewN k :=
 (I9 c (w.drewN m)).mono λe w' h=>⟨h.1,m,h.2.symm⟩
theorem Ja (c:UInt8) (r:l8_):KQ (c::r)=if c=35 then (match r with | a::b::r'=>if DQ a<16/\DQ b<16 then (KQ r').map (ch ((16 * DQ a+DQ b:Nat):Int)::·) else none | _=>none) else (KQ r).map (c::·):=by
 match r with
 | []=>by_cases h:c=35 <;> simp [KQ,h]
 | [a]=>by_cases h:c=35 <;> simp [KQ,h]
 | a::b::r'=>by_cases h:c=35 <;> simp [KQ,h]
def O3 (acc s:l8_):Option (l8_):=(KQ s).map (acc++·)
theorem Zr (acc:l8_):O3 acc []=some acc:=by simp [O3,KQ]
theorem Vc (acc s:l8_) (i:Nat) (h:i<s.length) (hc:s[i]≠35):O3 acc (s.drop i)=O3 (acc++[s[i]]) (s.drop (i+1)):=by
 unfold O3
 rw [Aw h,Ja,A2 hc,Option.map_map]
 congr 1
 funext x
 simp
theorem Vb (acc s:l8_) (i:Nat) (h:i<s.length) (hc:s[i]=35) (h2:s.length<=i+2):O3 acc (s.drop i)=none:=by
 unfold O3
 rw [Aw h,Ja,A5 hc]
 have hl:(s.drop (i+1)).length<=1:=by rw [Aq];omega
 match s.drop (i+1),hl with
 | [],_=>rfl
 | [a],_=>rfl
theorem Nk (acc s:l8_) (i:Nat) (h:i+2<s.length) (hc:s[i]=35):O3 acc (s.drop i)=if DQ s[i+1]<16/\DQ s[i+2]<16 then O3 (acc++[ch ((16 * DQ s[i+1]+DQ s[i+2]:Nat):Int)]) (s.drop (i+3)) else none:=by
 unfold O3
 rw [Aw (show i<s.length by omega),Ja,A5 hc,Aw (show i+1<s.length by omega),Aw (show i+1+1<s.length by omega)]
 simp only
 split
 ·
  rw [Option.map_map]
  congr 1
  funext x
  simp
 · rfl
theorem A16 (q:Option Addr) (s:l8_) (c:Nat) (x:UInt8) (w:World) (hb:Af w q s) (hl:s.length<=1000000000) :
  Calls Tryz.prog 155 #[.slice q s.length c,.int .u8 (x.toNat:Int)] w λe w'=>(∃ a:Int,e=.returned (Ag a)/\(0<=a↔x∈s))/\w=w':=by
 refine AF func155 rfl ntmps155<|A4<|A8 rfl<|Ad<|A4<|A3 rfl<|A1 (.lenS B1 rfl)<|A3 rfl<|A0<|AT<|BO (α:=Nat) (λt=>[(0,.slice q s.length c),(1,.int .u8 (x.toNat:Int)),(7,Ag (s.length:Int)),(8,Ag (t:Int))]) (λt w'=>w=w'/\t<=s.length/\x ∉ s.take t) (λt=>s.length-t) (0) ⟨rfl,rfl,rfl,rfl,tT⟩ (⟨rfl,FN _,by simp⟩) (λt k hR=>?_)
 obtain ⟨i,rfl⟩:=eX t
 obtain ⟨rfl,hi,b⟩:=hR
 refine A4<|A1 (.lss rfl rfl)<|A0<|Ad<|Ai rfl (λd=>?_) (λd=>?_)
 have g:=dT d
 refine As<|Ad<|AT<|A4<|A3 rfl<|A8 rfl<|A4<|A3 rfl<|A3 rfl<|A3 rfl<|A1 (.ixb B1 EC rfl rfl (hb.isp oO) (i) (rfl) oO)<|Aj (BG (IU _) rfl (hb.cells (i) oO))<|A1 (.eql rfl rfl)<|A0<|Ai rfl (λf=>?_) (λf=>?_)
 have j:=dT f
 refine A4<|A3 rfl<|A8 rfl<|AY ?_
 exact ⟨⟨_,rfl,λ_=>by rw [show x=s[i]'oO from Cf aS];exact Ar _,λ_=>by omega⟩,rfl⟩
 have j:=dF f
 refine As<|An<|A1 (.iis (((i+1:Nat):Int)) (.add rfl rfl (Bb oO)) oO)<|A3 rfl<|A0<|?_
 exact ⟨i+1,⟨rfl,rfl,rfl,rfl,tT⟩,⟨rfl,oM,by
  rw [List.take_add_one,Ak oO,Option.toList_some,Bj,Bl];exact λh=>h.elim b (D6 aS)⟩,oM⟩
 have g:=dF d
 refine BL<|A4<|A8 rfl<|AY ?_
 exact ⟨⟨_,rfl,λh=>Dp h dD,λh=>by rw [show s.take i=s from Al oO] at b;exact Dp h b⟩,rfl⟩
theorem A17 (q:Option Addr) (s:l8_) (c:Nat) (x:UInt8) (w:World) (hb:Af w q s) (hl:s.length<=1000000000) :
  Calls Tryz.prog 130 #[.slice q s.length c,.int .u8 (x.toNat:Int)] w λe w'=>e=.returned (.bool (decide (x∈s)))/\w=w':=by
 have hI:∀ b,Af b q s->Calls Tryz.prog 155 #[.slice q s.length c,.int .u8 (x.toNat:Int)] b λe w'=>∃ a:{ a:Int // 0<=a↔x∈s },e=.returned (Ag a.1)/\b=w':=λb f =>
  (A16 q s c x b f hl).mono λe w' ⟨⟨a,g,h⟩,i⟩=>⟨⟨a,h⟩,g,i⟩
 refine AF func130 rfl ntmps130<|A4<|A8 rfl<|A4<|A3 rfl<|A3 rfl<|Bf BQ rfl rfl ((hI _ hb)) (λa b d=>?_)
 obtain rfl:=d
 refine A1 (.geq rfl rfl)<|A8 rfl<|AY ?_
 exact ⟨Cu (GW.2 a.2),rfl⟩
theorem QN (r:Nat) (p:Option Addr) (l:l8_) (c t:Nat) (refs:Bool) (w:World) (h:O5 w r p l c t refs) (hne:0<l.length->(pA p).block≠r) (hc:l.length<=c) (hl:l.length<=100000000) (ht:t<=l.length) :
  Calls Tryz.prog 105 #[ptV r] w (Ce 35 (Iz l t) (λa=>.string (bs a.1)) (λa w'=>O5 w' r p l c a.2 refs/\B8 w.heap.size r w w') (λw'=>B8 w.heap.size r w w')):=by
 have hr:=h.1
 have hb:=h.2
 obtain ⟨X,hX⟩:=eX (Iz l t)
 rw [<- hX]
 unfold Iz at hX
 have aN:=EV l t ht
 have aO:=Qu l t
 have Q:∀ J,Af J p l->∀ m,Calls Tryz.prog 50 #[.slice p l.length c,Ag (t:Int)] (J.drewN m) λe w'=>e=.returned (.tuple #[.string (bs (Dk l t)),Ag (Bq l t:Int)])/\∃ k,w'=J.drewN k:=λJ h1 m=>Rk p l c t J h1 hc ht hl m
 generalize Dk l t=s at hX aO Q
 generalize Bq l t=t1 at hX aN Q
 obtain ⟨D,hD⟩:=eX (KQ s)
 rw [<- hD] at hX
 refine AF func105 rfl ntmps105 ?_
 have aP:=B8.refl (w.heap.size) r w
 refine A4<|A8 rfl<|Ad ?_
 have b8:r<w.heap.size:=hr.lt
 have ad:0<l.length->(pA p).block<w.heap.size:=λK=>hb.lt K
 refine DE BS kR<|WQ.p (.mv rfl) rfl<|WQ.p (.nck rfl) rfl<|WQ.p (.fa Cq rfl CZ dD rfl) rfl<|D2 (λm=>Ae (g22_ _) rfl hr rfl) rfl<|WQ.p (.mv rfl) rfl<|WQ.p (.nck rfl) rfl<|WQ.p (.fa Cq rfl BI dD rfl) rfl<|D2 (λm=>Ae (C5 _) rfl hr rfl) rfl<|IC BQ rfl rfl (λm=>(Q _ hb m))<|WQ.p (.mv rfl) rfl<|WQ.p (.ext rfl rfl) rfl<|WQ.p (.ext rfl rfl) rfl<|WQ.p (.as rfl) rfl<|WQ.p (.as rfl) rfl<|CO (λJ T=>?_)
 have aQ:=hr.drew T
 have aR:=hb.drew T
 have aT:=Bs aP (KU T)
 refine A4<|A3 rfl<|A3 rfl<|A1 (.nck rfl)<|A1 (.fa Cq rfl BI dD rfl)<|BA BI rfl rfl rfl aQ (by exact Nat.le_of_ble_eq_true rfl) (λw5 L A b5=>?_)
 have L:B4 w5 r _ _:=L
 have A:CP r _ _:=A
 have aU:=Af.upd aR A hne
 have aV:=Bs aT (Bk A)
 refine A0<|A4<|A8 rfl<|Ad<|A4<|A8 rfl<|AT<|BO (α:=Value × l8_ × Nat) (λt=>[(0,ptV r),(3,.string (bs s)),(5,t.1),(6,Ag (t.2.2:Int))]) (λt w'=>O5 w' r p l c t1 refs/\B8 w.heap.size r w w'/\CF 5 w.heap.size w' t.1 (AN t.2.1)/\O3 t.2.1 (s.drop t.2.2)=D/\t.2.1.length<=t.2.2/\t.2.2<=s.length) (λt=>s.length-t.2.2) ((.slice none 0 0,[],0)) ⟨rfl,rfl,rfl,rfl,tT⟩ (⟨⟨L,aU⟩,aV,CF.nil _ _ _,by rw [hD,Lh];simp [O3],FN _,FN _⟩) (λt J hR=>?_)
 obtain ⟨v,o,i⟩:=t
 obtain ⟨g,hT,B,hw,aW,hi⟩:=hR
 simp only at g hT B hw aW hi ⊢
 refine Ad<|A4<|A3 rfl<|A3 rfl<|A1 (.len FV rfl)<|A1 (.lss rfl rfl)<|A0<|Ai rfl (λh8=>?_) (λh8=>?_)
 have aX:=dT h8
 refine As<|Ad<|AT<|A4<|A3 rfl<|A3 rfl<|A1 (.ix FV rfl rfl (i) (rfl) oO)<|A8 rfl<|Ad<|A4<|A3 rfl<|A1 (.eql rfl rfl)<|A0<|Ai rfl (λh9=>?_) (λh9=>?_)
 have aY:=dT h9
 have y:s[i]'oO=35:=Cf aS
 refine Ad<|A4<|A3 rfl<|A1 (.add rfl rfl (Bb oO))<|A3 rfl<|A1 (.len FV rfl)<|A1 (.geq rfl rfl)<|A3 rfl<|Cc rfl rfl rfl (λb=>?_) (λb=>?_)
 have ag:=dF b
 refine A3 rfl<|AE b<|A3 rfl<|AE b<|A1 (.iis (((i+1:Nat):Int)) (.add rfl rfl (Bb oO)) oO)<|AE b<|A1 (.ix FV rfl rfl (i+1) (rfl) oO)<|AE b<|Au (I9 _ _) (λb9 ah=>?_)
 obtain rfl:=ah
 have ba:=If (s[i+1]'oO)
 refine AE b<|A1 (.lss rfl rfl)<|A1 (.pkF rfl b rfl)<|A3 rfl<|Cc rfl rfl rfl (λf=>?_) (λf=>?_)
 have ai:=dF f
 refine A3 rfl<|AE f<|A3 rfl<|AE f<|A1 (.iis (((i+2:Nat):Int)) (.add rfl rfl (Bb oO)) oO)<|AE f<|A1 (.ix FV rfl rfl (i+2) (rfl) oO)<|AE f<|Au (I9 _ _) (λbb aj=>?_)
 obtain rfl:=aj
 have aZ:=If (s[i+2]'oO)
 refine AE f<|A1 (.lss rfl rfl)<|A1 (.pkF rfl f rfl)<|A0<|Ai rfl (λU=>?_) (λU=>?_)
 have ak:=dT U
 refine An<|F5 BQ rfl ((CG 23 _)) (λbc al=>?_)
 obtain rfl:=al
 exact Bx (BB 23 (by rw [hX,<- hw,Nk _ _ _ oO y,A2 oO]) hT)
 have ak:=dF U
 refine As<|Ad<|DE BS kR<|WQ.p (.mv rfl) rfl<|WQ.p (.mv rfl) rfl<|WQ.p (.iis (((i+1:Nat):Int)) (.add rfl rfl (Bb oO)) oO) rfl<|WQ.p (.ix FV rfl rfl (i+1) (rfl) oO) rfl<|IC BQ rfl rfl (λm=>(VW (s[i+1]'oO) _ m))<|WQ.p (.iis (((DQ (s[i+1]'oO):Nat):Int) * 16) (.shl4 rfl _ (Bb oO)) oO) rfl<|WQ.p (.mv rfl) rfl<|WQ.p (.mv rfl) rfl<|WQ.p (.iis (((i+2:Nat):Int)) (.add rfl rfl (Bb oO)) oO) rfl<|WQ.p (.ix FV rfl rfl (i+2) (rfl) oO) rfl<|IC BQ rfl rfl (λm=>(VW (s[i+2]'oO) _ m))<|WQ.p (.or rfl rfl (show bits .or .i64 (((DQ (s[i+1]'oO):Nat):Int) * 16) (LJ (s[i+2]'oO))=((DQ (s[i+1]'oO):Nat):Int) * 16+((DQ (s[i+2]'oO):Nat):Int) by rw [(aZ.resolve_left (λh=>by have:=h.1;omega)).1];exact A1M _ _ oO oO)) rfl<|WQ.p (.cvt ML Ga rfl (PO oO)) rfl<|WQ.p (.as rfl) rfl<|CO (λbd C=>?_)
 have am:=CF.drew B C
 have V:=g.1.drew C
 have a0:=g.2.drew C
 have a1:=Bs hT (KU C)
 refine An<|A3 rfl<|A1 (.add rfl rfl (Bb oO))<|A8 rfl<|An<|A3 rfl<|A3 rfl<|CC (ps:=_) B1 EC Li rfl rfl rfl rfl rfl pR rfl (λbe b6 E a7 j b1=>?_)
 have an:=Dw am E j
 have ao:=Bt E V.lt
 have ap:=V.un j ao
 have a8:=λK=>E▸a0.lt K
 have aq:=Cy a0 j a8
 have a2:=CW E a1.size
 have a3:=Bs a1 (DC j a2)
 refine En B1 Id rfl rfl rfl an rfl a7 rfl (by rw [Ca];omega) (a3.size) rfl (λbf bg a9 F b2=>?_)
 have ar:=ap.below F oO
 have au:=Fh aq F ad
 have av:=Bs a3 (Fb (F.mono (DS _)))
 have aw:=E1 a9 (ch ((16 * DQ (s[i+1]'oO)+DQ (s[i+2]'oO):Nat):Int)) (by rw [Ih _ oO oO];omega)
 refine A8 rfl<|An<|A3 rfl<|A1 (.add rfl rfl (Bb oO))<|A8 rfl ?_
 exact ⟨(_,o++[_],i+3),⟨rfl,rfl,rfl,N8 rfl oM,tT⟩,⟨⟨ar,au⟩,av,aw,by rw [<- hw,Nk _ _ _ oO y,A5 oO],oF,oM⟩,oM⟩
 have ai:=dT f
 refine B6 f<|B6 f<|B6 f<|B6 f<|B6 f<|A1 (.pkT rfl f rfl)<|A0<|BZ rfl rfl<|An<|F5 BQ rfl ((CG 23 _)) (λbh ax=>?_)
 obtain rfl:=ax
 exact Bx (BB 23 (by rw [hX,<- hw,Nk _ _ _ oO y,A2 oO]) hT)
 have ag:=dT b
 refine B6 b<|B6 b<|B6 b<|B6 b<|B6 b<|A1 (.pkT rfl b rfl)<|A3 rfl<|B6 rfl<|B6 rfl<|B6 rfl<|B6 rfl<|B6 rfl<|B6 rfl<|A1 (.pkT rfl rfl rfl)<|A0<|BZ rfl rfl<|An<|F5 BQ rfl ((CG 23 _)) (λbi ay=>?_)
 obtain rfl:=ay
 exact Bx (BB 23 (by rw [hX,<- hw,Vb _ _ _ oO y oO]) hT)
 have aY:=dF h9
 have y:s[i]'oO≠35:=D6 (d:=35) aS
 refine As<|An<|A3 rfl<|A3 rfl<|CC (ps:=_) B1 EC Li rfl rfl rfl rfl rfl pR rfl (λa' b7 G aa u b3=>?_)
 have az:=Dw B G u
 have aA:r<a':=by rw [G];exact g.1.lt
 have aB:=g.1.un u aA
 have ab:=λK=>G▸g.2.lt K
 have aC:=Af.upd g.2 u (λK=>CV (ab K))
 have a4:=CW G hT.size
 have a5:=Bs hT (DC u a4)
 refine En B1 Id rfl rfl rfl az rfl aa rfl (by rw [Ca];omega) (a5.size) rfl (λbj bk ac H b4=>?_)
 have aD:=aB.below H oO
 have aE:=Fh aC H ad
 have aF:=Bs a5 (Fb (H.mono (DS _)))
 have aG:=E1 ac (s[i]'oO) (rfl)
 refine A8 rfl<|An<|A3 rfl<|A1 (.add rfl rfl (Bb oO))<|A8 rfl ?_
 exact ⟨(_,o++[_],i+1),⟨rfl,rfl,rfl,N8 rfl oM,tT⟩,⟨⟨aD,aE⟩,aF,aG,by rw [<- hw,Vc _ _ _ oO y],oF,oM⟩,oM⟩
 have aX:=dF h8
 refine BL<|Ad<|AT<|Ad ?_
 obtain ⟨q,cq,rfl,ae,bl⟩:=CF.bytes B
 have P:D=some o:=by rw [<- hw,show i=s.length by omega,NQ,Zr]
 refine An<|A3 rfl<|A1 (.lenS B1 rfl)<|A1 (.eql rfl rfl)<|A3 rfl<|Cc rfl rfl rfl (λx=>?_) (λx=>?_)
 have aH:=dF x
 refine A3 rfl<|AE x<|Au (A17 q o cq 0 _ ae oO) (λbm aI=>?_)
 obtain rfl:=aI
 refine A1 (.pkF rfl x rfl)<|A8 rfl<|Ai rfl (λb0=>?_) (λb0=>?_)
 refine An<|F5 BQ rfl ((CG 23 _)) (λbn aJ=>?_)
 obtain rfl:=aJ
 exact Bx (BB 23 (by rw [hX,P];simp only [];rw [A5 (.inr (dT aS))]) hT)
 refine Ad ?_
 have af:¬ (o=[]\/0∈o):=λh=>h.elim (λh=>by rw [h] at *;simp_all) (λh=>by simp_all)
 refine An<|A3 rfl<|A1 (.lenS B1 rfl)<|A1 (.gtr rfl rfl)<|A8 rfl<|Ai rfl (λa6=>?_) (λa6=>?_)
 have aK:=dT a6
 refine An<|F5 BQ rfl ((CG 25 _)) (λbo aL=>?_)
 obtain rfl:=aL
 exact Bx (BB 25 (by rw [hX,P];simp only [];rw [A2 af,A5 oO]) hT)
 have aK:=dF a6
 refine As<|A4<|A3 rfl<|Aj (Fa (l:=o) B1 Ga FV rfl (ae))<|A8 rfl<|AY ?_
 exact Ce.ok (o,t1) (by rw [hX,P];simp only [];rw [A2 af,A2 oO]) rfl ⟨⟨g.1,g.2⟩,hT⟩
 have aH:=dT x
 refine B6 x<|A1 (.pkT rfl x rfl)<|A8 rfl<|BZ rfl rfl<|An<|F5 BQ rfl ((CG 23 _)) (λbp aM=>?_)
 obtain rfl:=aM
 exact Bx (BB 23 (by rw [hX,P];simp only [];rw [A5 (.inl (EF.1 oO))]) hT)
end
section
theorem TF (l:l8_) (i:Nat) (h:i<l.length):(l.drop i).all HE=(HE l[i] && (l.drop (i+1)).all HE):=by
 rw [Aw h,List.all_cons]
theorem Mh {c:UInt8} (h:c=62\/(CJ c=false/\LJ c<0)):HE c=false:=by
 rcases h with rfl | ⟨a,d⟩
 · rfl
 ·
  unfold HE
  rcases If c with b | b
  · rw [a,AH oO];simp
  · omega
theorem Kz {c:UInt8} (h:c≠62) (h2:CJ c=true\/¬ LJ c<0):HE c=true:=by
 unfold HE
 rw [bne_iff_ne.2 h,DV]
 rcases h2 with h2 | h2
 · rw [h2];rfl
 ·
  rcases If c with a | a
  · omega
  · rw [AR a.2];simp
theorem WT (r:Nat) (p:Option Addr) (l:l8_) (c t:Nat) (refs:Bool) (w:World) (h:O5 w r p l c t refs) (hl:l.length<=100000000) (ht:t<l.length) :
  Cl 133 #[ptV r] w (.bool (NG l t)):=by
 have hr:=h.1
 have hb:=h.2
 have hg:l[t]?=some l[t]:=Ak ht
 refine AF func133 rfl ntmps133 ?_
 have a1:=Dh w
 refine A4<|A8 rfl<|A4<|A8 rfl<|Ad<|Ad<|DE BS kR<|WQ.p (.mv rfl) rfl<|WQ.p (.nck rfl) rfl<|WQ.p (.fa Cq rfl CZ dD rfl) rfl<|D2 (λm=>Ae (g22_ _) rfl hr rfl) rfl<|WQ.p (.mv rfl) rfl<|WQ.p (.nck rfl) rfl<|WQ.p (.fa Cq rfl BI dD rfl) rfl<|D2 (λm=>Ae (C5 _) rfl hr rfl) rfl<|WQ.p (.ixb B1 EC rfl rfl (hb.isp oO) (t) (rfl) (ht)) rfl<|D2 (λm=>BG (IU _) rfl ((hb.drewN m).cells (t) (ht))) rfl<|WQ.p (.eql rfl rfl) rfl<|CO (λw1 v=>?_)
 have u:=hr.drew v
 have D:=hb.drew v
 have E:=Cn.below a1 v
 refine Ai rfl (λF=>?_) (λF=>?_)
 have a2:=dT F
 refine An<|A8 rfl<|Ad<|A4<|A3 rfl<|A1 (.nck rfl)<|A1 (.fa Cq rfl BI dD rfl)<|Aj (Ae (C5 _) rfl u rfl)<|A1 (.iis (((t+1:Nat):Int)) (.add rfl rfl (Bb oO)) oO)<|A8 rfl<|AT ?_
 obtain ⟨T0,x⟩:=eX t
 subst x
 refine BO (α:=Nat × Int) (λt=>[(0,ptV r),(3,.int .u8 t.2),(4,Ag (t.1:Int))]) (λt w'=>AL w w'/\O5 w' r p l c T0 refs/\T0+1<=t.1/\t.1<=l.length/\((t.2=62/\l[T0]?=some 60/\(l.drop (T0+1)).all HE=(l.drop t.1).all HE)\/(t.2=41/\l[T0]?≠some 60))) (λt=>l.length-t.1) ((T0+1,_)) ⟨rfl,rfl,rfl,tT⟩ (⟨E,⟨u,D⟩,DS _,ht,by exact .inl ⟨rfl,by rw [hg,show l[T0]=60 from Cf aS],rfl⟩⟩) (λt w1 hR=>?_)
 obtain ⟨i,z⟩:=t
 obtain ⟨hT,a,y,hi,hz⟩:=hR
 simp only at y hi hz ⊢
 refine Ad<|FG 32 (decide (i<l.length/\z=62)) ?_ ?_
 refine An<|A3 rfl<|A3 rfl<|A1 (.nck rfl)<|A1 (.fa Cq rfl CZ dD rfl)<|Aj (Ae (g22_ _) rfl a.1 rfl)<|A1 (.lenS B1 rfl)<|A1 (.lss rfl rfl)<|A3 rfl<|Cc rfl rfl rfl (λs=>?_) (λs=>?_)
 have a3:=dT s
 refine A3 rfl<|AE s<|A1 (.eql rfl rfl)<|A1 (.pkT rfl s rfl)<|A0<|?_
 exact ⟨GC (DI rfl (by (apply B3.2;(try simp) <;> omega))),rfl⟩
 have a3:=dF s
 refine B6 s<|A1 (.pkF rfl s rfl)<|A0<|?_
 exact ⟨GC (DI rfl (by (apply B3.2;(try simp) <;> omega))),rfl⟩
 refine Ai rfl (λG=>?_) (λG=>?_)
 have a4:=dT G
 have b:l[T0]?=some 60/\(l.drop (T0+1)).all HE=(l.drop i).all HE:=by rcases hz with h | h;exact h.2;omega
 have j:=TF l i oO
 refine As<|Ad<|AT<|A4<|A3 rfl<|A1 (.nck rfl)<|A1 (.fa Cq rfl CZ dD rfl)<|Aj (Ae (g22_ _) rfl a.1 rfl)<|A3 rfl<|A1 (.ixb B1 EC rfl rfl (a.2.isp oO) (i) (rfl) oO)<|Aj (BG (IU _) rfl (a.2.cells (i) oO))<|A8 rfl<|A4<|A3 rfl<|A1 (.eql rfl rfl)<|A3 rfl<|Cc rfl rfl rfl (λg=>?_) (λg=>?_)
 have a5:=dF g
 refine A3 rfl<|AE g<|Au (Jj _ _) (λw9 a6=>?_)
 obtain rfl:=a6
 refine AE g<|A1 (.not rfl)<|AE g<|A3 rfl<|Cc rfl rfl rfl (λk=>?_) (λk=>?_)
 have H:=(nT k)
 refine A3 rfl<|Ik rfl rfl rfl (by rw [(nT k)] <;> rfl)<|Au (I9 _ _) (λa7 J=>?_)
 obtain rfl:=J
 refine Ik rfl rfl rfl (by rw [(nT k)] <;> rfl)<|A1 (.lss rfl rfl)<|AE g<|A1 (.pkT rfl (by rw [(nT k)] <;> rfl) rfl)<|A1 (.pkF rfl g rfl)<|A0<|Ai rfl (λA=>?_) (λA=>?_)
 have K:=dT A
 refine A4<|A8 rfl<|AY ?_
 exact ⟨Cu (by unfold NG;rw [A5 b.1,b.2,j,Mh (.inr ⟨aS,aS⟩)];rfl),hT⟩
 have K:=dF A
 refine As<|An<|A3 rfl<|A1 (.iis (((i+1:Nat):Int)) (.add rfl rfl (Bb oO)) oO)<|A8 rfl ?_
 exact ⟨(i+1,z),⟨rfl,rfl,rfl,tT⟩,⟨hT,⟨a.1,a.2⟩,oM,oM,.inl ⟨oO,b.1,by rw [b.2,j,Kz (D6 (d:=62) aS) (.inr aS),DV]⟩⟩,oM⟩
 have H:=(nF k)
 refine Jc rfl rfl rfl (by rw [(nF k)] <;> rfl)<|Jc rfl rfl rfl (by rw [(nF k)] <;> rfl)<|AE g<|A1 (.pkF rfl (by rw [(nF k)] <;> rfl) rfl)<|A1 (.pkF rfl g rfl)<|A0<|Ay rfl rfl<|As<|An<|A3 rfl<|A1 (.iis (((i+1:Nat):Int)) (.add rfl rfl (Bb oO)) oO)<|A8 rfl ?_
 exact ⟨(i+1,z),⟨rfl,rfl,rfl,tT⟩,⟨hT,⟨a.1,a.2⟩,oM,oM,.inl ⟨oO,b.1,by rw [b.2,j,Kz (D6 (d:=62) aS) (.inl aS),DV]⟩⟩,oM⟩
 have a5:=dT g
 refine B6 g<|B6 g<|B6 g<|KR<|KR<|KR<|B6 g<|A1 (.pkT rfl g rfl)<|A0<|BZ rfl rfl<|A4<|A8 rfl<|AY ?_
 exact ⟨Cu (by unfold NG;rw [A5 b.1,b.2,j,Mh (.inl (Cf (d:=62) aS))];rfl),hT⟩
 have a4:=dF G
 refine BL<|A4<|A8 rfl<|AY ?_
 exact ⟨Cu (by
  unfold NG;rcases hz with h | h;rw [A5 h.2.1,h.2.2,Bv oO];rfl;rw [A2 h.2]),hT⟩
 have a2:=dF F
 refine As<|Ad<|A4<|A3 rfl<|A1 (.nck rfl)<|A1 (.fa Cq rfl BI dD rfl)<|Aj (Ae (C5 _) rfl u rfl)<|A1 (.iis (((t+1:Nat):Int)) (.add rfl rfl (Bb oO)) oO)<|A8 rfl<|AT ?_
 obtain ⟨T0,x⟩:=eX t
 subst x
 refine BO (α:=Nat × Int) (λt=>[(0,ptV r),(3,.int .u8 t.2),(4,Ag (t.1:Int))]) (λt w'=>AL w w'/\O5 w' r p l c T0 refs/\T0+1<=t.1/\t.1<=l.length/\((t.2=62/\l[T0]?=some 60/\(l.drop (T0+1)).all HE=(l.drop t.1).all HE)\/(t.2=41/\l[T0]?≠some 60))) (λt=>l.length-t.1) ((T0+1,_)) ⟨rfl,rfl,rfl,tT⟩ (⟨E,⟨u,D⟩,DS _,ht,by exact .inr ⟨rfl,by rw [hg];exact λh=>Dp (Bi h) (D6 (d:=60) aS)⟩⟩) (λt w1 hR=>?_)
 obtain ⟨i,z⟩:=t
 obtain ⟨hT,a,y,hi,hz⟩:=hR
 simp only at y hi hz ⊢
 refine Ad<|FG 32 (decide (i<l.length/\z=62)) ?_ ?_
 refine An<|A3 rfl<|A3 rfl<|A1 (.nck rfl)<|A1 (.fa Cq rfl CZ dD rfl)<|Aj (Ae (g22_ _) rfl a.1 rfl)<|A1 (.lenS B1 rfl)<|A1 (.lss rfl rfl)<|A3 rfl<|Cc rfl rfl rfl (λq=>?_) (λq=>?_)
 have L:=dT q
 refine A3 rfl<|AE q<|A1 (.eql rfl rfl)<|A1 (.pkT rfl q rfl)<|A0<|?_
 exact ⟨GC (DI rfl (by (apply B3.2;(try simp) <;> omega))),rfl⟩
 have L:=dF q
 refine B6 q<|A1 (.pkF rfl q rfl)<|A0<|?_
 exact ⟨GC (DI rfl (by (apply B3.2;(try simp) <;> omega))),rfl⟩
 refine Ai rfl (λB=>?_) (λB=>?_)
 have P:=dT B
 have b:l[T0]?=some 60/\(l.drop (T0+1)).all HE=(l.drop i).all HE:=by rcases hz with h | h;exact h.2;omega
 have j:=TF l i oO
 refine As<|Ad<|AT<|A4<|A3 rfl<|A1 (.nck rfl)<|A1 (.fa Cq rfl CZ dD rfl)<|Aj (Ae (g22_ _) rfl a.1 rfl)<|A3 rfl<|A1 (.ixb B1 EC rfl rfl (a.2.isp oO) (i) (rfl) oO)<|Aj (BG (IU _) rfl (a.2.cells (i) oO))<|A8 rfl<|A4<|A3 rfl<|A1 (.eql rfl rfl)<|A3 rfl<|Cc rfl rfl rfl (λf=>?_) (λf=>?_)
 have Q:=dF f
 refine A3 rfl<|AE f<|Au (Jj _ _) (λa8 T=>?_)
 obtain rfl:=T
 refine AE f<|A1 (.not rfl)<|AE f<|A3 rfl<|Cc rfl rfl rfl (λo=>?_) (λo=>?_)
 have V:=(nT o)
 refine A3 rfl<|Ik rfl rfl rfl (by rw [(nT o)] <;> rfl)<|Au (I9 _ _) (λa9 X=>?_)
 obtain rfl:=X
 refine Ik rfl rfl rfl (by rw [(nT o)] <;> rfl)<|A1 (.lss rfl rfl)<|AE f<|A1 (.pkT rfl (by rw [(nT o)] <;> rfl) rfl)<|A1 (.pkF rfl f rfl)<|A0<|Ai rfl (λC=>?_) (λC=>?_)
 have a0:=dT C
 refine A4<|A8 rfl<|AY ?_
 exact ⟨Cu (by unfold NG;rw [A5 b.1,b.2,j,Mh (.inr ⟨aS,aS⟩)];rfl),hT⟩
 have a0:=dF C
 refine As<|An<|A3 rfl<|A1 (.iis (((i+1:Nat):Int)) (.add rfl rfl (Bb oO)) oO)<|A8 rfl ?_
 exact ⟨(i+1,z),⟨rfl,rfl,rfl,tT⟩,⟨hT,⟨a.1,a.2⟩,oM,oM,.inl ⟨oO,b.1,by rw [b.2,j,Kz (D6 (d:=62) aS) (.inr aS),DV]⟩⟩,oM⟩
 have V:=(nF o)
 refine Jc rfl rfl rfl (by rw [(nF o)] <;> rfl)<|Jc rfl rfl rfl (by rw [(nF o)] <;> rfl)<|AE f<|A1 (.pkF rfl (by rw [(nF o)] <;> rfl) rfl)<|A1 (.pkF rfl f rfl)<|A0<|Ay rfl rfl<|As<|An<|A3 rfl<|A1 (.iis (((i+1:Nat):Int)) (.add rfl rfl (Bb oO)) oO)<|A8 rfl ?_
 exact ⟨(i+1,z),⟨rfl,rfl,rfl,tT⟩,⟨hT,⟨a.1,a.2⟩,oM,oM,.inl ⟨oO,b.1,by rw [b.2,j,Kz (D6 (d:=62) aS) (.inl aS),DV]⟩⟩,oM⟩
 have Q:=dT f
 refine B6 f<|B6 f<|B6 f<|KR<|KR<|KR<|B6 f<|A1 (.pkT rfl f rfl)<|A0<|BZ rfl rfl<|A4<|A8 rfl<|AY ?_
 exact ⟨Cu (by unfold NG;rw [A5 b.1,b.2,j,Mh (.inl (Cf (d:=62) aS))];rfl),hT⟩
 have P:=dF B
 refine BL<|A4<|A8 rfl<|AY ?_
 exact ⟨Cu (by
  unfold NG;rcases hz with h | h;rw [A5 h.2.1,h.2.2,Bv oO];rfl;rw [A2 h.2]),hT⟩
theorem QM (r:Nat) (p:Option Addr) (l:l8_) (c t:Nat) (refs:Bool) (w:World) (h:O5 w r p l c t refs) (hne:0<l.length->(pA p).block≠r) (hc:l.length<=c) (hl:l.length<=100000000) (ht:t<l.length) :
  Calls Tryz.prog 108 #[ptV r] w (Ce 35 (JP l t) (λa=>.agg (Q6 5 0 a.1).toArray) (λa w'=>O5 w' r p l c a.2 refs/\B8 w.heap.size r w w') (λw'=>B8 w.heap.size r w w')):=by
 have hr:=h.1
 have hb:=h.2
 obtain ⟨X,hX⟩:=eX (JP l t)
 rw [<- hX]
 unfold JP at hX
 have hN:∀ w1,Af w1 p l->Calls Tryz.prog 132 #[.slice p l.length c,Ag (t:Int)] w1 λe w'=>e=.returned (FQ l t).val/\AL w1 w':=λw1 h1=>Wu t p l c w1 h1 hc hl
 have bg:=P9 l t oO
 generalize FQ l t=N at hX hN bg
 refine AF func108 rfl ntmps108 ?_
 have cH:=B8.refl (w.heap.size) r w
 refine A4<|Bm CA rfl (λb1 ev aN cJ aq e6=>?_)
 have dH:=Bt aN hr.lt
 have dI:=hr.un aq dH
 have ar:=λb=>aN▸hb.lt b
 have dJ:=Cy hb aq ar
 have bh:=CW aN cH.size
 have dK:=Bs cH (DC aq bh)
 refine A0<|?_
 obtain ⟨t0,y⟩:=eX t
 refine Mz (α:=Nat) (λt=>[(0,ptV r),(2,ptV b1),(3,ptV t),(4,Ag N.at'),(5,Ag N.e)]) (λt w'=>B8 w.heap.size r w w'/\B4 w' r #[.slice p l.length c,Ag (t0:Int),.bool refs] 133/\Af w' p l/\B4 w' b1 (Q6 0 0 []).toArray 27/\B4 w' t #[Ag N.k,Ag N.n,.string (bs N.s)] 196/\b1<t) ?_ (λt w1 hR=>?_)
 refine F2 17 rfl BS (λw7 aB=>?_)
 have g:=dI.drew aB
 have q:=cJ.drew aB
 have d:=dJ.drew aB
 have f:=Bs dK (KU aB)
 refine AB 0 rfl (.mv rfl) rfl<|AB 1 rfl (.nck rfl) rfl<|AB 2 rfl (.fa Cq rfl CZ dD rfl) rfl<|AB 4 rfl (.mv rfl) rfl<|AB 5 rfl (.nck rfl) rfl<|AB 6 rfl (.fa Cq rfl BI dD rfl) rfl<|Ri [3,7,13] kR rfl ⟨⟨_,rfl,?_⟩,⟨_,rfl,?_⟩,⟨_,rfl,?_⟩,tT⟩
 refine Aj (Ae (g22_ _) rfl g rfl)<|A0<|Ct 7 rfl 13 rfl ?_ ?_
 refine Aj (Ae (C5 _) rfl g rfl)<|A0<|Ct 8 rfl 13 rfl ?_ ?_
 refine Au (hN _ d) (λew af=>?_)
 have aO:=g.bl af
 have aP:=q.bl af
 have aQ:=Fh d af (λb=>d.lt b)
 have aR:=Bs f (EN (Fb af) f.size)
 refine A0<|AB 9 rfl (.mv rfl) rfl<|AB 10 rfl (.ext rfl rfl) rfl<|AB 11 rfl (.ext rfl rfl) rfl<|AB 12 rfl (.ext rfl rfl) rfl<|Ao 13 rfl<|Bm GY rfl (λex e7 ag bi P dW=>?_)
 have cK:=Bt ag aO.lt
 have cL:=aO.un P cK
 have cM:=Bt ag aP.lt
 have cN:=aP.un P cM
 have aC:=λb=>ag▸aQ.lt b
 have cO:=Cy aQ P aC
 have aT:=CW ag aR.size
 have cP:=Bs aR (DC P aT)
 refine A0<|Ao 14 rfl<|Az rfl rfl bi BC rfl rfl (λey bj Q dX=>?_)
 have cQ:=cL.up Q
 have cR:=cN.up Q
 have cS:=Cy cO Q aC
 have cT:=Bs cP (DC Q oO)
 refine A0<|AB 15 rfl (.as rfl) rfl<|AB 16 rfl (.as rfl) rfl<|Be kR ?_
 exact ⟨_,⟨rfl,rfl,rfl,rfl,rfl,tT⟩,cT,by rw [y];exact cQ,cS,cR,bj,oO⟩
 refine Bm GY rfl (λez e8 ah bk T dY=>?_)
 have cU:=Bt ah g.lt
 have cV:=g.un T cU
 have cW:=Bt ah q.lt
 have cX:=q.un T cW
 have aD:=λb=>ah▸d.lt b
 have au:=Cy d T aD
 have aU:=CW ah f.size
 have aV:=Bs f (DC T aU)
 refine A0<|Ao 8 rfl<|Au (hN _ au) (λeA a7=>?_)
 have cY:=cV.bl a7
 have cZ:=cX.bl a7
 have c':=bk.bl a7
 have d0:=Fh au a7 (λb=>au.lt b)
 have d1:=Bs aV (EN (Fb a7) aV.size)
 refine A0<|AB 9 rfl (.mv rfl) rfl<|AB 10 rfl (.ext rfl rfl) rfl<|AB 11 rfl (.ext rfl rfl) rfl<|AB 12 rfl (.ext rfl rfl) rfl<|Ao 14 rfl<|Az rfl rfl c' BC rfl rfl (λeB bm U dZ=>?_)
 have d2:=cY.up U
 have d3:=cZ.up U
 have d4:=Cy d0 U aD
 have d5:=Bs d1 (DC U oO)
 refine A0<|AB 15 rfl (.as rfl) rfl<|AB 16 rfl (.as rfl) rfl<|Be kR ?_
 exact ⟨_,⟨rfl,rfl,rfl,rfl,rfl,tT⟩,d5,by rw [y];exact d2,d4,d3,bm,oO⟩
 refine Bm GY rfl (λeC e9 ai bn V d'=>?_)
 have d6:=Bt ai g.lt
 have aW:=g.un V d6
 have d7:=Bt ai q.lt
 have d8:=q.un V d7
 have aE:=λb=>ai▸d.lt b
 have av:=Cy d V aE
 have aX:=CW ai f.size
 have aY:=Bs f (DC V aX)
 refine A0<|Ao 7 rfl<|Aj (Ae (C5 _) rfl aW rfl)<|A0<|Ao 8 rfl<|Au (hN _ av) (λeD a8=>?_)
 have d9:=aW.bl a8
 have da:=d8.bl a8
 have db:=bn.bl a8
 have dc:=Fh av a8 (λb=>av.lt b)
 have dd:=Bs aY (EN (Fb a8) aY.size)
 refine A0<|AB 9 rfl (.mv rfl) rfl<|AB 10 rfl (.ext rfl rfl) rfl<|AB 11 rfl (.ext rfl rfl) rfl<|AB 12 rfl (.ext rfl rfl) rfl<|Ao 14 rfl<|Az rfl rfl db BC rfl rfl (λeF bo a0 e0=>?_)
 have de:=d9.up a0
 have df:=da.up a0
 have dg:=Cy dc a0 aE
 have dh:=Bs dd (DC a0 oO)
 refine A0<|AB 15 rfl (.as rfl) rfl<|AB 16 rfl (.as rfl) rfl<|Be kR ?_
 exact ⟨_,⟨rfl,rfl,rfl,rfl,rfl,tT⟩,dh,by rw [y];exact de,dg,df,bo,oO⟩
 refine Aj (Ae (C5 _) rfl g rfl)<|A0<|Ct 3 rfl 13 rfl ?_ ?_
 refine Aj (Ae (g22_ _) rfl g rfl)<|A0<|Ct 8 rfl 13 rfl ?_ ?_
 refine Au (hN _ d) (λeG aj=>?_)
 have aZ:=g.bl aj
 have a':=q.bl aj
 have b0:=Fh d aj (λb=>d.lt b)
 have b2:=Bs f (EN (Fb aj) f.size)
 refine A0<|AB 9 rfl (.mv rfl) rfl<|AB 10 rfl (.ext rfl rfl) rfl<|AB 11 rfl (.ext rfl rfl) rfl<|AB 12 rfl (.ext rfl rfl) rfl<|Ao 13 rfl<|Bm GY rfl (λeH ea ak bp a1 e1=>?_)
 have di:=Bt ak aZ.lt
 have dj:=aZ.un a1 di
 have dk:=Bt ak a'.lt
 have dl:=a'.un a1 dk
 have aF:=λb=>ak▸b0.lt b
 have dm:=Cy b0 a1 aF
 have b4:=CW ak b2.size
 have dn:=Bs b2 (DC a1 b4)
 refine A0<|Ao 14 rfl<|Az rfl rfl bp BC rfl rfl (λeI bq a2 e2=>?_)
 have dp:=dj.up a2
 have dq:=dl.up a2
 have dr:=Cy dm a2 aF
 have ds:=Bs dn (DC a2 oO)
 refine A0<|AB 15 rfl (.as rfl) rfl<|AB 16 rfl (.as rfl) rfl<|Be kR ?_
 exact ⟨_,⟨rfl,rfl,rfl,rfl,rfl,tT⟩,ds,by rw [y];exact dp,dr,dq,bq,oO⟩
 refine Bm GY rfl (λeJ eb am bt a3 e3=>?_)
 have dt:=Bt am g.lt
 have du:=g.un a3 dt
 have dv:=Bt am q.lt
 have dw:=q.un a3 dv
 have aG:=λb=>am▸d.lt b
 have aw:=Cy d a3 aG
 have b5:=CW am f.size
 have b6:=Bs f (DC a3 b5)
 refine A0<|Ao 8 rfl<|Au (hN _ aw) (λeK a9=>?_)
 have dx:=du.bl a9
 have dy:=dw.bl a9
 have dz:=bt.bl a9
 have dA:=Fh aw a9 (λb=>aw.lt b)
 have dB:=Bs b6 (EN (Fb a9) b6.size)
 refine A0<|AB 9 rfl (.mv rfl) rfl<|AB 10 rfl (.ext rfl rfl) rfl<|AB 11 rfl (.ext rfl rfl) rfl<|AB 12 rfl (.ext rfl rfl) rfl<|Ao 14 rfl<|Az rfl rfl dz BC rfl rfl (λec b7 A dL=>?_)
 have bu:=dx.up A
 have bv:=dy.up A
 have bw:=Cy dA A aG
 have bz:=Bs dB (DC A oO)
 refine A0<|AB 15 rfl (.as rfl) rfl<|AB 16 rfl (.as rfl) rfl<|Be kR ?_
 exact ⟨_,⟨rfl,rfl,rfl,rfl,rfl,tT⟩,bz,by rw [y];exact bu,bw,bv,b7,oO⟩
 refine Bm GY rfl (λed e4 a4 b8 B dM=>?_)
 have bA:=Bt a4 g.lt
 have aH:=g.un B bA
 have bB:=Bt a4 q.lt
 have bC:=q.un B bB
 have ao:=λb=>a4▸d.lt b
 have an:=Cy d B ao
 have aL:=CW a4 f.size
 have aI:=Bs f (DC B aL)
 refine A0<|Ao 3 rfl<|Aj (Ae (g22_ _) rfl aH rfl)<|A0<|Ao 8 rfl<|Au (hN _ an) (λee C=>?_)
 have bD:=aH.bl C
 have bE:=bC.bl C
 have bG:=b8.bl C
 have bH:=Fh an C (λb=>an.lt b)
 have bI:=Bs aI (EN (Fb C) aI.size)
 refine A0<|AB 9 rfl (.mv rfl) rfl<|AB 10 rfl (.ext rfl rfl) rfl<|AB 11 rfl (.ext rfl rfl) rfl<|AB 12 rfl (.ext rfl rfl) rfl<|Ao 14 rfl<|Az rfl rfl bG BC rfl rfl (λef b9 D dN=>?_)
 have bJ:=bD.up D
 have bK:=bE.up D
 have bL:=Cy bH D ao
 have bM:=Bs bI (DC D oO)
 refine A0<|AB 15 rfl (.as rfl) rfl<|AB 16 rfl (.as rfl) rfl<|Be kR ?_
 exact ⟨_,⟨rfl,rfl,rfl,rfl,rfl,tT⟩,bM,by rw [y];exact bJ,bL,bK,b9,oO⟩
 refine Bm GY rfl (λeg e5 a5 ap E dO=>?_)
 have bN:=Bt a5 g.lt
 have u:=g.un E bN
 have bO:=Bt a5 q.lt
 have aJ:=q.un E bO
 have aa:=λb=>a5▸d.lt b
 have v:=Cy d E aa
 have aM:=CW a5 f.size
 have a6:=Bs f (DC E aM)
 refine A0<|Ct 3 rfl 7 rfl ?_ ?_
 refine Aj (Ae (g22_ _) rfl u rfl)<|A0<|Ao 7 rfl<|Aj (Ae (C5 _) rfl u rfl)<|A0<|Ao 8 rfl<|Au (hN _ v) (λeh F=>?_)
 have bP:=u.bl F
 have bQ:=aJ.bl F
 have bR:=ap.bl F
 have bS:=Fh v F (λb=>v.lt b)
 have bT:=Bs a6 (EN (Fb F) a6.size)
 refine A0<|AB 9 rfl (.mv rfl) rfl<|AB 10 rfl (.ext rfl rfl) rfl<|AB 11 rfl (.ext rfl rfl) rfl<|AB 12 rfl (.ext rfl rfl) rfl<|Ao 14 rfl<|Az rfl rfl bR BC rfl rfl (λei ba G dP=>?_)
 have bU:=bP.up G
 have bV:=bQ.up G
 have bW:=Cy bS G aa
 have bX:=Bs bT (DC G oO)
 refine A0<|AB 15 rfl (.as rfl) rfl<|AB 16 rfl (.as rfl) rfl<|Be kR ?_
 exact ⟨_,⟨rfl,rfl,rfl,rfl,rfl,tT⟩,bX,by rw [y];exact bU,bW,bV,ba,oO⟩
 refine Aj (Ae (C5 _) rfl u rfl)<|A0<|Ao 3 rfl<|Aj (Ae (g22_ _) rfl u rfl)<|A0<|Ao 8 rfl<|Au (hN _ v) (λej H=>?_)
 have bY:=u.bl H
 have bZ:=aJ.bl H
 have b':=ap.bl H
 have c0:=Fh v H (λb=>v.lt b)
 have c2:=Bs a6 (EN (Fb H) a6.size)
 refine A0<|AB 9 rfl (.mv rfl) rfl<|AB 10 rfl (.ext rfl rfl) rfl<|AB 11 rfl (.ext rfl rfl) rfl<|AB 12 rfl (.ext rfl rfl) rfl<|Ao 14 rfl<|Az rfl rfl b' BC rfl rfl (λek bb J dQ=>?_)
 have c3:=bY.up J
 have c4:=bZ.up J
 have c5:=Cy c0 J aa
 have c6:=Bs c2 (DC J oO)
 refine A0<|AB 15 rfl (.as rfl) rfl<|AB 16 rfl (.as rfl) rfl<|Be kR ?_
 exact ⟨_,⟨rfl,rfl,rfl,rfl,rfl,tT⟩,c6,by rw [y];exact c3,c5,c4,bb,oO⟩
 obtain ⟨b3,rfl⟩:=eX t
 subst y
 obtain ⟨hT,bc,hb2,cI,bd,eL⟩:=hR
 refine Ad<|AT<|A4<|A3 rfl<|A1 (.eql rfl rfl)<|A3 rfl<|Cc rfl rfl rfl (λx=>?_) (λx=>?_)
 have c7:=dT x
 refine A3 rfl<|AE x<|Au (WT r p l c t0 refs _ ⟨bc,hb2⟩ hl ht) (λel K=>?_)
 have c8:=bc.bl K
 have c9:=cI.bl K
 have aK:=bd.bl K
 have ca:=Fh hb2 K (λb=>hb2.lt b)
 have L:=Bs hT (EN (Fb K) hT.size)
 refine A1 (.pkT rfl x rfl)<|A8 rfl<|Ai rfl (λdC=>?_) (λdC=>?_)
 refine An<|F5 BQ rfl ((CG 24 _)) (λem cb=>?_)
 obtain rfl:=cb
 exact Bx (BB 24 (by rw [hX,A5 ⟨aS,aS⟩]) L)
 refine A4<|A3 rfl<|A1 (.eql rfl rfl)<|A8 rfl<|Ai rfl (λax=>?_) (λax=>?_)
 have cc:=dT ax
 refine An<|F5 BQ rfl ((CG 25 _)) (λen cd=>?_)
 obtain rfl:=cd
 exact Bx (BB 25 (by rw [hX,A2 (by rintro ⟨h1,h2⟩;simp_all),A5 aS]) L)
 have cc:=dF ax
 refine A4<|A3 rfl<|A1 (.neq rfl rfl)<|A3 rfl<|Cc rfl rfl rfl (λm=>?_) (λm=>?_)
 have cf:=ndF m
 refine A1 (.fa DP rfl BI dD rfl)<|AE m<|Aj (Ae (C5 _) rfl aK rfl)<|AE m<|A1 (.neq rfl rfl)<|A1 (.pkF rfl m rfl)<|A8 rfl<|Ai rfl (λay=>?_) (λay=>?_)
 have cg:=ndT ay
 refine An<|F5 BQ rfl ((CG 23 _)) (λeo ci=>?_)
 obtain rfl:=ci
 exact Bx (BB 23 (by rw [hX,A2 (by rintro ⟨h1,h2⟩;simp_all),A2 aS,A5 (.inr aS)]) L)
 have cg:=ndF ay
 refine As<|A4<|A3 rfl<|A1 (.iis (((N.at'.toNat:Nat):Int)) (.mv rfl) oO)<|A1 (.nck rfl)<|A1 (.fa Cq rfl BI dD rfl)<|BA BI rfl rfl rfl c8 (by exact Nat.le_of_ble_eq_true rfl) (λdE ab i dR=>?_)
 have ab:B4 dE r _ _:=ab
 have i:CP r _ _:=i
 have cj:=c9.up i
 have ck:=aK.up i
 have cl:=Af.upd ca i hne
 have cm:=Bs L (Bk i)
 refine A0<|A4<|A1 (.fa DP rfl FP dD rfl)<|Aj (Ae (FU _) rfl ck rfl)<|?_
 refine A1 (.buildL (ps:=_) Ec rfl rfl rfl pS) ?_
 refine Az rfl rfl cj Ah rfl rfl (λep be ac dS=>?_)
 have cn:=ab.up ac
 have co:=Cy cl ac ar
 have cq:=Bs cm (DC ac oO)
 refine A0<|AU (BD rfl rfl (Ba be Av rfl Ah)  ?_)
 exact Ce.ok (N.s,N.at'.toNat) (by rw [hX,A2 (by rintro ⟨h1,h2⟩;simp_all),A2 aS,A2 oO]) rfl ⟨⟨cn,co⟩,cq⟩
 have cf:=ndT m
 refine B6 m<|B6 m<|A1 (.pkT rfl m rfl)<|A8 rfl<|BZ rfl rfl<|An<|F5 BQ rfl ((CG 23 _)) (λeq cr=>?_)
 obtain rfl:=cr
 exact Bx (BB 23 (by rw [hX,A2 (by rintro ⟨h1,h2⟩;simp_all),A2 aS,A5 (.inl aS)]) L)
 have c7:=dF x
 refine B6 x<|A1 (.pkF rfl x rfl)<|A8 rfl<|Ay rfl rfl<|A4<|A3 rfl<|A1 (.eql rfl rfl)<|A8 rfl<|Ai rfl (λaz=>?_) (λaz=>?_)
 have ct:=dT az
 refine An<|F5 BQ rfl ((CG 25 _)) (λer cu=>?_)
 obtain rfl:=cu
 exact Bx (BB 25 (by rw [hX,A2 (by rintro ⟨h1,h2⟩;simp_all),A5 aS]) hT)
 have ct:=dF az
 refine A4<|A3 rfl<|A1 (.neq rfl rfl)<|A3 rfl<|Cc rfl rfl rfl (λo=>?_) (λo=>?_)
 have cv:=ndF o
 refine A1 (.fa DP rfl BI dD rfl)<|AE o<|Aj (Ae (C5 _) rfl bd rfl)<|AE o<|A1 (.neq rfl rfl)<|A1 (.pkF rfl o rfl)<|A8 rfl<|Ai rfl (λaA=>?_) (λaA=>?_)
 have cw:=ndT aA
 refine An<|F5 BQ rfl ((CG 23 _)) (λes cy=>?_)
 obtain rfl:=cy
 exact Bx (BB 23 (by rw [hX,A2 (by rintro ⟨h1,h2⟩;simp_all),A2 aS,A5 (.inr aS)]) hT)
 have cw:=ndF aA
 refine As<|A4<|A3 rfl<|A1 (.iis (((N.at'.toNat:Nat):Int)) (.mv rfl) oO)<|A1 (.nck rfl)<|A1 (.fa Cq rfl BI dD rfl)<|BA BI rfl rfl rfl bc (by exact Nat.le_of_ble_eq_true rfl) (λdG ad j dU=>?_)
 have ad:B4 dG r _ _:=ad
 have j:CP r _ _:=j
 have cz:=cI.up j
 have cA:=bd.up j
 have cB:=Af.upd hb2 j hne
 have cC:=Bs hT (Bk j)
 refine A0<|A4<|A1 (.fa DP rfl FP dD rfl)<|Aj (Ae (FU _) rfl cA rfl)<|?_
 refine A1 (.buildL (ps:=_) Ec rfl rfl rfl pS) ?_
 refine Az rfl rfl cz Ah rfl rfl (λet bf ae dV=>?_)
 have cD:=ad.up ae
 have cE:=Cy cB ae ar
 have cF:=Bs cC (DC ae oO)
 refine A0<|AU (BD rfl rfl (Ba bf Av rfl Ah)  ?_)
 exact Ce.ok (N.s,N.at'.toNat) (by rw [hX,A2 (by rintro ⟨h1,h2⟩;simp_all),A2 aS,A2 oO]) rfl ⟨⟨cD,cE⟩,cF⟩
 have cv:=ndT o
 refine B6 o<|B6 o<|A1 (.pkT rfl o rfl)<|A8 rfl<|BZ rfl rfl<|An<|F5 BQ rfl ((CG 23 _)) (λeu cG=>?_)
 obtain rfl:=cG
 exact Bx (BB 23 (by rw [hX,A2 (by rintro ⟨h1,h2⟩;simp_all),A2 aS,A5 (.inl aS)]) hT)
def QA (l:l8_) (t:Nat):Except Int UInt8:=match l[AW false l t]? with | none=>.error 24 | some x=>.ok x
theorem N2 (r:Nat) (p:Option Addr) (l:l8_) (c t:Nat) (refs:Bool) (w:World) (h:O5 w r p l c t refs) (hne:0<l.length->(pA p).block≠r) (hl:l.length<=100000000) (ht:t<=l.length) :
  Calls Tryz.prog 131 #[ptV r] w (Ce 35 (QA l t) (λx=>.int .u8 (x.toNat:Int)) (λ_ w'=>O5 w' r p l c (AW false l t) refs/\B8 w.heap.size r w w') (λw'=>B8 w.heap.size r w w')):=by
 have hr:=h.1
 have hb:=h.2
 unfold QA
 obtain ⟨s,hs⟩:=eX (AW false l t)
 rw [<- hs]
 have hS:∀ A,Af A p l->Calls Tryz.prog 53 #[.slice p l.length c,Ag (t:Int)] A λe w'=>e=.returned (Ag (s:Int))/\A=w':=λA h1=>(J0 p l c t A h1 hl).mono λe w' h=>⟨by rw [h.1,K8 l t ht,hs],h.2⟩
 refine AF func131 rfl ntmps131 ?_
 have a0:=B8.refl (w.heap.size) r w
 refine A4<|A8 rfl<|Ad<|F2 13 rfl BS (λA B=>?_)
 have f:=hr.drew B
 have y:=hb.drew B
 have H:=Bs a0 (KU B)
 refine AB 0 rfl (.mv rfl) rfl<|AB 1 rfl (.mv rfl) rfl<|AB 2 rfl (.nck rfl) rfl<|AB 3 rfl (.fa Cq rfl CZ dD rfl) rfl<|AB 5 rfl (.mv rfl) rfl<|AB 6 rfl (.nck rfl) rfl<|AB 7 rfl (.fa Cq rfl BI dD rfl) rfl<|Ct 4 rfl 8 rfl ?_ ?_
 refine Aj (Ae (g22_ _) rfl f rfl)<|A0<|Ao 8 rfl<|Aj (Ae (C5 _) rfl f rfl)<|A0<|Ao 9 rfl<|Au (hS _ y) (λw5 a1=>?_)
 obtain rfl:=a1
 refine A0<|AB 10 rfl (.nck rfl) rfl<|AB 11 rfl (.fa Cq rfl BI dD rfl) rfl<|Ao 12 rfl<|BA BI rfl rfl rfl f (by exact Nat.le_of_ble_eq_true rfl) (λw6 d g a6=>?_)
 have d:B4 w6 r _ _:=d
 have g:CP r _ _:=g
 have a2:=Af.upd y g hne
 have a3:=Bs H (Bk g)
 refine A0<|Be kR<|Ad<|Ad<|DE BS kR<|WQ.p (.mv rfl) rfl<|WQ.p (.nck rfl) rfl<|WQ.p (.fa Cq rfl BI dD rfl) rfl<|D2 (λm=>Ae (C5 _) rfl d rfl) rfl<|WQ.p (.mv rfl) rfl<|WQ.p (.nck rfl) rfl<|WQ.p (.fa Cq rfl CZ dD rfl) rfl<|D2 (λm=>Ae (g22_ _) rfl d rfl) rfl<|WQ.p (.lenS B1 rfl) rfl<|WQ.p (.geq rfl rfl) rfl<|CO (λw9 C=>?_)
 have i:=d.drew C
 have j:=a2.drew C
 have D:=Bs a3 (KU C)
 refine Ai rfl (λE=>?_) (λE=>?_)
 have J:=dT E
 refine An<|F5 BQ rfl ((CG 24 _)) (λa7 K=>?_)
 obtain rfl:=K
 exact Bx (BB 24 (by rw [AZ oO]) D)
 have J:=dF E
 refine As<|Ad<|DE BS kR<|WQ.p (.mv rfl) rfl<|WQ.p (.nck rfl) rfl<|WQ.p (.fa Cq rfl CZ dD rfl) rfl<|D2 (λm=>Ae (g22_ _) rfl i rfl) rfl<|WQ.p (.mv rfl) rfl<|WQ.p (.nck rfl) rfl<|WQ.p (.fa Cq rfl BI dD rfl) rfl<|D2 (λm=>Ae (C5 _) rfl i rfl) rfl<|WQ.p (.ixb B1 EC rfl rfl (j.isp oO) (s) (rfl) oO) rfl<|D2 (λm=>BG (IU _) rfl ((j.drewN m).cells (s) oO)) rfl<|WQ.p (.as rfl) rfl<|CO (λa8 k=>?_)
 have L:=i.drew k
 have M:=j.drew k
 have N:=Bs D (KU k)
 refine AY ?_
 exact Ce.ok (l[s]'oO) (by rw [Ak oO]) rfl ⟨⟨L,M⟩,N⟩
 refine Aj (Ae (C5 _) rfl f rfl)<|A0<|Ao 4 rfl<|Aj (Ae (g22_ _) rfl f rfl)<|A0<|Ao 9 rfl<|Au (hS _ y) (λa9 O=>?_)
 obtain rfl:=O
 refine A0<|AB 10 rfl (.nck rfl) rfl<|AB 11 rfl (.fa Cq rfl BI dD rfl) rfl<|Ao 12 rfl<|BA BI rfl rfl rfl f (by exact Nat.le_of_ble_eq_true rfl) (λa4 a b a5=>?_)
 have a:B4 a4 r _ _:=a
 have b:CP r _ _:=b
 have P:=Af.upd y b hne
 have Q:=Bs H (Bk b)
 refine A0<|Be kR<|Ad<|Ad<|DE BS kR<|WQ.p (.mv rfl) rfl<|WQ.p (.nck rfl) rfl<|WQ.p (.fa Cq rfl BI dD rfl) rfl<|D2 (λm=>Ae (C5 _) rfl a rfl) rfl<|WQ.p (.mv rfl) rfl<|WQ.p (.nck rfl) rfl<|WQ.p (.fa Cq rfl CZ dD rfl) rfl<|D2 (λm=>Ae (g22_ _) rfl a rfl) rfl<|WQ.p (.lenS B1 rfl) rfl<|WQ.p (.geq rfl rfl) rfl<|CO (λaa o=>?_)
 have q:=a.drew o
 have u:=P.drew o
 have F:=Bs Q (KU o)
 refine Ai rfl (λG=>?_) (λG=>?_)
 have T:=dT G
 refine An<|F5 BQ rfl ((CG 24 _)) (λab U=>?_)
 obtain rfl:=U
 exact Bx (BB 24 (by rw [AZ oO]) F)
 have T:=dF G
 refine As<|Ad<|DE BS kR<|WQ.p (.mv rfl) rfl<|WQ.p (.nck rfl) rfl<|WQ.p (.fa Cq rfl CZ dD rfl) rfl<|D2 (λm=>Ae (g22_ _) rfl q rfl) rfl<|WQ.p (.mv rfl) rfl<|WQ.p (.nck rfl) rfl<|WQ.p (.fa Cq rfl BI dD rfl) rfl<|D2 (λm=>Ae (C5 _) rfl q rfl) rfl<|WQ.p (.ixb B1 EC rfl rfl (u.isp oO) (s) (rfl) oO) rfl<|D2 (λm=>BG (IU _) rfl ((u.drewN m).cells (s) oO)) rfl<|WQ.p (.as rfl) rfl<|CO (λac v=>?_)
 have V:=q.drew v
 have X:=u.drew v
 have Y:=Bs F (KU v)
 refine AY ?_
 exact Ce.ok (l[s]'oO) (by rw [Ak oO]) rfl ⟨⟨V,X⟩,Y⟩
end
section
structure Gl (w:World) (S:Nat->Prop) (cs:List PC) (acc:List PV):Prop where
 len:cs.length=acc.length
 sub:∀ i (h:i<cs.length) (h2:i<acc.length),BJ w S cs[i] acc[i]
theorem Gl.nil (w:World) (S:Nat->Prop):Gl w S [] []:=⟨rfl,λi h=>by simp at h⟩
theorem Gl.same {w w1:World} {S:Nat->Prop} {cs:List PC} {acc:List PV} (h:Gl w S cs acc) (hb:∀ k,S k->k<w.heap.size->w1.heap[k]?=w.heap[k]?):Gl w1 S cs acc:=⟨h.len,λi h1 h2=>(h.sub i h1 h2).same hb⟩
abbrev Gk:=@Gl.same
theorem Gl.mono  {cs:List PC} {acc:List PV} (h:Gl w S cs acc) (hST:∀ k,S k->k<w.heap.size->T k):Gl w T cs acc:=⟨h.len,λi h1 h2=>(h.sub i h1 h2).mono hST⟩
theorem GR  {cs:List PC} {acc:List PV} (h:Gl w S cs acc) (hb:∀ k,S k->k<w.heap.size->w1.heap[k]?=w.heap[k]?) (hT:∀ k,S k->k<w.heap.size->T k):Gl w1 T cs acc :=
 ((h.mono (T:=λk=>S k/\k<w.heap.size) (λk hk hl=>⟨hk,hl⟩)).same (λk hk _=>hb k hk.1 hk.2)).mono (λk hk _=>hT k hk.1 hk.2)
theorem Gl.push  {cs:List PC} {acc:List PV} {x:PC} {o:PV} (h:Gl w S cs acc) (hx:BJ w S x o):Gl w S (cs++[x]) (acc++[o]) :=
  ⟨by simp [h.len], fun i h1 h2 => by
    have hl:=h.len
    rcases By i cs.length with h3 | h3
    · rw [CY h3, CY oO]
      exact h.sub i h3 oO
    · obtain rfl : i = cs.length := by simp at h1; omega
      rw [Cp (DS _),Cp oO]
      simpa [hl] using hx⟩
theorem PH  {k n:Int} {kp lp:Option Addr} {kl kc lc:Nat} {keys:List (l8_)} {cs:List PC} {acc:List PV} (hk:DY S w (.slice kp kl kc) keys) (hr:Rj S w (.slice lp cs.length lc) cs) (h:Gl w S cs acc) :
  BJ w S ⟨k,n,s,kp,kl,kc,lp,cs.length,lc⟩ (.mk k n s keys acc):=BJ.mk ⟨k,n,s,kp,kl,kc,lp,cs.length,lc⟩ keys acc cs hk hr h.len h.sub
theorem FZ:(Tryz.prog.info? 27).map (λi=>(i.zero,i.size,i.bytes))=some (some (.agg (Q6 0 0 []).toArray),6,104):=by kernel_rfl
def A32 (w:World) (r:Nat) (p:Option Addr) (l:l8_) (c:Nat) (refs:Bool) (a:PV × Nat) (v:Value) (w':World):Prop :=
 ∃ x:PC,v=.agg (VF x).toArray/\BJ w' (λk=>w.heap.size<=k) x a.1/\O5 w' r p l c a.2 refs/\B8 w.heap.size r w w'
def A05 (p:Option Addr) (l:l8_) (c:Nat) (refs:Bool) (D:Int):Prop :=
 ∀ (r t:Nat) (w:World),O5 w r p l c t refs->(0<l.length->(pA p).block≠r)->t<l.length ->
  Calls Tryz.prog 79 #[ptV r,Ag D] w (Hl 35 (EJ refs l D.toNat t) (A32 w r p l c refs) (λw'=>B8 w.heap.size r w w'))
theorem OL  {t:Nat} {x:UInt8} (h:QA l t=.ok x):l[AW false l t]?=some x:=by
 unfold QA at h
 split at h
 · cases h
 · next h1=>rw [h1];cases h;rfl
theorem HU  {t:Nat} {k:Int} (h:QA l t=.error k):l[AW false l t]?=none/\k=24:=by
 unfold QA at h
 split at h
 · next h1=>cases h;exact ⟨h1,rfl⟩
 · cases h
theorem Gg (l:l8_) (t:Nat) (ht:t<=l.length):t<=AW false l t:=by
 unfold AW
 have a:=HT (l.drop t) false
 rw [Aq] at a
 omega
theorem Lx {obj:Nat->MA} {f:Nat} {acc:List PV} {t:Nat} (hf:0<f):Ic obj l f acc t=(match l[AW false l t]? with
  | none=>.error 24
  | some c=>if c=93 then .ok (acc,AW false l t+1) else if 65535<=acc.length then .error 25 else match obj (AW false l t) with | .error k=>.error k | .ok (o,t')=>Ic obj l (f-1) (acc++[o]) t'):=by
 cases f with
 | zero=>omega
 | succ f=>rfl
theorem WU (p:Option Addr) (l:l8_) (c:Nat) (refs:Bool) (D:Int) (hO:A05 p l c refs D) (hadv:∀ t o t',t<l.length->EJ refs l D.toNat t=.ok (o,t')->t<t'/\t'<=l.length) (r t:Nat) (w:World) (h:O5 w r p l c t refs) (hne:0<l.length->(pA p).block≠r) (hl:l.length<=100000000) (ht:t<=l.length) :
  Calls Tryz.prog 107 #[ptV r,Ag D] w (Hl 35 (Ph (Ic (EJ refs l D.toNat) l (l.length+1) [] t)) (A32 w r p l c refs) (λw'=>B8 w.heap.size r w w')):=by
 have hr:=h.1
 have hb:=h.2
 have d8:0<l.length->(pA p).block<w.heap.size:=λX=>hb.lt X
 obtain ⟨R,hR⟩:=eX (Ic (EJ refs l D.toNat) l (l.length+1) [] t)
 rw [<- hR]
 obtain ⟨t0,d9⟩:=eX t
 subst d9
 refine AF func107 rfl ntmps107 ?_
 have c3:=B8.refl (w.heap.size) r w
 refine A4<|Bm CA rfl (λb1 dM aG aH am dI=>?_)
 have da:=Bt aG hr.lt
 have a9:=hr.un am da
 have aI:=λX=>aG▸hb.lt X
 have c4:=Cy hb am aI
 have bf:=CW aG c3.size
 have c5:=Bs c3 (DC am bf)
 refine A0<|?_
 refine A4<|A1 (.buildL (ps:=_) Ec rfl rfl rfl pS) ?_
 refine Bm CA rfl (λA dN ax ca ab dJ=>?_)
 have db:=Bt ax a9.lt
 have dc:=a9.un ab db
 have cb:=Bt ax aH.lt
 have cc:=aH.un ab cb
 have Q:=λX=>ax▸c4.lt X
 have cd:=Cy c4 ab Q
 have bg:=CW ax c5.size
 have cf:=Bs c5 (DC ab bg)
 refine Az rfl rfl ca Ah rfl rfl (λdO bh a0 dB=>?_)
 have cg:=dc.up a0
 have ci:=cc.up a0
 have cj:=Cy cd a0 Q
 have ck:=Bs cf (DC a0 oO)
 refine A0<|Ad<|AT ?_
 have aJ:0<l.length->(pA p).block<A+1:=λX=>by have:=d8 X;omega
 have dP:r<A:=by omega
 refine BO (α:=Value × List PC × List PV × Nat × Nat) (λt=>[(0,ptV r),(1,Ag D),(4,ptV b1),(5,ptV A)]) (λt w'=>O5 w' r p l c t.2.2.2.1 refs/\B8 w.heap.size r w w'/\B4 w' b1 (Q6 0 0 []).toArray 27/\B4 w' A #[Ag 6,Ag 0,.string ⟨#[]⟩,.slice none 0 0,t.1,.slice none 0 0] 27/\AO Q7 27 (A+1) w' t.1 t.2.1/\Gl w' (λk=>A<k/\t.1.ownBlock≠some k) t.2.1 t.2.2.1/\Ic (EJ refs l D.toNat) l t.2.2.2.2 t.2.2.1 t.2.2.2.1=R/\l.length<t.2.2.2.2+t.2.2.2.1/\t.2.2.2.1<=l.length/\t.2.2.1.length<=65535) (λt=>t.2.2.2.2) ((.slice none 0 0,[],[],t0,l.length+1)) ⟨rfl,rfl,rfl,rfl,tT⟩ (⟨⟨cg,cj⟩,ck,ci,bh,AO.nil _ _ _ _,Gl.nil _ _,hR.symm,oM,ht,by simp⟩) (λt w1 hR=>?_)
 obtain ⟨v,cs,acc,t,f⟩:=t
 obtain ⟨aK,hT,c6,a9,an,ao,hw,dd,aL,de⟩:=hR
 simp only at aK a9 an ao hw dd aL de ⊢
 have J:=Lx (obj:=EJ refs l D.toNat) (l:=l) (acc:=acc) (t:=t) (f:=f) oO
 have dK:=Gg l t aL
 have dQ:=ao.len
 obtain ⟨pl,cl,rfl,-⟩:=an.row
 refine Ad<|A4<|A3 rfl<|Ch BQ rfl rfl ((N2 r p l c t refs _ ⟨aK.1,aK.2⟩ hne hl aL)) (λdf c7 a1 u=>?_) (λdg c7 a1 u=>?_)
 have aM:=Bs hT (EN u hT.size)
 exact Bx (Ho df (by rw [<- hw,J,(HU a1).1,(HU a1).2];rfl) aM)
 have aN:=DK an u.2 oO
 have aO:=Gk (w1:=c7) ao (λk hk hl=>u.2.block k hl oO)
 have ap:=u.1.1
 have aP:=Gd c6 u.2 c6.lt oO
 have aq:=Gd a9 u.2 a9.lt oO
 have aQ:=u.1.2
 have ar:=Bs hT (EN u.2 hT.size)
 have aR:=OL a1
 rw [aR] at J
 obtain ⟨ay,dh⟩:=C1.1 aR
 obtain ⟨x0,di⟩:=eX dg
 rw [<- di] at J dh aR ⊢
 generalize AW false l t=s at *
 refine A1 (.neq rfl rfl)<|A0<|Ai rfl (λaT=>?_) (λaT=>?_)
 have cm:=ndT aT
 refine As<|AT<|Ad<|A4<|A1 (.fa Av rfl CQ dD rfl)<|Aj (Ae (DW _) rfl aq rfl)<|A1 (.lenS Cg rfl)<|A1 (.geq rfl rfl)<|A0<|Ai rfl (λaU=>?_) (λaU=>?_)
 have cn:=dT aU
 refine An<|F5 BQ rfl ((CG 25 _)) (λdR co=>?_)
 obtain rfl:=co
 exact Bx (Ho 25 (by rw [<- hw,J];simp only [];rw [A2 (D6 (d:=93) aS),A5 oO];rfl) ar)
 have cn:=dF aU
 refine As<|F2 9 rfl BS (λdj K=>?_)
 have ac:=AO.drew aN K
 have aV:=Gk (w1:=dj) aO (λk hk hl=>(by obtain ⟨m,rfl⟩:=K;rfl))
 have aW:=ap.drew K
 have ad:=aP.drew K
 have N:=aq.drew K
 have aX:=aQ.drew K
 have B:=Bs ar (KU K)
 refine AB 0 rfl (.fa Av rfl CQ dD rfl) rfl<|AB 2 rfl (.mv rfl) rfl<|AB 3 rfl (.mv rfl) rfl<|Ct 1 rfl 4 rfl ?_ ?_
 refine Aj (Ae (DW _) rfl N rfl)<|A0<|Ao 4 rfl<|EE BQ rfl rfl ((hO r s _ ⟨aW,aX⟩ hne ay)) (λdk dl ae au=>?_) (λdm dS dl ae au=>?_)
 have aY:=Bs B (EN au B.size)
 exact Bx (Ho dk (by rw [<- hw,J];simp only [];rw [A2 (D6 (d:=93) aS),A2 oO,ae];rfl) aY)
 have aa:=ae
 obtain ⟨oX,tX⟩:=dm
 obtain ⟨x1,rfl,aZ,a3,C⟩:=au
 have az:=hadv s oX tX ay aa
 have aA:=DK ac C oO
 have af:=Gk aV (λk hk hl=>C.block k hl (by have:=hk.1;omega))
 have P:=Gd ad C (ad).lt oO
 have E:=Gd N C (N).lt oO
 have a4:=Bs B (EN C B.size)
 have av:=aZ.mono (T:=λk=>A<k/\(Value.slice pl cs.length cl).ownBlock≠some k) (λk hk _=>⟨by have:=(N).lt;omega,λe=>by have:=((ac).lt k e).2;omega⟩)
 have a2:=af.push av
 have a5:=a3.1
 have a6:=a3.2
 refine A0<|Ao 5 rfl<|CR (L:=Q7) (ps:=_) ([x1]) Cg Dd CA rfl rfl rfl rfl rfl (by rfl) rfl rfl (λdn a' Y bi x dC=>?_)
 have cq:=Ix aA Y x
 have cr:=Gk (w1:=a') a2 (λk hk hl=>x.other k oO)
 have ct:=Bt Y a5.lt
 have cu:=a5.un x ct
 have cv:=Bt Y P.lt
 have cw:=P.un x cv
 have cy:=Bt Y E.lt
 have b0:=E.un x cy
 have bj:=λX=>Y▸a6.lt X
 have cz:=Cy a6 x bj
 have b2:=CW Y a4.size
 have cA:=Bs a4 (DC x b2)
 have dp:dn<=a'.heap.size:=by omega
 refine A0<|Ao 6 rfl<|Cb Cg FZ rfl rfl rfl cq rfl (bi).rowp oE ((b0).lt) rfl (λh=>nomatch h) (λdq dU aB U bk bl=>?_)
 have cB:=cu.below U oO
 have cC:=cw.below U oO
 have cD:=b0.below U oO
 have cE:=GR (T:=λk=>A<k/\(dq).ownBlock≠some k) cr (λk hk hl=>bk.block k hl (λe=>hk.2 e.symm)) (λk hk hl=>⟨hk.1,λe=>by rcases bl k e with h | h;exact hk.2 h;omega⟩)
 have cF:=Fh cz U aJ
 have cG:=Bs cA (Fb (U.mono oO))
 refine A0<|AB 7 rfl (.fa Av rfl CQ dD rfl) rfl<|Ao 8 rfl<|BA CQ rfl rfl (aB).one cD (by exact Nat.le_of_ble_eq_true rfl) (λc8 ag j dE=>?_)
 have ag:B4 c8 A _ _:=ag
 have j:CP A _ _:=j
 have cH:=Bn aB j oM
 have cI:=Gk (w1:=c8) cE (λk hk hl=>j.other k oM)
 have cJ:=cB.up j
 have cK:=cC.up j
 have cL:=Cy cF j Q
 have cM:=Bs cG (DC j oO)
 refine A0<|Be kR ?_
 exact ⟨(_,cs++[x1],acc++[oX],tX,f-1),⟨rfl,rfl,rfl,rfl,tT⟩,⟨⟨cJ,cL⟩,cM,cK,ag,cH,cI,by rw [<- hw,J];simp only [];rw [A2 (D6 (d:=93) aS),A2 oO,aa],oM,az.2,oF⟩,oM⟩
 refine EE BQ rfl rfl ((hO r s _ ⟨aW,aX⟩ hne ay)) (λdr ds ah aw=>?_) (λdt dV ds ah aw=>?_)
 have b3:=Bs B (EN aw B.size)
 exact Bx (Ho dr (by rw [<- hw,J];simp only [];rw [A2 (D6 (d:=93) aS),A2 oO,ah];rfl) b3)
 have aa:=ah
 obtain ⟨oX,tX⟩:=dt
 obtain ⟨x1,rfl,aZ,a3,C⟩:=aw
 have az:=hadv s oX tX ay aa
 have aA:=DK ac C oO
 have af:=Gk aV (λk hk hl=>C.block k hl (by have:=hk.1;omega))
 have P:=Gd ad C (ad).lt oO
 have E:=Gd N C (N).lt oO
 have a4:=Bs B (EN C B.size)
 have av:=aZ.mono (T:=λk=>A<k/\(Value.slice pl cs.length cl).ownBlock≠some k) (λk hk _=>⟨by have:=(N).lt;omega,λe=>by have:=((ac).lt k e).2;omega⟩)
 have a2:=af.push av
 have a5:=a3.1
 have a6:=a3.2
 refine A0<|Ct 1 rfl 5 rfl ?_ ?_
 refine Aj (Ae (DW _) rfl E rfl)<|A0<|Ao 5 rfl<|CR (L:=Q7) (ps:=_) ([x1]) Cg Dd CA rfl rfl rfl rfl rfl (by rfl) rfl rfl (λdu b4 Z bm y dG=>?_)
 have cN:=Ix aA Z y
 have cO:=Gk (w1:=b4) a2 (λk hk hl=>y.other k oO)
 have cP:=Bt Z a5.lt
 have cQ:=a5.un y cP
 have cR:=Bt Z P.lt
 have cS:=P.un y cR
 have cT:=Bt Z E.lt
 have b5:=E.un y cT
 have bn:=λX=>Z▸a6.lt X
 have cU:=Cy a6 y bn
 have b6:=CW Z a4.size
 have cV:=Bs a4 (DC y b6)
 have dv:du<=b4.heap.size:=by omega
 refine A0<|Ao 6 rfl<|Cb Cg FZ rfl rfl rfl cN rfl (bm).rowp oE ((b5).lt) rfl (λh=>nomatch h) (λdw dW aC V bo bp=>?_)
 have cW:=cQ.below V oO
 have cX:=cS.below V oO
 have cY:=b5.below V oO
 have cZ:=GR (T:=λk=>A<k/\(dw).ownBlock≠some k) cO (λk hk hl=>bo.block k hl (λe=>hk.2 e.symm)) (λk hk hl=>⟨hk.1,λe=>by rcases bp k e with h | h;exact hk.2 h;omega⟩)
 have c':=Fh cU V aJ
 have d0:=Bs cV (Fb (V.mono oO))
 refine A0<|AB 7 rfl (.fa Av rfl CQ dD rfl) rfl<|Ao 8 rfl<|BA CQ rfl rfl (aC).one cY (by exact Nat.le_of_ble_eq_true rfl) (λc9 ai q dH=>?_)
 have ai:B4 c9 A _ _:=ai
 have q:CP A _ _:=q
 have d1:=Bn aC q oM
 have d2:=Gk (w1:=c9) cZ (λk hk hl=>q.other k oM)
 have d3:=cW.up q
 have bq:=cX.up q
 have bt:=Cy c' q Q
 have bu:=Bs d0 (DC q oO)
 refine A0<|Be kR ?_
 exact ⟨(_,cs++[x1],acc++[oX],tX,f-1),⟨rfl,rfl,rfl,rfl,tT⟩,⟨⟨d3,bt⟩,bu,bq,ai,d1,d2,by rw [<- hw,J];simp only [];rw [A2 (D6 (d:=93) aS),A2 oO,aa],oM,az.2,oF⟩,oM⟩
 refine CR (L:=Q7) (ps:=_) ([x1]) Cg Dd CA rfl rfl rfl rfl rfl (by rfl) rfl rfl (λd4 aD H b8 i dx=>?_)
 have bv:=Ix aA H i
 have bw:=Gk (w1:=aD) a2 (λk hk hl=>i.other k oO)
 have bz:=Bt H a5.lt
 have bA:=a5.un i bz
 have bB:=Bt H P.lt
 have bC:=P.un i bB
 have bD:=Bt H E.lt
 have aj:=E.un i bD
 have b9:=λX=>H▸a6.lt X
 have bE:=Cy a6 i b9
 have aF:=CW H a4.size
 have bG:=Bs a4 (DC i aF)
 have d7:d4<=aD.heap.size:=by omega
 refine A0<|Ao 1 rfl<|Aj (Ae (DW _) rfl aj rfl)<|A0<|Ao 6 rfl<|Cb Cg FZ rfl rfl rfl bv rfl (b8).rowp oE ((aj).lt) rfl (λh=>nomatch h) (λd5 dL ak F ba bb=>?_)
 have bH:=bA.below F oO
 have bI:=bC.below F oO
 have bJ:=aj.below F oO
 have bK:=GR (T:=λk=>A<k/\(d5).ownBlock≠some k) bw (λk hk hl=>ba.block k hl (λe=>hk.2 e.symm)) (λk hk hl=>⟨hk.1,λe=>by rcases bb k e with h | h;exact hk.2 h;omega⟩)
 have bL:=Fh bE F aJ
 have bM:=Bs bG (Fb (F.mono oO))
 refine A0<|AB 7 rfl (.fa Av rfl CQ dD rfl) rfl<|Ao 8 rfl<|BA CQ rfl rfl (ak).one bJ (by exact Nat.le_of_ble_eq_true rfl) (λbc a7 a dy=>?_)
 have a7:B4 bc A _ _:=a7
 have a:CP A _ _:=a
 have bN:=Bn ak a oM
 have bO:=Gk (w1:=bc) bK (λk hk hl=>a.other k oM)
 have bP:=bH.up a
 have bQ:=bI.up a
 have bR:=Cy bL a Q
 have bS:=Bs bM (DC a oO)
 refine A0<|Be kR ?_
 exact ⟨(_,cs++[x1],acc++[oX],tX,f-1),⟨rfl,rfl,rfl,rfl,tT⟩,⟨⟨bP,bR⟩,bS,bQ,a7,bN,bO,by rw [<- hw,J];simp only [];rw [A2 (D6 (d:=93) aS),A2 oO,aa],oM,az.2,oF⟩,oM⟩
 have cm:=ndF aT
 refine BL<|A4<|A3 rfl<|A1 (.nck rfl)<|A1 (.fa Cq rfl BI dD rfl)<|Aj (Ae (C5 _) rfl ap rfl)<|A1 (.iis (((s+1:Nat):Int)) (.add rfl rfl (Bb oO)) oO)<|A1 (.nck rfl)<|A1 (.fa Cq rfl BI dD rfl)<|BA BI rfl rfl rfl ap (by exact Nat.le_of_ble_eq_true rfl) (λbd a8 b dz=>?_)
 have a8:B4 bd r _ _:=a8
 have b:CP r _ _:=b
 have bT:=Bn aN b oM
 have bU:=Gk (w1:=bd) aO (λk hk hl=>b.other k oM)
 have bV:=aP.up b
 have bW:=aq.up b
 have bX:=Af.upd aQ b hne
 have bY:=Bs ar (Bk b)
 refine A0<|A4<|Aj (Bd rfl bW Av rfl Ah)<|Az rfl rfl bV Ah rfl rfl (λd6 be G dA=>?_)
 have aE:=Bn bT G oM
 have bZ:=Gk (w1:=d6) bU (λk hk hl=>G.other k oM)
 have b':=a8.up G
 have c0:=Cy bX G aI
 have c2:=Bs bY (DC G oO)
 refine A0<|AU (BD rfl rfl (Ba be Av rfl Ah)  ?_)
 exact LH (.mk 6 0 [] [] acc,s+1) _ (by rw [<- hw,J];simp only [];rw [A5 (Cf (d:=93) aS)];rfl) rfl ⟨⟨6,0,[],none,0,0,pl,cs.length,cl⟩,rfl,PH ⟨AO.nil _ _ _ _,λg h=>by cases h⟩ ⟨(aE).base (λg hg=>FN _),λg hg=>by have:=(aE).lt g hg;omega⟩ ((bZ).mono (λk hk _=>by have:=hk.1;omega)),⟨b',c0⟩,c2⟩
end
section
theorem Nb:(Tryz.prog.info? 9).map (λi=>(i.zero,i.size,i.bytes))=some (some (.string ⟨#[]⟩),1,16):=by kernel_rfl
theorem YN (q:Option Addr) (s:List (l8_)) (c:Nat) (x:l8_) (w:World) (hb:AM F4 w q s) (hl:s.length<=1000000000) :
  Calls Tryz.prog 60 #[.slice q s.length c,.string (bs x)] w λe w'=>∃ a:{ a:Int // 0<=a↔x∈s },e=.returned (Ag a.1)/\w=w':=by
 refine AF func60 rfl ntmps60<|A4<|A8 rfl<|Ad<|A4<|A3 rfl<|A1 (.lenS DD rfl)<|A3 rfl<|A0<|AT<|BO (α:=Nat) (λt=>[(0,.slice q s.length c),(1,.string (bs x)),(7,Ag (s.length:Int)),(8,Ag (t:Int))]) (λt w'=>w=w'/\t<=s.length/\x ∉ s.take t) (λt=>s.length-t) (0) ⟨rfl,rfl,rfl,rfl,tT⟩ (⟨rfl,FN _,by simp⟩) (λt k hR=>?_)
 obtain ⟨i,rfl⟩:=eX t
 obtain ⟨rfl,hi,b⟩:=hR
 refine A4<|A1 (.lss rfl rfl)<|A0<|Ad<|Ai rfl (λd=>?_) (λd=>?_)
 have g:=dT d
 refine As<|Ad<|AT<|A4<|A3 rfl<|A8 rfl<|A4<|A3 rfl<|A3 rfl<|A3 rfl<|A1 (.ixb DD FP rfl rfl (hb.isp oO) (i) (rfl) oO)<|Aj (BG (FU _) rfl (hb.cells (i) oO))<|A1 (.eqs rfl rfl)<|A0<|Ai rfl (λf=>?_) (λf=>?_)
 have j:=dT f
 refine A4<|A3 rfl<|A8 rfl<|AY ?_
 exact ⟨⟨(i:Int),λ_=>by rw [show x=s[i]'oO by assumption];exact Ar _,λ_=>by omega⟩,rfl,rfl⟩
 have j:=dF f
 refine As<|An<|A1 (.iis (((i+1:Nat):Int)) (.add rfl rfl (Bb oO)) oO)<|A3 rfl<|A0<|?_
 exact ⟨i+1,⟨rfl,rfl,rfl,rfl,tT⟩,⟨rfl,oM,by
  rw [List.take_add_one,Ak oO,Option.toList_some,Bj,Bl];exact λh=>h.elim b aS⟩,oM⟩
 have g:=dF d
 refine BL<|A4<|A8 rfl<|AY ?_
 exact ⟨⟨-1,λh=>Dp h dD,λh=>by rw [show s.take i=s from Al oO] at b;exact Dp h b⟩,rfl,rfl⟩
theorem YO (q:Option Addr) (s:List (l8_)) (c:Nat) (x:l8_) (w:World) (hb:AM F4 w q s) (hl:s.length<=1000000000) :
  Calls Tryz.prog 134 #[.slice q s.length c,.string (bs x)] w λe w'=>e=.returned (.bool (decide (x∈s)))/\w=w':=by
 refine AF func134 rfl ntmps134<|A4<|A8 rfl<|A4<|A3 rfl<|A3 rfl<|Bf BQ rfl rfl ((YN q s c x _ hb hl)) (λa d b=>?_)
 obtain rfl:=b
 refine A1 (.geq rfl rfl)<|A8 rfl<|AY ?_
 exact ⟨Cu (GW.2 a.2),rfl⟩
theorem Pf  {t:Nat} {k:l8_} {t1:Nat} (ht:t<=l.length) (h:Iz l t=.ok (k,t1)):t<=t1/\t1<=l.length:=by
 have hw:=EV l t ht
 unfold Iz at h
 split at h
 · cases h
 ·
  split at h
  · cases h
  ·
   split at h
   · cases h
   · cases h;exact hw
theorem JZ {obj:Nat->MA} {f:Nat} {os:List PV} {t:Nat} (hf:0<f):Gb obj l f ks os t=(match l[AW false l t]? with
  | none=>.error 24
  | some c =>
   if c=62/\l.length<=AW false l t+1 then .error 24
   else if c=62/\l[AW false l t+1]?=some 62 then .ok (ks,os,AW false l t+2)
   else if c≠47 then .error 23
   else match Iz l (AW false l t+1) with
    | .error k=>.error k
    | .ok (k,t1) =>
     if k∈ks then .error 23
     else if 65535<=os.length then .error 25
     else match l[AW false l t1]? with
      | none=>.error 24
      | some _=>match obj (AW false l t1) with
       | .error k=>.error k
       | .ok (o,t')=>Gb obj l (f-1) (ks++[k]) (os++[o]) t'):=by
 cases f with
 | zero=>omega
 | succ f=>rfl
theorem YF  {t:Nat} (h:Gh l t 62=true):l[t]?=some 62:=by
 obtain ⟨a,b⟩:=Of h
 rw [Ak a,b]
theorem T5  {t:Nat} (h:Gh l t 62=false):l[t]?≠some 62:=λe=>by
 obtain ⟨h1,h2⟩:=C1.1 e
 exact RN h h1 h2
theorem UF (p:Option Addr) (l:l8_) (c:Nat) (refs:Bool) (D:Int) (hO:A05 p l c refs D) (hadv:∀ t o t',t<l.length->EJ refs l D.toNat t=.ok (o,t')->t<t'/\t'<=l.length) (r t:Nat) (w:World) (h:O5 w r p l c t refs) (hne:0<l.length->(pA p).block≠r) (hc:l.length<=c) (hl:l.length<=100000000) (ht:t<=l.length) :
  Calls Tryz.prog 109 #[ptV r,Ag D] w (Hl 35 (Ls (Gb (EJ refs l D.toNat) l (l.length+1) [] [] t)) (A32 w r p l c refs) (λw'=>B8 w.heap.size r w w')):=by
 have hr:=h.1
 have hb:=h.2
 have fD:0<l.length->(pA p).block<w.heap.size:=λh0=>hb.lt h0
 obtain ⟨R,hR⟩:=eX (Gb (EJ refs l D.toNat) l (l.length+1) [] [] t)
 rw [<- hR]
 obtain ⟨t0,fE⟩:=eX t
 subst fE
 refine AF func109 rfl ntmps109 ?_
 have eG:=B8.refl (w.heap.size) r w
 refine A4<|Bm CA rfl (λb1 go b' c0 be g7=>?_)
 have fF:=Bt b' hr.lt
 have aK:=hr.un be fF
 have c2:=λh0=>b'▸hb.lt h0
 have eH:=Cy hb be c2
 have cI:=CW b' eG.size
 have eI:=Bs eG (DC be cI)
 refine A0<|?_
 refine A4<|A1 (.buildL (ps:=_) Ec rfl rfl rfl pS) ?_
 refine Bm CA rfl (λP gp bt eN aM g8=>?_)
 have fG:=Bt bt aK.lt
 have fH:=aK.un aM fG
 have eO:=Bt bt c0.lt
 have eP:=c0.un aM eO
 have aa:=λh0=>bt▸eH.lt h0
 have eQ:=Cy eH aM aa
 have cJ:=CW bt eI.size
 have eR:=Bs eI (DC aM cJ)
 refine Az rfl rfl eN Ah rfl rfl (λgq cK ao g3=>?_)
 have eS:=fH.up ao
 have eT:=eP.up ao
 have eU:=Cy eQ ao aa
 have eV:=Bs eR (DC ao oO)
 refine A0<|AT ?_
 have bu:0<l.length->(pA p).block<P+1:=λh0=>by have:=fD h0;omega
 refine BO (α:=Value × Value × List (l8_) × List PC × List PV × Nat × Nat) (λt=>[(0,ptV r),(1,Ag D),(4,ptV b1),(5,ptV P)]) (λt w'=>O5 w' r p l c t.2.2.2.2.2.1 refs/\B8 w.heap.size r w w'/\B4 w' b1 (Q6 0 0 []).toArray 27/\B4 w' P #[Ag 7,Ag 0,.string ⟨#[]⟩,t.1,t.2.1,.slice none 0 0] 27/\AO GZ 9 (P+1) w' t.1 t.2.2.1/\AO Q7 27 (P+1) w' t.2.1 t.2.2.2.1/\(∀ g,t.1.ownBlock=some g->t.2.1.ownBlock≠some g)/\Gl w' (λk=>P<k/\t.1.ownBlock≠some k/\t.2.1.ownBlock≠some k) t.2.2.2.1 t.2.2.2.2.1/\Gb (EJ refs l D.toNat) l t.2.2.2.2.2.2 t.2.2.1 t.2.2.2.2.1 t.2.2.2.2.2.1=R/\l.length<t.2.2.2.2.2.2+t.2.2.2.2.2.1/\t.2.2.2.2.2.1<=l.length/\t.2.2.2.2.1.length<=65535/\t.2.2.1.length=t.2.2.2.2.1.length) (λt=>t.2.2.2.2.2.2) ((.slice none 0 0,.slice none 0 0,[],[],[],t0,l.length+1)) ⟨rfl,rfl,rfl,rfl,tT⟩ (⟨⟨eS,eU⟩,eV,eT,cK,AO.nil _ _ _ _,AO.nil _ _ _ _,λg h=>(by cases h),Gl.nil _ _,hR.symm,oM,ht,FN _,rfl⟩) (λt w1 hR=>?_)
 obtain ⟨kv,v,ks,cs,acc,t,f⟩:=t
 obtain ⟨c3,hT,eJ,aK,aN,bf,bg,bh,hw,fI,c4,fJ,fK⟩:=hR
 simp only at c3 aK aN bf bg bh hw fI c4 fJ fK ⊢
 have H:=JZ (obj:=EJ refs l D.toNat) (l:=l) (ks:=ks) (os:=acc) (t:=t) (f:=f) oO
 have g9:=Gg l t c4
 have gr:=bh.len
 obtain ⟨pl,cl,rfl,-⟩:=bf.row
 obtain ⟨pk,ck,rfl,-⟩:=aN.row
 refine AT<|Ad<|A4<|A3 rfl<|Ch BQ rfl rfl ((N2 r p l c t refs _ ⟨c3.1,c3.2⟩ hne hl c4)) (λfL eK ap N=>?_) (λfM eK ap N=>?_)
 have c5:=Bs hT (EN N hT.size)
 exact Bx (Ho fL (by rw [<- hw,H,(HU ap).1,(HU ap).2];rfl) c5)
 have eW:=DK aN N.2 oO
 have eY:=DK bf N.2 oO
 have eZ:=Gk (w1:=eK) bh (λk hk hl=>N.2.block k hl oO)
 have bi:=N.1.1
 have e':=Gd eJ N.2 eJ.lt oO
 have f0:=Gd aK N.2 aK.lt oO
 have f1:=N.1.2
 have f2:=Bs hT (EN N.2 hT.size)
 have c6:=OL ap
 rw [c6] at H
 obtain ⟨gs,fN⟩:=C1.1 c6
 obtain ⟨x0,fO⟩:=eX fM
 rw [<- fO] at H fN c6 ⊢
 generalize AW false l t=s at *
 refine A8 rfl<|AT<|IE 11 (decide ((x0.toNat:Int)=62/\(l.length:Int)<=(s:Int)+1)) ?_ (λfP a2=>?_)
 refine DE BS kR<|WQ.p (.mv rfl) rfl<|WQ.p (.eql rfl rfl) rfl<|WQ.p (.mv rfl) rfl<|JJ rfl rfl rfl (λb=>?_) (λb=>?_)
 have f3:=dT b
 refine WQ.p (.mv rfl) rfl<|BP rfl rfl rfl b<|WQ.p (.nck rfl) rfl<|BP rfl rfl rfl b<|WQ.p (.fa Cq rfl BI dD rfl) rfl<|BP rfl rfl rfl b<|D2 (λm=>Ae (C5 _) rfl bi rfl) rfl<|BP rfl rfl rfl b<|WQ.p (.iis ((s:Int)+1) (.add rfl rfl (Bb oO)) oO) rfl<|BP rfl rfl rfl b<|WQ.p (.mv rfl) rfl<|BP rfl rfl rfl b<|WQ.p (.nck rfl) rfl<|BP rfl rfl rfl b<|WQ.p (.fa Cq rfl CZ dD rfl) rfl<|BP rfl rfl rfl b<|D2 (λm=>Ae (g22_ _) rfl bi rfl) rfl<|BP rfl rfl rfl b<|WQ.p (.lenS B1 rfl) rfl<|BP rfl rfl rfl b<|WQ.p (.geq rfl rfl) rfl<|WQ.p (.pkT rfl b rfl) rfl<|WQ.p (.as rfl) rfl<|CO (λgt f4=>?_)
 exact ⟨GC (DI rfl (by (apply B3.2;(try simp) <;> omega))),f4⟩
 have f3:=dF b
 refine Bc rfl rfl rfl b<|Bc rfl rfl rfl b<|Bc rfl rfl rfl b<|Bc rfl rfl rfl b<|Bc rfl rfl rfl b<|Bc rfl rfl rfl b<|Bc rfl rfl rfl b<|Bc rfl rfl rfl b<|Bc rfl rfl rfl b<|Bc rfl rfl rfl b<|WQ.p (.pkF rfl b rfl) rfl<|WQ.p (.as rfl) rfl<|CO (λgv f5=>?_)
 exact ⟨GC (DI rfl (by (apply B3.2;(try simp) <;> omega))),f5⟩
 have f6:=AO.drew eW a2
 have f7:=AO.drew eY a2
 have f8:=Gk (w1:=fP) eZ (λk hk hl=>(by obtain ⟨m,rfl⟩:=a2;rfl))
 have bj:=bi.drew a2
 have f9:=e'.drew a2
 have fb:=f0.drew a2
 have bk:=f1.drew a2
 have c7:=Bs f2 (KU a2)
 refine Ai rfl (λc8=>?_) (λc8=>?_)
 have fc:=dT c8
 refine An<|F5 BQ rfl ((CG 24 _)) (λgw fd=>?_)
 obtain rfl:=fd
 exact Bx (Ho 24 (by rw [<- hw,H];(try simp only []);rw [A5 ⟨Cf (d:=62) (show (x0.toNat:Int)=62 by omega),oO⟩];rfl) c7)
 have fc:=dF c8
 have a3:¬ (x0=62/\l.length<=s+1):=λh=>by (have h2:(x0.toNat:Int)=62:=by rw [h.1];rfl);omega
 refine IE 28 (decide ((x0.toNat:Int)=62) && Gh l (s+1) 62) ?_ (λfQ a4=>?_)
 refine DE BS kR<|WQ.p (.mv rfl) rfl<|WQ.p (.eql rfl rfl) rfl<|WQ.p (.mv rfl) rfl<|JJ rfl rfl rfl (λa=>?_) (λa=>?_)
 have fe:=dT a
 refine WQ.p (.mv rfl) rfl<|BP rfl rfl rfl a<|WQ.p (.nck rfl) rfl<|BP rfl rfl rfl a<|WQ.p (.fa Cq rfl CZ dD rfl) rfl<|BP rfl rfl rfl a<|D2 (λm=>Ae (g22_ _) rfl bj rfl) rfl<|BP rfl rfl rfl a<|WQ.p (.mv rfl) rfl<|BP rfl rfl rfl a<|WQ.p (.nck rfl) rfl<|BP rfl rfl rfl a<|WQ.p (.fa Cq rfl BI dD rfl) rfl<|BP rfl rfl rfl a<|D2 (λm=>Ae (C5 _) rfl bj rfl) rfl<|BP rfl rfl rfl a<|WQ.p (.iis (((s+1:Nat):Int)) (.add rfl rfl (Bb oO)) oO) rfl<|BP rfl rfl rfl a<|WQ.p (.ixb B1 EC rfl rfl (bk.isp oO) (s+1) oO oO) rfl<|BP rfl rfl rfl a<|D2 (λm=>BG (IU _) rfl ((bk.drewN m).cells (s+1) oO)) rfl<|BP rfl rfl rfl a<|WQ.p (.eql rfl rfl) rfl<|WQ.p (.pkT rfl a rfl) rfl<|WQ.p (.as rfl) rfl<|CO (λgx ff=>?_)
 exact ⟨GC (DI rfl (by (rw [show decide ((x0.toNat:Int)=62)=true from AR aS,DV];unfold Gh;rw [show decide (s+1<l.length)=true from AR oO,DV,getElem!_pos l (s+1) oO];rfl))),ff⟩
 have fe:=dF a
 refine Bc rfl rfl rfl a<|Bc rfl rfl rfl a<|Bc rfl rfl rfl a<|Bc rfl rfl rfl a<|Bc rfl rfl rfl a<|Bc rfl rfl rfl a<|Bc rfl rfl rfl a<|Bc rfl rfl rfl a<|Bc rfl rfl rfl a<|Bc rfl rfl rfl a<|Bc rfl rfl rfl a<|WQ.p (.pkF rfl a rfl) rfl<|WQ.p (.as rfl) rfl<|CO (λgz fg=>?_)
 exact ⟨GC (DI rfl (by (rw [show decide ((x0.toNat:Int)=62)=false from AH aS];rfl))),fg⟩
 have c9:=AO.drew f6 a4
 have ca:=AO.drew f7 a4
 have cb:=Gk (w1:=fQ) f8 (λk hk hl=>(by obtain ⟨m,rfl⟩:=a4;rfl))
 have aO:=bj.drew a4
 have cc:=f9.drew a4
 have cd:=fb.drew a4
 have cf:=bk.drew a4
 have bl:=Bs c7 (KU a4)
 refine Ai rfl (λfR=>?_) (λfR=>?_)
 have bm:(x0.toNat:Int)=62/\Gh l (s+1) 62=true:=by simp_all
 have gA:=(Of bm.2).1
 refine A4<|A3 rfl<|A1 (.nck rfl)<|A1 (.fa Cq rfl BI dD rfl)<|Aj (Ae (C5 _) rfl aO rfl)<|A1 (.iis (((s+2:Nat):Int)) (.add rfl rfl (Bb oO)) oO)<|A1 (.nck rfl)<|A1 (.fa Cq rfl BI dD rfl)<|BA BI rfl rfl rfl aO (by exact Nat.le_of_ble_eq_true rfl) (λeL aP G g4=>?_)
 have aP:B4 eL r _ _:=aP
 have G:CP r _ _:=G
 have fh:=Bn c9 G oM
 have fi:=Bn ca G oM
 have fj:=Gk (w1:=eL) cb (λk hk hl=>G.other k oM)
 have fk:=cc.up G
 have fl:=cd.up G
 have fm:=Af.upd cf G hne
 have fn:=Bs bl (Bk G)
 refine A0<|A4<|Aj (Bd rfl fl Av rfl Ah)<|Az rfl rfl fk Ah rfl rfl (λfS cL ab g5=>?_)
 have cg:=Bn fh ab oM
 have bv:=Bn fi ab oM
 have cM:=Gk (w1:=fS) fj (λk hk hl=>ab.other k oM)
 have cN:=aP.up ab
 have cO:=Cy fm ab c2
 have cP:=Bs fn (DC ab oO)
 refine A0<|AU (BD rfl rfl (Ba cL Av rfl Ah)  ?_)
 exact LH (.mk 7 0 [] ks acc,s+2) _ (by rw [<- hw,H];(try simp only []);rw [A2 a3,A5 ⟨Cf (d:=62) bm.1,YF bm.2⟩];rfl) rfl ⟨⟨7,0,[],pk,ks.length,ck,pl,cs.length,cl⟩,rfl,PH ⟨(cg).base (λg hg=>FN _),λg hg=>by have:=(cg).lt g hg;omega⟩ ⟨(bv).base (λg hg=>FN _),λg hg=>by have:=(bv).lt g hg;omega⟩ ((cM).mono (λk hk _=>by have:=hk.1;omega)),⟨cN,cO⟩,cP⟩
 have ad:¬ (x0=62/\l[s+1]?=some 62):=λh=>by (have h2:(x0.toNat:Int)=62:=by rw [h.1];rfl);(have h3:=T5 (l:=l) (t:=s+1) (by simp_all));exact h3 h.2
 refine A4<|A3 rfl<|A1 (.neq rfl rfl)<|A8 rfl<|Ai rfl (λbn=>?_) (λbn=>?_)
 have cQ:=ndT bn
 refine An<|F5 BQ rfl ((CG 23 _)) (λga cR=>?_)
 obtain rfl:=cR
 exact Bx (Ho 23 (by rw [<- hw,H];(try simp only []);rw [A2 a3,A2 ad,A5 (D6 (d:=47) aS)];rfl) bl)
 have cQ:=ndF bn
 have af:x0=47:=Cf (d:=47) aS
 refine As<|A4<|A3 rfl<|A1 (.nck rfl)<|A1 (.fa Cq rfl BI dD rfl)<|Aj (Ae (C5 _) rfl aO rfl)<|A1 (.iis (((s+1:Nat):Int)) (.add rfl rfl (Bb oO)) oO)<|A1 (.nck rfl)<|A1 (.fa Cq rfl BI dD rfl)<|BA BI rfl rfl rfl aO (by exact Nat.le_of_ble_eq_true rfl) (λci az i fT=>?_)
 have az:B4 ci r _ _:=az
 have i:CP r _ _:=i
 have cS:=Bn c9 i oM
 have cT:=Bn ca i oM
 have cU:=Gk (w1:=ci) cb (λk hk hl=>i.other k oM)
 have bw:=cc.up i
 have bz:=cd.up i
 have cV:=Af.upd cf i hne
 have aq:=Bs bl (Bk i)
 refine A0<|A4<|A3 rfl<|Ch BQ rfl rfl ((QN r p l c (s+1) refs _ ⟨az,cV⟩ hne hc hl oO)) (λfo cj aA y=>?_) (λfp cj aA y=>?_)
 have bS:=Bs aq (EN y aq.size)
 exact Bx (Ho fo (by rw [<- hw,H];(try simp only []);rw [A2 a3,A2 ad,A2 (by rw [af];simp),aA];rfl) bS)
 have bA:=DK cS y.2 oO
 have cW:=DK cT y.2 oO
 have cX:=Gk (w1:=cj) cU (λk hk hl=>y.2.block k hl oO)
 have bB:=y.1.1
 have bC:=Gd bw y.2 bw.lt oO
 have ag:=Gd bz y.2 bz.lt oO
 have bD:=y.1.2
 have ar:=Bs aq (EN y.2 aq.size)
 have ah:=aA
 obtain ⟨kX,t1⟩:=fp
 have eM:=Pf oO ah
 simp only [] at *
 refine A8 rfl<|Ad<|A4<|A1 (.fa Av rfl E6 dD rfl)<|Aj (Ae (Fs _) rfl ag rfl)<|A3 rfl<|Au (YO pk ks ck kX _ ((bA).rowp.strs) oO) (λgb cY=>?_)
 obtain rfl:=cY
 refine A0<|Ai rfl (λfq=>?_) (λfq=>?_)
 refine An<|F5 BQ rfl ((CG 23 _)) (λgc cZ=>?_)
 obtain rfl:=cZ
 exact Bx (Ho 23 (by rw [<- hw,H];(try simp only []);rw [A2 a3,A2 ad,A2 (by rw [af];simp),ah];(try simp only []);rw [A5 (dT aS)];rfl) ar)
 refine As<|Ad<|A4<|A1 (.fa Av rfl CQ dD rfl)<|Aj (Ae (DW _) rfl ag rfl)<|A1 (.lenS Cg rfl)<|A1 (.geq rfl rfl)<|A0<|Ai rfl (λbo=>?_) (λbo=>?_)
 have c':=dT bo
 refine An<|F5 BQ rfl ((CG 25 _)) (λge d0=>?_)
 obtain rfl:=d0
 exact Bx (Ho 25 (by rw [<- hw,H];(try simp only []);rw [A2 a3,A2 ad,A2 (by rw [af];simp),ah];(try simp only []);rw [A2 (dF aS),A5 oO];rfl) ar)
 have c':=dF bo
 refine As<|A4<|A1 (.fa Av rfl E6 dD rfl)<|Aj (Ae (Fs _) rfl ag rfl)<|A3 rfl<|CC (ps:=_) DD FP z9_ rfl rfl rfl rfl rfl pR rfl (λgf d1 U cm B fU=>?_)
 have d2:=Ix bA U B
 have aQ:=Ix cW U B
 have d3:=Gk (w1:=d1) cX (λk hk hl=>B.other k oO)
 have d4:=Bt U bB.lt
 have d5:=bB.un B d4
 have d6:=Bt U bC.lt
 have d7:=bC.un B d6
 have d8:=Bt U ag.lt
 have bE:=ag.un B d8
 have cn:=λh0=>U▸bD.lt h0
 have d9:=Cy bD B cn
 have bT:=CW U ar.size
 have da:=Bs ar (DC B bT)
 have fV:=AA.lit (V:=GZ) (l:=[kX]) cm (rfl)
 have fW:=(aQ).lt
 refine Cb DD Nb rfl rfl rfl d2 rfl fV oE ((bE).lt) rfl (λh=>nomatch h) (λbp gg a' a5 b0 b2=>?_)
 have db:=d5.below a5 oO
 have dc:=d7.below a5 oO
 have dd:=bE.below a5 oO
 have de:=GR (T:=λk=>P<k/\(bp).ownBlock≠some k/\(Value.slice pl cs.length cl).ownBlock≠some k) d3 (λk hk hl=>b0.block k hl (λe=>hk.2.1 e.symm)) (λk hk hl=>⟨hk.1,λe=>by rcases b2 k e with h | h;exact hk.2.1 h;omega,hk.2.2⟩)
 have df:=AO.same aQ (λg hg=>b0.block g ((aQ).lt g hg).2 (λhx=>bg g hx.symm hg))
 have dg:=Fh d9 a5 bu
 have dh:=Bs da (Fb (a5.mono oO))
 have ac:∀ g,(bp).ownBlock=some g->(Value.slice pl cs.length cl).ownBlock≠some g:=λg hg=>by rcases b2 g hg with h | h;exact bg g h;exact λh2=>by have:=fW g h2;omega
 obtain ⟨an,rfl⟩:=eX bp
 refine A1 (.fa Av rfl E6 dD rfl)<|BA E6 rfl rfl (a').one dd (by exact Nat.le_of_ble_eq_true rfl) (λco ai j fX=>?_)
 have ai:B4 co P _ _:=ai
 have j:CP P _ _:=j
 have di:=Bn a' j oM
 have dj:=Bn df j oM
 have dk:=Gk (w1:=co) de (λk hk hl=>j.other k oM)
 have dl:=db.up j
 have bG:=dc.up j
 have dm:=Cy dg j aa
 have au:=Bs dh (DC j oO)
 refine A0<|A4<|A3 rfl<|Ch BQ rfl rfl ((N2 r p l c t1 refs _ ⟨dl,dm⟩ hne hl eM.2)) (λfr cq aj A=>?_) (λgh cq aj A=>?_)
 have bU:=Bs au (EN A au.size)
 exact Bx (Ho fr (by rw [<- hw,H];(try simp only []);rw [A2 a3,A2 ad,A2 (by rw [af];simp),ah];(try simp only []);rw [A2 (dF aS),A2 oO,(HU aj).1,(HU aj).2];rfl) bU)
 have dn:=DK di A.2 oO
 have dp:=DK dj A.2 oO
 have dq:=Gk (w1:=cq) dk (λk hk hl=>A.2.block k hl oO)
 have dr:=A.1.1
 have ds:=Gd bG A.2 bG.lt oO
 have dt:=Gd ai A.2 ai.lt oO
 have du:=A.1.2
 have dv:=Bs au (EN A.2 au.size)
 have am:=OL aj
 obtain ⟨aR,-⟩:=C1.1 am
 have g6:=Gg l t1 eM.2
 refine A0<|F2 9 rfl BS (λfs J=>?_)
 have av:=AO.drew dn J
 have aw:=AO.drew dp J
 have bH:=Gk (w1:=fs) dq (λk hk hl=>(by obtain ⟨m,rfl⟩:=J;rfl))
 have bI:=dr.drew J
 have ax:=ds.drew J
 have X:=dt.drew J
 have bJ:=du.drew J
 have K:=Bs dv (KU J)
 refine AB 0 rfl (.fa Av rfl CQ dD rfl) rfl<|AB 2 rfl (.mv rfl) rfl<|AB 3 rfl (.mv rfl) rfl<|Ct 1 rfl 4 rfl ?_ ?_
 refine Aj (Ae (DW _) rfl X rfl)<|A0<|Ao 4 rfl<|EE BQ rfl rfl ((hO r _ _ ⟨bI,bJ⟩ hne aR)) (λft cr aB aT=>?_) (λfu gi cr aB aT=>?_)
 have bV:=Bs K (EN aT K.size)
 exact Bx (Ho ft (by rw [<- hw,H];(try simp only []);rw [A2 a3,A2 ad,A2 (by rw [af];simp),ah];(try simp only []);rw [A2 (dF aS),A2 oO,am];(try simp only []);rw [aB];rfl) bV)
 have aL:=aB
 obtain ⟨oX,tX⟩:=fu
 obtain ⟨x1,rfl,ct,aC,Q⟩:=aT
 have bK:=hadv _ oX tX aR aL
 have bL:=DK aw Q oO
 have bM:=DK av Q oO
 have aU:=Gk (w1:=cr) bH (λk hk hl=>Q.block k hl (by have:=hk.1;omega))
 have ae:=Gd ax Q (ax).lt oO
 have a6:=Gd X Q (X).lt oO
 have aD:=Bs K (EN Q K.size)
 have bq:=ct.mono (T:=λk=>P<k/\an.ownBlock≠some k/\(Value.slice pl cs.length cl).ownBlock≠some k) (λk hk _=>⟨by have:=(X).lt;omega,λe=>by have:=((av).lt k e).2;omega,λe=>by have:=((aw).lt k e).2;omega⟩)
 have ay:=aU.push bq
 have aE:=aC.1
 have aF:=aC.2
 refine A0<|Ao 5 rfl<|CR (L:=Q7) (ps:=_) ([x1]) Cg Dd CA rfl rfl rfl rfl rfl (by rfl) rfl rfl (λfv bN Y cu C fY=>?_)
 have aV:=Ix bM Y C
 have dw:=Ix bL Y C
 have dx:=Gk (w1:=bN) ay (λk hk hl=>C.other k oO)
 have dy:=Bt Y aE.lt
 have dz:=aE.un C dy
 have dA:=Bt Y ae.lt
 have dB:=ae.un C dA
 have dC:=Bt Y a6.lt
 have bO:=a6.un C dC
 have cv:=λh0=>Y▸aF.lt h0
 have dE:=Cy aF C cv
 have bW:=CW Y aD.size
 have dG:=Bs aD (DC C bW)
 have fA:fv<=bN.heap.size:=by omega
 refine A0<|Ao 6 rfl ?_
 have b3:=(aV).lt
 refine Cb Cg FZ rfl rfl rfl dw rfl (cu).rowp oE ((bO).lt) rfl (λh=>nomatch h) (λcw gj b4 a7 b5 b6=>?_)
 have dH:=dz.below a7 oO
 have dI:=dB.below a7 oO
 have dJ:=bO.below a7 oO
 have dK:=GR (T:=λk=>P<k/\an.ownBlock≠some k/\(cw).ownBlock≠some k) dx (λk hk hl=>b5.block k hl (λe=>hk.2.2 e.symm)) (λk hk hl=>⟨hk.1,hk.2.1,λe=>by rcases b6 k e with h | h;exact hk.2.2 h;omega⟩)
 have dL:=AO.same aV (λg hg=>b5.block g ((aV).lt g hg).2 (λhx=>ac g hg hx.symm))
 have dM:=Fh dE a7 bu
 have dN:=Bs dG (Fb (a7.mono oO))
 have ak:∀ g,an.ownBlock=some g->(cw).ownBlock≠some g:=λg hg h2=>by rcases b6 g h2 with h | h;exact ac g hg h;have:=b3 g hg;omega
 refine A0<|AB 7 rfl (.fa Av rfl CQ dD rfl) rfl<|Ao 8 rfl<|BA CQ rfl rfl (b4).one dJ (by exact Nat.le_of_ble_eq_true rfl) (λcy aG q fZ=>?_)
 have aG:B4 cy P _ _:=aG
 have q:CP P _ _:=q
 have dO:=Bn dL q oM
 have dP:=Bn b4 q oM
 have dQ:=Gk (w1:=cy) dK (λk hk hl=>q.other k oM)
 have dR:=dH.up q
 have dS:=dI.up q
 have dU:=Cy dM q aa
 have dV:=Bs dN (DC q oO)
 refine A0<|Be kR ?_
 exact ⟨(_,_,ks++[kX],cs++[x1],acc++[oX],tX,f-1),⟨rfl,rfl,rfl,rfl,tT⟩,⟨⟨dR,dU⟩,dV,dS,aG,dO,dP,ak,dQ,by rw [<- hw,H];(try simp only []);rw [A2 a3,A2 ad,A2 (by rw [af];simp),ah];(try simp only []);rw [A2 (dF aS),A2 oO,am];(try simp only []);rw [aL],oM,bK.2,oF,oF⟩,oM⟩
 refine EE BQ rfl rfl ((hO r _ _ ⟨bI,bJ⟩ hne aR)) (λfw cz aH aW=>?_) (λfx gk cz aH aW=>?_)
 have bX:=Bs K (EN aW K.size)
 exact Bx (Ho fw (by rw [<- hw,H];(try simp only []);rw [A2 a3,A2 ad,A2 (by rw [af];simp),ah];(try simp only []);rw [A2 (dF aS),A2 oO,am];(try simp only []);rw [aH];rfl) bX)
 have aL:=aH
 obtain ⟨oX,tX⟩:=fx
 obtain ⟨x1,rfl,ct,aC,Q⟩:=aW
 have bK:=hadv _ oX tX aR aL
 have bL:=DK aw Q oO
 have bM:=DK av Q oO
 have aU:=Gk (w1:=cz) bH (λk hk hl=>Q.block k hl (by have:=hk.1;omega))
 have ae:=Gd ax Q (ax).lt oO
 have a6:=Gd X Q (X).lt oO
 have aD:=Bs K (EN Q K.size)
 have bq:=ct.mono (T:=λk=>P<k/\an.ownBlock≠some k/\(Value.slice pl cs.length cl).ownBlock≠some k) (λk hk _=>⟨by have:=(X).lt;omega,λe=>by have:=((av).lt k e).2;omega,λe=>by have:=((aw).lt k e).2;omega⟩)
 have ay:=aU.push bq
 have aE:=aC.1
 have aF:=aC.2
 refine A0<|Ct 1 rfl 5 rfl ?_ ?_
 refine Aj (Ae (DW _) rfl a6 rfl)<|A0<|Ao 5 rfl<|CR (L:=Q7) (ps:=_) ([x1]) Cg Dd CA rfl rfl rfl rfl rfl (by rfl) rfl rfl (λfy bP a0 cA E f'=>?_)
 have aX:=Ix bM a0 E
 have dW:=Ix bL a0 E
 have dX:=Gk (w1:=bP) ay (λk hk hl=>E.other k oO)
 have dY:=Bt a0 aE.lt
 have dZ:=aE.un E dY
 have d':=Bt a0 ae.lt
 have e0:=ae.un E d'
 have e1:=Bt a0 a6.lt
 have bQ:=a6.un E e1
 have cB:=λh0=>a0▸aF.lt h0
 have e2:=Cy aF E cB
 have bY:=CW a0 aD.size
 have e3:=Bs aD (DC E bY)
 have fB:fy<=bP.heap.size:=by omega
 refine A0<|Ao 6 rfl ?_
 have b3:=(aX).lt
 refine Cb Cg FZ rfl rfl rfl dW rfl (cA).rowp oE ((bQ).lt) rfl (λh=>nomatch h) (λcC gl b8 a8 b9 ba=>?_)
 have e4:=dZ.below a8 oO
 have e5:=e0.below a8 oO
 have e6:=bQ.below a8 oO
 have e7:=GR (T:=λk=>P<k/\an.ownBlock≠some k/\(cC).ownBlock≠some k) dX (λk hk hl=>b9.block k hl (λe=>hk.2.2 e.symm)) (λk hk hl=>⟨hk.1,hk.2.1,λe=>by rcases ba k e with h | h;exact hk.2.2 h;omega⟩)
 have e8:=AO.same aX (λg hg=>b9.block g ((aX).lt g hg).2 (λhx=>ac g hg hx.symm))
 have e9:=Fh e2 a8 bu
 have ea:=Bs e3 (Fb (a8.mono oO))
 have ak:∀ g,an.ownBlock=some g->(cC).ownBlock≠some g:=λg hg h2=>by rcases ba g h2 with h | h;exact ac g hg h;have:=b3 g hg;omega
 refine A0<|AB 7 rfl (.fa Av rfl CQ dD rfl) rfl<|Ao 8 rfl<|BA CQ rfl rfl (b8).one e6 (by exact Nat.le_of_ble_eq_true rfl) (λcD aI u g0=>?_)
 have aI:B4 cD P _ _:=aI
 have u:CP P _ _:=u
 have eb:=Bn e8 u oM
 have ec:=Bn b8 u oM
 have ed:=Gk (w1:=cD) e7 (λk hk hl=>u.other k oM)
 have ee:=e4.up u
 have ef:=e5.up u
 have eg:=Cy e9 u aa
 have eh:=Bs ea (DC u oO)
 refine A0<|Be kR ?_
 exact ⟨(_,_,ks++[kX],cs++[x1],acc++[oX],tX,f-1),⟨rfl,rfl,rfl,rfl,tT⟩,⟨⟨ee,eg⟩,eh,ef,aI,eb,ec,ak,ed,by rw [<- hw,H];(try simp only []);rw [A2 a3,A2 ad,A2 (by rw [af];simp),ah];(try simp only []);rw [A2 (dF aS),A2 oO,am];(try simp only []);rw [aL],oM,bK.2,oF,oF⟩,oM⟩
 refine CR (L:=Q7) (ps:=_) ([x1]) Cg Dd CA rfl rfl rfl rfl rfl (by rfl) rfl rfl (λfz bR a1 cE F g1=>?_)
 have aY:=Ix bM a1 F
 have ei:=Ix bL a1 F
 have ej:=Gk (w1:=bR) ay (λk hk hl=>F.other k oO)
 have ek:=Bt a1 aE.lt
 have el:=aE.un F ek
 have em:=Bt a1 ae.lt
 have en:=ae.un F em
 have eo:=Bt a1 a6.lt
 have aZ:=a6.un F eo
 have cF:=λh0=>a1▸aF.lt h0
 have ep:=Cy aF F cF
 have bZ:=CW a1 aD.size
 have eq:=Bs aD (DC F bZ)
 have fC:fz<=bR.heap.size:=by omega
 refine A0<|Ao 1 rfl<|Aj (Ae (DW _) rfl aZ rfl)<|A0<|Ao 6 rfl ?_
 have b3:=(aY).lt
 refine Cb Cg FZ rfl rfl rfl ei rfl (cE).rowp oE ((aZ).lt) rfl (λh=>nomatch h) (λcG gm bb a9 bc bd=>?_)
 have er:=el.below a9 oO
 have es:=en.below a9 oO
 have et:=aZ.below a9 oO
 have eu:=GR (T:=λk=>P<k/\an.ownBlock≠some k/\(cG).ownBlock≠some k) ej (λk hk hl=>bc.block k hl (λe=>hk.2.2 e.symm)) (λk hk hl=>⟨hk.1,hk.2.1,λe=>by rcases bd k e with h | h;exact hk.2.2 h;omega⟩)
 have ev:=AO.same aY (λg hg=>bc.block g ((aY).lt g hg).2 (λhx=>ac g hg hx.symm))
 have ew:=Fh ep a9 bu
 have ex:=Bs eq (Fb (a9.mono oO))
 have ak:∀ g,an.ownBlock=some g->(cG).ownBlock≠some g:=λg hg h2=>by rcases bd g h2 with h | h;exact ac g hg h;have:=b3 g hg;omega
 refine A0<|AB 7 rfl (.fa Av rfl CQ dD rfl) rfl<|Ao 8 rfl<|BA CQ rfl rfl (bb).one et (by exact Nat.le_of_ble_eq_true rfl) (λcH aJ x g2=>?_)
 have aJ:B4 cH P _ _:=aJ
 have x:CP P _ _:=x
 have ey:=Bn ev x oM
 have ez:=Bn bb x oM
 have eA:=Gk (w1:=cH) eu (λk hk hl=>x.other k oM)
 have eB:=er.up x
 have eC:=es.up x
 have eD:=Cy ew x aa
 have eF:=Bs ex (DC x oO)
 refine A0<|Be kR ?_
 exact ⟨(_,_,ks++[kX],cs++[x1],acc++[oX],tX,f-1),⟨rfl,rfl,rfl,rfl,tT⟩,⟨⟨eB,eD⟩,eF,eC,aJ,ey,ez,ak,eA,by rw [<- hw,H];(try simp only []);rw [A2 a3,A2 ad,A2 (by rw [af];simp),ah];(try simp only []);rw [A2 (dF aS),A2 oO,am];(try simp only []);rw [aL],oM,bK.2,oF,oF⟩,oM⟩
end
section
theorem QY {obj:Nat->MA} {l:l8_} (hobj:∀ t o t',t<l.length->obj t=.ok (o,t')->t<t'/\t'<=l.length):∀ (f:Nat) (acc:List PV) (t:Nat) (os:List PV) (t':Nat),t<=l.length->Ic obj l f acc t=.ok (os,t')->t<t'/\t'<=l.length
 | 0,_,_,_,_,_,h=>by cases h
 | f+1,acc,t,os,t',ht,h=>by
  have hs:=Gg l t ht
  simp only [Ic] at h
  cases hg:l[AW false l t]? with
  | none=>rw [hg] at h;cases h
  | some c =>
   obtain ⟨hlt,-⟩:=C1.1 hg
   rw [hg] at h
   simp only at h
   split at h
   · cases h;omega
   ·
    split at h
    · cases h
    ·
     cases ho:obj (AW false l t) with
     | error k=>rw [ho] at h;cases h
     | ok a =>
      obtain ⟨o,t1⟩:=a
      rw [ho] at h
      have h1:=hobj _ _ _ hlt ho
      have h2:=QY hobj f _ _ _ _ h1.2 h
      omega
theorem P3 {obj:Nat->MA} {l:l8_} (hobj:∀ t o t',t<l.length->obj t=.ok (o,t')->t<t'/\t'<=l.length):∀ (f:Nat) (ks:List (l8_)) (acc:List PV) (t:Nat) (ks':List (l8_)) (os:List PV) (t':Nat),t<=l.length->Gb obj l f ks acc t=.ok (ks',os,t')->t<t'/\t'<=l.length
 | 0,_,_,_,_,_,_,_,h=>by cases h
 | f+1,ks,acc,t,ks',os,t',ht,h=>by
  have hs:=Gg l t ht
  simp only [Gb] at h
  cases hg:l[AW false l t]? with
  | none=>rw [hg] at h;cases h
  | some c =>
   obtain ⟨hlt,-⟩:=C1.1 hg
   rw [hg] at h
   simp only at h
   split at h
   · cases h
   ·
    split at h
    ·
     next hq =>
     obtain ⟨h2,-⟩:=C1.1 hq.2
     cases h;omega
    ·
     split at h
     · cases h
     ·
      cases hn:Iz l (AW false l t+1) with
      | error k=>rw [hn] at h;cases h
      | ok a =>
       obtain ⟨k,t1⟩:=a
       rw [hn] at h
       have hle:=Pf oO hn
       simp only at h
       split at h
       · cases h
       ·
        split at h
        · cases h
        ·
         have hs1:=Gg l t1 hle.2
         cases hg1:l[AW false l t1]? with
         | none=>rw [hg1] at h;cases h
         | some c1 =>
          obtain ⟨hlt1,-⟩:=C1.1 hg1
          rw [hg1] at h
          simp only at h
          cases ho:obj (AW false l t1) with
          | error k=>rw [ho] at h;cases h
          | ok a =>
           obtain ⟨o,t2⟩:=a
           rw [ho] at h
           have h1:=hobj _ _ _ hlt1 ho
           have h2:=P3 hobj f _ _ _ _ _ _ h1.2 h
           omega
theorem Wp  {t:Nat} {t':Nat} (ht:t<=l.length) (h:JP l t=.ok (s,t')):t<t'/\t'<=l.length:=by
 have a:=P9 l t ht
 unfold JP at h
 split at h
 · cases h
 ·
  split at h
  · cases h
  ·
   split at h
   · cases h
   · cases h;omega
theorem XK  {t:Nat} (ht:t<=l.length) (h:Dk l t≠[]):t<Bq l t/\Bq l t<=l.length:=by
 have b:=EV l t ht
 refine ⟨?_,b.2⟩
 rcases By t (Bq l t) with a | a
 · exact a
 · exact Dp (by unfold Dk;rw [show Bq l t-t=0 by omega,List.take_zero]) h
theorem Yz:(Mi []).2.2=false:=by kernel_rfl
theorem Yl (refs:Bool) (l:l8_) (t:Nat):(IJ refs l [] t).isSome=false:=by
 unfold IJ
 have:(Fn [] 4096).2=false:=by rfl
 rw [this];simp
theorem Yk {refs:Bool} {t:Nat} (ht:t<=l.length):t<=Uq (IJ refs l s t) t/\Uq (IJ refs l s t) t<=l.length:=by
 have d:=Gg l t ht
 have a:=E3 false l t
 have b:=EV l _ a
 have e:=Gg l _ b.2
 have c:=E3 false l (Bq l (AW false l t))
 have f:=EV l _ c
 unfold IJ
 split
 ·
  split
  ·
   split
   ·
    show t<=Bq l _/\Bq l _<=l.length
    omega
   · exact ⟨DS _,ht⟩
  · exact ⟨DS _,ht⟩
 · exact ⟨DS _,ht⟩
theorem WV {refs:Bool} {t:Nat} (ht:t<l.length) (h:(EP refs l t).ok=true):t<(EP refs l t).np/\(EP refs l t).np<=l.length:=by
  by_cases hw:Dk l t=[]
  · exfalso
    unfold EP at h
    rw [hw,Yl,Yz] at h
    simp at h
  · have a := XK oO hw
    have b:=Yk (refs:=refs) (s:=Dk l t) a.2
    unfold EP
    split
    · exact a
    · split
      · exact a
      · split
        · exact a
        · split
          · exact ⟨by show t<Uq _ _;omega,b.2⟩
          · split
            · exact a
            · exact a
theorem SZ (refs:Bool) (l:l8_):∀ (d t:Nat) (o:PV) (t':Nat),t<l.length->EJ refs l d t=.ok (o,t')->t<t'/\t'<=l.length:=by
 have e:∀ t (o:PV) t',t<l.length->La l (t+1)=.ok (o,t')->t<t'/\t'<=l.length:=λt o t' ht h=>by
  unfold La at h
  cases hn:Iz l (t+1) with
  | error k=>rw [hn] at h;cases h
  | ok a =>
   obtain ⟨k,g⟩:=a
   rw [hn] at h
   have f:=Pf oO hn
   cases h;omega
 have b:∀ t (o:PV) t',t<l.length->I4 l t=.ok (o,t')->t<t'/\t'<=l.length:=λt o t' ht h=>by
  unfold I4 at h
  cases hn:JP l t with
  | error k=>rw [hn] at h;cases h
  | ok a =>
   obtain ⟨k,g⟩:=a
   rw [hn] at h
   have f:=Wp oO hn
   cases h;exact f
 have c:∀ t (o:PV) t',t<l.length->FT (EP refs l t)=.ok (o,t')->t<t'/\t'<=l.length:=λt o t' ht h=>by
  unfold FT at h
  split at h
  · next hok=>have:=WV ht hok;cases h;exact this
  · cases h
 intro d
 induction d with
 | zero =>
  intro t o t' ht h
  simp only [EJ] at h
  rw [Ak ht] at h
  simp only at h
  split at h
  · exact e t o t' ht h
  ·
   split at h
   · cases h
   ·
    split at h
    · exact b t o t' ht h
    ·
     split at h
     ·
      split at h
      · cases h
      ·
       split at h
       · exact b t o t' ht h
       · cases h
     · exact c t o t' ht h
 | succ d ih =>
  intro t o t' ht h
  simp only [EJ] at h
  rw [Ak ht] at h
  simp only at h
  split at h
  · exact e t o t' ht h
  ·
   split at h
   ·
    unfold Ph at h
    cases hn:Ic (EJ refs l d) l (l.length+1) [] (t+1) with
    | error k=>rw [hn] at h;cases h
    | ok a =>
     obtain ⟨os,g⟩:=a
     rw [hn] at h
     have:=QY ih _ _ _ _ _ oO hn
     cases h;omega
   ·
    split at h
    · exact b t o t' ht h
    ·
     split at h
     ·
      split at h
      · cases h
      ·
       split at h
       · exact b t o t' ht h
       ·
        unfold Ls at h
        cases hn:Gb (EJ refs l d) l (l.length+1) [] [] (t+2) with
        | error k=>rw [hn] at h;cases h
        | ok a =>
         obtain ⟨ks,os,g⟩:=a
         rw [hn] at h
         have:=P3 ih _ _ _ _ _ _ _ oO hn
         cases h;omega
     · exact c t o t' ht h
theorem KB (refs:Bool) (l:l8_) (d:Int) (t:Nat) (x:UInt8) (h:l[t]?=some x):EJ refs l d.toNat t =
    if x=47 then La l (t+1)
    else if x=91 then (if d<1 then .error 25 else Ph (Ic (EJ refs l (d-1).toNat) l (l.length+1) [] (t+1)))
    else if x=40 then I4 l t
    else if x=60 then (if l.length<=t+1 then .error 24 else if l[t+1]?≠some 60 then I4 l t else if d<1 then .error 25 else Ls (Gb (EJ refs l (d-1).toNat) l (l.length+1) [] [] (t+2)))
    else FT (EP refs l t):=by
  by_cases hd:d<1
  · rw [show d.toNat = 0 by omega, A5 hd]
    simp only [EJ,h]
    rw [A5 hd]
  · rw [show d.toNat = (d - 1).toNat + 1 by omega, A2 hd]
    simp only [EJ,h]
    rw [A2 hd]
theorem ND (p:Option Addr) (l:l8_) (c:Nat) (refs:Bool) (hc:l.length<=c) (hl:l.length<=100000000) (D:Int) (hD:-9223372036854775808<D/\D<=1000000000) (hO:1<=D->A05 p l c refs (D-1)):A05 p l c refs D:=by
 intro r t w h f ht
 have hr:=h.1
 have hb:=h.2
 obtain ⟨X,hX⟩:=eX (EJ refs l D.toNat t)
 rw [<- hX]
 have hg:l[t]?=some l[t]:=Ak ht
 rw [KB refs l D t l[t] hg] at hX
 obtain ⟨Wd,bp⟩:=eX (EP refs l t)
 have ci:∀ w1,O5 w1 r p l c t refs->Calls Tryz.prog 110 #[ptV r] w1 λe w'=>e=.returned Wd.val/\O5 w' r p l c Wd.np refs/\B8 w1.heap.size r w1 w':=λw1 h1=>by rw [bp];exact QL r p l c t refs w1 h1 f hc hl oO
 rw [<- bp] at hX
 refine AF func79 rfl ntmps79 ?_
 have bq:=B8.refl (w.heap.size) r w
 refine A4<|Bm CA rfl (λb1 cZ aw bt ad cU=>?_)
 have cj:=Bt aw hr.lt
 have ax:=hr.un ad cj
 have b:=λh0=>aw▸hb.lt h0
 have ay:=Cy hb ad b
 have b5:=CW aw bq.size
 have ck:=Bs bq (DC ad b5)
 refine A0<|Ad<|Ad<|DE BS kR<|WQ.p (.mv rfl) rfl<|WQ.p (.nck rfl) rfl<|WQ.p (.fa Cq rfl CZ dD rfl) rfl<|D2 (λm=>Ae (g22_ _) rfl ax rfl) rfl<|WQ.p (.mv rfl) rfl<|WQ.p (.nck rfl) rfl<|WQ.p (.fa Cq rfl BI dD rfl) rfl<|D2 (λm=>Ae (C5 _) rfl ax rfl) rfl<|WQ.p (.ixb B1 EC rfl rfl (ay.isp oO) (t) (rfl) (ht)) rfl<|D2 (λm=>Rd.iis ((l[t].toNat:Int)) (BG (IU _) rfl ((ay.drewN m).cells (t) (ht))) oO) rfl<|WQ.p (.as rfl) rfl<|CO (λw7 aq=>?_)
 have g:=ax.drew aq
 have F:=bt.drew aq
 have G:=ay.drew aq
 have a:=Bs ck (KU aq)
 refine A4<|A3 rfl<|A0<|AT<|A4<|A1 (.eql rfl rfl)<|A8 rfl<|Ai rfl (λaz=>?_) (λaz=>?_)
 have bu:=dT az
 have aA:l[t]=47:=Cf aS
 rw [A5 aA] at hX
 refine A4<|A3 rfl<|A1 (.nck rfl)<|A1 (.fa Cq rfl BI dD rfl)<|Aj (Ae (C5 _) rfl g rfl)<|A1 (.iis (((t+1:Nat):Int)) (.add rfl rfl (Bb oO)) oO)<|A1 (.nck rfl)<|A1 (.fa Cq rfl BI dD rfl)<|BA BI rfl rfl rfl g (by exact Nat.le_of_ble_eq_true rfl) (λcl N i cL=>?_)
 have N:B4 cl r _ _:=N
 have i:CP r _ _:=i
 have aB:=F.up i
 have bv:=Af.upd G i f
 have P:=Bs a (Bk i)
 refine A0<|A4<|A3 rfl<|Ch BQ rfl rfl ((QN r p l c (t+1) refs _ ⟨N,bv⟩ f hc hl oO)) (λcm cn Q u=>?_) (λco cn Q u=>?_)
 have aC:=Bs P (EN u P.size)
 exact Bx (Ho cm (by rw [hX];unfold La;rw [Q]) aC)
 have bw:=u.1.1
 have bz:=Gd aB u.2 aB.lt oO
 have bA:=u.1.2
 have bB:=Bs P (EN u.2 P.size)
 have a9:=Q
 obtain ⟨sN,tN⟩:=co
 refine A1 (.buildL (ps:=_) Ec rfl rfl rfl pS) ?_
 refine Az rfl rfl bz Ah rfl rfl (λc' b6 U cM=>?_)
 have bC:=bw.up U
 have bD:=Cy bA U b
 have bE:=Bs bB (DC U oO)
 refine A0<|AU (BD rfl rfl (Ba b6 Av rfl Ah)  ?_)
 exact LH (IL 4 0 sN,tN) _ (by rw [hX];unfold La;rw [a9]) rfl ⟨DR 4 0 sN,rfl,BJ.zero _ _ _ _ _,⟨bC,bD⟩,bE⟩
 have bu:=dF az
 have aA:l[t]≠47:=D6 (d:=47) aS
 rw [A2 aA] at hX
 refine A4<|A1 (.eql rfl rfl)<|A8 rfl<|Ai rfl (λaD=>?_) (λaD=>?_)
 have bG:=dT aD
 have aE:l[t]=91:=Cf aS
 rw [A5 aE] at hX
 refine Ad<|A4<|A3 rfl<|A1 (.lss rfl rfl)<|A0<|Ai rfl (λaF=>?_) (λaF=>?_)
 have bH:=dT aF
 refine An<|F5 BQ rfl ((CG 25 _)) (λd0 bI=>?_)
 obtain rfl:=bI
 exact Bx (Ho 25 (by rw [hX,A5 oO]) a)
 have bH:=dF aF
 refine As<|A4<|A3 rfl<|A1 (.nck rfl)<|A1 (.fa Cq rfl BI dD rfl)<|Aj (Ae (C5 _) rfl g rfl)<|A1 (.iis (((t+1:Nat):Int)) (.add rfl rfl (Bb oO)) oO)<|A1 (.nck rfl)<|A1 (.fa Cq rfl BI dD rfl)<|BA BI rfl rfl rfl g (by exact Nat.le_of_ble_eq_true rfl) (λcq V j cN=>?_)
 have V:B4 cq r _ _:=V
 have j:CP r _ _:=j
 have ae:=F.up j
 have bJ:=Af.upd G j f
 have H:=Bs a (Bk j)
 refine A0<|A4<|A3 rfl<|A3 rfl<|A1 (.sub rfl rfl (Bb oO))<|EE BQ rfl rfl ((WU p l c refs (D-1) (hO oO) (SZ refs l _) r (t+1) _ ⟨V,bJ⟩ f hl oO)) (λcr ct Y af=>?_) (λcu d1 ct Y af=>?_)
 have aG:=Bs H (EN af H.size)
 exact Bx (Ho cr (by rw [hX,A2 oO,Y]) aG)
 have aH:=Y
 obtain ⟨oX,tX⟩:=cu
 obtain ⟨x1,rfl,aI,J,aa⟩:=af
 have ag:=aI.mono (T:=λk=>b1<k/\w.heap.size<=k) (λk hk _=>by have h1:=(ae).lt;have h2:=H.size;omega)
 have ah:=Gd ae aa (ae).lt oO
 have aJ:=Bs H (EN aa H.size)
 have aK:=J.1
 have aL:=J.2
 refine Az rfl rfl ah Ah rfl rfl (λcv b7 B cO=>?_)
 have bK:=BJ.same (w1:=cv) ag (λk hk hl=>B.other k oM)
 have bL:=aK.upd B oM
 have bM:=Cy aL B b
 have bN:=Bs aJ (DC B oO)
 refine A0<|AU (BD rfl rfl (Ba b7 Av rfl Ah)  ?_)
 exact LH (oX,tX) _ (by rw [hX,A2 oO,aH]) rfl ⟨x1,rfl,(bK).mono (λk hk _=>hk.2),⟨bL,bM⟩,bN⟩
 have bG:=dF aD
 have aE:l[t]≠91:=D6 (d:=91) aS
 rw [A2 aE] at hX
 refine A4<|A1 (.eql rfl rfl)<|A8 rfl<|Ai rfl (λaM=>?_) (λaM=>?_)
 have bO:=dT aM
 have aN:l[t]=40:=Cf aS
 rw [A5 aN] at hX
 refine A4<|A3 rfl<|Ch BQ rfl rfl ((QM r p l c t refs _ ⟨g,G⟩ f hc hl ht)) (λcw cy a0 v=>?_) (λcz cy a0 v=>?_)
 have aO:=Bs a (EN v a.size)
 exact Bx (Ho cw (by rw [hX];unfold I4;rw [a0]) aO)
 have bP:=v.1.1
 have bQ:=Gd F v.2 F.lt oO
 have bR:=v.1.2
 have bS:=Bs a (EN v.2 a.size)
 have a9:=a0
 obtain ⟨sN,tN⟩:=cz
 refine Az rfl rfl bQ Ah rfl rfl (λd2 b8 a1 cP=>?_)
 have bT:=bP.up a1
 have bU:=Cy bR a1 b
 have bV:=Bs bS (DC a1 oO)
 refine A0<|AU (BD rfl rfl (Ba b8 Av rfl Ah)  ?_)
 exact LH (IL 5 0 sN,tN) _ (by rw [hX];unfold I4;rw [a9]) rfl ⟨DR 5 0 sN,rfl,BJ.zero _ _ _ _ _,⟨bT,bU⟩,bV⟩
 have bO:=dF aM
 have aN:l[t]≠40:=D6 (d:=40) aS
 rw [A2 aN] at hX
 refine A4<|A1 (.eql rfl rfl)<|A8 rfl<|Ai rfl (λaP=>?_) (λaP=>?_)
 have bW:=dT aP
 have aQ:l[t]=60:=Cf aS
 rw [A5 aQ] at hX
 refine Ad<|Ad<|DE BS kR<|WQ.p (.mv rfl) rfl<|WQ.p (.nck rfl) rfl<|WQ.p (.fa Cq rfl BI dD rfl) rfl<|D2 (λm=>Ae (C5 _) rfl g rfl) rfl<|WQ.p (.iis ((t:Int)+1) (.add rfl rfl (Bb oO)) oO) rfl<|WQ.p (.mv rfl) rfl<|WQ.p (.nck rfl) rfl<|WQ.p (.fa Cq rfl CZ dD rfl) rfl<|D2 (λm=>Ae (g22_ _) rfl g rfl) rfl<|WQ.p (.lenS B1 rfl) rfl<|WQ.p (.geq rfl rfl) rfl<|CO (λd3 a2=>?_)
 have ai:=g.drew a2
 have bX:=F.drew a2
 have aj:=G.drew a2
 have aR:=Bs a (KU a2)
 refine Ai rfl (λaT=>?_) (λaT=>?_)
 have bY:=dT aT
 refine An<|F5 BQ rfl ((CG 24 _)) (λd4 bZ=>?_)
 obtain rfl:=bZ
 exact Bx (Ho 24 (by rw [hX,A5 oO]) aR)
 have bY:=dF aT
 have b':t+1<l.length:=by omega
 have ab:l[t+1]?=some l[t+1]:=Ak b'
 refine As<|Ad<|Ad<|DE BS kR<|WQ.p (.mv rfl) rfl<|WQ.p (.nck rfl) rfl<|WQ.p (.fa Cq rfl CZ dD rfl) rfl<|D2 (λm=>Ae (g22_ _) rfl ai rfl) rfl<|WQ.p (.mv rfl) rfl<|WQ.p (.nck rfl) rfl<|WQ.p (.fa Cq rfl BI dD rfl) rfl<|D2 (λm=>Ae (C5 _) rfl ai rfl) rfl<|WQ.p (.iis (((t+1:Nat):Int)) (.add rfl rfl (Bb oO)) oO) rfl<|WQ.p (.ixb B1 EC rfl rfl (aj.isp oO) (t+1) oO oO) rfl<|D2 (λm=>BG (IU _) rfl ((aj.drewN m).cells (t+1) oO)) rfl<|WQ.p (.neq rfl rfl) rfl<|CO (λd5 a3=>?_)
 have ak:=ai.drew a3
 have am:=bX.drew a3
 have aU:=aj.drew a3
 have x:=Bs aR (KU a3)
 refine Ai rfl (λaV=>?_) (λaV=>?_)
 have c0:=ndT aV
 refine A4<|A3 rfl<|Ch BQ rfl rfl ((QM r p l c t refs _ ⟨ak,aU⟩ f hc hl ht)) (λcA cB a4 y=>?_) (λcC cB a4 y=>?_)
 have aW:=Bs x (EN y x.size)
 exact Bx (Ho cA (by rw [hX,A2 oO,A5 (by rw [ab];exact λe=>D6 (d:=60) aS (Bi e))];unfold I4;rw [a4]) aW)
 have c2:=y.1.1
 have c3:=Gd am y.2 am.lt oO
 have c4:=y.1.2
 have c5:=Bs x (EN y.2 x.size)
 have a9:=a4
 obtain ⟨sN,tN⟩:=cC
 refine Az rfl rfl c3 Ah rfl rfl (λd6 b9 a5 cQ=>?_)
 have c6:=c2.up a5
 have c7:=Cy c4 a5 b
 have c8:=Bs c5 (DC a5 oO)
 refine A0<|AU (BD rfl rfl (Ba b9 Av rfl Ah)  ?_)
 exact LH (IL 5 0 sN,tN) _ (by rw [hX,A2 oO,A5 (by rw [ab];exact λe=>D6 (d:=60) aS (Bi e))];unfold I4;rw [a9]) rfl ⟨DR 5 0 sN,rfl,BJ.zero _ _ _ _ _,⟨c6,c7⟩,c8⟩
 have c0:=ndF aV
 refine As<|Ad<|A4<|A3 rfl<|A1 (.lss rfl rfl)<|A0<|Ai rfl (λaX=>?_) (λaX=>?_)
 have c9:=dT aX
 refine An<|F5 BQ rfl ((CG 25 _)) (λd7 ca=>?_)
 obtain rfl:=ca
 exact Bx (Ho 25 (by rw [hX,A2 oO,A2 (λe=>e (by rw [ab,show l[t+1]=60 from Cf (d:=60) aS])),A5 oO]) x)
 have c9:=dF aX
 refine As<|A4<|A3 rfl<|A1 (.nck rfl)<|A1 (.fa Cq rfl BI dD rfl)<|Aj (Ae (C5 _) rfl ak rfl)<|A1 (.iis (((t+2:Nat):Int)) (.add rfl rfl (Bb oO)) oO)<|A1 (.nck rfl)<|A1 (.fa Cq rfl BI dD rfl)<|BA BI rfl rfl rfl ak (by exact Nat.le_of_ble_eq_true rfl) (λcD a6 o cR=>?_)
 have a6:B4 cD r _ _:=a6
 have o:CP r _ _:=o
 have an:=am.up o
 have cb:=Af.upd aU o f
 have K:=Bs x (Bk o)
 refine A0<|A4<|A3 rfl<|A3 rfl<|A1 (.sub rfl rfl (Bb oO))<|EE BQ rfl rfl ((UF p l c refs (D-1) (hO oO) (SZ refs l _) r (t+2) _ ⟨a6,cb⟩ f hc hl oO)) (λcE cF a7 ao=>?_) (λcG d8 cF a7 ao=>?_)
 have aY:=Bs K (EN ao K.size)
 exact Bx (Ho cE (by rw [hX,A2 oO,A2 (λe=>e (by rw [ab,show l[t+1]=60 from Cf (d:=60) aS])),A2 oO,a7]) aY)
 have aH:=a7
 obtain ⟨oX,tX⟩:=cG
 obtain ⟨x1,rfl,aI,J,aa⟩:=ao
 have ag:=aI.mono (T:=λk=>b1<k/\w.heap.size<=k) (λk hk _=>by have h1:=(an).lt;have h2:=K.size;omega)
 have ah:=Gd an aa (an).lt oO
 have aJ:=Bs K (EN aa K.size)
 have aK:=J.1
 have aL:=J.2
 refine Az rfl rfl ah Ah rfl rfl (λcH ba C cS=>?_)
 have cc:=BJ.same (w1:=cH) ag (λk hk hl=>C.other k oM)
 have cd:=aK.upd C oM
 have cf:=Cy aL C b
 have cg:=Bs aJ (DC C oO)
 refine A0<|AU (BD rfl rfl (Ba ba Av rfl Ah)  ?_)
 exact LH (oX,tX) _ (by rw [hX,A2 oO,A2 (λe=>e (by rw [ab,show l[t+1]=60 from Cf (d:=60) aS])),A2 oO,aH]) rfl ⟨x1,rfl,(cc).mono (λk hk _=>hk.2),⟨cd,cf⟩,cg⟩
 have bW:=dF aP
 have aQ:l[t]≠60:=D6 (d:=60) aS
 rw [A2 aQ] at hX
 refine As<|A4<|A3 rfl<|Au (ci _ ⟨g,G⟩) (λd9 a8=>?_)
 have aZ:=a8.1.1
 have a':=Gd F a8.2 F.lt oO
 have b0:=a8.1.2
 have ar:=Bs a (EN a8.2 a.size)
 refine A3 rfl<|A1 (.ext rfl rfl)<|A1 (.ext rfl rfl)<|A1 (.ext rfl rfl)<|Bm CA rfl (λcV cT E b2 q cI=>?_)
 have bb:=Bt E aZ.lt
 have bc:=aZ.un q bb
 have bd:=Bt E a'.lt
 have be:=a'.un q bd
 have ac:=λh0=>E▸b0.lt h0
 have bf:=Cy b0 q ac
 have av:=CW E ar.size
 have bg:=Bs ar (DC q av)
 refine Az rfl rfl b2 Ah rfl rfl (λcW b3 s cJ=>?_)
 have bh:=bc.up s
 have bi:=be.up s
 have bj:=Cy bf s ac
 have au:=Bs bg (DC s oO)
 refine CL rfl<|A8 rfl<|Ad<|A4<|A3 rfl<|A1 (.not rfl)<|A0<|Ai rfl (λap=>?_) (λap=>?_)
 have bk:=(nT ap)
 refine An<|F5 BQ rfl ((CG 23 _)) (λcX bl=>?_)
 obtain rfl:=bl
 exact Bx (Ho 23 (by rw [hX];unfold FT;rw [A2 (bF aS)]) au)
 have bk:=(nF ap)
 refine As<|A4<|Aj (Bd rfl b3 Av rfl Ah)<|Az rfl rfl bi Ah rfl rfl (λcY b4 L cK=>?_)
 have bm:=bh.up L
 have bn:=Cy bj L b
 have bo:=Bs au (DC L oO)
 refine A0<|AU (BD rfl rfl (Ba b4 Av rfl Ah)  ?_)
 exact LH (IL Wd.kind Wd.n [],Wd.np) _ (by rw [hX];unfold FT;rw [A5 aS]) rfl ⟨DR Wd.kind Wd.n [],rfl,BJ.zero _ _ _ _ _,⟨bm,bn⟩,bo⟩
end
section
theorem PI (p:Option Addr) (l:l8_) (c:Nat) (refs:Bool) (hc:l.length<=c) (hl:l.length<=100000000):∀ (n:Nat) (D:Int),D.toNat<=n->-9223372036854775808<D/\D<=1000000000->A05 p l c refs D
 | 0,D,hn,hD=>ND p l c refs hc hl D hD λh=>by omega
 | n+1,D,hn,hD=>ND p l c refs hc hl D hD λh=>PI p l c refs hc hl n (D-1) oO oO
def LR (k:Int):Prop:=k=23\/k=24\/k=25
theorem LR.ne {k:Int} (h:LR k):k≠0:=by unfold LR at h;omega
theorem QW  {t:Nat} {k:Int} (h:Iz l t=.error k):LR k:=by
 unfold Iz at h
 split at h
 · cases h;exact .inl rfl
 ·
  split at h
  · cases h;exact .inl rfl
  ·
   split at h
   · cases h;exact .inr (.inr rfl)
   · cases h
theorem Wo  {t:Nat} {k:Int} (h:JP l t=.error k):LR k:=by
 unfold JP at h
 split at h
 · cases h;exact .inr (.inl rfl)
 ·
  split at h
  · cases h;exact .inr (.inr rfl)
  ·
   split at h
   · cases h;exact .inl rfl
   · cases h
theorem QX {obj:Nat->MA} {l:l8_} (hobj:∀ t k,obj t=.error k->LR k):∀ (f:Nat) (acc:List PV) (t:Nat) (k:Int),Ic obj l f acc t=.error k->LR k
 | 0,_,_,_,h=>by cases h;exact .inr (.inl rfl)
 | f+1,acc,t,k,h=>by
  simp only [Ic] at h
  split at h
  · cases h;exact .inr (.inl rfl)
  ·
   split at h
   · cases h
   ·
    split at h
    · cases h;exact .inr (.inr rfl)
    ·
     split at h
     · next ho=>cases h;exact hobj _ _ ho
     · exact QX hobj f _ _ _ h
theorem P2 {obj:Nat->MA} {l:l8_} (hobj:∀ t k,obj t=.error k->LR k):∀ (f:Nat) (ks:List (l8_)) (acc:List PV) (t:Nat) (k:Int),Gb obj l f ks acc t=.error k->LR k
 | 0,_,_,_,_,h=>by cases h;exact .inr (.inl rfl)
 | f+1,ks,acc,t,k,h=>by
  simp only [Gb] at h
  split at h
  · cases h;exact .inr (.inl rfl)
  ·
   split at h
   · cases h;exact .inr (.inl rfl)
   ·
    split at h
    · cases h
    ·
     split at h
     · cases h;exact .inl rfl
     ·
      split at h
      · next hn=>cases h;exact QW hn
      ·
       split at h
       · cases h;exact .inl rfl
       ·
        split at h
        · cases h;exact .inr (.inr rfl)
        ·
         split at h
         · cases h;exact .inr (.inl rfl)
         ·
          split at h
          · next ho=>cases h;exact hobj _ _ ho
          · exact P2 hobj f _ _ _ _ h
theorem SY (refs:Bool) (l:l8_):∀ (d t:Nat) (k:Int),EJ refs l d t=.error k->LR k:=by
 have b:∀ t (k:Int),La l t=.error k->LR k:=λt k h=>by
  unfold La at h
  split at h
  · next hn=>cases h;exact QW hn
  · cases h
 have c:∀ t (k:Int),I4 l t=.error k->LR k:=λt k h=>by
  unfold I4 at h
  split at h
  · next hn=>cases h;exact Wo hn
  · cases h
 have a:∀ t (k:Int),FT (EP refs l t)=.error k->LR k:=λt k h=>by
  unfold FT at h
  split at h
  · cases h
  · cases h;exact .inl rfl
 intro d
 induction d with
 | zero =>
  intro t k h
  simp only [EJ] at h
  repeat' split at h
  all_goals first | exact b _ _ h | exact c _ _ h | exact a _ _ h | (cases h;first | exact .inl rfl | exact .inr (.inl rfl) | exact .inr (.inr rfl))
 | succ d ih =>
  have f:∀ t (k:Int),Ph (Ic (EJ refs l d) l (l.length+1) [] t)=.error k->LR k:=λt k h=>by
   unfold Ph at h
   split at h
   · next hn=>cases h;exact QX ih _ _ _ _ hn
   · cases h
  have e:∀ t (k:Int),Ls (Gb (EJ refs l d) l (l.length+1) [] [] t)=.error k->LR k:=λt k h=>by
   unfold Ls at h
   split at h
   · next hn=>cases h;exact P2 ih _ _ _ _ _ hn
   · cases h
  intro t k h
  simp only [EJ] at h
  repeat' split at h
  all_goals first | exact b _ _ h | exact c _ _ h | exact a _ _ h | exact f _ _ h | exact e _ _ h | (cases h;first | exact .inl rfl | exact .inr (.inl rfl) | exact .inr (.inr rfl))
def OE (l:l8_) (a:Int):PV × l8_ × Int × Int :=
 if a<0\/(l.length:Int)<a then (IL 0 0 [],[],0,21)
 else if h:AW false l a.toNat<l.length then
  (if D1 l[AW false l a.toNat] then
   (IL (EP false l (AW false l a.toNat)).kind (EP false l (AW false l a.toNat)).n [],if (EP false l (AW false l a.toNat)).ok then [] else (EP false l (AW false l a.toNat)).word,(EP false l (AW false l a.toNat)).np,0)
  else match EJ false l 32 (AW false l a.toNat) with
   | .ok (o,t')=>(o,[],t',0)
   | .error k=>(IL 0 0 [],[],0,k))
 else (IL 0 0 [],[],0,26)
def A4s (B:Nat) (R:PV × l8_ × Int × Int) (e:Ending) (w':World):Prop :=
 ∃ x:PC,e=.returned (.tuple #[.agg (VF x).toArray,.string (bs R.2.1),Ag R.2.2.1,Ag R.2.2.2])/\BJ w' (λk=>B<=k) x R.1
section
variable {P:Program} {fn:Func} {f:Fr} {w:World}
theorem C4 {a b c d:Tmp} {tc td:TypeId} {pc pd:Addr} {x y:Value} (hr:fn.results=#[.cell a ta,.cell b tb,.cell c tc,.cell d td]) (ha:look f a=some (.pointer (some pa))) (hb:look f b=some (.pointer (some pb))) (hc:look f c=some (.pointer (some pc))) (hd:look f d=some (.pointer (some pd)))
  (hx:(loadVar ta pa).run P w=.ok x w) (hy:(loadVar tb pb).run P w=.ok y w) (hz:(loadVar tc pc).run P w=.ok z w) (hu:(loadVar td pd).run P w=.ok u w):CK P fn f w (.tuple #[x,y,z,u]):=λtmps hh=>by
 have e1:=hh _ _ ha;have e2:=hh _ _ hb;have e3:=hh _ _ hc;have e4:=hh _ _ hd
 simp only [AD] at e1 e2 e3 e4
 simp [results,hr,e1,e2,e3,e4,asAddr,hx,hy,hz,hu]
end
theorem Dq (b1 b2 b3 b5:Nat) (w:World) (h:B4 w b5 #[Ag 0] 35) :
  CallsD Tryz.prog 187 #[ptV b5,ptV b1,ptV b2,ptV b3] .returning w λe u' w'=>u'=.returning/\(∃ v,e=.returned v)/\w'=w:=by
 refine Et func187 rfl ntmps187 bL rfl<|Au (R3 _ _) (λb a=>?_)
 obtain rfl:=a
 refine A0<|A4<|Aj (Ae (Eh _) rfl h rfl)<|A1 (.neq rfl rfl)<|A0<|Ay rfl rfl<|As<|D9 (CU rfl ?_)
 exact ⟨⟨_,rfl⟩,rfl⟩
theorem U2 (b1 b2 b3 b5 B:Nat) (c0 c1 c2 c3 c4 c5:Value) (s:l8_) (i j k:Int) (w:World) (h1:B4 w b1 [c0,c1,c2,c3,c4,c5].toArray 27) (h2:B4 w b2 #[.string (bs s)] 9) (h3:B4 w b3 #[Ag i] 3) (h5:B4 w b5 #[Ag j] 35) (hB1:B<=b1) (h12:b1<b2) (h23:b2<b3) (h35:b3<b5) (hk:k≠0) :
  CallsD Tryz.prog 187 #[ptV b5,ptV b1,ptV b2,ptV b3] (.panicking [{ v:=.iface 35 (Ag k),recovered:=false }]) w
   λe u' w'=>u'=.panicking [{ v:=.iface 35 (Ag k),recovered:=true }]/\(∃ v,e=.returned v) /\
    B4 w' b1 (Q6 0 0 []).toArray 27/\B4 w' b2 #[.string (bs [])] 9/\B4 w' b3 #[Ag 0] 3/\B4 w' b5 #[Ag k] 35/\Below B w w':=by
 refine Et func187 rfl ntmps187 bL rfl ?_
 have y:=Fl (B) w
 refine Cs BQ rfl rfl ((R4 b5 B _ k _ h5 oO)) (λQ A=>?_)
 obtain ⟨h,g⟩:=A
 have hb1:=(h1).upd g oO
 have hb2:=(h2).upd g oO
 have hb3:=(h3).upd g oO
 have C:=BR y oO g
 refine A0<|A4<|Aj (Ae (Eh _) rfl h rfl)<|A1 (.bis (true) (.neq rfl rfl) (by simp [hk]))<|A0<|BZ rfl rfl ?_
 refine An<|A1 (.buildL (ps:=_) Ec rfl rfl rfl pZ) ?_
 refine Az rfl rfl hb1 Ah rfl rfl (λT l c M=>?_)
 have D:=h.upd c oM
 have E:=hb2.upd c oM
 have F:=hb3.upd c oM
 have G:=BR C oO c
 refine BA FP rfl rfl rfl E (by exact Nat.le_of_ble_eq_true rfl) (λN f b P=>?_)
 have f:B4 N b2 _ _:=f
 have b:CP b2 _ _:=b
 have H:=D.up b
 have J:=l.up b
 have m:=F.up b
 have o:=BR G oO b
 refine BA BI rfl rfl rfl m (by exact Nat.le_of_ble_eq_true rfl) (λK d a L=>?_)
 have d:B4 K b3 _ _:=d
 have a:CP b3 _ _:=a
 have q:=H.up a
 have t:=J.up a
 have u:=f.up a
 have x:=BR o oO a
 refine A0<|D9 (CU rfl ?_)
 exact ⟨⟨_,rfl⟩,t,u,d,q,x⟩
end
section
theorem UG (p:Option Addr) (l:l8_) (c:Nat) (a:Int) (w:World) (hb:Af w p l) (hc:l.length<=c) (hl:l.length<=100000000) :
    Calls Tryz.prog 164 #[.slice p l.length c,Ag a] w λe w'=>A4s w.heap.size (OE l a) e w'/\AL w w':=by
  obtain ⟨R,hR⟩:=eX (OE l a);rw [<- hR];unfold OE at hR;obtain ⟨t,ht⟩:=eX (AW false l (Iq l a));have eY:∀ w1,Af w1 p l->Calls Tryz.prog 53 #[.slice p l.length c,Ag a] w1 λe w'=>e=.returned (Ag (t:Int))/\w1=w':=λw1 h1=>by rw [ht];exact J0 p l c a w1 h1 hl
  have hD:t<=l.length:=by rw [ht];exact E3 _ _ _
  have eZ:¬ (a<0\/(l.length:Int)<a)->AW false l a.toNat=t:=λh=>by rw [ht];unfold Iq;rw [A2 h]
  obtain ⟨X,hX⟩:=eX (EP false l t);have e':∀ r w1,O5 w1 r p l c t false->(0<l.length->(pA p).block≠r)->Calls Tryz.prog 110 #[ptV r] w1 λe w'=>e=.returned X.val/\O5 w' r p l c X.np false/\B8 w1.heap.size r w1 w':=λr w1 h1 h2=>by rw [hX];exact QL r p l c t false w1 h1 h2 hc hl oO
  refine Hk func164 rfl ntmps164 bL ?_;refine WD.seq<|An<|Bm CA rfl (λy hE e4 d3 d4 gH=>?_);have d5:=λh0=>e4▸hb.lt h0
  have e5:=Cy hb d4 d5;refine Bm z9_ rfl (λb hF d6 d7 cz gI=>?_);have f0:=Bt d6 d3.lt;have e6:=d3.un cz f0;have cA:=λh0=>d6▸e5.lt h0
  have e7:=Cy e5 cz cA;refine Bm z3_ rfl (λg gJ bO cF bh gt=>?_);have e8:=Bt bO e6.lt;have d8:=e6.un bh e8;have e9:=Bt bO d7.lt;have d9:=d7.un bh e9;have dO:=λh0=>bO▸e7.lt h0
  have da:=Cy e7 bh dO;have db:=uB (uB (uB (Dh w) e4 d4) d6 cz) bO bh;refine Bm Sk rfl (λi gK bb bi ar gv=>?_);have ea:=Bt bb d8.lt;have bP:=d8.un ar ea;have eb:=Bt bb d9.lt;have bQ:=d9.un ar eb;have ec:=Bt bb cF.lt;have bR:=cF.un ar ec;have dP:=λh0=>bb▸da.lt h0
  have cB:=Cy da ar dP;have cC:=uB db bb ar;have f1:=CW bb db.size;refine A0<|WD.seq<|FG 17 (decide (a<0\/(l.length:Int)<a)) ?_ ?_;refine An<|A3 rfl<|A1 (.lss rfl rfl)<|A3 rfl<|Cc rfl rfl rfl (λa4=>?_) (λa4=>?_)
  · have ed := dF a4
    refine A3 rfl<|AE a4<|A3 rfl<|AE a4<|A1 (.lenS B1 rfl)<|AE a4<|A1 (.gtr rfl rfl)<|A1 (.pkF rfl a4 rfl)<|A0<|?_;exact ⟨GC (DI rfl (by (simp;omega))),rfl⟩
  have ed:=dT a4;refine B6 a4<|B6 a4<|B6 a4<|A1 (.pkT rfl a4 rfl)<|A0<|?_;exact ⟨GC (DI rfl (by (simp;omega))),rfl⟩;refine TG rfl (λee=>?_) (λee=>?_)
  · skip
    rw [A5 aS] at hR;subst hR;refine A4<|A1 (.buildL (ps:=_) Ec rfl rfl rfl pZ) ?_;refine Az rfl rfl bP Ah rfl rfl (λhG dQ bj gw=>?_);refine C2 (bQ.up bj) FP (λhH dR bk gx=>?_);refine C2 ((bR.up bj).up bk) BI (λhI dS bl gz=>?_);refine C2 (((bi.up bj).up bk).up bl) Fd (λhJ dU bm gA=>?_);have cD:=(dR.up bl).up bm;refine A0<|AU ?_;exact FI (C4 rfl rfl rfl rfl rfl (Ba (((dQ.up bk).up bl).up bm) Av rfl Ah) (B2 cD (FU _) rfl) (B2 (dS.up bm) (C5 _) rfl) (B2 dU (Eh _) rfl)) ⟨⟨DR 0 0 [],AQ rfl,BJ.zero _ _ _ _ _⟩,(BR (BR (BR (BR cC oO bj) oO bk) oO bl) oO bm)⟩
  rw [A2 aS,eZ aS] at hR;refine As<|WD.seq<|An<|A3 rfl<|A3 rfl<|Au (eY _ cB) (λhK ef=>?_);obtain rfl:=ef;refine A8 rfl<|WD.seq<|A4<|A3 rfl<|A3 rfl<|A1 (.lenS B1 rfl)<|A1 (.eql rfl rfl)<|A0<|TG rfl (λeg=>?_) (λeg=>?_)
  · skip
    rw [dif_neg oO] at hR;subst hR;refine A4<|A1 (.buildL (ps:=_) Ec rfl rfl rfl pZ) ?_;refine Az rfl rfl bP Ah rfl rfl (λhL dV bn gB=>?_);refine C2 (bQ.up bn) FP (λhM dW bo gC=>?_);refine C2 ((bR.up bn).up bo) BI (λhN dX bp gD=>?_);have cE:=dW.up bp;refine C2 (((bi.up bn).up bo).up bp) Fd (λhO dY bq gE=>?_);refine A0<|AU ?_;exact FI (C4 rfl rfl rfl rfl rfl (Ba (((dV.up bo).up bp).up bq) Av rfl Ah) (B2 (cE.up bq) (FU _) rfl) (B2 (dX.up bq) (C5 _) rfl) (B2 dY (Eh _) rfl)) ⟨⟨DR 0 0 [],AQ rfl,BJ.zero _ _ _ _ _⟩,(BR (BR (BR (BR cC oO bn) oO bo) oO bp) oO bq)⟩
  have bS:t<l.length:=by omega
  rw [dif_pos bS] at hR;refine As<|WD.defer rfl rfl<|NN<|A4<|A3 rfl<|A3 rfl<|?_;refine A1 (.buildL (ps:=_) ZG rfl rfl rfl pS) ?_;refine WL.box rfl rfl (λc5 gL bc bT am gF=>?_);have eh:=Bt bc bP.lt;have bd:=bP.un am eh;have ei:=Bt bc bQ.lt;have be:=bQ.un am ei;have ej:=Bt bc bR.lt;have bf:=bR.un am ej;have ek:=Bt bc bi.lt;have bg:=bi.un am ek;have dZ:=λh0=>bc▸cB.lt h0
  have bU:=Cy cB am dZ;have ap:=uB cC bc am;refine A8 rfl<|Ad<|A4<|A3 rfl<|A3 rfl<|A1 (.ixb B1 EC rfl rfl (bU.isp oO) (t) (rfl) (bS))<|Aj (BG (IU _) rfl (bU.cells (t) (bS)))<|Au (Me _ _) (λhP el=>?_);obtain rfl:=el;refine A1 (.not rfl)<|A0<|Ai rfl (λdc=>?_) (λdc=>?_)
  · have em := (nT dc)
    refine A4<|A3 rfl<|EE BQ rfl rfl ((PI p l c false hc hl 32 32 dD dD c5 t _ ⟨bT,bU⟩ (λh0=>by have:=hb.lt h0;omega) bS)) (λf2 f3 au aq=>?_) (λf4 hQ f3 au aq=>?_);exact HQ Gi (λw'=>_) (U2 y b g i w.heap.size _ _ _ _ _ _ [] _ _ f2 _ (Gd bd aq (bd).lt oO) (Gd be aq (be).lt oO) (Gd bf aq (bf).lt oO) (Gd bg aq (bg).lt oO) oO oO oO oO (SY false l _ _ _ au).ne)
      (λw' hS=>⟨_,C4 rfl rfl rfl rfl rfl (Ba hS.1 Av rfl Ah) (B2 hS.2.1 (FU _) rfl) (B2 hS.2.2.1 (C5 _) rfl) (B2 hS.2.2.2.1 (Eh _) rfl),⟨DR 0 0 [],AQ (by rw [hR,A2 (bF (nT aS)),show EJ false l 32 t=_ from au];rfl),by rw [hR,A2 (bF (nT aS)),show EJ false l 32 t=_ from au];exact BJ.zero _ _ _ _ _⟩,(Ex ap (B8.below aq ap.size oO)).trans hS.2.2.2.2⟩)
    have f5:=au;obtain ⟨oX,tX⟩:=f4;obtain ⟨x1,rfl,f6,en,c6⟩:=aq;have eo:=f6.mono (T:=λk=>c5<k/\w.heap.size<=k) (λk hk _=>by have h1:=(bT).lt;have h2:=ap.size;omega);have cD:=Gd be c6 (be).lt oO;have cE:=Gd bg c6 (bg).lt oO;have f7:=en.1;rw [A2 (bF (nT aS)),show EJ false l 32 t=_ from f5] at hR;subst hR;refine Az rfl rfl (Gd bd c6 (bd).lt oO) Ah rfl rfl (λf8 d' an gG=>?_);refine A0<|Ad<|LN<|F2 9 rfl BS (λep a2=>?_);have bV:=BJ.same (w1:=ep) (BJ.same (w1:=f8) eo (λk hk hl=>an.other k oM)) (λk hk hl=>(by obtain ⟨m,rfl⟩:=a2;rfl));have av:=d'.drew a2;have bW:=(cD.up an).drew a2;have bX:=((Gd bf c6 (bf).lt oO).up an).drew a2;have bY:=(cE.up an).drew a2;have bZ:=(f7.upd an oM).drew a2;have b':=Cn.below (BR (Ex ap (B8.below c6 ap.size oO)) oO an) a2;refine AB 1 rfl (.mv rfl) rfl<|AB 2 rfl (.nck rfl) rfl<|AB 3 rfl (.fa Cq rfl BI dD rfl) rfl<|Ct 0 rfl 4 rfl ?_ ?_;refine Aj (Bd rfl av Av rfl Ah)<|A0<|Ct 4 rfl 5 rfl ?_ ?_;refine Aj (Ae (C5 _) rfl bZ rfl)<|A0<|Ao 5 rfl<|Az rfl rfl av Ah rfl rfl (λeq dd a5 f9=>?_);refine A0<|Ao 6 rfl<|C2 (bW.up a5) FP (λer de a6 fb=>?_);refine A0<|Ao 7 rfl<|C2 ((bX.up a5).up a6) BI (λes df a7 fc=>?_);refine A0<|Ao 8 rfl<|C2 (((bY.up a5).up a6).up a7) Fd (λet c7 a8 fd=>?_);have e0:=BJ.same (w1:=et) (BJ.same (w1:=es) (BJ.same (w1:=er) (BJ.same (w1:=eq) bV (λk hk hl=>a5.other k oM)) (λk hk hl=>a6.other k oM)) (λk hk hl=>a7.other k oM)) (λk hk hl=>a8.other k oM);refine A0<|Be kR<|AU ?_;exact CX.ret Gi (λw'=>_) (Dq y b g i _ c7) (λw' hS=>by subst hS;exact ⟨_,C4 rfl rfl rfl rfl rfl (Ba (((dd.up a6).up a7).up a8) Av rfl Ah) (B2 ((de.up a7).up a8) (FU _) rfl) (B2 (df.up a8) (C5 _) rfl) (B2 c7 (Eh _) rfl),⟨x1,AQ rfl,(e0).mono (λk hk _=>hk.2)⟩,(BR (BR (BR (BR b' oO a5) oO a6) oO a7) oO a8)⟩)
    refine Az rfl rfl av Ah rfl rfl (λeu c8 B fe=>?_);have cG:=BJ.same (w1:=eu) bV (λk hk hl=>B.other k oM);have cH:=bW.up B;have cI:=bX.up B;have cJ:=bY.up B;have cK:=bZ.up B;have cL:=BR b' oO B;refine A0<|Ct 4 rfl 6 rfl ?_ ?_;refine Aj (Ae (C5 _) rfl cK rfl)<|A0<|Ao 6 rfl<|C2 cH FP (λev dg a9 ff=>?_);refine A0<|Ao 7 rfl<|C2 (cI.up a9) BI (λew dh aa fg=>?_);refine A0<|Ao 8 rfl<|C2 ((cJ.up a9).up aa) Fd (λex c9 ab fh=>?_);have e1:=BJ.same (w1:=ex) (BJ.same (w1:=ew) (BJ.same (w1:=ev) cG (λk hk hl=>a9.other k oM)) (λk hk hl=>aa.other k oM)) (λk hk hl=>ab.other k oM);refine A0<|Be kR<|AU ?_;exact CX.ret Gi (λw'=>_) (Dq y b g i _ c9) (λw' hS=>by subst hS;exact ⟨_,C4 rfl rfl rfl rfl rfl (Ba (((c8.up a9).up aa).up ab) Av rfl Ah) (B2 ((dg.up aa).up ab) (FU _) rfl) (B2 (dh.up ab) (C5 _) rfl) (B2 c9 (Eh _) rfl),⟨x1,AQ rfl,(e1).mono (λk hk _=>hk.2)⟩,(BR (BR (BR cL oO a9) oO aa) oO ab)⟩);refine C2 cH FP (λey di C fi=>?_);refine A0<|Ao 4 rfl<|Aj (Ae (C5 _) rfl (cK.up C) rfl)<|A0<|Ao 7 rfl<|C2 (cI.up C) BI (λez dj ac fj=>?_);refine A0<|Ao 8 rfl<|C2 ((cJ.up C).up ac) Fd (λeA ca ad fk=>?_);have e2:=BJ.same (w1:=eA) (BJ.same (w1:=ez) (BJ.same (w1:=ey) cG (λk hk hl=>C.other k oM)) (λk hk hl=>ac.other k oM)) (λk hk hl=>ad.other k oM);refine A0<|Be kR<|AU ?_;exact CX.ret Gi (λw'=>_) (Dq y b g i _ ca) (λw' hS=>by subst hS;exact ⟨_,C4 rfl rfl rfl rfl rfl (Ba (((c8.up C).up ac).up ad) Av rfl Ah) (B2 ((di.up ac).up ad) (FU _) rfl) (B2 (dj.up ad) (C5 _) rfl) (B2 ca (Eh _) rfl),⟨x1,AQ rfl,(e2).mono (λk hk _=>hk.2)⟩,(BR (BR (BR cL oO C) oO ac) oO ad)⟩);refine Aj (Ae (C5 _) rfl bZ rfl)<|A0<|Ao 0 rfl<|Aj (Bd rfl av Av rfl Ah)<|A0<|Ao 5 rfl<|Az rfl rfl av Ah rfl rfl (λeB dk ae fl=>?_)
    refine A0<|Ao 6 rfl<|C2 (bW.up ae) FP (λeC dl af fm=>?_);refine A0<|Ao 7 rfl<|C2 ((bX.up ae).up af) BI (λeD dm ag fn=>?_);refine A0<|Ao 8 rfl<|C2 (((bY.up ae).up af).up ag) Fd (λeF cb ah fo=>?_);have e3:=BJ.same (w1:=eF) (BJ.same (w1:=eD) (BJ.same (w1:=eC) (BJ.same (w1:=eB) bV (λk hk hl=>ae.other k oM)) (λk hk hl=>af.other k oM)) (λk hk hl=>ag.other k oM)) (λk hk hl=>ah.other k oM);refine A0<|Be kR<|AU ?_;exact CX.ret Gi (λw'=>_) (Dq y b g i _ cb) (λw' hS=>by subst hS;exact ⟨_,C4 rfl rfl rfl rfl rfl (Ba (((dk.up af).up ag).up ah) Av rfl Ah) (B2 ((dl.up ag).up ah) (FU _) rfl) (B2 (dm.up ah) (C5 _) rfl) (B2 cb (Eh _) rfl),⟨x1,AQ rfl,(e3).mono (λk hk _=>hk.2)⟩,(BR (BR (BR (BR b' oO ae) oO af) oO ag) oO ah)⟩)
  have em:=(nF dc);refine As<|A4<|A3 rfl<|Au (e' c5 _ ⟨bT,bU⟩ (λh0=>by have:=hb.lt h0;omega)) (λgM a3=>?_);rw [A5 (nF aS),<- hX] at hR;subst hR;refine A3 rfl<|A1 (.ext rfl rfl)<|A1 (.ext rfl rfl)<|A1 (.ext rfl rfl)<|Az rfl rfl (Gd bd a3.2 bd.lt oO) Ah rfl rfl (λgN dn D fp=>?_);refine C2 ((Gd be a3.2 be.lt oO).up D) FP (λgO cc E fq=>?_);have cM:=dn.up E;have cN:=((Gd bf a3.2 bf.lt oO).up D).up E;have cO:=((Gd bg a3.2 bg.lt oO).up D).up E;have cP:=(a3.1.1.up D).up E;have cQ:=Cy (Cy a3.1.2 D d5) E cA;have cR:=BR (BR (Ex ap (B8.below a3.2 ap.size oO)) oO D) oO E;refine A8 rfl<|Mz (α:=Unit) (λt=>[(4,ptV y),(5,ptV b),(6,ptV g),(7,ptV i),(8,ptV c5)]) (λt w'=>B4 w' y (VF (DR X.kind X.n [])).toArray 27/\B4 w' b #[.string (bs (if X.ok then [] else X.word))] 9/\B4 w' g #[Ag 0] 3/\B4 w' i #[Ag 0] 35/\O5 w' c5 p l c X.np false/\AL w w') ?_ (λt w1 hR=>?_);refine A4<|A3 rfl<|A0<|Ai rfl (λeG=>?_) (λeG=>?_);refine An<|BA FP rfl rfl rfl cc (by exact Nat.le_of_ble_eq_true rfl) (λeH bt s fr=>?_);have bt:B4 eH b _ _:=bt;have s:CP b _ _:=s;refine A0<|?_;exact ⟨(),⟨rfl,rfl,rfl,rfl,rfl,tT⟩,(cM.up s),by rw [show X.ok=_ by assumption];exact bt,(cN.up s),(cO.up s),⟨(cP.up s),(Cy cQ s cA)⟩,(BR cR oO s)⟩;refine As ?_;exact ⟨(),⟨rfl,rfl,rfl,rfl,rfl,tT⟩,cM,by rw [show X.ok=_ by assumption];exact cc,cN,cO,⟨cP,cQ⟩,cR⟩;obtain ⟨fs,ft,fu,fv,fw,fx⟩:=hR
  generalize (if X.ok then [] else X.word)=sX at *;refine Ad<|LN<|F2 10 rfl BS (λgP ao=>?_);have d:=fs.drew ao;have f:=ft.drew ao;have j:=fu.drew ao;have o:=fv.drew ao;have A:=fw.1.drew ao;have q:=Cn.below fx ao;refine AB 2 rfl (.mv rfl) rfl<|AB 3 rfl (.nck rfl) rfl<|AB 4 rfl (.fa Cq rfl BI dD rfl) rfl<|Ri [0,1,5] kR rfl ⟨⟨_,rfl,?_⟩,⟨_,rfl,?_⟩,⟨_,rfl,?_⟩,tT⟩;refine Aj (Bd rfl d Av rfl Ah)<|A0<|Ri [1,5,6] kR rfl ⟨⟨_,rfl,?_⟩,⟨_,rfl,?_⟩,⟨_,rfl,?_⟩,tT⟩;refine Aj (Ae (FU _) rfl f rfl)<|A0<|Ct 5 rfl 6 rfl ?_ ?_;refine Aj (Ae (C5 _) rfl A rfl)<|A0<|Ao 6 rfl<|Az rfl rfl d Ah rfl rfl (λgQ dp aw fy=>?_);refine A0<|Ao 7 rfl<|BA FP rfl rfl rfl (f.up aw) (by exact Nat.le_of_ble_eq_true rfl) (λeI bu F fz=>?_);have bu:B4 eI b _ _:=bu;have F:CP b _ _:=F;refine A0<|Ao 8 rfl<|C2 ((j.up aw).up F) BI (λgR dq ax fA=>?_);refine A0<|Ao 9 rfl<|C2 (((o.up aw).up F).up ax) Fd (λgS cd ay fB=>?_);refine A0<|Be kR<|AU ?_;exact CX.ret Gi (λw'=>_) (Dq y b g i _ cd) (λw' hS=>by subst hS;exact ⟨_,C4 rfl rfl rfl rfl rfl (Ba (((dp.up F).up ax).up ay) Av rfl Ah) (B2 ((bu.up ax).up ay) (FU _) rfl) (B2 (dq.up ay) (C5 _) rfl) (B2 cd (Eh _) rfl),⟨DR X.kind X.n [],AQ rfl,BJ.zero _ _ _ _ _⟩,(BR (BR (BR (BR q oO aw) oO F) oO ax) oO ay)⟩);refine Az rfl rfl d Ah rfl rfl (λgT cf ai fC=>?_);have cS:=f.up ai;have cT:=j.up ai;have cU:=o.up ai;have cV:=A.up ai;have cW:=BR q oO ai;refine A0<|Ct 5 rfl 7 rfl ?_ ?_;refine Aj (Ae (C5 _) rfl cV rfl)<|A0<|Ao 7 rfl<|BA FP rfl rfl rfl cS (by exact Nat.le_of_ble_eq_true rfl) (λeJ bv G fD=>?_);have bv:B4 eJ b _ _:=bv;have G:CP b _ _:=G;refine A0<|Ao 8 rfl<|C2 (cT.up G) BI (λgU dr az fE=>?_)
  refine A0<|Ao 9 rfl<|C2 ((cU.up G).up az) Fd (λgV cg aA fF=>?_);refine A0<|Be kR<|AU ?_;exact CX.ret Gi (λw'=>_) (Dq y b g i _ cg) (λw' hS=>by subst hS;exact ⟨_,C4 rfl rfl rfl rfl rfl (Ba (((cf.up G).up az).up aA) Av rfl Ah) (B2 ((bv.up az).up aA) (FU _) rfl) (B2 (dr.up aA) (C5 _) rfl) (B2 cg (Eh _) rfl),⟨DR X.kind X.n [],AQ rfl,BJ.zero _ _ _ _ _⟩,(BR (BR (BR cW oO G) oO az) oO aA)⟩);refine BA FP rfl rfl rfl cS (by exact Nat.le_of_ble_eq_true rfl) (λeK bw u fG=>?_);have bw:B4 eK b _ _:=bw;have u:CP b _ _:=u;refine A0<|Ao 5 rfl<|Aj (Ae (C5 _) rfl (cV.up u) rfl)<|A0<|Ao 8 rfl<|C2 (cT.up u) BI (λgW ds aB fH=>?_);refine A0<|Ao 9 rfl<|C2 ((cU.up u).up aB) Fd (λgX ci aC fI=>?_);refine A0<|Be kR<|AU ?_;exact CX.ret Gi (λw'=>_) (Dq y b g i _ ci) (λw' hS=>by subst hS;exact ⟨_,C4 rfl rfl rfl rfl rfl (Ba (((cf.up u).up aB).up aC) Av rfl Ah) (B2 ((bw.up aB).up aC) (FU _) rfl) (B2 (ds.up aC) (C5 _) rfl) (B2 ci (Eh _) rfl),⟨DR X.kind X.n [],AQ rfl,BJ.zero _ _ _ _ _⟩,(BR (BR (BR cW oO u) oO aB) oO aC)⟩);refine Aj (Ae (C5 _) rfl A rfl)<|A0<|Ct 1 rfl 6 rfl ?_ ?_;refine Aj (Ae (FU _) rfl f rfl)<|A0<|Ao 6 rfl<|Az rfl rfl d Ah rfl rfl (λgY dt aD fJ=>?_);refine A0<|Ao 7 rfl<|BA FP rfl rfl rfl (f.up aD) (by exact Nat.le_of_ble_eq_true rfl) (λeL bz H fK=>?_);have bz:B4 eL b _ _:=bz;have H:CP b _ _:=H;refine A0<|Ao 8 rfl<|C2 ((j.up aD).up H) BI (λgZ du aE fL=>?_);refine A0<|Ao 9 rfl<|C2 (((o.up aD).up H).up aE) Fd (λg' cj aF fM=>?_);refine A0<|Be kR<|AU ?_;exact CX.ret Gi (λw'=>_) (Dq y b g i _ cj) (λw' hS=>by subst hS;exact ⟨_,C4 rfl rfl rfl rfl rfl (Ba (((dt.up H).up aE).up aF) Av rfl Ah) (B2 ((bz.up aE).up aF) (FU _) rfl) (B2 (du.up aF) (C5 _) rfl) (B2 cj (Eh _) rfl),⟨DR X.kind X.n [],AQ rfl,BJ.zero _ _ _ _ _⟩,(BR (BR (BR (BR q oO aD) oO H) oO aE) oO aF)⟩)
  refine Az rfl rfl d Ah rfl rfl (λh3 dv aG fN=>?_);have cX:=f.up aG;refine A0<|Ao 1 rfl<|Aj (Ae (FU _) rfl cX rfl)<|A0<|Ao 7 rfl<|BA FP rfl rfl rfl cX (by exact Nat.le_of_ble_eq_true rfl) (λeM bA J fO=>?_);have bA:B4 eM b _ _:=bA;have J:CP b _ _:=J;refine A0<|Ao 8 rfl<|C2 ((j.up aG).up J) BI (λh4 dw aH fP=>?_);refine A0<|Ao 9 rfl<|C2 (((o.up aG).up J).up aH) Fd (λh5 ck aI fQ=>?_);refine A0<|Be kR<|AU ?_;exact CX.ret Gi (λw'=>_) (Dq y b g i _ ck) (λw' hS=>by subst hS;exact ⟨_,C4 rfl rfl rfl rfl rfl (Ba (((dv.up J).up aH).up aI) Av rfl Ah) (B2 ((bA.up aH).up aI) (FU _) rfl) (B2 (dw.up aI) (C5 _) rfl) (B2 ck (Eh _) rfl),⟨DR X.kind X.n [],AQ rfl,BJ.zero _ _ _ _ _⟩,(BR (BR (BR (BR q oO aG) oO J) oO aH) oO aI)⟩);refine Az rfl rfl d Ah rfl rfl (λh6 bB aj fR=>?_);have aJ:=f.up aj;have c0:=j.up aj;have c2:=o.up aj;have c3:=A.up aj;have c4:=BR q oO aj;refine A0<|Ct 1 rfl 5 rfl ?_ ?_;refine Aj (Ae (FU _) rfl aJ rfl)<|A0<|Ct 5 rfl 7 rfl ?_ ?_;refine Aj (Ae (C5 _) rfl c3 rfl)<|A0<|Ao 7 rfl<|BA FP rfl rfl rfl aJ (by exact Nat.le_of_ble_eq_true rfl) (λeN bC K fS=>?_);have bC:B4 eN b _ _:=bC;have K:CP b _ _:=K;refine A0<|Ao 8 rfl<|C2 (c0.up K) BI (λh7 dx aK fT=>?_);refine A0<|Ao 9 rfl<|C2 ((c2.up K).up aK) Fd (λh8 cl aL fU=>?_);refine A0<|Be kR<|AU ?_;exact CX.ret Gi (λw'=>_) (Dq y b g i _ cl) (λw' hS=>by subst hS;exact ⟨_,C4 rfl rfl rfl rfl rfl (Ba (((bB.up K).up aK).up aL) Av rfl Ah) (B2 ((bC.up aK).up aL) (FU _) rfl) (B2 (dx.up aL) (C5 _) rfl) (B2 cl (Eh _) rfl),⟨DR X.kind X.n [],AQ rfl,BJ.zero _ _ _ _ _⟩,(BR (BR (BR c4 oO K) oO aK) oO aL)⟩)
  refine BA FP rfl rfl rfl aJ (by exact Nat.le_of_ble_eq_true rfl) (λeO bD v fV=>?_);have bD:B4 eO b _ _:=bD;have v:CP b _ _:=v;refine A0<|Ao 5 rfl<|Aj (Ae (C5 _) rfl (c3.up v) rfl)<|A0<|Ao 8 rfl<|C2 (c0.up v) BI (λh9 dy aM fW=>?_);refine A0<|Ao 9 rfl<|C2 ((c2.up v).up aM) Fd (λha cm aN fX=>?_);refine A0<|Be kR<|AU ?_;exact CX.ret Gi (λw'=>_) (Dq y b g i _ cm) (λw' hS=>by subst hS;exact ⟨_,C4 rfl rfl rfl rfl rfl (Ba (((bB.up v).up aM).up aN) Av rfl Ah) (B2 ((bD.up aM).up aN) (FU _) rfl) (B2 (dy.up aN) (C5 _) rfl) (B2 cm (Eh _) rfl),⟨DR X.kind X.n [],AQ rfl,BJ.zero _ _ _ _ _⟩,(BR (BR (BR c4 oO v) oO aM) oO aN)⟩);refine Aj (Ae (C5 _) rfl c3 rfl)<|A0<|Ao 1 rfl<|Aj (Ae (FU _) rfl aJ rfl)<|A0<|Ao 7 rfl<|BA FP rfl rfl rfl aJ (by exact Nat.le_of_ble_eq_true rfl) (λeP bE L fY=>?_);have bE:B4 eP b _ _:=bE;have L:CP b _ _:=L;refine A0<|Ao 8 rfl<|C2 (c0.up L) BI (λhd dz aO fZ=>?_);refine A0<|Ao 9 rfl<|C2 ((c2.up L).up aO) Fd (λhe cn aP f'=>?_);refine A0<|Be kR<|AU ?_;exact CX.ret Gi (λw'=>_) (Dq y b g i _ cn) (λw' hS=>by subst hS;exact ⟨_,C4 rfl rfl rfl rfl rfl (Ba (((bB.up L).up aO).up aP) Av rfl Ah) (B2 ((bE.up aO).up aP) (FU _) rfl) (B2 (dz.up aP) (C5 _) rfl) (B2 cn (Eh _) rfl),⟨DR X.kind X.n [],AQ rfl,BJ.zero _ _ _ _ _⟩,(BR (BR (BR c4 oO L) oO aO) oO aP)⟩);refine Aj (Ae (FU _) rfl f rfl)<|A0<|Ct 0 rfl 5 rfl ?_ ?_;refine Aj (Bd rfl d Av rfl Ah)<|A0<|Ct 5 rfl 6 rfl ?_ ?_;refine Aj (Ae (C5 _) rfl A rfl)<|A0<|Ao 6 rfl<|Az rfl rfl d Ah rfl rfl (λhf dA aQ g0=>?_);refine A0<|Ao 7 rfl<|BA FP rfl rfl rfl (f.up aQ) (by exact Nat.le_of_ble_eq_true rfl) (λeQ bG P g1=>?_)
  have bG:B4 eQ b _ _:=bG;have P:CP b _ _:=P;refine A0<|Ao 8 rfl<|C2 ((j.up aQ).up P) BI (λhg dB aR g2=>?_);refine A0<|Ao 9 rfl<|C2 (((o.up aQ).up P).up aR) Fd (λhh co aT g3=>?_);refine A0<|Be kR<|AU ?_;exact CX.ret Gi (λw'=>_) (Dq y b g i _ co) (λw' hS=>by subst hS;exact ⟨_,C4 rfl rfl rfl rfl rfl (Ba (((dA.up P).up aR).up aT) Av rfl Ah) (B2 ((bG.up aR).up aT) (FU _) rfl) (B2 (dB.up aT) (C5 _) rfl) (B2 co (Eh _) rfl),⟨DR X.kind X.n [],AQ rfl,BJ.zero _ _ _ _ _⟩,(BR (BR (BR (BR q oO aQ) oO P) oO aR) oO aT)⟩);refine Az rfl rfl d Ah rfl rfl (λhi cq ak g4=>?_);have cY:=f.up ak;have cZ:=j.up ak;have c':=o.up ak;have d0:=A.up ak;have d1:=BR q oO ak;refine A0<|Ct 5 rfl 7 rfl ?_ ?_;refine Aj (Ae (C5 _) rfl d0 rfl)<|A0<|Ao 7 rfl<|BA FP rfl rfl rfl cY (by exact Nat.le_of_ble_eq_true rfl) (λeR bH Q g5=>?_);have bH:B4 eR b _ _:=bH;have Q:CP b _ _:=Q;refine A0<|Ao 8 rfl<|C2 (cZ.up Q) BI (λhj dC aU g6=>?_);refine A0<|Ao 9 rfl<|C2 ((c'.up Q).up aU) Fd (λhm cr aV g7=>?_);refine A0<|Be kR<|AU ?_;exact CX.ret Gi (λw'=>_) (Dq y b g i _ cr) (λw' hS=>by subst hS;exact ⟨_,C4 rfl rfl rfl rfl rfl (Ba (((cq.up Q).up aU).up aV) Av rfl Ah) (B2 ((bH.up aU).up aV) (FU _) rfl) (B2 (dC.up aV) (C5 _) rfl) (B2 cr (Eh _) rfl),⟨DR X.kind X.n [],AQ rfl,BJ.zero _ _ _ _ _⟩,(BR (BR (BR d1 oO Q) oO aU) oO aV)⟩);refine BA FP rfl rfl rfl cY (by exact Nat.le_of_ble_eq_true rfl) (λeS bI x g8=>?_);have bI:B4 eS b _ _:=bI;have x:CP b _ _:=x;refine A0<|Ao 5 rfl<|Aj (Ae (C5 _) rfl (d0.up x) rfl)<|A0<|Ao 8 rfl<|C2 (cZ.up x) BI (λhn dE aW g9=>?_);refine A0<|Ao 9 rfl<|C2 ((c'.up x).up aW) Fd (λho ct aX ga=>?_)
  refine A0<|Be kR<|AU ?_;exact CX.ret Gi (λw'=>_) (Dq y b g i _ ct) (λw' hS=>by subst hS;exact ⟨_,C4 rfl rfl rfl rfl rfl (Ba (((cq.up x).up aW).up aX) Av rfl Ah) (B2 ((bI.up aW).up aX) (FU _) rfl) (B2 (dE.up aX) (C5 _) rfl) (B2 ct (Eh _) rfl),⟨DR X.kind X.n [],AQ rfl,BJ.zero _ _ _ _ _⟩,(BR (BR (BR d1 oO x) oO aW) oO aX)⟩);refine Aj (Ae (C5 _) rfl A rfl)<|A0<|Ao 0 rfl<|Aj (Bd rfl d Av rfl Ah)<|A0<|Ao 6 rfl<|Az rfl rfl d Ah rfl rfl (λhp dG aY gb=>?_);refine A0<|Ao 7 rfl<|BA FP rfl rfl rfl (f.up aY) (by exact Nat.le_of_ble_eq_true rfl) (λeT bJ U gc=>?_);have bJ:B4 eT b _ _:=bJ;have U:CP b _ _:=U;refine A0<|Ao 8 rfl<|C2 ((j.up aY).up U) BI (λhq dH aZ ge=>?_);refine A0<|Ao 9 rfl<|C2 (((o.up aY).up U).up aZ) Fd (λhr cu a' gf=>?_);refine A0<|Be kR<|AU ?_;exact CX.ret Gi (λw'=>_) (Dq y b g i _ cu) (λw' hS=>by subst hS;exact ⟨_,C4 rfl rfl rfl rfl rfl (Ba (((dG.up U).up aZ).up a') Av rfl Ah) (B2 ((bJ.up aZ).up a') (FU _) rfl) (B2 (dH.up a') (C5 _) rfl) (B2 cu (Eh _) rfl),⟨DR X.kind X.n [],AQ rfl,BJ.zero _ _ _ _ _⟩,(BR (BR (BR (BR q oO aY) oO U) oO aZ) oO a')⟩);refine Aj (Ae (C5 _) rfl A rfl)<|A0<|Ct 0 rfl 1 rfl ?_ ?_;refine Aj (Bd rfl d Av rfl Ah)<|A0<|Ct 1 rfl 6 rfl ?_ ?_;refine Aj (Ae (FU _) rfl f rfl)<|A0<|Ao 6 rfl<|Az rfl rfl d Ah rfl rfl (λhs dI b0 gg=>?_);refine A0<|Ao 7 rfl<|BA FP rfl rfl rfl (f.up b0) (by exact Nat.le_of_ble_eq_true rfl) (λeU bK V gh=>?_);have bK:B4 eU b _ _:=bK;have V:CP b _ _:=V;refine A0<|Ao 8 rfl<|C2 ((j.up b0).up V) BI (λhu dJ b2 gi=>?_);refine A0<|Ao 9 rfl<|C2 (((o.up b0).up V).up b2) Fd (λhv cv b3 gj=>?_)
  refine A0<|Be kR<|AU ?_;exact CX.ret Gi (λw'=>_) (Dq y b g i _ cv) (λw' hS=>by subst hS;exact ⟨_,C4 rfl rfl rfl rfl rfl (Ba (((dI.up V).up b2).up b3) Av rfl Ah) (B2 ((bK.up b2).up b3) (FU _) rfl) (B2 (dJ.up b3) (C5 _) rfl) (B2 cv (Eh _) rfl),⟨DR X.kind X.n [],AQ rfl,BJ.zero _ _ _ _ _⟩,(BR (BR (BR (BR q oO b0) oO V) oO b2) oO b3)⟩);refine Az rfl rfl d Ah rfl rfl (λhx dK b4 gk=>?_);have d2:=f.up b4;refine A0<|Ao 1 rfl<|Aj (Ae (FU _) rfl d2 rfl)<|A0<|Ao 7 rfl<|BA FP rfl rfl rfl d2 (by exact Nat.le_of_ble_eq_true rfl) (λeV bM a0 gl=>?_);have bM:B4 eV b _ _:=bM;have a0:CP b _ _:=a0;refine A0<|Ao 8 rfl<|C2 ((j.up b4).up a0) BI (λhy dL b6 gm=>?_);refine A0<|Ao 9 rfl<|C2 (((o.up b4).up a0).up b6) Fd (λhz cw b7 go=>?_);refine A0<|Be kR<|AU ?_;exact CX.ret Gi (λw'=>_) (Dq y b g i _ cw) (λw' hS=>by subst hS;exact ⟨_,C4 rfl rfl rfl rfl rfl (Ba (((dK.up a0).up b6).up b7) Av rfl Ah) (B2 ((bM.up b6).up b7) (FU _) rfl) (B2 (dL.up b7) (C5 _) rfl) (B2 cw (Eh _) rfl),⟨DR X.kind X.n [],AQ rfl,BJ.zero _ _ _ _ _⟩,(BR (BR (BR (BR q oO b4) oO a0) oO b6) oO b7)⟩);refine Aj (Ae (FU _) rfl f rfl)<|A0<|Ao 0 rfl<|Aj (Bd rfl d Av rfl Ah)<|A0<|Ao 6 rfl<|Az rfl rfl d Ah rfl rfl (λhA dM b8 gp=>?_);refine A0<|Ao 7 rfl<|BA FP rfl rfl rfl (f.up b8) (by exact Nat.le_of_ble_eq_true rfl) (λeW bN a1 gq=>?_);have bN:B4 eW b _ _:=bN;have a1:CP b _ _:=a1;refine A0<|Ao 8 rfl<|C2 ((j.up b8).up a1) BI (λhB dN b9 gr=>?_);refine A0<|Ao 9 rfl<|C2 (((o.up b8).up a1).up b9) Fd (λhC cy ba gs=>?_);refine A0<|Be kR<|AU ?_;exact CX.ret Gi (λw'=>_) (Dq y b g i _ cy) (λw' hS=>by subst hS;exact ⟨_,C4 rfl rfl rfl rfl rfl (Ba (((dM.up a1).up b9).up ba) Av rfl Ah) (B2 ((bN.up b9).up ba) (FU _) rfl) (B2 (dN.up ba) (C5 _) rfl) (B2 cy (Eh _) rfl),⟨DR X.kind X.n [],AQ rfl,BJ.zero _ _ _ _ _⟩,(BR (BR (BR (BR q oO b8) oO a1) oO b9) oO ba)⟩)
end
section
abbrev A4A {α:Type} (w:World) (res:Except Int α) (V:α->Value):Ending->World->Prop:=Ce 35 res V (λ_ w'=>AL w w') (λw'=>AL w w')
theorem O8 (b:Bool) (w:World):Calls Tryz.prog 167 #[.bool b] w (A4A w (Ox b) λ_=>.tuple #[]):=by
 refine AF func167 rfl ntmps167 ?_
 have a:=Dh w
 refine A4<|A3 rfl<|A1 (.not rfl)<|A0<|Ai rfl (λc=>?_) (λc=>?_)
 refine An<|A1 (.mkI MM rfl)<|G4 rfl (Bx ?_)
 exact BB 22 (by unfold Ox;rw [A2 (by simp_all)]) a
 refine As<|D9 (CU rfl ?_)
 exact Ce.ok () (by unfold Ox;rw [A5 (by simp_all)]) rfl a
end
section
structure StH where
 ctm:M6
 fill:Km
 stroke:Km
 pen:A02
 clips:Value
 font:Int
 size:Int
def stV (s:StH):List Value:=m6V s.ctm++(Hw s.fill++(Hw s.stroke++(WX s.pen++[s.clips,Ag s.font,Ag s.size])))
structure VwH where
 s:StH
 fonts:Value
 saved:Value
 path:Nat
 clip:Int
 inText:Bool
 lost:Bool
 text:M6
 line:M6
 args:Value
 items:Value
def XL (h:VwH):List Value:=stV h.s++([h.fonts,h.saved,ptV h.path,Ag h.clip,.bool h.inText,.bool h.lost]++(m6V h.text++(m6V h.line++[h.args,h.items])))
end
section
section
variable {P:Program} {n:Sh} {f:Fr}
theorem A2X  {rest:List Oper} {d ty:Nat} {t:TypeId} {by':Nat} {kl kc:IntKind} (j:Nat)
  (ht:P.underlying t=some (.slice e)) (hi:(P.info? e).map (λi=>(i.zero,i.size,i.bytes))=some (some z,1,by')) (hby2:Nat.ble by' 1000=true)
  (hx:CE f x=some (.int kl 0)) (hy:CE f y=some (.int kc j)) (hj:j<=100000) (hd:Nat.blt d n.n=true)
  (k:∀ w1,CF e w.heap.size w1 (.slice (some ⟨w.heap.size,0,none⟩) 0 j) ([]:List Value)->AL w w1->WL P n ops Q rest ((d,.slice (some ⟨w.heap.size,0,none⟩) 0 j)::f) w1) :
  WL P n ops Q (⟨some d,.makeSlice t x y,ty,pos,aft,none⟩::rest) f w:=by
 cases hh:P.info? e with
 | none=>rw [hh] at hi;cases hi
 | some i =>
  rw [hh] at hi;simp only [Option.map_some,BK,Co] at hi;obtain ⟨c,a,g⟩:=hi;have b:i.bytes<=1000:=by rw [g];simpa using hby2
  have hb1:i.bytes * j<=1000 * j:=Cz _ b;obtain ⟨w',h,l,m⟩:=run_make_own (P:=P) (w:=w) w.heap.size t e i z 1 ht hh c a kl kc j oO (by unfold maxLen;omega) (DS _);refine WL.run hd (λρ hρ=>?_) (k w' l ((Fl _ _).grown m (DS _) λk hk=>by cases hk));unfold execOp;simp [hρ _ _ hx,hρ _ _ hy,h]
end
theorem Xl (n:Int) (w:World):Calls Tryz.prog 163 #[Ag n] w λe w'=>e=.returned (.tuple #[Ag (Lc n).1,Ag (Lc n).2])/\w=w':=by
 refine AF func163 rfl ntmps163<|A4<|CL rfl<|A8 rfl<|Ad<|A4<|A3 rfl<|A1 (.lss rfl rfl)<|A3 rfl<|Cc rfl rfl rfl (λa=>?_) (λa=>?_)
 have c:=dF a
 refine A3 rfl<|AE a<|A1 (.gtr rfl rfl)<|A1 (.pkF rfl a rfl)<|A0<|Ai rfl (λb=>?_) (λb=>?_)
 have d:=dT b
 refine A4<|CL rfl<|A8 rfl<|AU (Du rfl rfl rfl ?_)
 first
 | exact ⟨EO (by rw [show Lc n=(n * 65536,0) from A2 oO]),rfl⟩
 | exact ⟨EO (by rw [show Lc n=(0,11) from A5 oO]),rfl⟩
 have d:=dF b
 refine As<|A4<|A3 rfl<|A1 (.mul rfl rfl (Bb oO))<|CL rfl<|A8 rfl<|AU (Du rfl rfl rfl ?_)
 first
 | exact ⟨EO (by rw [show Lc n=(n * 65536,0) from A2 oO]),rfl⟩
 | exact ⟨EO (by rw [show Lc n=(0,11) from A5 oO]),rfl⟩
 have c:=dT a
 refine B6 a<|A1 (.pkT rfl a rfl)<|A0<|BZ rfl rfl<|A4<|CL rfl<|A8 rfl<|AU (Du rfl rfl rfl ?_)
 first
 | exact ⟨EO (by rw [show Lc n=(n * 65536,0) from A2 oO]),rfl⟩
 | exact ⟨EO (by rw [show Lc n=(0,11) from A5 oO]),rfl⟩
def Q8 (k n:Int):Int × Bool:=if k=3 then (n,Db n) else if k=2 then ((Lc n).1,decide ((Lc n).2=0)) else (0,false)
theorem SS (x:PC) (w:World):Cl 142 #[.agg (VF x).toArray] w (.tuple #[Ag (Q8 x.kind x.n).1,.bool (Q8 x.kind x.n).2]):=by
 obtain ⟨k,n,t,kp,kl,kc,lp,ll,lc⟩:=x
 simp only [VF]
 refine AF func142 rfl ntmps142 ?_
 have i:=Dh w
 refine A4<|WL.box rfl rfl (λj l m a f B=>?_)
 have c:=uB i m f
 refine CL rfl<|A8 rfl<|Ad<|A4<|A1 (.fa Av rfl BI dD rfl)<|Aj (Ae (C5 _) rfl a rfl)<|A0<|AT<|A4<|A1 (.eql rfl rfl)<|A8 rfl<|Ai rfl (λg=>?_) (λg=>?_)
 have o:=dT g
 refine Ad<|DF 7 rfl BS (λw'=>w'.heap[j]?=l.heap[j]?/\True) (λC d=>?_)
 have q:=a.drew d
 have s:=Cn.below c d
 have b:=BU (q.trans a.symm) BF
 refine Ac 0 rfl (.fa Av rfl BI dD rfl) b ?_
 refine C6 1 rfl (λw' hw'=>Ae (C5 _) rfl ((hw'.1).trans a) rfl) b rfl ?_
 refine Ac 2 rfl (.fa Av rfl BI dD rfl) b ?_
 refine C6 3 rfl (λw' hw'=>Ae (C5 _) rfl ((hw'.1).trans a) rfl) b rfl ?_
 refine Br 4 rfl<|Au (Mq _ _) (λD u=>?_)
 obtain rfl:=u
 refine A0<|⟨b,?_⟩
 refine Ac 5 rfl (.as rfl) b ?_
 refine Ac 6 rfl (.as rfl) b ?_
 refine C3 kR<|AU (Du rfl rfl rfl ?_)
 exact ⟨V5 (by unfold Q8;rw [A5 aS];(first | done | rfl)),s⟩
 have o:=dF g
 refine A4<|A1 (.eql rfl rfl)<|A8 rfl<|Ai rfl (λh=>?_) (λh=>?_)
 have v:=dT h
 refine A4<|A1 (.fa Av rfl BI dD rfl)<|Aj (Ae (C5 _) rfl a rfl)<|Au (Xl _ _) (λE y=>?_)
 obtain rfl:=y
 refine A3 rfl<|A1 (.ext rfl rfl)<|A1 (.ext rfl rfl)<|CL rfl<|A8 rfl<|A4<|A3 rfl<|A3 rfl<|A1 (.eql rfl rfl)<|CL rfl<|A8 rfl<|AU (Du rfl rfl rfl ?_)
 exact ⟨V5 (by unfold Q8;rw [A2 aS,A5 aS];(first | done | rfl)),c⟩
 have v:=dF h
 refine As<|A4<|CL rfl<|A8 rfl<|AU (Du rfl rfl rfl ?_)
 exact ⟨V5 (by unfold Q8;rw [A2 aS,A2 aS];(first | done | rfl)),c⟩
theorem Vn {b:Bool} {u:Unit} (h:Ox b=.ok u):b=true:=by
 unfold Ox at h;split at h
 · assumption
 · cases h
theorem LS {b:Bool} {k:Int} (h:Ox b=.error k):b=false/\k=22:=by
 unfold Ox at h;split at h
 · cases h
 · rename_i hb;cases h;exact ⟨by simpa using hb,rfl⟩
theorem Xy  {C:Nat} {l:List Value} (h:CF e B w v l) (hC:C<=B):CF e C w v l:=by
 rcases h with ⟨hl,h⟩
 refine ⟨hl,?_⟩
 rcases h with h | ⟨g,cap,cur,a,b,c⟩
 · exact .inl h
 · exact .inr ⟨g,cap,cur,a,CT hC b,c⟩
theorem A1A  (h:CF e B w v xs):∀ g,v.ownBlock=some g->B<=g/\g<w.heap.size:=λg hg=>by
 rcases h with ⟨hl,h⟩
 rcases h with ⟨rfl,-⟩ | ⟨g1,cap,cur,rfl,h2,h3,-⟩
 · cases hg
 ·
  cases hg
  exact ⟨h2,(B5.1 h3).1⟩
theorem CF.upd  {r:Nat} (h:CF e B w v xs) (hu:CP r w w1) (hr:∀ g,v.ownBlock=some g->g≠r):CF e B w1 v xs:=by
 rcases h with ⟨hl,h⟩
 refine ⟨hl,?_⟩
 rcases h with h | ⟨a,cap,cur,rfl,b,c,d⟩
 · exact .inl h
 · exact .inr ⟨a,cap,cur,rfl,b,(hu.other a (hr a rfl)).trans c,d⟩
def T3 (cs:List PC) (n:Nat):Except Int (List Int):=if cs.length=n/\cs.all (λx=>(Q8 x.kind x.n).2)=true then .ok (cs.map λx=>(Q8 x.kind x.n).1) else .error 22
theorem TW (bv n:Nat) (H:VwH) (p:Option Addr) (cs:List PC) (c:Nat) (w:World) (h:B4 w bv (XL H).toArray 215) (ha:H.args=.slice p cs.length c) (hr:AA Q7 w p cs) (hn:n<=100) (hl:cs.length<=100) :
  Calls Tryz.prog 193 #[ptV bv,Ag (n:Int)] w (Hl 35 (T3 cs n) (λl v w'=>AL w w'/\AO ivL 3 w.heap.size w' v l) (λw'=>AL w w')):=by
 obtain ⟨s,fo,sa,pa,cl,it,lo,te,li,ar,its⟩:=H
 simp only at ha
 subst ha
 have ad:=hr.lt
 refine AF func193 rfl ntmps193 ?_
 have G:=Dh w
 refine A4<|A8 rfl<|A4<|A3 rfl<|A1 (.nck rfl)<|A1 (.fa JF rfl CQ dD rfl)<|Aj (Ae (DW _) rfl h rfl)<|A1 (.lenS Cg rfl)<|A3 rfl<|A1 (.eql rfl rfl)<|Ch BQ rfl rfl ((O8 _ _)) (λk3 w1 u d=>?_) (λa2 w1 u d=>?_)
 have T:=Ex G (Below.mono d G.size)
 obtain ⟨d,rfl⟩:=LS u
 exact Bx (Ho 22 (by unfold T3;rw [A2 (λhc=>by simp only [Bg] at d;exact d oO)]) T)
 have aa:=h.bl d
 have ab:=Ea hr d (λa=>hr.lt a)
 have ac:=Ci G d
 have aB:cs.length=n:=by (have:=Vn u);simp only [AI] at this;omega
 refine A0<|A4<|A3 rfl<|?_
 have U:=ac.size
 refine A2X (n) NT A19 rfl rfl rfl oO rfl (λw7 ae y=>?_)
 have aC:=aa.below y aa.lt
 have aD:=Ea ab y (λa=>ab.lt a)
 have af:=Ci ac y
 refine A8 rfl<|Ad<|A4<|A3 rfl<|A1 (.nck rfl)<|A1 (.fa JF rfl CQ dD rfl)<|Aj (Ae (DW _) rfl aC rfl)<|A1 (.lenS Cg rfl)<|A3 rfl<|A0<|AT<|BO (α:=Value × Nat) (λt=>[(0,ptV bv),(5,t.1),(23,.slice p cs.length c),(24,Ag (cs.length:Int)),(25,Ag (t.2:Int))]) (λt w'=>AL w w'/\AA Q7 w' p cs/\CF 3 w.heap.size w' t.1 (((cs.take t.2).map λx=>(Q8 x.kind x.n).1).map Qd)/\t.2<=cs.length/\∀ j (h:j<cs.length),j<t.2->(Q8 cs[j].kind cs[j].n).2=true) (λt=>cs.length-t.2) ((_,0)) ⟨rfl,rfl,rfl,rfl,rfl,tT⟩ (⟨af,aD,Xy ae U,FN _,λj _ h=>Dp h oO⟩) (λt w1 hR=>?_)
 obtain ⟨⟨sv,i⟩,aE⟩:=eX t
 subst aE
 obtain ⟨q1,V,X,q4,q5⟩:=hR
 simp only at X q4 q5
 have ag:w.heap.size<=w1.heap.size:=q1.size
 have ah:=A1A X
 refine A4<|A1 (.lss rfl rfl)<|A0<|Ad<|Ai rfl (λJ=>?_) (λJ=>?_)
 have ai:=dT J
 refine As<|Ad<|AT<|A4<|A1 (.ixm Cg Dd rfl rfl (V.isp oO) (i) (rfl) oO)<|Aj (DG Av rfl Ah V (i) oO rfl)<|Bm CA rfl (λaP aN B Y f aJ=>?_)
 have a0:=CT ag f.size
 have aj:=Dw X B f
 have E:=λa=>B▸V.lt a
 have ak:=AA.upd V f (λa=>CV (E a))
 have am:=uB q1 B f
 refine Az rfl rfl Y Ah rfl rfl (λaQ a1 k aK=>?_)
 have a3:=CT a0 k.size
 have an:=CF.upd aj k ((λg hg e=>by have:=(ah g hg).2;omega))
 have K:=AA.upd ak k (λa=>CV (E a))
 have ao:=BR am oO k
 refine A0<|A4<|Aj (Bd rfl a1 Av rfl Ah)<|Au (SS cs[i] _) (λaR o=>?_)
 have a4:=CT a3 o.size
 have ap:=CF.below an o
 have L:=Ea K o (λa=>K.lt a)
 have C:=Ci ao o
 refine A3 rfl<|A1 (.ext rfl rfl)<|A1 (.ext rfl rfl)<|CL rfl<|A8 rfl<|A4<|A3 rfl<|Ch BQ rfl rfl ((O8 _ _)) (λaS aF q b=>?_) (λaT aF q b=>?_)
 have N:=Ex C (Below.mono b C.size)
 obtain ⟨aG,rfl⟩:=LS q
 exact Bx (Ho 22 (by unfold T3;rw [A2 (λhc=>by have:=AP.1 hc.2 _ (Ar (by omega:i<cs.length));rw [aG] at this;cases this)]) N)
 have a5:=CT a4 b.size
 have aq:=CF.below ap b
 have P:=Ea L b (λa=>L.lt a)
 have au:=Ci C b
 have aH:=Vn q
 refine A0<|An<|A3 rfl<|A3 rfl<|CC (ps:=_) NT BI z3_ rfl rfl rfl rfl rfl pR rfl (λaU aO D a6 m aL=>?_)
 have a7:=CT a5 m.size
 have av:=Dw aq D m
 have a8:=λa=>D▸P.lt a
 have aw:=AA.upd P m (λa=>CV (a8 a))
 have ax:=uB au D m
 refine En NT A19 rfl rfl rfl av rfl a6 rfl (by rw [Bo,Bo,Ap];omega) (a7) rfl (λaV aW a9 F aM=>?_)
 have ay:=Ea aw F ad
 have az:=Ex ax (F.mono (DS _))
 refine A8 rfl<|An<|A1 (.iis (((i+1:Nat):Int)) (.add rfl rfl (Bb oO)) oO)<|A3 rfl<|A0<|?_
 exact ⟨(_,i+1),⟨rfl,rfl,rfl,rfl,rfl,tT⟩,⟨az,ay,by rw [B7 oO,Ej,Ej];exact a9,oM,λj h hj=>by
  rcases MJ.1 hj with h2 | rfl;exact q5 j h h2;exact aH⟩,oM⟩
 have ai:=dF J
 refine BL<|A4<|A3 rfl<|A8 rfl<|AY ?_
 have aA:i=cs.length:=by omega
 subst aA
 have aI:T3 cs n=.ok (cs.map λx=>(Q8 x.kind x.n).1):=by
  unfold T3;rw [A5 ⟨aB,AP.2 λx hx=>by
   obtain ⟨j,hj,rfl⟩:=List.mem_iff_getElem.1 hx;exact q5 j hj hj⟩]
 have Q:=X
 rw [Al (DS _)] at Q
 exact LH _ _ aI rfl ⟨q1,G5 Q⟩
end
section
def Jq:l8_:=[37,80,68,70,45,49,46,52,10]
def Zg:l8_:=[32,48,32,111,98,106,10]
def Pq:l8_:=[10,101,110,100,111,98,106,10]
def F9:l8_:=[32,48,48,48,48,48,32,110,32,10]
def E0:l8_:=[48,48,48,48,48,48,48,48,48,48,32,54,53,53,51,53,32,102,32,10]
def S1:l8_:=[120,114,101,102,10,48,32]
def KJ:l8_:=[116,114,97,105,108,101,114,10,60,60,32,47,82,111,111,116,32,49,32,48,32,82,32,47,83,105,122,101,32]
def Ok:l8_:=[32,62,62,10,115,116,97,114,116,120,114,101,102,10]
def VU:l8_:=[10,37,37,69,79,70,10]
def GG (n:Nat):l8_:=List.replicate (10-(B0 n).length) 48++B0 n
theorem JQ {n:Nat} (h:n<10000000000):(GG n).length=10:=by
 have a:=Dv 9 n oO
 simp only [GG,A9,CH];omega
def X3 (l:l8_):Nat:=l.foldl (λa c=>10 * a+(c.toNat-48)) 0
theorem K4 (l m:l8_):X3 (l++m)=m.foldl (λa c=>10 * a+(c.toNat-48)) (X3 l):=by simp [X3,List.foldl_append]
theorem Mw (k:Nat) (h:k<10):(ch (48+k)).toNat=48+k:=by
 have:∀ k:Nat,k<10->(ch (48+(k:Int))).toNat=48+k:=by decide
 exact this k h
theorem K3:∀ (n:Nat),X3 (B0 n)=n:=by
  intro n
  induction n using Nat.strongRecOn with
  | _ n ih =>
    by_cases h:n<10
    · rw [Eg n h]
      show 10 * 0+((ch (48+n)).toNat-48)=n
      rw [Mw n h];omega
    · rw [Ie n oO, K4, ih (n / 10) oO]
      show 10 * (n / 10)+((ch (48+(n % 10:Nat))).toNat-48)=n
      rw [Mw (n % 10) oO];omega
theorem UN (k:Nat):X3 (List.replicate k (48:UInt8))=0:=by
 induction k with
 | zero=>rfl
 | succ k ih=>rw [List.replicate_succ',K4,ih];rfl
theorem YB (n:Nat):X3 (GG n)=n:=by
 unfold GG
 rw [K4,UN]
 exact K3 n
theorem I0:∀ (n:Nat),∀ c∈B0 n,48<=c.toNat/\c.toNat<=57:=by
  intro n
  induction n using Nat.strongRecOn with
  | _ n ih =>
    intro c hc
    by_cases h:n<10
    · rw [Eg n h] at hc
      simp only [Bl] at hc
      subst hc
      rw [Mw n h];omega
    · rw [Ie n oO] at hc
      rcases Bj.1 hc with a | a
      · exact ih (n / 10) oO c a
      · simp only [Bl] at a
        subst a
        rw [Mw (n % 10) oO];omega
theorem A0B (n:Nat):∀ c∈GG n,48<=c.toNat/\c.toNat<=57:=λc hc=>by
 rcases Bj.1 hc with h | h
 · rw [List.eq_of_mem_replicate h];decide
 · exact I0 n c h
def Lu (i:Nat) (t:l8_):l8_:=B0 (i+1)++Zg++t++Pq
def Ep:Nat->List (l8_)->l8_
 | _,[]=>[]
 | i,t::ts=>Lu i t++Ep (i+1) ts
def Dm:Nat->Nat->List (l8_)->List Nat
 | _,_,[]=>[]
 | n,i,t::ts=>n::Dm (n+(Lu i t).length) (i+1) ts
def DX (n:Nat):l8_:=GG n++F9
def EB (ps:List Nat):l8_:=E0++ps.flatMap DX
theorem Js {n:Nat} (h:n<10000000000):(DX n).length=20:=by
 simp only [DX,A9,JQ h];rfl
theorem GN:∀ (ts:List (l8_)) (n i:Nat),(Dm n i ts).length=ts.length
 | [],_,_=>rfl
 | _::ts,n,i=>by simp only [Dm,Aa,GN ts]
theorem P1:∀ (ts:List (l8_)) (A X:l8_) (i j:Nat) (hj:j<ts.length),
  ∃ (hp:j<(Dm A.length i ts).length) (R:l8_),(A++(Ep i ts++X)).drop ((Dm A.length i ts)[j])=Lu (i+j) ts[j]++R/\(Dm A.length i ts)[j]+(Lu (i+j) ts[j]).length<=A.length+(Ep i ts).length
 | [],_,_,_,j,hj=>by cases hj
 | t::ts,A,X,i,0,hj=>⟨by simp [Dm],Ep (i+1) ts++X,by
   simp only [Dm,Ep,IG,AS,Nat.add_zero]
   rw [List.drop_left],by simp only [Dm,Ep,IG,A9,Nat.add_zero];omega⟩
 | t::ts,A,X,i,j+1,hj=>by
  obtain ⟨hp,R,h1,h2⟩:=P1 ts (A++Lu i t) X (i+1) j (by simpa using hj)
  rw [A9] at hp
  refine ⟨by simpa [Dm] using hp,R,?_,?_⟩
  ·
   simp only [Dm,Ep,IH,AS] at h1 ⊢
   simp only [A9] at h1
   rw [h1,show i+1+j=i+(j+1) by omega]
  ·
   simp only [Dm,Ep,IH,A9] at h2 ⊢
   rw [show i+(j+1)=i+1+j by omega]
   omega
theorem PB:∀ (ts:List (l8_)) (i:Nat) (t:l8_),Ep i (ts++[t])=Ep i ts++Lu (i+ts.length) t
 | [],i,t=>by simp [Ep]
 | x::ts,i,t=>by simp only [Bh,Ep,PB ts (i+1) t,Aa,AS];rw [show i+1+ts.length=i+(ts.length+1) by omega]
theorem NF:∀ (ts:List (l8_)) (n i:Nat) (t:l8_),Dm n i (ts++[t])=Dm n i ts++[n+(Ep i ts).length]
 | [],n,i,t=>by simp [Dm,Ep]
 | x::ts,n,i,t=>by simp only [Bh,Dm,NF ts (n+(Lu i x).length) (i+1) t,Ep,A9];rw [A3c]
theorem St (ps:List Nat) (p:Nat):EB (ps++[p])=EB ps++DX p:=by simp [EB,List.flatMap_append]
theorem Kw:∀ (ts:List (l8_)) (n i:Nat),∀ p∈Dm n i ts,p<=n+(Ep i ts).length
 | [],_,_,p,h=>by cases h
 | x::ts,n,i,p,h=>by
  simp only [Dm,A7] at h
  simp only [Ep,A9]
  rcases h with rfl | h
  · omega
  · have:=Kw ts _ _ p h;omega
def Ez (ts:List (l8_)):l8_ :=
 Jq++(Ep 0 ts++(S1++(B0 (ts.length+1)++(10::(EB (Dm 9 0 ts)++(KJ++(B0 (ts.length+1)++(Ok++(B0 (9+(Ep 0 ts).length)++VU)))))))))
end
section
theorem Wy (d:Nat) (o r:l8_):D0 d o (41::r)=if d=1 then some (o,r) else D0 (d-1) (o++[41]) r:=by rw [D0.eq_def];rfl
theorem QB (d:Nat) (o r:l8_) (e:UInt8):D0 d o (92::e::r)=D0 d (o++(Hf e r).1) (Hf e r).2:=by rw [D0.eq_def];rfl
theorem Rv (d:Nat) (o r:l8_) (c:UInt8) (h1:c≠40) (h2:c≠41) (h3:c≠92) (h4:c≠13):D0 d o (c::r)=D0 d (o++[c]) r:=by
 rw [D0.eq_def];simp only;rw [A2 h1,A2 h2,A2 h3,A2 h4]
theorem A0x (r:l8_):Lk (40::r)=Gp (D0 1 [] r):=rfl
def N3 (c:UInt8):l8_:=[92,ch (48+(c.toNat:Int) / 64),ch (48+(c.toNat:Int) / 8 % 8),ch (48+(c.toNat:Int) % 8)]
theorem Zh:∀ (c:UInt8) (r:l8_),Hf (ch (48+(c.toNat:Int) / 64)) (ch (48+(c.toNat:Int) / 8 % 8)::ch (48+(c.toNat:Int) % 8)::r)=([c],r):=by
 intro c r
 have hc:c.toNat<256:=C7 c
 have d:((ch (48+(c.toNat:Int) / 64)).toNat:Int)=48+(c.toNat:Int) / 64:=Ih _ oO oO
 have f:((ch (48+(c.toNat:Int) / 8 % 8)).toNat:Int)=48+(c.toNat:Int) / 8 % 8:=Ih _ oO oO
 have g:((ch (48+(c.toNat:Int) % 8)).toNat:Int)=48+(c.toNat:Int) % 8:=Ih _ oO oO
 rw [S3 _ oO oO]
 have a:NU (ch (48+(c.toNat:Int) / 8 % 8))=true:=by simp only [NU,AG,AI];omega
 have b:NU (ch (48+(c.toNat:Int) % 8))=true:=by simp only [NU,AG,AI];omega
 simp only [Lt,a,b,if_true]
 have e:((8 * (8 * ((ch (48+(c.toNat:Int) / 64)).toNat-48)+((ch (48+(c.toNat:Int) / 8 % 8)).toNat-48))+((ch (48+(c.toNat:Int) % 8)).toNat-48)) % 256:Nat)=c.toNat:=by omega
 rw [e]
 simp only [Co,and_true,A0n]
 exact UInt8.toNat_inj.1 (by have:=Ih (c.toNat:Int) oO oO;omega)
def Cr:l8_:=[48,49,50,51,52,53,54,55,56,57,97,98,99,100,101,102,65,66,67,68,69,70]
end
section
def Fc:List Nat->Nat
 | []=>0
 | x::r=>x * 10 ^ r.length+Fc r
theorem A0p (d:List Nat) (h:∀ x∈d,x<10):Fc d<10 ^ d.length:=by
 induction d with
 | nil=>simp [Fc]
 | cons x r ih =>
  have a:=ih λy hy=>h y (by simp [hy])
  have b:=h x (by simp)
  rw [Fc,Aa,Nat.pow_succ]
  have c:x * 10 ^ r.length<=9 * 10 ^ r.length:=Cz _ oO
  omega
theorem Nu (a b:List Nat):Fc (a++b)=Fc a * 10 ^ b.length+Fc b:=by
 induction a with
 | nil=>simp [Fc]
 | cons x r ih =>
  rw [Bh,Fc,Fc,ih,A9,Nat.pow_add,Nat.add_mul,Nat.mul_assoc,A3c]
theorem Oz (k:Nat):Fc (List.replicate k 0)=0:=by
 induction k with
 | zero=>rfl
 | succ k ih=>rw [List.replicate_succ,Fc,ih];simp
theorem VX (d:List Nat):Fc (Hu d).1+(Hu d).2 * 10 ^ d.length=2 * Fc d:=by
 induction d with
 | nil=>rfl
 | cons x r ih =>
  have hl:=Om r
  simp only [Hu,Fc,hl,Aa,Nat.pow_succ]
  have a:(2 * x+(Hu r).2) % 10+10 * ((2 * x+(Hu r).2) / 10)=2 * x+(Hu r).2:=Nat.mod_add_div _ _
  have b:((2 * x+(Hu r).2) % 10) * 10 ^ r.length+(2 * x+(Hu r).2) / 10 * (10 ^ r.length * 10)=(2 * x+(Hu r).2) * 10 ^ r.length:=by
   conv=>rhs;rw [<- a,Nat.add_mul]
   rw [Nat.mul_comm (10 ^ r.length) 10,<- Nat.mul_assoc,Nat.mul_comm _ 10]
  have c:(2 * x+(Hu r).2) * 10 ^ r.length=2 * (x * 10 ^ r.length)+(Hu r).2 * 10 ^ r.length:=by rw [Nat.add_mul,Nat.mul_assoc]
  omega
theorem Uk (k:Nat):∀ (n:Int) (d:List Nat),(F6 k n d).2.length=d.length:=by
 induction k with
 | zero=>intro n d;rfl
 | succ k ih=>intro n d;rw [F6,ih,Om]
theorem Uj (k:Nat):∀ (n:Nat) (d:List Nat),∃ m:Nat,(F6 k (n:Int) d).1=(m:Int)/\m * 10 ^ d.length+Fc (F6 k (n:Int) d).2=2 ^ k * (n * 10 ^ d.length+Fc d):=by
 induction k with
 | zero=>intro n d;exact ⟨n,rfl,by simp [F6]⟩
 | succ k ih =>
  intro n d
  obtain ⟨m,b,a⟩:=ih (2 * n+(Hu d).2) (Hu d).1
  rw [Om] at a
  have hv:=VX d
  have hc:((2 * n+(Hu d).2:Nat):Int)=2 * (n:Int)+((Hu d).2:Int):=by omega
  rw [F6,<- hc]
  refine ⟨m,b,a.trans ?_⟩
  rw [Nat.pow_succ,Nat.mul_assoc]
  congr 1
  rw [Nat.add_mul,Nat.mul_assoc]
  omega
theorem Pa (l:l8_):Ck l=Fc (Bw l):=by
 have key:∀ (l:l8_) (n:Nat),l.foldl (λn c=>10 * n+(c.toNat-48)) n=n * 10 ^ l.length+Fc (Bw l):=by
  intro l
  induction l with
  | nil=>intro n;simp [Bw,Fc]
  | cons c r ih =>
   intro n
   have hl:(Bw r).length=r.length:=El r
   have hd:Bw (c::r)=(c.toNat-48)::Bw r:=rfl
   rw [EG,ih,hd,Fc,hl,Aa,Nat.pow_succ,Nat.add_mul,Nat.mul_comm 10 n,Nat.mul_assoc,Nat.mul_comm 10 (10 ^ r.length),A3c]
 have:=key l 0
 rw [Nat.zero_mul,D5] at this
 exact this
theorem Uu (W R:l8_) (N f:Nat) (hW:∀ c∈W,BN c=true) (hN:Ck W=N) (hN5:N<=99999) (hR:∀ c∈R,BN c=true) (hv:Fc (Bw R) * 65536=f * 10 ^ R.length) :
  Uv W R=some ((N * 65536+f:Nat):Int):=by
 have ht:¬ 5<(W.dropWhile (· == 48)).length:=λh=>by have:=(Wj W hW).1 h;omega
 unfold Uv
 rw [A2 ht,Pb,hN]
 obtain ⟨m,k,j⟩:=Uj 16 N (Bw R)
 have hd:=PR 16 (N:Int) (Bw R) (NM R hR)
 have hl:=Uk 16 (N:Int) (Bw R)
 have d:=A0p _ hd
 rw [El] at j hl
 rw [hl] at d
 have g:=VX (F6 16 (N:Int) (Bw R)).2
 rw [hl] at g
 generalize (F6 16 (N:Int) (Bw R)).2=D at *
 generalize hP:10 ^ R.length=P at *
 have i:0<P:=by rw [<- hP];exact Nat.pow_pos dD
 have e:m * P+Fc D=(N * 65536+f) * P:=by
  rw [j,Nat.add_mul,<- hv]
  have:(2:Nat) ^ 16=65536:=by decide
  rw [this,Nat.mul_add,<- Nat.mul_assoc,Nat.mul_comm 65536 N,Nat.mul_comm 65536 (Fc _)]
 have hm:m=N * 65536+f:=by
  have a:(m * P+Fc D) / P=m:=by rw [Nat.mul_comm,Nat.mul_add_div i,Nat.div_eq_of_lt d];rfl
  have b:((N * 65536+f) * P) / P=N * 65536+f:=Nat.mul_div_cancel _ i
  rw [<- a,e,b]
 have hD:Fc D=0:=by rw [hm] at e;omega
 have hc:(Hu D).2=0:=by
  rw [hD] at g
  rcases I1 (Hu D).2 with h | h
  · exact h
  · have:=Cz P h;omega
 rw [k,hc,hm,Int.natCast_zero,Int.add_zero]
theorem Pj (k:Nat) (h:k<10):BN (ch (48+(k:Int)))=true/\(ch (48+(k:Int))).toNat=48+k:=by
 have e:(ch (48+(k:Int))).toNat=48+k:=by
  unfold ch
  rw [show (48+(k:Int)).toNat=48+k by omega,UInt8.toNat_ofNat']
  omega
 exact ⟨by unfold BN;rw [e,AR (show 48<=48+k by omega),AR (show 48+k<=57 by omega)];rfl,e⟩
theorem Xh (k:Nat):∀ f:Nat,k<=16->f<65536->2 ^ (16-k) ∣ f->(∀ c∈G0 k f,BN c=true)/\Fc (Bw (G0 k f)) * 65536=f * 10 ^ (G0 k f).length:=by
 induction k with
 | zero =>
  intro f _ hf hd
  obtain ⟨c,hc⟩:=hd
  have:f=0:=by simp at hc;omega
  subst this
  exact ⟨by simp [G0],by simp [G0,Bw,Fc]⟩
 | succ k ih =>
  intro f hk hf hd
  rw [G0]
  split
  · next h=>subst h;exact ⟨by simp,by simp [Bw,Fc]⟩
  ·
   have b:2 ^ (16-k) ∣ f * 10:=by
    have e:16-k=(16-(k+1))+1:=by omega
    rw [e,Nat.pow_succ]
    exact Nat.mul_dvd_mul hd ⟨5,rfl⟩
   have d:2 ^ (16-k) ∣ 65536:=by
    rw [show (65536:Nat)=2 ^ 16 from rfl]
    exact Nat.pow_dvd_pow 2 oO
   obtain ⟨g,i⟩:=ih (f * 10 % 65536) oO oO ((Nat.dvd_mod_iff d).2 b)
   obtain ⟨c1,j⟩:=Pj (f * 10 / 65536) oO
   refine ⟨λc hc=>?_,?_⟩
   ·
    rcases A7.1 hc with rfl | hc
    · exact c1
    · exact g c hc
   ·
    have a:Bw (ch (48+((f * 10 / 65536:Nat):Int))::G0 k (f * 10 % 65536))=(f * 10 / 65536)::Bw (G0 k (f * 10 % 65536)):=by
     show (_-48)::_=_
     rw [j];congr 1;omega
    rw [a,Fc,El,Aa,Nat.pow_succ]
    generalize Fc (Bw (G0 k (f * 10 % 65536)))=V at *
    generalize 10 ^ (G0 k (f * 10 % 65536)).length=P at *
    have hm:=Nat.mod_add_div (f * 10) 65536
    generalize f * 10 % 65536=r at *
    generalize f * 10 / 65536=q at *
    rw [Nat.add_mul,i,Nat.mul_comm P 10,<- Nat.mul_assoc,<- hm,Nat.add_mul,Nat.mul_right_comm,Nat.mul_comm q 65536]
    omega
theorem Xg (f:Nat) (h:f<65536):(∀ c∈Hc f,BN c=true)/\Fc (Bw (Hc f)) * 65536=f * 10 ^ (Hc f).length :=
 Xh 16 f oO h (by simp)
theorem IA (n:Nat):(∀ c∈B0 n,BN c=true)/\Ck (B0 n)=n/\B0 n≠[]:=by
  induction n using Nat.strongRecOn with
  | _ n ih =>
    by_cases h:n<10
    · rw [Eg n h]
      obtain ⟨c1,a⟩:=Pj n h
      exact ⟨by simpa using c1,by simp [Ck,a],by simp⟩
    · rw [Ie n oO]
      obtain ⟨b,d,e⟩:=ih (n / 10) oO
      obtain ⟨c1,a⟩:=Pj (n % 10) oO
      refine ⟨λc hc=>?_,?_,by simp⟩
      · rcases Bj.1 hc with hc | hc
        · exact b c hc
        · rw [Bl.1 hc];exact c1
      · rw [Pc,d,a];omega
theorem JI (a b:l8_):Bw (a++b)=Bw a++Bw b:=by simp [Bw]
theorem Ke (k:Nat):Bw (List.replicate k 48)=List.replicate k 0:=by simp [Bw]
theorem Wi (R:l8_) (f k:Nat) (h:Fc (Bw R) * 65536=f * 10 ^ R.length):Fc (Bw (R++List.replicate k 48)) * 65536=f * 10 ^ (R++List.replicate k 48).length:=by
 rw [JI,Ke,Nu,Oz,Nat.add_zero,A9,CH,CH,Nat.pow_add,<- Nat.mul_assoc,<- h,Nat.mul_right_comm]
theorem T6 (k:Nat) (W:l8_):Ck (List.replicate k 48++W)=Ck W:=by
 rw [Pa,Pa,JI,Ke,Nu,Oz,Nat.zero_mul,D5]
theorem Ra (k:Nat) (c:UInt8) (h:c∈List.replicate k (48:UInt8)):BN c=true:=by
 rw [List.mem_replicate] at h;rw [h.2];rfl
def PQ (m:Option Bool):l8_:=match m with | none=>[] | some true=>[45] | some false=>[43]
def YG (m:Option Bool):Bool:=match m with | some true=>true | _=>false
theorem Nx (m:Option Bool) (l:l8_) (h:∀ c r,l=c::r->BN c=true):AX (PQ m++l)=(YG m,l):=by
 match m with
 | some true=>rfl
 | some false=>rfl
 | none =>
  cases l with
  | nil=>rfl
  | cons c r=>exact Sv c r (h c r rfl)
theorem Z0 (W X:l8_) (hW:∀ c∈W,BN c=true) (h0:W≠[]):∀ c r,W++X=c::r->BN c=true:=by
 intro c r e
 cases W with
 | nil=>exact Dp rfl h0
 | cons d W =>
  simp only [Bh,A0n] at e
  rw [<- e.1];exact hW d (by simp)
theorem YD (W:l8_) (hW:∀ c∈W,BN c=true):46 ∉ W:=λh=>Dp (hW 46 h) dD
theorem YK (W R:l8_) (hW:∀ c∈W,BN c=true) (hR:∀ c∈R,BN c=true) (h0:W≠[]):Gw (W++46::R)=true:=by
 have hl:0<W.length:=List.length_pos_iff.2 h0
 unfold Gw
 rw [Ju R W (YD W hW)]
 simp only [AG,AP,AI]
 exact ⟨⟨hW,hR⟩,oO⟩
theorem UJ (m:Option Bool) (W R:l8_) (N f:Nat) (hW:∀ c∈W,BN c=true) (h0:W≠[]) (hR:∀ c∈R,BN c=true) (hN:Ck W=N) (hN5:N<=99999)
  (hv:Fc (Bw R) * 65536=f * 10 ^ R.length) (hfit:Db (if YG m then -((N * 65536+f:Nat):Int) else ((N * 65536+f:Nat):Int))=true) :
  JY (PQ m++(W++46::R))=(if YG m then -((N * 65536+f:Nat):Int) else ((N * 65536+f:Nat):Int),true):=by
 rw [WZ,Nx m _ (Z0 W _ hW h0)]
 simp only
 rw [YK W R hW hR h0,A5 rfl,Ju R W (YD W hW)]
 simp only
 rw [Uu W R N f hW hN hN5 hR hv]
 unfold U8
 simp only [hfit,if_true]
theorem Wr (n:Int):JG n=PQ (if n<0 then some true else none):=by unfold JG PQ;split <;> rfl
theorem A2w (n:Int):(if YG (if n<0 then some true else none) then -((n.natAbs / 65536 * 65536+n.natAbs % 65536:Nat):Int) else ((n.natAbs / 65536 * 65536+n.natAbs % 65536:Nat):Int))=n:=by
 have h:n.natAbs / 65536 * 65536+n.natAbs % 65536=n.natAbs:=by omega
 rw [h]
 by_cases hn:n<0
 · rw [A5 hn];simp only [YG,if_true];omega
 · rw [A2 hn];simp only [YG,BV,if_false];omega
theorem OT (n:Int):∃ R,H7 n=PQ (if n<0 then some true else none)++(GE n++46::R)/\R≠[]/\R.length<=16/\(∀ c∈R,BN c=true)/\Fc (Bw R) * 65536=(n.natAbs % 65536) * 10 ^ R.length:=by
  obtain ⟨a,b⟩:=Xg (n.natAbs % 65536) oO
  unfold H7
  rw [Wr]
  by_cases h0:IW n=[]
  · refine ⟨[48], by rw [A5 h0]; simp, by simp, by simp, by simp; decide, ?_⟩
    rw [(MW n).1 h0];simp [Bw,Fc]
  · refine ⟨IW n,by rw [A2 h0];simp,h0,J6 _,a,b⟩
theorem Je (n:Int) (h1:-2147483648<=n) (h2:n<=2147483647):(∀ c∈GE n,BN c=true)/\GE n≠[]/\Ck (GE n)=n.natAbs / 65536/\n.natAbs / 65536<=99999/\(GE n).length<=5:=by
 obtain ⟨a,b,c⟩:=IA (n.natAbs / 65536)
 exact ⟨a,c,b,oO,Dv 4 _ oO⟩
theorem UI (m:Option Bool) (n:Int) (a k:Nat) (h1:-2147483648<=n) (h2:n<=2147483647) (R:l8_) (hR:∀ c∈R,BN c=true) (hv:Fc (Bw R) * 65536=(n.natAbs % 65536) * 10 ^ R.length) (hm:YG m=decide (n<0)) :
  JY (PQ m++((List.replicate a 48++GE n)++46::(R++List.replicate k 48)))=(n,true):=by
 obtain ⟨b,d,e,f,g⟩:=Je n h1 h2
 have hn:(if YG m then -((n.natAbs / 65536 * 65536+n.natAbs % 65536:Nat):Int) else ((n.natAbs / 65536 * 65536+n.natAbs % 65536:Nat):Int))=n:=by
  have:=A2w n
  rw [hm]
  by_cases h:n<0
  · rw [A5 h] at this;rw [AR h];exact this
  · rw [A2 h] at this;rw [AH h];exact this
 rw [UJ m _ _ (n.natAbs / 65536) (n.natAbs % 65536) (λc hc=>(Bj.1 hc).elim (Ra a c) (b c)) (by simp [d]) (λc hc=>(Bj.1 hc).elim (hR c) (Ra k c)) (by rw [T6,e]) f (Wi R _ k hv) (by rw [hn];exact KG h1 h2),hn]
end
section
inductive AV where
 | mk (kind n:Int) (text:l8_) (keys:List (l8_)) (list:List AV) (data:l8_)
def AV.kind:AV->Int | .mk k _ _ _ _ _=>k
def AV.n:AV->Int | .mk _ n _ _ _ _=>n
def AV.text:AV->l8_ | .mk _ _ t _ _ _=>t
def AV.keys:AV->List (l8_) | .mk _ _ _ ks _ _=>ks
def AV.list:AV->List AV | .mk _ _ _ _ l _=>l
def AV.data:AV->l8_ | .mk _ _ _ _ _ d=>d
mutual
/-- an object without its data -/
def Jd:AV->PV
 | .mk k n t ks l _=>.mk k n t ks (IY l)
def IY:List AV->List PV
 | []=>[]
 | o::r=>Jd o::IY r
end
theorem Gs:∀ l:List AV,IY l=l.map Jd
 | []=>by simp [IY]
 | o::r=>by rw [IY,Gs r];rfl
def Gv (c:UInt8):Bool:=decide (c.toNat<33) || decide (126<c.toNat) || c == 35 || GP c
def Od (c:UInt8):l8_:=if Gv c then [35,Cr[c.toNat / 16]!,Cr[c.toNat % 16]!] else [c]
def TQ (s:l8_):l8_:=47::s.flatMap Od
def U0 (c:UInt8):l8_:=if c=40\/c=41\/c=92 then [92,c] else if c.toNat<32\/126<c.toNat then N3 c else [c]
def txT (s:l8_):l8_:=40::(s.flatMap U0++[41])
def Gf (d:l8_):l8_:=[32,47,76,101,110,103,116,104,32]++ED (d.length:Int)++[32,62,62,10,115,116,114,101,97,109,10]++d++[10,101,110,100,115,116,114,101,97,109]
mutual
/-- an object as it is written -/
def Da:AV->l8_
 | .mk k n t ks l d =>
  if k=0 then [110,117,108,108]
  else if k=1 then (if n=1 then [116,114,117,101] else [102,97,108,115,101])
  else if k=2 then ED n
  else if k=3 then H7 (norm n)
  else if k=4 then TQ t
  else if k=5 then txT t
  else if k=8 then ED n++[32,48,32,82]
  else if k=6 then 91::((FF l).drop 1++[93])
  else 60::60::(Im ks l++(if k=7 then [32,62,62] else Gf d))
/-- objects,each with a blank ahead -/
def FF:List AV->l8_
 | []=>[]
 | o::r=>32::(Da o++FF r)
/-- names and objects,each with a blank ahead -/
def Im:List (l8_)->List AV->l8_
 | k::ks,o::r=>32::(TQ k++32::(Da o++Im ks r))
 | _,_=>[]
end
theorem Ji:∀ a b:List AV,FF (a++b)=FF a++FF b
 | [],b=>by simp [FF]
 | o::r,b=>by rw [Bh,FF,FF,Ji r b];simp
theorem SO (a:List AV) (o:AV):FF (a++[o])=FF a++32::Da o:=by rw [Ji];simp [FF]
theorem SM:∀ (ks:List (l8_)) (l:List AV) (k:l8_) (o:AV),ks.length=l.length->Im (ks++[k]) (l++[o])=Im ks l++32::(TQ k++32::Da o)
 | [],[],k,o,_=>by simp [Im]
 | a::ks,b::l,k,o,h=>by
  have:=SM ks l k o (by simpa using h)
  simp only [Bh,Im,this]
  simp
def JM (s:l8_):Prop:=s≠[]/\0 ∉ s/\s.length<=127
inductive FJ:Int->Bool->AV->Prop
 | null (D:Int) (st:Bool):FJ D st (.mk 0 0 [] [] [] [])
 | bool (D:Int) (st:Bool) (n:Int) (h:n=0\/n=1):FJ D st (.mk 1 n [] [] [] [])
 | num (D:Int) (st:Bool) (k n:Int) (hk:k=2\/k=3) (h:Db n=true):FJ D st (.mk k n [] [] [] [])
 | name (D:Int) (st:Bool) (t:l8_) (h:JM t):FJ D st (.mk 4 0 t [] [] [])
 | text (D:Int) (st:Bool) (t:l8_) (h:t.length<=65535):FJ D st (.mk 5 0 t [] [] [])
 | ref (D:Int) (st:Bool) (n:Int) (h:1<=n/\n<=4096):FJ D st (.mk 8 n [] [] [] [])
 | arr (D:Int) (st:Bool) (l:List AV) (hD:1<=D) (hl:l.length<=65535) (h:∀ o∈l,FJ (D-1) false o):FJ D st (.mk 6 0 [] [] l [])
 | dict (D:Int) (st:Bool) (k:Int) (ks:List (l8_)) (l:List AV) (d:l8_) (hk:(k=7/\d=[])\/(k=9/\st=true/\d.length<=1048576/\[76,101,110,103,116,104] ∉ ks)) (hD:1<=D) (hl:l.length<=65535) (hkl:ks.length=l.length)
   (hn:∀ x∈ks,JM x) (hnd:ks.Nodup) (h:∀ o∈l,FJ (D-1) false o):FJ D st (.mk k 0 [] ks l d)
theorem LX  {o:AV} (h:FJ D false o):o.kind≠9:=by
 cases h with
 | null=>simp [AV.kind]
 | bool _ _ n h=>simp [AV.kind]
 | num _ _ k n hk h=>rcases hk with rfl | rfl <;> simp [AV.kind]
 | name _ _ t h=>simp [AV.kind]
 | text _ _ t h=>simp [AV.kind]
 | ref _ _ n h=>simp [AV.kind]
 | arr _ _ l hD hl h=>simp [AV.kind]
 | dict _ _ k ks l d hk hD hl hkl hn hnd h=>rcases hk with ⟨rfl,-⟩ | ⟨-,h,-⟩;simp [AV.kind];cases h
mutual
/-- how many lists are within one another -/
def MI:AV->Nat
 | .mk k _ _ _ l _=>if k=6\/k=7 then NL l+1 else 0
def NL:List AV->Nat
 | []=>0
 | o::r=>max (MI o) (NL r)
end
mutual
/-- how many values and letters -/
def TD:AV->Nat
 | .mk _ _ t ks l d=>t.length+Xv ks+TE l+d.length+7
def TE:List AV->Nat
 | []=>0
 | o::r=>TD o+TE r
def Xv:List (l8_)->Nat
 | []=>0
 | k::r=>k.length+1+Xv r
end
theorem RM (c:UInt8):(Od c).length<=3:=by unfold Od;split <;> simp
theorem Vp (c:UInt8):(U0 c).length<=4:=by unfold U0 N3;split <;> (try split) <;> simp
theorem flat_len {f:UInt8->l8_} {k:Nat} (hf:∀ c,(f c).length<=k):∀ s:l8_,(s.flatMap f).length<=k * s.length
 | []=>by simp
 | c::s=>by
  have h1:=hf c;have h2:=flat_len hf s
  rw [Dx,A9,Aa,Nat.mul_add,Nat.mul_one];omega
theorem Kg (n:Int) (h:-9223372036854775808<=n) (h':n<=9223372036854775807):(ED n).length<=21:=by
 have:=Jb n h h'
 rwa [BM] at this
theorem WA (n:Int):(H7 (norm n)).length<=40:=by
 have a:(JG (norm n)).length<=1:=by unfold JG;split <;> simp
 have b:(GE (norm n)).length<=20:=by have:=Nt (norm n) (VI n) (VJ n);rwa [BM] at this
 have c:(IW (norm n)).length<=16:=J6 _
 unfold H7
 simp only [A9,Aa]
 split <;> simp <;> omega
theorem KH {n:Int} (h:Db n=true):-2147483648<=n/\n<=2147483647:=by simpa [Db] using h
theorem N6 {n:Int} (h:Db n=true):norm n=n:=by unfold norm;rw [A5 h]
theorem VD:∀ l:List AV,(∀ o∈l,(Da o).length+100<=40 * TD o)->(FF l).length<=40 * TE l
 | [],_=>by simp [FF]
 | o::r,h=>by
  have h1:=h o (by simp)
  have h2:=VD r λx hx=>h x (by simp [hx])
  rw [FF,TE,Aa,A9];omega
theorem VC:∀ (ks:List (l8_)) (l:List AV),(∀ o∈l,(Da o).length+100<=40 * TD o)->(Im ks l).length<=40 * TE l+40 * Xv ks
 | k::ks,o::r,h=>by
  have h1:=h o (by simp)
  have h2:=VC ks r λx hx=>h x (by simp [hx])
  have h3:=flat_len RM k
  simp only [Im,TE,Xv,TQ,Aa,A9];omega
 | [],_,_=>by simp [Im]
 | _::_,[],_=>by simp [Im]
theorem Ys  {o:AV} (h:FJ D st o):(Da o).length+100<=40 * TD o:=by
 induction h with
 | null D st=>simp [Da,TD,Xv,TE]
 | bool D st n h=>rcases h with rfl | rfl <;> simp [Da,TD,Xv,TE]
 | num D st k n hk h =>
  have hf:=KH h
  have a:=Kg n oO oO
  have b:=WA n
  rcases hk with rfl | rfl <;> simp [Da,TD,Xv,TE] <;> omega
 | name D st t h =>
  have a:=flat_len RM t
  have e:Da (.mk 4 0 t [] [] [])=TQ t:=by simp [Da]
  rw [e,TD,Xv,TE]
  simp only [TQ,Aa,Am];omega
 | text D st t h =>
  have a:=flat_len Vp t
  have e:Da (.mk 5 0 t [] [] [])=txT t:=by simp [Da]
  rw [e,TD,Xv,TE]
  simp only [txT,Aa,A9,Am];omega
 | ref D st n h =>
  have a:=Kg n oO oO
  simp [Da,TD,Xv,TE];omega
 | arr D st l hD hl h ih =>
  have a:=VD l ih
  simp [Da,TD,Xv];omega
 | dict D st k ks l d hk hD hl hkl hn hnd h ih =>
  have a:=VC ks l ih
  have b:d.length<=1048576:=by rcases hk with ⟨-,rfl⟩ | h;simp;exact h.2.2.1
  have c:=Kg (d.length:Int) oO oO
  rcases hk with ⟨rfl,rfl⟩ | ⟨rfl,-⟩
  · simp [Da,TD];omega
  · simp [Da,TD,Gf];omega
end
section
def O7 (r:l8_):Prop:=∀ c r',r=c::r'->D1 c=false
theorem O7.cons {c:UInt8} {r:l8_} (h:D1 c=false):O7 (c::r):=λc' r' e=>by cases e;exact h
theorem Ro  {r:l8_} (hA:∀ x∈A,D1 x=true) (hr:O7 r):(A++r).takeWhile D1=A:=by
 induction A with
 | nil =>
  cases r with
  | nil=>rfl
  | cons c r=>rw [BT,List.takeWhile_cons,hr c r rfl];rfl
 | cons a A ih=>rw [Bh,List.takeWhile_cons,hA a (by simp),A5 rfl,ih λx hx=>hA x (by simp [hx])]
theorem A2L  {r:l8_} (hA:∀ x∈A,D1 x=true) (hr:O7 r):(A++r).dropWhile D1=r:=by
 induction A with
 | nil =>
  cases r with
  | nil=>rfl
  | cons c r=>rw [BT,List.dropWhile_cons,hr c r rfl];rfl
 | cons a A ih=>rw [Bh,List.dropWhile_cons,hA a (by simp),A5 rfl,ih λx hx=>hA x (by simp [hx])]
section
variable {l:l8_} {t:Nat}
theorem Gm  {r:l8_} (ht:t<=l.length) (h:l.drop t=A++r) (hA:∀ x∈A,D1 x=true) (hr:O7 r):Dk l t=A/\Bq l t=l.length-r.length/\l.drop (Bq l t)=r:=by
 have a:Dk l t=A:=by rw [Ow,h,Ro hA hr]
 have hl:=BH List.length h
 rw [Aq,A9] at hl
 have b:Bq l t=t+A.length:=by unfold Bq;rw [h,Ro hA hr]
 refine ⟨a,oO,?_⟩
 rw [b,<- DU,h,List.drop_left]
theorem HH {x:l8_} (h:DA false (l.drop t)=x):AW false l t=l.length-x.length/\l.drop (AW false l t)=x:=⟨by unfold AW;rw [h],by rw [H0,h]⟩
end
theorem EH {c:UInt8} {r:l8_} (h:CJ c=false) (h37:c≠37):DA false (c::r)=c::r:=by simp [DA,h,h37]
theorem I6 (r:l8_):DA false (32::r)=DA false r:=by simp [DA,CJ]
theorem Jx {q:UInt8->Prop} [DecidablePred q] (key:∀ n:Fin 256,q (UInt8.ofNat n.1)) (c:UInt8):q c:=by
 have h:=key ⟨c.toNat,C7 c⟩
 have e:UInt8.ofNat (⟨c.toNat,C7 c⟩:Fin 256).1=c:=UInt8.ofNat_toNat
 rw [e] at h
 exact h
theorem A0Z (c:UInt8):∀ x∈Od c,D1 x=true:=Jx (q:=λc=>∀ x∈Od c,D1 x=true) (by decide +kernel) c
theorem A10 (c:UInt8):(Gv c=true->Od c=[35,Cr[c.toNat / 16]!,Cr[c.toNat % 16]!]/\DQ Cr[c.toNat / 16]!<16/\DQ Cr[c.toNat % 16]!<16/\ch ((16 * DQ Cr[c.toNat / 16]!+DQ Cr[c.toNat % 16]! : Nat):Int)=c)/\(Gv c=false->Od c=[c]/\c≠35) :=
 Jx (q:=λc=>(Gv c=true->Od c=[35,Cr[c.toNat / 16]!,Cr[c.toNat % 16]!]/\DQ Cr[c.toNat / 16]!<16/\DQ Cr[c.toNat % 16]!<16/\ch ((16 * DQ Cr[c.toNat / 16]!+DQ Cr[c.toNat % 16]! : Nat):Int)=c)/\(Gv c=false->Od c=[c]/\c≠35)) (by decide +kernel) c
theorem Re:∀ s:l8_,KQ (s.flatMap Od)=some s
 | []=>rfl
 | c::s=>by
  have ih:=Re s
  have hd:=A10 c
  rw [Dx]
  cases hn:Gv c with
  | true =>
   obtain ⟨h1,h2,h3,h4⟩:=hd.1 hn
   rw [h1]
   show KQ (35::Cr[c.toNat / 16]! :: Cr[c.toNat % 16]! :: s.flatMap Od)=_
   rw [Ja,A5 rfl]
   simp only
   rw [A5 ⟨h2,h3⟩,ih,h4];rfl
  | false =>
   obtain ⟨h1,h2⟩:=hd.2 hn
   rw [h1]
   show KQ (c::s.flatMap Od)=_
   rw [Ja,A2 h2,ih];rfl
theorem YH (s:l8_):∀ x∈s.flatMap Od,D1 x=true:=λx hx=>by
 obtain ⟨c,-,hc⟩:=List.mem_flatMap.1 hx
 exact A0Z c x hc
theorem T7  {t:Nat} {r:l8_} (ht:t<=l.length) (h:l.drop t=s.flatMap Od++r) (hs:JM s) (hr:O7 r):Iz l t=.ok (s,l.length-r.length):=by
 obtain ⟨a,b,-⟩:=Gm ht h (YH s) hr
 unfold Iz
 rw [a,Re]
 simp only
 rw [A2 (λh=>h.elim hs.1 hs.2.1),A2 (by have:=hs.2.2;omega),b]
theorem Ru (c:UInt8) (o r:l8_):D0 1 o (U0 c++r)=D0 1 (o++[c]) r:=by
 unfold U0
 split
 ·
  next h =>
  show D0 1 o (92::c::r)=_
  rw [QB]
  have he:Hf c r=([c],r):=by rcases h with rfl | rfl | rfl <;> rfl
  rw [he]
 ·
  next h =>
  split
  ·
   show D0 1 o (92::ch (48+(c.toNat:Int) / 64)::ch (48+(c.toNat:Int) / 8 % 8)::ch (48+(c.toNat:Int) % 8)::r)=_
   rw [QB,Zh]
  ·
   next h2 =>
   exact Rv _ _ _ _ (λe=>h (.inl e)) (λe=>h (.inr (.inl e))) (λe=>h (.inr (.inr e))) (λe=>by subst e;exact h2 (.inl dD))
theorem Ny:∀ (s o r:l8_),D0 1 o (s.flatMap U0++r)=D0 1 (o++s) r
 | [],o,r=>by simp
 | c::s,o,r=>by rw [Dx,AS,Ru,Ny s];simp
theorem Y2  {t:Nat} {r:l8_} (ht:t<=l.length) (h:l.drop t=txT s++r) (hs:s.length<=65535):JP l t=.ok (s,l.length-r.length):=by
 have hl:=BH List.length h
 have hN:FQ l (t:Int)=⟨6,0,s,((l.length-r.length:Nat):Int),0⟩:=by
  unfold FQ
  rw [A2 oO]
  rw [show (t:Int).toNat=t from rfl,h,show txT s++r=40::(s.flatMap U0++(41::r)) by simp [txT],A0x,Ny,Wy,A5 rfl]
  simp only [Gp,BT]
  rw [A2 oO]
  rfl
 unfold JP
 rw [hN]
 simp
theorem J9 (n:Int) (h:Db n=true):∃ m:Option Bool,∃ W:l8_,ED n=PQ m++W/\YG m=decide (n<0)/\(∀ c∈W,BN c=true)/\W≠[]/\Ck W=n.natAbs/\W.length<=10:=by
 have hf:=KH h
 obtain ⟨a,b,c⟩:=IA n.natAbs
 have hl:=Dv 9 n.natAbs oO
 unfold ED
 by_cases hn:n<0
 · exact ⟨some true,B0 n.natAbs,by rw [A5 hn];rfl,by rw [AR hn];rfl,a,c,b,oO⟩
 · exact ⟨none,B0 n.natAbs,by rw [A2 hn];rfl,by rw [AH hn];rfl,a,c,b,oO⟩
theorem S6 (c:UInt8) (h:BN c=true):D1 c=true:=Jx (q:=λc=>BN c=true->D1 c=true) (by decide +kernel) c h
theorem Vv (m:Option Bool):∀ x∈PQ m,D1 x=true:=by
 match m with
 | none=>exact λx hx=>by cases hx
 | some true=>exact λx hx=>by simp [PQ] at hx;subst hx;decide
 | some false=>exact λx hx=>by simp [PQ] at hx;subst hx;decide
theorem Vw (m:Option Bool) {x:UInt8} (h1:x≠45) (h2:x≠43):x ∉ PQ m:=by
 match m with
 | none=>exact λh=>by cases h
 | some true=>simp [PQ];exact h1
 | some false=>simp [PQ];exact h2
theorem Ol (n:Int) (h:Db n=true):∀ x∈ED n,D1 x=true:=by
 obtain ⟨m,W,e,-,hW,-⟩:=J9 n h
 rw [e]
 exact λx hx=>(Bj.1 hx).elim (Vv m x) λhx=>S6 x (hW x hx)
theorem A1o (n:Int) (h:Db n=true):FC (ED n)=GF n:=by
 obtain ⟨m,W,e,hm,hW,d,hv,hl⟩:=J9 n h
 have hf:=KH h
 have hs:(PQ m).length<=1:=by match m with
  | none=>simp [PQ]
  | some true=>simp [PQ]
  | some false=>simp [PQ]
 have hr:Iv (ED n)=false:=by
  unfold Iv
  rw [S8 35 _ (by rw [e];exact λhx=>(Bj.1 hx).elim (Vw m dD dD) λhx=>Dp (hW 35 hx) dD)]
  rfl
 rw [Rr _ (by rw [e,A9];omega) hr]
 have hw:FB (ED n)=(n,true):=by
  unfold FB
  rw [e,Nx m W λc r hc=>hW c (by rw [hc];simp)]
  simp only
  have f:(W.isEmpty || !W.all BN)=false:=by
   rw [AP.2 hW]
   cases W with
   | nil=>exact Dp rfl d
   | cons a b=>rfl
  rw [f]
  simp only [BV,if_false]
  rw [Sz,hv,hm]
  have g:(min n.natAbs 1099511627776)=n.natAbs:=by omega
  rw [g]
  have i:(if decide (n<0)=true then -(n.natAbs:Int) else (n.natAbs:Int))=n:=by
   by_cases hn:n<0
   · rw [AR hn,A5 rfl];omega
   · rw [AH hn,A2 dD];omega
  rw [i]
  simp [hf]
 rw [hw];rfl
theorem Zq (n:Int) (h:Db n=true):(ED n).contains 46=false:=by
 obtain ⟨m,W,e,-,hW,-⟩:=J9 n h
 cases hc:(ED n).contains 46 with
 | false=>rfl
 | true =>
  rw [List.contains_iff_mem,e] at hc
  exact Dp hc λhx=>(Bj.1 hx).elim (Vw m dD dD) λhx=>Dp (hW 46 hx) dD
theorem A2N (n:Int) (h:Db n=true):(ED n).all NC=true:=by
 obtain ⟨m,W,e,-,hW,-⟩:=J9 n h
 rw [AP,e]
 intro x hx
 rcases Bj.1 hx with hx | hx
 ·
  match m with
  | none=>cases hx
  | some true=>simp [PQ] at hx;subst hx;decide
  | some false=>simp [PQ] at hx;subst hx;decide
 · unfold NC;rw [hW x hx];rfl
theorem YA (n:Int) (h:Db n=true):Mi (ED n)=(2,n,true):=by
 unfold Mi
 rw [Zq n h,A1o n h,A2N n h]
 rfl
theorem OS (n:Int) (h:Db n=true):Jk (H7 n)=(n,true)/\(H7 n).contains 46=true/\(∀ x∈H7 n,D1 x=true):=by
 have hf:=KH h
 obtain ⟨a,b,c,d,f⟩:=Je n hf.1 hf.2
 obtain ⟨R,e,g,rl,hR,hv⟩:=OT n
 have hm:YG (if n<0 then some true else none)=decide (n<0):=by split <;> simp_all [YG]
 refine ⟨?_,?_,?_⟩
 ·
  unfold Jk
  have hs:(PQ (if n<0 then some true else none)).length<=1:=by split <;> simp [PQ]
  rw [A2 (by rw [e];simp only [A9,Aa];omega),e]
  have:=UI (if n<0 then some true else none) n 0 0 hf.1 hf.2 R hR hv hm
  simpa using this
 · rw [List.contains_iff_mem,e];simp
 ·
  rw [e]
  intro x hx
  rcases Bj.1 hx with hx | hx
  · exact Vv _ x hx
  ·
   rcases Bj.1 hx with hx | hx
   · exact S6 x (a x hx)
   ·
    rcases A7.1 hx with rfl | hx
    · decide
    · exact S6 x (hR x hx)
theorem Mv (n:Int) (h:Db n=true):∃ c r,ED n=c::r/\(BN c=true\/c=45\/c=43):=by
 obtain ⟨m,W,e,-,hW,b,-⟩:=J9 n h
 cases W with
 | nil=>exact Dp rfl b
 | cons a W =>
  match m with
  | none=>exact ⟨a,W,e,.inl (hW a (by simp))⟩
  | some true=>exact ⟨45,a::W,e,.inr (.inl rfl)⟩
  | some false=>exact ⟨43,a::W,e,.inr (.inr rfl)⟩
theorem QI (n:Int) (h:Db n=true):∃ c r,H7 n=c::r/\(BN c=true\/c=45\/c=43):=by
 have hf:=KH h
 obtain ⟨b,d,-⟩:=Je n hf.1 hf.2
 obtain ⟨R,e,-⟩:=OT n
 by_cases hn:n<0
 · rw [A5 hn] at e;exact ⟨45,_,e,.inr (.inl rfl)⟩
 ·
  rw [A2 hn] at e
  cases hw:GE n with
  | nil=>exact Dp hw d
  | cons a W=>rw [hw] at e;exact ⟨a,_,e,.inl (b a (by rw [hw];simp))⟩
end
section
theorem Tw {c:UInt8} (h:48<=c.toNat/\c.toNat<=57):D1 c=true :=
 Jx (q:=λc=>48<=c.toNat/\c.toNat<=57->D1 c=true) (by decide +kernel) c h
theorem SD {c:UInt8} (h:D1 c=true):CJ c=false/\c≠37 :=
 Jx (q:=λc=>D1 c=true->CJ c=false/\c≠37) (by decide +kernel) c h
theorem HI:∀ (B:l8_) (x:l8_),(∀ c∈B,CJ c=true)->DA false (B++x)=DA false x
 | [],_,_=>rfl
 | c::B,x,h=>by
  have hc:=h c (by simp)
  have h37:c≠37:=λe=>by subst e;revert hc;decide
  rw [Bh,<- HI B x λd hd=>h d (by simp [hd])]
  simp [DA,hc,h37]
theorem P7  {t:Nat} {B r:l8_} (h:l.drop t=B++(A++r)) (hB:∀ c∈B,CJ c=true) (hA:A≠[]) (hAr:∀ c∈A,D1 c=true) (hr:O7 r) :
  Dk l (AW false l t)=A/\Bq l (AW false l t)=l.length-r.length/\l.drop (Bq l (AW false l t))=r/\AW false l t<l.length:=by
 obtain ⟨c,A',rfl⟩:=List.exists_cons_of_ne_nil hA
 have hc:=SD (hAr c (by simp))
 have hs:DA false (l.drop t)=(c::A')++r:=by rw [h,HI B _ hB,Bh,EH hc.1 hc.2]
 obtain ⟨e,b⟩:=HH hs
 have a:=Gm (E3 false l t) b hAr hr
 refine ⟨a.1,a.2.1,a.2.2,?_⟩
 rw [e]
 have d:=BH List.length b
 rw [Aq] at d
 simp only [A9,Aa] at d ⊢
 omega
theorem Nh (n:Nat):B0 n≠[]:=by
 by_cases h:n<10
 · rw [Eg n h];simp
 · rw [Ie n oO];simp
theorem Ng (n:Nat):∀ c∈B0 n,D1 c=true:=λc hc=>Tw (I0 n c hc)
theorem XE {c:UInt8} {r:l8_} (h:CJ c=true):O7 (c::r):=O7.cons (by simp [D1,h])
theorem Zn  {t n:Nat} {r:l8_} (hn:n<10000000000) (h:l.drop t=DX n++r) :
  t+20<=l.length/\(l.drop t).take 10=GG n/\((l.drop t).drop 10).take 10=F9/\l.drop (t+20)=r:=by
 have a:=JQ hn
 have b:=BH List.length h
 rw [Aq,A9,Js hn] at b
 refine ⟨oO,?_,?_,?_⟩
 · rw [h,DX,AS,<- a,List.take_left]
 · rw [h,DX,AS,<- a,List.drop_left,a];rfl
 · rw [<- DU,h,<- Js hn,List.drop_left]
end
section
open Go.RowKit Go.ChangeMaps Go.MapKept
structure Dn (P:Program) (k e:TypeId) (w:World) (b n:Nat) (g:Int->Option Int) (c:Nat):Prop where
 ex:∃ D:DataW Unit,w.ownsMap P k (plainElem P e) b n D/\Maps.size D=c/\∀ a,(Lit.int .i64 a).wf=true->Maps.has D (.int .i64 a)=(g a).isSome/\D.atKey (.int .i64 a) (.lit (.int .i64 0))=.lit (.int .i64 ((g a).getD 0))
section
variable {P:Program} {k e t:TypeId} {w w1:World} {b n c:Nat} {g:Int->Option Int}
theorem Dn.lt (h:Dn P k e w b n g c):b<w.heap.size:=by obtain ⟨D,a,-⟩:=h.ex;exact a.lt
theorem Dn.same (h:Dn P k e w b n g c) (hs:∀ j,j=b->j<w.heap.size->w1.heap[j]?=w.heap[j]?):Dn P k e w1 b n g c:=by
 obtain ⟨D,⟨es,clock,a,d⟩,f⟩:=h.ex
 exact ⟨D,⟨es,clock,(hs b rfl (B5.1 a).1).trans a,d⟩,f⟩
theorem XB (w:World):Dn P k e (w.alloc (.map #[] 0)) w.heap.size 0 (λ_=>none) 0 :=
 ⟨.map [],World.ownsMap_made w P k _,rfl,λa _=>⟨rfl,rfl⟩⟩
theorem Dn.look (h:Dn P k e w b n g c) (ok:Bool) (hk:P.underlying k=some (.int .i64)) (he:P.underlying e=some (.int .i64)) (ht:P.underlying t=some (.map k e)) (hz:(zeroValue e).run P w=.ok (.int .i64 0) w)
 (ha:(Lit.int .i64 a).wf=true):(Instr.lookup t (.map (some b)) (.int .i64 a) ok).run P w=.ok (if ok then .tuple #[.int .i64 ((g a).getD 0),.bool (g a).isSome] else .int .i64 ((g a).getD 0)) w:=by
 obtain ⟨D,i,-,m⟩:=h.ex
 obtain ⟨o,j⟩:=m a ha
 cases ok with
 | true =>
  obtain ⟨v,ps,f,d⟩:=i.look_ok (Maps.int_keyed hk) ht hz (plainElem_int he dD) (Maps.keyOf_int_mk hk ha)
  rw [j] at d
  obtain ⟨x,rfl,l,-⟩:=plainElem_int_inv he d
  simp only [Co,DataW.lit.injEq,Lit.int.injEq,true_and] at l
  rw [f,o,l.1];rfl
 | false =>
  obtain ⟨x,f,d,-⟩:=i.lookup_int (Maps.int_keyed hk) ht he hz (Maps.keyOf_int_mk hk ha)
  rw [j] at d
  simp only [DataW.lit.injEq,Lit.int.injEq,true_and] at d
  rw [f,d];rfl
theorem Dn.put (h:Dn P k e w b n g c) (hk:P.underlying k=some (.int .i64)) (he:P.underlying e=some (.int .i64)) (ht:P.underlying t=some (.map k e)) (hn:n<1000000000)
 {v:Int} (ha:(Lit.int .i64 a).wf=true) (hv:(Lit.int .i64 v).wf=true):∃ w1,(Instr.mapUpdate t (.map (some b)) (.int .i64 a) (.int .i64 v)).run P w=.ok () w1 /\
      Dn P k e w1 b (n+1) (λx=>if x=a then some v else g x) (if (g a).isSome then c else c+1)/\CP b w w1/\w1.heap.size=w.heap.size:=by
  obtain ⟨D,i,m,l⟩:=h.ex
  have hT:=i.tidy (Maps.int_keyed hk)
  obtain ⟨w1,o,s,f⟩:=i.store (Maps.int_keyed hk) ht (by unfold maxLen;omega) (Maps.keyOf_int_mk hk ha) (plainElem_int (H:=Unit) he hv)
  refine ⟨w1,o,⟨_,s,?_,λx hx=>?_⟩,?_,?_⟩
  · rw [Maps.size_put hT,(l a ha).1,m]
  · by_cases hxa : x = a
    · subst hxa
      rw [Maps.has_put_same hT.isMap (by trivial),Maps.atKey_put_same hT.isMap (by trivial)]
      simp
    · have d : Lit.int .i64 x ≠ Lit.int .i64 a := fun q => hxa (by cases q; rfl)
      rw [Maps.has_put_other d,Maps.atKey_put_other d]
      simp only [A2 hxa]
      exact l x hx
  · have hg := f.grown
    exact ⟨hg.os,hg.tape,hg.output,hg.size,λj hj=>by
      rcases By j w.heap.size with hl | hl
      · exact hg.block j hl (λq=>hj (by cases q;rfl))
      · obtain ⟨es, ck, es', ck', hb, rfl⟩ := f
        simp only [setBlock]
        rw [Array.getElem?_setIfInBounds_ne (λq=>hj q.symm)]⟩
  · obtain ⟨es, ck, es', ck', hb, rfl⟩ := f
    simp [setBlock]
end
section
variable {P:Program} {n:Sh} {f:Fr}
theorem ZP  {rest:List Oper} {d ty:Nat} {t:TypeId} (k e:TypeId) (hd:Nat.blt d n.n=true)
  (hk:∀ b w1,b=w.heap.size->Dn P k e w1 b 0 (λ_=>none) 0->CP b w w1->w1.heap.size=b+1->WL P n ops Q rest ((d,.map (some b))::f) w1) :
  WL P n ops Q (⟨some d,.makeMap t none,ty,pos,aft,none⟩::rest) f w :=
 WL.run hd (w':=w.alloc (.map #[] 0)) (v:=.map (some w.heap.size)) (λρ _=>by
  simp [execOp,run_makeMap]) (hk _ _ rfl (XB w) (CP.alloc _ _) (by simp))
theorem ZZ  {t k:TypeId} {b m:Nat} {g:Int->Option Int} (h:Dn P k e w b m g c) (hk:P.underlying k=some (.int .i64)) (he:P.underlying e=some (.int .i64)) (ht:P.underlying t=some (.map k e))
  (hz:∀ w,(zeroValue e).run P w=.ok (.int .i64 0) w) (hx:CE f x=some (.map (some b))) (hy:CE f y=some (.int .i64 a)) (ha:(Lit.int .i64 a).wf=true):Rd P (.lookup t x y false) f w (.int .i64 ((g a).getD 0)):=λρ hρ d ty pos aft gd=>by
 simp [execOp,hρ _ _ hx,hρ _ _ hy,h.look false hk he ht (hz w) ha]
theorem ZY  {t k:TypeId} {b m:Nat} {g:Int->Option Int} (h:Dn P k e w b m g c) (hk:P.underlying k=some (.int .i64)) (he:P.underlying e=some (.int .i64)) (ht:P.underlying t=some (.map k e))
  (hz:∀ w,(zeroValue e).run P w=.ok (.int .i64 0) w) (hx:CE f x=some (.map (some b))) (hy:CE f y=some (.int .i64 a)) (ha:(Lit.int .i64 a).wf=true):Rd P (.lookup t x y true) f w (.tuple #[.int .i64 ((g a).getD 0),.bool (g a).isSome]):=λρ hρ d ty pos aft gd=>by
 simp [execOp,hρ _ _ hx,hρ _ _ hy,h.look true hk he ht (hz w) ha]
theorem ZO  {rest:List Oper} {ty:Nat} {t k:TypeId} {z:Operand} {b m:Nat} {g:Int->Option Int} {v:Int} (h:Dn P k e w b m g c)
  (hk:P.underlying k=some (.int .i64)) (he:P.underlying e=some (.int .i64)) (ht:P.underlying t=some (.map k e)) (hx:CE f x=some (.map (some b))) (hy:CE f y=some (.int .i64 a)) (hz:CE f z=some (.int .i64 v)) (ha:(Lit.int .i64 a).wf=true) (hv:(Lit.int .i64 v).wf=true) (hm:m<1000000000)
  (kk:∀ w1,Dn P k e w1 b (m+1) (λq=>if q=a then some v else g q) (if (g a).isSome then c else c+1)->CP b w w1->w1.heap.size=w.heap.size->WL P n ops Q rest f w1) :
  WL P n ops Q (⟨none,.mapUpdate t x y z,ty,pos,aft,none⟩::rest) f w:=by
 obtain ⟨w1,d,i,j,l⟩:=h.put hk he ht hm ha hv
 exact PF (w':=w1) (λρ hρ=>by simp [execOp,hρ _ _ hx,hρ _ _ hy,hρ _ _ hz,d]) (kk w1 i j l)
end
end
section
theorem A0H (n:Nat) (w:World) (hn:n<10000000000):Cl 20 #[Ag (n:Int)] w (.string (bs (GG n))):=by
 have hd:ED (n:Int)=B0 n:=by unfold ED;rw [A2 oO];simp
 have hl:=Dv 9 n oO
 refine AF func20 rfl ntmps20 ?_
 have b:=Dh w
 refine A4<|A8 rfl<|A4<|A3 rfl<|Au (Kt n _ oO oO) (λg c=>?_)
 have d:=Ci b c
 rw [hd]
 refine A8 rfl<|Ad<|AT<|BO (α:=Nat) (λt=>[(3,.string (bs (List.replicate t 48++B0 n)))]) (λt w'=>AL w w'/\t+(B0 n).length<=10) (λt=>10-t) (0) ⟨rfl,tT⟩ (⟨d,oO⟩) (λt g hR=>?_)
 obtain ⟨k,rfl⟩:=eX t
 obtain ⟨hT,hk⟩:=hR
 refine Ad<|A4<|A3 rfl<|A1 (.iis ((k+(B0 n).length:Int)) (.len FV rfl) (by simp))<|A1 (.lss rfl rfl)<|A0<|Ai rfl (λa=>?_) (λa=>?_)
 have f:=dT a
 refine As<|AT<|An<|A3 rfl<|A1 (.cat rfl rfl (by simp only [A9,Aa,Am,CH];omega))<|A8 rfl ?_
 exact ⟨k+1,⟨rfl,tT⟩,⟨hT,oO⟩,oO⟩
 have f:=dF a
 refine BL<|A4<|A3 rfl<|A8 rfl<|AY ?_
 exact ⟨EO (by rw [show k=10-(B0 n).length by omega];rfl),hT⟩
theorem CN (w:World):Calls Tryz.prog 25 #[.bool true] w λe w'=>e=.returned (.tuple #[])/\w=w':=by
 refine AF func25 rfl ntmps25<|A4<|A3 rfl<|A1 (.not rfl)<|A0<|Ay rfl rfl<|As<|D9 (CU rfl ?_)
 exact ⟨rfl,rfl⟩
theorem Ia (p:Option Addr) (l:l8_) (c t:Nat) (w:World) (ht:t<=l.length) (hb:Af w p l) (hl:l.length<=100000000) :
  Calls Tryz.prog 53 #[.slice p l.length c,Ag (t:Int)] w λe w'=>e=.returned (Ag (AW false l t:Int))/\w=w':=by
 have h:=J0 p l c (t:Int) w hb hl
 rwa [K8 l t ht] at h
theorem GK (p:Option Addr) (l:l8_) (c t:Nat) (w:World) (ht:t<=l.length) (hb:Af w p l) (hc:l.length<=c) (hl:l.length<=100000000) :
  Calls Tryz.prog 50 #[.slice p l.length c,Ag (t:Int)] w λe w'=>e=.returned (.tuple #[.string (bs (Dk l t)),Ag (Bq l t:Int)])/\w=w':=by
 have h:=QO p l c (t:Int) w hb hc hl
 rwa [K8 l t ht] at h
def IK (p:Option Addr) (l:l8_) (c t:Nat):Array Value:=#[.slice p l.length c,Ag (t:Int)]
theorem A0J (br:Nat) (p:Option Addr) (l:l8_) (c t:Nat) (s:l8_) (w:World) (h:B4 w br (IK p l c t) 78) (hb:Af w p l) (hc:l.length<=c) (hl:l.length<=100000000) (ht:t<=l.length)
  (hpb:0<l.length->(pA p).block≠br) (hw:Dk l (AW false l t)=s) :
  Calls Tryz.prog 52 #[ptV br,.string (bs s)] w λe w'=>e=.returned (.tuple #[])/\B9 w.heap.size [br] w w'/\B4 w' br (IK p l c (Bq l (AW false l t))) 78:=by
 refine AF func52 rfl ntmps52 ?_
 have k:=B9.refl w.heap.size ([br]) w
 refine Ad<|DF 19 rfl BS (λw'=>w'.heap[br]?=w.heap[br]?/\True) (λy f=>?_)
 have g:=h.drew f
 have i:=hb.drew f
 have m:=E7 k (RU f)
 have a:=BU (g.trans h.symm) BF
 refine Ac 0 rfl (.mv rfl) a ?_
 refine Ac 1 rfl (.nck rfl) a ?_
 refine Ac 2 rfl (.fa Dy rfl CZ dD rfl) a ?_
 refine C6 3 rfl (λw' hw'=>Ae (g22_ _) rfl ((hw'.1).trans h) rfl) a rfl ?_
 refine Ac 4 rfl (.mv rfl) a ?_
 refine Ac 5 rfl (.nck rfl) a ?_
 refine Ac 6 rfl (.fa Dy rfl CZ dD rfl) a ?_
 refine C6 7 rfl (λw' hw'=>Ae (g22_ _) rfl ((hw'.1).trans h) rfl) a rfl ?_
 refine Ac 8 rfl (.mv rfl) a ?_
 refine Ac 9 rfl (.nck rfl) a ?_
 refine Ac 10 rfl (.fa Dy rfl BI dD rfl) a ?_
 refine C6 11 rfl (λw' hw'=>Ae (C5 _) rfl ((hw'.1).trans h) rfl) a rfl ?_
 refine Br 12 rfl<|Au (Ia p l c t _ ht i hl) (λA o=>?_)
 obtain rfl:=o
 refine A0<|⟨a,?_⟩
 refine Br 13 rfl<|Au (GK p l c (AW false l t) _ (E3 _ _ _) i hc hl) (λB q=>?_)
 obtain rfl:=q
 refine A0<|⟨a,?_⟩
 refine Ac 14 rfl (.mv rfl) a ?_
 refine Ac 15 rfl (.ext rfl rfl) a ?_
 refine Ac 16 rfl (.ext rfl rfl) a ?_
 refine Ac 17 rfl (.as rfl) a ?_
 refine Ac 18 rfl (.as rfl) a ?_
 refine C3 kR<|A4<|A3 rfl<|A3 rfl<|A1 (.bis (true) (.eqs rfl rfl) (by simp [hw]))<|Au (CN _) (λC u=>?_)
 obtain rfl:=u
 refine A0<|An<|A3 rfl<|A3 rfl<|A1 (.nck rfl)<|A1 (.fa Dy rfl BI dD rfl)<|BA BI rfl rfl rfl g (by exact Nat.le_of_ble_eq_true rfl) (λv b d x=>?_)
 have b:B4 v br _ _:=b
 have d:CP br _ _:=d
 have j:=E7 m (by exact Qc d (by simp))
 refine A0<|D9 (CU rfl ?_)
 exact ⟨rfl,j,b⟩
theorem JV (p:Option Addr) (s:l8_) (n c:Nat) (w:World) (hn:s.length=n) (hb:Af w p s) (hl:s.length<=10) (hd:s.all BN=true) :
  Cl 51 #[.slice p n c] w (Ag (Ck s:Int)):=by
 subst hn
 have a:=AP.1 hd
 refine AF func51 rfl ntmps51 ?_
 have g:=Dh w
 refine A4<|A8 rfl<|A4<|A3 rfl<|Aj (Fa (l:=s) B1 Ga FV rfl (hb))<|Au (Mj s [48,49,50,51,52,53,54,55,56,57] _ oO dD dD) (λh b=>?_)
 have d:=Fh hb b (λo=>hb.lt o)
 have j:=Ci g b
 refine A1 (.bis (true) (.eqs rfl rfl) (by rw [OD];exact hd))<|Au (CN _) (λy k=>?_)
 obtain rfl:=k
 refine A0<|A4<|A8 rfl<|Ad<|A4<|A3 rfl<|A1 (.lenS B1 rfl)<|A3 rfl<|A0<|AT<|BO (α:=Nat) (λt=>[(0,.slice p s.length c),(3,Ag (Ck (s.take t):Int)),(11,.slice p s.length c),(12,Ag (s.length:Int)),(13,Ag (t:Int))]) (λt w'=>h=w'/\t<=s.length) (λt=>s.length-t) (0) ⟨rfl,rfl,rfl,rfl,rfl,tT⟩ (⟨rfl,FN _⟩) (λt h hR=>?_)
 obtain ⟨i,rfl⟩:=eX t
 obtain ⟨rfl,hi⟩:=hR
 refine A4<|A1 (.lss rfl rfl)<|A0<|Ad<|Ai rfl (λf=>?_) (λf=>?_)
 have m:=dT f
 refine As<|Ad<|AT<|Ad ?_
 have q:=GO s i oO
 have u:=Ek (a _ (Ar (show i<s.length by omega)))
 have v:=H9 (s.take i) (λc hc=>a c (EA hc))
 have x:10 ^ (s.take i).length<=10 ^ 9:=Nat.pow_le_pow_right oO (by rw [Ap];omega)
 refine An<|A1 (.ixb B1 EC rfl rfl (d.isp oO) (i) (rfl) oO)<|Aj (BG (IU _) rfl (d.cells (i) oO))<|A8 rfl<|An<|A3 rfl<|A1 (.mul rfl rfl (Bb oO))<|A3 rfl<|A1 (.sub rfl rfl (PO oO))<|A1 (.cvt Ga ML rfl (Bb oO))<|A1 (.iis ((Ck (s.take (i+1)):Int)) (.add rfl rfl (Bb oO)) oO)<|A8 rfl<|An<|A1 (.iis (((i+1:Nat):Int)) (.add rfl rfl (Bb oO)) oO)<|A3 rfl<|A0<|?_
 exact ⟨i+1,⟨rfl,rfl,rfl,rfl,rfl,tT⟩,⟨rfl,oM⟩,oM⟩
 have m:=dF f
 refine BL<|Ad ?_
 obtain rfl:i=s.length:=by omega
 rw [D7]
 refine An<|A3 rfl<|A8 rfl<|AY ?_
 exact ⟨rfl,j⟩
theorem WB (br:Nat) (p:Option Addr) (l:l8_) (c t:Nat) (s:l8_) (w:World) (h:B4 w br (IK p l c t) 78) (hb:Af w p l) (hc:l.length<=c) (hl:l.length<=100000000) (ht:t<=l.length)
  (hpb:0<l.length->(pA p).block≠br) (hw:Dk l (AW false l t)=s) (hs:Fv s=true) :
  Calls Tryz.prog 75 #[ptV br] w λe w'=>e=.returned (Ag (Ck s:Int))/\B9 w.heap.size [br] w w'/\B4 w' br (IK p l c (Bq l (AW false l t))) 78:=by
 have d:=hs
 unfold Fv at d
 simp only [AG,AI,BE,Bg] at d
 have j:=AP.1 d.2
 refine AF func75 rfl ntmps75 ?_
 have H:=B9.refl w.heap.size ([br]) w
 refine A4<|A8 rfl<|Ad<|DF 19 rfl BS (λw'=>w'.heap[br]?=w.heap[br]?/\True) (λV k=>?_)
 have v:=h.drew k
 have x:=hb.drew k
 have J:=E7 H (RU k)
 have a:=BU (v.trans h.symm) BF
 refine Ac 0 rfl (.mv rfl) a ?_
 refine Ac 1 rfl (.nck rfl) a ?_
 refine Ac 2 rfl (.fa Dy rfl CZ dD rfl) a ?_
 refine C6 3 rfl (λw' hw'=>Ae (g22_ _) rfl ((hw'.1).trans h) rfl) a rfl ?_
 refine Ac 4 rfl (.mv rfl) a ?_
 refine Ac 5 rfl (.nck rfl) a ?_
 refine Ac 6 rfl (.fa Dy rfl CZ dD rfl) a ?_
 refine C6 7 rfl (λw' hw'=>Ae (g22_ _) rfl ((hw'.1).trans h) rfl) a rfl ?_
 refine Ac 8 rfl (.mv rfl) a ?_
 refine Ac 9 rfl (.nck rfl) a ?_
 refine Ac 10 rfl (.fa Dy rfl BI dD rfl) a ?_
 refine C6 11 rfl (λw' hw'=>Ae (C5 _) rfl ((hw'.1).trans h) rfl) a rfl ?_
 refine Br 12 rfl<|Au (Ia p l c t _ ht x hl) (λw5 K=>?_)
 obtain rfl:=K
 refine A0<|⟨a,?_⟩
 refine Br 13 rfl<|Au (GK p l c (AW false l t) _ (E3 _ _ _) x hc hl) (λw6 L=>?_)
 obtain rfl:=L
 refine A0<|⟨a,?_⟩
 refine Ac 14 rfl (.mv rfl) a ?_
 refine Ac 15 rfl (.ext rfl rfl) a ?_
 refine Ac 16 rfl (.ext rfl rfl) a ?_
 refine Ac 17 rfl (.as rfl) a ?_
 refine Ac 18 rfl (.as rfl) a ?_
 refine C3 kR<|Ad ?_
 rw [hw]
 refine An<|A3 rfl<|A1 (.bis (true) (.nes rfl rfl) (by simp [d.1.1]))<|A3 rfl<|AE rfl<|A3 rfl<|AE rfl<|A1 (.len FV rfl)<|AE rfl<|A1 (.bis (true) (.leq rfl rfl) (by simp;omega))<|A1 (.pkT rfl rfl rfl)<|A3 rfl<|AE rfl<|A3 rfl<|AE rfl<|Au (Mj s [48,49,50,51,52,53,54,55,56,57] _ oO dD dD) (λw7 y=>?_)
 have N:=v.bl y
 have A:=kB J y
 refine AE rfl<|A1 (.bis (true) (.eqs rfl rfl) (by rw [OD];exact d.2))<|A1 (.pkT rfl rfl rfl)<|Au (CN _) (λX B=>?_)
 obtain rfl:=B
 refine A0<|A4<|A3 rfl<|A3 rfl<|A1 (.nck rfl)<|A1 (.fa Dy rfl BI dD rfl)<|BA BI rfl rfl rfl N (by exact Nat.le_of_ble_eq_true rfl) (λP b f T=>?_)
 have b:B4 P br _ _:=b
 have f:CP br _ _:=f
 have m:=E7 A (by exact Qc f (by simp))
 refine A0<|A4<|A8 rfl<|Ad<|A4<|A3 rfl<|Vf FV B1 Ga rfl rfl (λQ C cz o hz a0 g U=>?_)
 have D:=Bt o b.lt
 have E:=b.un g D
 have q:=CW o m.size
 have F:=E7 m (Ip g q)
 refine A1 (.lenS B1 rfl)<|A3 rfl<|A0<|AT<|BO (α:=Nat) (λt=>[(0,ptV br),(5,Ag (Ck (s.take t):Int)),(43,.slice (some ⟨Q,0,none⟩) s.length cz),(44,Ag (s.length:Int)),(45,Ag (t:Int))]) (λt w'=>C=w'/\t<=s.length) (λt=>s.length-t) (0) ⟨rfl,rfl,rfl,rfl,rfl,tT⟩ (⟨rfl,FN _⟩) (λt V hR=>?_)
 obtain ⟨i,rfl⟩:=eX t
 obtain ⟨rfl,hi⟩:=hR
 refine A4<|A1 (.lss rfl rfl)<|A0<|Ad<|Ai rfl (λu=>?_) (λu=>?_)
 have G:=dT u
 refine As<|Ad<|AT<|A4<|A1 (.ixb B1 EC rfl rfl (hz.isp oO) (i) (rfl) oO)<|Aj (BG (IU _) rfl (hz.cells (i) oO))<|A8 rfl ?_
 have a1:=GO s i oO
 have a2:=Ek (j _ (Ar (show i<s.length by omega)))
 have a3:=H9 (s.take i) (λc hc=>j c (EA hc))
 have a4:10 ^ (s.take i).length<=10 ^ 9:=Nat.pow_le_pow_right oO (by rw [Ap];omega)
 refine An<|A3 rfl<|A1 (.mul rfl rfl (Bb oO))<|A3 rfl<|A1 (.sub rfl rfl (PO oO))<|A1 (.cvt Ga ML rfl (Bb oO))<|A1 (.iis ((Ck (s.take (i+1)):Int)) (.add rfl rfl (Bb oO)) oO)<|A8 rfl<|An<|A1 (.iis (((i+1:Nat):Int)) (.add rfl rfl (Bb oO)) oO)<|A3 rfl<|A0<|?_
 exact ⟨i+1,⟨rfl,rfl,rfl,rfl,rfl,tT⟩,⟨rfl,oM⟩,oM⟩
 have G:=dF u
 refine BL<|Ad ?_
 obtain rfl:i=s.length:=by omega
 rw [D7]
 refine An<|A3 rfl<|A8 rfl<|AY ?_
 exact ⟨rfl,F,E⟩
theorem Th (c:UInt8):decide (0<=Lib.indexByte [0,9,10,12,13,32] c)=CJ c:=Jx (q:=λc=>decide (0<=Lib.indexByte [0,9,10,12,13,32] c)=CJ c) (by decide +kernel) c
theorem WJ (br:Nat) (p:Option Addr) (l:l8_) (c t0 k:Nat) (w:World) (h:B4 w br (IK p l c t0) 78) (hb:Af w p l) (hl:l.length<=100000000) (hk:0<k) (ht:t0+k<=l.length)
    (hpb:0<l.length->(pA p).block≠br) (hB:∀ j (hj:j<l.length),t0<=j->j<t0+k->CJ l[j]=true) (hE:∀ (hj:t0+k<l.length),CJ l[t0+k]=false) :
    Calls Tryz.prog 29 #[ptV br] w λe w'=>e=.returned (.tuple #[])/\B9 w.heap.size [br] w w'/\B4 w' br (IK p l c (t0+k)) 78:=by
  refine AF func29 rfl ntmps29 ?_;have C:=B9.refl w.heap.size ([br]) w;refine A4<|A3 rfl<|A1 (.nck rfl)<|A1 (.fa Dy rfl BI dD rfl)<|Aj (Ae (C5 _) rfl h rfl)<|A8 rfl<|Ad<|AT<|BO (α:=Nat) (λt=>[(0,ptV br),(2,Ag (t0:Int))]) (λt w'=>B9 w.heap.size [br] w w'/\B4 w' br (IK p l c t) 78/\Af w' p l/\t0<=t/\t<=t0+k) (λt=>t0+k-t) (t0) ⟨rfl,rfl,tT⟩ (⟨C,h,hb,DS _,oO⟩) (λt D hR=>?_);obtain ⟨i,rfl⟩:=eX t;obtain ⟨J,d,K,V,X⟩:=hR;refine Ad<|Ad<|DF 24 rfl BS (λw'=>w'.heap[br]?=D.heap[br]?/\Af w' p l/\True) (λD u=>?_);have a:=d.drew u;have b:=K.drew u;have v:=E7 J (RU u);refine Ac 0 rfl (.mv rfl) ⟨(a).trans (d).symm,b,tT⟩ ?_;refine Ac 1 rfl (.nck rfl) ⟨(a).trans (d).symm,b,tT⟩ ?_;refine Ac 2 rfl (.fa Dy rfl BI dD rfl) ⟨(a).trans (d).symm,b,tT⟩ ?_;refine C6 3 rfl (λw' hw'=>Ae (C5 _) rfl ((hw'.1).trans d) rfl) ⟨(a).trans (d).symm,b,tT⟩ rfl ?_;refine Ac 4 rfl (.mv rfl) ⟨(a).trans (d).symm,b,tT⟩ ?_;refine Ac 5 rfl (.nck rfl) ⟨(a).trans (d).symm,b,tT⟩ ?_;refine Ac 6 rfl (.fa Dy rfl CZ dD rfl) ⟨(a).trans (d).symm,b,tT⟩ ?_;refine C6 7 rfl (λw' hw'=>Ae (g22_ _) rfl ((hw'.1).trans d) rfl) ⟨(a).trans (d).symm,b,tT⟩ rfl ?_;refine Ac 8 rfl (.lenS B1 rfl) ⟨(a).trans (d).symm,b,tT⟩ ?_;refine Ac 9 rfl (.lss rfl rfl) ⟨(a).trans (d).symm,b,tT⟩ ?_;refine Ac 10 rfl (.mv rfl) ⟨(a).trans (d).symm,b,tT⟩ ?_;refine A3L (dj:=17) true rfl (λf=>?_) (λf=>?_)
  · have E := dT f
    refine Kj 11 rfl rfl rfl f (λ_ _=>Bz.rd (.mv rfl)) ⟨(a).trans (d).symm,b,tT⟩ rfl ?_;refine Kj 12 rfl rfl rfl f (λ_ _=>Bz.rd (.nck rfl)) ⟨(a).trans (d).symm,b,tT⟩ rfl ?_;refine Kj 13 rfl rfl rfl f (λ_ _=>Bz.rd (.fa Dy rfl CZ dD rfl)) ⟨(a).trans (d).symm,b,tT⟩ rfl ?_;refine Kj 14 rfl rfl rfl f (λw' hw'=>Ae (g22_ _) rfl ((hw'.1).trans d) rfl) ⟨(a).trans (d).symm,b,tT⟩ rfl ?_;refine Kj 15 rfl rfl rfl f (λ_ _=>Bz.rd (.mv rfl)) ⟨(a).trans (d).symm,b,tT⟩ rfl ?_;refine Kj 16 rfl rfl rfl f (λ_ _=>Bz.rd (.nck rfl)) ⟨(a).trans (d).symm,b,tT⟩ rfl ?_;refine Kj 17 rfl rfl rfl f (λ_ _=>Bz.rd (.fa Dy rfl BI dD rfl)) ⟨(a).trans (d).symm,b,tT⟩ rfl ?_;refine Kj 18 rfl rfl rfl f (λw' hw'=>Ae (C5 _) rfl ((hw'.1).trans d) rfl) ⟨(a).trans (d).symm,b,tT⟩ rfl ?_;refine Kj 19 rfl rfl rfl f (λ_ _=>Bz.rd (.ixb B1 EC rfl rfl (b.isp oO) (i) (rfl) oO)) ⟨(a).trans (d).symm,b,tT⟩ rfl ?_;refine Kj 20 rfl rfl rfl f (λw' hw'=>BG (IU _) rfl ((hw'.2.1).cells (i) oO)) ⟨(a).trans (d).symm,b,tT⟩ rfl ?_;refine Br 21 rfl<|AE f<|Au (K6 [0,9,10,12,13,32] l[i] _) (λw6 F=>?_);obtain rfl:=F;refine A0<|⟨⟨(a).trans (d).symm,b,tT⟩,?_⟩;refine Kj 22 rfl rfl rfl f (λ_ _=>Bz.rd (.geq rfl rfl)) ⟨(a).trans (d).symm,b,tT⟩ rfl ?_;refine Ac 23 rfl (.pkT rfl f rfl) ⟨(a).trans (d).symm,b,tT⟩ ?_;refine C3 kR<|Ai rfl (λx=>?_) (λx=>?_)
    · have G := dT x
      have m:CJ l[i]=true:=by rw [<- Th];exact AR aS
      have P:i<t0+k:=Nat.lt_of_not_le λq=>by
        have e:i=t0+k:=by omega
        subst e;rw [hE oO] at m;cases m
      refine As<|AT<|An<|A3 rfl<|A1 (.nck rfl)<|A1 (.fa Dy rfl BI dD rfl)<|Aj (Ae (C5 _) rfl a rfl)<|A1 (.iis (((i+1:Nat):Int)) (.add rfl rfl (Bb oO)) oO)<|A1 (.nck rfl)<|A1 (.fa Dy rfl BI dD rfl)<|BA BI rfl rfl rfl a (by exact Nat.le_of_ble_eq_true rfl) (λL o g N=>?_);have o:B4 L br _ _:=o;have g:CP br _ _:=g;have H:=Af.upd b g (hpb);have y:=E7 v (by exact Qc g (by simp));refine A0<|?_;exact ⟨i+1,⟨rfl,rfl,tT⟩,⟨y,o,H,oO,oO⟩,oO⟩
    have G:=dF x;have Q:i=t0+k:=by
      rcases By i (t0+k) with q | q
      · have m := hB i oO oO q
        rw [<- Th] at m;have:=dT m
        omega
      · omega
    refine BL ?_;have s:i=t0+k:=by omega
    subst s;refine An<|A3 rfl<|A1 (.nck rfl)<|A1 (.fa Dy rfl BI dD rfl)<|Aj (Ae (C5 _) rfl a rfl)<|A3 rfl<|A1 (.bis (true) (.gtr rfl rfl) (by simp;omega))<|Au (CN _) (λT A=>?_);obtain rfl:=A;refine A0<|D9 (CU rfl ?_);exact ⟨rfl,v,a⟩
  have E:=dF f;refine JK 11 rfl rfl rfl f ⟨(a).trans (d).symm,b,tT⟩ rfl ?_;refine JK 12 rfl rfl rfl f ⟨(a).trans (d).symm,b,tT⟩ rfl ?_;refine JK 13 rfl rfl rfl f ⟨(a).trans (d).symm,b,tT⟩ rfl ?_;refine JK 14 rfl rfl rfl f ⟨(a).trans (d).symm,b,tT⟩ rfl ?_;refine JK 15 rfl rfl rfl f ⟨(a).trans (d).symm,b,tT⟩ rfl ?_;refine JK 16 rfl rfl rfl f ⟨(a).trans (d).symm,b,tT⟩ rfl ?_;refine JK 17 rfl rfl rfl f ⟨(a).trans (d).symm,b,tT⟩ rfl ?_;refine JK 18 rfl rfl rfl f ⟨(a).trans (d).symm,b,tT⟩ rfl ?_;refine JK 19 rfl rfl rfl f ⟨(a).trans (d).symm,b,tT⟩ rfl ?_;refine JK 20 rfl rfl rfl f ⟨(a).trans (d).symm,b,tT⟩ rfl ?_;refine JK 21 rfl rfl rfl f ⟨(a).trans (d).symm,b,tT⟩ rfl ?_;refine JK 22 rfl rfl rfl f ⟨(a).trans (d).symm,b,tT⟩ rfl ?_;refine Ac 23 rfl (.pkF rfl f rfl) ⟨(a).trans (d).symm,b,tT⟩ ?_;refine C3 kR<|Ay rfl rfl<|BL ?_;have s:i=t0+k:=by omega
  subst s;refine An<|A3 rfl<|A1 (.nck rfl)<|A1 (.fa Dy rfl BI dD rfl)<|Aj (Ae (C5 _) rfl a rfl)<|A3 rfl<|A1 (.bis (true) (.gtr rfl rfl) (by simp;omega))<|Au (CN _) (λU B=>?_);obtain rfl:=B;refine A0<|D9 (CU rfl ?_);exact ⟨rfl,v,a⟩
end
section
theorem SG (bf bm m cnt:Nat) (cs:Array Value) (p:Option Addr) (l:l8_) (c:Nat) (g:Int->Option Int) (n a:Int) (w:World) (h:B4 w bf cs 82) (h0:cs[0]?=some (.slice p l.length c)) (h1:cs[1]?=some (.map (some bm)))
  (hm:Dn Tryz.prog 3 3 w bm m g cnt) (hn:(Lit.int .i64 n).wf=true) (hg:g n=some a) (ha:a<=l.length) :
  Calls Tryz.prog 138 #[ptV bf,Ag n] w λe w'=>e=.returned (Ag a)/\w=w':=by
 refine AF func138 rfl ntmps138<|A4<|A8 rfl<|A4<|A3 rfl<|A1 (.nck rfl)<|A1 (.fa PP rfl sizeOf80 dD rfl)<|Aj (Ae (isAgg80 _) rfl h h1)<|A3 rfl<|Aj (ZY hm ML ML XP z3_ rfl rfl hn)<|A3 rfl<|A1 (.iis (a) (.ext rfl rfl) (by rw [hg];rfl))<|A1 (.bis (true) (.ext rfl rfl) (by rw [hg];rfl))<|CL rfl<|A8 rfl<|Ad<|A4<|A3 rfl<|A1 (.not rfl)<|A0<|Ay rfl rfl<|As<|A4<|A3 rfl<|A3 rfl<|A1 (.nck rfl)<|A1 (.fa PP rfl CZ dD rfl)<|Aj (Ae (g22_ _) rfl h h0)<|A1 (.lenS B1 rfl)<|A1 (.bis (true) (.leq rfl rfl) (by simp;omega))<|Au (CN _) (λd b=>?_)
 obtain rfl:=b
 refine A0<|A4<|A3 rfl<|A8 rfl<|AY ?_
 exact ⟨rfl,rfl⟩
end
section
theorem A0A {n:Nat} (_:n<10000000000):(GG n).all BN=true:=AP.2 λc hc=>by
 have:=A0B n c hc
 unfold BN
 simp [this.1,this.2]
theorem X5 (n:Nat):Ck (GG n)=n:=YB n
theorem Yq (br:Nat) (p:Option Addr) (l:l8_) (c t n:Nat) (r:l8_) (w:World) (h:B4 w br (IK p l c t) 78) (hb:Af w p l) (hc:l.length<=c) (hl:l.length<=100000000)
  (hpb:0<l.length->(pA p).block≠br) (hn:n<10000000000) (he:l.drop t=DX n++r) :
  Calls Tryz.prog 76 #[ptV br] w λe w'=>e=.returned (.tuple #[Ag (n:Int),.bool true])/\B9 w.heap.size [br] w w'/\B4 w' br (IK p l c (t+20)) 78:=by
 obtain ⟨a1,a2,a3,a4⟩:=Zn hn he
 have F:=JQ hn
 have am:(GG n++F9).length=20:=by rw [A9,F];rfl
 have hX:(l.drop t).take (t+20-t)=GG n++F9:=by
  rw [he,DX,show t+20-t=(GG n++F9).length by omega,List.take_left]
 have a5:((GG n++F9).drop 0).take (10-0)=GG n:=by
  rw [Lh,show 10-0=(GG n).length by omega,List.take_left]
 have G:∀ j,(GG n++F9).drop (10+j)=F9.drop j:=λj=>by rw [<- DU,<- F,List.drop_left]
 have a6:((GG n++F9).drop 11).take (16-11)=[48,48,48,48,48]:=by rw [G 1];rfl
 have a7:((GG n++F9).drop 18).take (20-18)=[32,10]:=by rw [G 8];rfl
 have x:∀ j (h1:10+j<(GG n++F9).length) (h2:j<F9.length),(GG n++F9)[10+j]=F9[j]:=λj h1 h2=>by
  rw [Cp oO]
  congr 1;omega
 have a8:(GG n++F9)[10]'oO=32:=x 0 _ dD
 have a9:(GG n++F9)[16]'oO=32:=x 6 _ dD
 have H:(GG n++F9)[17]'oO=110:=x 7 _ dD
 refine AF func76 rfl ntmps76 ?_
 have aa:=B9.refl w.heap.size ([br]) w
 refine A4<|CL rfl<|A8 rfl<|Ad<|DF 12 rfl BS (λw'=>w'.heap[br]?=w.heap[br]?/\True) (λw1 y=>?_)
 have k:=h.drew y
 have ab:=hb.drew y
 have ac:=E7 aa (RU y)
 have g:=BU (k.trans h.symm) BF
 refine Ac 0 rfl (.mv rfl) g ?_
 refine Ac 1 rfl (.nck rfl) g ?_
 refine Ac 2 rfl (.fa Dy rfl CZ dD rfl) g ?_
 refine C6 3 rfl (λw' hw'=>Ae (g22_ _) rfl ((hw'.1).trans h) rfl) g rfl ?_
 refine Ac 4 rfl (.lenS B1 rfl) g ?_
 refine Ac 5 rfl (.mv rfl) g ?_
 refine Ac 6 rfl (.nck rfl) g ?_
 refine Ac 7 rfl (.fa Dy rfl BI dD rfl) g ?_
 refine C6 8 rfl (λw' hw'=>Ae (C5 _) rfl ((hw'.1).trans h) rfl) g rfl ?_
 refine Ac 9 rfl (.sub rfl rfl (Bb oO)) g ?_
 refine Ac 10 rfl (.bis (true) (.geq rfl rfl) (by simp;omega)) g ?_
 refine Br 11 rfl<|Au (CN _) (λw5 ad=>?_)
 obtain rfl:=ad
 refine A0<|⟨g,?_⟩
 refine C3 kR<|Ad<|DF 15 rfl BS (λw'=>w'.heap[br]?=w1.heap[br]?/\True) (λw6 B=>?_)
 have C:=k.drew B
 have ae:=ab.drew B
 have af:=E7 ac (RU B)
 have d:=BU (C.trans k.symm) BF
 refine Ac 0 rfl (.mv rfl) d ?_
 refine Ac 1 rfl (.nck rfl) d ?_
 refine Ac 2 rfl (.fa Dy rfl CZ dD rfl) d ?_
 refine C6 3 rfl (λw' hw'=>Ae (g22_ _) rfl ((hw'.1).trans k) rfl) d rfl ?_
 refine Ac 4 rfl (.mv rfl) d ?_
 refine Ac 5 rfl (.nck rfl) d ?_
 refine Ac 6 rfl (.fa Dy rfl BI dD rfl) d ?_
 refine C6 7 rfl (λw' hw'=>Ae (C5 _) rfl ((hw'.1).trans k) rfl) d rfl ?_
 refine Ac 8 rfl (.mv rfl) d ?_
 refine Ac 9 rfl (.nck rfl) d ?_
 refine Ac 10 rfl (.fa Dy rfl BI dD rfl) d ?_
 refine C6 11 rfl (λw' hw'=>Ae (C5 _) rfl ((hw'.1).trans k) rfl) d rfl ?_
 refine Ac 12 rfl (.add rfl rfl (Bb oO)) d ?_
 refine Ac 13 rfl (.slb B1 EC rfl rfl rfl  (t) (t+20) (rfl) (oO) (oO) (oO)) d ?_
 refine Ac 14 rfl (.as rfl) d ?_
 refine C3 kR<|A4<|A3 rfl<|A1 (.nck rfl)<|A1 (.fa Dy rfl BI dD rfl)<|Aj (Ae (C5 _) rfl C rfl)<|A1 (.add rfl rfl (Bb oO))<|A1 (.nck rfl)<|A1 (.fa Dy rfl BI dD rfl)<|BA BI rfl rfl rfl C (by exact Nat.le_of_ble_eq_true rfl) (λD o i al=>?_)
 have o:B4 D br _ _:=o
 have i:CP br _ _:=i
 have J:=Af.upd ae i (hpb)
 have K:=E7 af (by exact Qc i (by simp))
 refine A0<|Ad ?_
 have hx:Af D (DO p c t) (GG n++F9):=by
  have q:=Af.part (a:=t) (b:=t+20) J oO oO hc
  rwa [hX] at q
 have ag:Af D (DO (DO p c t) (c-t) 0) (GG n):=by
  have q:=Af.part (a:=0) (b:=10) (c:=c-t) hx oO oO oO
  rwa [a5] at q
 refine An<|A3 rfl<|A1 (.slbT B1 EC rfl rfl  10 rfl oO)<|Cs BQ rfl rfl ((JV _ (GG n) 10 _ _ (JQ hn) ag oO (A0A hn))) (λah s=>?_)
 have L:=o.bl s
 have u:=Fh hx s (λP=>hx.lt P)
 have Q:=kB K s
 refine A8 rfl<|Ad ?_
 have ai:Af ah (DO (DO p c t) (c-t) 11) [48,48,48,48,48]:=by
  have q:=Af.part (a:=11) (b:=16) (c:=c-t) u oO oO oO
  rwa [a6] at q
 refine An<|A3 rfl<|A1 (.slb B1 EC rfl rfl rfl  11 16 rfl rfl oO oO)<|Cs BQ rfl rfl ((JV _ [48,48,48,48,48] 5 _ _ rfl ai dD dD)) (λaj v=>?_)
 have T:=L.bl v
 have f:=Fh u v (λP=>u.lt P)
 have U:=kB Q v
 refine A0<|Ad ?_
 have ak:Af aj (DO (DO p c t) (c-t) 18) [32,10]:=by
  have q:=Af.part (a:=18) (b:=20) (c:=c-t) f oO oO oO
  rwa [a7] at q
 refine An<|A3 rfl<|A1 (.slbF B1 EC rfl rfl  (18) (rfl) (oO))<|Aj (Wb (l:=[32,10]) B1 Ga FV rfl ((by show t+20-t-18=2;omega)) (ak))<|A8 rfl<|A4<|A3 rfl<|A1 (.ixb B1 EC rfl rfl (f.isp oO) (10) (rfl) oO)<|Aj (BG (IU _) rfl (f.cells (10) oO))<|A1 (.bis (true) (.eql rfl rfl) (by rw [a8];rfl))<|A3 rfl<|AE rfl<|A3 rfl<|AE rfl<|A1 (.ixb B1 EC rfl rfl (f.isp oO) (16) (rfl) oO)<|AE rfl<|Aj (BG (IU _) rfl (f.cells (16) oO))<|AE rfl<|A1 (.bis (true) (.eql rfl rfl) (by rw [a9];rfl))<|A1 (.pkT rfl rfl rfl)<|A3 rfl<|AE rfl<|A3 rfl<|AE rfl<|A1 (.ixb B1 EC rfl rfl (f.isp oO) (17) (rfl) oO)<|AE rfl<|Aj (BG (IU _) rfl (f.cells (17) oO))<|AE rfl<|A1 (.bis (true) (.eql rfl rfl) (by rw [H];rfl))<|AE rfl<|A3 rfl<|B6 rfl<|B6 rfl<|B6 rfl<|B6 rfl<|AE rfl<|A1 (.pkT rfl rfl rfl)<|A1 (.pkT rfl rfl rfl)<|A3 rfl<|AE rfl<|A3 rfl<|AE rfl<|A1 (.bis (false) (.eqs rfl rfl) dD)<|AE rfl<|A3 rfl<|AE rfl<|A3 rfl<|AE rfl<|A1 (.bis (true) (.eqs rfl rfl) dD)<|AE rfl<|A1 (.pkF rfl rfl rfl)<|AE rfl<|A3 rfl<|B6 rfl<|B6 rfl<|AE rfl<|A1 (.pkT rfl rfl rfl)<|A1 (.pkT rfl rfl rfl)<|Au (CN _) (λan V=>?_)
 obtain rfl:=V
 refine A0<|Ad<|DE BS kR<|WQ.p (.mv rfl) rfl<|WQ.p (.mv rfl) rfl<|WQ.p (.ixb B1 EC rfl rfl (f.isp oO) (17) (rfl) oO) rfl<|D2 (λm=>BG (IU _) rfl ((f.drewN m).cells (17) oO)) rfl<|WQ.p (.bis (true) (.eql rfl rfl) (by rw [H];rfl)) rfl<|WQ.p (.as rfl) rfl<|WQ.p (.as rfl) rfl<|CO (λao E=>?_)
 have X:=T.drew E
 have a0:=E7 U (RU E)
 refine AU (Du rfl rfl rfl ?_)
 exact ⟨EO (by rw [X5]),a0,X⟩
theorem WG (br:Nat) (p:Option Addr) (l:l8_) (c t:Nat) (r:l8_) (w:World) (h:B4 w br (IK p l c t) 78) (hb:Af w p l) (hc:l.length<=c) (hl:l.length<=100000000)
  (hpb:0<l.length->(pA p).block≠br) (ht:t+20<=l.length) (he:l.drop t=E0++r) :
  Calls Tryz.prog 76 #[ptV br] w λe w'=>e=.returned (.tuple #[Ag 0,.bool false])/\B9 w.heap.size [br] w w'/\B4 w' br (IK p l c (t+20)) 78:=by
 have hX:(l.drop t).take (t+20-t)=E0:=by
  rw [he,show t+20-t=E0.length by show _=20;omega,List.take_left]
 have U:(E0.drop 0).take (10-0)=[48,48,48,48,48,48,48,48,48,48]:=rfl
 have V:(E0.drop 11).take (16-11)=[54,53,53,51,53]:=rfl
 have X:(E0.drop 18).take (20-18)=[32,10]:=rfl
 have ae:E0.length=20:=rfl
 have a0:E0[10]'dD=32:=rfl
 have a1:E0[16]'dD=32:=rfl
 have v:E0[17]'dD=102:=rfl
 refine AF func76 rfl ntmps76 ?_
 have a2:=B9.refl w.heap.size ([br]) w
 refine A4<|CL rfl<|A8 rfl<|Ad<|DF 12 rfl BS (λw'=>w'.heap[br]?=w.heap[br]?/\True) (λw1 x=>?_)
 have j:=h.drew x
 have a3:=hb.drew x
 have a4:=E7 a2 (RU x)
 have g:=BU (j.trans h.symm) BF
 refine Ac 0 rfl (.mv rfl) g ?_
 refine Ac 1 rfl (.nck rfl) g ?_
 refine Ac 2 rfl (.fa Dy rfl CZ dD rfl) g ?_
 refine C6 3 rfl (λw' hw'=>Ae (g22_ _) rfl ((hw'.1).trans h) rfl) g rfl ?_
 refine Ac 4 rfl (.lenS B1 rfl) g ?_
 refine Ac 5 rfl (.mv rfl) g ?_
 refine Ac 6 rfl (.nck rfl) g ?_
 refine Ac 7 rfl (.fa Dy rfl BI dD rfl) g ?_
 refine C6 8 rfl (λw' hw'=>Ae (C5 _) rfl ((hw'.1).trans h) rfl) g rfl ?_
 refine Ac 9 rfl (.sub rfl rfl (Bb oO)) g ?_
 refine Ac 10 rfl (.bis (true) (.geq rfl rfl) (by simp;omega)) g ?_
 refine Br 11 rfl<|Au (CN _) (λw5 a5=>?_)
 obtain rfl:=a5
 refine A0<|⟨g,?_⟩
 refine C3 kR<|Ad<|DF 15 rfl BS (λw'=>w'.heap[br]?=w1.heap[br]?/\True) (λw6 y=>?_)
 have B:=j.drew y
 have a6:=a3.drew y
 have a7:=E7 a4 (RU y)
 have d:=BU (B.trans j.symm) BF
 refine Ac 0 rfl (.mv rfl) d ?_
 refine Ac 1 rfl (.nck rfl) d ?_
 refine Ac 2 rfl (.fa Dy rfl CZ dD rfl) d ?_
 refine C6 3 rfl (λw' hw'=>Ae (g22_ _) rfl ((hw'.1).trans j) rfl) d rfl ?_
 refine Ac 4 rfl (.mv rfl) d ?_
 refine Ac 5 rfl (.nck rfl) d ?_
 refine Ac 6 rfl (.fa Dy rfl BI dD rfl) d ?_
 refine C6 7 rfl (λw' hw'=>Ae (C5 _) rfl ((hw'.1).trans j) rfl) d rfl ?_
 refine Ac 8 rfl (.mv rfl) d ?_
 refine Ac 9 rfl (.nck rfl) d ?_
 refine Ac 10 rfl (.fa Dy rfl BI dD rfl) d ?_
 refine C6 11 rfl (λw' hw'=>Ae (C5 _) rfl ((hw'.1).trans j) rfl) d rfl ?_
 refine Ac 12 rfl (.add rfl rfl (Bb oO)) d ?_
 refine Ac 13 rfl (.slb B1 EC rfl rfl rfl  (t) (t+20) (rfl) (oO) (oO) (oO)) d ?_
 refine Ac 14 rfl (.as rfl) d ?_
 refine C3 kR<|A4<|A3 rfl<|A1 (.nck rfl)<|A1 (.fa Dy rfl BI dD rfl)<|Aj (Ae (C5 _) rfl B rfl)<|A1 (.add rfl rfl (Bb oO))<|A1 (.nck rfl)<|A1 (.fa Dy rfl BI dD rfl)<|BA BI rfl rfl rfl B (by exact Nat.le_of_ble_eq_true rfl) (λC k i ad=>?_)
 have k:B4 C br _ _:=k
 have i:CP br _ _:=i
 have E:=Af.upd a6 i (hpb)
 have F:=E7 a7 (by exact Qc i (by simp))
 refine A0<|Ad ?_
 have hx:Af C (DO p c t) E0:=by
  have q:=Af.part (a:=t) (b:=t+20) E oO oO hc
  rwa [hX] at q
 have a8:Af C (DO (DO p c t) (c-t) 0) [48,48,48,48,48,48,48,48,48,48]:=by
  have q:=Af.part (a:=0) (b:=10) (c:=c-t) hx oO oO oO
  rwa [U] at q
 refine An<|A3 rfl<|A1 (.slbT B1 EC rfl rfl  10 rfl oO)<|Cs BQ rfl rfl ((JV _ [48,48,48,48,48,48,48,48,48,48] 10 _ _ rfl a8 dD dD)) (λa9 o=>?_)
 have G:=k.bl o
 have s:=Fh hx o (λH=>hx.lt H)
 have J:=kB F o
 refine A8 rfl<|Ad ?_
 have aa:Af a9 (DO (DO p c t) (c-t) 11) [54,53,53,51,53]:=by
  have q:=Af.part (a:=11) (b:=16) (c:=c-t) s oO oO oO
  rwa [V] at q
 refine An<|A3 rfl<|A1 (.slb B1 EC rfl rfl rfl  11 16 rfl rfl oO oO)<|Cs BQ rfl rfl ((JV _ [54,53,53,51,53] 5 _ _ rfl aa dD dD)) (λab u=>?_)
 have K:=G.bl u
 have f:=Fh s u (λH=>s.lt H)
 have L:=kB J u
 refine A0<|Ad ?_
 have ac:Af ab (DO (DO p c t) (c-t) 18) [32,10]:=by
  have q:=Af.part (a:=18) (b:=20) (c:=c-t) f oO oO oO
  rwa [X] at q
 refine An<|A3 rfl<|A1 (.slbF B1 EC rfl rfl  (18) (rfl) (oO))<|Aj (Wb (l:=[32,10]) B1 Ga FV rfl ((by show t+20-t-18=2;omega)) (ac))<|A8 rfl<|A4<|A3 rfl<|A1 (.ixb B1 EC rfl rfl (f.isp oO) (10) (rfl) oO)<|Aj (BG (IU _) rfl (f.cells (10) oO))<|A1 (.bis (true) (.eql rfl rfl) (by rw [a0];rfl))<|A3 rfl<|AE rfl<|A3 rfl<|AE rfl<|A1 (.ixb B1 EC rfl rfl (f.isp oO) (16) (rfl) oO)<|AE rfl<|Aj (BG (IU _) rfl (f.cells (16) oO))<|AE rfl<|A1 (.bis (true) (.eql rfl rfl) (by rw [a1];rfl))<|A1 (.pkT rfl rfl rfl)<|A3 rfl<|AE rfl<|A3 rfl<|AE rfl<|A1 (.ixb B1 EC rfl rfl (f.isp oO) (17) (rfl) oO)<|AE rfl<|Aj (BG (IU _) rfl (f.cells (17) oO))<|AE rfl<|A1 (.bis (false) (.eql rfl rfl) (by rw [v];rfl))<|AE rfl<|A3 rfl<|AE rfl<|A3 rfl<|AE rfl<|A1 (.ixb B1 EC rfl rfl (f.isp oO) (17) (rfl) oO)<|AE rfl<|Aj (BG (IU _) rfl (f.cells (17) oO))<|AE rfl<|A1 (.bis (true) (.eql rfl rfl) (by rw [v];rfl))<|AE rfl<|A1 (.pkF rfl rfl rfl)<|A1 (.pkT rfl rfl rfl)<|A3 rfl<|AE rfl<|A3 rfl<|AE rfl<|A1 (.bis (false) (.eqs rfl rfl) dD)<|AE rfl<|A3 rfl<|AE rfl<|A3 rfl<|AE rfl<|A1 (.bis (true) (.eqs rfl rfl) dD)<|AE rfl<|A1 (.pkF rfl rfl rfl)<|AE rfl<|A3 rfl<|B6 rfl<|B6 rfl<|AE rfl<|A1 (.pkT rfl rfl rfl)<|A1 (.pkT rfl rfl rfl)<|Au (CN _) (λaf P=>?_)
 obtain rfl:=P
 refine A0<|Ad<|DE BS kR<|WQ.p (.mv rfl) rfl<|WQ.p (.mv rfl) rfl<|WQ.p (.ixb B1 EC rfl rfl (f.isp oO) (17) (rfl) oO) rfl<|D2 (λm=>BG (IU _) rfl ((f.drewN m).cells (17) oO)) rfl<|WQ.p (.bis (false) (.eql rfl rfl) (by rw [v];rfl)) rfl<|WQ.p (.as rfl) rfl<|WQ.p (.as rfl) rfl<|CO (λag D=>?_)
 have Q:=K.drew D
 have T:=E7 L (RU D)
 refine AU (Du rfl rfl rfl ?_)
 exact ⟨EO (by rfl),T,Q⟩
end
section
def SX (l:l8_) (a d:Int):PV × Int × Int :=
 if a<0\/(l.length:Int)<a then (IL 0 0 [],0,21)
 else if AW false l a.toNat<l.length then
  (match EJ true l d.toNat (AW false l a.toNat) with
   | .ok (o,t')=>(o,t',0)
   | .error k=>(IL 0 0 [],0,k))
 else (IL 0 0 [],0,26)
def A4y (B:Nat) (R:PV × Int × Int) (e:Ending) (w':World):Prop :=
 ∃ x:PC,e=.returned (.tuple #[.agg (VF x).toArray,Ag R.2.1,Ag R.2.2])/\BJ w' (λk=>B<=k) x R.1
theorem SR (p:Option Addr) (l:l8_) (c:Nat) (a d:Int) (w:World) (hb:Af w p l) (hc:l.length<=c) (hl:l.length<=100000000) (hd:-9223372036854775808<d/\d<=1000000000) :
    Calls Tryz.prog 55 #[.slice p l.length c,Ag a,Ag d] w λe w'=>A4y w.heap.size (SX l a d) e w'/\AL w w':=by
  obtain ⟨R,hR⟩:=eX (SX l a d)
  rw [<- hR]
  unfold SX at hR
  obtain ⟨t,ht⟩:=eX (AW false l (Iq l a))
  have hSk:∀ w1,Af w1 p l->Calls Tryz.prog 53 #[.slice p l.length c,Ag a] w1 λe w'=>e=.returned (Ag (t:Int))/\w1=w':=λw1 h1=>by rw [ht];exact J0 p l c a w1 h1 hl
  have htl:t<=l.length:=by rw [ht];exact E3 _ _ _
  have hta:¬ (a<0\/(l.length:Int)<a)->AW false l a.toNat=t:=λh=>by rw [ht];unfold Iq;rw [A2 h]
  refine Hk func55 rfl ntmps55 bL ?_
  have hB0:=Dh w
  refine WD.seq ?_
  refine An<|Bm CA rfl (λb1 wb1 eb1 hkb1 hub1 hsb1=>?_)
  have hvl3:=λh0=>eb1▸hb.lt h0
  have hv2:=Cy hb hub1 hvl3
  have hB4:=uB hB0 eb1 hub1
  have hgeb1:=CW eb1 hB0.size
  refine Bm z3_ rfl (λb5 wb5 eb5 hkb5 hub5 hsb5=>?_)
  have hl7:=Bt eb5 hkb1.lt
  have hk6:=hkb1.un hub5 hl7
  have hvl9:=λh0=>eb5▸hv2.lt h0
  have hv8:=Cy hv2 hub5 hvl9
  have hB10:=uB hB4 eb5 hub5
  have hgeb5:=CW eb5 hB4.size
  refine Bm Sk rfl (λb11 wb11 eb11 hkb11 hub11 hsb11=>?_)
  have hl13:=Bt eb11 hk6.lt
  have hk12:=hk6.un hub11 hl13
  have hl15:=Bt eb11 hkb5.lt
  have hk14:=hkb5.un hub11 hl15
  have hvl17:=λh0=>eb11▸hv8.lt h0
  have hv16:=Cy hv8 hub11 hvl17
  have hB18:=uB hB10 eb11 hub11
  have hgeb11:=CW eb11 hB10.size
  refine A0<|?_
  refine WD.seq ?_
  refine FG 17 (decide (a<0\/(l.length:Int)<a)) ?_ ?_
  refine An<|WL.m rfl rfl<|WL.p (.lss rfl rfl) rfl<|WL.m rfl rfl<|Cc rfl rfl rfl (λg19=>?_) (λg19=>?_)
  · have g19' := dF g19
    refine WL.m rfl rfl<|Ik rfl rfl rfl g19<|WL.m rfl rfl<|Ik rfl rfl rfl g19<|WL.p (.lenS B1 rfl) rfl<|Ik rfl rfl rfl g19<|WL.p (.gtr rfl rfl) rfl<|WL.p (.pkF rfl g19 rfl) rfl<|A0<|?_
    exact ⟨GC (DI rfl (by (simp;omega))),rfl⟩
  have g19':=dT g19
  refine Jc rfl rfl rfl g19<|Jc rfl rfl rfl g19<|Jc rfl rfl rfl g19<|WL.p (.pkT rfl g19 rfl) rfl<|A0<|?_
  exact ⟨GC (DI rfl (by (simp;omega))),rfl⟩
  refine Ai rfl (λh20=>?_) (λh20=>?_)
  · have h20' := dT h20
    rw [A5 aS] at hR
    subst hR
    refine A4<|WL.p (.buildL (ps:=_) Ec rfl rfl rfl pZ) rfl ?_
    refine Az rfl rfl hk12 Ah rfl rfl (λw21 hkw21 huw21 hsw21=>?_)
    have hk22:=hk14.up huw21
    have hk23:=hkb11.up huw21
    have hB25:=BR hB18 oO huw21
    refine BA BI rfl rfl rfl hk22 dD (λw26 hkw26 huw26 hsw26=>?_)
    have hkw26:B4 w26 b5 _ _:=hkw26
    have huw26:CP b5 _ _:=huw26
    have hk27:=hkw21.up huw26
    have hk28:=hk23.up huw26
    have hB30:=BR hB25 oO huw26
    refine BA Fd rfl rfl rfl hk28 dD (λw31 hkw31 huw31 hsw31=>?_)
    have hkw31:B4 w31 b11 _ _:=hkw31
    have huw31:CP b11 _ _:=huw31
    have hk32:=hk27.up huw31
    have hk33:=hkw26.up huw31
    have hB35:=BR hB30 oO huw31
    refine A0<|?_
    refine AU ?_
    first
    | exact CX.ret Xe (λw'=>_) (I8 b1 b5 b11 _ hkw31) (λw' hS=>by subst hS;exact ⟨_,CM rfl rfl rfl rfl (Ba hk32 Av rfl Ah) (B2 hk33 (C5 _) rfl) (B2 hkw31 (Eh _) rfl),⟨x1,AQ rfl,(FACT).mono (λk hk _=>hk.2)⟩,hB35⟩)
    | exact FI (CM rfl rfl rfl rfl (Ba hk32 Av rfl Ah) (B2 hk33 (C5 _) rfl) (B2 hkw31 (Eh _) rfl)) ⟨⟨DR 0 0 [],AQ rfl,BJ.zero _ _ _ _ _⟩,hB35⟩
  have h20':=dF h20
  rw [A2 aS,hta aS] at hR
  refine As ?_
  refine WD.seq ?_
  refine An<|WL.m rfl rfl<|WL.m rfl rfl<|Cs BQ rfl rfl ((hSk _ hv16)) (λw36 hw36=>?_)
  obtain rfl:=hw36
  refine A4J rfl rfl ?_
  refine WD.seq ?_
  refine A4<|WL.m rfl rfl<|WL.m rfl rfl<|WL.p (.lenS B1 rfl) rfl<|WL.p (.eql rfl rfl) rfl<|A0<|?_
  refine Ai rfl (λh37=>?_) (λh37=>?_)
  · have h37' := dT h37
    rw [A2 oO] at hR
    subst hR
    refine A4<|WL.p (.buildL (ps:=_) Ec rfl rfl rfl pZ) rfl ?_
    refine Az rfl rfl hk12 Ah rfl rfl (λw38 hkw38 huw38 hsw38=>?_)
    have hk39:=hk14.up huw38
    have hk40:=hkb11.up huw38
    have hB42:=BR hB18 oO huw38
    refine BA BI rfl rfl rfl hk39 dD (λw43 hkw43 huw43 hsw43=>?_)
    have hkw43:B4 w43 b5 _ _:=hkw43
    have huw43:CP b5 _ _:=huw43
    have hk44:=hkw38.up huw43
    have hk45:=hk40.up huw43
    have hB47:=BR hB42 oO huw43
    refine BA Fd rfl rfl rfl hk45 dD (λw48 hkw48 huw48 hsw48=>?_)
    have hkw48:B4 w48 b11 _ _:=hkw48
    have huw48:CP b11 _ _:=huw48
    have hk49:=hk44.up huw48
    have hk50:=hkw43.up huw48
    have hB52:=BR hB47 oO huw48
    refine A0<|?_
    refine AU ?_
    first
    | exact CX.ret Xe (λw'=>_) (I8 b1 b5 b11 _ hkw48) (λw' hS=>by subst hS;exact ⟨_,CM rfl rfl rfl rfl (Ba hk49 Av rfl Ah) (B2 hk50 (C5 _) rfl) (B2 hkw48 (Eh _) rfl),⟨x1,AQ rfl,(FACT).mono (λk hk _=>hk.2)⟩,hB52⟩)
    | exact FI (CM rfl rfl rfl rfl (Ba hk49 Av rfl Ah) (B2 hk50 (C5 _) rfl) (B2 hkw48 (Eh _) rfl)) ⟨⟨DR 0 0 [],AQ rfl,BJ.zero _ _ _ _ _⟩,hB52⟩
  have h37':=dF h37
  have htlt:t<l.length:=by omega
  rw [A5 htlt] at hR
  refine As ?_
  refine WD.defer rfl rfl ?_
  refine NN ?_
  refine A4<|WL.m rfl rfl<|WL.m rfl rfl<|?_
  refine WL.p (.buildL (ps:=_) ZG rfl rfl rfl pS) rfl ?_
  refine WL.box rfl rfl (λb53 wb53 eb53 hkb53 hub53 hsb53=>?_)
  have hl55:=Bt eb53 hk12.lt
  have hk54:=hk12.un hub53 hl55
  have hl57:=Bt eb53 hk14.lt
  have hk56:=hk14.un hub53 hl57
  have hl59:=Bt eb53 hkb11.lt
  have hk58:=hkb11.un hub53 hl59
  have hvl61:=λh0=>eb53▸hv16.lt h0
  have hv60:=Cy hv16 hub53 hvl61
  have hB62:=uB hB18 eb53 hub53
  refine A4J rfl rfl ?_
  refine A4<|WL.m rfl rfl<|WL.m rfl rfl<|EE BQ rfl rfl ((PI p l c true hc hl d.toNat d (DS _) hd b53 t _ ⟨hkb53,hv60⟩ (λh0=>by have:=hb.lt h0;omega) htlt)) (λk65 w63 hrw63 hw63=>?_) (λa64 x66 w63 hrw63 hw63=>?_)
  have hBew63:=Ex hB62 (B8.below hw63 hB62.size oO)
  exact HQ Xe (λw'=>_) (SQ b1 b5 b11 w.heap.size _ _ _ _ _ _ _ _ k65 _ (Gd hk54 hw63 hk54.lt oO) (Gd hk56 hw63 hk56.lt oO) (Gd hk58 hw63 hk58.lt oO) oO oO oO (SY true l _ _ _ hrw63).ne)
    (λw' hS=>⟨_,CM rfl rfl rfl rfl (Ba hS.1 Av rfl Ah) (B2 hS.2.1 (C5 _) rfl) (B2 hS.2.2.1 (Eh _) rfl),⟨DR 0 0 [],AQ (by rw [hR,show EJ true l d.toNat t=_ from hrw63];rfl),by rw [hR,show EJ true l d.toNat t=_ from hrw63];exact BJ.zero _ _ _ _ _⟩,hBew63.trans hS.2.2.2⟩)
  have hrr:=hrw63
  obtain ⟨oX,tX⟩:=a64
  obtain ⟨x1,rfl,hpx,hrd1,hT1⟩:=hw63
  have hpx1:=hpx.mono (T:=λk=>b53<k/\w.heap.size<=k) (λk hk _=>by have h1:=(hkb53).lt;have h2:=hB62.size;omega)
  have hk61:=Gd hk54 hT1 (hk54).lt oO
  have hk71:=Gd hk56 hT1 (hk56).lt oO
  have hk81:=Gd hk58 hT1 (hk58).lt oO
  have hB1:=Ex hB62 (B8.below hT1 hB62.size oO)
  have hr1:=hrd1.1
  rw [show EJ true l d.toNat t=_ from hrr] at hR
  subst hR
  refine Az rfl rfl hk61 Ah rfl rfl (λw67 hkw67 huw67 hsw67=>?_)
  have hF68:=BJ.same (w1:=w67) hpx1 (λk hk hl=>huw67.other k oM)
  have hk69:=hk71.up huw67
  have hk70:=hk81.up huw67
  have hk71:=hr1.upd huw67 oM
  have hB73:=BR hB1 oO huw67
  refine A0<|?_
  refine Ad ?_
  refine LN ?_
  refine F2 8 rfl BS (λw74 dw74=>?_)
  have hF75:=BJ.same (w1:=w74) hF68 (λk hk hl=>(by obtain ⟨m,rfl⟩:=dw74;rfl))
  have hk76:=hkw67.drew dw74
  have hk77:=hk69.drew dw74
  have hk78:=hk70.drew dw74
  have hk79:=hk71.drew dw74
  have hB81:=Cn.below hB73 dw74
  refine AB 1 rfl (.mv rfl) rfl ?_
  refine AB 2 rfl (.nck rfl) rfl ?_
  refine AB 3 rfl (.fa Cq rfl BI dD rfl) rfl ?_
  refine Ct 0 rfl 4 rfl ?_ ?_
  refine A4n (Bd rfl hk76 Av rfl Ah) rfl<|A0<|?_
  refine Ct 4 rfl 5 rfl ?_ ?_
  refine A4n (Ae (C5 _) rfl hk79 rfl) rfl<|A0<|?_
  refine Ao 5 rfl ?_
  refine Az rfl rfl hk76 Ah rfl rfl (λw82 hkw82 huw82 hsw82=>?_)
  have hF83:=BJ.same (w1:=w82) hF75 (λk hk hl=>huw82.other k oM)
  have hk84:=hk77.up huw82
  have hk85:=hk78.up huw82
  have hB88:=BR hB81 oO huw82
  refine A0<|?_
  refine Ao 6 rfl ?_
  refine BA BI rfl rfl rfl hk84 dD (λw89 hkw89 huw89 hsw89=>?_)
  have hkw89:B4 w89 b5 _ _:=hkw89
  have huw89:CP b5 _ _:=huw89
  have hF90:=BJ.same (w1:=w89) hF83 (λk hk hl=>huw89.other k oM)
  have hk91:=hkw82.up huw89
  have hk92:=hk85.up huw89
  have hB95:=BR hB88 oO huw89
  refine A0<|?_
  refine Ao 7 rfl ?_
  refine BA Fd rfl rfl rfl hk92 dD (λw96 hkw96 huw96 hsw96=>?_)
  have hkw96:B4 w96 b11 _ _:=hkw96
  have huw96:CP b11 _ _:=huw96
  have hF97:=BJ.same (w1:=w96) hF90 (λk hk hl=>huw96.other k oM)
  have hk98:=hk91.up huw96
  have hk99:=hkw89.up huw96
  have hB102:=BR hB95 oO huw96
  refine A0<|?_
  refine Be kR ?_
  refine AU ?_
  first
  | exact CX.ret Xe (λw'=>_) (I8 b1 b5 b11 _ hkw96) (λw' hS=>by subst hS;exact ⟨_,CM rfl rfl rfl rfl (Ba hk98 Av rfl Ah) (B2 hk99 (C5 _) rfl) (B2 hkw96 (Eh _) rfl),⟨x1,AQ rfl,(hF97).mono (λk hk _=>hk.2)⟩,hB102⟩)
  | exact FI (CM rfl rfl rfl rfl (Ba hk98 Av rfl Ah) (B2 hk99 (C5 _) rfl) (B2 hkw96 (Eh _) rfl)) ⟨⟨DR 0 0 [],AQ rfl,BJ.zero _ _ _ _ _⟩,hB102⟩
  refine Az rfl rfl hk76 Ah rfl rfl (λw103 hkw103 huw103 hsw103=>?_)
  have hF104:=BJ.same (w1:=w103) hF75 (λk hk hl=>huw103.other k oM)
  have hk105:=hk77.up huw103
  have hk106:=hk78.up huw103
  have hk107:=hk79.up huw103
  have hB109:=BR hB81 oO huw103
  refine A0<|?_
  refine Ao 4 rfl ?_
  refine A4n (Ae (C5 _) rfl hk107 rfl) rfl<|A0<|?_
  refine Ao 6 rfl ?_
  refine BA BI rfl rfl rfl hk105 dD (λw110 hkw110 huw110 hsw110=>?_)
  have hkw110:B4 w110 b5 _ _:=hkw110
  have huw110:CP b5 _ _:=huw110
  have hF111:=BJ.same (w1:=w110) hF104 (λk hk hl=>huw110.other k oM)
  have hk112:=hkw103.up huw110
  have hk113:=hk106.up huw110
  have hB116:=BR hB109 oO huw110
  refine A0<|?_
  refine Ao 7 rfl ?_
  refine BA Fd rfl rfl rfl hk113 dD (λw117 hkw117 huw117 hsw117=>?_)
  have hkw117:B4 w117 b11 _ _:=hkw117
  have huw117:CP b11 _ _:=huw117
  have hF118:=BJ.same (w1:=w117) hF111 (λk hk hl=>huw117.other k oM)
  have hk119:=hk112.up huw117
  have hk120:=hkw110.up huw117
  have hB123:=BR hB116 oO huw117
  refine A0<|?_
  refine Be kR ?_
  refine AU ?_
  first
  | exact CX.ret Xe (λw'=>_) (I8 b1 b5 b11 _ hkw117) (λw' hS=>by subst hS;exact ⟨_,CM rfl rfl rfl rfl (Ba hk119 Av rfl Ah) (B2 hk120 (C5 _) rfl) (B2 hkw117 (Eh _) rfl),⟨x1,AQ rfl,(hF118).mono (λk hk _=>hk.2)⟩,hB123⟩)
  | exact FI (CM rfl rfl rfl rfl (Ba hk119 Av rfl Ah) (B2 hk120 (C5 _) rfl) (B2 hkw117 (Eh _) rfl)) ⟨⟨DR 0 0 [],AQ rfl,BJ.zero _ _ _ _ _⟩,hB123⟩
  refine A4n (Ae (C5 _) rfl hk79 rfl) rfl<|A0<|?_
  refine Ao 0 rfl ?_
  refine A4n (Bd rfl hk76 Av rfl Ah) rfl<|A0<|?_
  refine Ao 5 rfl ?_
  refine Az rfl rfl hk76 Ah rfl rfl (λw124 hkw124 huw124 hsw124=>?_)
  have hF125:=BJ.same (w1:=w124) hF75 (λk hk hl=>huw124.other k oM)
  have hk126:=hk77.up huw124
  have hk127:=hk78.up huw124
  have hB130:=BR hB81 oO huw124
  refine A0<|?_
  refine Ao 6 rfl ?_
  refine BA BI rfl rfl rfl hk126 dD (λw131 hkw131 huw131 hsw131=>?_)
  have hkw131:B4 w131 b5 _ _:=hkw131
  have huw131:CP b5 _ _:=huw131
  have hF132:=BJ.same (w1:=w131) hF125 (λk hk hl=>huw131.other k oM)
  have hk133:=hkw124.up huw131
  have hk134:=hk127.up huw131
  have hB137:=BR hB130 oO huw131
  refine A0<|?_
  refine Ao 7 rfl ?_
  refine BA Fd rfl rfl rfl hk134 dD (λw138 hkw138 huw138 hsw138=>?_)
  have hkw138:B4 w138 b11 _ _:=hkw138
  have huw138:CP b11 _ _:=huw138
  have hF139:=BJ.same (w1:=w138) hF132 (λk hk hl=>huw138.other k oM)
  have hk140:=hk133.up huw138
  have hk141:=hkw131.up huw138
  have hB144:=BR hB137 oO huw138
  refine A0<|?_
  refine Be kR ?_
  refine AU ?_
  first
  | exact CX.ret Xe (λw'=>_) (I8 b1 b5 b11 _ hkw138) (λw' hS=>by subst hS;exact ⟨_,CM rfl rfl rfl rfl (Ba hk140 Av rfl Ah) (B2 hk141 (C5 _) rfl) (B2 hkw138 (Eh _) rfl),⟨x1,AQ rfl,(hF139).mono (λk hk _=>hk.2)⟩,hB144⟩)
  | exact FI (CM rfl rfl rfl rfl (Ba hk140 Av rfl Ah) (B2 hk141 (C5 _) rfl) (B2 hkw138 (Eh _) rfl)) ⟨⟨DR 0 0 [],AQ rfl,BJ.zero _ _ _ _ _⟩,hB144⟩
end
section
theorem HJ (p:Option Addr) (l:l8_) (c t t':Nat) (v:PV) (w:World) (hb:Af w p l) (hc:l.length<=c) (hl:l.length<=100000000) (hv:SX l t 32=(v,(t':Int),0)) :
  Calls Tryz.prog 55 #[.slice p l.length c,Ag (t:Int),Ag 32] w λe w'=>∃ r,e=.returned r/\AL w w'/\∃ y:PC,r=.tuple #[.agg (VF y).toArray,Ag (t':Int),Ag 0]/\BJ w' (λk=>w.heap.size<=k) y v :=
 (SR p l c t 32 w hb hc hl dD).mono fun e w' h => by
  obtain ⟨⟨y,h1,h2⟩,h3⟩:=h
  rw [hv] at h1 h2
  exact ⟨_,h1,h3,y,rfl,h2⟩
theorem VA (br:Nat) (p:Option Addr) (l:l8_) (c t t':Nat) (v:PV) (w:World) (h:B4 w br (IK p l c t) 78) (hb:Af w p l) (hc:l.length<=c) (hl:l.length<=100000000)
  (hpb:0<l.length->(pA p).block≠br) (hv:SX l t 32=(v,(t':Int),0)) :
  Calls Tryz.prog 140 #[ptV br] w λe w'=>∃ y:PC,e=.returned (.agg (VF y).toArray)/\BJ w' (λk=>w.heap.size<=k) y v/\B9 w.heap.size [br] w w'/\B4 w' br (IK p l c t') 78:=by
 refine AF func140 rfl ntmps140 ?_
 have aj:=B9.refl w.heap.size ([br]) w
 refine A4<|Bm CA rfl (λb1 aZ P an F bh=>?_)
 have a':=Bt P h.lt
 have d:=h.un F a'
 have ao:=λh0=>P▸hb.lt h0
 have b0:=Cy hb F ao
 have ab:=CW P aj.size
 have b2:=E7 aj (Ip F ab)
 refine A0<|Ad<|DF 17 rfl BS (λw'=>w'.heap[br]?=aZ.heap[br]?/\True) (λw7 K=>?_)
 have L:=d.drew K
 have N:=an.drew K
 have G:=b0.drew K
 have q:=E7 b2 (RU K)
 have f:=BU (L.trans d.symm) BF
 refine Ac 0 rfl (.mv rfl) f ?_
 refine Ac 1 rfl (.nck rfl) f ?_
 refine Ac 2 rfl (.fa Dy rfl CZ dD rfl) f ?_
 refine C6 3 rfl (λw' hw'=>Ae (g22_ _) rfl ((hw'.1).trans d) rfl) f rfl ?_
 refine Ac 4 rfl (.mv rfl) f ?_
 refine Ac 5 rfl (.nck rfl) f ?_
 refine Ac 6 rfl (.fa Dy rfl BI dD rfl) f ?_
 refine C6 7 rfl (λw' hw'=>Ae (C5 _) rfl ((hw'.1).trans d) rfl) f rfl ?_
 refine IS 8 rfl 13 rfl ?_ ?_
 refine Bf BQ rfl rfl ((HJ p l c t t' v _ G hc hl hv)) (λr b3 s=>?_)
 have H:=L.bl s.1
 have Q:=N.bl s.1
 have U:=kB q s.1
 obtain ⟨y,rfl,V⟩:=s.2
 have X:=q.size
 have hy:=V.mono (T:=λk=>w.heap.size<=k/\w7.heap.size<=k/\k<b3.heap.size) (λk hk Y=>⟨CT X hk,hk,Y⟩)
 have ap:=(N).lt
 refine A0<|?_
 have D:=BU (H.trans d.symm) BF
 refine ⟨D,?_⟩
 refine Ac 9 rfl (.mv rfl) D ?_
 refine Ac 10 rfl (.ext rfl rfl) D ?_
 refine Ac 11 rfl (.ext rfl rfl) D ?_
 refine Ac 12 rfl (.ext rfl rfl) D ?_
 refine Br 13 rfl<|Bm CA rfl (λbi aq J ac g b9=>?_)
 have ar:=BJ.same (w1:=aq) hy (λk hk hl=>g.other k oO)
 have au:=Bt J H.lt
 have a0:=H.un g au
 have av:=Bt J Q.lt
 have aw:=Q.un g av
 have a1:=CW J U.size
 have ax:=E7 U (Ip g a1)
 refine A0<|⟨⟨(a0).trans (d).symm,tT⟩,?_⟩
 refine Br 14 rfl<|Az rfl rfl ac Ah rfl rfl (λb4 ad i ba=>?_)
 have ay:=BJ.same (w1:=b4) ar (λk hk hl=>i.other k oM)
 have a2:=a0.up i
 have az:=aw.up i
 have aA:=E7 ax (by exact Ip i oO)
 refine A0<|?_
 have a3:=BU (a2.trans d.symm) BF
 refine ⟨a3,?_⟩
 refine Ac 15 rfl (.as rfl) a3 ?_
 refine Ac 16 rfl (.as rfl) a3 ?_
 refine C3 kR<|Ad<|AT<|A4<|A3 rfl<|A1 (.bis (false) (.eql rfl rfl) dD)<|A8 rfl<|Ay rfl rfl<|A4<|A3 rfl<|A1 (.bis (false) (.neq rfl rfl) dD)<|A8 rfl<|Ay rfl rfl<|As<|A4<|A3 rfl<|A3 rfl<|A1 (.nck rfl)<|A1 (.fa Dy rfl BI dD rfl)<|BA BI rfl rfl rfl a2 (by exact Nat.le_of_ble_eq_true rfl) (λak u a bb=>?_)
 have u:B4 ak br _ _:=u
 have a:CP br _ _:=a
 have aB:=BJ.same (w1:=ak) ay (λk hk hl=>a.other k oM)
 have aC:=az.up a
 have aD:=ad.up a
 have aE:=E7 aA (by exact Qc a (by simp))
 refine A0<|A4<|Aj (Bd rfl aD Av rfl Ah)<|Az rfl rfl aC Ah rfl rfl (λb5 ae x bc=>?_)
 have aF:=BJ.same (w1:=b5) aB (λk hk hl=>x.other k oM)
 have aG:=u.up x
 have aH:=E7 aE (by exact Ip x oO)
 refine A0<|AU (BD rfl rfl (Ba ae Av rfl Ah)  ?_)
 exact ⟨y,EO rfl,(aF).mono (T:=λk=>w.heap.size<=k) (λk hk _=>hk.1),aH,aG⟩
 refine Bm CA rfl (λbj aI A af j bd=>?_)
 have aJ:=Bt A L.lt
 have a4:=L.un j aJ
 have aK:=Bt A N.lt
 have a5:=N.un j aK
 have ag:=λh0=>A▸G.lt h0
 have aL:=Cy G j ag
 have a6:=CW A q.size
 have a7:=E7 q (Ip j a6)
 refine A0<|⟨⟨(a4).trans (d).symm,tT⟩,?_⟩
 refine Br 8 rfl<|Bf BQ rfl rfl ((HJ p l c t t' v _ aL hc hl hv)) (λr b6 o=>?_)
 have a8:=a4.bl o.1
 have aM:=a5.bl o.1
 have aN:=af.bl o.1
 have aO:=kB a7 o.1
 obtain ⟨y,rfl,V⟩:=o.2
 have X:=a7.size
 have hy:=V.mono (T:=λk=>w.heap.size<=k/\aI.heap.size<=k/\k<b6.heap.size) (λk hk Y=>⟨CT X hk,hk,Y⟩)
 have ap:=(a5).lt
 refine A0<|?_
 have E:=BU (a8.trans d.symm) BF
 refine ⟨E,?_⟩
 refine Ac 9 rfl (.mv rfl) E ?_
 refine Ac 10 rfl (.ext rfl rfl) E ?_
 refine Ac 11 rfl (.ext rfl rfl) E ?_
 refine Ac 12 rfl (.ext rfl rfl) E ?_
 refine Br 14 rfl<|Az rfl rfl aN Ah rfl rfl (λb7 ah m be=>?_)
 have aP:=BJ.same (w1:=b7) hy (λk hk hl=>m.other k oM)
 have a9:=a8.up m
 have aQ:=aM.up m
 have aR:=E7 aO (by exact Ip m oO)
 refine A0<|?_
 have aa:=BU (a9.trans d.symm) BF
 refine ⟨aa,?_⟩
 refine Ac 15 rfl (.as rfl) aa ?_
 refine Ac 16 rfl (.as rfl) aa ?_
 refine C3 kR<|Ad<|AT<|A4<|A3 rfl<|A1 (.bis (false) (.eql rfl rfl) dD)<|A8 rfl<|Ay rfl rfl<|A4<|A3 rfl<|A1 (.bis (false) (.neq rfl rfl) dD)<|A8 rfl<|Ay rfl rfl<|As<|A4<|A3 rfl<|A3 rfl<|A1 (.nck rfl)<|A1 (.fa Dy rfl BI dD rfl)<|BA BI rfl rfl rfl a9 (by exact Nat.le_of_ble_eq_true rfl) (λam B b bf=>?_)
 have B:B4 am br _ _:=B
 have b:CP br _ _:=b
 have aS:=BJ.same (w1:=am) aP (λk hk hl=>b.other k oM)
 have aT:=aQ.up b
 have aU:=ah.up b
 have aV:=E7 aR (by exact Qc b (by simp))
 refine A0<|A4<|Aj (Bd rfl aU Av rfl Ah)<|Az rfl rfl aT Ah rfl rfl (λb8 ai C bg=>?_)
 have aW:=BJ.same (w1:=b8) aS (λk hk hl=>C.other k oM)
 have aX:=B.up C
 have aY:=E7 aV (by exact Ip C oO)
 refine A0<|AU (BD rfl rfl (Ba ai Av rfl Ah)  ?_)
 exact ⟨y,EO rfl,(aW).mono (T:=λk=>w.heap.size<=k) (λk hk _=>hk.1),aY,aX⟩
end
end Go.Proofs.YtiddobdioipidaaGreatDoor
