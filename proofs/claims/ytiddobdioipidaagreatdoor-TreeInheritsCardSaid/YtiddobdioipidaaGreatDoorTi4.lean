/-
  What the claim leans on, part 4: pruned and joined by my own tool out of the texts that stand in wip/ as templates.
-/
import Derived.Test.YtiddobdioipidaaGreatDoorTi3
set_option maxHeartbeats 6400000
set_option maxRecDepth 100000
namespace Go.Proofs.YtiddobdioipidaaGreatDoor
open Go.RowKit
open Go.Proofs.Tryz
variable {pa pb:Addr} {aft:Array Edge} {ops:Array Oper} {ats:Array TypeId} {args cs:Array Value} {st:Bool} {Q:Exit->Fr->World->Prop} {f:Fr} {F:FuncId} {D a:Int} {ks:List (List UInt8)} {ns:List Int} {A d l s:List UInt8} {vs xs:List Value} {B M N bf c i id j wk:Nat} {S T:Nat->Prop} {x y:Operand} {dp kp lp p:Option Addr} {P:Program} {pos:String} {α ι:Type} {E e ta tb tx ty:TypeId} {u v z:Value} {w w' w1:World} {S':World->Prop}
section
theorem A2N {n:Nat} (_:n<10000000000):(Ha n).all BW=true:=AN.2 λc hc=>by
 have:=A2O n c hc
 unfold BW
 simp [this.1,this.2]
theorem Z4 (n:Nat):Cv (Ha n)=n:=A0I n
theorem A0v (br:Nat) (p:Option Addr) (l:l8_) (c t n:Nat) (r:l8_) (w:World) (h:B0 w br (Jl p l c t) 78) (hb:Ag w p l) (hc:l.length<=c) (hl:l.length<=100000000)
  (hpb:0<l.length->(pA p).block≠br) (hn:n<10000000000) (he:l.drop t=E4 n++r) :
  Calls Tryz.prog 76 #[ptV br] w λe w'=>e=.returned (.tuple #[Af (n:Int),.bool true])/\AR w.heap.size [br] w w'/\B0 w' br (Jl p l c (t+20)) 78:=by
 obtain ⟨a1,a2,a3,a4⟩:=A1D hn he
 have F:=Kv hn
 have am:(Ha n++Fl).length=20:=by rw [A8,F];rfl
 have hX:(l.drop t).take (t+20-t)=Ha n++Fl:=by
  rw [he,E4,show t+20-t=(Ha n++Fl).length by omega,List.take_left]
 have a5:((Ha n++Fl).drop 0).take (10-0)=Ha n:=by
  rw [Ms,show 10-0=(Ha n).length by omega,List.take_left]
 have G:∀ j,(Ha n++Fl).drop (10+j)=Fl.drop j:=λj=>by rw [<- E2,<- F,List.drop_left]
 have a6:((Ha n++Fl).drop 11).take (16-11)=[48,48,48,48,48]:=by rw [G 1];rfl
 have a7:((Ha n++Fl).drop 18).take (20-18)=[32,10]:=by rw [G 8];rfl
 have x:∀ j (h1:10+j<(Ha n++Fl).length) (h2:j<Fl.length),(Ha n++Fl)[10+j]=Fl[j]:=λj h1 h2=>by
  rw [CB oO]
  congr 1;omega
 have a8:(Ha n++Fl)[10]'oO=32:=x 0 _ dD
 have a9:(Ha n++Fl)[16]'oO=32:=x 6 _ dD
 have H:(Ha n++Fl)[17]'oO=110:=x 7 _ dD
 refine Ar func76 rfl ntmps76 ?_
 have aa:=AR.refl w.heap.size ([br]) w
 refine A4<|Ct rfl<|A9 rfl<|Ad<|D6 12 rfl BR (λw'=>w'.heap[br]?=w.heap[br]?/\True) (λw1 y=>?_)
 have k:=h.drew y
 have ab:=hb.drew y
 have ac:=Dl aa (OS y)
 have g:=Bs (k.trans h.symm) Bi
 refine Ab 0 rfl (.mv rfl) g ?_
 refine Ab 1 rfl (.nck rfl) g ?_
 refine Ab 2 rfl (.fa DE rfl D8 dD rfl) g ?_
 refine BX 3 rfl (λw' hw'=>Ae (g22_ _) rfl ((hw'.1).trans h) rfl) g rfl ?_
 refine Ab 4 rfl (.lenS B1 rfl) g ?_
 refine Ab 5 rfl (.mv rfl) g ?_
 refine Ab 6 rfl (.nck rfl) g ?_
 refine Ab 7 rfl (.fa DE rfl Bw dD rfl) g ?_
 refine BX 8 rfl (λw' hw'=>Ae (BZ _) rfl ((hw'.1).trans h) rfl) g rfl ?_
 refine Ab 9 rfl (.sub rfl rfl (Ba oO)) g ?_
 refine Ab 10 rfl (.bis (true) (.geq rfl rfl) (by simp;omega)) g ?_
 refine AX 11 rfl<|Ao (CZ _) (λw5 ad=>?_)
 obtain rfl:=ad
 refine A0<|⟨g,?_⟩
 refine BH kR<|Ad<|D6 15 rfl BR (λw'=>w'.heap[br]?=w1.heap[br]?/\True) (λw6 B=>?_)
 have C:=k.drew B
 have ae:=ab.drew B
 have af:=Dl ac (OS B)
 have d:=Bs (C.trans k.symm) Bi
 refine Ab 0 rfl (.mv rfl) d ?_
 refine Ab 1 rfl (.nck rfl) d ?_
 refine Ab 2 rfl (.fa DE rfl D8 dD rfl) d ?_
 refine BX 3 rfl (λw' hw'=>Ae (g22_ _) rfl ((hw'.1).trans k) rfl) d rfl ?_
 refine Ab 4 rfl (.mv rfl) d ?_
 refine Ab 5 rfl (.nck rfl) d ?_
 refine Ab 6 rfl (.fa DE rfl Bw dD rfl) d ?_
 refine BX 7 rfl (λw' hw'=>Ae (BZ _) rfl ((hw'.1).trans k) rfl) d rfl ?_
 refine Ab 8 rfl (.mv rfl) d ?_
 refine Ab 9 rfl (.nck rfl) d ?_
 refine Ab 10 rfl (.fa DE rfl Bw dD rfl) d ?_
 refine BX 11 rfl (λw' hw'=>Ae (BZ _) rfl ((hw'.1).trans k) rfl) d rfl ?_
 refine Ab 12 rfl (.add rfl rfl (Ba oO)) d ?_
 refine Ab 13 rfl (.slb B1 EA rfl rfl rfl  (t) (t+20) (rfl) (oO) (oO) (oO)) d ?_
 refine Ab 14 rfl (.as rfl) d ?_
 refine BH kR<|A4<|A3 rfl<|A1 (.nck rfl)<|A1 (.fa DE rfl Bw dD rfl)<|Ah (Ae (BZ _) rfl C rfl)<|A1 (.add rfl rfl (Ba oO))<|A1 (.nck rfl)<|A1 (.fa DE rfl Bw dD rfl)<|Br Bw rfl rfl rfl C (by exact Nat.le_of_ble_eq_true rfl) (λD o i al=>?_)
 have o:B0 D br _ _:=o
 have i:CK br _ _:=i
 have J:=Ag.upd ae i (hpb)
 have K:=Dl af (by exact QY i (by simp))
 refine A0<|Ad ?_
 have hx:Ag D (DV p c t) (Ha n++Fl):=by
  have q:=Ag.part (a:=t) (b:=t+20) J oO oO hc
  rwa [hX] at q
 have ag:Ag D (DV (DV p c t) (c-t) 0) (Ha n):=by
  have q:=Ag.part (a:=0) (b:=10) (c:=c-t) hx oO oO oO
  rwa [a5] at q
 refine Am<|A3 rfl<|A1 (.slbT B1 EA rfl rfl  10 rfl oO)<|Cm BK rfl rfl ((KB _ (Ha n) 10 _ _ (Kv hn) ag oO (A2N hn))) (λah s=>?_)
 have L:=o.bl s
 have u:=DL hx s (λP=>hx.lt P)
 have Q:=kB K s
 refine A9 rfl<|Ad ?_
 have ai:Ag ah (DV (DV p c t) (c-t) 11) [48,48,48,48,48]:=by
  have q:=Ag.part (a:=11) (b:=16) (c:=c-t) u oO oO oO
  rwa [a6] at q
 refine Am<|A3 rfl<|A1 (.slb B1 EA rfl rfl rfl  11 16 rfl rfl oO oO)<|Cm BK rfl rfl ((KB _ [48,48,48,48,48] 5 _ _ rfl ai dD dD)) (λaj v=>?_)
 have T:=L.bl v
 have f:=DL u v (λP=>u.lt P)
 have U:=kB Q v
 refine A0<|Ad ?_
 have ak:Ag aj (DV (DV p c t) (c-t) 18) [32,10]:=by
  have q:=Ag.part (a:=18) (b:=20) (c:=c-t) f oO oO oO
  rwa [a7] at q
 refine Am<|A3 rfl<|A1 (.slbF B1 EA rfl rfl  (18) (rfl) (oO))<|Ah (Yf (l:=[32,10]) B1 FK Gk rfl ((by show t+20-t-18=2;omega)) (ak))<|A9 rfl<|A4<|A3 rfl<|A1 (.ixb B1 EA rfl rfl (f.isp oO) (10) (rfl) oO)<|Ah (Bq (Iz _) rfl (f.cells (10) oO))<|A1 (.bis (true) (.eql rfl rfl) (by rw [a8];rfl))<|A3 rfl<|Az rfl<|A3 rfl<|Az rfl<|A1 (.ixb B1 EA rfl rfl (f.isp oO) (16) (rfl) oO)<|Az rfl<|Ah (Bq (Iz _) rfl (f.cells (16) oO))<|Az rfl<|A1 (.bis (true) (.eql rfl rfl) (by rw [a9];rfl))<|A1 (.pkT rfl rfl rfl)<|A3 rfl<|Az rfl<|A3 rfl<|Az rfl<|A1 (.ixb B1 EA rfl rfl (f.isp oO) (17) (rfl) oO)<|Az rfl<|Ah (Bq (Iz _) rfl (f.cells (17) oO))<|Az rfl<|A1 (.bis (true) (.eql rfl rfl) (by rw [H];rfl))<|Az rfl<|A3 rfl<|Bc rfl<|Bc rfl<|Bc rfl<|Bc rfl<|Az rfl<|A1 (.pkT rfl rfl rfl)<|A1 (.pkT rfl rfl rfl)<|A3 rfl<|Az rfl<|A3 rfl<|Az rfl<|A1 (.bis (false) (.eqs rfl rfl) dD)<|Az rfl<|A3 rfl<|Az rfl<|A3 rfl<|Az rfl<|A1 (.bis (true) (.eqs rfl rfl) dD)<|Az rfl<|A1 (.pkF rfl rfl rfl)<|Az rfl<|A3 rfl<|Bc rfl<|Bc rfl<|Az rfl<|A1 (.pkT rfl rfl rfl)<|A1 (.pkT rfl rfl rfl)<|Ao (CZ _) (λan V=>?_)
 obtain rfl:=V
 refine A0<|Ad<|DH BR kR<|WQ.p (.mv rfl) rfl<|WQ.p (.mv rfl) rfl<|WQ.p (.ixb B1 EA rfl rfl (f.isp oO) (17) (rfl) oO) rfl<|Db (λm=>Bq (Iz _) rfl ((f.drewN m).cells (17) oO)) rfl<|WQ.p (.bis (true) (.eql rfl rfl) (by rw [H];rfl)) rfl<|WQ.p (.as rfl) rfl<|WQ.p (.as rfl) rfl<|CX (λao E=>?_)
 have X:=T.drew E
 have a0:=Dl U (OS E)
 refine AT (D0 rfl rfl rfl ?_)
 exact ⟨Ff (by rw [Z4]),a0,X⟩
theorem YN (br:Nat) (p:Option Addr) (l:l8_) (c t:Nat) (r:l8_) (w:World) (h:B0 w br (Jl p l c t) 78) (hb:Ag w p l) (hc:l.length<=c) (hl:l.length<=100000000)
  (hpb:0<l.length->(pA p).block≠br) (ht:t+20<=l.length) (he:l.drop t=E7++r) :
  Calls Tryz.prog 76 #[ptV br] w λe w'=>e=.returned (.tuple #[Af 0,.bool false])/\AR w.heap.size [br] w w'/\B0 w' br (Jl p l c (t+20)) 78:=by
 have hX:(l.drop t).take (t+20-t)=E7:=by
  rw [he,show t+20-t=E7.length by show _=20;omega,List.take_left]
 have U:(E7.drop 0).take (10-0)=[48,48,48,48,48,48,48,48,48,48]:=rfl
 have V:(E7.drop 11).take (16-11)=[54,53,53,51,53]:=rfl
 have X:(E7.drop 18).take (20-18)=[32,10]:=rfl
 have ae:E7.length=20:=rfl
 have a0:E7[10]'dD=32:=rfl
 have a1:E7[16]'dD=32:=rfl
 have v:E7[17]'dD=102:=rfl
 refine Ar func76 rfl ntmps76 ?_
 have a2:=AR.refl w.heap.size ([br]) w
 refine A4<|Ct rfl<|A9 rfl<|Ad<|D6 12 rfl BR (λw'=>w'.heap[br]?=w.heap[br]?/\True) (λw1 x=>?_)
 have j:=h.drew x
 have a3:=hb.drew x
 have a4:=Dl a2 (OS x)
 have g:=Bs (j.trans h.symm) Bi
 refine Ab 0 rfl (.mv rfl) g ?_
 refine Ab 1 rfl (.nck rfl) g ?_
 refine Ab 2 rfl (.fa DE rfl D8 dD rfl) g ?_
 refine BX 3 rfl (λw' hw'=>Ae (g22_ _) rfl ((hw'.1).trans h) rfl) g rfl ?_
 refine Ab 4 rfl (.lenS B1 rfl) g ?_
 refine Ab 5 rfl (.mv rfl) g ?_
 refine Ab 6 rfl (.nck rfl) g ?_
 refine Ab 7 rfl (.fa DE rfl Bw dD rfl) g ?_
 refine BX 8 rfl (λw' hw'=>Ae (BZ _) rfl ((hw'.1).trans h) rfl) g rfl ?_
 refine Ab 9 rfl (.sub rfl rfl (Ba oO)) g ?_
 refine Ab 10 rfl (.bis (true) (.geq rfl rfl) (by simp;omega)) g ?_
 refine AX 11 rfl<|Ao (CZ _) (λw5 a5=>?_)
 obtain rfl:=a5
 refine A0<|⟨g,?_⟩
 refine BH kR<|Ad<|D6 15 rfl BR (λw'=>w'.heap[br]?=w1.heap[br]?/\True) (λw6 y=>?_)
 have B:=j.drew y
 have a6:=a3.drew y
 have a7:=Dl a4 (OS y)
 have d:=Bs (B.trans j.symm) Bi
 refine Ab 0 rfl (.mv rfl) d ?_
 refine Ab 1 rfl (.nck rfl) d ?_
 refine Ab 2 rfl (.fa DE rfl D8 dD rfl) d ?_
 refine BX 3 rfl (λw' hw'=>Ae (g22_ _) rfl ((hw'.1).trans j) rfl) d rfl ?_
 refine Ab 4 rfl (.mv rfl) d ?_
 refine Ab 5 rfl (.nck rfl) d ?_
 refine Ab 6 rfl (.fa DE rfl Bw dD rfl) d ?_
 refine BX 7 rfl (λw' hw'=>Ae (BZ _) rfl ((hw'.1).trans j) rfl) d rfl ?_
 refine Ab 8 rfl (.mv rfl) d ?_
 refine Ab 9 rfl (.nck rfl) d ?_
 refine Ab 10 rfl (.fa DE rfl Bw dD rfl) d ?_
 refine BX 11 rfl (λw' hw'=>Ae (BZ _) rfl ((hw'.1).trans j) rfl) d rfl ?_
 refine Ab 12 rfl (.add rfl rfl (Ba oO)) d ?_
 refine Ab 13 rfl (.slb B1 EA rfl rfl rfl  (t) (t+20) (rfl) (oO) (oO) (oO)) d ?_
 refine Ab 14 rfl (.as rfl) d ?_
 refine BH kR<|A4<|A3 rfl<|A1 (.nck rfl)<|A1 (.fa DE rfl Bw dD rfl)<|Ah (Ae (BZ _) rfl B rfl)<|A1 (.add rfl rfl (Ba oO))<|A1 (.nck rfl)<|A1 (.fa DE rfl Bw dD rfl)<|Br Bw rfl rfl rfl B (by exact Nat.le_of_ble_eq_true rfl) (λC k i ad=>?_)
 have k:B0 C br _ _:=k
 have i:CK br _ _:=i
 have E:=Ag.upd a6 i (hpb)
 have F:=Dl a7 (by exact QY i (by simp))
 refine A0<|Ad ?_
 have hx:Ag C (DV p c t) E7:=by
  have q:=Ag.part (a:=t) (b:=t+20) E oO oO hc
  rwa [hX] at q
 have a8:Ag C (DV (DV p c t) (c-t) 0) [48,48,48,48,48,48,48,48,48,48]:=by
  have q:=Ag.part (a:=0) (b:=10) (c:=c-t) hx oO oO oO
  rwa [U] at q
 refine Am<|A3 rfl<|A1 (.slbT B1 EA rfl rfl  10 rfl oO)<|Cm BK rfl rfl ((KB _ [48,48,48,48,48,48,48,48,48,48] 10 _ _ rfl a8 dD dD)) (λa9 o=>?_)
 have G:=k.bl o
 have s:=DL hx o (λH=>hx.lt H)
 have J:=kB F o
 refine A9 rfl<|Ad ?_
 have aa:Ag a9 (DV (DV p c t) (c-t) 11) [54,53,53,51,53]:=by
  have q:=Ag.part (a:=11) (b:=16) (c:=c-t) s oO oO oO
  rwa [V] at q
 refine Am<|A3 rfl<|A1 (.slb B1 EA rfl rfl rfl  11 16 rfl rfl oO oO)<|Cm BK rfl rfl ((KB _ [54,53,53,51,53] 5 _ _ rfl aa dD dD)) (λab u=>?_)
 have K:=G.bl u
 have f:=DL s u (λH=>s.lt H)
 have L:=kB J u
 refine A0<|Ad ?_
 have ac:Ag ab (DV (DV p c t) (c-t) 18) [32,10]:=by
  have q:=Ag.part (a:=18) (b:=20) (c:=c-t) f oO oO oO
  rwa [X] at q
 refine Am<|A3 rfl<|A1 (.slbF B1 EA rfl rfl  (18) (rfl) (oO))<|Ah (Yf (l:=[32,10]) B1 FK Gk rfl ((by show t+20-t-18=2;omega)) (ac))<|A9 rfl<|A4<|A3 rfl<|A1 (.ixb B1 EA rfl rfl (f.isp oO) (10) (rfl) oO)<|Ah (Bq (Iz _) rfl (f.cells (10) oO))<|A1 (.bis (true) (.eql rfl rfl) (by rw [a0];rfl))<|A3 rfl<|Az rfl<|A3 rfl<|Az rfl<|A1 (.ixb B1 EA rfl rfl (f.isp oO) (16) (rfl) oO)<|Az rfl<|Ah (Bq (Iz _) rfl (f.cells (16) oO))<|Az rfl<|A1 (.bis (true) (.eql rfl rfl) (by rw [a1];rfl))<|A1 (.pkT rfl rfl rfl)<|A3 rfl<|Az rfl<|A3 rfl<|Az rfl<|A1 (.ixb B1 EA rfl rfl (f.isp oO) (17) (rfl) oO)<|Az rfl<|Ah (Bq (Iz _) rfl (f.cells (17) oO))<|Az rfl<|A1 (.bis (false) (.eql rfl rfl) (by rw [v];rfl))<|Az rfl<|A3 rfl<|Az rfl<|A3 rfl<|Az rfl<|A1 (.ixb B1 EA rfl rfl (f.isp oO) (17) (rfl) oO)<|Az rfl<|Ah (Bq (Iz _) rfl (f.cells (17) oO))<|Az rfl<|A1 (.bis (true) (.eql rfl rfl) (by rw [v];rfl))<|Az rfl<|A1 (.pkF rfl rfl rfl)<|A1 (.pkT rfl rfl rfl)<|A3 rfl<|Az rfl<|A3 rfl<|Az rfl<|A1 (.bis (false) (.eqs rfl rfl) dD)<|Az rfl<|A3 rfl<|Az rfl<|A3 rfl<|Az rfl<|A1 (.bis (true) (.eqs rfl rfl) dD)<|Az rfl<|A1 (.pkF rfl rfl rfl)<|Az rfl<|A3 rfl<|Bc rfl<|Bc rfl<|Az rfl<|A1 (.pkT rfl rfl rfl)<|A1 (.pkT rfl rfl rfl)<|Ao (CZ _) (λaf P=>?_)
 obtain rfl:=P
 refine A0<|Ad<|DH BR kR<|WQ.p (.mv rfl) rfl<|WQ.p (.mv rfl) rfl<|WQ.p (.ixb B1 EA rfl rfl (f.isp oO) (17) (rfl) oO) rfl<|Db (λm=>Bq (Iz _) rfl ((f.drewN m).cells (17) oO)) rfl<|WQ.p (.bis (false) (.eql rfl rfl) (by rw [v];rfl)) rfl<|WQ.p (.as rfl) rfl<|WQ.p (.as rfl) rfl<|CX (λag D=>?_)
 have Q:=K.drew D
 have T:=Dl L (OS D)
 refine AT (D0 rfl rfl rfl ?_)
 exact ⟨Ff (by rfl),T,Q⟩
end
section
def Uv (l:l8_) (a d:Int):PV × Int × Int :=
 if a<0\/(l.length:Int)<a then (Jm 0 0 [],0,21)
 else if B4 false l a.toNat<l.length then
  (match ES true l d.toNat (B4 false l a.toNat) with
   | .ok (o,t')=>(o,t',0)
   | .error k=>(Jm 0 0 [],0,k))
 else (Jm 0 0 [],0,26)
def A7B (B:Nat) (R:PV × Int × Int) (e:Ending) (w':World):Prop :=
 ∃ x:PC,e=.returned (.tuple #[.agg (Wo x).toArray,Af R.2.1,Af R.2.2])/\BP w' (λk=>B<=k) x R.1
theorem Uo (p:Option Addr) (l:l8_) (c:Nat) (a d:Int) (w:World) (hb:Ag w p l) (hc:l.length<=c) (hl:l.length<=100000000) (hd:-9223372036854775808<d/\d<=1000000000) :
    Calls Tryz.prog 55 #[.slice p l.length c,Af a,Af d] w λe w'=>A7B w.heap.size (Uv l a d) e w'/\AL w w':=by
  obtain ⟨R,hR⟩:=eX (Uv l a d)
  rw [<- hR]
  unfold Uv at hR
  obtain ⟨t,ht⟩:=eX (B4 false l (IZ l a))
  have hSk:∀ w1,Ag w1 p l->Calls Tryz.prog 53 #[.slice p l.length c,Af a] w1 λe w'=>e=.returned (Af (t:Int))/\w1=w':=λw1 h1=>by rw [ht];exact Ju p l c a w1 h1 hl
  have htl:t<=l.length:=by rw [ht];exact Ec _ _ _
  have hta:¬ (a<0\/(l.length:Int)<a)->B4 false l a.toNat=t:=λh=>by rw [ht];unfold IZ;rw [A2 h]
  refine GQ func55 rfl ntmps55 bL ?_
  have hB0:=CN w
  refine WD.seq ?_
  refine Am<|Bj Cz rfl (λb1 wb1 eb1 hkb1 hub1 hsb1=>?_)
  have hvl3:=λh0=>eb1▸hb.lt h0
  have hv2:=Ce hb hub1 hvl3
  have hB4:=uB hB0 eb1 hub1
  have hgeb1:=CF eb1 hB0.size
  refine Bj Yj rfl (λb5 wb5 eb5 hkb5 hub5 hsb5=>?_)
  have hl7:=Bl eb5 hkb1.lt
  have hk6:=hkb1.un hub5 hl7
  have hvl9:=λh0=>eb5▸hv2.lt h0
  have hv8:=Ce hv2 hub5 hvl9
  have hB10:=uB hB4 eb5 hub5
  have hgeb5:=CF eb5 hB4.size
  refine Bj SN rfl (λb11 wb11 eb11 hkb11 hub11 hsb11=>?_)
  have hl13:=Bl eb11 hk6.lt
  have hk12:=hk6.un hub11 hl13
  have hl15:=Bl eb11 hkb5.lt
  have hk14:=hkb5.un hub11 hl15
  have hvl17:=λh0=>eb11▸hv8.lt h0
  have hv16:=Ce hv8 hub11 hvl17
  have hB18:=uB hB10 eb11 hub11
  have hgeb11:=CF eb11 hB10.size
  refine A0<|?_
  refine WD.seq ?_
  refine FT 17 (decide (a<0\/(l.length:Int)<a)) ?_ ?_
  refine Am<|WL.m rfl rfl<|WL.p (.lss rfl rfl) rfl<|WL.m rfl rfl<|Ck rfl rfl rfl (λg19=>?_) (λg19=>?_)
  · have g19' := dF g19
    refine WL.m rfl rfl<|GX rfl rfl rfl g19<|WL.m rfl rfl<|GX rfl rfl rfl g19<|WL.p (.lenS B1 rfl) rfl<|GX rfl rfl rfl g19<|WL.p (.gtr rfl rfl) rfl<|WL.p (.pkF rfl g19 rfl) rfl<|A0<|?_
    exact ⟨Gy (DM rfl (by (simp;omega))),rfl⟩
  have g19':=dT g19
  refine Ie rfl rfl rfl g19<|Ie rfl rfl rfl g19<|Ie rfl rfl rfl g19<|WL.p (.pkT rfl g19 rfl) rfl<|A0<|?_
  exact ⟨Gy (DM rfl (by (simp;omega))),rfl⟩
  refine Ai rfl (λh20=>?_) (λh20=>?_)
  · have h20' := dT h20
    rw [A7 aS] at hR
    subst hR
    refine A4<|WL.p (.buildL (ps:=_) Er rfl rfl rfl pZ) rfl ?_
    refine Ax rfl rfl hk12 Al rfl rfl (λw21 hkw21 huw21 hsw21=>?_)
    have hk22:=hk14.up huw21
    have hk23:=hkb11.up huw21
    have hB25:=BU hB18 oO huw21
    refine Br Bw rfl rfl rfl hk22 dD (λw26 hkw26 huw26 hsw26=>?_)
    have hkw26:B0 w26 b5 _ _:=hkw26
    have huw26:CK b5 _ _:=huw26
    have hk27:=hkw21.up huw26
    have hk28:=hk23.up huw26
    have hB30:=BU hB25 oO huw26
    refine Br EJ rfl rfl rfl hk28 dD (λw31 hkw31 huw31 hsw31=>?_)
    have hkw31:B0 w31 b11 _ _:=hkw31
    have huw31:CK b11 _ _:=huw31
    have hk32:=hk27.up huw31
    have hk33:=hkw26.up huw31
    have hB35:=BU hB30 oO huw31
    refine A0<|?_
    refine AT ?_
    exact FV (CY rfl rfl rfl rfl (Be hk32 Ay rfl Al) (B5 hk33 (BZ _) rfl) (B5 hkw31 (Ed _) rfl)) ⟨⟨DK 0 0 [],AU rfl,BP.zero _ _ _ _ _⟩,hB35⟩
  have h20':=dF h20
  rw [A2 aS,hta aS] at hR
  refine Ap ?_
  refine WD.seq ?_
  refine Am<|WL.m rfl rfl<|WL.m rfl rfl<|Cm BK rfl rfl ((hSk _ hv16)) (λw36 hw36=>?_)
  obtain rfl:=hw36
  refine A6F rfl rfl ?_
  refine WD.seq ?_
  refine A4<|WL.m rfl rfl<|WL.m rfl rfl<|WL.p (.lenS B1 rfl) rfl<|WL.p (.eql rfl rfl) rfl<|A0<|?_
  refine Ai rfl (λh37=>?_) (λh37=>?_)
  · have h37' := dT h37
    rw [A2 oO] at hR
    subst hR
    refine A4<|WL.p (.buildL (ps:=_) Er rfl rfl rfl pZ) rfl ?_
    refine Ax rfl rfl hk12 Al rfl rfl (λw38 hkw38 huw38 hsw38=>?_)
    have hk39:=hk14.up huw38
    have hk40:=hkb11.up huw38
    have hB42:=BU hB18 oO huw38
    refine Br Bw rfl rfl rfl hk39 dD (λw43 hkw43 huw43 hsw43=>?_)
    have hkw43:B0 w43 b5 _ _:=hkw43
    have huw43:CK b5 _ _:=huw43
    have hk44:=hkw38.up huw43
    have hk45:=hk40.up huw43
    have hB47:=BU hB42 oO huw43
    refine Br EJ rfl rfl rfl hk45 dD (λw48 hkw48 huw48 hsw48=>?_)
    have hkw48:B0 w48 b11 _ _:=hkw48
    have huw48:CK b11 _ _:=huw48
    have hk49:=hk44.up huw48
    have hk50:=hkw43.up huw48
    have hB52:=BU hB47 oO huw48
    refine A0<|?_
    refine AT ?_
    exact FV (CY rfl rfl rfl rfl (Be hk49 Ay rfl Al) (B5 hk50 (BZ _) rfl) (B5 hkw48 (Ed _) rfl)) ⟨⟨DK 0 0 [],AU rfl,BP.zero _ _ _ _ _⟩,hB52⟩
  have h37':=dF h37
  have htlt:t<l.length:=by omega
  rw [A7 htlt] at hR
  refine Ap ?_
  refine WD.defer rfl rfl ?_
  refine Nz ?_
  refine A4<|WL.m rfl rfl<|WL.m rfl rfl<|?_
  refine WL.p (.buildL (ps:=_) A1U rfl rfl rfl pS) rfl ?_
  refine WL.box rfl rfl (λb53 wb53 eb53 hkb53 hub53 hsb53=>?_)
  have hl55:=Bl eb53 hk12.lt
  have hk54:=hk12.un hub53 hl55
  have hl57:=Bl eb53 hk14.lt
  have hk56:=hk14.un hub53 hl57
  have hl59:=Bl eb53 hkb11.lt
  have hk58:=hkb11.un hub53 hl59
  have hvl61:=λh0=>eb53▸hv16.lt h0
  have hv60:=Ce hv16 hub53 hvl61
  have hB62:=uB hB18 eb53 hub53
  refine A6F rfl rfl ?_
  refine A4<|WL.m rfl rfl<|WL.m rfl rfl<|Eg BK rfl rfl ((QT p l c true hc hl d.toNat d (DP _) hd b53 t _ ⟨hkb53,hv60⟩ (λh0=>by have:=hb.lt h0;omega) htlt)) (λk65 w63 hrw63 hw63=>?_) (λa64 x66 w63 hrw63 hw63=>?_)
  have hBew63:=Ej hB62 (Bh.below hw63 hB62.size oO)
  exact GR Zh (λw'=>_) (Un b1 b5 b11 w.heap.size _ _ _ _ _ _ _ _ k65 _ (Gn hk54 hw63 hk54.lt oO) (Gn hk56 hw63 hk56.lt oO) (Gn hk58 hw63 hk58.lt oO) oO oO oO (Uw true l _ _ _ hrw63).ne)
    (λw' hS=>⟨_,CY rfl rfl rfl rfl (Be hS.1 Ay rfl Al) (B5 hS.2.1 (BZ _) rfl) (B5 hS.2.2.1 (Ed _) rfl),⟨DK 0 0 [],AU (by rw [hR,show ES true l d.toNat t=_ from hrw63];rfl),by rw [hR,show ES true l d.toNat t=_ from hrw63];exact BP.zero _ _ _ _ _⟩,hBew63.trans hS.2.2.2⟩)
  have hrr:=hrw63
  obtain ⟨oX,tX⟩:=a64
  obtain ⟨x1,rfl,hpx,hrd1,hT1⟩:=hw63
  have hpx1:=hpx.mono (T:=λk=>b53<k/\w.heap.size<=k) (λk hk _=>by have h1:=(hkb53).lt;have h2:=hB62.size;omega)
  have hk61:=Gn hk54 hT1 (hk54).lt oO
  have hk71:=Gn hk56 hT1 (hk56).lt oO
  have hk81:=Gn hk58 hT1 (hk58).lt oO
  have hB1:=Ej hB62 (Bh.below hT1 hB62.size oO)
  have hr1:=hrd1.1
  rw [show ES true l d.toNat t=_ from hrr] at hR
  subst hR
  refine Ax rfl rfl hk61 Al rfl rfl (λw67 hkw67 huw67 hsw67=>?_)
  have hF68:=BP.same (w1:=w67) hpx1 (λk hk hl=>huw67.other k oM)
  have hk69:=hk71.up huw67
  have hk70:=hk81.up huw67
  have hk71:=hr1.upd huw67 oM
  have hB73:=BU hB1 oO huw67
  refine A0<|?_
  refine Ad ?_
  refine Lb ?_
  refine Fe 8 rfl BR (λw74 dw74=>?_)
  have hF75:=BP.same (w1:=w74) hF68 (λk hk hl=>(by obtain ⟨m,rfl⟩:=dw74;rfl))
  have hk76:=hkw67.drew dw74
  have hk77:=hk69.drew dw74
  have hk78:=hk70.drew dw74
  have hk79:=hk71.drew dw74
  have hB81:=C6.below hB73 dw74
  refine AI 1 rfl (.mv rfl) rfl ?_
  refine AI 2 rfl (.nck rfl) rfl ?_
  refine AI 3 rfl (.fa CC rfl Bw dD rfl) rfl ?_
  refine CG 0 rfl 4 rfl ?_ ?_
  refine Zz (Bk rfl hk76 Ay rfl Al) rfl<|A0<|?_
  refine CG 4 rfl 5 rfl ?_ ?_
  refine Zz (Ae (BZ _) rfl hk79 rfl) rfl<|A0<|?_
  refine Av 5 rfl ?_
  refine Ax rfl rfl hk76 Al rfl rfl (λw82 hkw82 huw82 hsw82=>?_)
  have hF83:=BP.same (w1:=w82) hF75 (λk hk hl=>huw82.other k oM)
  have hk84:=hk77.up huw82
  have hk85:=hk78.up huw82
  have hB88:=BU hB81 oO huw82
  refine A0<|?_
  refine Av 6 rfl ?_
  refine Br Bw rfl rfl rfl hk84 dD (λw89 hkw89 huw89 hsw89=>?_)
  have hkw89:B0 w89 b5 _ _:=hkw89
  have huw89:CK b5 _ _:=huw89
  have hF90:=BP.same (w1:=w89) hF83 (λk hk hl=>huw89.other k oM)
  have hk91:=hkw82.up huw89
  have hk92:=hk85.up huw89
  have hB95:=BU hB88 oO huw89
  refine A0<|?_
  refine Av 7 rfl ?_
  refine Br EJ rfl rfl rfl hk92 dD (λw96 hkw96 huw96 hsw96=>?_)
  have hkw96:B0 w96 b11 _ _:=hkw96
  have huw96:CK b11 _ _:=huw96
  have hF97:=BP.same (w1:=w96) hF90 (λk hk hl=>huw96.other k oM)
  have hk98:=hk91.up huw96
  have hk99:=hkw89.up huw96
  have hB102:=BU hB95 oO huw96
  refine A0<|?_
  refine Bn kR ?_
  refine AT ?_
  exact D1.ret Zh (λw'=>_) (II b1 b5 b11 _ hkw96) (λw' hS=>by subst hS;exact ⟨_,CY rfl rfl rfl rfl (Be hk98 Ay rfl Al) (B5 hk99 (BZ _) rfl) (B5 hkw96 (Ed _) rfl),⟨x1,AU rfl,(hF97).mono (λk hk _=>hk.2)⟩,hB102⟩)
  refine Ax rfl rfl hk76 Al rfl rfl (λw103 hkw103 huw103 hsw103=>?_)
  have hF104:=BP.same (w1:=w103) hF75 (λk hk hl=>huw103.other k oM)
  have hk105:=hk77.up huw103
  have hk106:=hk78.up huw103
  have hk107:=hk79.up huw103
  have hB109:=BU hB81 oO huw103
  refine A0<|?_
  refine Av 4 rfl ?_
  refine Zz (Ae (BZ _) rfl hk107 rfl) rfl<|A0<|?_
  refine Av 6 rfl ?_
  refine Br Bw rfl rfl rfl hk105 dD (λw110 hkw110 huw110 hsw110=>?_)
  have hkw110:B0 w110 b5 _ _:=hkw110
  have huw110:CK b5 _ _:=huw110
  have hF111:=BP.same (w1:=w110) hF104 (λk hk hl=>huw110.other k oM)
  have hk112:=hkw103.up huw110
  have hk113:=hk106.up huw110
  have hB116:=BU hB109 oO huw110
  refine A0<|?_
  refine Av 7 rfl ?_
  refine Br EJ rfl rfl rfl hk113 dD (λw117 hkw117 huw117 hsw117=>?_)
  have hkw117:B0 w117 b11 _ _:=hkw117
  have huw117:CK b11 _ _:=huw117
  have hF118:=BP.same (w1:=w117) hF111 (λk hk hl=>huw117.other k oM)
  have hk119:=hk112.up huw117
  have hk120:=hkw110.up huw117
  have hB123:=BU hB116 oO huw117
  refine A0<|?_
  refine Bn kR ?_
  refine AT ?_
  exact D1.ret Zh (λw'=>_) (II b1 b5 b11 _ hkw117) (λw' hS=>by subst hS;exact ⟨_,CY rfl rfl rfl rfl (Be hk119 Ay rfl Al) (B5 hk120 (BZ _) rfl) (B5 hkw117 (Ed _) rfl),⟨x1,AU rfl,(hF118).mono (λk hk _=>hk.2)⟩,hB123⟩)
  refine Zz (Ae (BZ _) rfl hk79 rfl) rfl<|A0<|?_
  refine Av 0 rfl ?_
  refine Zz (Bk rfl hk76 Ay rfl Al) rfl<|A0<|?_
  refine Av 5 rfl ?_
  refine Ax rfl rfl hk76 Al rfl rfl (λw124 hkw124 huw124 hsw124=>?_)
  have hF125:=BP.same (w1:=w124) hF75 (λk hk hl=>huw124.other k oM)
  have hk126:=hk77.up huw124
  have hk127:=hk78.up huw124
  have hB130:=BU hB81 oO huw124
  refine A0<|?_
  refine Av 6 rfl ?_
  refine Br Bw rfl rfl rfl hk126 dD (λw131 hkw131 huw131 hsw131=>?_)
  have hkw131:B0 w131 b5 _ _:=hkw131
  have huw131:CK b5 _ _:=huw131
  have hF132:=BP.same (w1:=w131) hF125 (λk hk hl=>huw131.other k oM)
  have hk133:=hkw124.up huw131
  have hk134:=hk127.up huw131
  have hB137:=BU hB130 oO huw131
  refine A0<|?_
  refine Av 7 rfl ?_
  refine Br EJ rfl rfl rfl hk134 dD (λw138 hkw138 huw138 hsw138=>?_)
  have hkw138:B0 w138 b11 _ _:=hkw138
  have huw138:CK b11 _ _:=huw138
  have hF139:=BP.same (w1:=w138) hF132 (λk hk hl=>huw138.other k oM)
  have hk140:=hk133.up huw138
  have hk141:=hkw131.up huw138
  have hB144:=BU hB137 oO huw138
  refine A0<|?_
  refine Bn kR ?_
  refine AT ?_
  exact D1.ret Zh (λw'=>_) (II b1 b5 b11 _ hkw138) (λw' hS=>by subst hS;exact ⟨_,CY rfl rfl rfl rfl (Be hk140 Ay rfl Al) (B5 hk141 (BZ _) rfl) (B5 hkw138 (Ed _) rfl),⟨x1,AU rfl,(hF139).mono (λk hk _=>hk.2)⟩,hB144⟩)
end
section
theorem Ik (p:Option Addr) (l:l8_) (c t t':Nat) (v:PV) (w:World) (hb:Ag w p l) (hc:l.length<=c) (hl:l.length<=100000000) (hv:Uv l t 32=(v,(t':Int),0)) :
  Calls Tryz.prog 55 #[.slice p l.length c,Af (t:Int),Af 32] w λe w'=>∃ r,e=.returned r/\AL w w'/\∃ y:PC,r=.tuple #[.agg (Wo y).toArray,Af (t':Int),Af 0]/\BP w' (λk=>w.heap.size<=k) y v :=
 (Uo p l c t 32 w hb hc hl dD).mono fun e w' h => by
  obtain ⟨⟨y,h1,h2⟩,h3⟩:=h
  rw [hv] at h1 h2
  exact ⟨_,h1,h3,y,rfl,h2⟩
theorem Xt (br:Nat) (p:Option Addr) (l:l8_) (c t t':Nat) (v:PV) (w:World) (h:B0 w br (Jl p l c t) 78) (hb:Ag w p l) (hc:l.length<=c) (hl:l.length<=100000000)
  (hpb:0<l.length->(pA p).block≠br) (hv:Uv l t 32=(v,(t':Int),0)) :
  Calls Tryz.prog 140 #[ptV br] w λe w'=>∃ y:PC,e=.returned (.agg (Wo y).toArray)/\BP w' (λk=>w.heap.size<=k) y v/\AR w.heap.size [br] w w'/\B0 w' br (Jl p l c t') 78:=by
 refine Ar func140 rfl ntmps140 ?_
 have aj:=AR.refl w.heap.size ([br]) w
 refine A4<|Bj Cz rfl (λb1 aZ P an F bh=>?_)
 have a':=Bl P h.lt
 have d:=h.un F a'
 have ao:=λh0=>P▸hb.lt h0
 have b0:=Ce hb F ao
 have ab:=CF P aj.size
 have b2:=Dl aj (GT F ab)
 refine A0<|Ad<|D6 17 rfl BR (λw'=>w'.heap[br]?=aZ.heap[br]?/\True) (λw7 K=>?_)
 have L:=d.drew K
 have N:=an.drew K
 have G:=b0.drew K
 have q:=Dl b2 (OS K)
 have f:=Bs (L.trans d.symm) Bi
 refine Ab 0 rfl (.mv rfl) f ?_
 refine Ab 1 rfl (.nck rfl) f ?_
 refine Ab 2 rfl (.fa DE rfl D8 dD rfl) f ?_
 refine BX 3 rfl (λw' hw'=>Ae (g22_ _) rfl ((hw'.1).trans d) rfl) f rfl ?_
 refine Ab 4 rfl (.mv rfl) f ?_
 refine Ab 5 rfl (.nck rfl) f ?_
 refine Ab 6 rfl (.fa DE rfl Bw dD rfl) f ?_
 refine BX 7 rfl (λw' hw'=>Ae (BZ _) rfl ((hw'.1).trans d) rfl) f rfl ?_
 refine FA 8 rfl 13 rfl ?_ ?_
 refine Bf BK rfl rfl ((Ik p l c t t' v _ G hc hl hv)) (λr b3 s=>?_)
 have H:=L.bl s.1
 have Q:=N.bl s.1
 have U:=kB q s.1
 obtain ⟨y,rfl,V⟩:=s.2
 have X:=q.size
 have hy:=V.mono (T:=λk=>w.heap.size<=k/\w7.heap.size<=k/\k<b3.heap.size) (λk hk Y=>⟨C9 X hk,hk,Y⟩)
 have ap:=(N).lt
 refine A0<|?_
 have D:=Bs (H.trans d.symm) Bi
 refine ⟨D,?_⟩
 refine Ab 9 rfl (.mv rfl) D ?_
 refine Ab 10 rfl (.ext rfl rfl) D ?_
 refine Ab 11 rfl (.ext rfl rfl) D ?_
 refine Ab 12 rfl (.ext rfl rfl) D ?_
 refine AX 13 rfl<|Bj Cz rfl (λbi aq J ac g b9=>?_)
 have ar:=BP.same (w1:=aq) hy (λk hk hl=>g.other k oO)
 have au:=Bl J H.lt
 have a0:=H.un g au
 have av:=Bl J Q.lt
 have aw:=Q.un g av
 have a1:=CF J U.size
 have ax:=Dl U (GT g a1)
 refine A0<|⟨⟨(a0).trans (d).symm,tT⟩,?_⟩
 refine AX 14 rfl<|Ax rfl rfl ac Al rfl rfl (λb4 ad i ba=>?_)
 have ay:=BP.same (w1:=b4) ar (λk hk hl=>i.other k oM)
 have a2:=a0.up i
 have az:=aw.up i
 have aA:=Dl ax (by exact GT i oO)
 refine A0<|?_
 have a3:=Bs (a2.trans d.symm) Bi
 refine ⟨a3,?_⟩
 refine Ab 15 rfl (.as rfl) a3 ?_
 refine Ab 16 rfl (.as rfl) a3 ?_
 refine BH kR<|Ad<|AO<|A4<|A3 rfl<|A1 (.bis (false) (.eql rfl rfl) dD)<|A9 rfl<|Aq rfl rfl<|A4<|A3 rfl<|A1 (.bis (false) (.neq rfl rfl) dD)<|A9 rfl<|Aq rfl rfl<|Ap<|A4<|A3 rfl<|A3 rfl<|A1 (.nck rfl)<|A1 (.fa DE rfl Bw dD rfl)<|Br Bw rfl rfl rfl a2 (by exact Nat.le_of_ble_eq_true rfl) (λak u a bb=>?_)
 have u:B0 ak br _ _:=u
 have a:CK br _ _:=a
 have aB:=BP.same (w1:=ak) ay (λk hk hl=>a.other k oM)
 have aC:=az.up a
 have aD:=ad.up a
 have aE:=Dl aA (by exact QY a (by simp))
 refine A0<|A4<|Ah (Bk rfl aD Ay rfl Al)<|Ax rfl rfl aC Al rfl rfl (λb5 ae x bc=>?_)
 have aF:=BP.same (w1:=b5) aB (λk hk hl=>x.other k oM)
 have aG:=u.up x
 have aH:=Dl aE (by exact GT x oO)
 refine A0<|AT (BI rfl rfl (Be ae Ay rfl Al)  ?_)
 exact ⟨y,Ff rfl,(aF).mono (T:=λk=>w.heap.size<=k) (λk hk _=>hk.1),aH,aG⟩
 refine Bj Cz rfl (λbj aI A af j bd=>?_)
 have aJ:=Bl A L.lt
 have a4:=L.un j aJ
 have aK:=Bl A N.lt
 have a5:=N.un j aK
 have ag:=λh0=>A▸G.lt h0
 have aL:=Ce G j ag
 have a6:=CF A q.size
 have a7:=Dl q (GT j a6)
 refine A0<|⟨⟨(a4).trans (d).symm,tT⟩,?_⟩
 refine AX 8 rfl<|Bf BK rfl rfl ((Ik p l c t t' v _ aL hc hl hv)) (λr b6 o=>?_)
 have a8:=a4.bl o.1
 have aM:=a5.bl o.1
 have aN:=af.bl o.1
 have aO:=kB a7 o.1
 obtain ⟨y,rfl,V⟩:=o.2
 have X:=a7.size
 have hy:=V.mono (T:=λk=>w.heap.size<=k/\aI.heap.size<=k/\k<b6.heap.size) (λk hk Y=>⟨C9 X hk,hk,Y⟩)
 have ap:=(a5).lt
 refine A0<|?_
 have E:=Bs (a8.trans d.symm) Bi
 refine ⟨E,?_⟩
 refine Ab 9 rfl (.mv rfl) E ?_
 refine Ab 10 rfl (.ext rfl rfl) E ?_
 refine Ab 11 rfl (.ext rfl rfl) E ?_
 refine Ab 12 rfl (.ext rfl rfl) E ?_
 refine AX 14 rfl<|Ax rfl rfl aN Al rfl rfl (λb7 ah m be=>?_)
 have aP:=BP.same (w1:=b7) hy (λk hk hl=>m.other k oM)
 have a9:=a8.up m
 have aQ:=aM.up m
 have aR:=Dl aO (by exact GT m oO)
 refine A0<|?_
 have aa:=Bs (a9.trans d.symm) Bi
 refine ⟨aa,?_⟩
 refine Ab 15 rfl (.as rfl) aa ?_
 refine Ab 16 rfl (.as rfl) aa ?_
 refine BH kR<|Ad<|AO<|A4<|A3 rfl<|A1 (.bis (false) (.eql rfl rfl) dD)<|A9 rfl<|Aq rfl rfl<|A4<|A3 rfl<|A1 (.bis (false) (.neq rfl rfl) dD)<|A9 rfl<|Aq rfl rfl<|Ap<|A4<|A3 rfl<|A3 rfl<|A1 (.nck rfl)<|A1 (.fa DE rfl Bw dD rfl)<|Br Bw rfl rfl rfl a9 (by exact Nat.le_of_ble_eq_true rfl) (λam B b bf=>?_)
 have B:B0 am br _ _:=B
 have b:CK br _ _:=b
 have aS:=BP.same (w1:=am) aP (λk hk hl=>b.other k oM)
 have aT:=aQ.up b
 have aU:=ah.up b
 have aV:=Dl aR (by exact QY b (by simp))
 refine A0<|A4<|Ah (Bk rfl aU Ay rfl Al)<|Ax rfl rfl aT Al rfl rfl (λb8 ai C bg=>?_)
 have aW:=BP.same (w1:=b8) aS (λk hk hl=>C.other k oM)
 have aX:=B.up C
 have aY:=Dl aV (by exact GT C oO)
 refine A0<|AT (BI rfl rfl (Be ai Ay rfl Al)  ?_)
 exact ⟨y,Ff rfl,(aW).mono (T:=λk=>w.heap.size<=k) (λk hk _=>hk.1),aY,aX⟩
end
section
theorem Zw (p:Option Addr) (l:l8_) (n c:Nat) (q:Option Addr) (s:l8_) (m d:Nat) (w:World) (hn:l.length=n) (hm:s.length=m) (ha:Ag w p l) (hb:Ag w q s) :
  Calls Tryz.prog 46 #[.slice p n c,.slice q m d] w λe w'=>e=.returned (.bool (decide (l=s)))/\w=w':=by
 subst hn hm
 refine Ar func46 rfl ntmps46<|A4<|A9 rfl<|A4<|A3 rfl<|Ah (Fm (l:=l) B1 FK Gk rfl (ha))<|A3 rfl<|Ah (Fm (l:=s) B1 FK Gk rfl (hb))<|A1 (.eqs rfl rfl)<|A9 rfl<|AW ?_
 exact ⟨rfl,rfl⟩
theorem Mr (p:Option Addr) (l:l8_) (n c:Nat) (q:Option Addr) (s:l8_) (m d:Nat) (w:World) (hn:l.length=n) (hm:s.length=m) (ha:Ag w p l) (hb:Ag w q s) (hle:s.length<=l.length) (hc:l.length<=c) :
  Calls Tryz.prog 26 #[.slice p n c,.slice q m d] w λe w'=>e=.returned (.bool (decide (l.take s.length=s)))/\w=w':=by
 subst hn hm
 have hp:Ag w (DV p c 0) (l.take s.length):=by
  have:=Ag.part (a:=0) (b:=s.length) ha oO hle hc
  simpa using this
 refine Ar func26 rfl ntmps26<|A4<|A9 rfl<|A4<|A3 rfl<|A1 (.lenS B1 rfl)<|A3 rfl<|A1 (.lenS B1 rfl)<|A1 (.bis (true) (.geq rfl rfl) (by simp;omega))<|A3 rfl<|Az rfl<|A3 rfl<|Az rfl<|A3 rfl<|Az rfl<|A1 (.lenS B1 rfl)<|Az rfl<|A1 (.slbT B1 EA rfl rfl  (s.length) (rfl) oO)<|Az rfl<|A3 rfl<|Az rfl<|Cm BK rfl rfl ((Zw _ (l.take s.length) _ _ _ s _ _ _ (by rw [At];omega) rfl hp hb)) (λg f=>?_)
 obtain rfl:=f
 refine A1 (.pkT rfl rfl rfl)<|A9 rfl<|AW ?_
 exact ⟨rfl,rfl⟩
theorem IT (t:Bool) (p:Option Addr) (l:l8_) (n c:Nat) (q:Option Addr) (s:l8_) (m d:Nat) (w:World) (hn:l.length=n) (hm:s.length=m) (ha:Ag w p l) (hb:Ag w q s) (hle:s.length<=l.length) (hc:l.length<=c) (ht:decide (l.take s.length=s)=t) :
  Calls Tryz.prog 26 #[.slice p n c,.slice q m d] w λe w'=>e=.returned (.bool t)/\w=w' :=
 (Mr p l n c q s m d w hn hm ha hb hle hc).mono λe w' h=>⟨h.1.trans (rbE ht),h.2⟩
theorem CP.baseB  {C:Nat} {l:List Value} (h:CP e B w v l) (hC:C<=B):CP e C w v l:=by
 obtain ⟨hl,h⟩:=h
 exact ⟨hl,h.imp id λ⟨g,cap,cur,a,b,c⟩=>⟨g,cap,cur,a,C9 hC b,c⟩⟩
theorem QI (p:Option Addr) (l:l8_) (c:Nat) (w:World) (h:Ag w p l) (hc:l=[]->c=0\/p≠none) (hl:l.length<=100000000) :
  Calls Tryz.prog 28 #[.slice p l.length c] w λe w'=>∃ v,e=.returned v/\AL w w'/\CP 5 w.heap.size w' v (AQ l):=by
 refine Ar func28 rfl ntmps28 ?_
 have f:=CN w
 refine A4<|A9 rfl<|Ad<|A4<|A3 rfl<|A1 (.eqSN B1 rfl)<|A0<|Ai rfl (λC=>?_) (λC=>?_)
 have hp:p=none:=by cases p with | none=>rfl | some a=>exact De (show (some a).isNone=true by assumption) (by simp)
 have s:l=[]:=by
  cases l with
  | nil=>rfl
  | cons x r=>have:=h.isp (by simp);rw [hp] at this;cases this
 subst s
 refine A4<|A9 rfl<|AW ?_
 exact ⟨_,rfl,f,CP.nil _ _ _⟩
 refine Ap<|A4<|Jd B1 EA rfl (λt u g b i D=>?_)
 have k:=λm=>g▸h.lt m
 have y:=Ag.upd h i (λm=>CR (k m))
 have A:=uB f g i
 have d:=CF g f.size
 have b:=b t (DP _)
 have j:t<=u.heap.size:=by omega
 refine A3 rfl<|TH B1 IN rfl rfl rfl b rfl y (by simp only [Ak];omega) (j) rfl (hc) (λF G o q E=>?_)
 have B:=Ej A (q.mono (d))
 refine A9 rfl<|AW ?_
 exact ⟨_,rfl,B,by simpa using CP.baseB (o) d⟩
theorem Zx (p:Option Addr) (l:l8_) (n c:Nat) (w:World) (hn:l.length=n) (h:Ag w p l) (hc:l=[]->c=0\/p≠none) (hl:l.length<=100000000) :
  Calls Tryz.prog 28 #[.slice p n c] w λe w'=>∃ v,e=.returned v/\AL w w'/\CP 5 w.heap.size w' v (AQ l):=by
 subst hn;exact QI p l c w h hc hl
def ED (S:Nat->Prop) (w:World) (v:Value) (l:l8_):Prop:=CP 5 0 w v (AQ l)/\∀ g,v.ownBlock=some g->S g
theorem CP.ltB  (h:CP e B w v xs):∀ g,v.ownBlock=some g->B<=g/\g<w.heap.size:=λg hg=>by
 obtain ⟨hl,h⟩:=h
 rcases h with ⟨rfl,-⟩ | ⟨g',cap,cur,rfl,hB,hg',-⟩
 · cases hg
 · cases hg;exact ⟨hB,(Bd.1 hg').1⟩
theorem ED.same  (h:ED S w v l) (hb:∀ k,S k->k<w.heap.size->w1.heap[k]?=w.heap[k]?):ED S w1 v l:=by
 obtain ⟨⟨hl,h⟩,hS⟩:=h
 refine ⟨⟨hl,h.imp id λ⟨g,cap,cur,a,c,b,d⟩=>⟨g,cap,cur,a,c,?_,d⟩⟩,hS⟩
 subst a
 exact (hb g (hS g rfl) (Bd.1 b).1).trans b
theorem ED.mono  (h:ED S w v l) (hT:∀ k,S k->k<w.heap.size->T k):ED T w v l:=⟨h.1,λg hg=>hT g (h.2 g hg) (h.1.ltB g hg).2⟩
theorem ED.nil (S:Nat->Prop) (w:World):ED S w (.slice none 0 0) []:=⟨CP.nil _ _ _,λg h=>by cases h⟩
theorem MS (p:Option Addr) (l:l8_) (n c:Nat) (w:World) (hn:l.length=n) (h:Ag w p l) (hc:l=[]->c=0\/p≠none) (hl:l.length<=100000000) :
  Calls Tryz.prog 28 #[.slice p n c] w λe w'=>∃ x:Option Addr × Nat,e=.returned (.slice x.1 l.length x.2)/\AL w w'/\Ag w' x.1 l/\(0<l.length->w.heap.size<=(pA x.1).block)/\l.length<=x.2/\x.2<=9223372036854775807/\ED (λk=>w.heap.size<=k) w' (.slice x.1 l.length x.2) l:=by
 subst hn
 refine (QI p l c w h hc hl).mono λe w' ⟨v,i,j,b⟩=>?_
 obtain ⟨q,d,rfl,m,o,s,-⟩:=b.bytesC
 refine ⟨(q,d),i,j,m,o,s,?_,CP.baseB b (FI _),λg hg=>(b.ltB g hg).1⟩
 obtain ⟨hl,t⟩:=b
 rcases t with ⟨a,-⟩ | ⟨g,cap,cur,a,-,-,u,f,-⟩
 · simp only [Value.slice.injEq] at a;obtain ⟨-,-,rfl⟩:=a;exact FI _
 · simp only [Value.slice.injEq] at a;obtain ⟨-,-,rfl⟩:=a;unfold maxLen at f;show d<=_;omega
theorem Pv (r:Int):IntKind.u32.wrap r=r % 4294967296:=by rw [IntKind.wrap_u32']
theorem Ss (l:l8_) (k:Nat) (h1:1<=k) (hk:k<=l.length):(Lib.RK.H (l.drop k).reverse % 4294967296 * 16777619 % 4294967296+((l[k-1]'oO).toNat:Int)) % 4294967296=Lib.RK.H (l.drop (k-1)).reverse % 4294967296:=by
 have e:=Aw (show k-1<l.length by omega)
 rw [show k-1+1=k by omega] at e
 rw [e,List.reverse_cons,Lib.RK.H_snoc]
 omega
theorem YE (l:l8_) (n j:Nat) (hn:1<=n) (hj:1<=j) (h:j+n<=l.length):((Lib.RK.H ((l.drop j).take n).reverse % 4294967296 * 16777619 % 4294967296+((l[j-1]'oO).toNat:Int)) % 4294967296-16777619 ^ n % 4294967296 * ((l[j-1+n]'oO).toNat:Int) % 4294967296) % 4294967296=Lib.RK.H ((l.drop (j-1)).take n).reverse % 4294967296:=by
  obtain ⟨m,rfl⟩:∃ m,n=m+1:=⟨n-1,oO⟩
  obtain ⟨i,rfl⟩:∃ i,j=i+1:=⟨j-1,oO⟩
  have d:=Lib.RK.win_snoc l (i+1) m oO
  have c:=Lib.RK.win_cons l i m oO
  unfold Lib.RK.win at d c
  have hx:l[i+1+m]'oO=l[i+1-1+(m+1)]'oO:=by congr 1;omega
  have hy:l[i]'oO=l[i+1-1]'oO:=by congr 1
  rw [hx] at d;rw [hy] at c
  have e:=Lib.RK.roll_mod (h:=Lib.RK.H ((l.drop (i+1)).take (m+1)).reverse % 4294967296) (pw:=16777619 ^ (m+1) % 4294967296) (l[i+1-1+(m+1)]'oO) (l[i+1-1]'oO) ((l.drop (i+1)).take m).reverse
    (by rw [d,List.reverse_append,List.reverse_singleton,List.singleton_append]) (by rw [List.length_reverse,At,Au,Nat.min_eq_left oO])
  simp only [Gi] at e c ⊢
  rw [c,List.reverse_cons]
  have hc:((l[i+(m+1)]'oO).toNat:Int) % 4294967296=((l[i+(m+1)]'oO).toNat:Int):=by have:=(l[i+(m+1)]'oO).toNat_lt;omega
  rw [hc] at e
  rw [<- e]
  generalize Lib.RK.H ((l.drop (i+1)).take (m+1)).reverse % 4294967296=a
  generalize (16777619:Int) ^ (m+1) % 4294967296 * ((l[i+(m+1)]'oO).toNat:Int)=b
  omega
theorem BG.shrK  {k ky:IntKind} {b:Int} (hx:CM f x=some (.int k a)) (hy:CM f y=some (.int ky b)) (h0:0<=b) (h1:b<=k.bits) (r:Int) (hr:a / 2 ^ b.toNat=r):BG P (.binOp .shr tx x y ty) f (.int k r):=λρ hρ d ty' pos aft g w=>by
 have e:=shift_shr k ky a b h0 h1
 rw [hr] at e
 simp [execOp,hρ _ _ hx,hρ _ _ hy,eqGuard,binOp_shr,e]
theorem Vf (p:Option Addr) (s:l8_) (c:Nat) (w:World) (hb:Ag w p s) (hl:s.length<=100000000) :
  Calls Tryz.prog 69 #[.slice p s.length c] w λe w'=>e=.returned (.tuple #[.int .u32 (Lib.RK.H s.reverse % 4294967296),.int .u32 (16777619 ^ s.length % 4294967296)])/\w=w':=by
 refine Ar func69 rfl ntmps69<|A4<|Ct rfl<|A9 rfl<|A4<|A9 rfl<|Ad<|A4<|A3 rfl<|A1 (.lenS B1 rfl)<|A1 (.sub rfl rfl (Ba oO))<|A9 rfl<|AO<|BM (α:=Nat) (λt=>[(0,.slice p s.length c),(4,.int .u32 (Lib.RK.H (s.drop t).reverse % 4294967296)),(5,Af ((t:Int)-1))]) (λt w'=>w=w'/\t<=s.length) (λt=>t) (s.length) ⟨rfl,O4 rfl (by simp [Lib.RK.H]),rfl,tT⟩ (⟨rfl,DP _⟩) (λt o hR=>?_)
 obtain ⟨k,rfl⟩:=eX t
 obtain ⟨rfl,hk⟩:=hR
 refine Ad<|A4<|A3 rfl<|A1 (.geq rfl rfl)<|A0<|Ai rfl (λb=>?_) (λb=>?_)
 have g:=dT b
 refine Ap<|Ad<|AO ?_
 have hb8:=(s[k-1]'oO).toNat_lt
 refine Am<|A3 rfl<|A1 (.mul rfl rfl (Pv _))<|A3 rfl<|A3 rfl<|A1 (.ixb B1 EA rfl rfl (hb.isp oO) (k-1) oO oO)<|Ah (Bq (Iz _) rfl (hb.cells (k-1) oO))<|A1 (.cvt FK underlying125 rfl (A2E oO))<|A1 (.iis (Lib.RK.H (s.drop (k-1)).reverse % 4294967296) (.add rfl rfl (Pv _)) (by exact Ss s k oO hk))<|A9 rfl<|Am<|A3 rfl<|A1 (.iis (((k-1:Nat):Int)-1) (.sub rfl rfl (Ba oO)) oO)<|A9 rfl ?_
 exact ⟨k-1,⟨rfl,rfl,rfl,tT⟩,⟨rfl,oM⟩,oM⟩
 have g:=dF b
 refine BF<|Ad ?_
 obtain rfl:k=0:=by omega
 rw [Ms]
 refine Am<|Ct rfl<|A9 rfl<|Ad<|A4<|A3 rfl<|A1 (.lenS B1 rfl)<|A9 rfl<|AO<|BM (α:=Nat × Int × Int) (λt=>[(4,.int .u32 (Lib.RK.H s.reverse % 4294967296)),(6,.int .u32 t.2.1),(7,.int .u32 t.2.2),(8,Af (t.1:Int))]) (λt w'=>w=w'/\t.1<=s.length/\0<=t.2.1/\t.2.1<4294967296/\Lib.RK.PowInv s.length t.1 t.2.1 t.2.2) (λt=>t.1) ((s.length,1,16777619)) ⟨rfl,rfl,rfl,rfl,tT⟩ (⟨rfl,DP _,(show (0:Int)<=1 by decide),(show (1:Int)<4294967296 by decide),Lib.RK.pow_start _⟩) (λt o hR=>?_)
 obtain ⟨⟨i,pw,sq⟩,rfl⟩:=eX t
 obtain ⟨rfl,hi,h,j,a⟩:=hR
 simp only at hi h j a
 refine Ad<|A4<|A3 rfl<|A1 (.gtr rfl rfl)<|A0<|Ai rfl (λd=>?_) (λd=>?_)
 have l:=dT d
 refine Ap<|Ad<|AO<|Ad<|A4<|A3 rfl<|A1 (.and rfl rfl (and_one i oO))<|A1 (.neq rfl rfl)<|A0<|Ai rfl (λf=>?_) (λf=>?_)
 have m:=ndT f
 refine Am<|A3 rfl<|A3 rfl<|A1 (.mul rfl rfl (Pv _))<|A9 rfl<|Am<|A3 rfl<|A3 rfl<|A1 (.mul rfl rfl (Pv _))<|A9 rfl<|Am<|A3 rfl<|A1 (.shrK rfl rfl dD dD ((i / 2:Nat):Int) (by show (i:Int) / 2=_;omega))<|A9 rfl ?_
 exact ⟨(i / 2,pw * sq % 4294967296,sq * sq % 4294967296),⟨rfl,rfl,rfl,rfl,tT⟩,⟨rfl,oM,oM,oM,Lib.RK.pow_odd a oO⟩,oM⟩
 have m:=ndF f
 refine Ap<|Am<|A3 rfl<|A3 rfl<|A1 (.mul rfl rfl (Pv _))<|A9 rfl<|Am<|A3 rfl<|A1 (.shrK rfl rfl dD dD ((i / 2:Nat):Int) (by show (i:Int) / 2=_;omega))<|A9 rfl ?_
 exact ⟨(i / 2,pw,sq * sq % 4294967296),⟨rfl,rfl,rfl,rfl,tT⟩,⟨rfl,oM,oM,oM,Lib.RK.pow_even a oO⟩,oM⟩
 have l:=dF d
 refine BF<|Ad ?_
 obtain rfl:i=0:=by omega
 have epw:=Lib.RK.pow_end a h j
 refine Am<|A3 rfl<|A3 rfl<|Ct rfl<|A9 rfl<|AT (D0 rfl rfl rfl ?_)
 exact ⟨Ff (by rw [epw]),rfl⟩
theorem A4P  (hwin:(l.drop i).take s.length=s) (hno:∀ j,i<j->j+s.length<=l.length->(l.drop j).take s.length≠s) (hj:i<j) (hjl:j+s.length<=l.length) :
    decide ((l.drop (j-1)).take (j-1+s.length-(j-1))=s)=decide (j-1=i):=by
  rw [Nat.add_sub_cancel_left]
  by_cases h:j-1=i
  · rw [h,hwin];simp
  · have := hno (j - 1) oO oO
    simp [h,this]
theorem A2S  (hwin:(l.drop i).take s.length=s) (h:¬ Lib.RK.H ((l.drop (j-1)).take s.length).reverse % 4294967296=Lib.RK.H s.reverse % 4294967296):false=decide (j-1=i):=by
 symm
 rw [Bo]
 intro a
 exact h (by rw [a,hwin])
theorem X5 (p:Option Addr) (l:l8_) (c:Nat) (q:Option Addr) (s:l8_) (d i:Nat) (w:World) (ha:Ag w p l) (hb:Ag w q s) (hc:l.length<=c) (hl:l.length<=100000000) (h1:1<=s.length) (hi:i+s.length<l.length)
  (hwin:(l.drop i).take s.length=s) (hno:∀ j,i<j->j+s.length<=l.length->(l.drop j).take s.length≠s) :
  Calls Tryz.prog 48 #[.slice p l.length c,.slice q s.length d] w λe w'=>e=.returned (Af (i:Int))/\C6 w w':=by
 obtain ⟨last,N⟩:∃ last:Nat,last+s.length=l.length:=⟨l.length-s.length,oO⟩
 refine Ar func48 rfl ntmps48<|A4<|A9 rfl<|A4<|A3 rfl<|Ao (Vf q s d _ hb oO) (λB C=>?_)
 obtain rfl:=C
 refine A3 rfl<|A1 (.ext rfl rfl)<|A1 (.ext rfl rfl)<|Ct rfl<|A9 rfl<|A4<|A3 rfl<|A1 (.lenS B1 rfl)<|A9 rfl<|A4<|A3 rfl<|A1 (.lenS B1 rfl)<|A3 rfl<|A1 (.iis ((last:Int)) (.sub rfl rfl (Ba oO)) oO)<|A9 rfl<|A4<|A9 rfl<|Ad<|A4<|A3 rfl<|A1 (.lenS B1 rfl)<|A1 (.sub rfl rfl (Ba oO))<|A9 rfl<|AO<|BM (α:=Nat) (λt=>[(0,.slice p l.length c),(1,.slice q s.length d),(5,.int .u32 (Lib.RK.H s.reverse % 4294967296)),(6,.int .u32 (16777619 ^ s.length % 4294967296)),(7,Af (s.length:Int)),(8,Af (last:Int)),(9,.int .u32 (Lib.RK.H (l.drop t).reverse % 4294967296)),(10,Af ((t:Int)-1))]) (λt w'=>w=w'/\t<=l.length/\last<=t) (λt=>t) (l.length) ⟨rfl,rfl,rfl,rfl,rfl,rfl,O4 rfl (by simp [Lib.RK.H]),rfl,tT⟩ (⟨rfl,DP _,oO⟩) (λt B hR=>?_)
 obtain ⟨k,rfl⟩:=eX t
 obtain ⟨rfl,hk,P⟩:=hR
 refine Ad<|A4<|A3 rfl<|A3 rfl<|A1 (.geq rfl rfl)<|A0<|Ai rfl (λo=>?_) (λo=>?_)
 have D:=dT o
 refine Ap<|Ad<|AO ?_
 have hb8:=(l[k-1]'oO).toNat_lt
 refine Am<|A3 rfl<|A1 (.mul rfl rfl (Pv _))<|A3 rfl<|A3 rfl<|A1 (.ixb B1 EA rfl rfl (ha.isp oO) (k-1) oO oO)<|Ah (Bq (Iz _) rfl (ha.cells (k-1) oO))<|A1 (.cvt FK underlying125 rfl (A2E oO))<|A1 (.iis (Lib.RK.H (l.drop (k-1)).reverse % 4294967296) (.add rfl rfl (Pv _)) (by exact Ss l k oO hk))<|A9 rfl<|Am<|A3 rfl<|A1 (.iis (((k-1:Nat):Int)-1) (.sub rfl rfl (Ba oO)) oO)<|A9 rfl ?_
 exact ⟨k-1,⟨rfl,rfl,rfl,rfl,rfl,rfl,rfl,rfl,tT⟩,⟨rfl,oM,oM⟩,oM⟩
 have D:=dF o
 refine BF<|Ad ?_
 obtain rfl:k=last:=by omega
 have E:=hno k oO oO
 have F:(l.drop k).take s.length=l.drop k:=An (by rw [Au];omega)
 refine Je 50 (false) ?_ (λX G=>?_)
 refine DH BR kR<|WQ.p (.mv rfl) rfl<|WQ.p (.mv rfl) rfl<|WQ.p (.eql rfl rfl) rfl<|WQ.p (.mv rfl) rfl<|Kj rfl rfl rfl (λb=>?_) (λb=>?_)
 have J:=dT b
 refine WQ.p (.mv rfl) rfl<|C0 rfl rfl rfl b<|WQ.p (.mv rfl) rfl<|C0 rfl rfl rfl b<|WQ.p (.slbF B1 EA rfl rfl  (k) (rfl) oO) rfl<|C0 rfl rfl rfl b<|Db (λm=>IV B1 FK Gk rfl rfl (ha.drewN m) oO oO oO) rfl<|C0 rfl rfl rfl b<|WQ.p (.mv rfl) rfl<|C0 rfl rfl rfl b<|Db (λm=>Fm (l:=s) B1 FK Gk rfl ((hb).drewN m)) rfl<|C0 rfl rfl rfl b<|WQ.p (.eqs rfl rfl) rfl<|WQ.p (.pkT rfl b rfl) rfl<|CX (λY K=>?_)
 exact ⟨Gy (DM rfl (by (rw [Bo];intro hq;exact E (by rw [show s.length=l.length-k by omega];simpa using hq)))),K⟩
 have J:=dF b
 refine Bm rfl rfl rfl b<|Bm rfl rfl rfl b<|Bm rfl rfl rfl b<|Bm rfl rfl rfl b<|Bm rfl rfl rfl b<|Bm rfl rfl rfl b<|WQ.p (.pkF rfl b rfl) rfl<|CX (λw8 L=>?_)
 exact ⟨Gy (DM rfl (by rfl)),L⟩
 refine Aq rfl rfl<|Ap<|Ad<|A4<|A3 rfl<|A1 (.sub rfl rfl (Ba oO))<|A9 rfl<|AO<|BM (α:=Nat) (λt=>[(0,.slice p l.length c),(1,.slice q s.length d),(5,.int .u32 (Lib.RK.H s.reverse % 4294967296)),(6,.int .u32 (16777619 ^ s.length % 4294967296)),(7,Af (s.length:Int)),(9,.int .u32 (Lib.RK.H ((l.drop t).take s.length).reverse % 4294967296)),(11,Af ((t:Int)-1))]) (λt w'=>C6 w w'/\i<t/\t<=k) (λt=>t) (k) ⟨rfl,rfl,rfl,rfl,rfl,O4 rfl (by rw [F]),rfl,tT⟩ (⟨G,oO,DP _⟩) (λt B hR=>?_)
 obtain ⟨j,rfl⟩:=eX t
 obtain ⟨hD,hj,Q⟩:=hR
 have f:=ha.drew hD
 have hb1:=hb.drew hD
 refine Ad<|A4<|A3 rfl<|A1 (.bis (true) (.geq rfl rfl) (by simp;omega))<|A0<|BQ rfl rfl<|Ap<|Ad<|AO<|Ad ?_
 have hb8:=(l[j-1]'oO).toNat_lt
 have hb9:=(l[j-1+s.length]'oO).toNat_lt
 refine Am<|A3 rfl<|A1 (.mul rfl rfl (Pv _))<|A9 rfl<|A4<|A3 rfl<|A3 rfl<|A3 rfl<|A1 (.ixb B1 EA rfl rfl (f.isp oO) (j-1) oO oO)<|Ah (Bq (Iz _) rfl (f.cells (j-1) oO))<|A1 (.cvt FK underlying125 rfl (A2E oO))<|A1 (.add rfl rfl (Pv _))<|A9 rfl<|A4<|A3 rfl<|A3 rfl<|A3 rfl<|A3 rfl<|A3 rfl<|A1 (.add rfl rfl (Ba oO))<|A1 (.ixb B1 EA rfl rfl (f.isp oO) (j-1+s.length) oO oO)<|Ah (Bq (Iz _) rfl (f.cells (j-1+s.length) oO))<|A1 (.cvt FK underlying125 rfl (A2E oO))<|A1 (.mul rfl rfl (Pv _))<|A1 (.iis (Lib.RK.H ((l.drop (j-1)).take s.length).reverse % 4294967296) (.sub rfl rfl (Pv _)) (by exact YE l s.length j h1 oO oO))<|A9 rfl<|Je 92 (decide (j-1=i)) ?_ (λT g=>?_)
 refine DH BR kR<|WQ.p (.mv rfl) rfl<|WQ.p (.mv rfl) rfl<|WQ.p (.eql rfl rfl) rfl<|WQ.p (.mv rfl) rfl<|Kj rfl rfl rfl (λa=>?_) (λa=>?_)
 have u:=dT a
 refine WQ.p (.mv rfl) rfl<|C0 rfl rfl rfl a<|WQ.p (.mv rfl) rfl<|C0 rfl rfl rfl a<|WQ.p (.mv rfl) rfl<|C0 rfl rfl rfl a<|WQ.p (.mv rfl) rfl<|C0 rfl rfl rfl a<|WQ.p (.add rfl rfl (Ba oO)) rfl<|C0 rfl rfl rfl a<|WQ.p (.slb B1 EA rfl rfl rfl  (j-1) (j-1+s.length) oO oO oO oO) rfl<|C0 rfl rfl rfl a<|Db (λm=>IV B1 FK Gk rfl rfl (f.drewN m) oO oO oO) rfl<|C0 rfl rfl rfl a<|WQ.p (.mv rfl) rfl<|C0 rfl rfl rfl a<|Db (λm=>Fm (l:=s) B1 FK Gk rfl ((hb1).drewN m)) rfl<|C0 rfl rfl rfl a<|WQ.p (.eqs rfl rfl) rfl<|WQ.p (.pkT rfl a rfl) rfl<|CX (λU v=>?_)
 exact ⟨Gy (DM rfl (by exact A4P hwin hno hj oO)),v⟩
 have u:=dF a
 refine Bm rfl rfl rfl a<|Bm rfl rfl rfl a<|Bm rfl rfl rfl a<|Bm rfl rfl rfl a<|Bm rfl rfl rfl a<|Bm rfl rfl rfl a<|Bm rfl rfl rfl a<|Bm rfl rfl rfl a<|Bm rfl rfl rfl a<|WQ.p (.pkF rfl a rfl) rfl<|CX (λV x=>?_)
 exact ⟨Gy (DM rfl (by exact A2S hwin aS)),x⟩
 refine Ai rfl (λh=>?_) (λh=>?_)
 have y:=dT h
 refine A4<|A3 rfl<|A9 rfl<|AW ?_
 exact ⟨Ff (by congr 1;omega),hD.trans g⟩
 have y:=dF h
 refine Ap<|Am<|A3 rfl<|A1 (.iis (((j-1:Nat):Int)-1) (.sub rfl rfl (Ba oO)) oO)<|A9 rfl ?_
 exact ⟨j-1,⟨rfl,rfl,rfl,rfl,rfl,rfl,rfl,tT⟩,⟨hD.trans g,oM,oM⟩,oM⟩
theorem RF (p:Option Addr) (l:l8_) (c:Nat) (q:Option Addr) (s:l8_) (d i:Nat) (w:World) (ha:Ag w p l) (hb:Ag w q s) (hc:l.length<=c) (hl:l.length<=100000000) (h1:2<=s.length) (hi:i+s.length<l.length)
  (hwin:(l.drop i).take s.length=s) (hno:∀ j,i<j->j+s.length<=l.length->(l.drop j).take s.length≠s) :
  Calls Tryz.prog 27 #[.slice p l.length c,.slice q s.length d] w λe w'=>e=.returned (Af (i:Int))/\C6 w w':=by
 refine Ar func27 rfl ntmps27<|A4<|A9 rfl<|A4<|A3 rfl<|A1 (.lenS B1 rfl)<|A9 rfl<|Ad<|AO<|A4<|A3 rfl<|A1 (.bis (false) (.eql rfl rfl) (by exact AJ oO))<|A9 rfl<|Aq rfl rfl<|A4<|A3 rfl<|A1 (.bis (false) (.eql rfl rfl) (by exact AJ oO))<|A9 rfl<|Aq rfl rfl<|A4<|A3 rfl<|A3 rfl<|A1 (.lenS B1 rfl)<|A1 (.bis (false) (.eql rfl rfl) (by exact AJ oO))<|A9 rfl<|Aq rfl rfl<|A4<|A3 rfl<|A3 rfl<|A1 (.lenS B1 rfl)<|A1 (.bis (false) (.gtr rfl rfl) (by exact AJ oO))<|A9 rfl<|Aq rfl rfl<|Ap<|A4<|A3 rfl<|A3 rfl<|Ao (X5 p l c q s d i _ ha hb hc hl oO hi hwin hno) (λb a=>?_)
 refine A9 rfl<|AW ?_
 exact ⟨rfl,a⟩
end
section
open Go.ChangeShapes Go.WideShapes Go.ChangeAt Go.RowKit
structure AC where
 kind:Int
 n:Int
 text:l8_
 kp:Option Addr
 kl:Nat
 kc:Nat
 lp:Option Addr
 ll:Nat
 lc:Nat
 dp:Option Addr
 dl:Nat
 dc:Nat
def DN (x:AC):List Value:=[Af x.kind,Af x.n,.string (bs x.text),.slice x.kp x.kl x.kc,.slice x.lp x.ll x.lc,.slice x.dp x.dl x.dc]
def EN:FW AC:=⟨6,DN,dD,λ_=>rfl,λx u hu=>AN.1 (show (DN x).all Value.oneCell'=true from rfl) u hu⟩
structure A6S (x:AC) (nk nl nd:Nat):Prop where
 n:-9223372036854775808<=x.n/\x.n<=9223372036854775807
 text:x.text.length<=9223372036854775807
 kl:x.kl=nk
 ll:x.ll=nl
 dl:x.dl=nd
 kc:nk<=x.kc
 lc:nl<=x.lc
 dc:nd<=x.dc
 km:x.kc<=9223372036854775807
 lm:x.lc<=9223372036854775807
 dm:x.dc<=9223372036854775807
inductive AB (w:World) (S:Nat->Prop):AC->AV->Prop
 | mk (x:AC) (keys:List (l8_)) (list:List AV) (data:l8_) (cs:List AC) (ok:A6S x keys.length cs.length data.length) (hkl:∀ k∈keys,k.length<=9223372036854775807)
   (hk:B3 G7 w x.kp keys) (hks:0<keys.length->S (pA x.kp).block) (hr:AG EN w x.lp cs) (hrs:0<cs.length->S (pA x.lp).block)
   (hd:Ag w x.dp data) (hds:0<data.length->S (pA x.dp).block) (hlen:cs.length=list.length)
   (hsub:∀ i (h:i<cs.length) (h2:i<list.length),AB w S cs[i] list[i]):AB w S x (.mk x.kind x.n x.text keys list data)
theorem B3.same  {V:α->Value} {l:List α} (h:B3 V w p l) (hb:0<l.length->w1.heap[(pA p).block]?=w.heap[(pA p).block]?):B3 V w1 p l :=
 ⟨h.isp,λj hj=>by rw [World.cell?_of_block (w:=w) (by rw [Ee];exact hb oO)];exact h.cells j hj⟩
theorem Ag.same  (h:Ag w p l) (hb:0<l.length->w1.heap[(pA p).block]?=w.heap[(pA p).block]?):Ag w1 p l :=
 ⟨h.isp,λj hj=>by rw [World.cell?_of_block (w:=w) (by rw [Ee];exact hb oO)];exact h.cells j hj⟩
theorem AB.same  {x:AC} {o:AV} (h:AB w S x o) (hb:∀ k,S k->k<w.heap.size->w1.heap[k]?=w.heap[k]?):AB w1 S x o:=by
 induction h with
 | mk x keys list data cs ok hkl hk hks hr hrs hd hds hlen _ ih =>
  exact .mk x keys list data cs ok hkl (hk.same λa=>hb _ (hks a) (hk.lt a)) hks (hr.same λa=>hb _ (hrs a) (hr.lt a)) hrs (hd.same λa=>hb _ (hds a) (hd.lt a)) hds hlen ih
theorem AB.mono  {x:AC} {o:AV} (h:AB w S x o) (hST:∀ k,S k->k<w.heap.size->T k):AB w T x o:=by
 induction h with
 | mk x keys list data cs ok hkl hk hks hr hrs hd hds hlen _ ih =>
  exact .mk x keys list data cs ok hkl hk (λa=>hST _ (hks a) (hk.lt a)) hr (λa=>hST _ (hrs a) (hr.lt a)) hd (λa=>hST _ (hds a) (hd.lt a)) hlen ih
theorem AB.inv  {x:AC} {o:AV} (h:AB w S x o):∃ (keys:List (l8_)) (list:List AV) (data:l8_) (cs:List AC),o=.mk x.kind x.n x.text keys list data/\A6S x keys.length cs.length data.length/\(∀ k∈keys,k.length<=9223372036854775807)/\B3 G7 w x.kp keys/\(0<keys.length->S (pA x.kp).block) /\
  AG EN w x.lp cs/\(0<cs.length->S (pA x.lp).block)/\Ag w x.dp data/\(0<data.length->S (pA x.dp).block)/\cs.length=list.length/\∀ i (h:i<cs.length) (h2:i<list.length),AB w S cs[i] list[i]:=by
 cases h with
 | mk x keys list data cs ok hkl hk hks hr hrs hd hds hlen hsub=>exact ⟨keys,list,data,cs,rfl,ok,hkl,hk,hks,hr,hrs,hd,hds,hlen,hsub⟩
structure AH (w:World) (S:Nat->Prop) (cs:List AC) (acc:List AV):Prop where
 len:cs.length=acc.length
 sub:∀ i (h:i<cs.length) (h2:i<acc.length),AB w S cs[i] acc[i]
theorem AH.same  {cs:List AC} {acc:List AV} (h:AH w S cs acc) (hb:∀ k,S k->k<w.heap.size->w1.heap[k]?=w.heap[k]?):AH w1 S cs acc:=⟨h.len,λi h1 h2=>(h.sub i h1 h2).same hb⟩
theorem AH.mono {w:World} {S T:Nat->Prop} {cs:List AC} {acc:List AV} (h:AH w S cs acc) (hST:∀ k,S k->k<w.heap.size->T k):AH w T cs acc:=⟨h.len,λi h1 h2=>(h.sub i h1 h2).mono hST⟩
def CW (x:PC):AC:=⟨x.kind,x.n,x.text,x.kp,x.kl,x.kc,x.lp,x.ll,x.lc,none,0,0⟩
mutual
def SI:PV->AV
 | .mk k n t ks l=>.mk k n t ks (Yb l) []
def Yb:List PV->List AV
 | []=>[]
 | o::r=>SI o::Yb r
end
theorem Pm:∀ l:List PV,Yb l=l.map SI
 | []=>by simp [Yb]
 | o::r=>by rw [Yb,Pm r];rfl
theorem A46 {w:World} {p:Option Addr} {cs:List PC} (h:AG KE w p cs):AG EN w p (cs.map CW) :=
 ⟨λh0=>h.isp (by simpa using h0),λj hj i hi=>by
  have:=h.cells j (by simpa using hj) i hi
  rw [G5]
  exact this⟩
inductive PWf:PV->Prop
 | mk (k n:Int) (t:l8_) (ks:List (l8_)) (l:List PV) (hn:-9223372036854775808<=n/\n<=9223372036854775807) (ht:t.length<=9223372036854775807) (hk:∀ k∈ks,k.length<=9223372036854775807) (h:∀ o∈l,PWf o):PWf (.mk k n t ks l)
theorem AD.full  {L:FW α} {n:Nat} {l:List α} (h:AD L e B w (.slice p n c) l):n=l.length/\l.length<=c/\c<=9223372036854775807/\AG L w p l/\(0<l.length->(Value.slice p n c).ownBlock=some (pA p).block):=by
 obtain ⟨p',c',hv,hr,-,hc,-,ho,hm,-⟩:=h.row
 cases hv
 unfold maxLen at hm
 refine ⟨rfl,hc,oO,hr,λa=>?_⟩
 rw [ho,hr.isp a];rfl
theorem BP.rep  {x:PC} {o:PV} (h:BP w S x o) (hw:PWf o):AB w S (CW x) (SI o):=by
  induction h with
  | mk x keys list cs hk hr hlen hsub ih =>
    cases hw with
    | mk _ _ _ _ _ hn ht hkl hl =>
    obtain ⟨b,c,d,e,f⟩:=hk.1.full
    obtain ⟨g,k,l,m,q⟩:=hr.1.full
    rw [SI,Pm]
    refine AB.mk (CW x) keys (list.map SI) [] (cs.map CW) ⟨hn,ht,b,by rw [By];exact g,rfl,c,by rw [By];exact k,FI _,d,l,FI _⟩ hkl e.strs (λa=>hk.2 _ (f a)) (A46 m) (λa=>hr.2 _ (q (by simpa using a)))
      ⟨λh=>by simp at h,λj h=>by simp at h⟩ (λh=>by simp at h) (by simpa using hlen) λi h s=>?_
    rw [G5,G5]
    exact ih i (by simpa using h) (by simpa using s) (hl _ (AA _))
theorem A1Y  {o:AV} (h:FY D st o):o.kind≠9->SI (JI o)=o:=by
 induction h with
 | null D st=>intro _;simp [JI,SI,Js,Yb]
 | bool D st n hn=>intro _;simp [JI,SI,Js,Yb]
 | num D st k n hk hf=>intro _;simp [JI,SI,Js,Yb]
 | name D st s hs=>intro _;simp [JI,SI,Js,Yb]
 | text D st s hs=>intro _;simp [JI,SI,Js,Yb]
 | ref D st n hn=>intro _;simp [JI,SI,Js,Yb]
 | arr D st L hD hl hS ih =>
  intro _
  rw [JI,SI,GF,Pm,List.map_map]
  congr 1
  refine Eq.trans (List.map_congr_left λo ho=>ih o ho (N7 (hS o ho))) (List.map_id'' (λ_=>rfl) L)
 | dict D st k ks L dd hk hD hl hkl hn hnd hS ih =>
  intro a
  have hd:dd=[]:=by rcases hk with ⟨-,h⟩ | ⟨h,-⟩;exact h;exact De h a
  subst hd
  rw [JI,SI,GF,Pm,List.map_map]
  congr 1
  refine Eq.trans (List.map_congr_left λo ho=>ih o ho (N7 (hS o ho))) (List.map_id'' (λ_=>rfl) L)
theorem T1  {o:AV} (h:FY D st o):PWf (JI o):=by
 induction h with
 | null D st=>rw [JI,Js];exact .mk _ _ _ _ _ oO (by simp) (λo h=>by cases h) (λo h=>by cases h)
 | bool D st n hn=>rw [JI,Js];exact .mk _ _ _ _ _ oO (by simp) (λo h=>by cases h) (λo h=>by cases h)
 | num D st k n hk hf=>have:=LH hf;rw [JI,Js];exact .mk _ _ _ _ _ oO (by simp) (λo h=>by cases h) (λo h=>by cases h)
 | name D st s hs=>have:=hs.2.2;rw [JI,Js];exact .mk _ _ _ _ _ oO oO (λo h=>by cases h) (λo h=>by cases h)
 | text D st s hs=>rw [JI,Js];exact .mk _ _ _ _ _ oO oO (λo h=>by cases h) (λo h=>by cases h)
 | ref D st n hn=>rw [JI,Js];exact .mk _ _ _ _ _ oO (by simp) (λo h=>by cases h) (λo h=>by cases h)
 | arr D st L hD hl hS ih=>rw [JI,GF];exact .mk _ _ _ _ _ oO (by simp) (λo h=>by cases h) (λo h=>by obtain ⟨a,ha,rfl⟩:=E8.1 h;exact ih a ha)
 | dict D st k ks L dd hk hD hl hkl hn hnd hS ih=>rw [JI,GF];exact .mk _ _ _ _ _ oO (by simp) (λk h=>by have:=(hn k h).2.2;omega) (λo h=>by obtain ⟨a,ha,rfl⟩:=E8.1 h;exact ih a ha)
end
section
def A7Q (D:Int) (st:Bool) (k n:Int) (t:l8_) (ks:List (l8_)) (m:Nat) (d:l8_):Prop :=
 (k=6/\1<=D/\n=0/\t=[]/\ks=[]/\d=[]) \/
 (((k=7/\d=[])\/(k=9/\st=true/\d.length<=1048576/\[76,101,110,103,116,104] ∉ ks))/\1<=D/\n=0/\t=[]/\ks.length=m/\(∀ x∈ks,KL x)/\ks.Nodup)
theorem A4F {c:UInt8} (hi:i<l.length) (h:c ∉ l.take i) (hc:l[i]≠c):c ∉ l.take (i+1):=by
 rw [List.take_add_one,Aj hi,Option.toList_some,B9,B8]
 exact λhx=>hx.elim h (λe=>hc e.symm)
def nmB (s:l8_):Bool:=!decide (0∈s) && decide (1<=(s.length:Int)) && decide ((s.length:Int)<=127)
theorem NV (s:l8_) (w:World) (hs:s.length<=9223372036854775807) :
  Calls Tryz.prog 65 #[.string (bs s)] w λe w'=>e=.returned (.bool (nmB s))/\w=w':=by
 refine Ar func65 rfl ntmps65<|A4<|A9 rfl<|Ad<|A4<|A9 rfl<|AO<|BM (α:=Nat) (λt=>[(0,.string (bs s)),(3,Af (t:Int))]) (λt w'=>w=w'/\t<=s.length/\0 ∉ s.take t) (λt=>s.length-t) (0) ⟨rfl,rfl,tT⟩ (⟨rfl,FI _,by simp⟩) (λt k hR=>?_)
 obtain ⟨i,rfl⟩:=eX t
 obtain ⟨rfl,hi,b⟩:=hR
 refine Ad<|A4<|A3 rfl<|A3 rfl<|A1 (.len Gk rfl)<|A1 (.lss rfl rfl)<|A0<|Ai rfl (λc=>?_) (λc=>?_)
 have g:=dT c
 refine Ap<|Ad<|AO<|A4<|A3 rfl<|A3 rfl<|A1 (.ix Gk rfl rfl (i) (rfl) oO)<|A1 (.eql rfl rfl)<|A0<|Ai rfl (λf=>?_) (λf=>?_)
 have h:=dT f
 refine A4<|A9 rfl<|AW ?_
 exact ⟨CH (by unfold nmB;rw [show decide (0∈s)=true from AP (by rw [<- show s[i]'oO=0 from Co (d:=0) aS];exact AA _)];rfl),rfl⟩
 have h:=dF f
 refine Ap<|Am<|A3 rfl<|A1 (.iis (((i+1:Nat):Int)) (.add rfl rfl (Ba oO)) oO)<|A9 rfl ?_
 exact ⟨i+1,⟨rfl,rfl,tT⟩,⟨rfl,oM,A4F oO b (Df (d:=0) aS)⟩,oM⟩
 have g:=dF c
 refine BF<|Ad ?_
 have hz:0 ∉ s:=by rw [<- An (show s.length<=i by omega)];exact b
 refine Am<|A3 rfl<|A1 (.len Gk rfl)<|A1 (.geq rfl rfl)<|A3 rfl<|Ck rfl rfl rfl (λa=>?_) (λa=>?_)
 have j:=dT a
 refine A3 rfl<|Az a<|A1 (.len Gk rfl)<|Az a<|A1 (.leq rfl rfl)<|A1 (.pkT rfl a rfl)<|A9 rfl<|AW ?_
 exact ⟨CH (by unfold nmB;rw [AJ hz,show decide (1<=(s.length:Int))=true from AP oO];rfl),rfl⟩
 have j:=dF a
 refine Bc a<|Bc a<|A1 (.pkF rfl a rfl)<|A9 rfl<|AW ?_
 exact ⟨CH (by unfold nmB;rw [AJ hz,show decide (1<=(s.length:Int))=false from AJ oO];rfl),rfl⟩
end
section
theorem A0w (c:UInt8) (w:World) :
  Calls Tryz.prog 68 #[.int .u8 (c.toNat:Int)] w λe w'=>e=.returned (.string (bs [CD[c.toNat / 16]!,CD[c.toNat % 16]!]))/\C6 w w':=by
 have hc:=Cg c
 have key:∀ c:UInt8,([48,49,50,51,52,53,54,55,56,57,97,98,99,100,101,102].drop (c.toNat / 16)).take (c.toNat / 16+1-c.toNat / 16)++([48,49,50,51,52,53,54,55,56,57,97,98,99,100,101,102].drop (c.toNat % 16)).take (c.toNat % 16+1-c.toNat % 16)=[CD[c.toNat / 16]!,CD[c.toNat % 16]!] :=
  K7 (q:=λc=>([48,49,50,51,52,53,54,55,56,57,97,98,99,100,101,102].drop (c.toNat / 16)).take (c.toNat / 16+1-c.toNat / 16)++([48,49,50,51,52,53,54,55,56,57,97,98,99,100,101,102].drop (c.toNat % 16)).take (c.toNat % 16+1-c.toNat % 16)=[CD[c.toNat / 16]!,CD[c.toNat % 16]!]) (by decide +kernel)
 refine Ar func68 rfl ntmps68<|A4<|A9 rfl<|A4<|A9 rfl<|Ad<|DH BR kR<|WQ.p (.mv rfl) rfl<|WQ.p (.mv rfl) rfl<|WQ.p (.iis (((c.toNat / 16:Nat):Int)) (.quo rfl rfl oO (u8q oO oO oO)) oO) rfl<|WQ.p (.mv rfl) rfl<|WQ.p (.iis (((c.toNat / 16:Nat):Int)) (.quo rfl rfl oO (u8q oO oO oO)) oO) rfl<|WQ.p (.iis (((c.toNat / 16+1:Nat):Int)) (.add rfl rfl (Pu oO)) oO) rfl<|WQ.p (.slS Gk rfl rfl rfl (c.toNat / 16) (c.toNat / 16+1) (rfl) (rfl) oO (by simp;omega)) rfl<|WQ.p (.mv rfl) rfl<|WQ.p (.mv rfl) rfl<|WQ.p (.iis (((c.toNat % 16:Nat):Int)) (.rem rfl rfl oO (Int.tmod_eq_emod_of_nonneg oO)) oO) rfl<|WQ.p (.mv rfl) rfl<|WQ.p (.iis (((c.toNat % 16:Nat):Int)) (.rem rfl rfl oO (Int.tmod_eq_emod_of_nonneg oO)) oO) rfl<|WQ.p (.iis (((c.toNat % 16+1:Nat):Int)) (.add rfl rfl (Pu oO)) oO) rfl<|WQ.p (.slS Gk rfl rfl rfl (c.toNat % 16) (c.toNat % 16+1) (rfl) (rfl) oO (by simp;omega)) rfl<|WQ.p (.cat rfl rfl (by simp only [At,Au,Aa,Ak];omega)) rfl<|WQ.p (.as rfl) rfl<|CX (λb a=>?_)
 refine AW ?_
 exact ⟨AU (by rw [key c]),a⟩
theorem flat_take {f:UInt8->l8_} (h:i<s.length):(s.take (i+1)).flatMap f=(s.take i).flatMap f++f s[i]:=by
 rw [Bg h,List.flatMap_append];simp
theorem Mp {f:UInt8->l8_} {k:Nat} (hf:∀ c,(f c).length<=k) (s:l8_) (i:Nat):((s.take i).flatMap f).length<=k * s.length:=by
 have a:=flat_len hf (s.take i)
 have b:(s.take i).length<=s.length:=by rw [At];omega
 exact C9 a (Nat.mul_le_mul_left _ b)
theorem TX  (h:i<s.length):(s.drop i).take (i+1-i)=[s[i]]:=by
 rw [show i+1-i=1 by omega,Aw h];rfl
theorem Tf (c:UInt8):GJ c=(decide ((c.toNat:Int)<33) || decide ((c.toNat:Int) > 126) || decide ((c.toNat:Int)=35) || Hs c):=by
 have a:(c == 35)=decide ((c.toNat:Int)=35):=(GB c 35).symm
 have b:decide (c.toNat<33)=decide ((c.toNat:Int)<33):=by rw [HI];omega
 have d:decide (126<c.toNat)=decide ((c.toNat:Int) > 126):=by rw [HI];omega
 unfold GJ
 rw [a,b,d]
theorem F8 (s:l8_) (w:World) (hs:s.length<=1000000) :
  Calls Tryz.prog 44 #[.string (bs s)] w λe w'=>e=.returned (.string (bs (Vr s)))/\C6 w w':=by
 refine Ar func44 rfl ntmps44<|A4<|A9 rfl<|A4<|A9 rfl<|Ad<|A4<|A9 rfl<|AO<|BM (α:=Nat) (λt=>[(0,.string (bs s)),(3,.string (bs (47::(s.take t).flatMap P9))),(4,Af (t:Int))]) (λt w'=>C6 w w'/\t<=s.length) (λt=>s.length-t) (0) ⟨rfl,rfl,rfl,tT⟩ (⟨C6.refl _,FI _⟩) (λt C hR=>?_)
 obtain ⟨i,rfl⟩:=eX t
 obtain ⟨hD,hi⟩:=hR
 have A:=Mp Td s i
 refine Ad<|A4<|A3 rfl<|A3 rfl<|A1 (.len Gk rfl)<|A1 (.lss rfl rfl)<|A0<|Ai rfl (λu=>?_) (λu=>?_)
 have v:=dT u
 refine Ap<|Ad<|AO<|Ad ?_
 have k:=flat_take (f:=P9) (show i<s.length by omega)
 obtain ⟨a,l⟩:∃ b,b=decide (((s[i]'oO).toNat:Int)<33):=⟨_,rfl⟩
 obtain ⟨c,m⟩:∃ b,b=decide (((s[i]'oO).toNat:Int) > 126):=⟨_,rfl⟩
 obtain ⟨d,o⟩:∃ b,b=decide (((s[i]'oO).toNat:Int)=35):=⟨_,rfl⟩
 have q:GJ (s[i]'oO)=(a || c || d || Hs (s[i]'oO)):=by rw [l,m,o];exact Tf _
 refine Am<|A3 rfl<|A3 rfl<|A1 (.ix Gk rfl rfl (i) (rfl) oO)<|A9 rfl<|FT 28 ((a || c || d || Hs (s[i]'oO))) ?_ ?_
 refine Am<|A3 rfl<|A1 (.bis (a) (.lss rfl rfl) (by exact l.symm))<|A3 rfl<|Ck rfl rfl rfl (λg=>?_) (λg=>?_)
 refine A3 rfl<|Az g<|A1 (.bis (c) (.gtr rfl rfl) (by exact m.symm))<|A1 (.pkF rfl g rfl)<|A3 rfl<|Ck rfl rfl rfl (λh=>?_) (λh=>?_)
 refine A3 rfl<|Az h<|A1 (.bis (d) (.eql rfl rfl) (by exact o.symm))<|A1 (.pkF rfl h rfl)<|A3 rfl<|Ck rfl rfl rfl (λj=>?_) (λj=>?_)
 refine A3 rfl<|Az j<|Ao (Rg _ _) (λD x=>?_)
 obtain rfl:=x
 refine A1 (.pkF rfl j rfl)<|A0<|?_
 exact ⟨Gy (DM rfl (by cases a <;> cases c <;> cases d <;> first | rfl | contradiction)),rfl⟩
 refine Bc j<|A1 (.pkT rfl j rfl)<|A0<|?_
 exact ⟨Gy (DM rfl (by cases a <;> cases c <;> cases d <;> first | rfl | contradiction)),rfl⟩
 refine Bc h<|A1 (.pkT rfl h rfl)<|A3 rfl<|Bc rfl<|Bc rfl<|A1 (.pkT rfl rfl rfl)<|A0<|?_
 exact ⟨Gy (DM rfl (by cases a <;> cases c <;> cases d <;> first | rfl | contradiction)),rfl⟩
 refine Bc g<|A1 (.pkT rfl g rfl)<|A3 rfl<|Bc rfl<|Bc rfl<|A1 (.pkT rfl rfl rfl)<|A3 rfl<|Bc rfl<|Bc rfl<|A1 (.pkT rfl rfl rfl)<|A0<|?_
 exact ⟨Gy (DM rfl (by cases a <;> cases c <;> cases d <;> first | rfl | contradiction)),rfl⟩
 refine Ai rfl (λy=>?_) (λy=>?_)
 refine Am<|A3 rfl<|A1 (.cat rfl rfl (by simp only [A8,Aa,Ak,At,Au];omega))<|A3 rfl<|Ao (A0w _ _) (λE B=>?_)
 refine A1 (.cat rfl rfl (by simp only [A8,Aa,Ak,At,Au];omega))<|A9 rfl<|Am<|A3 rfl<|A1 (.iis (((i+1:Nat):Int)) (.add rfl rfl (Ba oO)) oO)<|A9 rfl ?_
 exact ⟨i+1,⟨rfl,Km rfl (by rw [k,show P9 (s[i]'oO)=[35,CD[(s[i]'oO).toNat / 16]!,CD[(s[i]'oO).toNat % 16]!] from A7 (by rw [q];assumption)];simp),rfl,tT⟩,⟨hD.trans aS,oM⟩,oM⟩
 refine Am<|A3 rfl<|A3 rfl<|A3 rfl<|A3 rfl<|A1 (.iis (((i+1:Nat):Int)) (.add rfl rfl (Ba oO)) oO)<|A1 (.slS Gk rfl rfl rfl (i) (i+1) (rfl) (rfl) oO oO)<|A1 (.cat rfl rfl (by simp only [A8,Aa,Ak,At,Au];omega))<|A9 rfl<|Am<|A3 rfl<|A1 (.iis (((i+1:Nat):Int)) (.add rfl rfl (Ba oO)) oO)<|A9 rfl ?_
 exact ⟨i+1,⟨rfl,Km rfl (by rw [k,TX oO,show P9 (s[i]'oO)=[s[i]'oO] from A2 (bF (by rw [q];assumption))];simp),rfl,tT⟩,⟨hD,oM⟩,oM⟩
 have v:=dF u
 refine BF<|A4<|A3 rfl<|A9 rfl<|AW ?_
 exact ⟨AU (by rw [An (show s.length<=i by omega)];rfl),hD⟩
theorem A4G (c:UInt8):VF c=if (decide ((c.toNat:Int)=40) || decide ((c.toNat:Int)=41) || decide ((c.toNat:Int)=92))=true then [92,c] else if (decide ((c.toNat:Int)<32) || decide ((c.toNat:Int) > 126))=true then NY c else [c]:=by
 have key:∀ c:UInt8,VF c=if (decide ((c.toNat:Int)=40) || decide ((c.toNat:Int)=41) || decide ((c.toNat:Int)=92))=true then [92,c] else if (decide ((c.toNat:Int)<32) || decide ((c.toNat:Int) > 126))=true then NY c else [c] :=
  K7 (q:=λc=>VF c=if (decide ((c.toNat:Int)=40) || decide ((c.toNat:Int)=41) || decide ((c.toNat:Int)=92))=true then [92,c] else if (decide ((c.toNat:Int)<32) || decide ((c.toNat:Int) > 126))=true then NY c else [c]) (by decide +kernel)
 exact key c
theorem Ws (x:UInt8):#[Value.int .u8 92,.int .u8 (48+(x.toNat:Int) / 64),.int .u8 (48+(x.toNat:Int) / 8 % 8),.int .u8 (48+(x.toNat:Int) % 8)]=(AQ (NY x)).toArray:=by
 have hc:=Cg x
 have a:((ch (48+(x.toNat:Int) / 64)).toNat:Int)=48+(x.toNat:Int) / 64:=IS _ oO oO
 have b:((ch (48+(x.toNat:Int) / 8 % 8)).toNat:Int)=48+(x.toNat:Int) / 8 % 8:=IS _ oO oO
 have c:((ch (48+(x.toNat:Int) % 8)).toNat:Int)=48+(x.toNat:Int) % 8:=IS _ oO oO
 simp [AQ,NY,a,b,c]
theorem YQ (s:l8_) (w:World) (hs:s.length<=1000000) :
  Cb 45 #[.string (bs s)] w (.string (bs (txT s))):=by
 refine Ar func45 rfl ntmps45 ?_
 have aa:=CN w
 refine A4<|A9 rfl<|A4<|Cs (ps:=_) B1 EA Mt rfl rfl rfl rfl rfl pR rfl (λb1 aF ab ah ai aZ=>?_)
 have aG:=uB aa ab ai
 have a:=CF ab aa.size
 have aH:=CP.lit (m:=1) ah rfl (by unfold maxLen;omega)
 have aj:b1<=aF.heap.size:=by omega
 have ak:CP _ _ _ _ (AQ [40]):=aH
 refine A9 rfl<|Ad<|A4<|A9 rfl<|AO<|BM (α:=Value × Nat) (λt=>[(0,.string (bs s)),(3,t.1),(4,Af (t.2:Int))]) (λt w'=>AL w w'/\CP 5 b1 w' t.1 (AQ (40::(s.take t.2).flatMap VF))/\t.2<=s.length/\b1<=w'.heap.size) (λt=>s.length-t.2) ((_,0)) ⟨rfl,rfl,rfl,tT⟩ (⟨aG,ak,FI _,aj⟩) (λt w1 hR=>?_)
 obtain ⟨v,i⟩:=t
 obtain ⟨hT,c,hi,d⟩:=hR
 simp only at c hi ⊢
 have b4:=Mp Xk s i
 refine Ad<|A4<|A3 rfl<|A3 rfl<|A1 (.len Gk rfl)<|A1 (.lss rfl rfl)<|A0<|Ai rfl (λh5=>?_) (λh5=>?_)
 have aI:=dT h5
 refine Ap<|Ad<|AO<|Ad ?_
 have K:=flat_take (f:=VF) (show i<s.length by omega)
 have A:=A4G (s[i]'oO)
 obtain ⟨L,ac⟩:∃ b,b=decide (((s[i]'oO).toNat:Int)=40):=⟨_,rfl⟩
 obtain ⟨P,ad⟩:∃ b,b=decide (((s[i]'oO).toNat:Int)=41):=⟨_,rfl⟩
 obtain ⟨Q,ae⟩:∃ b,b=decide (((s[i]'oO).toNat:Int)=92):=⟨_,rfl⟩
 obtain ⟨X,af⟩:∃ b,b=decide (((s[i]'oO).toNat:Int)<32):=⟨_,rfl⟩
 obtain ⟨n5,ag⟩:∃ b,b=decide (((s[i]'oO).toNat:Int) > 126):=⟨_,rfl⟩
 rw [<- ac,<- ad,<- ae,<- af,<- ag] at A
 have b5:=Cg (s[i]'oO)
 refine Am<|A3 rfl<|A3 rfl<|A1 (.ix Gk rfl rfl (i) (rfl) oO)<|A9 rfl<|AO<|FT 20 ((L || P || Q)) ?_ ?_
 refine Am<|A3 rfl<|A1 (.bis (L) (.eql rfl rfl) (by exact ac.symm))<|A3 rfl<|Ck rfl rfl rfl (λT=>?_) (λT=>?_)
 refine A3 rfl<|Az T<|A1 (.bis (P) (.eql rfl rfl) (by exact ad.symm))<|A1 (.pkF rfl T rfl)<|A3 rfl<|Ck rfl rfl rfl (λU=>?_) (λU=>?_)
 refine A3 rfl<|Az U<|A1 (.bis (Q) (.eql rfl rfl) (by exact ae.symm))<|A1 (.pkF rfl U rfl)<|A9 rfl ?_
 exact ⟨Gy (DM rfl (by cases L <;> cases P <;> cases Q <;> first | rfl | contradiction)),rfl⟩
 refine Bc U<|A1 (.pkT rfl U rfl)<|A9 rfl ?_
 exact ⟨Gy (DM rfl (by cases L <;> cases P <;> cases Q <;> first | rfl | contradiction)),rfl⟩
 refine Bc T<|A1 (.pkT rfl T rfl)<|A3 rfl<|Bc rfl<|Bc rfl<|A1 (.pkT rfl rfl rfl)<|A9 rfl ?_
 exact ⟨Gy (DM rfl (by cases L <;> cases P <;> cases Q <;> first | rfl | contradiction)),rfl⟩
 refine Ai rfl (λh8=>?_) (λh8=>?_)
 refine Am<|A3 rfl<|A3 rfl<|Cs (ps:=_) B1 EA Mt rfl rfl rfl rfl rfl pR rfl (λb9 b6 V al q a'=>?_)
 have B:=C9 d q.size
 have am:=DC c V q
 have an:=uB hT V q
 have aP:=CF V hT.size
 have aJ:=Ag.lit (l:=[92,s[i]'oO]) al (rfl)
 refine TH B1 IN rfl rfl rfl am rfl aJ (by simp only [Cl,Aa,Ak,NY];omega) (B) rfl (λh=>nomatch h) (λb7 b8 a0 C aQ=>?_)
 have ao:=Ej an (C.mono (a))
 have ap:=CP.cat a0
 have a1:=C9 B C.size
 refine A9 rfl<|Am<|A3 rfl<|A1 (.iis (((i+1:Nat):Int)) (.add rfl rfl (Ba oO)) oO)<|A9 rfl ?_
 exact ⟨(_,i+1),⟨rfl,rfl,rfl,tT⟩,⟨ao,by rw [K,A,A7 aS];exact ap,oM,a1⟩,oM⟩
 refine FT 35 ((X || n5)) ?_ ?_
 refine Am<|A3 rfl<|A1 (.bis (X) (.lss rfl rfl) (by exact af.symm))<|A3 rfl<|Ck rfl rfl rfl (λo=>?_) (λo=>?_)
 refine A3 rfl<|Az o<|A1 (.bis (n5) (.gtr rfl rfl) (by exact ag.symm))<|A1 (.pkF rfl o rfl)<|A9 rfl ?_
 exact ⟨Gy (DM rfl (by cases X <;> cases n5 <;> first | rfl | contradiction)),rfl⟩
 refine Bc o<|A1 (.pkT rfl o rfl)<|A9 rfl ?_
 exact ⟨Gy (DM rfl (by cases X <;> cases n5 <;> first | rfl | contradiction)),rfl⟩
 refine Ai rfl (λaK=>?_) (λaK=>?_)
 refine Am<|A3 rfl<|A3 rfl<|A1 (.quo rfl rfl oO (u8q oO oO oO))<|A1 (.iis (48+((s[i]'oO).toNat:Int) / 64) (.add rfl rfl (Pu oO)) oO)<|A3 rfl<|A1 (.quo rfl rfl oO (u8q oO oO oO))<|A1 (.rem rfl rfl oO (Int.tmod_eq_emod_of_nonneg oO))<|A1 (.iis (48+((s[i]'oO).toNat:Int) / 8 % 8) (.add rfl rfl (Pu oO)) oO)<|A3 rfl<|A1 (.rem rfl rfl oO (Int.tmod_eq_emod_of_nonneg oO))<|A1 (.iis (48+((s[i]'oO).toNat:Int) % 8) (.add rfl rfl (Pu oO)) oO)<|Cs (ps:=_) B1 EA Mt rfl rfl rfl rfl rfl pR rfl (λba b0 u a2 g aR=>?_)
 have D:=C9 d g.size
 have aq:=DC c u g
 have ar:=uB hT u g
 have aL:=CF u hT.size
 have aM:=Ag.lit (l:=NY (s[i]'oO)) a2 (Ws _)
 refine TH B1 IN rfl rfl rfl aq rfl aM (by simp only [Cl,Aa,Ak,NY];omega) (D) rfl (λh=>by unfold NY at h;cases h) (λbb bc a3 E aT=>?_)
 have au:=Ej ar (E.mono (a))
 have av:=CP.cat a3
 have a4:=C9 D E.size
 refine A9 rfl<|Am<|A3 rfl<|A1 (.iis (((i+1:Nat):Int)) (.add rfl rfl (Ba oO)) oO)<|A9 rfl ?_
 exact ⟨(_,i+1),⟨rfl,rfl,rfl,tT⟩,⟨au,by rw [K,A,A2 (bF aS),A7 aS];exact av,oM,a4⟩,oM⟩
 refine Am<|A3 rfl<|A3 rfl<|Cs (ps:=_) B1 EA Mt rfl rfl rfl rfl rfl pR rfl (λbd b2 x a5 j aU=>?_)
 have F:=C9 d j.size
 have aw:=DC c x j
 have ax:=uB hT x j
 have aN:=CF x hT.size
 refine Ew B1 IN rfl rfl rfl aw rfl a5 rfl (by simp only [Cl,Aa,Ak,NY];omega) (F) rfl (λbe bf a6 G aV=>?_)
 have ay:=Ej ax (G.mono (a))
 have az:=Ea a6 (s[i]'oO) (rfl)
 have a7:=C9 F G.size
 refine A9 rfl<|Am<|A3 rfl<|A1 (.iis (((i+1:Nat):Int)) (.add rfl rfl (Ba oO)) oO)<|A9 rfl ?_
 exact ⟨(_,i+1),⟨rfl,rfl,rfl,tT⟩,⟨ay,by rw [K,A,A2 (bF aS),A2 (bF aS)];exact az,oM,a7⟩,oM⟩
 have aI:=dF h5
 refine BF<|Ad ?_
 have aA:s.take i=s:=An oO
 refine Am<|A3 rfl<|Cs (ps:=_) B1 EA Mt rfl rfl rfl rfl rfl pR rfl (λbg b3 y a8 k aW=>?_)
 have H:=C9 d k.size
 have aB:=DC c y k
 have aC:=uB hT y k
 have aO:=CF y hT.size
 refine Ew B1 IN rfl rfl rfl aB rfl a8 rfl (by simp only [Cl,Aa,Ak,NY];omega) (H) rfl (λbh bi a9 J aX=>?_)
 have aD:=Ej aC (J.mono (a))
 have aE:=Ea a9 (41) (rfl)
 have aY:=C9 H J.size
 obtain ⟨pq,cq,eq,hq,bj,bk,bl⟩:=CP.bytesC (l:=(40::(s.take i).flatMap VF++[41])) aE
 subst eq
 refine Ah (Fm (l:=(40::(s.take i).flatMap VF++[41])) B1 FK Gk rfl (hq))<|A9 rfl<|AW ?_
 exact ⟨AU (by rw [aA];rfl),aD⟩
end
section
def EV (x:l8_):l8_:=(DG false x).takeWhile Da
def K8 (x:l8_):l8_:=(DG false x).dropWhile Da
def NoR (k:Int) (r:l8_):Prop:=k=2->¬ (EV r=[48]/\EV (K8 r)=[82])
theorem XZ:∀ x:l8_,x.drop (x.takeWhile Da).length=x.dropWhile Da
 | []=>rfl
 | c::r=>by
  rw [List.takeWhile_cons,List.dropWhile_cons]
  cases h:Da c with
  | true=>simp only [if_true,Aa,List.drop_succ_cons];exact XZ r
  | false=>rfl
theorem Zq (l:l8_) (a:Nat):l.drop (BA l a)=(l.drop a).dropWhile Da:=by
 unfold BA
 rw [<- E2]
 exact XZ (l.drop a)
theorem W8 (refs:Bool) (l s:l8_) (t:Nat) (r:l8_) (h:l.drop t=r) (hn:¬ (EV r=[48]/\EV (K8 r)=[82])):Jk refs l s t=none:=by
 subst h
 unfold Jk
 have a:Dr l (B4 false l t)=EV (l.drop t):=by rw [Pp,HM];rfl
 have b:Dr l (B4 false l (BA l (B4 false l t)))=EV (K8 (l.drop t)):=by rw [Pp,HM,Zq,HM];rfl
 rw [a,b]
 split
 ·
  split
  · rw [A2 λh=>hn ⟨aS,h⟩]
  · rfl
 · rfl
section
variable {l:l8_} {t:Nat}
theorem Gh {c:UInt8} {r:l8_} (h:l.drop t=c::r):l[t]?=some c/\t<l.length/\l.drop (t+1)=r:=by
 have a:(l.drop t)[0]?=some c:=by rw [h];rfl
 rw [List.getElem?_drop] at a
 refine ⟨a,(C8.1 a).1,?_⟩
 rw [<- E2,h];rfl
theorem Hj (d:Nat) {c:UInt8} {r:l8_} (h:l.drop t=c::r) (h1:c≠47) (h2:c≠91) (h3:c≠40) (h4:c≠60):ES true l d t=Ga (EY true l t):=by
 have:=Lw true l (d:Int) t c (Gh h).1
 rw [Int.toNat_natCast,A2 h1,A2 h2,A2 h3,A2 h4] at this
 exact this
end
def St (c:UInt8):Bool:=!CV c && !(c == 37) && !(c == 93) && !(c == 62) && !(c == 82)
theorem IL {c:UInt8} (h:BW c=true\/c=45\/c=43):St c=true/\c≠47/\c≠91/\c≠40/\c≠60/\c≠110/\c≠116/\c≠102:=by
 have key:∀ c:UInt8,(BW c=true\/c=45\/c=43)->St c=true/\c≠47/\c≠91/\c≠40/\c≠60/\c≠110/\c≠116/\c≠102 :=
  K7 (q:=λc=>(BW c=true\/c=45\/c=43)->St c=true/\c≠47/\c≠91/\c≠40/\c≠60/\c≠110/\c≠116/\c≠102) (by decide +kernel)
 exact key c h
theorem Nf  {o:AV} (h:FY D st o):∃ c r,Dd o=c::r/\St c=true:=by
 cases h with
 | null=>exact ⟨_,_,by simp [Dd];exact ⟨rfl,rfl⟩,dD⟩
 | bool _ _ n h=>rcases h with rfl | rfl <;> exact ⟨_,_,by simp [Dd];exact ⟨rfl,rfl⟩,dD⟩
 | num _ _ k n hk h =>
  rcases hk with rfl | rfl
  ·
   obtain ⟨c,r,e,hc⟩:=Nw n h
   exact ⟨c,r,by simp [Dd];exact e,(IL hc).1⟩
  ·
   obtain ⟨c,r,e,hc⟩:=S3 n h
   exact ⟨c,r,by simp [Dd,O1 h];exact e,(IL hc).1⟩
 | name _ _ t h=>exact ⟨47,_,by simp [Dd,Vr];rfl,dD⟩
 | text _ _ t h=>exact ⟨40,_,by simp [Dd,txT];rfl,dD⟩
 | ref _ _ n h =>
  obtain ⟨c,r,e,hc⟩:=Nw n (by simp [Cy];omega)
  exact ⟨c,r++[32,48,32,82],by simp [Dd,e],(IL hc).1⟩
 | arr _ _ l hD hl h=>exact ⟨91,_,by simp [Dd];rfl,dD⟩
 | dict _ _ k ks l d hk hD hl hkl hn hnd h=>rcases hk with ⟨rfl,-⟩ | ⟨rfl,-⟩ <;> exact ⟨60,_,by simp [Dd];rfl,dD⟩
theorem Ts {c:UInt8} (h:St c=true):CV c=false/\c≠37/\c≠93/\c≠62/\c≠82:=by
 simp only [St,AE,BO,Dw] at h
 exact ⟨h.1.1.1.1,h.1.1.1.2,h.1.1.2,h.1.2,h.2⟩
theorem J6  {o:AV} (h:FY D st o) (x:l8_):DG false (Dd o++x)=Dd o++x:=by
 obtain ⟨c,r,e,hc⟩:=Nf h
 have:=Ts hc
 rw [e,Bb,EP this.1 this.2.1]
theorem A3B  {o:AV} (h:FY D st o) (x:l8_):EV (Dd o++x)≠[82]:=by
 obtain ⟨c,r,e,hc⟩:=Nf h
 have:=Ts hc
 unfold EV
 rw [J6 h,e,Bb,List.takeWhile_cons]
 split
 · exact λhe=>this.2.2.2.2 (List.cons.inj he).1
 · exact λhe=>by cases he
theorem A3C  {o:AV} (h:FY D st o) {x:l8_} (hx:P3 x) (h0:EV (Dd o++x)=[48]):K8 (Dd o++x)=x:=by
 have hw:∀ A:l8_,(∀ y∈A,Da y=true)->Dd o=A->EV (Dd o++x)=A/\K8 (Dd o++x)=x:=λA hA e=>by
  unfold EV K8
  rw [J6 h,e,SR hA hx,A5m hA hx];exact ⟨rfl,rfl⟩
 have hd:∀ (c:UInt8) (r:l8_),Dd o=c::r->Da c=false->EV (Dd o++x)=[]:=λc r e hc=>by
  unfold EV
  rw [J6 h,e,Bb,List.takeWhile_cons,hc];rfl
 cases h with
 | null=>exact (hw [110,117,108,108] dD (by simp [Dd])).2
 | bool _ _ n h =>
  rcases h with rfl | rfl
  · exact (hw [102,97,108,115,101] dD (by simp [Dd])).2
  · exact (hw [116,114,117,101] dD (by simp [Dd])).2
 | num _ _ k n hk h =>
  rcases hk with rfl | rfl
  · exact (hw _ (Pi n h) (by simp [Dd])).2
  · exact (hw _ (PP n h).2.2 (by simp [Dd,O1 h])).2
 | name _ _ t h=>rw [hd 47 (t.flatMap P9) (by simp [Dd,Vr]) dD] at h0;cases h0
 | text _ _ t h=>rw [hd 40 _ (by simp [Dd,txT];rfl) dD] at h0;cases h0
 | ref _ _ n h =>
  exfalso
  have hf:Cy n=true:=by simp [Cy];omega
  have hs:=J6 (FY.ref D st n h) x
  unfold EV at h0
  have e:Dd (.mk 8 n [] [] [] [])=EK n++[32,48,32,82]:=by simp [Dd]
  rw [hs,e,AS,show ([32,48,32,82]:l8_)++x=32::(48::32::82::x) from rfl,SR (Pi n hf) (P3.cons dD)] at h0
  obtain ⟨m,W,b,-,-,-,hv,-⟩:=JD n hf
  have hn:Cv (B7 n.natAbs)=n.natAbs:=(Ja n.natAbs).2.1
  have a:EK n=B7 n.natAbs:=by unfold EK;rw [A2 oO]
  rw [a] at h0
  rw [h0] at hn
  have:Cv [48]=0:=by decide
  omega
 | arr _ _ l hD hl h=>rw [hd 91 _ (by simp [Dd];rfl) dD] at h0;cases h0
 | dict _ _ k ks l d hk hD hl hkl hn hnd h =>
  have e:∃ r,Dd (.mk k 0 [] ks l d)=60::r:=by rcases hk with ⟨rfl,-⟩ | ⟨rfl,-⟩ <;> exact ⟨_,by simp [Dd];rfl⟩
  obtain ⟨r,e⟩:=e
  rw [hd 60 r e dD] at h0;cases h0
theorem Vg (r:List AV) (x:l8_):P3 (FS r++93::x):=by
 cases r with
 | nil=>exact P3.cons dD
 | cons o r=>rw [FS];exact P3.cons dD
theorem LI (x:l8_):EV (32::x)=EV x/\K8 (32::x)=K8 x:=by unfold EV K8;rw [IF];exact ⟨rfl,rfl⟩
theorem JY {c:UInt8} (x:l8_) (h:Da c=false) (h1:CV c=false) (h2:c≠37):EV (c::x)=[]:=by
 unfold EV;rw [EP h1 h2,List.takeWhile_cons,h];rfl
theorem A3b  (k:Int) (r:List AV) (hr:∀ o∈r,FY D false o) (x:l8_):NoR k (FS r++93::x):=by
 intro _ ⟨b,a⟩
 cases r with
 | nil =>
  rw [show FS []++93::x=93::x by simp [FS],JY x dD dD dD] at b;cases b
 | cons o r =>
  have e:FS (o::r)++93::x=32::(Dd o++(FS r++93::x)):=by simp [FS]
  rw [e,(LI _).1] at b
  rw [e,(LI _).2,A3C (hr o (by simp)) (Vg r x) b] at a
  cases r with
  | nil=>rw [show FS []++93::x=93::x by simp [FS],JY x dD dD dD] at a;cases a
  | cons o2 r =>
   have e:FS (o2::r)++93::x=32::(Dd o2++(FS r++93::x)):=by simp [FS]
   rw [e,(LI _).1] at a
   exact A3B (hr o2 (by simp)) _ a
theorem MD (ks:List (l8_)) (r:List AV) (x:l8_):∃ c y,IW ks r++32::62::x=32::c::y/\(c=47\/c=62):=by
 match ks,r with
 | [],r=>exact ⟨62,x,by simp [IW],.inr rfl⟩
 | k::ks,[]=>exact ⟨62,x,by simp [IW],.inr rfl⟩
 | k::ks,o::r=>exact ⟨47,k.flatMap P9++32::(Dd o++IW ks r)++32::62::x,by simp [IW,Vr],.inl rfl⟩
theorem A0J (k:Int) (ks:List (l8_)) (r:List AV) (x:l8_):NoR k (IW ks r++32::62::x):=by
 intro _ ⟨a,_⟩
 obtain ⟨c,y,e,hc⟩:=MD ks r x
 rw [e,(LI _).1,JY y (by rcases hc with rfl | rfl <;> decide) (by rcases hc with rfl | rfl <;> decide) (by rcases hc with rfl | rfl <;> decide)] at a
 cases a
theorem Wj:∀ l:List AV,l.length<=(FS l).length
 | []=>DP _
 | o::r=>by
  have:=Wj r
  rw [FS,Aa,Aa,A8];omega
theorem A0y:∀ (ks:List (l8_)) (l:List AV),ks.length=l.length->l.length<=(IW ks l).length
 | [],[],_=>DP _
 | k::ks,o::r,h=>by
  have:=A0y ks r (by simpa using h)
  simp only [IW,Aa,A8];omega
def A29 (o:AV):Prop:=∀ (l:l8_) (t:Nat) (rest:l8_) (d:Nat),t<=l.length->l.drop t=Dd o++rest->P3 rest->NoR o.kind rest->ES true l d t=if NG o<=d then .ok (JI o,l.length-rest.length) else .error 25
theorem NM  {r:l8_} {t:Nat} (ht:t<=l.length) (h:l.drop t=A++r):l.drop (l.length-r.length)=r/\l.length-r.length<=l.length/\r.length<=l.length:=by
 have hl:=BJ List.length h
 rw [Au,A8] at hl
 refine ⟨?_,oO,oO⟩
 rw [show l.length-r.length=t+A.length by omega,<- E2,h,List.drop_left]
theorem OE (l:l8_) (d:Nat) (rest:l8_) {D:Int}:∀ (r:List AV) (acc:List PV) (t f:Nat),(∀ o∈r,FY D false o)->(∀ o∈r,A29 o)->t<=l.length->DG false (l.drop t)=(FS r).drop 1++93::rest->r.length<f->acc.length+r.length<=65535 ->
  IM (ES true l d) l f acc t=if OK r<=d then .ok (acc++Js r,l.length-rest.length) else .error 25
 | [],acc,t,f,_,_,ht,h,hf,_=>by
  obtain ⟨-,h2⟩:=Ii h
  rw [show (FS []).drop 1++93::rest=93::rest by simp [FS]] at h2
  obtain ⟨h3,h4,-⟩:=Gh h2
  have hl:=BJ List.length h2
  rw [Au,Aa] at hl
  rw [MJ oO,h3]
  simp only [if_true]
  rw [A7 (show OK []<=d by simp [OK])]
  congr 2
  · simp [Js]
  · omega
 | o::r,acc,t,f,hS,hR,ht,h,hf,ha=>by
  obtain ⟨-,h2⟩:=Ii h
  have hso:=hS o (by simp)
  rw [show (FS (o::r)).drop 1++93::rest=Dd o++(FS r++93::rest) by simp [FS]] at h2
  obtain ⟨c,q,hq,hc⟩:=Nf hso
  obtain ⟨h3,h4,-⟩:=Gh (show l.drop (B4 false l t)=c::(q++(FS r++93::rest)) by rw [h2,hq];rfl)
  rw [MJ oO,h3]
  simp only
  simp only [Aa] at hf ha
  rw [A2 (Ts hc).2.2.1,A2 oO]
  rw [hR o (by simp) l _ _ d oO h2 (Vg r rest) (A3b o.kind r (λx hx=>hS x (by simp [hx])) rest)]
  by_cases hd:NG o<=d
  ·
   rw [A7 hd]
   simp only
   obtain ⟨g1,g2,g3⟩:=NM oO h2
   rw [OE l d rest r (acc++[JI o]) _ (f-1) (λx hx=>hS x (by simp [hx])) (λx hx=>hR x (by simp [hx])) g2 (by
    rw [g1]
    cases r with
    | nil=>rw [show FS []++93::rest=93::rest by simp [FS]];exact EP dD dD
    | cons o2 r2 =>
     rw [show FS (o2::r2)++93::rest=32::(Dd o2++(FS r2++93::rest)) by simp [FS],IF,J6 (hS o2 (by simp))]
     simp [FS]) oO (by rw [A8,Gz];omega)]
   have e:OK (o::r)=max (NG o) (OK r):=by rw [OK]
   by_cases h5:OK r<=d
   · rw [A7 h5,A7 oO];simp [Js]
   · rw [A2 h5,A2 oO]
  ·
   rw [A2 hd]
   simp only
   rw [A2 (by rw [OK];omega)]
theorem Nh (l:l8_) (d:Nat) (rest:l8_) {D:Int}:∀ (ks:List (l8_)) (r:List AV) (ka:List (l8_)) (acc:List PV) (t f:Nat),ks.length=r.length->(∀ k∈ks,KL k)->(ka++ks).Nodup->(∀ o∈r,FY D false o)->(∀ o∈r,A29 o)->t<=l.length ->
  DG false (l.drop t)=(IW ks r++32::62::62::rest).drop 1->r.length<f->acc.length+r.length<=65535 ->
  Gl (ES true l d) l f ka acc t=if OK r<=d then .ok (ka++ks,acc++Js r,l.length-rest.length) else .error 25
 | [],[],ka,acc,t,f,_,_,_,_,_,ht,h,hf,_=>by
  obtain ⟨-,h2⟩:=Ii h
  rw [show (IW [] []++32::62::62::rest).drop 1=62::62::rest by simp [IW]] at h2
  obtain ⟨h3,h4,h5⟩:=Gh h2
  obtain ⟨h6,h7,-⟩:=Gh h5
  have hl:=BJ List.length h2
  rw [Au,Aa,Aa] at hl
  rw [KG oO,h3]
  simp only
  rw [A2 (by rintro ⟨-,h⟩;omega),A7 (by exact ⟨by trivial,h6⟩),A7 (show OK []<=d by simp [OK])]
  congr 3
  · simp
  · simp [Js]
  · omega
 | k::ks,o::r,ka,acc,t,f,hkl,hk,hnd,hS,hR,ht,h,hf,ha=>by
  obtain ⟨-,h2⟩:=Ii h
  have hso:=hS o (by simp)
  have e0:(IW (k::ks) (o::r)++32::62::62::rest).drop 1=47::(k.flatMap P9++32::(Dd o++(IW ks r++32::62::62::rest))):=by simp [IW,Vr]
  rw [e0] at h2
  obtain ⟨h3,h4,h5⟩:=Gh h2
  simp only [Aa] at hf ha
  have g:=UG oO h5 (hk k (by simp)) (P3.cons dD)
  obtain ⟨m,y,A⟩:=NM oO h5
  have s:DG false (l.drop (l.length-(32::(Dd o++(IW ks r++32::62::62::rest))).length))=Dd o++(IW ks r++32::62::62::rest):=by rw [m,IF,J6 hso]
  obtain ⟨-,b⟩:=Ii s
  obtain ⟨c,q,hq,hc⟩:=Nf hso
  obtain ⟨u,B,-⟩:=Gh (b.trans (show _=c::(q++(IW ks r++32::62::62::rest)) by rw [hq];rfl))
  obtain ⟨C,E,i,a⟩:=MD ks r (62::rest)
  rw [KG oO,h3]
  simp only
  rw [A2 (by rintro ⟨h,-⟩;cases h),A2 (by rintro ⟨h,-⟩;cases h),A2 (by simp),g]
  simp only
  have j:k ∉ ka:=λhm=>by
   have:=(List.nodup_append.1 hnd).2.2 k hm k (by simp)
   exact this rfl
  rw [A2 j,A2 oO,u]
  simp only
  rw [hR o (by simp) l _ _ d oO b (by rw [i];exact P3.cons dD) (A0J o.kind ks r (62::rest))]
  by_cases hd:NG o<=d
  ·
   rw [A7 hd]
   simp only
   obtain ⟨v,w,F⟩:=NM oO b
   rw [Nh l d rest ks r (ka++[k]) (acc++[JI o]) _ (f-1) (by simpa using hkl) (λx hx=>hk x (by simp [hx])) (by simpa using hnd) (λx hx=>hS x (by simp [hx])) (λx hx=>hR x (by simp [hx])) w (by
    rw [v,i,IF,EP (by rcases a with rfl | rfl <;> decide) (by rcases a with rfl | rfl <;> decide)];rfl) oO (by rw [A8,Gz];omega)]
   have e:OK (o::r)=max (NG o) (OK r):=by rw [OK]
   by_cases h5:OK r<=d
   · rw [A7 h5,A7 oO];simp [Js]
   · rw [A2 h5,A2 oO]
  ·
   rw [A2 hd]
   simp only
   rw [A2 (by rw [OK];omega)]
theorem Sa (l:l8_) (t:Nat) (k n:Int) (s:l8_) (hs:Dr l t=s) (hh:∃ c r,s=c::r/\(BW c=true\/c=45\/c=43)) (hr:Jk true l s (BA l t)=none) (hn:Nj s=(k,n,true)):EY true l t=⟨k,n,s,true,BA l t⟩:=by
 obtain ⟨c,r,e,hc⟩:=hh
 have hq:=IL hc
 unfold EY
 rw [hs,A2 (by rw [e];intro h;exact hq.2.2.2.2.2.1 (List.cons.inj h).1),A2 (by rw [e];intro h;exact hq.2.2.2.2.2.2.1 (List.cons.inj h).1),A2 (by rw [e];intro h;exact hq.2.2.2.2.2.2.2 (List.cons.inj h).1),hr,hn]
 simp
theorem Vz (n:Int) (h:1<=n/\n<=4096):Fx (EK n) 4096=(n,true):=by
 obtain ⟨a,b,c⟩:=Ja n.natAbs
 have hl:=DB 3 n.natAbs oO
 have hd:EK n=B7 n.natAbs:=by unfold EK;rw [A2 oO]
 unfold Fx FC
 rw [hd,AN.2 a,AP (show (B7 n.natAbs).length<=10 by omega),AJ c]
 simp only [Bool.not_false,Bool.and_self,if_true]
 rw [b]
 simp;omega
theorem A65  {o:AV} (h:FY D st o):o.kind≠9->A29 o:=by
  induction h with
  | null D st =>
    intro _ l t rest d ht h hb _
    have e:Dd (.mk 0 0 [] [] [] [])=[110,117,108,108]:=by simp [Dd]
    rw [e] at h
    obtain ⟨a,f,-⟩:=GA ht h dD hb
    rw [Hj d h dD dD dD dD,A7 (by simp [NG])]
    unfold EY
    rw [a,A7 rfl,f];simp [Ga,JI,Js,Jm]
  | bool D st n hn =>
    intro _ l t rest d ht h hb _
    rcases hn with rfl | rfl
    · have e : Dd (.mk 1 0 [] [] [] []) = [102, 97, 108, 115, 101] := by simp [Dd]
      rw [e] at h
      obtain ⟨a,f,-⟩:=GA ht h dD hb
      rw [Hj d h dD dD dD dD,A7 (by simp [NG])]
      unfold EY
      rw [a,A2 dD,A2 dD,A7 rfl,f];simp [Ga,JI,Js,Jm]
    · have e : Dd (.mk 1 1 [] [] [] []) = [116, 114, 117, 101] := by simp [Dd]
      rw [e] at h
      obtain ⟨a,f,-⟩:=GA ht h dD hb
      rw [Hj d h dD dD dD dD,A7 (by simp [NG])]
      unfold EY
      rw [a,A2 dD,A7 rfl,f];simp [Ga,JI,Js,Jm]
  | num D st k n hk hf =>
    intro _ l t rest d ht h hb w
    rcases hk with rfl | rfl
    · have e : Dd (.mk 2 n [] [] [] []) = EK n := by simp [Dd]
      rw [e] at h
      obtain ⟨a,f,q⟩:=GA ht h (Pi n hf) hb
      obtain ⟨c,r,ec,hc⟩:=Nw n hf
      have hq:=IL hc
      rw [Hj d (show l.drop t=c::(r++rest) by rw [h,ec];rfl) hq.2.1 hq.2.2.1 hq.2.2.2.1 hq.2.2.2.2.1,A7 (by simp [NG])]
      rw [Sa l t 2 n _ a ⟨c,r,ec,hc⟩ (W8 _ _ _ _ _ q (w rfl)) (A0H n hf),f]
      simp [Ga,JI,Js,Jm]
    · have e : Dd (.mk 3 n [] [] [] []) = HR n := by simp [Dd, O1 hf]
      rw [e] at h
      obtain ⟨E,x,F⟩:=PP n hf
      obtain ⟨a,f,q⟩:=GA ht h F hb
      obtain ⟨c,r,ec,hc⟩:=S3 n hf
      have hq:=IL hc
      rw [Hj d (show l.drop t=c::(r++rest) by rw [h,ec];rfl) hq.2.1 hq.2.2.1 hq.2.2.2.1 hq.2.2.2.2.1,A7 (by simp [NG])]
      have y:(Fx (HR n) 4096).2=false:=by
        unfold Fx FC
        have:(HR n).all BW=false:=by
          cases hx:(HR n).all BW with
          | false=>rfl
          | true=>exact De (AN.1 hx 46 (List.contains_iff_mem.1 x)) dD
        rw [this];simp
      rw [Sa l t 3 n _ a ⟨c,r,ec,hc⟩ (by unfold Jk;rw [y];simp) (by unfold Nj;rw [x,E];rfl),f]
      simp [Ga,JI,Js,Jm]
  | name D st s hs =>
    intro _ l t rest d ht h hb _
    have e:Dd (.mk 4 0 s [] [] [])=47::s.flatMap P9:=by simp [Dd,Vr]
    rw [e] at h
    obtain ⟨g,v,i⟩:=Gh h
    have:=Lw true l (d:Int) t 47 g
    rw [Int.toNat_natCast,A7 rfl] at this
    rw [this,A7 (by simp [NG])]
    unfold Ml
    rw [UG oO i hs hb]
    simp [JI,Js,Jm]
  | text D st s hs =>
    intro _ l t rest d ht h hb _
    have e:Dd (.mk 5 0 s [] [] [])=txT s:=by simp [Dd]
    rw [e] at h
    obtain ⟨g,v,i⟩:=Gh (show l.drop t=40::((s.flatMap VF++[41])++rest) by rw [h];rfl)
    have:=Lw true l (d:Int) t 40 g
    rw [Int.toNat_natCast,A2 dD,A2 dD,A7 rfl] at this
    rw [this,A7 (by simp [NG])]
    unfold ID
    rw [A07 ht h hs]
    simp [JI,Js,Jm]
  | ref D st n hn =>
    intro _ l t rest d ht h hb _
    have hf:Cy n=true:=by simp [Cy];omega
    have e:Dd (.mk 8 n [] [] [] [])=EK n++[32,48,32,82]:=by simp [Dd]
    rw [e,AS] at h
    obtain ⟨a,f,q⟩:=GA ht h (Pi n hf) (P3.cons dD)
    obtain ⟨c,r,ec,hc⟩:=Nw n hf
    have hq:=IL hc
    have b:=BJ List.length h
    simp only [Au,A8,Aa,Ak] at b
    rw [Hj d (show l.drop t=c::(r++([32,48,32,82]++rest)) by rw [h,ec];rfl) hq.2.1 hq.2.2.1 hq.2.2.2.1 hq.2.2.2.2.1,A7 (by simp [NG])]
    have G:DG false (l.drop (BA l t))=48::32::82::rest:=by rw [q];exact (IF _).trans (EP dD dD)
    obtain ⟨-,H⟩:=Ii G
    obtain ⟨J,X,K⟩:=GA (Ec _ _ _) (show l.drop (B4 false l (BA l t))=[48]++(32::82::rest) by rw [H];rfl) dD (P3.cons dD)
    have M:DG false (l.drop (BA l (B4 false l (BA l t))))=82::rest:=by rw [K];exact (IF _).trans (EP dD dD)
    obtain ⟨-,N⟩:=Ii M
    obtain ⟨O,P,Y⟩:=GA (Ec _ _ _) (show l.drop (B4 false l (BA l (B4 false l (BA l t))))=[82]++rest by rw [N];rfl) dD hb
    have hR:Jk true l (EK n) (BA l t)=some (n,l.length-rest.length):=by
      unfold Jk
      rw [Vz n hn,J,O,P]
      simp;omega
    unfold EY
    rw [a,A2 (by rw [ec];intro h;exact hq.2.2.2.2.2.1 (List.cons.inj h).1),A2 (by rw [ec];intro h;exact hq.2.2.2.2.2.2.1 (List.cons.inj h).1),A2 (by rw [ec];intro h;exact hq.2.2.2.2.2.2.2 (List.cons.inj h).1),hR]
    simp [Ga,JI,Js,Jm,A0r,W7]
  | arr D st L hD hl hS ih =>
    intro _ l t rest d ht h hb _
    have e:Dd (.mk 6 0 [] [] L [])=91::((FS L).drop 1++[93]):=by simp [Dd]
    rw [e] at h
    obtain ⟨g,v,i⟩:=Gh (show l.drop t=91::((FS L).drop 1++[93]++rest) by rw [h];rfl)
    have:=Lw true l (d:Int) t 91 g
    rw [Int.toNat_natCast,A2 dD,A7 rfl] at this
    rw [this]
    have m:NG (.mk 6 0 [] [] L [])=OK L+1:=by simp [NG]
    rw [m]
    by_cases hd:(d:Int)<1
    · rw [A7 hd,A2 oO]
    · rw [A2 hd, show ((d : Int) - 1).toNat = d - 1 by omega]
      have b:=BJ List.length i
      have A:=Wj L
      simp only [Au,A8,Aa,Ak] at b
      rw [OE l (d-1) rest L [] (t+1) (l.length+1) hS (λo ho=>ih o ho (N7 (hS o ho))) oO (by
        rw [i]
        cases L with
        | nil=>simp only [FS,List.drop_nil,C4,Bb];exact EP dD dD
        | cons o r =>
          rw [show (FS (o::r)).drop 1++[93]++rest=Dd o++(FS r++93::rest) by simp [FS],J6 (hS o (by simp))]
          simp [FS]) oO (by simpa using hl)]
      by_cases j:OK L<=d-1
      · rw [A7 j,A7 oO];simp [Qm,JI]
      · rw [A2 j,A2 oO];rfl
  | dict D st k ks L dd hk hD hl hkl hn hnd hS ih =>
    intro Q l t rest d ht h hb _
    rcases hk with ⟨rfl,rfl⟩ | ⟨rfl,-⟩
    · have e : Dd (.mk 7 0 [] ks L []) = 60 :: 60 :: (IW ks L ++ [32, 62, 62]) := by simp [Dd]
      rw [e] at h
      obtain ⟨g,v,i⟩:=Gh (show l.drop t=60::(60::(IW ks L++[32,62,62]++rest)) by rw [h];rfl)
      obtain ⟨R,j,B⟩:=Gh i
      have:=Lw true l (d:Int) t 60 g
      rw [Int.toNat_natCast,A2 dD,A2 dD,A2 dD,A7 rfl,A2 oO,A2 (λh=>h R)] at this
      rw [this]
      have m:NG (.mk 7 0 [] ks L [])=OK L+1:=by simp [NG]
      rw [m]
      by_cases hd:(d:Int)<1
      · rw [A7 hd,A2 oO]
      · rw [A2 hd, show ((d : Int) - 1).toNat = d - 1 by omega]
        have b:=BJ List.length B
        have A:=A0y ks L hkl
        simp only [Au,A8,Aa,Ak] at b
        obtain ⟨T,U,C,u⟩:=MD ks L (62::rest)
        have V:l.drop (t+1+1)=32::T::U:=by rw [B,<- C];simp
        rw [Nh l (d-1) rest ks L [] [] (t+2) (l.length+1) hkl hn (by simpa using hnd) hS (λo ho=>ih o ho (N7 (hS o ho))) oO (by
          rw [show t+2=t+1+1 from rfl,V,C,IF,EP (by rcases u with rfl | rfl <;> decide) (by rcases u with rfl | rfl <;> decide)];rfl) oO (by simpa using hl)]
        by_cases j:OK L<=d-1
        · rw [A7 j,A7 oO];simp [ME,JI]
        · rw [A2 j,A2 oO];rfl
    · exact De rfl Q
end
section
theorem Mi (n:Int) (w:World) (h:Cy n=false) :
  Cb 66 #[Af n] w (.string (bs [48])):=by
 go_enter func66,ntmps66
 go_wp2_with (go_at_call 64;refine (IH _ _).mono ?_;rintro e a ⟨rfl,rfl⟩)
 go_ret
 exact ⟨rfl,Gb _ _⟩
theorem QG (n:Int) (h:0<=n):EK n=B7 n.toNat:=by
 unfold EK;rw [A2 oO];congr 1;omega
theorem S5 (n m:Int) (hm:m=(n.natAbs:Int)):GH n=Kf n++EK (m / 65536)++(if 0<m % 65536 then [46] else [])++HX (m % 65536).toNat:=by
  subst hm
  rw [QG _ oO]
  have a:((n.natAbs:Int) / 65536).toNat=n.natAbs / 65536:=by omega
  have b:((n.natAbs:Int) % 65536).toNat=n.natAbs % 65536:=by omega
  rw [a,b]
  unfold GH H6 Jq
  by_cases h0:n.natAbs % 65536=0
  · have hc : ¬ (0 : Int) < (n.natAbs : Int) % 65536 := by omega
    simp [hc,h0,JX]
  · have hc : (0 : Int) < (n.natAbs : Int) % 65536 := by omega
    simp [hc,US _ (show 0<n.natAbs % 65536 by omega) oO]
theorem A5p:(⟨#[]⟩:ByteArray)=bs []:=rfl
theorem A1N (c:UInt8):(⟨#[c]⟩:ByteArray)=bs [c]:=rfl
theorem Rc (n:Int) (w:World) (h:0<=n) (h':n<=2147483647) :
    Cb 66 #[Af n] w (.string (bs (GH n))):=by
  have hf:=LG (n:=n) oO h'
  have hd:=JF (n / 65536) oO oO
  have hP:=S5 n n oO
  rw [Kf,A2 oO] at hP
  by_cases hr:0<n % 65536
  all_goals
    first | rw [A7 hr] at hP | rw [A2 hr] at hP
    have HP:=Eb hP;clear hP
    go_enter func66,ntmps66
    go_wp2_with first | (go_at_call 64;refine (IH _ _).mono ?_;rintro e c ⟨rfl,rfl⟩) | (go_at_call 21;go_must (refine (Lo _ _ oO oO).mono ?_);rintro e c ⟨rfl,hb1⟩)
    go_loopw [3,4] (λs r wr=>∃ (t:l8_) (m:Nat),s=.string (bs t)/\r=Af m/\m<65536/\AL w wr/\t.length+(HX m).length<=60/\GH n=t++HX m) (λ_ r _=>(HX (intOf r).toNat).length)
    case atStart =>
      have hl:=Jy (n % 65536).toNat
      rw [BV] at hd
      refine ⟨_,(n % 65536).toNat,?_,by go_num,oO,hb1,?_,HP.out⟩
      · simp [A5p,A1N,EB]
      · simp;omega
    case round =>
      obtain ⟨t,m,rfl,rfl,hm,hb,i,hp⟩:=hrel
      have Hp:=Eb hp;clear hp HP
      by_cases hm0:0<m
      · have b := MN m hm0 hm
        have Hst:=Eb b;clear b
        have d:=BJ List.length Hst.out
        simp only [Aa] at d
        have l:(bs t).size<=60:=by rw [BV];omega
        have o:=JF ((m:Int) * 10 / 65536) oO oO
        clear hd hb1
        have f:=hb.size
        go_wp2_with (go_at_call 21;go_must (refine (Lo _ _ oO oO).mono ?_);rintro e c ⟨rfl,hb1⟩)
        have g:EK ((m:Int) * 10 / 65536)=[ch (48+((m * 10 / 65536:Nat):Int))]:=by
          rw [QG _ oO,En _ oO,Int.toNat_of_nonneg oO,Int.natCast_ediv,Int.natCast_mul];rfl
        refine ⟨⟨t++EK ((m:Int) * 10 / 65536),m * 10 % 65536,by rw [EB],by go_num,oO,hb.trans (hb1.mono f),?_,?_⟩,?_⟩
        · rw [g];simp;omega
        · rw [Hp.out,Hst.out,g];simp
        · have j : ((m : Int) * 10 % 65536).toNat = m * 10 % 65536 := by omega
          have k:((m:Int)).toNat=m:=by omega
          simp only [intOf,j,k];omega
      · have a : m = 0 := by omega
        have Hm:=Eb a;clear a
        go_wp2
        go_ret
        exact ⟨Nb (by rw [Hp.out,Hm.out,JX,FB]),hb⟩
theorem Re (k:Int) (w:World) (h:0<k) (h':k<=2147483648) :
    Calls Tryz.prog 66 #[Af (-k)] w λe w'=>e=.returned (.string (bs (GH (-k))))/\AL w w':=by
  have hf:=LG (n:=-k) oO oO
  have hd:=JF (k / 65536) oO oO
  have hP:=S5 (-k) k oO
  rw [Kf,A7 oO] at hP
  by_cases hr:0<k % 65536
  all_goals
    first | rw [A7 hr] at hP | rw [A2 hr] at hP
    have HP:=Eb hP;clear hP
    go_enter func66,ntmps66
    go_wp2_with first | (go_at_call 64;refine (IH _ _).mono ?_;rintro e c ⟨rfl,rfl⟩) | (go_at_call 21;go_must (refine (Lo _ _ oO oO).mono ?_);rintro e c ⟨rfl,hb1⟩)
    go_loopw [3,4] (λs r wr=>∃ (t:l8_) (m:Nat),s=.string (bs t)/\r=Af m/\m<65536/\AL w wr/\t.length+(HX m).length<=60/\GH (-k)=t++HX m) (λ_ r _=>(HX (intOf r).toNat).length)
    case atStart =>
      have hl:=Jy (k % 65536).toNat
      rw [BV] at hd
      refine ⟨_,(k % 65536).toNat,?_,by go_num,oO,hb1,?_,HP.out⟩
      · simp [A1N,EB]
      · simp;omega
    case round =>
      obtain ⟨t,m,rfl,rfl,hm,hb,i,hp⟩:=hrel
      have Hp:=Eb hp;clear hp HP
      by_cases hm0:0<m
      · have b := MN m hm0 hm
        have Hst:=Eb b;clear b
        have d:=BJ List.length Hst.out
        simp only [Aa] at d
        have o:(bs t).size<=60:=by rw [BV];omega
        have q:=JF ((m:Int) * 10 / 65536) oO oO
        clear hd hb1
        have f:=hb.size
        go_wp2_with (go_at_call 21;go_must (refine (Lo _ _ oO oO).mono ?_);rintro e c ⟨rfl,hb1⟩)
        have g:EK ((m:Int) * 10 / 65536)=[ch (48+((m * 10 / 65536:Nat):Int))]:=by
          rw [QG _ oO,En _ oO,Int.toNat_of_nonneg oO,Int.natCast_ediv,Int.natCast_mul];rfl
        refine ⟨⟨t++EK ((m:Int) * 10 / 65536),m * 10 % 65536,by rw [EB],by go_num,oO,hb.trans (hb1.mono f),?_,?_⟩,?_⟩
        · rw [g];simp;omega
        · rw [Hp.out,Hst.out,g];simp
        · have j : ((m : Int) * 10 % 65536).toNat = m * 10 % 65536 := by omega
          have l:((m:Int)).toNat=m:=by omega
          simp only [intOf,j,l];omega
      · have a : m = 0 := by omega
        have Hm:=Eb a;clear a
        go_wp2
        go_ret
        exact ⟨Nb (by rw [Hp.out,Hm.out,JX,FB]),hb⟩
theorem NS (n:Int) (w:World) :
    Calls Tryz.prog 66 #[Af n] w λe w'=>e=.returned (.string (bs (GH (norm n))))/\AL w w':=by
  have a:GH 0=[48]:=by
    have hz:Jq 0=[]:=rfl
    have hd:B7 0=[48]:=by rw [En 0 oO];rfl
    simp [GH,Kf,H6,hz,hd]
  unfold norm
  by_cases h1:n < -2147483648
  · rw [Ns h1];simp only [C5,if_false,a];exact Mi n w (Ns h1)
  · by_cases h2 : 2147483647 < n
    · rw [UX h2];simp only [C5,if_false,a];exact Mi n w (UX h2)
    · rw [LG oO oO]
      by_cases h3:n<0
      · have h := Re (-n) w oO oO
        rw [Int.neg_neg] at h;exact h
      · exact Rc n w oO oO
theorem RU (n:Int):((n.tmod 65536) == 0)=decide (n.natAbs % 65536=0):=by
 rw [AY]
 simp only [beq_iff_eq,AF]
 rcases Int.le_total 0 n with h | h
 · rw [Int.tmod_eq_emod_of_nonneg h];omega
 ·
  have e:n.tmod 65536=-((-n) % 65536):=by
   rw [<- Int.tmod_eq_emod_of_nonneg oO,Int.neg_tmod,Int.neg_neg]
  rw [e];omega
theorem Ov (n:Int):(bs (GH (norm n))).size<=60:=by
 have a:=VN (norm n)
 have b:=Om (norm n) (XC n) (XD n)
 have c:=W3 (norm n)
 rw [BV] at *
 unfold GH
 split <;> simp <;> omega
theorem Rf (n:Int) (w:World) :
    Calls Tryz.prog 43 #[Af n] w λe w'=>e=.returned (.string (bs (HR (norm n))))/\AL w w':=by
  have hs:=Ov n
  by_cases hf:Cy n=true
  · have hn : norm n = n := by rw [norm, hf]; rfl
    by_cases a:n.natAbs % 65536=0
    · have ht : (n.tmod 65536 == 0) = true := by rw [RU]; simpa using a
      have hr:=(NQ n).2 a
      have Hr:=Eb hr;have Hn:=Eb hn;clear hr hn a
      go_enter func43,ntmps43
      go_wp2_with first | (go_at_call 64;refine (IH _ _).mono ?_;rintro e b ⟨rfl,rfl⟩) | (go_at_call 66;go_must (refine (NS _ _).mono ?_);rintro e b ⟨rfl,hb1⟩)
      go_ret
      refine ⟨Nb ?_,hb1⟩
      rw [Hn.out,HR,GH,A7 Hr.out,A7 Hr.out]
      show bs _++bs [46,48]=_
      rw [EB];simp
    · have ht : (n.tmod 65536 == 0) = false := by rw [RU]; simpa using a
      have hr:=λx=>a ((NQ n).1 x)
      have Hr:=Eb hr;have Hn:=Eb hn;clear hr hn a
      go_enter func43,ntmps43
      go_wp2_with first | (go_at_call 64;refine (IH _ _).mono ?_;rintro e b ⟨rfl,rfl⟩) | (go_at_call 66;go_must (refine (NS _ _).mono ?_);rintro e b ⟨rfl,hb1⟩)
      go_ret
      refine ⟨Nb ?_,hb1⟩
      rw [Hn.out,HR,GH,A2 Hr.out,A2 Hr.out]
  · have hf' : Cy n = false := by simpa using hf
    have hn:norm n=0:=by rw [norm,hf'];rfl
    have Hn:=Eb hn;clear hf hn
    have c:=Ov 0
    go_enter func43,ntmps43
    go_wp2_with first | (go_at_call 64;refine (IH _ _).mono ?_;rintro e b ⟨rfl,rfl⟩) | (go_at_call 66;go_must (refine (NS _ _).mono ?_);rintro e b ⟨rfl,hb1⟩)
    go_ret
    refine ⟨Nb ?_,hb1⟩
    have hz:Jq 0=[]:=rfl
    have a:norm 0=0:=rfl
    rw [Hn.out,a,HR,GH,A7 hz,A7 hz]
    show bs _++bs [46,48]=_
    rw [EB];simp
end
section
theorem A4U (l:List AV) (i:Nat) (hi:i<l.length):(Dd l[i]).length<=(FS l).length/\(FS (l.take (i+1))).length<=(FS l).length:=by
 have e:l=l.take i++l[i]::l.drop (i+1):=by rw [<- Aw hi,Dx]
 have a:FS l=FS (l.take i)++(32::(Dd l[i]++FS (l.drop (i+1)))):=by conv=>lhs;rw [e,JQ,FS]
 have b:FS (l.take (i+1))=FS (l.take i)++32::Dd l[i]:=by rw [Bg hi,Ul]
 rw [b,a]
 simp only [A8,Aa]
 omega
theorem Uk (l:List AV) (i:Nat) (hi:i<l.length):(FS (l.take i)).length<=(FS l).length:=by
 have e:l=l.take i++l.drop i:=(Dx i l).symm
 have a:FS l=FS (l.take i)++FS (l.drop i):=by conv=>lhs;rw [e,JQ]
 rw [a,A8];omega
theorem Ui:∀ (ks:List (l8_)) (l:List AV) (i:Nat) (h1:i<ks.length) (h2:i<l.length),IW (ks.take (i+1)) (l.take (i+1))=IW (ks.take i) (l.take i)++32::(Vr ks[i]++32::Dd l[i])
 | k::ks,o::l,0,_,_=>by simp [IW]
 | k::ks,o::l,i+1,h1,h2=>by
  have:=Ui ks l i (by simpa using h1) (by simpa using h2)
  simp only [List.take_succ_cons,IW,Em,this]
  simp
theorem A4T (ks:List (l8_)) (l:List AV) (i:Nat) (h1:i<ks.length) (h2:i<l.length):(IW (ks.take (i+1)) (l.take (i+1))).length<=(IW ks l).length:=by
 have key:∀ (ks:List (l8_)) (l:List AV) (j:Nat),(IW (ks.take j) (l.take j)).length<=(IW ks l).length:=by
  intro ks
  induction ks with
  | nil=>intro l j;simp [IW]
  | cons k ks ih =>
   intro l j
   cases l with
   | nil=>simp [IW]
   | cons o l =>
    cases j with
    | zero=>simp [IW]
    | succ j=>have:=ih l j;simp only [List.take_succ_cons,IW,Aa,A8];omega
 exact key ks l (i+1)
theorem WZ (l:List AV) (i:Nat) (hi:i<l.length):(FS (l.take (i+1))).drop 1=(if i=0 then [] else (FS (l.take i)).drop 1++[32])++Dd l[i]:=by
 rw [Bg hi,Ul]
 cases i with
 | zero=>simp [FS]
 | succ i =>
  rw [A2 oO]
  have:0<(FS (l.take (i+1))).length:=by
   have:=Wj (l.take (i+1))
   rw [At] at this;omega
  rw [List.drop_append_of_le_length oO]
  simp
theorem Tz:∀ (l:List AV) (m:Nat),(∀ o∈l,NG o<=m)->OK l<=m
 | [],m,_=>by simp [OK]
 | o::r,m,h=>by
  have h1:=h o (by simp)
  have h2:=Tz r m λx hx=>h x (by simp [hx])
  rw [OK];omega
theorem A4o  {o:AV} (h:FY D st o):(NG o:Int)<=max D 0:=by
 induction h with
 | arr D st l hD hl h ih =>
  have:=Tz l (D-1).toNat λo ho=>by have:=ih o ho;omega
  rw [NG,A7 (.inl rfl)];omega
 | dict D st k ks l d hk hD hl hkl hn hnd h ih =>
  have:=Tz l (D-1).toNat λo ho=>by have:=ih o ho;omega
  rw [NG];split <;> omega
 | num D st k n hk h=>rw [NG];rcases hk with rfl | rfl <;> simp <;> omega
 | _=>simp [NG];omega
theorem FR (n:Int) (w:World) (h:-9223372036854775808<=n) (h':n<=9223372036854775807):Cb 21 #[Af n] w (.string (bs (EK n))):=Lo n w h h'
theorem Wf:∀ (n:Nat) (o:AV),SizeOf.sizeOf o<n->∀ (x:AC) (S:Nat->Prop) (D:Int) (st:Bool) (w:World),AB w S x o->FY D st o->(Dd o).length<=100000000 ->
  Cb 22 #[.agg (DN x).toArray] w (.string (bs (Dd o))):=by
 intro n
 induction n with
 | zero=>intro o h;omega
 | succ n ih =>
 intro o hn x S D st w hx hS hL
 obtain ⟨keys,list,data,cs,rfl,ok,al,hk,eA,hr,e6,hd,eB,e7,cT⟩:=hx.inv
 obtain ⟨k,i,s,kp,kl,kc,lp,ll,lc,dp,dl,dc⟩:=x
 have e1:=ok.kl;have e2:=ok.ll;have e3:=ok.dl
 have m1:=ok.kc;have m2:=ok.lc;have m3:=ok.dc;have m4:=ok.km;have m5:=ok.lm;have m6:=ok.dm;have m7:=ok.text;have m8:=ok.n
 simp only at e1 e2 e3 m1 m2 m3 m4 m5 m6 m7 m8 hk hr hd e6 hS hL ⊢
 subst e1;subst e2;subst e3
 simp only [AV.mk.sizeOf_spec] at hn
 have C:∀ j (h:j<list.length),SizeOf.sizeOf list[j]<n:=λj h=>by have:=List.sizeOf_lt_of_mem (AA h);omega
 have e8:AH w S cs list:=⟨e7,cT⟩
 simp only [DN]
 obtain ⟨R,hX⟩:=eX (Dd (.mk k i s keys list data))
 rw [<- hX] at hL ⊢
 have ap:k=6\/k=7\/k=9->∀ o∈list,FY (D-1) false o:=λhk=>by
  cases hS with
  | arr _ _ _ hD hl h=>exact h
  | dict _ _ _ _ _ _ hk' hD hl al hn hnd h=>exact h
  | num _ _ _ _ h' _=>rcases h' with rfl | rfl <;> omega
  | null=>omega
  | bool=>omega
  | name=>omega
  | text=>omega
  | ref=>omega
 have bm:k=7\/k=9->keys.length=list.length/\(∀ x∈keys,KL x):=λhk=>by
  cases hS with
  | arr _ _ _ hD hl h=>omega
  | dict _ _ _ _ _ _ hk' hD hl al hn hnd h=>exact ⟨al,hn⟩
  | num _ _ _ _ h' _=>rcases h' with rfl | rfl <;> omega
  | null=>omega
  | bool=>omega
  | name=>omega
  | text=>omega
  | ref=>omega
 have em:k=0\/k=1\/k=2\/k=3\/k=4\/k=5\/k=8\/k=6\/k=7\/k=9:=by
  cases hS with
  | arr _ _ _ hD hl h=>omega
  | dict _ _ _ _ _ _ hk' hD hl al hn hnd h=>rcases hk' with ⟨h,-⟩ | ⟨h,-⟩ <;> omega
  | num _ _ _ _ h' _=>rcases h' with rfl | rfl <;> omega
  | null=>omega
  | bool=>omega
  | name=>omega
  | text=>omega
  | ref=>omega
 have en:s.length<=65535:=by
  cases hS with
  | name _ _ _ h=>have:=h.2.2;omega
  | text _ _ _ h=>exact h
  | _=>simp
 have eo:data.length<=1048576:=by
  cases hS with
  | dict _ _ _ _ _ _ hk' hD hl al hn hnd h=>rcases hk' with ⟨-,rfl⟩ | h;simp;exact h.2.2.1
  | _=>simp
 rw [Dd] at hX
 refine Ar func22 rfl ntmps22 ?_
 have cP:=CN w
 refine A4<|WL.box rfl rfl (λb1 e9 am B ab eq=>?_)
 have cQ:=AH.same (w1:=e9) e8 (λk hk hl=>ab.other k oO)
 have cU:=λb=>am▸hk.lt b
 have ea:=B3.upd hk ab (λb=>CR (cU b))
 have cV:=λb=>am▸hr.lt b
 have cR:=AG.upd hr ab (λb=>CR (cV b))
 have cW:=λb=>am▸hd.lt b
 have eb:=Ce hd ab cW
 have a4:=uB cP am ab
 have ep:=CF am cP.size
 refine A9 rfl<|Ad<|A4<|A1 (.fa Ay rfl Bw dD rfl)<|Ah (Ae (BZ _) rfl B rfl)<|A0<|AO<|A4<|A1 (.eql rfl rfl)<|A9 rfl<|Ai rfl (λaZ=>?_) (λaZ=>?_)
 have cX:=dT aZ
 refine A4<|A9 rfl<|AW ?_
 (rw [A7 aS] at hX;subst hX;exact ⟨rfl,a4⟩)
 have cX:=dF aZ
 refine A4<|A1 (.eql rfl rfl)<|A9 rfl<|Ai rfl (λa'=>?_) (λa'=>?_)
 have cY:=dT a'
 refine Ad<|A4<|A1 (.fa Ay rfl Bw dD rfl)<|Ah (Ae (BZ _) rfl B rfl)<|A1 (.eql rfl rfl)<|A0<|Ai rfl (λb0=>?_) (λb0=>?_)
 have cZ:=dT b0
 refine A4<|A9 rfl<|AW ?_
 (rw [A2 oO,A7 aS,A7 aS] at hX;subst hX;exact ⟨rfl,a4⟩)
 have cZ:=dF b0
 refine Ap<|A4<|A9 rfl<|AW ?_
 (rw [A2 oO,A7 aS,A2 aS] at hX;subst hX;exact ⟨rfl,a4⟩)
 have cY:=dF a'
 refine A4<|A1 (.eql rfl rfl)<|A9 rfl<|Ai rfl (λb2=>?_) (λb2=>?_)
 have c':=dT b2
 refine A4<|A1 (.fa Ay rfl Bw dD rfl)<|Ah (Ae (BZ _) rfl B rfl)<|Ao (FR i _ m8.1 m8.2) (λeC d0=>?_)
 have d1:=Ci a4 d0
 refine A9 rfl<|AW ?_
 (rw [A2 oO,A2 oO,A7 aS] at hX;subst hX;exact ⟨rfl,d1⟩)
 have c':=dF b2
 refine A4<|A1 (.eql rfl rfl)<|A9 rfl<|Ai rfl (λb3=>?_) (λb3=>?_)
 have d2:=dT b3
 refine A4<|A1 (.fa Ay rfl Bw dD rfl)<|Ah (Ae (BZ _) rfl B rfl)<|Ao (Rf i _) (λeD d3=>?_)
 have d4:=Ci a4 d3
 refine A9 rfl<|AW ?_
 (rw [A2 oO,A2 oO,A2 oO,A7 aS] at hX;subst hX;exact ⟨rfl,d4⟩)
 have d2:=dF b3
 refine A4<|A1 (.eql rfl rfl)<|A9 rfl<|Ai rfl (λb4=>?_) (λb4=>?_)
 have d5:=dT b4
 refine A4<|A1 (.fa Ay rfl FH dD rfl)<|Ah (Ae (FX _) rfl B rfl)<|Ao (F8 s _ oO) (λeF d6=>?_)
 have d7:=C6.below a4 d6
 refine A9 rfl<|AW ?_
 (rw [A2 oO,A2 oO,A2 oO,A2 oO,A7 aS] at hX;subst hX;exact ⟨rfl,d7⟩)
 have d5:=dF b4
 refine A4<|A1 (.eql rfl rfl)<|A9 rfl<|Ai rfl (λb5=>?_) (λb5=>?_)
 have d8:=dT b5
 refine A4<|A1 (.fa Ay rfl FH dD rfl)<|Ah (Ae (FX _) rfl B rfl)<|Ao (YQ s _ oO) (λeG d9=>?_)
 have da:=Ci a4 d9
 refine A9 rfl<|AW ?_
 (rw [A2 oO,A2 oO,A2 oO,A2 oO,A2 oO,A7 aS] at hX;subst hX;exact ⟨rfl,da⟩)
 have d8:=dF b5
 refine A4<|A1 (.eql rfl rfl)<|A9 rfl<|Ai rfl (λb6=>?_) (λb6=>?_)
 have db:=dT b6
 refine A4<|A1 (.fa Ay rfl Bw dD rfl)<|Ah (Ae (BZ _) rfl B rfl)<|Ao (FR i _ m8.1 m8.2) (λeH dd=>?_)
 have de:=Ci a4 dd
 refine A1 (.cat rfl rfl (by have:=KZ i m8.1 m8.2;simp only [Aa,Ak];omega))<|A9 rfl<|AW ?_
 (rw [A2 oO,A2 oO,A2 oO,A2 oO,A2 oO,A2 oO,A7 aS] at hX;subst hX;exact ⟨rfl,de⟩)
 have db:=dF b6
 refine A4<|A1 (.eql rfl rfl)<|A9 rfl<|Ai rfl (λb7=>?_) (λb7=>?_)
 have df:=dT b7
 rw [A2 oO,A2 oO,A2 oO,A2 oO,A2 oO,A2 oO,A2 oO,A7 aS] at hX
 have g:=ap oO
 have b8:R.length=1+((FS list).drop 1).length+1:=by rw [hX];simp;omega
 refine A4<|A9 rfl<|Ad<|A4<|A9 rfl<|AO<|BM (α:=Nat) (λt=>[(1,ptV b1),(3,.string (bs (91::(FS (list.take t)).drop 1))),(4,Af (t:Int))]) (λt w'=>AL w w'/\B0 w' b1 #[Af k,Af i,.string (bs s),.slice kp keys.length kc,.slice lp cs.length lc,.slice dp data.length dc] 27/\AG EN w' lp cs/\AH w' S cs list/\t<=cs.length) (λt=>cs.length-t) (0) ⟨rfl,rfl,rfl,tT⟩ (⟨a4,B,cR,cQ,FI _⟩) (λt w1 hR=>?_)
 obtain ⟨a,rfl⟩:=eX t
 obtain ⟨ac,a5,u,ad,ht⟩:=hR
 refine Ad<|A4<|A3 rfl<|A1 (.fa Ay rfl Cr dD rfl)<|Ah (Ae (Dv _) rfl a5 rfl)<|A1 (.lenS C2 rfl)<|A1 (.lss rfl rfl)<|A0<|Ai rfl (λb9=>?_) (λb9=>?_)
 have dg:=dT b9
 refine Ap<|Ad<|AO<|Ad<|Ad ?_
 have eI:=A4U list a oO
 have er:=Uk list a oO
 have cS:=WZ list a oO
 refine Am<|A3 rfl<|A1 (.gtr rfl rfl)<|A0<|Ai rfl (λba=>?_) (λba=>?_)
 have dh:=dT ba
 refine Am<|A3 rfl<|A1 (.cat rfl rfl oL)<|A9 rfl<|Am<|A3 rfl<|A1 (.fa Ay rfl Cr dD rfl)<|Ah (Ae (Dv _) rfl a5 rfl)<|A3 rfl<|A1 (.ixm C2 CU rfl rfl (u.isp oO) (a) (rfl) oO)<|Ah (Dz Ay rfl Al u (a) oO rfl)<|Cm BK rfl rfl ((ih (list[a]'oO) (C a oO) _ S (D-1) false _ ((ad).sub a oO oO) (g _ (AA _)) (by simp only [Au] at b8;omega))) (λec ae=>?_)
 have di:=AH.same (w1:=ec) ad (λk hk hl=>ae.block k hl)
 have dj:=a5.bl ae
 have dk:=DW u ae (λb=>u.lt b)
 have dn:=Ci ac ae
 refine A1 (.cat rfl rfl oL)<|A9 rfl<|Am<|A3 rfl<|A1 (.iis (((a+1:Nat):Int)) (.add rfl rfl (Ba oO)) oO)<|A9 rfl ?_
 exact ⟨a+1,⟨rfl,Km rfl (by rw [cS,A2 oO];simp),rfl,tT⟩,⟨dn,dj,dk,di,oM⟩,oM⟩
 have dh:=dF ba
 refine Ap<|Am<|A3 rfl<|A1 (.fa Ay rfl Cr dD rfl)<|Ah (Ae (Dv _) rfl a5 rfl)<|A3 rfl<|A1 (.ixm C2 CU rfl rfl (u.isp oO) (a) (rfl) oO)<|Ah (Dz Ay rfl Al u (a) oO rfl)<|Cm BK rfl rfl ((ih (list[a]'oO) (C a oO) _ S (D-1) false _ ((ad).sub a oO oO) (g _ (AA _)) (by simp only [Au] at b8;omega))) (λed af=>?_)
 have dq:=AH.same (w1:=ed) ad (λk hk hl=>af.block k hl)
 have dr:=a5.bl af
 have ds:=DW u af (λb=>u.lt b)
 have dt:=Ci ac af
 refine A1 (.cat rfl rfl oL)<|A9 rfl<|Am<|A3 rfl<|A1 (.iis (((a+1:Nat):Int)) (.add rfl rfl (Ba oO)) oO)<|A9 rfl ?_
 exact ⟨a+1,⟨rfl,Km rfl (by (obtain rfl:a=0:=oO);rw [cS,A7 rfl];simp [FS]),rfl,tT⟩,⟨dt,dr,ds,dq,oM⟩,oM⟩
 have dg:=dF b9
 refine BF<|Ad ?_
 have bb:list.take a=list:=An oO
 rw [bb]
 refine Am<|A3 rfl<|A1 (.cat rfl rfl oL)<|A9 rfl<|AW ?_
 exact ⟨AU (by rw [hX];rfl),ac⟩
 have df:=dF b7
 rw [A2 oO,A2 oO,A2 oO,A2 oO,A2 oO,A2 oO,A2 oO,A2 aS] at hX
 have du:k=7\/k=9:=by omega
 have g:=ap oO
 have ee:=bm du
 have b8:2+(IW keys list).length<=R.length:=by rw [hX];simp;omega
 refine Ap<|A4<|A9 rfl<|Ad<|A4<|A9 rfl<|AO<|BM (α:=Nat) (λt=>[(1,ptV b1),(5,.string (bs (60::60::IW (keys.take t) (list.take t)))),(6,Af (t:Int))]) (λt w'=>AL w w'/\B0 w' b1 #[Af k,Af i,.string (bs s),.slice kp keys.length kc,.slice lp cs.length lc,.slice dp data.length dc] 27/\B3 G7 w' kp keys/\AG EN w' lp cs/\Ag w' dp data/\AH w' S cs list/\t<=cs.length) (λt=>cs.length-t) (0) ⟨rfl,rfl,rfl,tT⟩ (⟨a4,B,ea,cR,eb,cQ,FI _⟩) (λt w1 hR=>?_)
 obtain ⟨a,rfl⟩:=eX t
 obtain ⟨ac,a5,dv,u,bc,ad,ht⟩:=hR
 have eJ:keys.length=cs.length:=by omega
 refine Ad<|A4<|A3 rfl<|A1 (.fa Ay rfl DU dD rfl)<|Ah (Ae (Fg _) rfl a5 rfl)<|A1 (.lenS Dy rfl)<|A1 (.lss rfl rfl)<|A0<|Ai rfl (λbd=>?_) (λbd=>?_)
 have dw:=dT bd
 refine Ap<|Ad<|AO ?_
 have E:=Ui keys list a oO oO
 have es:=A4T keys list a oO oO
 have ef:=BJ List.length E
 simp only [A8,Aa] at ef
 have eg:=(ee.2 _ (AA (show a<keys.length by omega))).2.2
 refine Fe 18 rfl BR (λeh a6=>?_)
 have v:=AH.same (w1:=eh) ad (λk hk hl=>(by obtain ⟨m,rfl⟩:=a6;rfl))
 have f:=a5.drew a6
 have c:=dv.drew a6
 have d:=u.drew a6
 have y:=bc.drew a6
 have A:=C6.below ac a6
 refine AI 0 rfl (.mv rfl) rfl<|AI 1 rfl (.cat rfl rfl oL) rfl<|AI 2 rfl (.fa Ay rfl DU dD rfl) rfl<|AI 4 rfl (.mv rfl) rfl<|AI 10 rfl (.fa Ay rfl Cr dD rfl) rfl<|AI 12 rfl (.mv rfl) rfl<|CG 3 rfl 11 rfl ?_ ?_
 refine Ah (Ae (Fg _) rfl f rfl)<|A0<|AI 5 rfl (.ixb Dy FH rfl rfl (c.isp oO) (a) (rfl) oO) rfl<|CG 6 rfl 11 rfl ?_ ?_
 refine Ah (Bq (FX _) rfl (c.cells (a) oO))<|A0<|CG 7 rfl 11 rfl ?_ ?_
 refine Ao (F8 (keys[a]'oO) _ oO) (λei a7=>?_)
 have be:=AH.same (w1:=ei) v (λk hk hl=>(by obtain ⟨m,rfl⟩:=a7;rfl))
 have bf:=f.drew a7
 have bg:=c.drew a7
 have ag:=d.drew a7
 have bh:=y.drew a7
 have dx:=C6.below A a7
 refine A0<|AI 8 rfl (.cat rfl rfl oL) rfl<|AI 9 rfl (.cat rfl rfl oL) rfl<|Av 11 rfl<|Ah (Ae (Dv _) rfl bf rfl)<|A0<|AI 13 rfl (.ixm C2 CU rfl rfl (ag.isp oO) (a) (rfl) oO) rfl<|Av 14 rfl<|Ah (Dz Ay rfl Al ag (a) oO rfl)<|A0<|Av 15 rfl<|Cm BK rfl rfl ((ih (list[a]'oO) (C a oO) _ S (D-1) false _ ((be).sub a oO oO) (g _ (AA _)) oO)) (λej a8=>?_)
 have dy:=AH.same (w1:=ej) be (λk hk hl=>a8.block k hl)
 have dz:=bf.bl a8
 have dA:=B3.below bg a8 (λb=>bg.lt b)
 have dB:=DW ag a8 (λb=>ag.lt b)
 have dC:=DL bh a8 (λb=>bh.lt b)
 have dE:=Ci dx a8
 refine A0<|AI 16 rfl (.cat rfl rfl oL) rfl<|AI 17 rfl (.as rfl) rfl<|Bn kR<|Am<|A3 rfl<|A1 (.iis (((a+1:Nat):Int)) (.add rfl rfl (Ba oO)) oO)<|A9 rfl ?_
 exact ⟨a+1,⟨rfl,Km rfl (by rw [E];simp),rfl,tT⟩,⟨dE,dz,dA,dB,dC,dy,oM⟩,oM⟩
 refine Ah (Ae (Dv _) rfl f rfl)<|A0<|AI 13 rfl (.ixm C2 CU rfl rfl (d.isp oO) (a) (rfl) oO) rfl<|CG 7 rfl 14 rfl ?_ ?_
 refine Ao (F8 (keys[a]'oO) _ oO) (λek a9=>?_)
 have bi:=AH.same (w1:=ek) v (λk hk hl=>(by obtain ⟨m,rfl⟩:=a9;rfl))
 have dG:=f.drew a9
 have bj:=c.drew a9
 have an:=d.drew a9
 have bk:=y.drew a9
 have dH:=C6.below A a9
 refine A0<|AI 8 rfl (.cat rfl rfl oL) rfl<|AI 9 rfl (.cat rfl rfl oL) rfl<|Av 14 rfl<|Ah (Dz Ay rfl Al an (a) oO rfl)<|A0<|Av 15 rfl<|Cm BK rfl rfl ((ih (list[a]'oO) (C a oO) _ S (D-1) false _ ((bi).sub a oO oO) (g _ (AA _)) oO)) (λel aa=>?_)
 have dI:=AH.same (w1:=el) bi (λk hk hl=>aa.block k hl)
 have dJ:=dG.bl aa
 have dK:=B3.below bj aa (λb=>bj.lt b)
 have dL:=DW an aa (λb=>an.lt b)
 have bn:=DL bk aa (λb=>bk.lt b)
 have bo:=Ci dH aa
 refine A0<|AI 16 rfl (.cat rfl rfl oL) rfl<|AI 17 rfl (.as rfl) rfl<|Bn kR<|Am<|A3 rfl<|A1 (.iis (((a+1:Nat):Int)) (.add rfl rfl (Ba oO)) oO)<|A9 rfl ?_
 exact ⟨a+1,⟨rfl,Km rfl (by rw [E];simp),rfl,tT⟩,⟨bo,dJ,dK,dL,bn,dI,oM⟩,oM⟩
 refine Ah (Dz Ay rfl Al d (a) oO rfl)<|A0<|Av 7 rfl<|Ao (F8 (keys[a]'oO) _ oO) (λdM F=>?_)
 have aq:=AH.same (w1:=dM) v (λk hk hl=>(by obtain ⟨m,rfl⟩:=F;rfl))
 have bp:=f.drew F
 have ar:=c.drew F
 have au:=d.drew F
 have av:=y.drew F
 have bq:=C6.below A F
 refine A0<|AI 8 rfl (.cat rfl rfl oL) rfl<|AI 9 rfl (.cat rfl rfl oL) rfl<|Av 15 rfl<|Cm BK rfl rfl ((ih (list[a]'oO) (C a oO) _ S (D-1) false _ ((aq).sub a oO oO) (g _ (AA _)) oO)) (λdN G=>?_)
 have bt:=AH.same (w1:=dN) aq (λk hk hl=>G.block k hl)
 have bu:=bp.bl G
 have bv:=B3.below ar G (λb=>ar.lt b)
 have bw:=DW au G (λb=>au.lt b)
 have bz:=DL av G (λb=>av.lt b)
 have bA:=Ci bq G
 refine A0<|AI 16 rfl (.cat rfl rfl oL) rfl<|AI 17 rfl (.as rfl) rfl<|Bn kR<|Am<|A3 rfl<|A1 (.iis (((a+1:Nat):Int)) (.add rfl rfl (Ba oO)) oO)<|A9 rfl ?_
 exact ⟨a+1,⟨rfl,Km rfl (by rw [E];simp),rfl,tT⟩,⟨bA,bu,bv,bw,bz,bt,oM⟩,oM⟩
 refine Ah (Ae (Dv _) rfl f rfl)<|A0<|AI 13 rfl (.ixm C2 CU rfl rfl (d.isp oO) (a) (rfl) oO) rfl<|CG 6 rfl 14 rfl ?_ ?_
 refine Ah (Bq (FX _) rfl (c.cells (a) oO))<|A0<|CG 7 rfl 14 rfl ?_ ?_
 refine Ao (F8 (keys[a]'oO) _ oO) (λdO H=>?_)
 have aw:=AH.same (w1:=dO) v (λk hk hl=>(by obtain ⟨m,rfl⟩:=H;rfl))
 have bB:=f.drew H
 have ax:=c.drew H
 have ah:=d.drew H
 have ay:=y.drew H
 have bC:=C6.below A H
 refine A0<|AI 8 rfl (.cat rfl rfl oL) rfl<|AI 9 rfl (.cat rfl rfl oL) rfl<|Av 14 rfl<|Ah (Dz Ay rfl Al ah (a) oO rfl)<|A0<|Av 15 rfl<|Cm BK rfl rfl ((ih (list[a]'oO) (C a oO) _ S (D-1) false _ ((aw).sub a oO oO) (g _ (AA _)) oO)) (λdP J=>?_)
 have bD:=AH.same (w1:=dP) aw (λk hk hl=>J.block k hl)
 have bE:=bB.bl J
 have bG:=B3.below ax J (λb=>ax.lt b)
 have bH:=DW ah J (λb=>ah.lt b)
 have bI:=DL ay J (λb=>ay.lt b)
 have bJ:=Ci bC J
 refine A0<|AI 16 rfl (.cat rfl rfl oL) rfl<|AI 17 rfl (.as rfl) rfl<|Bn kR<|Am<|A3 rfl<|A1 (.iis (((a+1:Nat):Int)) (.add rfl rfl (Ba oO)) oO)<|A9 rfl ?_
 exact ⟨a+1,⟨rfl,Km rfl (by rw [E];simp),rfl,tT⟩,⟨bJ,bE,bG,bH,bI,bD,oM⟩,oM⟩
 refine Ah (Dz Ay rfl Al d (a) oO rfl)<|A0<|Av 7 rfl<|Ao (F8 (keys[a]'oO) _ oO) (λdQ K=>?_)
 have az:=AH.same (w1:=dQ) v (λk hk hl=>(by obtain ⟨m,rfl⟩:=K;rfl))
 have bK:=f.drew K
 have aA:=c.drew K
 have aB:=d.drew K
 have aC:=y.drew K
 have bL:=C6.below A K
 refine A0<|AI 8 rfl (.cat rfl rfl oL) rfl<|AI 9 rfl (.cat rfl rfl oL) rfl<|Av 15 rfl<|Cm BK rfl rfl ((ih (list[a]'oO) (C a oO) _ S (D-1) false _ ((az).sub a oO oO) (g _ (AA _)) oO)) (λdR L=>?_)
 have bM:=AH.same (w1:=dR) az (λk hk hl=>L.block k hl)
 have bN:=bK.bl L
 have bO:=B3.below aA L (λb=>aA.lt b)
 have bP:=DW aB L (λb=>aB.lt b)
 have bQ:=DL aC L (λb=>aC.lt b)
 have bR:=Ci bL L
 refine A0<|AI 16 rfl (.cat rfl rfl oL) rfl<|AI 17 rfl (.as rfl) rfl<|Bn kR<|Am<|A3 rfl<|A1 (.iis (((a+1:Nat):Int)) (.add rfl rfl (Ba oO)) oO)<|A9 rfl ?_
 exact ⟨a+1,⟨rfl,Km rfl (by rw [E];simp),rfl,tT⟩,⟨bR,bN,bO,bP,bQ,bM,oM⟩,oM⟩
 refine Ah (Dz Ay rfl Al d (a) oO rfl)<|A0<|Av 6 rfl<|Ah (Bq (FX _) rfl (c.cells (a) oO))<|A0<|Av 7 rfl<|Ao (F8 (keys[a]'oO) _ oO) (λdS N=>?_)
 have aD:=AH.same (w1:=dS) v (λk hk hl=>(by obtain ⟨m,rfl⟩:=N;rfl))
 have bS:=f.drew N
 have aE:=c.drew N
 have aF:=d.drew N
 have aG:=y.drew N
 have bT:=C6.below A N
 refine A0<|AI 8 rfl (.cat rfl rfl oL) rfl<|AI 9 rfl (.cat rfl rfl oL) rfl<|Av 15 rfl<|Cm BK rfl rfl ((ih (list[a]'oO) (C a oO) _ S (D-1) false _ ((aD).sub a oO oO) (g _ (AA _)) oO)) (λdU P=>?_)
 have bU:=AH.same (w1:=dU) aD (λk hk hl=>P.block k hl)
 have bV:=bS.bl P
 have bW:=B3.below aE P (λb=>aE.lt b)
 have bX:=DW aF P (λb=>aF.lt b)
 have bY:=DL aG P (λb=>aG.lt b)
 have bZ:=Ci bT P
 refine A0<|AI 16 rfl (.cat rfl rfl oL) rfl<|AI 17 rfl (.as rfl) rfl<|Bn kR<|Am<|A3 rfl<|A1 (.iis (((a+1:Nat):Int)) (.add rfl rfl (Ba oO)) oO)<|A9 rfl ?_
 exact ⟨a+1,⟨rfl,Km rfl (by rw [E];simp),rfl,tT⟩,⟨bZ,bV,bW,bX,bY,bU,oM⟩,oM⟩
 refine Ah (Ae (Dv _) rfl f rfl)<|A0<|AI 13 rfl (.ixm C2 CU rfl rfl (d.isp oO) (a) (rfl) oO) rfl<|CG 3 rfl 14 rfl ?_ ?_
 refine Ah (Ae (Fg _) rfl f rfl)<|A0<|AI 5 rfl (.ixb Dy FH rfl rfl (c.isp oO) (a) (rfl) oO) rfl<|CG 6 rfl 14 rfl ?_ ?_
 refine Ah (Bq (FX _) rfl (c.cells (a) oO))<|A0<|CG 7 rfl 14 rfl ?_ ?_
 refine Ao (F8 (keys[a]'oO) _ oO) (λdV Q=>?_)
 have aH:=AH.same (w1:=dV) v (λk hk hl=>(by obtain ⟨m,rfl⟩:=Q;rfl))
 have b':=f.drew Q
 have aI:=c.drew Q
 have ai:=d.drew Q
 have aJ:=y.drew Q
 have c0:=C6.below A Q
 refine A0<|AI 8 rfl (.cat rfl rfl oL) rfl<|AI 9 rfl (.cat rfl rfl oL) rfl<|Av 14 rfl<|Ah (Dz Ay rfl Al ai (a) oO rfl)<|A0<|Av 15 rfl<|Cm BK rfl rfl ((ih (list[a]'oO) (C a oO) _ S (D-1) false _ ((aH).sub a oO oO) (g _ (AA _)) oO)) (λdW T=>?_)
 have c2:=AH.same (w1:=dW) aH (λk hk hl=>T.block k hl)
 have c3:=b'.bl T
 have c4:=B3.below aI T (λb=>aI.lt b)
 have c5:=DW ai T (λb=>ai.lt b)
 have c6:=DL aJ T (λb=>aJ.lt b)
 have c7:=Ci c0 T
 refine A0<|AI 16 rfl (.cat rfl rfl oL) rfl<|AI 17 rfl (.as rfl) rfl<|Bn kR<|Am<|A3 rfl<|A1 (.iis (((a+1:Nat):Int)) (.add rfl rfl (Ba oO)) oO)<|A9 rfl ?_
 exact ⟨a+1,⟨rfl,Km rfl (by rw [E];simp),rfl,tT⟩,⟨c7,c3,c4,c5,c6,c2,oM⟩,oM⟩
 refine Ah (Dz Ay rfl Al d (a) oO rfl)<|A0<|Av 7 rfl<|Ao (F8 (keys[a]'oO) _ oO) (λdX U=>?_)
 have aK:=AH.same (w1:=dX) v (λk hk hl=>(by obtain ⟨m,rfl⟩:=U;rfl))
 have c8:=f.drew U
 have aL:=c.drew U
 have aM:=d.drew U
 have aN:=y.drew U
 have c9:=C6.below A U
 refine A0<|AI 8 rfl (.cat rfl rfl oL) rfl<|AI 9 rfl (.cat rfl rfl oL) rfl<|Av 15 rfl<|Cm BK rfl rfl ((ih (list[a]'oO) (C a oO) _ S (D-1) false _ ((aK).sub a oO oO) (g _ (AA _)) oO)) (λdY V=>?_)
 have ca:=AH.same (w1:=dY) aK (λk hk hl=>V.block k hl)
 have cb:=c8.bl V
 have cc:=B3.below aL V (λb=>aL.lt b)
 have cd:=DW aM V (λb=>aM.lt b)
 have cf:=DL aN V (λb=>aN.lt b)
 have cg:=Ci c9 V
 refine A0<|AI 16 rfl (.cat rfl rfl oL) rfl<|AI 17 rfl (.as rfl) rfl<|Bn kR<|Am<|A3 rfl<|A1 (.iis (((a+1:Nat):Int)) (.add rfl rfl (Ba oO)) oO)<|A9 rfl ?_
 exact ⟨a+1,⟨rfl,Km rfl (by rw [E];simp),rfl,tT⟩,⟨cg,cb,cc,cd,cf,ca,oM⟩,oM⟩
 refine Ah (Dz Ay rfl Al d (a) oO rfl)<|A0<|Av 6 rfl<|Ah (Bq (FX _) rfl (c.cells (a) oO))<|A0<|Av 7 rfl<|Ao (F8 (keys[a]'oO) _ oO) (λdZ X=>?_)
 have aO:=AH.same (w1:=dZ) v (λk hk hl=>(by obtain ⟨m,rfl⟩:=X;rfl))
 have ci:=f.drew X
 have aP:=c.drew X
 have aQ:=d.drew X
 have aR:=y.drew X
 have cj:=C6.below A X
 refine A0<|AI 8 rfl (.cat rfl rfl oL) rfl<|AI 9 rfl (.cat rfl rfl oL) rfl<|Av 15 rfl<|Cm BK rfl rfl ((ih (list[a]'oO) (C a oO) _ S (D-1) false _ ((aO).sub a oO oO) (g _ (AA _)) oO)) (λd' Y=>?_)
 have ck:=AH.same (w1:=d') aO (λk hk hl=>Y.block k hl)
 have cl:=ci.bl Y
 have cm:=B3.below aP Y (λb=>aP.lt b)
 have cn:=DW aQ Y (λb=>aQ.lt b)
 have co:=DL aR Y (λb=>aR.lt b)
 have cq:=Ci cj Y
 refine A0<|AI 16 rfl (.cat rfl rfl oL) rfl<|AI 17 rfl (.as rfl) rfl<|Bn kR<|Am<|A3 rfl<|A1 (.iis (((a+1:Nat):Int)) (.add rfl rfl (Ba oO)) oO)<|A9 rfl ?_
 exact ⟨a+1,⟨rfl,Km rfl (by rw [E];simp),rfl,tT⟩,⟨cq,cl,cm,cn,co,ck,oM⟩,oM⟩
 refine Ah (Dz Ay rfl Al d (a) oO rfl)<|A0<|Av 3 rfl<|Ah (Ae (Fg _) rfl f rfl)<|A0<|AI 5 rfl (.ixb Dy FH rfl rfl (c.isp oO) (a) (rfl) oO) rfl<|Av 6 rfl<|Ah (Bq (FX _) rfl (c.cells (a) oO))<|A0<|Av 7 rfl<|Ao (F8 (keys[a]'oO) _ oO) (λe0 a0=>?_)
 have aT:=AH.same (w1:=e0) v (λk hk hl=>(by obtain ⟨m,rfl⟩:=a0;rfl))
 have cr:=f.drew a0
 have aU:=c.drew a0
 have aV:=d.drew a0
 have aW:=y.drew a0
 have ct:=C6.below A a0
 refine A0<|AI 8 rfl (.cat rfl rfl oL) rfl<|AI 9 rfl (.cat rfl rfl oL) rfl<|Av 15 rfl<|Cm BK rfl rfl ((ih (list[a]'oO) (C a oO) _ S (D-1) false _ ((aT).sub a oO oO) (g _ (AA _)) oO)) (λe4 a1=>?_)
 have cu:=AH.same (w1:=e4) aT (λk hk hl=>a1.block k hl)
 have cv:=cr.bl a1
 have cw:=B3.below aU a1 (λb=>aU.lt b)
 have cy:=DW aV a1 (λb=>aV.lt b)
 have cz:=DL aW a1 (λb=>aW.lt b)
 have cA:=Ci ct a1
 refine A0<|AI 16 rfl (.cat rfl rfl oL) rfl<|AI 17 rfl (.as rfl) rfl<|Bn kR<|Am<|A3 rfl<|A1 (.iis (((a+1:Nat):Int)) (.add rfl rfl (Ba oO)) oO)<|A9 rfl ?_
 exact ⟨a+1,⟨rfl,Km rfl (by rw [E];simp),rfl,tT⟩,⟨cA,cv,cw,cy,cz,cu,oM⟩,oM⟩
 have dw:=dF bd
 refine BF<|Ad<|Ad ?_
 have bb:list.take a=list:=An oO
 have e5:keys.take a=keys:=An oO
 rw [bb,e5]
 refine Am<|A1 (.fa Ay rfl Bw dD rfl)<|Ah (Ae (BZ _) rfl a5 rfl)<|A1 (.eql rfl rfl)<|A0<|Ai rfl (λao=>?_) (λao=>?_)
 have cB:=dT ao
 refine A4<|A3 rfl<|A1 (.cat rfl rfl oL)<|A9 rfl<|AW ?_
 (rw [A7 aS] at hX;subst hX;exact ⟨rfl,ac⟩)
 have cB:=dF ao
 refine Ap<|Ad ?_
 have eK:=KZ (data.length:Int) oO oO
 refine Fe 14 rfl BR (λet aj=>?_)
 have a2:=a5.drew aj
 have q:=bc.drew aj
 have a3:=C6.below ac aj
 refine AI 0 rfl (.mv rfl) rfl<|AI 1 rfl (.cat rfl rfl oL) rfl<|AI 2 rfl (.fa Ay rfl D8 dD rfl) rfl<|AI 8 rfl (.fa Ay rfl D8 dD rfl) rfl<|CG 3 rfl 9 rfl ?_ ?_
 refine Ah (Ae (g22_ _) rfl a2 rfl)<|A0<|AI 4 rfl (.lenS B1 rfl) rfl<|CG 5 rfl 9 rfl ?_ ?_
 refine Cm BK rfl rfl ((FR _ _ oO oO)) (λeu ak=>?_)
 have cC:=a2.bl ak
 have cD:=DL q ak (λb=>q.lt b)
 have cE:=Ci a3 ak
 refine A0<|AI 6 rfl (.cat rfl rfl oL) rfl<|AI 7 rfl (.cat rfl rfl oL) rfl<|Av 9 rfl<|Ah (Ae (g22_ _) rfl cC rfl)<|A0<|Av 10 rfl<|Ah (Fm (l:=data) B1 FK Gk rfl (cD))<|A0<|AI 11 rfl (.cat rfl rfl oL) rfl<|AI 12 rfl (.cat rfl rfl oL) rfl<|AI 13 rfl (.as rfl) rfl<|Bn kR<|AW ?_
 exact ⟨AU (by rw [hX,A2 aS];simp [Gq]),cE⟩
 refine Ah (Ae (g22_ _) rfl a2 rfl)<|A0<|CG 5 rfl 10 rfl ?_ ?_
 refine Cm BK rfl rfl ((FR _ _ oO oO)) (λev aX=>?_)
 have cF:=DL q aX (λb=>q.lt b)
 have cG:=Ci a3 aX
 refine A0<|AI 6 rfl (.cat rfl rfl oL) rfl<|AI 7 rfl (.cat rfl rfl oL) rfl<|Av 10 rfl<|Ah (Fm (l:=data) B1 FK Gk rfl (cF))<|A0<|AI 11 rfl (.cat rfl rfl oL) rfl<|AI 12 rfl (.cat rfl rfl oL) rfl<|AI 13 rfl (.as rfl) rfl<|Bn kR<|AW ?_
 exact ⟨AU (by rw [hX,A2 aS];simp [Gq]),cG⟩
 refine Ah (Fm (l:=data) B1 FK Gk rfl (q))<|A0<|Av 5 rfl<|Cm BK rfl rfl ((FR _ _ oO oO)) (λew cH=>?_)
 have cI:=Ci a3 cH
 refine A0<|AI 6 rfl (.cat rfl rfl oL) rfl<|AI 7 rfl (.cat rfl rfl oL) rfl<|AI 11 rfl (.cat rfl rfl oL) rfl<|AI 12 rfl (.cat rfl rfl oL) rfl<|AI 13 rfl (.as rfl) rfl<|Bn kR<|AW ?_
 exact ⟨AU (by rw [hX,A2 aS];simp [Gq]),cI⟩
 refine Ah (Ae (g22_ _) rfl a2 rfl)<|A0<|CG 3 rfl 10 rfl ?_ ?_
 refine Ah (Ae (g22_ _) rfl a2 rfl)<|A0<|AI 4 rfl (.lenS B1 rfl) rfl<|CG 5 rfl 10 rfl ?_ ?_
 refine Cm BK rfl rfl ((FR _ _ oO oO)) (λex aY=>?_)
 have cJ:=DL q aY (λb=>q.lt b)
 have cK:=Ci a3 aY
 refine A0<|AI 6 rfl (.cat rfl rfl oL) rfl<|AI 7 rfl (.cat rfl rfl oL) rfl<|Av 10 rfl<|Ah (Fm (l:=data) B1 FK Gk rfl (cJ))<|A0<|AI 11 rfl (.cat rfl rfl oL) rfl<|AI 12 rfl (.cat rfl rfl oL) rfl<|AI 13 rfl (.as rfl) rfl<|Bn kR<|AW ?_
 exact ⟨AU (by rw [hX,A2 aS];simp [Gq]),cK⟩
 refine Ah (Fm (l:=data) B1 FK Gk rfl (q))<|A0<|Av 5 rfl<|Cm BK rfl rfl ((FR _ _ oO oO)) (λey cL=>?_)
 have cM:=Ci a3 cL
 refine A0<|AI 6 rfl (.cat rfl rfl oL) rfl<|AI 7 rfl (.cat rfl rfl oL) rfl<|AI 11 rfl (.cat rfl rfl oL) rfl<|AI 12 rfl (.cat rfl rfl oL) rfl<|AI 13 rfl (.as rfl) rfl<|Bn kR<|AW ?_
 exact ⟨AU (by rw [hX,A2 aS];simp [Gq]),cM⟩
 refine Ah (Fm (l:=data) B1 FK Gk rfl (q))<|A0<|Av 3 rfl<|Ah (Ae (g22_ _) rfl a2 rfl)<|A0<|AI 4 rfl (.lenS B1 rfl) rfl<|Av 5 rfl<|Cm BK rfl rfl ((FR _ _ oO oO)) (λez cN=>?_)
 have cO:=Ci a3 cN
 refine A0<|AI 6 rfl (.cat rfl rfl oL) rfl<|AI 7 rfl (.cat rfl rfl oL) rfl<|AI 11 rfl (.cat rfl rfl oL) rfl<|AI 12 rfl (.cat rfl rfl oL) rfl<|AI 13 rfl (.as rfl) rfl<|Bn kR<|AW ?_
 exact ⟨AU (by rw [hX,A2 aS];simp [Gq]),cO⟩
end
section
theorem A38  {a:Nat} {d:Int} {t:Nat} (ha:a<=l.length) (hs:B4 false l a=t) (ht:t<l.length):Uv l a d=match ES true l d.toNat t with | .ok (o,t')=>(o,(t':Int),0) | .error k=>(Jm 0 0 [],0,k):=by
 unfold Uv
 rw [A2 oO,show (a:Int).toNat=a from rfl,hs,A7 ht]
 all_goals (cases ES true l d.toNat t <;> rfl)
end
section
def sx (l r:l8_):Nat:=l.length-r.length
theorem GD (l r:l8_):sx l r<=l.length:=Nat.sub_le _ _
theorem EE  {r:l8_} (h:r <:+ l):l.drop (sx l r)=r:=by
 obtain ⟨a,rfl⟩:=h
 unfold sx
 rw [A8,Gi,List.drop_left]
theorem DT  {r:l8_} (h:(A++r) <:+ l):r <:+ l:=(List.suffix_append A r).trans h
theorem Ek  {r:l8_} {c:UInt8} (h:(c::r) <:+ l):r <:+ l:=(List.suffix_cons c r).trans h
theorem NL  {r:l8_} (h:(A++r) <:+ l):sx l (A++r)+A.length=sx l r:=by
 have:=h.length_le
 unfold sx;simp only [A8] at this ⊢;omega
theorem I3  {r:l8_} (h:r <:+ l):sx l r+r.length=l.length:=by
 have:=h.length_le
 unfold sx;omega
theorem TQ (n:Nat) (hn:n<10000000000):FC (B7 n)=true:=by
 have d:=DB 9 n oO
 have a:=Od n
 have b:(B7 n).all BW=true:=AN.2 λc hc=>by
  have:=IA n c hc
  unfold BW
  simp [this.1,this.2]
 unfold FC
 simp [a,b];omega
section
variable {br:Nat} {p:Option Addr} {l:l8_} {c:Nat} {w:World}
theorem Jr (B s r:l8_) (h:B0 w br (Jl p l c (sx l (B++(s++r)))) 78) (hb:Ag w p l) (hc:l.length<=c) (hl:l.length<=100000000) (hpb:0<l.length->(pA p).block≠br)
  (hs:(B++(s++r)) <:+ l) (hB:∀ c∈B,CV c=true) (hs0:s≠[]) (hreg:∀ c∈s,Da c=true) (hr:P3 r) :
  Calls Tryz.prog 52 #[ptV br,.string (bs s)] w λe w'=>e=.returned (.tuple #[])/\AR w.heap.size [br] w w'/\B0 w' br (Jl p l c (sx l r)) 78:=by
 obtain ⟨a,b,-,-⟩:=Qa (EE hs) hB hs0 hreg hr
 have:=A2Y br p l c (sx l _) s w h hb hc hl (GD _ _) hpb a
 rw [b] at this;exact this
theorem MB (n:Nat) (hn:n<10000000000) (B r:l8_) (h:B0 w br (Jl p l c (sx l (B++(B7 n++r)))) 78) (hb:Ag w p l) (hc:l.length<=c) (hl:l.length<=100000000) (hpb:0<l.length->(pA p).block≠br)
  (hs:(B++(B7 n++r)) <:+ l) (hB:∀ c∈B,CV c=true) (hr:P3 r) :
  Calls Tryz.prog 75 #[ptV br] w λe w'=>e=.returned (Af (n:Int))/\AR w.heap.size [br] w w'/\B0 w' br (Jl p l c (sx l r)) 78:=by
 obtain ⟨a,b,-,-⟩:=Qa (EE hs) hB (Od n) (Oc n) hr
 have:=YJ br p l c (sx l _) (B7 n) w h hb hc hl (GD _ _) hpb a (TQ n hn)
 rw [b,show Cv (B7 n)=n from KJ n] at this;exact this
theorem JP (b d:UInt8) (r:l8_) (h:B0 w br (Jl p l c (sx l (b::d::r))) 78) (hb:Ag w p l) (hl:l.length<=100000000) (hpb:0<l.length->(pA p).block≠br)
  (hs:(b::d::r) <:+ l) (hbb:CV b=true) (hd:CV d=false) :
  Calls Tryz.prog 29 #[ptV br] w λe w'=>e=.returned (.tuple #[])/\AR w.heap.size [br] w w'/\B0 w' br (Jl p l c (sx l (d::r))) 78:=by
 have hD:=EE hs
 have a:=I3 hs
 simp only [Aa] at a
 have f:l[sx l (b::d::r)]'oO=b:=by
  have q:=Aw (l:=l) (i:=sx l (b::d::r)) oO
  rw [hD] at q;injection q with q1 q2;exact q1.symm
 have g:l[sx l (b::d::r)+1]'oO=d:=by
  have q:=Aw (l:=l) (i:=sx l (b::d::r)+1) oO
  rw [<- E2,hD] at q;simp only [List.drop_succ_cons,Ms] at q;injection q with q1 q2;exact q1.symm
 have hA:sx l (b::d::r)+1=sx l (d::r):=NL (A:=[b]) hs
 have:=YP br p l c (sx l (b::d::r)) 1 w h hb hl oO oO hpb (λj hj k m=>by
  obtain rfl:j=sx l (b::d::r):=by omega
  rw [f];exact hbb) (λ_=>by rw [g];exact hd)
 rw [hA] at this;exact this
theorem YL (n:Nat) (hn:n<10000000000) (r:l8_) (h:B0 w br (Jl p l c (sx l (E4 n++r))) 78) (hb:Ag w p l) (hc:l.length<=c) (hl:l.length<=100000000) (hpb:0<l.length->(pA p).block≠br)
  (hs:(E4 n++r) <:+ l):Calls Tryz.prog 76 #[ptV br] w λe w'=>e=.returned (.tuple #[Af (n:Int),.bool true])/\AR w.heap.size [br] w w'/\B0 w' br (Jl p l c (sx l r)) 78:=by
 have:=A0v br p l c _ n r w h hb hc hl hpb hn (EE hs)
 rw [<- K0 hn,NL hs] at this;exact this
theorem YK (r:l8_) (h:B0 w br (Jl p l c (sx l (E7++r))) 78) (hb:Ag w p l) (hc:l.length<=c) (hl:l.length<=100000000) (hpb:0<l.length->(pA p).block≠br)
  (hs:(E7++r) <:+ l):Calls Tryz.prog 76 #[ptV br] w λe w'=>e=.returned (.tuple #[Af 0,.bool false])/\AR w.heap.size [br] w w'/\B0 w' br (Jl p l c (sx l r)) 78:=by
 have a:=I3 hs
 have b:E7.length=20:=rfl
 have:=YN br p l c _ r w h hb hc hl hpb (by rw [A8] at a;omega) (EE hs)
 rw [<- b,NL hs] at this;exact this
end
theorem DF {c:UInt8} {r:l8_} (h:CV c=true):P3 (c::r):=ZJ h
theorem Ud (br:Nat) (p:Option Addr) (l:l8_) (c n:Nat) (hn:n<10000000000) (r:l8_) (w:World) (h:B0 w br (Jl p l c (sx l (B7 n++(32::48::32::111::98::106::10::r)))) 78) (hb:Ag w p l) (hc:l.length<=c) (hl:l.length<=100000000) (hpb:0<l.length->(pA p).block≠br)
  (hs:(B7 n++(32::48::32::111::98::106::10::r)) <:+ l) :
  Calls Tryz.prog 139 #[ptV br,Af (n:Int)] w λe w'=>e=.returned (.tuple #[])/\AR w.heap.size [br] w w'/\B0 w' br (Jl p l c (sx l (10::r))) 78:=by
 have o:=DT hs
 have x:=DT (A:=[32,48]) o
 refine Ar func139 rfl ntmps139 ?_
 have g:=AR.refl w.heap.size ([br]) w
 refine A4<|A3 rfl<|Ao (MB n hn [] _ h hb hc hl hpb hs (by simp) (DF dD)) (λy a=>?_)
 have b:=Ag.keepB hb a.1 (λd=>⟨hb.lt d,by simpa using (hpb) d⟩)
 have i:=Dl g (C7 a.1 g.size (by simp <;> omega))
 have q:=a.2
 refine A3 rfl<|A1 (.bis (true) (.eql rfl rfl) (by simp))<|Ao (CZ _) (λB s=>?_)
 obtain rfl:=s
 refine A0<|A4<|A3 rfl<|Ao (Jr [32] [48] _ q b hc hl hpb o dD dD dD (DF dD)) (λC f=>?_)
 have t:=Ag.keepB b f.1 (λd=>⟨b.lt d,by simpa using (hpb) d⟩)
 have j:=Dl i (C7 f.1 i.size (by simp <;> omega))
 have u:=f.2
 refine A0<|Am<|A3 rfl<|Ao (Jr [32] [111,98,106] _ u t hc hl hpb x dD dD dD (DF dD)) (λD k=>?_)
 have m:=Dl j (C7 k.1 j.size (by simp <;> omega))
 have v:=k.2
 refine A0<|Cx (Cd rfl ?_)
 exact ⟨rfl,m,v⟩
def T8 (ps:List Nat) (x:Int):Option Int:=if 1<=x then (ps[(x-1).toNat]?).map λn=>(n:Int) else none
def Ky (i:Nat) (x:Int):Option Int:=if 0<=x/\x<i then some 1 else none
theorem YA (i:Nat):(λx:Int=>if x=(i:Int) then some (1:Int) else Ky i x)=Ky (i+1):=by
 funext x
 unfold Ky
 by_cases h:x=(i:Int)
 · rw [A7 h,A7 oO]
 ·
  rw [A2 h]
  by_cases h2:0<=x/\x<i
  · rw [A7 h2,A7 oO]
  · rw [A2 h2,A2 oO]
theorem N9 (i:Nat):Ky i (i:Int)=none:=by unfold Ky;rw [A2 oO]
theorem Xy (ps:List Nat) (i:Nat) (h:i<ps.length):(λx:Int=>if x=((i+1:Nat):Int) then some (ps[i]:Int) else T8 (ps.take i) x)=T8 (ps.take (i+1)):=by
 funext x
 unfold T8
 by_cases h1:x=((i+1:Nat):Int)
 · rw [A7 h1,A7 oO,show (x-1).toNat=i by omega,List.getElem?_take,A7 oO,Aj h];rfl
 ·
  rw [A2 h1]
  by_cases h2:1<=x
  ·
   rw [A7 h2,A7 h2,List.getElem?_take,List.getElem?_take]
   by_cases h3:(x-1).toNat<i
   · rw [A7 h3,A7 oO]
   · rw [A2 h3,A2 oO]
  · rw [A2 h2,A2 h2]
theorem A0D (ps:List Nat) (i:Nat):T8 (ps.take i) ((i+1:Nat):Int)=none:=by
 unfold T8
 rw [A7 oO,show (((i+1:Nat):Int)-1).toNat=i by omega,List.getElem?_take,A2 oO];rfl
theorem A35:T8 []=λ_=>none:=by funext x;unfold T8;split <;> simp
theorem A0C (ps:List Nat) (j:Nat) (h:j<ps.length):T8 ps ((j+1:Nat):Int)=some (ps[j]:Int):=by
 unfold T8
 rw [A7 oO,show (((j+1:Nat):Int)-1).toNat=j by omega,Aj h];rfl
end
section
theorem wfI {n:Int} (h:-9223372036854775808<=n/\n<=9223372036854775807):(Lit.int .i64 n).wf=true:=by
 simp only [Lit.wf,AE,AF];exact h
def Rb (ps:List Nat) (rest:l8_):Nat->l8_
 | 0=>E7++(ps.flatMap E4++rest)
 | i+1=>(ps.drop i).flatMap E4++rest
def plV (ps:List Nat):Nat->Nat
 | 0=>0
 | i+1=>ps.getD i 0
theorem YM (br:Nat) (p:Option Addr) (l:l8_) (c:Nat) (ps:List Nat) (rest:l8_) (i:Nat) (w:World) (h:B0 w br (Jl p l c (sx l (Rb ps rest i))) 78) (hb:Ag w p l) (hc:l.length<=c) (hl:l.length<=100000000) (hpb:0<l.length->(pA p).block≠br)
  (hs:Rb ps rest i <:+ l) (hps:∀ n∈ps,n<10000000000) (hi:i<ps.length+1) :
  Calls Tryz.prog 76 #[ptV br] w λe w'=>e=.returned (.tuple #[Af (plV ps i:Int),.bool (decide (0<i))])/\AR w.heap.size [br] w w'/\B0 w' br (Jl p l c (sx l (Rb ps rest (i+1)))) 78:=by
 cases i with
 | zero =>
  have:=YK _ h hb hc hl hpb hs
  simpa [Rb,plV] using this
 | succ j =>
  have hj:j<ps.length:=by omega
  have e:Rb ps rest (j+1)=E4 ps[j]++Rb ps rest (j+2):=by
   show (ps.drop j).flatMap E4++rest=E4 ps[j]++((ps.drop (j+1)).flatMap E4++rest)
   rw [Aw hj,DD,AS]
  rw [e] at h hs
  have:=YL ps[j] (hps _ (AA hj)) _ h hb hc hl hpb hs
  have hv:plV ps (j+1)=ps[j]:=by show ps.getD j 0=_;rw [BY,Aj hj];rfl
  rw [hv,show decide (0<j+1)=true by simp]
  exact this
theorem A0m {ps:List Nat} {rest l:l8_} (h:(EI ps++rest) <:+ l):∀ i,i<=ps.length+1->Rb ps rest i <:+ l
 | 0,_=>by
  show E7++(ps.flatMap E4++rest) <:+ l
  rw [<- AS];exact h
 | i+1,hi=>by
  have h1:ps.flatMap E4++rest <:+ l:=by
   unfold EI at h;rw [AS] at h;exact DT h
  show (ps.drop i).flatMap E4++rest <:+ l
  conv at h1=>lhs;rw [<- Dx i ps,List.flatMap_append,AS]
  exact DT h1
theorem W9 (br bf bs bm:Nat) (p:Option Addr) (l:l8_) (c:Nat) (cs:Array Value) (ps:List Nat) (rest:l8_) (w:World)
    (h:B0 w br (Jl p l c (sx l (B7 0++(32::(B7 (ps.length+1)++(10::(EI ps++rest))))))) 78) (hf:B0 w bf cs 82) (h1:cs[1]?=some (.map (some bm)))
    (hms:Dt Tryz.prog 3 3 w bs 0 (Ky 0) 0) (hmm:Dt Tryz.prog 3 3 w bm 0 (T8 []) 0)
    (hb:Ag w p l) (hc:l.length<=c) (hl:l.length<=100000000) (hs:(B7 0++(32::(B7 (ps.length+1)++(10::(EI ps++rest))))) <:+ l) (hps:∀ n∈ps,n<10000000000) (hpl:ps.length<=4096)
    (hpb:0<l.length->(pA p).block≠br) (hpb2:0<l.length->(pA p).block≠bs) (hpb3:0<l.length->(pA p).block≠bm)
    (n1:bf≠br) (n2:bs≠br) (n3:bm≠br) (n4:bs≠bm) (n5:bf≠bs) (n6:bf≠bm) :
    Calls Tryz.prog 54 #[ptV br,ptV bf,.map (some bs)] w λe w'=>e=.returned (.tuple #[])/\AR w.heap.size [br,bs,bm] w w'/\B0 w' br (Jl p l c (sx l rest)) 78 /\
      Dt Tryz.prog 3 3 w' bs (ps.length+1) (Ky (ps.length+1)) (ps.length+1)/\Dt Tryz.prog 3 3 w' bm ps.length (T8 ps) ps.length:=by
  have s1:=DT hs;have s2:(10::(EI ps++rest)) <:+ l:=DT (Ek s1);have s3:(EI ps++rest) <:+ l:=Ek s2;have a3:=A0m s3;have F:EI ps++rest=48::((E7.tail++ps.flatMap E4)++rest):=rfl;have e0:Rb ps rest 0=48::((E7.tail++ps.flatMap E4)++rest):=by rw [<- F];show E7++(ps.flatMap E4++rest)=_;rw [<- AS];rfl
  have eN:Rb ps rest (ps.length+1)=rest:=by show (ps.drop ps.length).flatMap E4++rest=rest;rw [JJ];rfl
  refine Ar func54 rfl ntmps54 ?_;have V:=AR.refl w.heap.size ([br,bs,bm]) w;refine A4<|A3 rfl<|Ao (MB 0 dD [] _ h hb hc hl hpb hs (by simp) (DF dD)) (λw1 o=>?_);have ae:=Dt.same (w1:=w1) hms (λk hk hl=>o.1.block k hl (by (simp only [A6,A5,As,not_or,Ac];omega)));have af:=Dt.same (w1:=w1) hmm (λk hk hl=>o.1.block k hl (by (simp only [A6,A5,As,not_or,Ac];omega)));have X:=B0.keepB hf o.1 hf.lt (by simp only [A6,A5,As,not_or,Ac];omega);have G:=Ag.keepB hb o.1 (λm=>⟨hb.lt m,by simpa using (hpb) m⟩);have a0:=Dl V (C7 o.1 V.size (by simp <;> omega));have ag:=o.2;refine A9 rfl<|A4<|A3 rfl<|Ao (MB (ps.length+1) oO [32] _ ag G hc hl hpb s1 dD (DF dD)) (λw7 q=>?_);have ah:=Dt.same (w1:=w7) ae (λk hk hl=>q.1.block k hl (by (simp only [A6,A5,As,not_or,Ac];omega)));have ai:=Dt.same (w1:=w7) af (λk hk hl=>q.1.block k hl (by (simp only [A6,A5,As,not_or,Ac];omega)));have H:=B0.keepB X q.1 X.lt (by simp only [A6,A5,As,not_or,Ac];omega);have u:=Ag.keepB G q.1 (λm=>⟨G.lt m,by simpa using (hpb) m⟩);have J:=Dl a0 (C7 q.1 a0.size (by simp <;> omega));have aj:=q.2;refine A9 rfl<|A4<|A3 rfl<|Ao (JP 10 48 ((E7.tail++ps.flatMap E4)++rest) (by rw [<- F];exact aj) u hl hpb (by rw [<- F];exact s2) dD dD) (λa1 f=>?_);have a4:=Dt.same (w1:=a1) ah (λk hk hl=>f.1.block k hl (by (simp only [A6,A5,As,not_or,Ac];omega)));have a5:=Dt.same (w1:=a1) ai (λk hk hl=>f.1.block k hl (by (simp only [A6,A5,As,not_or,Ac];omega)));have a6:=B0.keepB H f.1 H.lt (by simp only [A6,A5,As,not_or,Ac];omega);have a7:=Ag.keepB u f.1 (λm=>⟨u.lt m,by simpa using (hpb) m⟩);have a8:=Dl J (C7 f.1 J.size (by simp <;> omega));have ak:=f.2
  refine A0<|A4<|A3 rfl<|A3 rfl<|A0<|AO<|BM (α:=Nat) (λt=>[(0,ptV br),(1,ptV bf),(2,.map (some bs)),(6,Af 0),(18,Af ((ps.length+1:Nat):Int)),(19,Af (t:Int))]) (λt w'=>AR w.heap.size [br,bs,bm] w w'/\B0 w' br (Jl p l c (sx l (Rb ps rest t))) 78/\B0 w' bf cs 82/\Ag w' p l/\Dt Tryz.prog 3 3 w' bs t (Ky t) t/\Dt Tryz.prog 3 3 w' bm (t-1) (T8 (ps.take (t-1))) (t-1)/\t<=ps.length+1) (λt=>ps.length+1-t) (0) ⟨rfl,rfl,rfl,rfl,rfl,rfl,tT⟩ (⟨a8,by rw [e0];exact ak,a6,a7,a4,a5,FI _⟩) (λt w1 hR=>?_);obtain ⟨i,rfl⟩:=eX t;obtain ⟨q1,q2,q3,q4,q5,q6,q7⟩:=hR;refine A4<|A1 (.lss rfl rfl)<|A0<|Ad<|Ai rfl (λK=>?_) (λK=>?_)
  · have a9 := dT K
    refine Ap<|Ad<|AO<|A4<|A3 rfl<|A9 rfl<|A4<|A3 rfl<|Ao (YM br p l c ps rest i _ q2 q4 hc hl hpb (a3 i oO) hps oO) (λa2 g=>?_);have v:=Dt.same (w1:=a2) q5 (λk hk hl=>g.1.block k hl (by (simp only [A6,A5,As,not_or,Ac];omega)));have aa:=Dt.same (w1:=a2) q6 (λk hk hl=>g.1.block k hl (by (simp only [A6,A5,As,not_or,Ac];omega)));have ab:=B0.keepB q3 g.1 q3.lt (by simp only [A6,A5,As,not_or,Ac];omega);have ac:=Ag.keepB q4 g.1 (λm=>⟨q4.lt m,by simpa using (hpb) m⟩);have ad:=Dl q1 (C7 g.1 q1.size (by simp <;> omega));have al:=g.2;refine A3 rfl<|A1 (.ext rfl rfl)<|A1 (.ext rfl rfl)<|Ct rfl<|A9 rfl<|A4<|A3 rfl<|A3 rfl<|A1 (.iis ((i:Int)) (.add rfl rfl (Ba oO)) oO)<|A9 rfl<|Ad<|A4<|A3 rfl<|A1 (.bis (false) (.gtr rfl rfl) (by exact AJ oO))<|A3 rfl<|Az rfl<|A3 rfl<|Az rfl<|A3 rfl<|Az rfl<|Ah (A2c v Mu Mu ZV Yj rfl rfl (wfI oO))<|Az rfl<|A1 (.bis (false) (.gtr rfl rfl) (by rw [N9];rfl))<|A1 (.pkF rfl rfl rfl)<|A0<|Aq rfl rfl<|Ap<|A4<|A3 rfl<|A3 rfl<|Ah (A2c v Mu Mu ZV Yj rfl rfl (wfI oO))<|A1 (.iis (1) (.add rfl rfl (Ba (by rw [N9];decide))) (by rw [N9];rfl))<|A22 v Mu Mu ZV rfl rfl rfl (wfI oO) (wfI dD) (oO) (λam U a ap=>?_);have x:=Dt.same (w1:=am) aa (λk hk hl=>a.other k oM);have s:=ab.up a;have y:=al.upd a oM;have B:=Ag.upd ac a hpb2;have C:=Dl ad (by exact QY a (by simp));refine A0<|Ad ?_;have D:=U;rw [YA,N9,A2 (by simp)] at D;refine Am<|A3 rfl<|A0<|Ai rfl (λan=>?_) (λan=>?_);obtain ⟨j,rfl⟩:∃ j,i=j+1:=⟨i-1,by have:=dT (show decide (0<i)=true by assumption);omega⟩;have hj:j<ps.length:=by omega
    have hv:plV ps (j+1)=ps[j]:=by show ps.getD j 0=_;rw [BY,Aj hj];rfl
    have ar:=hps _ (AA hj);refine Am<|A3 rfl<|A1 (.nck rfl)<|A1 (.fa R6 rfl sizeOf80 dD rfl)<|Ah (Ae (isAgg80 _) rfl s h1)<|A3 rfl<|A3 rfl<|A22 x Mu Mu ZV rfl rfl rfl (wfI oO) (wfI oO) (oO) (λao E b aq=>?_);have L:=Dt.same (w1:=ao) D (λk hk hl=>b.other k oM);have N:=s.up b;have P:=y.up b;have Q:=Ag.upd B b hpb3;have T:=Dl C (by exact QY b (by simp));refine A0<|Am<|A1 (.add rfl rfl (Ba oO))<|A3 rfl<|A0<|?_
    first
    | (have d := E
       rw [hv] at d;simp only [Gi] at d;rw [Xy ps j hj,A0D,A2 (by simp)] at d;exact ⟨j+1+1,⟨rfl,rfl,rfl,rfl,rfl,rfl,tT⟩,⟨T,P,N,Q,L,d,oM⟩,oM⟩)
    | exact ⟨1,⟨rfl,rfl,rfl,rfl,rfl,rfl,tT⟩,⟨T,P,N,Q,L,E,oM⟩,oM⟩
    obtain rfl:i=0:=by have:=dF (show decide (0<i)=false by assumption);omega
    refine Ap<|Am<|A1 (.add rfl rfl (Ba oO))<|A3 rfl<|A0<|?_
    first
    | (have d := x
       rw [hv] at d;simp only [Gi] at d;rw [Xy ps j hj,A0D,A2 (by simp)] at d;exact ⟨j+1+1,⟨rfl,rfl,rfl,rfl,rfl,rfl,tT⟩,⟨C,y,s,B,D,d,oM⟩,oM⟩)
    | exact ⟨1,⟨rfl,rfl,rfl,rfl,rfl,rfl,tT⟩,⟨C,y,s,B,D,x,oM⟩,oM⟩
  have a9:=dF K;refine BF<|Cx (Cd rfl ?_);obtain rfl:i=ps.length+1:=by omega
  rw [eN] at q2;rw [Gi,Dc] at q6;exact ⟨rfl,q1,q2,q5,q6⟩
end
section
theorem UK (q : Option Addr) (s : List (l8_)) (c : Nat) (x : l8_) (w : World) (hb : B3 G7 w q s) (hl : s.length ≤ 1000000000) (i : Nat) (hi : i < s.length) (hx : s[i] = x) (hf : x ∉ s.take i) :
    Calls Tryz.prog 60 #[.slice q s.length c,.string (bs x)] w λe w'=>e=.returned (Af (i:Int))/\w=w':=by
  refine Ar func60 rfl ntmps60<|A4<|A9 rfl<|Ad<|A4<|A3 rfl<|A1 (.lenS Dy rfl)<|A3 rfl<|A0<|AO<|BM (α:=Nat) (λt=>[(0,.slice q s.length c),(1,.string (bs x)),(7,Af (s.length:Int)),(8,Af (t:Int))]) (λt w'=>w=w'/\t<=i) (λt=>s.length-t) (0) ⟨rfl,rfl,rfl,rfl,tT⟩ (⟨rfl,FI _⟩) (λt h hR=>?_);obtain ⟨k,rfl⟩:=eX t;obtain ⟨rfl,hk⟩:=hR;refine A4<|A1 (.lss rfl rfl)<|A0<|Ad<|Ai rfl (λb=>?_) (λb=>?_)
  · have f := dT b
    refine Ap<|Ad<|AO<|A4<|A3 rfl<|A9 rfl<|A4<|A3 rfl<|A3 rfl<|A3 rfl<|A1 (.ixb Dy FH rfl rfl (hb.isp oO) (k) (rfl) oO)<|Ah (Bq (FX _) rfl (hb.cells (k) oO))<|A1 (.eqs rfl rfl)<|A0<|Ai rfl (λd=>?_) (λd=>?_)
    · have g := dT d
      refine A4<|A3 rfl<|A9 rfl<|AW ?_
      first
      | (exfalso;omega)
      | exact ⟨Ff (by
          rcases Bu k i with a | a
          · exact De (show x∈s.take i by
              rw [show x=s[k]'oO by assumption];exact List.mem_take_iff_getElem.2 ⟨k,oO,rfl⟩) hf
          · obtain rfl : k = i := by omega
            rfl),rfl⟩
    have g:=dF d;refine Ap<|Am<|A1 (.iis (((k+1:Nat):Int)) (.add rfl rfl (Ba oO)) oO)<|A3 rfl<|A0<|?_;exact ⟨k+1,⟨rfl,rfl,rfl,rfl,tT⟩,⟨rfl,by
      rcases Bu k i with a | a
      · ((try simp only) <;> omega)
      · obtain rfl : k = i := by omega
        exact De hx.symm aS⟩,oM⟩
  have f:=dF b;refine BF<|A4<|A9 rfl<|AW ?_
  first
  | (exfalso;omega)
  | exact ⟨Ff (by
      rcases Bu k i with a | a
      · exact De (show x∈s.take i by
          rw [show x=s[k]'oO by assumption];exact List.mem_take_iff_getElem.2 ⟨k,oO,rfl⟩) hf
      · obtain rfl : k = i := by omega
        rfl),rfl⟩
theorem BP.parts  {x:PC} {k n:Int} {t:l8_} {l:List PV} (h:BP w S x (.mk k n t ks l)):∃ cs:List PC,x.kind=k/\x.n=n/\x.text=t/\E5 S w (.slice x.kp x.kl x.kc) ks/\SL S w (.slice x.lp x.ll x.lc) cs/\cs.length=l.length/\∀ i (h:i<cs.length) (h2:i<l.length),BP w S cs[i] l[i]:=by
 obtain ⟨o,ho⟩:=eX (PV.mk k n t ks l)
 rw [<- ho] at h
 cases h with
 | mk _ keys list cs hk hr hlen hsub =>
  injection ho with h1 h2 h3 h4 h5
  subst h1 h2 h3 h4 h5
  exact ⟨cs,rfl,rfl,rfl,hk,hr,hlen,hsub⟩
def fdC (p:Option Addr) (l:l8_) (c bm:Nat) (y:PC):Array Value:=#[.slice p l.length c,.map (some bm),Af y.kind,Af y.n,.string (bs y.text),.slice y.kp y.kl y.kc,.slice y.lp y.ll y.lc,.slice none 0 0]
theorem Lp (bf bm:Nat) (p:Option Addr) (l:l8_) (c:Nat) (y:PC) (S:Nat->Prop) (kd n:Int) (tx:l8_) (ks:List (l8_)) (vs:List PV) (x:l8_) (i:Nat) (w:World) (h:B0 w bf (fdC p l c bm y) 82)
  (hy:BP w S y (.mk kd n tx ks vs)) (hi:i<ks.length) (hi2:i<vs.length) (hl:ks.length<=1000000000) (hx:ks[i]=x) (hf:x ∉ ks.take i) :
  Calls Tryz.prog 56 #[ptV bf,.string (bs x)] w λe w'=>∃ z:{ z:PC // BP w S z vs[i] },e=.returned (.agg (Wo z.1).toArray)/\AL w w':=by
 obtain ⟨cs,-,-,-,hk,hr,J,m⟩:=hy.parts
 obtain ⟨A,K,U,L,-⟩:=hk.1.full
 obtain ⟨B,N,V,o,-⟩:=hr.1.full
 have q:=L.strs
 obtain ⟨yk,yn,yt,ykp,ykl,ykc,ylp,yll,ylc⟩:=y
 simp only at A B q o K N
 subst A B
 refine Ar func56 rfl ntmps56 ?_
 have C:=CN w
 refine A4<|Bj Cz rfl (λX Q d s a P=>?_)
 have D:=Bl d h.lt
 have j:=h.un a D
 have t:=λb=>d▸q.lt b
 have E:=B3.upd q a (λb=>CR (t b))
 have u:=λb=>d▸o.lt b
 have k:=AG.upd o a (λb=>CR (u b))
 have F:=uB C d a
 refine A0<|A4<|A3 rfl<|A1 (.nck rfl)<|A1 (.fa R6 rfl CU dD rfl)<|A1 (.fa Ay rfl DU dD rfl)<|Ah (Ae (Fg _) rfl j rfl)<|A3 rfl<|Ao (UK _ ks _ x _ E hl i hi hx hf) (λY G=>?_)
 obtain rfl:=G
 refine A9 rfl<|Ad<|A4<|A3 rfl<|A1 (.lss rfl rfl)<|A0<|Aq rfl rfl<|Ap<|A4<|A3 rfl<|A1 (.nck rfl)<|A1 (.fa R6 rfl CU dD rfl)<|A1 (.fa Ay rfl Cr dD rfl)<|Ah (Ae (Dv _) rfl j rfl)<|A3 rfl<|A1 (.ixm C2 CU rfl rfl (k.isp oO) (i) (rfl) (by show i<cs.length;omega))<|Ah (Dz Ay rfl Al k (i) oO rfl)<|Ax rfl rfl s Al rfl rfl (λT f g H=>?_)
 have v:=BU F oO g
 refine A0<|AT (BI rfl rfl (Be f Ay rfl Al)  ?_)
 exact ⟨⟨_,m i oO hi2⟩,rfl,v⟩
end
section
theorem Tb  {o:AV} (h:FY D st o) (h9:o.kind≠9) {B r:l8_} (hs:(B++(Dd o++r)) <:+ l) (hB:∀ c∈B,CV c=true) (hb:P3 r) (hn:NoR o.kind r) (hd:NG o<=32) :
  Uv l (sx l (B++(Dd o++r)):Nat) 32=(JI o,(sx l r:Int),0):=by
 have e:DG false (l.drop (sx l (B++(Dd o++r))))=Dd o++r:=by rw [EE hs,Ij B _ hB];exact J6 h r
 obtain ⟨f,i⟩:=Ii e
 have a:=DT hs
 have d:=I3 a
 obtain ⟨ch,rr,ec,g⟩:=Nf h
 rw [ec] at d
 simp only [Bb,Aa] at d
 have b:l.length-(Dd o++r).length=sx l (Dd o++r):=rfl
 rw [A38 (GD _ _) f (by rw [b,ec];simp only [Bb];omega),A65 h h9 l _ r (32:Int).toNat (by rw [b];exact GD _ _) (by rw [b];exact EE a) hb hn,A7 (by show NG o<=32;exact hd)]
 rfl
def Np:l8_:=[82,111,111,116]
def No:l8_:=[83,105,122,101]
def ST (K:Nat):AV:=.mk 7 0 [] [Np,No] [.mk 8 1 [] [] [] [],.mk 2 (K:Int) [] [] [] []] []
theorem A4J (K:Nat):Dd (ST K)=[60,60,32,47,82,111,111,116,32,49,32,48,32,82,32,47,83,105,122,101,32]++(B7 K++[32,62,62]):=by
 have b:Vr Np=[47,82,111,111,116]:=by decide
 have c:Vr No=[47,83,105,122,101]:=by decide
 have a:∀ K:Nat,EK (K:Int)=B7 K:=λK=>by unfold EK;rw [A2 oO];simp
 have d:EK (1:Int)=[49]:=by rw [show (1:Int)=((1:Nat):Int) from rfl,a,En 1 dD];rfl
 simp [ST,Dd,IW,b,c,d,a]
theorem SS (K:Nat) (hK:K<=10000):FY 32 true (ST K):=by
 refine .dict _ _ 7 _ _ _ (.inl ⟨rfl,rfl⟩) dD (by simp) rfl ?_ dD ?_
 ·
  intro x hx
  rcases A6.1 hx with rfl | hx
  · exact ⟨dD,dD,dD⟩
  · rw [B8] at hx;subst hx;exact ⟨dD,dD,dD⟩
 ·
  intro o ho
  rcases A6.1 ho with rfl | ho
  · exact .ref _ _ _ dD
  ·
   rw [B8] at ho;subst ho
   exact .num _ _ _ _ (.inl rfl) (by unfold Cy;simp;omega)
def Tw:l8_:=[116,114,97,105,108,101,114]
def JN (ps:List Nat) (r:l8_):Nat->l8_
 | 0=>B7 0++(32::(B7 (ps.length+1)++(10::(EI ps++(Tw++(10::(Dd (ST (ps.length+1))++(10::r))))))))
 | _+1=>Tw++(10::(Dd (ST (ps.length+1))++(10::r)))
def trP (K:Nat):PV:=.mk 7 0 [] [Np,No] [.mk 8 1 [] [] [],.mk 2 (K:Int) [] [] []]
theorem Wg (K:Nat):JI (ST K)=trP K:=by simp [ST,trP,JI,Js]
theorem BP.kindE  {x:PC} {k n:Int} {t:l8_} {l:List PV} (h:BP w S x (.mk k n t ks l)):x.kind=k:=h.parts.choose_spec.1
theorem A0f:Ky 0=λ_=>none:=by funext x;unfold Ky;rw [A2 oO]
theorem A76 (k:Nat) (h:k<=1):decide ((if k=0 then [48] else Tw)=[116,114,97,105,108,101,114])=decide (k=1):=by
 rcases (by omega:k=0\/k=1) with rfl | rfl
 · decide
 · decide
theorem A5n (K:Nat):NG (ST K)<=32:=by simp [ST,NG,OK]
theorem A0u (br bf bm:Nat) (p:Option Addr) (l:l8_) (c:Nat) (ps:List Nat) (r:l8_) (w:World)
  (h:B0 w br (Jl p l c (sx l ([120,114,101,102]++(10::JN ps r 0)))) 78) (hf:B0 w bf (fdC p l c bm (DK 0 0 [])) 82)
  (hmm:Dt Tryz.prog 3 3 w bm 0 (T8 []) 0)
  (hb:Ag w p l) (hc:l.length<=c) (hl:l.length<=100000000) (hs:([120,114,101,102]++(10::JN ps r 0)) <:+ l) (hps:∀ n∈ps,n<10000000000) (hpl:ps.length<=4096)
  (hpb:0<l.length->(pA p).block≠br) (hpb2:0<l.length->(pA p).block≠bf) (hpb3:0<l.length->(pA p).block≠bm)
  (n1:bf≠br) (n3:bm≠br) (n6:bf≠bm) :
  Calls Tryz.prog 31 #[ptV br,ptV bf] w λe w'=>e=.returned (.tuple #[])/\AR w.heap.size [br,bf,bm] w w' /\
   ∃ y,B0 w' bf (fdC p l c bm y) 82/\BP w' (λk=>w.heap.size<=k) y (trP (ps.length+1))/\Dt Tryz.prog 3 3 w' bm ps.length (T8 ps) ps.length:=by
 have s0:(10::JN ps r 0) <:+ l:=DT hs
 have av:JN ps r 0=48::(32::(B7 (ps.length+1)++(10::(EI ps++(Tw++(10::(Dd (ST (ps.length+1))++(10::r)))))))):=by
  show B7 0++_=_
  rw [En 0 dD];rfl
 have s1:JN ps r 0 <:+ l:=Ek s0
 have sT:∀ t,JN ps r t <:+ l:=λt=>by
  cases t with
  | zero=>exact s1
  | succ t =>
   have q:(EI ps++JN ps r 1) <:+ l:=Ek (DT (Ek (DT (A:=B7 0) s1)));exact DT q
 have s2:(10::(Dd (ST (ps.length+1))++(10::r))) <:+ l:=DT (sT 1)
 have hW:∀ t,Dr l (B4 false l (sx l (JN ps r t)))=if t=0 then [48] else Tw:=λt=>by
  cases t with
  | zero=>exact (Qa (B:=[]) (A:=B7 0) (EE (sT 0)) (by simp) (Od 0) (Oc 0) (DF dD)).1.trans (En 0 dD)
  | succ t=>exact (Qa (B:=[]) (A:=Tw) (EE (sT (t+1))) (by simp) dD dD (DF dD)).1
 have hN:BA l (B4 false l (sx l (JN ps r 1)))=sx l (10::(Dd (ST (ps.length+1))++(10::r))):=(Qa (B:=[]) (A:=Tw) (EE (sT 1)) (by simp) dD dD (DF dD)).2.1
 have hO:=Tb (B:=[10]) (SS (ps.length+1) oO) (by simp [ST,AV.kind]) s2 dD (DF dD) (λq=>by simp [ST,AV.kind] at q) (A5n _)
 rw [Wg] at hO
 have cL:=hmm.lt
 refine Ar func31 rfl ntmps31 ?_
 have bA:=AR.refl w.heap.size ([br,bf,bm]) w
 refine A4<|A3 rfl<|Ao (Jr [] [120,114,101,102] _ h hb hc hl hpb hs (by simp) dD dD (DF dD)) (λw1 a4=>?_)
 have cw:=Dt.same (w1:=w1) hmm (λk hk hl=>a4.1.block k hl (by (simp only [A6,A5,As,not_or,Ac];omega)))
 have bB:=B0.keepB hf a4.1 hf.lt (by simp only [A6,A5,As,not_or,Ac];omega)
 have aw:=Ag.keepB hb a4.1 (λj=>⟨hb.lt j,by simpa using (hpb) j⟩)
 have bC:=Dl bA (C7 a4.1 bA.size (by simp <;> omega))
 have cy:=a4.2
 refine A0<|A4<|A3 rfl<|Ao (JP 10 48 _ (by rw [<- av];exact cy) aw hl hpb (by rw [<- av];exact s0) dD dD) (λw6 a5=>?_)
 have bD:=Dt.same (w1:=w6) cw (λk hk hl=>a5.1.block k hl (by (simp only [A6,A5,As,not_or,Ac];omega)))
 have ax:=B0.keepB bB a5.1 bB.lt (by simp only [A6,A5,As,not_or,Ac];omega)
 have ay:=Ag.keepB aw a5.1 (λj=>⟨aw.lt j,by simpa using (hpb) j⟩)
 have az:=Dl bC (C7 a5.1 bC.size (by simp <;> omega))
 have aA:=a5.2
 refine A0<|Ad<|Am ?_
 have cz:=ay
 have cM:=(aA).lt
 have cN:=(ax).lt
 have cO:=(bD).lt
 refine A23 3 3 rfl (λah bM P ai s cF=>?_)
 have bN:=Dt.same (w1:=bM) bD (λk hk hl=>s.other k oO)
 have bO:=Bl P ax.lt
 have bP:=ax.un s bO
 have bQ:=Bl P aA.lt
 have bR:=aA.un s bQ
 have b1:=λj=>P▸ay.lt j
 have aB:=Ce ay s b1
 have aC:=CF P az.size
 have aD:=Dl az (GT s aC)
 refine A9 rfl<|Ad<|A4<|A9 rfl<|AO ?_
 have bS:0<l.length->(pA p).block≠ah:=λj=>by have:=cz.lt j;omega
 have bT:=ai
 have cP:=bT.lt
 have cQ:=aD.size
 have cU:=aB
 refine BM (α:=Nat) (λt=>[(0,ptV br),(1,ptV bf),(4,.map (some ah)),(5,Af (t:Int))]) (λt w'=>AR w.heap.size [br,bf,bm] w w'/\B0 w' br (Jl p l c (sx l (JN ps r t))) 78/\B0 w' bf (fdC p l c bm (DK 0 0 [])) 82/\Ag w' p l/\Dt Tryz.prog 3 3 w' ah (t * (ps.length+1)) (Ky (t * (ps.length+1))) (t * (ps.length+1))/\Dt Tryz.prog 3 3 w' bm (t * ps.length) (T8 (ps.take (t * ps.length))) (t * ps.length)/\t<=1) (λt=>1-t) (0) ⟨rfl,rfl,rfl,rfl,tT⟩ (⟨aD,by rw [av];exact bR,bP,aB,by simpa [A0f] using ai,by simpa using bN,FI _⟩) (λt w1 hR=>?_)
 obtain ⟨k,rfl⟩:=eX t
 obtain ⟨q1,q2,q3,q4,q5,q6,q7⟩:=hR
 have cV:=q5.lt
 have cW:=q6.lt
 refine Ad<|AO<|Ad<|D6 19 rfl BR (λw'=>w'.heap[br]?=w1.heap[br]?/\True) (λbE C=>?_)
 have bU:=Dt.same (w1:=bE) q5 (λk hk hl=>(by obtain ⟨m,rfl⟩:=C;rfl))
 have aE:=Dt.same (w1:=bE) q6 (λk hk hl=>(by obtain ⟨m,rfl⟩:=C;rfl))
 have ab:=q2.drew C
 have Q:=q3.drew C
 have o:=q4.drew C
 have ac:=Dl q1 (OS C)
 have b:=Bs (ab.trans q2.symm) Bi
 refine Ab 0 rfl (.mv rfl) b ?_
 refine Ab 1 rfl (.nck rfl) b ?_
 refine Ab 2 rfl (.fa DE rfl D8 dD rfl) b ?_
 refine BX 3 rfl (λw' hw'=>Ae (g22_ _) rfl ((hw'.1).trans q2) rfl) b rfl ?_
 refine Ab 4 rfl (.mv rfl) b ?_
 refine Ab 5 rfl (.nck rfl) b ?_
 refine Ab 6 rfl (.fa DE rfl D8 dD rfl) b ?_
 refine BX 7 rfl (λw' hw'=>Ae (g22_ _) rfl ((hw'.1).trans q2) rfl) b rfl ?_
 refine Ab 8 rfl (.mv rfl) b ?_
 refine Ab 9 rfl (.nck rfl) b ?_
 refine Ab 10 rfl (.fa DE rfl Bw dD rfl) b ?_
 refine BX 11 rfl (λw' hw'=>Ae (BZ _) rfl ((hw'.1).trans q2) rfl) b rfl ?_
 refine AX 12 rfl<|Ao (IK p l c _ _ (GD _ _) o hl) (λcX bV=>?_)
 obtain rfl:=bV
 refine A0<|⟨b,?_⟩
 refine AX 13 rfl<|Ao (Hi p l c _ _ (Ec _ _ _) o hc hl) (λcY bW=>?_)
 obtain rfl:=bW
 refine A0<|⟨b,?_⟩
 refine Ab 14 rfl (.mv rfl) b ?_
 refine Ab 15 rfl (.ext rfl rfl) b ?_
 refine Ab 16 rfl (.ext rfl rfl) b ?_
 refine Ab 17 rfl (.as rfl) b ?_
 refine Ab 18 rfl (.as rfl) b ?_
 refine BH kR<|Ad<|FT 40 (decide (k=1)) ?_ ?_
 refine Am<|A3 rfl<|A1 (.bis (decide (k=1)) (.eqs rfl rfl) (by rw [hW];exact A76 k q7))<|A3 rfl<|Ck rfl rfl rfl (λG=>?_) (λG=>?_)
 have bX:=dT G
 refine A3 rfl<|Az G<|A1 (.gtr rfl rfl)<|A1 (.pkT rfl G rfl)<|A0<|?_
 exact ⟨Gy (DM rfl (by (apply AY.2;(try simp) <;> omega))),rfl⟩
 have bX:=dF G
 refine Bc G<|A1 (.pkF rfl G rfl)<|A0<|?_
 exact ⟨Gy (DM rfl (by (apply AY.2;(try simp) <;> omega))),rfl⟩
 refine Ai rfl (λaF=>?_) (λaF=>?_)
 have bY:=dT aF
 obtain rfl:k=1:=by assumption
 rw [hN]
 refine A4<|A3 rfl<|A3 rfl<|A1 (.nck rfl)<|A1 (.fa DE rfl Bw dD rfl)<|Br Bw rfl rfl rfl ab (by exact Nat.le_of_ble_eq_true rfl) (λaG a f cG=>?_)
 have a:B0 aG br _ _:=a
 have f:CK br _ _:=f
 have bZ:=Dt.same (w1:=aG) aE (λk hk hl=>f.other k oM)
 have b':=Q.up f
 have c0:=Ag.upd o f hpb
 have c2:=Dl ac (by exact QY f (by simp))
 refine A0<|BF<|Ad<|D6 17 rfl BR (λw'=>w'.heap[br]?=aG.heap[br]?/\True) (λbG H=>?_)
 have ad:=Dt.same (w1:=bG) bZ (λk hk hl=>(by obtain ⟨m,rfl⟩:=H;rfl))
 have J:=a.drew H
 have U:=b'.drew H
 have ae:=c0.drew H
 have V:=Dl c2 (OS H)
 have D:=Bs (J.trans a.symm) Bi
 refine Ab 0 rfl (.mv rfl) D ?_
 refine Ab 1 rfl (.nck rfl) D ?_
 refine Ab 2 rfl (.fa DE rfl D8 dD rfl) D ?_
 refine BX 3 rfl (λw' hw'=>Ae (g22_ _) rfl ((hw'.1).trans a) rfl) D rfl ?_
 refine Ab 4 rfl (.mv rfl) D ?_
 refine Ab 5 rfl (.nck rfl) D ?_
 refine Ab 6 rfl (.fa DE rfl Bw dD rfl) D ?_
 refine BX 7 rfl (λw' hw'=>Ae (BZ _) rfl ((hw'.1).trans a) rfl) D rfl ?_
 refine FA 8 rfl 13 rfl ?_ ?_
 refine Bf BK rfl rfl ((Ik p l c _ _ _ _ ae hc hl hO)) (λrr bH K=>?_)
 have c3:=Dt.same (w1:=bH) ad (λk hk hl=>K.1.block k hl)
 have af:=J.bl K.1
 have aH:=U.bl K.1
 have aI:=kB V K.1
 obtain ⟨y,rfl,a6⟩:=K.2
 have aJ:=V.size
 have hy:=a6.mono (T:=λk=>w.heap.size<=k/\bG.heap.size<=k/\k<bH.heap.size) (λk hk aK=>⟨C9 aJ hk,hk,aK⟩)
 have aL:=a6.kindE
 have c4:=(U).lt
 have c5:=(J).lt
 have c6:=(ad).lt
 refine A0<|?_
 have a7:=Bs (af.trans a.symm) Bi
 refine ⟨a7,?_⟩
 refine Ab 9 rfl (.mv rfl) a7 ?_
 refine Ab 10 rfl (.ext rfl rfl) a7 ?_
 refine Ab 11 rfl (.ext rfl rfl) a7 ?_
 refine Ab 12 rfl (.ext rfl rfl) a7 ?_
 refine AX 13 rfl<|Bj Cz rfl (λcZ aM ag b2 u cH=>?_)
 have c7:=Dt.same (w1:=aM) c3 (λk hk hl=>u.other k oO)
 have c8:=BP.same (w1:=aM) hy (λk hk hl=>u.other k oO)
 have c9:=Bl ag af.lt
 have aN:=af.un u c9
 have ca:=Bl ag aH.lt
 have cb:=aH.un u ca
 have aO:=CF ag aI.size
 have cc:=Dl aI (GT u aO)
 refine A0<|⟨⟨(aN).trans (a).symm,tT⟩,?_⟩
 refine AX 14 rfl<|Ax rfl rfl b2 Al rfl rfl (λbI aj v cI=>?_)
 have cd:=Dt.same (w1:=bI) c7 (λk hk hl=>v.other k oM)
 have cf:=BP.same (w1:=bI) c8 (λk hk hl=>v.other k oM)
 have cg:=aN.up v
 have ci:=cb.up v
 have cj:=Dl cc (by exact GT v oO)
 refine A0<|?_
 have aP:=Bs (cg.trans a.symm) Bi
 refine ⟨aP,?_⟩
 refine Ab 15 rfl (.as rfl) aP ?_
 refine Ab 16 rfl (.as rfl) aP ?_
 refine BH kR<|Ad<|A4<|A3 rfl<|A1 (.bis (false) (.neq rfl rfl) dD)<|A0<|Aq rfl rfl<|Ap<|A4<|A1 (.fa Ay rfl Bw dD rfl)<|Ah (Ae (BZ _) rfl aj rfl)<|A1 (.bis (true) (.eql rfl rfl) (by rw [aL];rfl))<|Ao (CZ _) (λc' ck=>?_)
 obtain rfl:=ck
 refine A0<|A4<|A3 rfl<|Ah (Bk rfl aj Ay rfl Al)<|A1 (.nck rfl)<|A1 (.fa R6 rfl CU dD rfl)<|QO 2 (fdC p l c bm y) ci Al (λbJ ak X cJ=>?_)
 have cl:=Dt.same (w1:=bJ) cd (λk hk hl=>X.other k oM)
 have aQ:=BP.same (w1:=bJ) cf (λk hk hl=>X.other k oM)
 have cm:=Dl cj (by exact QY X (by simp))
 refine A0<|Am<|A3 rfl<|Bf BK rfl rfl ((Lp bf bm p l c y _ 7 0 [] [Np,No] _ No 1 _ ak aQ dD (by simp) dD rfl dD)) (λz1 bK a0=>?_)
 have cn:=Dt.same (w1:=bK) cl (λk hk hl=>a0.block k hl)
 have aR:=BP.same (w1:=bK) aQ (λk hk hl=>a0.block k hl)
 have aS:=ak.bl a0
 have co:=kB cm a0
 refine A1 (.fld Ay rfl BZ rfl rfl)<|A1 (.bis (true) (.eql rfl rfl) (by rw [BP.kindE z1.2];rfl))<|A3 rfl<|Az rfl<|A3 rfl<|Az rfl<|Bf BK rfl rfl ((Lp bf bm p l c y _ 7 0 [] [Np,No] _ Np 0 _ aS aR dD (by simp) dD rfl dD)) (λz2 bL a1=>?_)
 have cq:=Dt.same (w1:=bL) cn (λk hk hl=>a1.block k hl)
 have cr:=BP.same (w1:=bL) aR (λk hk hl=>a1.block k hl)
 have ct:=aS.bl a1
 have cu:=kB co a1
 refine Az rfl<|A1 (.fld Ay rfl BZ rfl rfl)<|Az rfl<|A1 (.bis (true) (.eql rfl rfl) (by rw [BP.kindE z2.2];rfl))<|A1 (.pkT rfl rfl rfl)<|Ao (CZ _) (λd0 cv=>?_)
 obtain rfl:=cv
 refine A0<|Cx (Cd rfl ?_)
 exact ⟨rfl,cu,y,ct,(cr).mono (λk hk _=>hk.1),by simpa using cq⟩
 refine Bj Cz rfl (λd1 aT a2 b3 x cK=>?_)
 have am:=Dt.same (w1:=aT) ad (λk hk hl=>x.other k oO)
 have b4:=Bl a2 J.lt
 have a3:=J.un x b4
 have b5:=Bl a2 U.lt
 have an:=U.un x b5
 have aU:=λj=>a2▸ae.lt j
 have b6:=Ce ae x aU
 have aV:=CF a2 V.size
 have ao:=Dl V (GT x aV)
 refine A0<|⟨⟨(a3).trans (a).symm,tT⟩,?_⟩
 refine AX 8 rfl<|Bf BK rfl rfl ((Ik p l c _ _ _ _ b6 hc hl hO)) (λrr aW g=>?_)
 have b7:=Dt.same (w1:=aW) am (λk hk hl=>g.1.block k hl)
 have ap:=a3.bl g.1
 have b8:=an.bl g.1
 have b9:=b3.bl g.1
 have ba:=kB ao g.1
 obtain ⟨y,rfl,a6⟩:=g.2
 have aJ:=ao.size
 have hy:=a6.mono (T:=λk=>w.heap.size<=k/\aT.heap.size<=k/\k<aW.heap.size) (λk hk aK=>⟨C9 aJ hk,hk,aK⟩)
 have aL:=a6.kindE
 have c4:=(an).lt
 have c5:=(a3).lt
 have c6:=(am).lt
 refine A0<|?_
 have a8:=Bs (ap.trans a.symm) Bi
 refine ⟨a8,?_⟩
 refine Ab 9 rfl (.mv rfl) a8 ?_
 refine Ab 10 rfl (.ext rfl rfl) a8 ?_
 refine Ab 11 rfl (.ext rfl rfl) a8 ?_
 refine Ab 12 rfl (.ext rfl rfl) a8 ?_
 refine AX 14 rfl<|Ax rfl rfl b9 Al rfl rfl (λaX a9 d cA=>?_)
 have bb:=Dt.same (w1:=aX) b7 (λk hk hl=>d.other k oM)
 have bc:=BP.same (w1:=aX) hy (λk hk hl=>d.other k oM)
 have bd:=ap.up d
 have be:=b8.up d
 have bg:=Dl ba (by exact GT d oO)
 refine A0<|?_
 have aY:=Bs (bd.trans a.symm) Bi
 refine ⟨aY,?_⟩
 refine Ab 15 rfl (.as rfl) aY ?_
 refine Ab 16 rfl (.as rfl) aY ?_
 refine BH kR<|Ad<|A4<|A3 rfl<|A1 (.bis (false) (.neq rfl rfl) dD)<|A0<|Aq rfl rfl<|Ap<|A4<|A1 (.fa Ay rfl Bw dD rfl)<|Ah (Ae (BZ _) rfl a9 rfl)<|A1 (.bis (true) (.eql rfl rfl) (by rw [aL];rfl))<|Ao (CZ _) (λcR bh=>?_)
 obtain rfl:=bh
 refine A0<|A4<|A3 rfl<|Ah (Bk rfl a9 Ay rfl Al)<|A1 (.nck rfl)<|A1 (.fa R6 rfl CU dD rfl)<|QO 2 (fdC p l c bm y) be Al (λaZ aa L cB=>?_)
 have bi:=Dt.same (w1:=aZ) bb (λk hk hl=>L.other k oM)
 have aq:=BP.same (w1:=aZ) bc (λk hk hl=>L.other k oM)
 have bj:=Dl bg (by exact QY L (by simp))
 refine A0<|Am<|A3 rfl<|Bf BK rfl rfl ((Lp bf bm p l c y _ 7 0 [] [Np,No] _ No 1 _ aa aq dD (by simp) dD rfl dD)) (λz1 a' E=>?_)
 have bk:=Dt.same (w1:=a') bi (λk hk hl=>E.block k hl)
 have ar:=BP.same (w1:=a') aq (λk hk hl=>E.block k hl)
 have au:=aa.bl E
 have bn:=kB bj E
 refine A1 (.fld Ay rfl BZ rfl rfl)<|A1 (.bis (true) (.eql rfl rfl) (by rw [BP.kindE z1.2];rfl))<|A3 rfl<|Az rfl<|A3 rfl<|Az rfl<|Bf BK rfl rfl ((Lp bf bm p l c y _ 7 0 [] [Np,No] _ Np 0 _ au ar dD (by simp) dD rfl dD)) (λz2 b0 F=>?_)
 have bo:=Dt.same (w1:=b0) bk (λk hk hl=>F.block k hl)
 have bp:=BP.same (w1:=b0) ar (λk hk hl=>F.block k hl)
 have bq:=au.bl F
 have bt:=kB bn F
 refine Az rfl<|A1 (.fld Ay rfl BZ rfl rfl)<|Az rfl<|A1 (.bis (true) (.eql rfl rfl) (by rw [BP.kindE z2.2];rfl))<|A1 (.pkT rfl rfl rfl)<|Ao (CZ _) (λcS bu=>?_)
 obtain rfl:=bu
 refine A0<|Cx (Cd rfl ?_)
 exact ⟨rfl,bt,y,bq,(bp).mono (λk hk _=>hk.1),by simpa using bo⟩
 have bY:=dF aF
 obtain rfl:k=0:=by omega
 refine Ap<|Am<|A3 rfl<|A3 rfl<|A3 rfl<|Cm BK rfl rfl ((W9 br bf ah bm p l c _ ps (JN ps r 1) _ ab Q rfl (by simpa [A0f] using bU) (by simpa using aE) o hc hl s1 hps hpl hpb bS hpb3 n1 oO n3 oO oO n6)) (λcT i=>?_)
 have bv:=B0.keepB Q i.1 Q.lt (by simp only [A6,A5,As,not_or,Ac];omega)
 have bw:=Ag.keepB o i.1 (λj=>⟨o.lt j,by (have q:=(hpb) j;have q1:=o.lt j;simp only [A6,A5,As,not_or,Ac];omega)⟩)
 have bz:=Dl ac (C7 i.1 ac.size (by simp <;> omega))
 have cC:=i.2.1
 have cD:=i.2.2.1
 have cE:=i.2.2.2
 refine A0<|Am<|A3 rfl<|A1 (.add rfl rfl (Ba oO))<|A9 rfl ?_
 exact ⟨1,⟨rfl,rfl,rfl,rfl,tT⟩,⟨bz,cC,bv,bw,by simpa using cD,by simpa using cE,oM⟩,oM⟩
end
section
def Oa:l8_:=[115,116,97,114,116,120,114,101,102]
def KW (ts:List (l8_)):Nat:=9+(Ez 0 ts).length
def Jo (ts:List (l8_)):l8_:=Oa++(10::(B7 (KW ts)++(10::37::37::69::79::70::[10])))
theorem XX (ts:List (l8_)):EH ts=(JZ++Ez 0 ts)++([120,114,101,102]++(10::JN (Ds 9 0 ts) (Jo ts) 0)):=by
 unfold EH
 rw [AS]
 congr 2
 have a:B7 0=[48]:=En 0 dD
 simp only [JN,a,A4J,Tv,LJ,Ph,Tw,Jo,Oa,XY,KW,Hl,AS,Bb,C4]
theorem V0 (ts:List (l8_)):([120,114,101,102]++(10::JN (Ds 9 0 ts) (Jo ts) 0)) <:+ EH ts:=by rw [XX];exact List.suffix_append _ _
theorem UZ (ts:List (l8_)):sx (EH ts) ([120,114,101,102]++(10::JN (Ds 9 0 ts) (Jo ts) 0))=KW ts:=by
 unfold sx
 rw [XX,A8,Gi,A8];rfl
theorem Nt (ts:List (l8_)):Jo ts <:+ EH ts:=by
 have a:=V0 ts
 have b:JN (Ds 9 0 ts) (Jo ts) 0 <:+ EH ts:=DT (A:=[120,114,101,102,10]) a
 have q:(EI (Ds 9 0 ts)++JN (Ds 9 0 ts) (Jo ts) 1) <:+ EH ts:=Ek (DT (Ek (DT (A:=B7 0) b)))
 exact Ek (DT (Ek (DT (A:=Tw) (DT q))))
theorem Zp (ts:List (l8_)):∃ r,EH ts=37::80::68::70::45::49::46::52::10::r:=⟨_,rfl⟩
theorem A3F (ts:List (l8_)):((EH ts).drop (sx (EH ts) (Jo ts))).take Oa.length=Oa:=by
 rw [EE (Nt ts)]
 exact List.take_left
theorem A5k (ts:List (l8_)) (j:Nat) (hj:sx (EH ts) (Jo ts)<j) (hjl:j+Oa.length<=(EH ts).length):((EH ts).drop j).take Oa.length≠Oa:=by
 intro h
 obtain ⟨i,rfl⟩:∃ i,j=sx (EH ts) (Jo ts)+(i+1):=⟨j-sx (EH ts) (Jo ts)-1,oO⟩
 rw [<- E2,EE (Nt ts)] at h
 have hm:(115:UInt8)∈((Jo ts).drop (i+1)).take Oa.length:=by rw [h];decide
 have a:=H0 (show (115:UInt8)∈((Jo ts).drop 1).drop i by rw [E2,Nat.add_comm 1 i];exact Eh hm)
 have e:(Jo ts).drop 1=[116,97,114,116,120,114,101,102,10]++(B7 (KW ts)++[10,37,37,69,79,70,10]):=rfl
 rw [e] at a
 rcases B9.1 a with b | b
 · revert b;decide
 ·
  rcases B9.1 b with c | c
  · have:=(IA _ _ c).2;revert this;decide
  · revert c;decide
theorem A3G (ts:List (l8_)):sx (EH ts) (Jo ts)+Oa.length<(EH ts).length:=by
 have:=I3 (Nt ts)
 have e:(Jo ts).length=9+(1+((B7 (KW ts)).length+7)):=by simp only [Jo,A8,Aa,Ak];show 9+_=_;omega
 have a:Oa.length=9:=rfl
 omega
def AM (S:Nat->Prop) (w:World) (bf:Nat) (l:l8_) (ps:List Nat):Prop :=
 ∃ p c bm y,B0 w bf (fdC p l c bm y) 82/\S bf/\Ag w p l/\(0<l.length->S (pA p).block)/\l.length<=c/\Dt Tryz.prog 3 3 w bm ps.length (T8 ps) ps.length/\S bm/\BP w S y (trP (ps.length+1))
theorem AM.same  {ps:List Nat} (h:AM S w bf l ps) (hb:∀ k,S k->k<w.heap.size->w1.heap[k]?=w.heap[k]?):AM S w1 bf l ps:=by
 obtain ⟨p,c,bm,y,a,b,d,e,i,m,f,o⟩:=h
 exact ⟨p,c,bm,y,(hb bf b a.lt).trans a,b,d.same λg=>hb _ (e g) (d.lt g),e,i,m.same λj hj hl=>hb j (hj▸f) hl,f,o.same hb⟩
theorem AM.mono  {ps:List Nat} (h:AM S w bf l ps) (hb:∀ k,S k->k<w.heap.size->T k):AM T w bf l ps:=by
 obtain ⟨p,c,bm,y,a,f,b,g,i,d,j,m⟩:=h
 exact ⟨p,c,bm,y,a,hb _ f a.lt,b,λe=>hb _ (g e) (b.lt e),i,d,hb _ j d.lt,m.mono hb⟩
theorem Ag.rest  {r:l8_} (h:Ag w p l) (hc:l.length<=c) (hs:r <:+ l):Ag w (DV p c (sx l r)) r:=by
 have:=Ag.part (a:=sx l r) (b:=l.length) h (GD _ _) (DP _) hc
 rwa [EE hs,An (by have:=I3 hs;omega)] at this
theorem YO (br:Nat) (p:Option Addr) (l:l8_) (c n:Nat) (r:l8_) (w:World) (h:B0 w br (Jl p l c (sx l (B7 n++(10::37::37::69::79::70::r)))) 78) (hb:Ag w p l) (hc:l.length<=c) (hl:l.length<=100000000) (hpb:0<l.length->(pA p).block≠br)
  (hs:(B7 n++(10::37::37::69::79::70::r)) <:+ l) (hn:n<10000000000) :
  Calls Tryz.prog 30 #[ptV br] w λe w'=>e=.returned (Af (n:Int))/\AR w.heap.size [br] w w'/\∃ t,B0 w' br (Jl p l c t) 78:=by
 obtain ⟨ad,ae,-⟩:=GA (GD _ _) (EE hs) (Oc n) (DF dD)
 have V:=DB 9 n oO
 have X:(B7 n).all BW=true:=AN.2 λc hc=>by
  have:=IA n c hc;unfold BW;simp [this.1,this.2]
 have s1:=DT hs
 have s2:=Ek s1
 have aq:=I3 s2
 refine Ar func30 rfl ntmps30 ?_
 have af:=AR.refl w.heap.size ([br]) w
 refine A4<|A9 rfl<|Ad<|D6 14 rfl BR (λw'=>w'.heap[br]?=w.heap[br]?/\True) (λw1 B=>?_)
 have C:=h.drew B
 have D:=hb.drew B
 have U:=Dl af (OS B)
 have a:=Bs (C.trans h.symm) Bi
 refine Ab 0 rfl (.mv rfl) a ?_
 refine Ab 1 rfl (.nck rfl) a ?_
 refine Ab 2 rfl (.fa DE rfl D8 dD rfl) a ?_
 refine BX 3 rfl (λw' hw'=>Ae (g22_ _) rfl ((hw'.1).trans h) rfl) a rfl ?_
 refine Ab 4 rfl (.mv rfl) a ?_
 refine Ab 5 rfl (.nck rfl) a ?_
 refine Ab 6 rfl (.fa DE rfl Bw dD rfl) a ?_
 refine BX 7 rfl (λw' hw'=>Ae (BZ _) rfl ((hw'.1).trans h) rfl) a rfl ?_
 refine AX 8 rfl<|Ao (Hi p l c _ _ (GD _ _) D hc hl) (λw5 ag=>?_)
 obtain rfl:=ag
 refine A0<|⟨a,?_⟩
 refine Ab 9 rfl (.mv rfl) a ?_
 refine Ab 10 rfl (.ext rfl rfl) a ?_
 refine Ab 11 rfl (.ext rfl rfl) a ?_
 refine Ab 12 rfl (.as rfl) a ?_
 refine Ab 13 rfl (.as rfl) a ?_
 refine BH kR<|Ad ?_
 rw [ad,ae]
 refine Am<|A3 rfl<|A1 (.bis (true) (.nes rfl rfl) (by simp [Od]))<|A3 rfl<|Az rfl<|A3 rfl<|Az rfl<|A1 (.len Gk rfl)<|Az rfl<|A1 (.bis (true) (.leq rfl rfl) (by exact AP oO))<|A1 (.pkT rfl rfl rfl)<|Ao (CZ _) (λw6 ah=>?_)
 obtain rfl:=ah
 refine A0<|A4<|A3 rfl<|TG Gk B1 FK rfl rfl (λb7 av cz E hz aw m ar=>?_)
 have ai:=Bl E C.lt
 have aj:=C.un m ai
 have Q:=λk=>E▸D.lt k
 have F:=Ce D m Q
 have R:=CF E U.size
 have a0:=Dl U (GT m R)
 refine Cm BK rfl rfl ((by have q:=KB _ (B7 n) _ cz _ rfl hz V X;rw [show Cv (B7 n)=n from KJ n] at q;exact q)) (λax o=>?_)
 have a1:=aj.bl o
 have a2:=DL F o (λk=>F.lt k)
 have a3:=kB a0 o
 refine A9 rfl<|A4<|A3 rfl<|A3 rfl<|A1 (.nck rfl)<|A1 (.fa DE rfl Bw dD rfl)<|Br Bw rfl rfl rfl a1 (by exact Nat.le_of_ble_eq_true rfl) (λak g d an=>?_)
 have g:B0 ak br _ _:=g
 have d:CK br _ _:=d
 have s:=Ag.upd a2 d (hpb)
 have G:=Dl a3 (by exact QY d (by simp))
 refine A0<|A4<|A3 rfl<|Ao (JP 10 37 _ g s hl hpb s1 dD dD) (λal u=>?_)
 have a4:=Ag.keepB s u.1 (λk=>⟨s.lt k,by simpa using (hpb) k⟩)
 have a5:=Dl G (C7 u.1 G.size (by simp <;> omega))
 have f:=u.2
 refine A0<|Ad<|D6 13 rfl BR (λw'=>w'.heap[br]?=al.heap[br]?/\True) (λay v=>?_)
 have x:=f.drew v
 have H:=a4.drew v
 have J:=Dl a5 (OS v)
 have b:=Bs (x.trans f.symm) Bi
 refine Ab 0 rfl (.mv rfl) b ?_
 refine Ab 1 rfl (.nck rfl) b ?_
 refine Ab 2 rfl (.fa DE rfl D8 dD rfl) b ?_
 refine BX 3 rfl (λw' hw'=>Ae (g22_ _) rfl ((hw'.1).trans f) rfl) b rfl ?_
 refine Ab 4 rfl (.mv rfl) b ?_
 refine Ab 5 rfl (.nck rfl) b ?_
 refine Ab 6 rfl (.fa DE rfl Bw dD rfl) b ?_
 refine BX 7 rfl (λw' hw'=>Ae (BZ _) rfl ((hw'.1).trans f) rfl) b rfl ?_
 refine Ab 8 rfl (.slbF B1 EA rfl rfl  (sx l (37::37::69::79::70::r)) (rfl) (GD _ _)) b ?_
 refine AX 9 rfl<|Cs (ps:=_) B1 EA Mt rfl rfl rfl rfl rfl pR rfl (λaz au y T i ao=>?_)
 have a6:=Bl y x.lt
 have K:=x.un i a6
 have A:=λk=>y▸H.lt k
 have a7:=Ce H i A
 have L:=CF y J.size
 have a8:=Dl J (GT i L)
 refine A0<|⟨⟨(K).trans (f).symm,tT⟩,?_⟩
 refine AX 10 rfl<|MV ([37,37,69,79,70]) B1 FK rfl T rfl rfl (λaA hy j ap=>?_)
 have N:=K.up j
 have a9:=Ce a7 j A
 have aa:=Dl a8 (by exact GT j oO)
 refine A0<|?_
 have P:=Bs (N.trans f.symm) Bi
 refine ⟨P,?_⟩
 refine AX 11 rfl ?_
 have am:=(a9).rest hc s2
 refine Cm BK rfl rfl ((Mr _ (37::37::69::79::70::r) _ _ _ [37,37,69,79,70] _ _ _ oO rfl am hy oE oO)) (λaB ab=>?_)
 obtain rfl:=ab
 refine A0<|⟨P,?_⟩
 refine AX 12 rfl<|Ao (CZ _) (λaC ac=>?_)
 obtain rfl:=ac
 refine A0<|⟨P,?_⟩
 refine BH kR<|A4<|A3 rfl<|A9 rfl<|AW ?_
 exact ⟨rfl,aa,_,N⟩
end
section
theorem Kd  {fn:Func} {a b:Tmp} {x y:Value} (hr:fn.results=#[.cell a ta,.cell b tb]) (ha:look f a=some (.pointer (some pa))) (hb:look f b=some (.pointer (some pb)))
  (hx:(loadVar ta pa).run P w=.ok x w) (hy:(loadVar tb pb).run P w=.ok y w):CQ P fn f w (.tuple #[x,y]):=λtmps hh=>by
 have e1:=hh _ _ ha;have e2:=hh _ _ hb
 simp only [AK] at e1 e2
 simp [results,hr,e1,e2,asAddr,hx,hy]
end
section
theorem Mj (b:Nat) (w:World):Calls Tryz.prog 24 #[.nilIface,ptV b] w λe w'=>e=.returned (.tuple #[])/\w=w':=by
 refine Ar func24 rfl ntmps24<|Ad<|A4<|A3 rfl<|A1 (.eqNil0 kR rfl)<|A0<|BQ rfl rfl<|AT (Cd rfl  ?_)
 exact ⟨rfl,rfl⟩
theorem Wr (b2 b3:Nat) (w:World) (h:B0 w b3 #[Af 0] 35) :
  CallsD Tryz.prog 23 #[ptV b3,ptV b2] .returning w λe u' w'=>u'=.returning/\(∃ v,e=.returned v)/\w'=w:=by
 refine Eo func23 rfl ntmps23 bL rfl<|Ao (Mj _ _) (λb a=>?_)
 obtain rfl:=a
 refine A0<|A4<|Ah (Ae (Ed _) rfl h rfl)<|A1 (.neq rfl rfl)<|A0<|Aq rfl rfl<|Ap<|Cx (Cd rfl ?_)
 exact ⟨⟨_,rfl⟩,rfl⟩
theorem A1E (n:Nat):∃ d ds,B7 n=d::ds/\CV d=false:=by
 obtain ⟨d,ds,hd⟩:=List.exists_cons_of_ne_nil (Od n)
 exact ⟨d,ds,hd,(U9 (V8 (IA n d (by rw [hd];simp)))).1⟩
theorem Wi (p0:Option Addr) (c0:Nat) (ts:List (l8_)) (w:World) (ha:Ag w p0 (EH ts)) (hc:(EH ts).length<=c0) (hl:(EH ts).length<=1048576) (hts:ts.length<=4096) :
  Calls Tryz.prog 14 #[.slice p0 (EH ts).length c0] w λe w'=>∃ bf,e=.returned (.tuple #[ptV bf,Af 0])/\AM (λk=>w.heap.size<=k) w' bf (EH ts) (Ds 9 0 ts)/\AL w w':=by
 have bg:=A3F ts
 have bM:=A5k ts
 have bN:=A3G ts
 have ao:=Nt ts
 have bh:=V0 ts
 have htab_at:=UZ ts
 have cz:=Hl ts 9 0
 have bO:∀ n∈Ds 9 0 ts,n<10000000000:=λn hn=>by
  have h1:=Ls ts 9 0 n hn;have h2:=GD (EH ts) ([120,114,101,102]++(10::JN (Ds 9 0 ts) (Jo ts) 0));rw [htab_at] at h2;unfold KW at h2;omega
 have bP:=GD (EH ts) ([120,114,101,102]++(10::JN (Ds 9 0 ts) (Jo ts) 0))
 rw [htab_at] at bP
 obtain ⟨hr,hh⟩:=Zp ts
 have hR:Jo ts=Oa++(10::(B7 (KW ts)++(10::37::37::69::79::70::[10]))):=rfl
 generalize Ds 9 0 ts=ps at *
 generalize KW ts=at0 at *
 generalize Jo ts=R at *
 generalize EH ts=l at *
 subst hR
 have e8:8<l.length:=by rw [hh];simp only [Aa];omega
 have e7:l[7]=52:=by subst hh;rfl
 have bi:decide (l.take 7=[37,80,68,70,45,49,46])=true:=by rw [hh];rfl
 have s1:=DT ao
 have s2:=Ek s1
 have a9:=NL ao
 have h9:Oa.length=9:=rfl
 obtain ⟨d,ds,ap,bQ⟩:=A1E at0
 have bj:l=[]->c0=0\/p0≠none:=λe=>by rw [e] at e8;simp at e8
 refine GQ func14 rfl ntmps14 bL ?_
 have ba:=CN w
 refine WD.seq<|Am<|Bj zeroValue38 rfl (λb1 cA aq ar au cm=>?_)
 have bk:=λa=>aq▸ha.lt a
 have bb:=Ce ha au bk
 have bc:=uB ba aq au
 have cb:=CF aq ba.size
 refine Bj SN rfl (λb5 cB a8 av a2 cn=>?_)
 have bR:=Bl a8 ar.lt
 have bd:=ar.un a2 bR
 have bm:=λa=>a8▸bb.lt a
 have be:=Ce bb a2 bm
 have aw:=uB bc a8 a2
 have cc:=CF a8 bc.size
 refine A0<|WD.seq<|A4<|A3 rfl<|A1 (.lenS B1 rfl)<|A1 (.bis (false) (.gtr rfl rfl) (by exact AJ oO))<|A0<|Aq rfl rfl<|Ap<|WD.defer rfl rfl<|Nz<|A4<|Cs (ps:=_) B1 EA Mt rfl rfl rfl rfl rfl pR rfl (λcC co D a' u cd=>?_)
 have bn:=Bl D bd.lt
 have bo:=Bl D av.lt
 have aa:=λa=>D▸be.lt a
 have bS:=CF D aw.size
 refine MV ([37,80,68,70,45,49,46]) B1 FK rfl a' rfl rfl (λcD bT x cf=>?_)
 have ax:=(bd.un u bn).up x
 have ay:=(av.un u bo).up x
 have m:=Ce (Ce be u aa) x aa
 have az:=BU (uB aw D u) oO x
 refine A9 rfl<|A4<|A3 rfl<|A3 rfl<|Cm BK rfl rfl ((IT true p0 l _ c0 _ [37,80,68,70,45,49,46] _ 7 _ rfl rfl m bT oE hc bi)) (λcE bp=>?_)
 obtain rfl:=bp
 refine A3 rfl<|Az rfl<|A3 rfl<|Az rfl<|A1 (.lenS B1 rfl)<|Az rfl<|A3 rfl<|Az rfl<|A1 (.lenS B1 rfl)<|Az rfl<|A1 (.bis (true) (.gtr rfl rfl) (by exact AP oO))<|A1 (.pkT rfl rfl rfl)<|A3 rfl<|Az rfl<|A3 rfl<|Az rfl<|A3 rfl<|Az rfl<|A1 (.lenS B1 rfl)<|Az rfl<|A1 (.ixb B1 EA rfl rfl (m.isp oO) (7) (rfl) oO)<|Az rfl<|Ah (Bq (Iz _) rfl (m.cells (7) oO))<|Az rfl<|A1 (.bis (true) (.geq rfl rfl) (by rw [e7];rfl))<|A1 (.pkT rfl rfl rfl)<|A3 rfl<|Az rfl<|A3 rfl<|Az rfl<|A3 rfl<|Az rfl<|A1 (.lenS B1 rfl)<|Az rfl<|A1 (.ixb B1 EA rfl rfl (m.isp oO) (7) (rfl) oO)<|Az rfl<|Ah (Bq (Iz _) rfl (m.cells (7) oO))<|Az rfl<|A1 (.bis (true) (.leq rfl rfl) (by rw [e7];rfl))<|A1 (.pkT rfl rfl rfl)<|Ao (CZ _) (λcF bq=>?_)
 obtain rfl:=bq
 refine A0<|A4<|A3 rfl<|Cs (ps:=_) B1 EA Mt rfl rfl rfl rfl rfl pR rfl (λcG cq E b0 A cg=>?_)
 have bt:=Bl E ax.lt
 have bu:=Bl E ay.lt
 have ab:=λa=>E▸m.lt a
 have bU:=CF E az.size
 refine MV ([115,116,97,114,116,120,114,101,102]) B1 FK rfl b0 rfl rfl (λcH bV B ci=>?_)
 have aA:=Ce (Ce m A ab) B ab
 refine Cm BK rfl rfl ((RF p0 l c0 _ Oa _ _ _ aA bV hc oO dD bN bg bM)) (λcI P=>?_)
 have aB:=((ax.un A bt).up B).drew P
 have aC:=((ay.un A bu).up B).drew P
 have aD:=C6.below (BU (uB az E A) oO B) P
 refine A9 rfl<|A4<|A3 rfl<|A1 (.bis (true) (.geq rfl rfl) (by exact AP oO))<|Ao (CZ _) (λcJ bv=>?_)
 obtain rfl:=bv
 refine A0<|A4<|A3 rfl<|?_
 have cr:=(aB).lt
 have ct:=(aC).lt
 refine Bf BK rfl rfl ((Zx p0 l _ c0 _ rfl (aA.drew P) bj oO)) (λv cK Q=>?_)
 have aE:=aB.bl Q.1
 have aF:=aC.bl Q.1
 have aG:=Ci aD Q.1
 have bw:=Q.2
 have cu:=aD.size
 obtain ⟨pcl,ccl,ecl,aH,T,a3,cv⟩:=CP.bytesC (l:=l) bw
 subst ecl
 have bz:=(aH).lt
 refine A3 rfl<|A1 (.iis ((sx l (10::(B7 at0++(10::37::37::69::79::70::[10]))):Int)) (.add rfl rfl (Ba oO)) oO)<|?_
 refine A1 (.buildL (ps:=_) A1T rfl rfl rfl pS) ?_
 refine WL.box rfl rfl (λF bA G b2 C cj=>?_)
 have bB:=Bl G aE.lt
 have aI:=aE.un C bB
 have bC:=Bl G aF.lt
 have aJ:=aF.un C bC
 have ac:=λa=>G▸aH.lt a
 have a4:=Ce aH C ac
 have aK:=uB aG G C
 have bW:=CF G aG.size
 have bX:B0 bA F (Jl pcl l ccl (sx l (10::(B7 at0++(10::37::37::69::79::70::[10]))))) 78:=b2
 have i:0<l.length->(pA pcl).block≠F:=λa=>by have:=bz a;omega
 refine A9 rfl<|A4<|A3 rfl<|Ao (JP 10 d (ds++(10::37::37::69::79::70::[10])) (by rw [show 10::d::(ds++(10::37::37::69::79::70::[10]))=10::(B7 at0++(10::37::37::69::79::70::[10])) by rw [ap];rfl];exact bX) a4 oO i (by rw [show 10::d::(ds++(10::37::37::69::79::70::[10]))=10::(B7 at0++(10::37::37::69::79::70::[10])) by rw [ap];rfl];exact s1) dD bQ) (λbY H=>?_)
 have aL:=B0.keepB aI H.1 aI.lt (by simp only [A6,A5,As,not_or,Ac];omega)
 have aM:=B0.keepB aJ H.1 aJ.lt (by simp only [A6,A5,As,not_or,Ac];omega)
 have a5:=Ag.keepB a4 H.1 (λa=>⟨a4.lt a,by simpa using i a⟩)
 have aN:=Ej aK (AR.below H.1 aK.size (by simp <;> omega))
 have bZ:B0 bY F (Jl pcl l ccl (sx l (B7 at0++(10::37::37::69::79::70::[10])))) 78:=by have q:=H.2;rwa [show d::(ds++(10::37::37::69::79::70::[10]))=B7 at0++(10::37::37::69::79::70::[10]) by rw [ap];rfl] at q
 refine A0<|A4<|A3 rfl<|Ao (YO F pcl l ccl at0 [10] _ bZ a5 a3 oO i s2 oO) (λcL J=>?_)
 have aO:=B0.keepB aL J.1 aL.lt (by simp only [A6,A5,As,not_or,Ac];omega)
 have aP:=B0.keepB aM J.1 aM.lt (by simp only [A6,A5,As,not_or,Ac];omega)
 have a6:=Ag.keepB a5 J.1 (λa=>⟨a5.lt a,by simpa using i a⟩)
 have aQ:=Ej aN (AR.below J.1 aN.size (by simp <;> omega))
 obtain ⟨t5,ad⟩:=J.2
 refine A9 rfl<|A4<|A3 rfl<|A3 rfl<|A1 (.lenS B1 rfl)<|A1 (.bis (true) (.leq rfl rfl) (by exact AP oO))<|Ao (CZ _) (λcM bD=>?_)
 obtain rfl:=bD
 refine A0<|A4<|A3 rfl<|A1 (.nck rfl)<|A1 (.fa DE rfl D8 dD rfl)<|Ah (Ae (g22_ _) rfl ad rfl)<|?_
 have ae:=(a6).lt
 have ck:=(ad).lt
 refine A23 3 3 rfl (λN cw t b3 o cl=>?_)
 have bE:=Bl t aO.lt
 have aR:=aO.un o bE
 have bG:=Bl t aP.lt
 have aS:=aP.un o bG
 have bH:=Bl t ad.lt
 have aT:=ad.un o bH
 have aU:=λa=>t▸a6.lt a
 have af:=Ce a6 o aU
 have ag:=uB aQ t o
 have b':=CF t aQ.size
 refine A1 (.build (cs:=fdC pcl l ccl N (DK 0 0 [])) rfl (by rw [A6v];rfl)) ?_
 refine WL.box rfl rfl (λU V j aV f c2=>?_)
 have b4:=Bl j aR.lt
 have b6:=Bl j aS.lt
 have b7:=Bl j aT.lt
 have aW:=λa=>j▸af.lt a
 have ah:=Ce af f aW
 have bK:=CF j ag.size
 have ai:0<l.length->(pA pcl).block≠U:=λa=>by have:=(ah).lt a;have:=ae a;omega
 have aj:0<l.length->(pA pcl).block≠N:=λa=>by have:=ae a;omega
 have c3:B0 V U (fdC pcl l ccl N (DK 0 0 [])) 82:=aV
 have bI:Dt Tryz.prog 3 3 V N 0 (T8 []) 0:=by rw [A35];exact (Dt.same (w1:=V) b3 (λk hk hl=>f.other k oO))
 refine Cn (aR.un f b4) sizeOf38 (λbJ aX g c4=>?_)
 refine A0<|A4<|A3 rfl<|A3 rfl<|A1 (.nck rfl)<|A1 (.fa DE rfl Bw dD rfl)<|Br Bw rfl rfl rfl ((aT.un f b7).up g) (by exact Nat.le_of_ble_eq_true rfl) (λaY K b c5=>?_)
 have K:B0 aY F _ _:=K
 have b:CK F _ _:=b
 have X:=aX.up b
 have ak:=((aS.un f b6).up g).up b
 have a0:=Ce (Ag.upd ah g (λa=>by have:=T a;omega)) b ac
 have am:=BU (BU (uB ag j f) oO g) oO b
 refine A0<|A4<|A3 rfl<|Ah (Ae (isAgg38 _) rfl X rfl)<|Cm BK rfl rfl ((A0u F U N pcl l ccl ps _ _ (by rw [htab_at];exact K) ((c3.upd g oM).up b) (Dt.same (w1:=aY) (Dt.same (w1:=bJ) bI (λk hk hl=>g.other k oM)) (λk hk hl=>b.other k oM)) a0 a3 oO bh bO oO i ai aj oO oO oO)) (λcy s=>?_)
 have an:=B0.keepB X s.1 X.lt (by simp only [A6,A5,As,not_or,Ac];omega)
 obtain ⟨y,c6,c7,c8⟩:=s.2
 refine A0<|A4<|Ah (Ae (isAgg38 _) rfl an rfl)<|Br sizeOf38 rfl rfl rfl an (by exact Nat.le_of_ble_eq_true rfl) (λa7 L c c9=>?_)
 have L:B0 a7 b1 _ _:=L
 have c:CK b1 _ _:=c
 refine Cn ((B0.keepB ak s.1 ak.lt (by simp only [A6,A5,As,not_or,Ac];omega)).up c) EJ (λaZ a1 h ca=>?_)
 have b8:=Dt.same (w1:=aZ) (Dt.same (w1:=a7) c8 (λk hk hl=>c.other k oM)) (λk hk hl=>h.other k oM)
 have b9:=BP.same (w1:=aZ) (BP.same (w1:=a7) c7 (λk hk hl=>c.other k oM)) (λk hk hl=>h.other k oM)
 refine A0<|AT ?_
 exact D1.ret A7j (λw'=>_) (Wr b1 b5 _ a1) (λw' hS=>by
  subst hS;exact ⟨_,Kd rfl rfl rfl (B5 (L.up h) (isAgg38 _) rfl) (B5 a1 (Ed _) rfl),⟨U,Ff rfl,⟨pcl,ccl,N,y,((c6.upd c oM).up h),oO,(Ag.upd (Ag.upd (Ag.keepB a0 s.1 (λa=>⟨a0.lt a,by (have q2:=ai a;have q3:=aj a;have q1:=i a;simp only [A6,A5,As,not_or,Ac];omega)⟩)) c (λa=>by have:=T a;omega)) h (λa=>by have:=T a;omega)),λa=>by (have:=T a;omega),a3,b8,oO,(b9).mono (λk hk _=>by omega)⟩,(BU (BU (Ej am (AR.below s.1 am.size (by simp <;> omega))) oO c) oO h)⟩⟩)
end
section
def Xe (S:Nat->Prop) (w:World) (v:Value) (cs:List AC):Prop:=AD EN 27 0 w v cs/\∀ g,v.ownBlock=some g->S g
theorem Xe.same  {l:List AC} (h:Xe S w v l) (hb:∀ k,S k->k<w.heap.size->w1.heap[k]?=w.heap[k]?):Xe S w1 v l:=⟨h.1.same λg hg=>hb g (h.2 g hg) (h.1.lt g hg).2,h.2⟩
theorem Xe.mono  {l:List AC} (h:Xe S w v l) (hT:∀ k,S k->k<w.heap.size->T k):Xe T w v l:=⟨h.1,λg hg=>hT g (h.2 g hg) (h.1.lt g hg).2⟩
theorem E5.mono  {l:List (l8_)} (h:E5 S w v l) (hT:∀ k,S k->k<w.heap.size->T k):E5 T w v l:=⟨h.1,λg hg=>hT g (h.2 g hg) (h.1.lt g hg).2⟩
theorem A49  {cs:List PC} (h:AD KE e B w v cs):AD EN e B w v (cs.map CW):=by
  have hf:EN.flat (cs.map CW)=KE.flat cs:=by
    unfold FW.flat
    rw [List.flatMap_map];rfl
  rcases h with ⟨a,b⟩ | ⟨g,cap,cur,a,b,c,d,f,i,j⟩
  · exact .inl ⟨a,by rw [b];rfl⟩
  · refine .inr ⟨g, cap, cur, by rw [By]; exact a, b, c, by rw [By]; exact d, f, i, ?_⟩
    rw [By,hf];exact j
structure Vk (w:World) (S:Nat->Prop) (z:AC):Prop where
 k:∃ ks,E5 S w (.slice z.kp z.kl z.kc) ks
 l:∃ cs,Xe S w (.slice z.lp z.ll z.lc) cs
 d:∃ d,ED S w (.slice z.dp z.dl z.dc) d
theorem Vk.same  {z:AC} (h:Vk w S z) (hb:∀ k,S k->k<w.heap.size->w1.heap[k]?=w.heap[k]?):Vk w1 S z:=⟨h.k.imp λ_ q=>q.same hb,h.l.imp λ_ q=>q.same hb,h.d.imp λ_ q=>q.same hb⟩
theorem Vk.mono  {z:AC} (h:Vk w S z) (hb:∀ k,S k->k<w.heap.size->T k):Vk w T z:=⟨h.k.imp λ_ q=>q.mono hb,h.l.imp λ_ q=>q.mono hb,h.d.imp λ_ q=>q.mono hb⟩
theorem BP.tops  {x:PC} {o:PV} (h:BP w S x o):Vk w S (CW x):=by
 cases h with
 | mk _ keys list cs hk hr hlen hsub=>exact ⟨⟨keys,hk⟩,⟨_,A49 hr.1,hr.2⟩,⟨[],ED.nil _ _⟩⟩
def Kp (w:World) (S:Nat->Prop) (z:AC) (o:AV):Prop:=AB w S z o/\Vk w S z
theorem Kp.same  {z:AC} {o:AV} (h:Kp w S z o) (hb:∀ k,S k->k<w.heap.size->w1.heap[k]?=w.heap[k]?):Kp w1 S z o:=⟨h.1.same hb,h.2.same hb⟩
theorem Kp.mono  {z:AC} {o:AV} (h:Kp w S z o) (hb:∀ k,S k->k<w.heap.size->T k):Kp w T z o:=⟨h.1.mono hb,h.2.mono hb⟩
def Gm:l8_:=[76,101,110,103,116,104]
theorem BP.nE  {x:PC} {k n:Int} {t:l8_} {l:List PV} (h:BP w S x (.mk k n t ks l)):x.n=n:=h.parts.choose_spec.2.1
theorem T6 (f:Value) (y:PC) (S:Nat->Prop) (ks:List (l8_)) (vs:List PV) (m:Nat) (w:World) (hy:BP w S y (.mk 7 0 [] (ks++[Gm]) (vs++[Jm 2 (m:Int) []]))) (hn:Gm ∉ ks) (hl:ks.length<=100000) (hkl:ks.length=vs.length) :
  Cb 161 #[f,.agg (Wo y).toArray] w (Af (m:Int)):=by
 obtain ⟨cs,-,-,-,hk,hr,L,o⟩:=hy.parts
 obtain ⟨C,N,k3,P,-⟩:=hk.1.full
 obtain ⟨D,Q,r3,q,-⟩:=hr.1.full
 have s:=P.strs
 have e1:(ks++[Gm]).length=ks.length+1:=by simp
 have e2:(vs++[Jm 2 (m:Int) []]).length=vs.length+1:=by simp
 have hz:BP w S (cs[ks.length]'oO) (Jm 2 (m:Int) []):=by
  have:=o ks.length oO oO
  rwa [CB oO,show (Jm 2 (m:Int) []::[])[ks.length-vs.length]'(by simp;omega)=Jm 2 (m:Int) [] by simp] at this
 have i:=hz.kindE
 have j:=hz.nE
 obtain ⟨yk,yn,yt,ykp,ykl,ykc,ylp,yll,ylc⟩:=y
 simp only at C D s q N Q
 subst C D
 refine Ar func161 rfl ntmps161 ?_
 have k:=CN w
 refine A4<|WL.box rfl rfl (λb1 V d g b T=>?_)
 have t:=λc=>d▸s.lt c
 have E:=B3.upd s b (λc=>CR (t c))
 have u:=λc=>d▸q.lt c
 have l:=AG.upd q b (λc=>CR (u c))
 have F:=uB k d b
 have J:=CF d k.size
 refine A9 rfl<|A4<|A1 (.fa Ay rfl DU dD rfl)<|Ah (Ae (Fg _) rfl g rfl)<|Cm BK rfl rfl ((UK _ (ks++[Gm]) _ Gm _ E oO ks.length oO (by simp) (by simpa using hn))) (λw7 G=>?_)
 obtain rfl:=G
 refine A9 rfl<|Ad<|A4<|A3 rfl<|A1 (.bis (false) (.lss rfl rfl) (by exact AJ oO))<|A0<|Aq rfl rfl<|Ap<|A4<|A1 (.fa Ay rfl Cr dD rfl)<|Ah (Ae (Dv _) rfl g rfl)<|A3 rfl<|A1 (.ixm C2 CU rfl rfl (l.isp oO) (ks.length) (rfl) (by show ks.length<cs.length;omega))<|Ah (Dz Ay rfl Al l (ks.length) oO rfl)<|Bj Cz rfl (λb8 X H v x U=>?_)
 have A:=uB F H x
 refine Ax rfl rfl v Al rfl rfl (λa0 a h K=>?_)
 have B:=BU A oO h
 refine A0<|Ad<|A4<|A1 (.fa Ay rfl Bw dD rfl)<|Ah (Ae (BZ _) rfl a rfl)<|A1 (.bis (false) (.eql rfl rfl) (by rw [i];rfl))<|A0<|Aq rfl rfl<|Ap<|Ad<|A4<|A1 (.fa Ay rfl Bw dD rfl)<|Ah (Ae (BZ _) rfl a rfl)<|A1 (.bis (false) (.neq rfl rfl) (by rw [i];rfl))<|A3 rfl<|Az rfl<|A1 (.fa Ay rfl Bw dD rfl)<|Az rfl<|Ah (Ae (BZ _) rfl a rfl)<|Az rfl<|A1 (.bis (false) (.lss rfl rfl) (by rw [j];exact AJ oO))<|A1 (.pkF rfl rfl rfl)<|A0<|Aq rfl rfl<|Ap<|A4<|A1 (.fa Ay rfl Bw dD rfl)<|Ah (Ae (BZ _) rfl a rfl)<|A9 rfl<|AW ?_
 exact ⟨Ff (show Value.int .i64 (cs[ks.length]'oO).n=Af (m:Int) by rw [j]),B⟩
theorem Us  {a:Nat} (h:p=some (pA p)):DV p c a≠none:=by
 unfold DV
 rw [h];split <;> simp
def Nu:l8_:=[115,116,114,101,97,109]
def F0:l8_:=[101,110,100,115,116,114,101,97,109]
theorem A3q  (hn:Gm ∉ ks) (i:Nat) (hi:i<(ks++[Gm]).length):(!decide ((ks++[Gm])[i]=[76,101,110,103,116,104]))=!decide (ks.length<=i):=by
  congr 1
  by_cases h:ks.length<=i
  · have e : (ks ++ [Gm])[i] = Gm := by
      rw [CB h]
      simp
    rw [e,AP h];rfl
  · rw [AJ h, Bo, D7 oO]
    exact λq=>hn (by rw [show Gm=ks[i]'oO from q.symm];exact AA _)
theorem WG  (i:Nat) (hi:i<ks.length) (hi2:i<(ks++[Gm]).length):ks.take i++[(ks++[Gm])[i]]=ks.take (i+1):=by
 rw [D7 hi,Bg hi]
theorem AD.cast  {L:FW α} {l l':List α} (h:AD L e B w v l) (q:l=l'):AD L e B w v l':=q▸h
theorem VZ  {cs:List α} {n:Nat} (hi:i<n) (hn:n<=cs.length):(cs.take n).take i++[cs[i]'oO]=(cs.take n).take (i+1):=by
 have h:=Bg (l:=cs.take n) (i:=i) (by rw [At];omega)
 rw [Jh] at h
 exact h.symm
theorem A0a  {nk ck nl cl dc:Nat} {pk pl:Option Addr} {cs:List PC} {vs:List AV} (hk:AD G8 9 M w (.slice pk nk ck) ks) (hr:AD KE 27 M w (.slice pl nl cl) cs) (hSM:∀ g,M<=g->S g)
  (hkk:∀ k∈ks,k.length<=127) (hd:Ag w dp d) (hdS:0<d.length->S (pA dp).block) (hdc:d.length<=dc) (hdm:dc<=9223372036854775807) (hlen:cs.length=vs.length) (hsub:∀ i (h:i<cs.length) (h2:i<vs.length),BP w S cs[i] (JI vs[i])) (hsnd:∀ o∈vs,FY 31 false o) :
  AB w S ⟨9,0,[],pk,nk,ck,pl,nl,cl,dp,d.length,dc⟩ (.mk 9 0 [] ks vs d):=by
 obtain ⟨b,c,e,f,j⟩:=hk.full
 obtain ⟨l,m,q,s,t⟩:=hr.full
 refine AB.mk ⟨9,0,[],pk,nk,ck,pl,nl,cl,dp,d.length,dc⟩ ks vs d (cs.map CW) ⟨by simp,by simp,b,by rw [By];exact l,rfl,c,by rw [By];exact m,hdc,e,q,hdm⟩ (λk h=>by have:=hkk k h;omega) f.strs (λa=>hSM _ (hk.lt _ (j a)).1) (A46 s) (λa=>hSM _ (hr.lt _ (t (by simpa using a))).1) hd hdS (by simpa using hlen) λi h h2=>?_
 rw [G5]
 have ho:=hsnd _ (AA h2)
 have:=(hsub i (by simpa using h) h2).rep (T1 ho)
 rwa [A1Y ho (N7 ho)] at this
theorem T5 (f:Value) (br B:Nat) (p:Option Addr) (l:l8_) (c:Nat) (y:PC) (ks:List (l8_)) (vs:List AV) (d X:l8_) (w:World) (h:B0 w br (Jl p l c (sx l (10::(d++(10::(F0++(10::X))))))) 78) (hb:Ag w p l) (hc:l.length<=c) (hl:l.length<=100000000) (hpb:0<l.length->(pA p).block≠br)
    (hs:(10::(d++(10::(F0++(10::X))))) <:+ l) (hy:BP w (λk=>B<=k/\br<k) y (.mk 7 0 [] (ks++[Gm]) (Js vs++[Jm 2 (d.length:Int) []]))) (hB:B<=w.heap.size) (hn:Gm ∉ ks) (hkk:∀ k∈ks,k.length<=127) (hkl:ks.length=vs.length) (hvl:vs.length<=100) (hd:d.length<=1048576)
    (hsnd:∀ o∈vs,FY 31 false o) :
    Calls Tryz.prog 141 #[f,ptV br,.agg (Wo y).toArray] w λe w'=>∃ z:AC,e=.returned (.agg (DN z).toArray)/\Kp w' (λk=>B<=k) z (.mk 9 0 [] ks vs d)/\AR w.heap.size [br] w w'/\B0 w' br (Jl p l c (sx l (10::X))) 78:=by
  have s1:=Ek hs;have s2:=DT s1;have a1:=NL (A:=[10]) hs;have a2:=NL s1;have l1:=I3 s1;have l0:=I3 hs;simp only [A8,Aa,Ak] at l1 l0 a1;have hq:BP w (λk=>(B<=k/\br<k)/\k<w.heap.size) y (.mk 7 0 [] (ks++[Gm]) (Js vs++[Jm 2 (d.length:Int) []])):=hy.mono λk hk iS=>⟨hk,iS⟩
  obtain ⟨cs,jz,jA,jB,hk,hr,hN,hO⟩:=hq.parts;have js:=λ(w1:World) (h1:AL w w1)=>h1
  obtain ⟨k1,k2,k3,k4,-⟩:=hk.1.full;obtain ⟨r1,r2,r3,r4,-⟩:=hr.1.full;have k5:=k4.strs;have e1:(ks++[Gm]).length=ks.length+1:=by simp
  have e2:(Js vs++[Jm 2 (d.length:Int) []]).length=vs.length+1:=by rw [GF];simp
  have jC:decide (d.length<=9223372036854775807)=true:=AP oO;have hP:Gx w (λk=>(B<=k/\br<k)/\k<w.heap.size) cs (Js vs++[Jm 2 (d.length:Int) []]):=⟨hN,hO⟩;obtain ⟨yk,yn,yt,ykp,ykl,ykc,ylp,yll,ylc⟩:=y;simp only at k1 r1 k5 r4 k2 r2;subst k1 r1;have jD:=h.lt;have k6:=hk.1.full.2.2.2.2;have r6:=hr.1.full.2.2.2.2;have b4:0<(ks++[Gm]).length->(B<=(pA ykp).block/\br<(pA ykp).block)/\(pA ykp).block<w.heap.size:=λj=>hk.2 _ (k6 j)
  have b5:0<cs.length->(B<=(pA ylp).block/\br<(pA ylp).block)/\(pA ylp).block<w.heap.size:=λj=>hr.2 _ (r6 j)
  refine Ar func141 rfl ntmps141 ?_;have ht:=AR.refl w.heap.size ([br]) w;refine A4<|WL.box rfl rfl (λb1 hu bI dr aA jt=>?_);have iT:=Gw (w1:=hu) hP (λk hk hl=>aA.other k oO);have iU:=BP.same (w1:=hu) hq (λk hk hl=>aA.other k oO);have iV:=Bl bI h.lt;have hv:=h.un aA iV;have hQ:=λj=>bI▸hb.lt j
  have hz:=Ce hb aA hQ;have hS:=λj=>bI▸k5.lt j
  have hA:=B3.upd k5 aA (λj=>CR (hS j));have eC:=λj=>bI▸r4.lt j
  have ds:=AG.upd r4 aA (λj=>CR (eC j));have eD:=CF bI ht.size;have dt:=Dl ht (GT aA eD);refine Bj Cz rfl (λar c2 aK eF ak jm=>?_);have hU:=Gw (w1:=c2) iT (λk hk hl=>ak.other k oO);have hV:=BP.same (w1:=c2) iU (λk hk hl=>ak.other k oO);have hW:=Bl aK hv.lt;have ba:=hv.un ak hW;have hX:=Bl aK dr.lt;have hY:=dr.un ak hX;have eG:=λj=>aK▸hz.lt j
  have hZ:=Ce hz ak eG;have eH:=λj=>aK▸hA.lt j
  have h':=B3.upd hA ak (λj=>CR (eH j));have eI:=λj=>aK▸ds.lt j
  have i0:=AG.upd ds ak (λj=>CR (eI j));have du:=CF aK dt.size;have i1:=Dl dt (GT ak du);refine A0<|Ad<|D6 10 rfl BR (λw'=>w'.heap[br]?=c2.heap[br]?/\True) (λhC au=>?_);have i2:=Gw (w1:=hC) hU (λk hk hl=>(by obtain ⟨m,rfl⟩:=au;rfl));have i3:=BP.same (w1:=hC) hV (λk hk hl=>(by obtain ⟨m,rfl⟩:=au;rfl));have c3:=ba.drew au;have dv:=hY.drew au;have dw:=eF.drew au;have dx:=hZ.drew au;have dy:=h'.drew au;have dz:=i0.drew au;have dA:=Dl i1 (OS au);have az:=Bs (c3.trans ba.symm) Bi;refine Ab 0 rfl (.mv rfl) az ?_;refine Ab 1 rfl (.nck rfl) az ?_;refine Ab 2 rfl (.fa DE rfl D8 dD rfl) az ?_;refine BX 3 rfl (λw' hw'=>Ae (g22_ _) rfl ((hw'.1).trans ba) rfl) az rfl ?_;refine Ab 4 rfl (.mv rfl) az ?_;refine Ab 5 rfl (.nck rfl) az ?_;refine Ab 6 rfl (.fa DE rfl Bw dD rfl) az ?_;refine BX 7 rfl (λw' hw'=>Ae (BZ _) rfl ((hw'.1).trans ba) rfl) az rfl ?_;refine Ab 8 rfl (.slbF B1 EA rfl rfl  (sx l (10::(d++(10::(F0++(10::X)))))) (rfl) (GD _ _)) az ?_;refine Ab 9 rfl (.as rfl) az ?_;refine BH kR<|Ad<|AO<|A4<|A3 rfl<|Cs (ps:=_) B1 EA Mt rfl rfl rfl rfl rfl pR rfl (λjE dB aB eJ af jn=>?_);have i4:=Gw (w1:=dB) i2 (λk hk hl=>af.other k oO);have i5:=BP.same (w1:=dB) i3 (λk hk hl=>af.other k oO);have i6:=Bl aB c3.lt;have i7:=c3.un af i6;have i8:=Bl aB dv.lt;have i9:=dv.un af i8;have ia:=Bl aB dw.lt;have ib:=dw.un af ia;have cf:=λj=>aB▸dx.lt j
  have ic:=Ce dx af cf;have cg:=λj=>aB▸dy.lt j
  have id:=B3.upd dy af (λj=>CR (cg j));have ci:=λj=>aB▸dz.lt j
  have ie:=AG.upd dz af (λj=>CR (ci j));have dC:=CF aB dA.size;have ig:=Dl dA (GT af dC);refine MV ([13,10]) B1 FK rfl eJ rfl rfl (λhD iW ag jo=>?_);have ih:=Gw (w1:=hD) i4 (λk hk hl=>ag.other k oM);have ii:=BP.same (w1:=hD) i5 (λk hk hl=>ag.other k oM);have dE:=i7.up ag;have dG:=i9.up ag;have dH:=ib.up ag;have c4:=Ce ic ag cf;have dI:=B3.upd id ag (λj=>CR (cg j));have dJ:=AG.upd ie ag (λj=>CR (ci j));have dK:=Dl ig (by exact GT ag oO);have iX:=(c4).rest hc hs;refine Cm BK rfl rfl ((IT false _ (10::(d++(10::(F0++(10::X))))) _ _ _ [13,10] _ _ _ (by have:=I3 hs;omega) rfl iX iW (by simp only [Aa,A8,Ak];omega) (by have:=I3 hs;omega) (by simp))) (λjF ij=>?_);obtain rfl:=ij;refine A9 rfl<|Aq rfl rfl<|A4<|A3 rfl<|Cs (ps:=_) B1 EA Mt rfl rfl rfl rfl rfl pR rfl (λjG dL aC eK ah jp=>?_);have ik:=Gw (w1:=dL) ih (λk hk hl=>ah.other k oO);have il:=BP.same (w1:=dL) ii (λk hk hl=>ah.other k oO);have im:=Bl aC dE.lt;have io:=dE.un ah im;have ip:=Bl aC dG.lt;have iq:=dG.un ah ip;have ir:=Bl aC dH.lt;have it:=dH.un ah ir;have cj:=λj=>aC▸c4.lt j
  have iu:=Ce c4 ah cj;have cm:=λj=>aC▸dI.lt j
  have iv:=B3.upd dI ah (λj=>CR (cm j));have cn:=λj=>aC▸dJ.lt j
  have iw:=AG.upd dJ ah (λj=>CR (cn j));have dM:=CF aC dK.size;have iy:=Dl dK (GT ah dM);refine MV ([10]) B1 FK rfl eK rfl rfl (λhE iY ai jq=>?_);have iz:=Gw (w1:=hE) ik (λk hk hl=>ai.other k oM);have iA:=BP.same (w1:=hE) il (λk hk hl=>ai.other k oM);have dN:=io.up ai;have iB:=iq.up ai;have iC:=it.up ai;have dO:=Ce iu ai cj;have iD:=B3.upd iv ai (λj=>CR (cm j));have iE:=AG.upd iw ai (λj=>CR (cn j));have iF:=Dl iy (by exact GT ai oO);have iZ:=(dO).rest hc hs;refine Cm BK rfl rfl ((IT true _ (10::(d++(10::(F0++(10::X))))) _ _ _ [10] _ _ _ (by have:=I3 hs;omega) rfl iZ iY (by simp only [Aa,A8,Ak];omega) (by have:=I3 hs;omega) (by simp))) (λjH iG=>?_);obtain rfl:=iG;refine A9 rfl<|BQ rfl rfl<|Am<|A3 rfl<|A1 (.nck rfl)<|A1 (.fa DE rfl Bw dD rfl)<|Ah (Ae (BZ _) rfl dN rfl)<|A1 (.iis ((sx l (d++(10::(F0++(10::X)))):Int)) (.add rfl rfl (Ba oO)) oO)<|A1 (.nck rfl)<|A1 (.fa DE rfl Bw dD rfl)<|Br Bw rfl rfl rfl dN (by exact Nat.le_of_ble_eq_true rfl) (λdP bb aa jr=>?_);have bb:B0 dP br _ _:=bb;have aa:CK br _ _:=aa;have iH:=Gw (w1:=dP) iz (λk hk hl=>aa.other k oM);have iI:=BP.same (w1:=dP) iA (λk hk hl=>aa.other k oM);have dQ:=iB.up aa;have iJ:=iC.up aa;have dR:=Ag.upd dO aa (hpb);have co:=B3.upd iD aa ((λj=>by have:=b4 j;omega));have cq:=AG.upd iE aa ((λj=>by have:=b5 j;omega));have eL:=Dl iF (by exact QY aa (by simp));refine A0<|A4<|A3 rfl<|?_;have i':=iI;refine Ah (Bk rfl dQ Ay rfl Al)<|Cm BK rfl rfl ((T6 f _ _ ks (Js vs) d.length _ i' hn oO (by rw [GF];simpa using hkl))) (λdS am=>?_);have eM:=Gw (w1:=dS) iH (λk hk hl=>am.block k hl);have aO:=bb.bl am;have eN:=dQ.bl am;have eO:=iJ.bl am;have eP:=DL dR am (λj=>dR.lt j);have eQ:=B3.below co am (λj=>co.lt j);have eR:=DW cq am (λj=>cq.lt j)
  have eS:=kB eL am;refine A9 rfl<|Ad<|Ad<|D6 12 rfl BR (λw'=>w'.heap[br]?=dS.heap[br]?/\True) (λdU an=>?_);have eT:=Gw (w1:=dU) eM (λk hk hl=>(by obtain ⟨m,rfl⟩:=an;rfl));have H:=aO.drew an;have cr:=eN.drew an;have ct:=eO.drew an;have eU:=eP.drew an;have eV:=eQ.drew an;have eW:=eR.drew an;have eY:=Dl eS (OS an);have aw:=Bs (H.trans aO.symm) Bi;refine Ab 0 rfl (.mv rfl) aw ?_;refine Ab 1 rfl (.mv rfl) aw ?_;refine Ab 2 rfl (.nck rfl) aw ?_;refine Ab 3 rfl (.fa DE rfl D8 dD rfl) aw ?_;refine BX 4 rfl (λw' hw'=>Ae (g22_ _) rfl ((hw'.1).trans aO) rfl) aw rfl ?_;refine Ab 5 rfl (.lenS B1 rfl) aw ?_;refine Ab 6 rfl (.mv rfl) aw ?_;refine Ab 7 rfl (.nck rfl) aw ?_;refine Ab 8 rfl (.fa DE rfl Bw dD rfl) aw ?_;refine BX 9 rfl (λw' hw'=>Ae (BZ _) rfl ((hw'.1).trans aO) rfl) aw rfl ?_;refine Ab 10 rfl (.sub rfl rfl (Ba oO)) aw ?_;refine Ab 11 rfl (.bis (false) (.gtr rfl rfl) (by exact AJ oO)) aw ?_;refine BH kR<|Aq rfl rfl<|Ap ?_;have jI:=(cr).lt;have jJ:=(ct).lt;refine If (α:=(Option Addr × Nat) × Nat) (λt=>[(1,ptV br),(5,ptV b1),(6,ptV ar),(8,Af (d.length:Int)),(9,ptV t.2)]) (λt w'=>AR w.heap.size [br] w w'/\B0 w' br (Jl p l c (sx l (d++(10::(F0++(10::X)))))) 78/\B0 w' b1 #[Af yk,Af yn,.string (bs yt),.slice ykp (ks++[Gm]).length ykc,.slice ylp cs.length ylc,.slice none 0 0] 27/\B0 w' ar #[Af 0,Af 0,.string ⟨#[]⟩,.slice none 0 0,.slice none 0 0,.slice none 0 0] 27/\B0 w' t.2 #[Af 9,Af 0,.string ⟨#[]⟩,.slice none 0 0,.slice none 0 0,.slice t.1.1 d.length t.1.2] 27/\Ag w' p l/\B3 G7 w' ykp (ks++[Gm])/\AG KE w' ylp cs/\Gx w' (λk=>(B<=k/\br<k)/\k<w.heap.size) cs (Js vs++[Jm 2 (d.length:Int) []])/\Ag w' t.1.1 d/\(0<d.length->ar<(pA t.1.1).block/\(pA t.1.1).block≠t.2)/\d.length<=t.1.2/\t.1.2<=9223372036854775807/\ar<t.2/\t.2<w'.heap.size/\ED (λk=>ar<k/\k≠t.2) w' (.slice t.1.1 d.length t.1.2) d) ?_ (λt w1 hR=>?_)
  refine D6 19 rfl BR (λw'=>w'.heap[br]?=dU.heap[br]?/\True) (λc5 ao=>?_);have cu:=Gw (w1:=c5) eT (λk hk hl=>(by obtain ⟨m,rfl⟩:=ao;rfl));have aP:=H.drew ao;have bc:=cr.drew ao;have aQ:=ct.drew ao;have aD:=eU.drew ao;have aR:=eV.drew ao;have aS:=eW.drew ao;have bd:=Dl eY (OS ao);have aj:=Bs (aP.trans H.symm) Bi;refine Ab 0 rfl (.mv rfl) aj ?_;refine Ab 1 rfl (.nck rfl) aj ?_;refine Ab 2 rfl (.fa DE rfl D8 dD rfl) aj ?_;refine BX 3 rfl (λw' hw'=>Ae (g22_ _) rfl ((hw'.1).trans H) rfl) aj rfl ?_;refine Ab 4 rfl (.mv rfl) aj ?_;refine Ab 5 rfl (.nck rfl) aj ?_;refine Ab 6 rfl (.fa DE rfl Bw dD rfl) aj ?_;refine BX 7 rfl (λw' hw'=>Ae (BZ _) rfl ((hw'.1).trans H) rfl) aj rfl ?_;refine Ab 8 rfl (.mv rfl) aj ?_;refine Ab 9 rfl (.nck rfl) aj ?_;refine Ab 10 rfl (.fa DE rfl Bw dD rfl) aj ?_;refine BX 11 rfl (λw' hw'=>Ae (BZ _) rfl ((hw'.1).trans H) rfl) aj rfl ?_;refine Ab 12 rfl (.mv rfl) aj ?_;refine Ab 13 rfl (.iis ((sx l (10::(F0++(10::X))):Int)) (.add rfl rfl (Ba oO)) oO) aj ?_;refine Ab 14 rfl (.slb B1 EA rfl rfl rfl  (sx l (d++(10::(F0++(10::X))))) (sx l (10::(F0++(10::X)))) (rfl) (rfl) (oO) ((by have:=GD l (10::(F0++(10::X)));omega))) aj ?_;refine FA 15 rfl 17 rfl ?_ ?_;have iK:=(aQ).lt;have dV:Ag c5 (DV p c (sx l (d++(10::(F0++(10::X)))))) d:=by
    have q:=Ag.part (a:=sx l (d++(10::(F0++(10::X))))) (b:=sx l (10::(F0++(10::X)))) aD oO (GD _ _) hc
    rwa [EE s1,<- a2,Nat.add_sub_cancel_left,List.take_left] at q
  refine Bf BK rfl rfl ((MS _ d _ _ _ oO dV (λ_=>.inr (Us (hb.isp oO))) oO)) (λv dW Y=>?_);have eZ:=Gw (w1:=dW) cu (λk hk hl=>Y.1.block k hl);have aT:=aP.bl Y.1;have cv:=bc.bl Y.1;have cw:=aQ.bl Y.1;have cy:=DL aD Y.1 (λj=>aD.lt j);have cz:=B3.below aR Y.1 (λj=>aR.lt j);have cA:=DW aS Y.1 (λj=>aS.lt j);have cB:=kB bd Y.1;have b8:=Y.2.1;have aq:=Y.2.2;have be:=b8.lt;have c6:=(Y.2.2.2.2.2).mono (T:=λk=>c5.heap.size<=k/\k<dW.heap.size) (λk hk hl=>⟨hk,hl⟩);refine A0<|⟨⟨(aT).trans (H).symm,tT⟩,?_⟩;refine Ab 16 rfl (.buildL (ps:=_) Er rfl rfl rfl pS) ⟨(aT).trans (H).symm,tT⟩ ?_;refine AX 17 rfl<|Bj Cz rfl (λbf cC ap dX K j0=>?_);have e':=Gw (w1:=cC) eZ (λk hk hl=>K.other k oO);have f0:=ED.same (w1:=cC) c6 (λk hk hl=>K.other k oO);have f1:=Bl ap aT.lt;have cD:=aT.un K f1;have f2:=Bl ap cv.lt;have f3:=cv.un K f2;have f4:=Bl ap cw.lt;have f5:=cw.un K f4;have bJ:=λj=>ap▸cy.lt j
  have f6:=Ce cy K bJ;have bK:=λj=>ap▸cz.lt j
  have f7:=B3.upd cz K (λj=>CR (bK j));have bL:=λj=>ap▸cA.lt j
  have f8:=AG.upd cA K (λj=>CR (bL j));have bM:=λj=>ap▸b8.lt j
  have f9:=Ce b8 K bM;have dk:=CF ap cB.size;have fb:=Dl cB (GT K dk);refine A0<|⟨⟨(cD).trans (H).symm,tT⟩,?_⟩;refine AX 18 rfl<|Ax rfl rfl dX Al rfl rfl (λdY bN N j1=>?_);have fc:=Gw (w1:=dY) e' (λk hk hl=>N.other k oM);have fd:=ED.same (w1:=dY) f0 (λk hk hl=>N.other k oM);have cE:=cD.up N;have fe:=f3.up N;have ff:=f5.up N;have fg:=Ce f6 N bJ;have fh:=B3.upd f7 N (λj=>CR (bK j));have fi:=AG.upd f8 N (λj=>CR (bL j));have fj:=Ce f9 N bM;have fk:=Dl fb (by exact GT N oO);refine A0<|⟨⟨(cE).trans (H).symm,tT⟩,?_⟩;refine BH kR ?_;exact ⟨(v,bf),⟨rfl,rfl,rfl,rfl,rfl,tT⟩,fk,cE,fe,ff,bN,fg,fh,fi,fc,fj,λj=>⟨by have:=aq.1 j;show ar<(pA v.1).block;omega,by have:=aq.1 j;have:=be j;show (pA v.1).block≠bf;omega⟩,aq.2.1,aq.2.2.1,by show ar<bf;omega,(bN).lt,(fd).mono (λk hk _=>⟨oO,by show k≠bf;omega⟩)⟩;refine Bj Cz rfl (λbg bh av dZ ae j2=>?_);have fl:=Gw (w1:=bh) cu (λk hk hl=>ae.other k oO);have fm:=Bl av aP.lt;have cF:=aP.un ae fm;have fn:=Bl av bc.lt;have fo:=bc.un ae fn;have fp:=Bl av aQ.lt;have cG:=aQ.un ae fp;have bO:=λj=>av▸aD.lt j
  have bi:=Ce aD ae bO;have bP:=λj=>av▸aR.lt j
  have cH:=B3.upd aR ae (λj=>CR (bP j));have bQ:=λj=>av▸aS.lt j
  have cI:=AG.upd aS ae (λj=>CR (bQ j));have dl:=CF av bd.size;have fq:=Dl bd (GT ae dl);refine A0<|⟨⟨(cF).trans (H).symm,tT⟩,?_⟩;refine AX 15 rfl ?_;have iK:=(cG).lt;have dV:Ag bh (DV p c (sx l (d++(10::(F0++(10::X)))))) d:=by
    have q:=Ag.part (a:=sx l (d++(10::(F0++(10::X))))) (b:=sx l (10::(F0++(10::X)))) bi oO (GD _ _) hc
    rwa [EE s1,<- a2,Nat.add_sub_cancel_left,List.take_left] at q
  refine Bf BK rfl rfl ((MS _ d _ _ _ oO dV (λ_=>.inr (Us (hb.isp oO))) oO)) (λv d' Q=>?_);have fr:=Gw (w1:=d') fl (λk hk hl=>Q.1.block k hl);have bj:=cF.bl Q.1;have fs:=fo.bl Q.1;have ft:=cG.bl Q.1;have fu:=dZ.bl Q.1;have fv:=DL bi Q.1 (λj=>bi.lt j);have fw:=B3.below cH Q.1 (λj=>cH.lt j);have fx:=DW cI Q.1 (λj=>cI.lt j);have fy:=kB fq Q.1;have b8:=Q.2.1;have aq:=Q.2.2;have be:=b8.lt;have c6:=(Q.2.2.2.2.2).mono (T:=λk=>bh.heap.size<=k/\k<d'.heap.size) (λk hk hl=>⟨hk,hl⟩);refine A0<|⟨⟨(bj).trans (H).symm,tT⟩,?_⟩;refine Ab 16 rfl (.buildL (ps:=_) Er rfl rfl rfl pS) ⟨(bj).trans (H).symm,tT⟩ ?_;refine AX 18 rfl<|Ax rfl rfl fu Al rfl rfl (λe0 bR P j3=>?_);have fz:=Gw (w1:=e0) fr (λk hk hl=>P.other k oM);have fA:=ED.same (w1:=e0) c6 (λk hk hl=>P.other k oM);have cJ:=bj.up P;have fB:=fs.up P;have fC:=ft.up P;have fD:=Ce fv P bO;have fE:=B3.upd fw P (λj=>CR (bP j));have fF:=AG.upd fx P (λj=>CR (bQ j));have fG:=Ag.upd b8 P ((λj=>by (have:=aq.1 j;omega)));have fH:=Dl fy (by exact GT P oO);refine A0<|⟨⟨(cJ).trans (H).symm,tT⟩,?_⟩;refine BH kR ?_;exact ⟨(v,bg),⟨rfl,rfl,rfl,rfl,rfl,tT⟩,fH,cJ,fB,fC,bR,fD,fE,fF,fz,fG,λj=>⟨by have:=aq.1 j;show ar<(pA v.1).block;omega,by have:=aq.1 j;have:=be j;show (pA v.1).block≠bg;omega⟩,aq.2.1,aq.2.2.1,by show ar<bg;omega,(bR).lt,(fA).mono (λk hk _=>⟨oO,by show k≠bg;omega⟩)⟩;obtain ⟨⟨dp,dc⟩,b9⟩:=t;obtain ⟨q1,q2,q3,q4,q5,q6,q7,q8,q9,e4,hF,hG,hH,j4,hI,hJ⟩:=hR;simp only at q5 e4 hF hG hH j4 hI hJ;have ax:=hF;have bk:=e4.lt;have hB6M:=q4.lt;have hB5M:=q3.lt;obtain ⟨M,hM⟩:=eX w1.heap.size;have j5:=q1.size;rw [<- hM] at bk hB6M hB5M hI j5;have jK:M<=w1.heap.size:=by omega
  have iL:=hJ.mono (T:=λk=>(ar<k/\k≠b9)/\k<M) (λk hk hl=>⟨hk,oO⟩);have c7:0<(ks++[Gm]).length->(pA ykp).block<M:=λj=>by have:=b4 j;omega
  have c8:0<cs.length->(pA ylp).block<M:=λj=>by have:=b5 j;omega
  refine A4<|A3 rfl<|A1 (.nck rfl)<|A1 (.fa DE rfl Bw dD rfl)<|Ah (Ae (BZ _) rfl q2 rfl)<|A3 rfl<|A1 (.iis ((sx l (10::(F0++(10::X))):Int)) (.add rfl rfl (Ba oO)) oO)<|A1 (.nck rfl)<|A1 (.fa DE rfl Bw dD rfl)<|Br Bw rfl rfl rfl q2 (by exact Nat.le_of_ble_eq_true rfl) (λc9 b6 G j6=>?_);have b6:B0 c9 br _ _:=b6;have G:CK br _ _:=G;have fI:=Gw (w1:=c9) q9 (λk hk hl=>G.other k oM);have fJ:=ED.same (w1:=c9) iL (λk hk hl=>G.other k oM);have cK:=q3.upd G oM;have cL:=q4.upd G oM;have cM:=q5.upd G oM;have fK:=Ag.upd q6 G (hpb);have cN:=B3.upd q7 G ((λj=>by have:=b4 j;omega));have cO:=AG.upd q8 G ((λj=>by have:=b5 j;omega));have bm:=Ag.upd e4 G ((λj=>by (have:=ax j;omega)));have cP:=Dl q1 (by exact QY G (by simp));refine A0<|A4<|A3 rfl<|Ao (Jr [10] F0 (10::X) b6 fK hc hl hpb s2 dD dD dD (DF dD)) (λe5 a0=>?_);have fL:=Gw (w1:=e5) fI (λk hk hl=>a0.1.block k hl (by (simp only [A6,A5,As,not_or,Ac];omega)));have fM:=ED.same (w1:=e5) fJ (λk hk hl=>a0.1.block k hl (by (simp only [A6,A5,As,not_or,Ac];omega)));have cQ:=B0.keepB cK a0.1 cK.lt (by simp only [A6,A5,As,not_or,Ac];omega);have fN:=B0.keepB cL a0.1 cL.lt (by simp only [A6,A5,As,not_or,Ac];omega);have fO:=B0.keepB cM a0.1 cM.lt (by simp only [A6,A5,As,not_or,Ac];omega);have fP:=B3.keepB cN a0.1 (λj=>⟨cN.lt j,by simpa using ((λj=>by have:=b4 j;omega)) j⟩);have fQ:=NP cO a0.1 (λj=>⟨cO.lt j,by simpa using ((λj=>by have:=b5 j;omega)) j⟩);have fR:=Ag.keepB bm a0.1 (λj=>⟨bm.lt j,by first | simpa using ((λj=>by (have:=ax j;omega))) j | (have q:=((λj=>by (have:=ax j;omega))) j;have q1:=bm.lt j;simp only [A6,A5,As,not_or,Ac];omega)⟩)
  have fS:=Dl cP (C7 a0.1 cP.size (by simp <;> omega));have j7:=a0.2;have ju:=(a0).1.size;refine A0<|Ad<|A4<|A1 (.fa Ay rfl DU dD rfl)<|Ah (Ae (Fg _) rfl cQ rfl)<|A1 (.lenS Dy rfl)<|A3 rfl<|A0<|AO<|BM (α:=Value × Value × Nat) (λt=>[(5,ptV b1),(6,ptV ar),(9,ptV b9),(90,.slice ykp (ks++[Gm]).length ykc),(91,Af ((ks++[Gm]).length:Int)),(92,Af (t.2.2:Int))]) (λt w'=>AR w.heap.size [br] w w'/\B0 w' br (Jl p l c (sx l (10::X))) 78/\B0 w' b1 #[Af yk,Af yn,.string (bs yt),.slice ykp (ks++[Gm]).length ykc,.slice ylp cs.length ylc,.slice none 0 0] 27/\B0 w' ar #[Af 0,Af 0,.string ⟨#[]⟩,.slice none 0 0,.slice none 0 0,.slice none 0 0] 27/\B0 w' b9 #[Af 9,Af 0,.string ⟨#[]⟩,t.1,t.2.1,.slice dp d.length dc] 27/\B3 G7 w' ykp (ks++[Gm])/\AG KE w' ylp cs/\Gx w' (λk=>(B<=k/\br<k)/\k<w.heap.size) cs (Js vs++[Jm 2 (d.length:Int) []])/\Ag w' dp d/\AD G8 9 M w' t.1 (ks.take t.2.2)/\AD KE 27 M w' t.2.1 ((cs.take ks.length).take t.2.2)/\(∀ g,t.1.ownBlock=some g->t.2.1.ownBlock≠some g)/\M<=w'.heap.size/\t.2.2<=ks.length+1/\ED (λk=>(ar<k/\k≠b9)/\k<M) w' (.slice dp d.length dc) d) (λt=>ks.length+1-t.2.2) ((.slice none 0 0,.slice none 0 0,0)) ⟨rfl,rfl,rfl,rfl,rfl,rfl,tT⟩ (⟨fS,j7,cQ,fN,fO,fP,fQ,fL,fR,AD.nil _ _ _ _,AD.nil _ _ _ _,λg hg=>(by cases hg),oO,FI _,fM⟩) (λt w1 hR=>?_);obtain ⟨kv,v,i⟩:=t;obtain ⟨hT,p1,p2,p3,p4,p5,p6,p7,p8,ay,aL,aM,aN,hi,p9⟩:=hR;simp only at p4 ay aL aM hi ⊢;obtain ⟨pl,cl,rfl,-⟩:=aL.row;obtain ⟨pk,ck,rfl,-⟩:=ay.row;refine A4<|A1 (.lss rfl rfl)<|A0<|Ad<|Ai rfl (λca=>?_) (λca=>?_)
  · have fT := dT ca
    refine Ap<|Ad<|AO<|A4<|A3 rfl<|A1 (.ixb Dy FH rfl rfl (p5.isp oO) (i) (rfl) oO)<|Ah (Bq (FX _) rfl (p5.cells (i) oO))<|Ct rfl<|A9 rfl<|A4<|A3 rfl<|A1 (.bis (!decide (ks.length<=i)) (.nes rfl rfl) (by exact A3q hn i oO))<|A0<|Ai rfl (λcb=>?_) (λcb=>?_)
    · have fU := ndT cb
      refine A4<|A1 (.fa Ay rfl DU dD rfl)<|Ah (Ae (Fg _) rfl p4 rfl)<|A3 rfl<|Cs (ps:=_) Dy FH ZL rfl rfl rfl rfl rfl pR rfl (λjv cR ab e6 D j8=>?_);have bS:=C9 aN D.size;have aU:=Fs ay ab D;have e7:=C9 aN D.size;have bn:=Fs aL ab D;have fV:=Gw (w1:=cR) p7 (λk hk hl=>D.other k oO);have fW:=ED.same (w1:=cR) p9 (λk hk hl=>D.other k oO);have fX:=Bl ab p1.lt;have fY:=p1.un D fX;have fZ:=Bl ab p2.lt;have f':=p2.un D fZ;have g0:=Bl ab p3.lt;have g1:=p3.un D g0;have g2:=Bl ab p4.lt;have g3:=p4.un D g2;have e8:=λj=>ab▸p5.lt j
      have g4:=B3.upd p5 D (λj=>CR (e8 j));have e9:=λj=>ab▸p6.lt j
      have g5:=AG.upd p6 D (λj=>CR (e9 j));have ea:=λj=>ab▸p8.lt j
      have g6:=Ag.upd p8 D (λj=>CR (ea j));have dm:=CF ab hT.size;have cS:=Dl hT (GT D dm);have j9:=AG.lit (V:=G8) (l:=[(ks++[Gm])[i]'oO]) e6 (rfl);have ja:=(bn).lt;refine BS Dy Ma rfl rfl rfl aU rfl j9 (by simp only [Aa,Ak,At];omega) (bS) rfl (λh=>nomatch h) (λeb jw bT a3 aE ec=>?_);have g7:=fY.below a3 oO;have g8:=f'.below a3 oO;have g9:=g1.below a3 oO;have ga:=g3.below a3 oO;have gb:=Gw fV (λk hk hl=>aE.block k hl (λe=>by have:=(aU).lt k e.symm;omega));have gc:=ED.same fW (λk hk hl=>aE.block k hl (λe=>by have:=(aU).lt k e.symm;omega));have ge:=AD.same bn (λg hg=>aE.block g ((bn).lt g hg).2 (λhx=>aM g hx.symm hg));have ed:=C9 e7 a3.size;have gf:=B3.below g4 a3 c7;have gg:=DW g5 a3 c8;have gh:=DL g6 a3 bk;have gi:=Dl cS (DZ aE (λg hg=>.inr (by have:=(aU).lt g hg;omega)) cS.size);have ee:=C9 bS a3.size;have aV:∀ g,(eb).ownBlock=some g->(Value.slice pl ((cs.take ks.length).take i).length cl).ownBlock≠some g:=λg hg=>by rcases ec g hg with h | h;exact aM g h;exact λh2=>by have:=ja g h2;omega
      obtain ⟨hK,rfl⟩:=eX eb;refine A1 (.fa Ay rfl DU dD rfl)<|Br DU rfl rfl (bT).one ga (by exact Nat.le_of_ble_eq_true rfl) (λbo b7 s jb=>?_);have b7:B0 bo b9 _ _:=b7;have s:CK b9 _ _:=s;have ef:=C9 ee s.size;have gj:=Bx bT s oM;have eg:=C9 ed s.size;have gk:=Bx ge s oM;have gl:=Gw (w1:=bo) gb (λk hk hl=>s.other k oM);have gm:=ED.same (w1:=bo) gc (λk hk hl=>s.other k oM);have go:=g7.up s;have C:=g8.up s;have gp:=g9.up s;have gq:=B3.upd gf s ((λj=>by have:=b4 j;omega));have gr:=AG.upd gg s ((λj=>by have:=b5 j;omega));have gs:=Ag.upd gh s ((λj=>by (have:=ax j;omega)));have gt:=Dl gi (by exact GT s oO);refine A0<|D6 11 rfl BR (λw'=>w'.heap[b1]?=bo.heap[b1]?/\AG KE w' ylp cs/\True) (λeh J=>?_);have bU:=Fn ef J;have cT:=AD.drew gj J;have bV:=Fn eg J;have cU:=AD.drew gk J;have cV:=Gw (w1:=eh) gl (λk hk hl=>(by obtain ⟨m,rfl⟩:=J;rfl));have cW:=ED.same (w1:=eh) gm (λk hk hl=>(by obtain ⟨m,rfl⟩:=J;rfl));have aW:=go.drew J;have a4:=C.drew J;have aX:=gp.drew J;have aF:=b7.drew J;have aY:=gq.drew J;have U:=gr.drew J;have aZ:=gs.drew J;have a':=Dl gt (OS J);refine Ab 0 rfl (.fa Ay rfl Cr dD rfl) ⟨(a4).trans (C).symm,U,tT⟩ ?_;refine Ab 2 rfl (.fa Ay rfl Cr dD rfl) ⟨(a4).trans (C).symm,U,tT⟩ ?_;refine BX 3 rfl (λw' hw'=>Ae (Dv _) rfl ((hw'.1).trans C) rfl) ⟨(a4).trans (C).symm,U,tT⟩ rfl ?_;refine Ab 4 rfl (.mv rfl) ⟨(a4).trans (C).symm,U,tT⟩ ?_;refine Ab 5 rfl (.ixm C2 CU rfl rfl (U.isp oO) (i) (rfl) oO) ⟨(a4).trans (C).symm,U,tT⟩ ?_;refine BX 6 rfl (λw' hw'=>Dz Ay rfl Al (hw'.2.1) (i) oO rfl) ⟨(a4).trans (C).symm,U,tT⟩ rfl ?_;refine FA 1 rfl 7 rfl ?_ ?_;refine Ah (Ae (Dv _) rfl aF rfl)<|A0<|⟨⟨(a4).trans (C).symm,U,tT⟩,?_⟩
      refine AX 7 rfl<|Cq (L:=KE) (ps:=_) ([cs[i]'oO]) C2 CU Cz rfl rfl rfl rfl rfl (by rfl) rfl rfl (λiM bp ac ei E jc=>?_);have ej:=C9 bU E.size;have bq:=Fs cT ac E;have bW:=C9 bV E.size;have b0:=Fs cU ac E;have gv:=Gw (w1:=bp) cV (λk hk hl=>E.other k oO);have gw:=ED.same (w1:=bp) cW (λk hk hl=>E.other k oO);have gx:=Bl ac aW.lt;have gz:=aW.un E gx;have gA:=Bl ac a4.lt;have cX:=a4.un E gA;have gB:=Bl ac aX.lt;have gC:=aX.un E gB;have gD:=Bl ac aF.lt;have gE:=aF.un E gD;have ek:=λj=>ac▸aY.lt j
      have gF:=B3.upd aY E (λj=>CR (ek j));have el:=λj=>ac▸U.lt j
      have cY:=AG.upd U E (λj=>CR (el j));have em:=λj=>ac▸aZ.lt j
      have gG:=Ce aZ E em;have dn:=CF ac a'.size;have cZ:=Dl a' (GT E dn);have iQ:iM<=bp.heap.size:=by omega
      refine A0<|⟨⟨(cX).trans (C).symm,cY,tT⟩,?_⟩;refine AX 8 rfl ?_;have en:=(bq).lt;refine BS C2 EZ rfl rfl rfl b0 rfl (ei).rowp (by simp only [Aa,Ak,At];omega) (bW) rfl (λh=>nomatch h) (λiN jx bX a5 aG eo=>?_);have gH:=gz.below a5 oO;have bt:=cX.below a5 oO;have gI:=gC.below a5 oO;have gJ:=gE.below a5 oO;have gK:=Gw gv (λk hk hl=>aG.block k hl (λe=>by have:=(b0).lt k e.symm;omega));have gL:=ED.same gw (λk hk hl=>aG.block k hl (λe=>by have:=(b0).lt k e.symm;omega));have gM:=AD.same bq (λg hg=>aG.block g ((bq).lt g hg).2 (λhx=>aV g hg hx.symm));have ep:=C9 ej a5.size;have gN:=B3.below gF a5 c7;have bu:=DW cY a5 c8;have gO:=DL gG a5 bk;have gP:=Dl cZ (DZ aG (λg hg=>.inr (by have:=(b0).lt g hg;omega)) cZ.size);have eq:=C9 bW a5.size;have b2:∀ g,hK.ownBlock=some g->(iN).ownBlock≠some g:=λg hg h2=>by rcases eo g h2 with h | h;exact aV g hg h;have:=en g hg;omega
      refine A0<|⟨⟨(bt).trans (C).symm,bu,tT⟩,?_⟩;refine Ab 9 rfl (.fa Ay rfl Cr dD rfl) ⟨(bt).trans (C).symm,bu,tT⟩ ?_;refine AX 10 rfl<|Br Cr rfl rfl (bX).one gJ (by exact Nat.le_of_ble_eq_true rfl) (λcc aH u jd=>?_);have aH:B0 cc b9 _ _:=aH;have u:CK b9 _ _:=u;have bY:=C9 ep u.size;have c':=Bx gM u oM;have je:=C9 eq u.size;have d0:=Bx bX u oM;have d1:=Gw (w1:=cc) gK (λk hk hl=>u.other k oM);have d2:=ED.same (w1:=cc) gL (λk hk hl=>u.other k oM);have d3:=gH.up u;have bv:=bt.up u;have d4:=gI.up u;have d5:=B3.upd gN u ((λj=>by have:=b4 j;omega));have bw:=AG.upd bu u ((λj=>by have:=b5 j;omega));have d6:=Ag.upd gO u ((λj=>by (have:=ax j;omega)));have d7:=Dl gP (by exact GT u oO);refine A0<|⟨⟨(bv).trans (C).symm,bw,tT⟩,?_⟩;refine BH kR<|Am<|A1 (.iis (((i+1:Nat):Int)) (.add rfl rfl (Ba oO)) oO)<|A3 rfl<|A0<|?_
      first
      | (have a8 := c'
         have a9:=d0;rw [WG i oO oO] at a8;rw [VZ oO oO] at a9;exact ⟨(_,_,i+1),⟨rfl,rfl,rfl,rfl,rfl,rfl,tT⟩,⟨d7,d3,bv,d4,aH,d5,bw,d1,d6,a8,a9,b2,bY,oM,d2⟩,oM⟩)
      | (have a8 := (c').cast (show ks.take i = ks.take (i + 1) by rw [An oO, An oO])
         have a9:=(d0).cast (show (cs.take ks.length).take i=(cs.take ks.length).take (i+1) by
           have hL:(cs.take ks.length).length=ks.length:=by rw [At];omega
           rw [An (l:=cs.take ks.length) oO,An (l:=cs.take ks.length) oO])
         exact ⟨(_,_,i+1),⟨rfl,rfl,rfl,rfl,rfl,rfl,tT⟩,⟨d7,d3,bv,d4,aH,d5,bw,d1,d6,a8,a9,aM,bY,oM,d2⟩,oM⟩)
      refine Cq (L:=KE) (ps:=_) ([cs[i]'oO]) C2 CU Cz rfl rfl rfl rfl rfl (by rfl) rfl rfl (λiO bz ad er F jf=>?_);have es:=C9 bU F.size;have bA:=Fs cT ad F;have bZ:=C9 bV F.size;have b3:=Fs cU ad F;have gQ:=Gw (w1:=bz) cV (λk hk hl=>F.other k oO);have gR:=ED.same (w1:=bz) cW (λk hk hl=>F.other k oO);have gS:=Bl ad aW.lt;have gT:=aW.un F gS;have gU:=Bl ad a4.lt;have bB:=a4.un F gU;have gV:=Bl ad aX.lt;have gW:=aX.un F gV;have gX:=Bl ad aF.lt;have d8:=aF.un F gX;have et:=λj=>ad▸aY.lt j
      have gY:=B3.upd aY F (λj=>CR (et j));have eu:=λj=>ad▸U.lt j
      have bC:=AG.upd U F (λj=>CR (eu j));have ev:=λj=>ad▸aZ.lt j
      have gZ:=Ce aZ F ev;have dq:=CF ad a'.size;have d9:=Dl a' (GT F dq);have iR:iO<=bz.heap.size:=by omega
      refine A0<|⟨⟨(bB).trans (C).symm,bC,tT⟩,?_⟩;refine AX 1 rfl<|Ah (Ae (Dv _) rfl d8 rfl)<|A0<|⟨⟨(bB).trans (C).symm,bC,tT⟩,?_⟩;refine AX 8 rfl ?_;have en:=(bA).lt;refine BS C2 EZ rfl rfl rfl b3 rfl (er).rowp (by simp only [Aa,Ak,At];omega) (bZ) rfl (λh=>nomatch h) (λiP jy b' a6 aI ew=>?_);have g':=gT.below a6 oO;have bD:=bB.below a6 oO;have h3:=gW.below a6 oO;have h4:=d8.below a6 oO;have h5:=Gw gQ (λk hk hl=>aI.block k hl (λe=>by have:=(b3).lt k e.symm;omega));have h6:=ED.same gR (λk hk hl=>aI.block k hl (λe=>by have:=(b3).lt k e.symm;omega));have h7:=AD.same bA (λg hg=>aI.block g ((bA).lt g hg).2 (λhx=>aV g hg hx.symm));have ex:=C9 es a6.size;have h8:=B3.below gY a6 c7;have bE:=DW bC a6 c8;have h9:=DL gZ a6 bk;have ha:=Dl d9 (DZ aI (λg hg=>.inr (by have:=(b3).lt g hg;omega)) d9.size);have ey:=C9 bZ a6.size;have b2:∀ g,hK.ownBlock=some g->(iP).ownBlock≠some g:=λg hg h2=>by rcases ew g h2 with h | h;exact aV g hg h;have:=en g hg;omega
      refine A0<|⟨⟨(bD).trans (C).symm,bE,tT⟩,?_⟩;refine Ab 9 rfl (.fa Ay rfl Cr dD rfl) ⟨(bD).trans (C).symm,bE,tT⟩ ?_;refine AX 10 rfl<|Br Cr rfl rfl (b').one h4 (by exact Nat.le_of_ble_eq_true rfl) (λcd aJ x jg=>?_);have aJ:B0 cd b9 _ _:=aJ;have x:CK b9 _ _:=x;have c0:=C9 ex x.size;have da:=Bx h7 x oM;have jh:=C9 ey x.size;have db:=Bx b' x oM;have dd:=Gw (w1:=cd) h5 (λk hk hl=>x.other k oM);have de:=ED.same (w1:=cd) h6 (λk hk hl=>x.other k oM);have df:=g'.up x;have bG:=bD.up x;have dg:=h3.up x;have dh:=B3.upd h8 x ((λj=>by have:=b4 j;omega));have bH:=AG.upd bE x ((λj=>by have:=b5 j;omega));have di:=Ag.upd h9 x ((λj=>by (have:=ax j;omega)));have dj:=Dl ha (by exact GT x oO);refine A0<|⟨⟨(bG).trans (C).symm,bH,tT⟩,?_⟩;refine BH kR<|Am<|A1 (.iis (((i+1:Nat):Int)) (.add rfl rfl (Ba oO)) oO)<|A3 rfl<|A0<|?_
      first
      | (have a8 := da
         have a9:=db;rw [WG i oO oO] at a8;rw [VZ oO oO] at a9;exact ⟨(_,_,i+1),⟨rfl,rfl,rfl,rfl,rfl,rfl,tT⟩,⟨dj,df,bG,dg,aJ,dh,bH,dd,di,a8,a9,b2,c0,oM,de⟩,oM⟩)
      | (have a8 := (da).cast (show ks.take i = ks.take (i + 1) by rw [An oO, An oO])
         have a9:=(db).cast (show (cs.take ks.length).take i=(cs.take ks.length).take (i+1) by
           have hL:(cs.take ks.length).length=ks.length:=by rw [At];omega
           rw [An (l:=cs.take ks.length) oO,An (l:=cs.take ks.length) oO])
         exact ⟨(_,_,i+1),⟨rfl,rfl,rfl,rfl,rfl,rfl,tT⟩,⟨dj,df,bG,dg,aJ,dh,bH,dd,di,a8,a9,aM,c0,oM,de⟩,oM⟩)
    have fU:=ndF cb;refine Ap<|Am<|A1 (.iis (((i+1:Nat):Int)) (.add rfl rfl (Ba oO)) oO)<|A3 rfl<|A0<|?_
    first
    | (have a8 := ay
       have a9:=aL;rw [WG i oO oO] at a8;rw [VZ oO oO] at a9;exact ⟨(_,_,i+1),⟨rfl,rfl,rfl,rfl,rfl,rfl,tT⟩,⟨hT,p1,p2,p3,p4,p5,p6,p7,p8,a8,a9,b2,aN,oM,p9⟩,oM⟩)
    | (have a8 := (ay).cast (show ks.take i = ks.take (i + 1) by rw [An oO, An oO])
       have a9:=(aL).cast (show (cs.take ks.length).take i=(cs.take ks.length).take (i+1) by
         have hL:(cs.take ks.length).length=ks.length:=by rw [At];omega
         rw [An (l:=cs.take ks.length) oO,An (l:=cs.take ks.length) oO])
       exact ⟨(_,_,i+1),⟨rfl,rfl,rfl,rfl,rfl,rfl,tT⟩,⟨hT,p1,p2,p3,p4,p5,p6,p7,p8,a8,a9,aM,aN,oM,p9⟩,oM⟩)
  have fT:=dF ca;refine BF<|A4<|Ah (Bk rfl p4 Ay rfl Al)<|Ax rfl rfl p3 Al rfl rfl (λez eA a7 ji=>?_);have jj:=C9 aN a7.size;have he:=Bx ay a7 oM;have jk:=C9 aN a7.size;have hf:=Bx aL a7 oM;have hh:=Gw (w1:=ez) p7 (λk hk hl=>a7.other k oM);have hj:=ED.same (w1:=ez) p9 (λk hk hl=>a7.other k oM);have hm:=p1.upd a7 oM;have ho:=Ag.upd p8 a7 ((λj=>by (have:=ax j;omega)));have hp:=Dl hT (by exact GT a7 oO);refine A0<|AT (BI rfl rfl (Be eA Ay rfl Al)  ?_);obtain rfl:i=ks.length+1:=by omega
  have a8:=(he).cast (An (l:=ks) oO);have a9:=(hf).cast (An (l:=cs.take ks.length) (by rw [At];omega));have jl:=hh;refine ⟨⟨9,0,[],pk,_,ck,pl,_,cl,dp,d.length,dc⟩,rfl,⟨A0a (S:=λk=>B<=k) a8 a9 (λg hg=>by omega) hkk ho (λj=>by have:=ax j;omega) hG hH (by rw [At];omega) (λi h h2=>?_) hsnd,⟨⟨_,a8.base (λg hg=>FI _),λg hg=>by have:=a8.lt g hg;show B<=g;omega⟩,⟨_,A49 (a9.base (λg hg=>FI _)),λg hg=>by have:=a9.lt g hg;show B<=g;omega⟩,⟨_,(hj).mono (λk hk _=>by omega)⟩⟩⟩,hp,hm⟩;have eB:=jl.sub i (by rw [At] at h;omega) oO;rw [D7 (by rw [GF,By];exact h2)] at eB;rw [Jh];have e3:(Js vs)[i]'(by rw [GF,By];exact h2)=JI vs[i]:=by simp only [GF,G5]
  rw [e3] at eB;exact eB.mono λk hk _=>hk.1.1
end
section
def HY:l8_:=[101,110,100,111,98,106]
theorem A3c (k:Int) (x:l8_):NoR k (10::(HY++x)):=λ_ h=>by
 have e:EV (10::(HY++x))=101::(([110,100,111,98,106]++x).takeWhile Da):=by
  unfold EV
  have a:DG false (10::(HY++x))=HY++x:=by
   have:=Ij [10] (HY++x) dD
   rw [show [10]++(HY++x)=10::(HY++x) from rfl] at this
   rw [this]
   exact EP (c:=101) dD dD
  rw [a]
  show (101::([110,100,111,98,106]++x)).takeWhile Da=_
  rw [List.takeWhile_cons,A7 dD]
 rw [e] at h
 exact De (List.cons.inj h.1).1 dD
theorem Se (b4 b5:Nat) (w:World) (h:B0 w b5 #[Af 0] 35) :
  CallsD Tryz.prog 137 #[ptV b5,ptV b4] .returning w λe u' w'=>u'=.returning/\(∃ v,e=.returned v)/\w'=w:=by
 refine Eo func137 rfl ntmps137 bL rfl<|Ao (Mj _ _) (λb a=>?_)
 obtain rfl:=a
 refine A0<|A4<|Ah (Ae (Ed _) rfl h rfl)<|A1 (.neq rfl rfl)<|A0<|Aq rfl rfl<|Ap<|Cx (Cd rfl ?_)
 exact ⟨⟨_,rfl⟩,rfl⟩
end
end Go.Proofs.YtiddobdioipidaaGreatDoor
