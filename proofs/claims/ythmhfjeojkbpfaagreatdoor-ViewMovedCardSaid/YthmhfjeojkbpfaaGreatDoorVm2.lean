/-
  What the claim leans on, part 2: pruned and joined by my own tool out of the texts that stand in wip/ as templates.
-/
import Derived.Test.YthmhfjeojkbpfaaGreatDoorVm1
set_option maxHeartbeats 6400000
set_option maxRecDepth 100000
namespace Go.Proofs.YthmhfjeojkbpfaaGreatDoor
open Go.RowKit
open Go.Proofs.Tryz
variable {aft:Array Edge} {ops:Array Oper} {ats:Array TypeId} {refs:Bool} {R:Ending->World->Prop} {f:Fr} {dx dy fill last:Int} {sum:Int->List UInt8->Int} {ns:List Int} {A s z:List UInt8} {vs xs:List Value} {B N bp bv by' c cc cp d g i id m t t1:Nat} {F1 T Z:Nat->Prop} {x y:Operand} {p pc pp q:Option Addr} {P:Program} {pos:String} {α β:Type} {E e ta tb tx:TypeId} {v v' v1 vp:Value} {w w1 w2:World} {S':World->Prop}
section
theorem Gw (l:l8_):(bs l).toList=l:=by simp [bs]
theorem Ts (l:l8_) (w:World) :
  Calls Tryz.prog 158 #[.string (bs l),.string ⟨#[48]⟩] w λe w'=>e=.returned (.string (bs (l.dropWhile (· == 48))))/\w=w' :=
 (Tryz.strings_TrimLeft_one (bs l) 48 dD w).mono λ_ _ ⟨h1,h2⟩=>⟨h1,h2.symm⟩
theorem K3 (l:l8_) (a b:Nat):(bs l).extract a b=bs ((l.drop a).take (b-a)):=by
 apply ByteArray.ext
 simp [bs,ByteArray.data_extract]
theorem Nq (c:UInt8) (B:l8_):∀ A:l8_,c ∉ A->Lib.indexByte (A++c::B) c=(A.length:Int)
 | [],_=>by simp [Lib.indexByte]
 | b::A,h=>by
  simp only [Ax,not_or] at h
  have ih:=Nq c B A h.2
  have e3:(b == c)=false:=by rw [DZ];exact λe=>h.1 e.symm
  have a:((A.length:Int) == -1)=false:=by rw [DZ];omega
  simp [Lib.indexByte,e3,ih]
theorem OJ (c:UInt8):∀ l:l8_,c ∉ l->Lib.indexByte l c=-1
 | [],_=>rfl
 | b::l,h=>by
  simp only [Ax,not_or] at h
  have ih:=OJ c l h.2
  have e3:(b == c)=false:=by rw [DZ];exact λe=>h.1 e.symm
  simp [Lib.indexByte,e3,ih]
theorem Ra (c:UInt8):∀ l:l8_,c∈l->∃ A B,l=A++c::B/\c ∉ A
 | [],h=>by cases h
 | b::l,h=>by
  by_cases e:c=b
  · exact ⟨[],l,by rw [e];rfl,by simp⟩
  ·
   rcases Ax.1 h with h | h
   · exact D6 h e
   ·
    obtain ⟨A,B,h1,h2⟩:=Ra c l h
    exact ⟨b::A,B,by rw [h1];rfl,by simp [e,h2]⟩
theorem Yt (A B:l8_) (c:UInt8) (w:World) (h:c ∉ A) :
  Calls Tryz.prog 199 #[.string (bs (A++c::B)),.string ⟨#[c]⟩] w λe w'=>e=.returned (Ah (A.length:Int))/\w=w':=by
 rw [<- Nq c B A h]
 exact (Tryz.stringslite_Index_one (bs _) c w).mono λ_ _ ⟨a,b⟩=>⟨a,b.symm⟩
theorem A1c (l:l8_) (c:UInt8) (w:World) (h:c ∉ l) :
  Calls Tryz.prog 199 #[.string (bs l),.string ⟨#[c]⟩] w λe w'=>e=.returned (Ah (-1))/\w=w':=by
 rw [<- OJ c l h]
 exact (Tryz.stringslite_Index_one (bs _) c w).mono λ_ _ ⟨a,b⟩=>⟨a,b.symm⟩
theorem EY {a b:Bool} (h:a=b):Ending.returned (.bool a)=Ending.returned (.bool b):=by rw [h]
theorem A5c {a b a' b':ByteArray} {c:Bool} (h1:a=a') (h2:b=b'):Ending.returned (.tuple #[.string a,.string b,.bool c])=Ending.returned (.tuple #[.string a',.string b',.bool c]):=by
 rw [h1,h2]
theorem XH (A B:l8_) (c:UInt8) (w:World) (hl:(A++c::B).length<=100000000) (hc:c ∉ A) :
  C9 183 #[.string (bs (A++c::B)),.string ⟨#[c]⟩] w (.tuple #[.string (bs A),.string (bs B),.bool true]):=by
 have hk:A.length<(A++c::B).length:=by simp
 have hA:(bs (A++c::B)).extract 0 A.length=bs A:=by
  rw [K3];simp
 have hB:(bs (A++c::B)).extract (A.length+1) (A++c::B).length=bs B:=by
  rw [K3]
  have e:(A++c::B).drop (A.length+1)=B:=by
   rw [<- Kv];simp
  rw [e,AR (by simp;omega)]
 have hI:=λw=>Yt A B c w hc
 have hs:(bs (A++c::B)).size=(A++c::B).length:=BR _
 generalize A++c::B=l at *
 generalize hkk:A.length=k at *
 clear hkk
 have hA':=EJ hA;have hB':=EJ hB;clear hA hB hc
 go_enter func183,ntmps183
 go_wp2_with (go_at_call 199;go_must (refine (hI _).mono ?_);rintro e w' ⟨rfl,rfl⟩)
 go_quiet (fail)
 go_wp2
 go_ret3
 exact ⟨A5c hA'.out hB'.out,PK _ _⟩
theorem A0q (l:l8_) (c:UInt8) (w:World) (hc:c ∉ l) :
  C9 183 #[.string (bs l),.string ⟨#[c]⟩] w (.tuple #[.string (bs l),.string (bs []),.bool false]):=by
 have hI:=λw=>A1c l c w hc
 clear hc
 go_enter func183,ntmps183
 go_wp2_with (go_at_call 199;go_must (refine (hI _).mono ?_);rintro e w' ⟨rfl,rfl⟩)
 go_ret3
 exact ⟨rfl,Nh _ _⟩
theorem X0 (A B:l8_) (c:UInt8) (w:World) (hl:(A++c::B).length<=100000000) (hc:c ∉ A) :
  C9 156 #[.string (bs (A++c::B)),.string ⟨#[c]⟩] w (.tuple #[.string (bs A),.string (bs B),.bool true]):=by
 have hI:=λw=>XH A B c w hl hc
 clear hc hl
 go_enter func156,ntmps156
 go_wp2_with (go_at_call 183;go_must (refine (hI _).mono ?_);rintro e w' ⟨rfl,hb⟩)
 go_ret3
 exact ⟨rfl,hb⟩
theorem ZK (l:l8_) (c:UInt8) (w:World) (hc:c ∉ l) :
  C9 156 #[.string (bs l),.string ⟨#[c]⟩] w (.tuple #[.string (bs l),.string (bs []),.bool false]):=by
 have hI:=λw=>A0q l c w hc
 clear hc
 go_enter func156,ntmps156
 go_wp2_with (go_at_call 183;go_must (refine (hI _).mono ?_);rintro e w' ⟨rfl,hb⟩)
 go_ret3
 exact ⟨rfl,hb⟩
def C4 (b:UInt8):Bool:=decide (48<=b.toNat) && decide (b.toNat<=57)
theorem Nr (b:UInt8):([48,49,50,51,52,53,54,55,56,57]:l8_).contains b=C4 b:=by
 unfold C4
 rw [B1]
 simp [<- UInt8.toNat_inj]
 omega
theorem GE (p:UInt8->Bool):∀ l:l8_,l.dropWhile p=[]↔l.all p=true
 | []=>by simp
 | b::l=>by
  cases h:p b with
  | true=>simp [h,GE p l]
  | false=>simp [h]
theorem KA (l cs:l8_):Lib.trimS l cs=[]↔l.all (cs.contains ·)=true:=by
 unfold Lib.trimS Lib.trimLeftS Lib.trimRightS
 rw [GE]
 constructor
 ·
  intro h
  cases hd:l.reverse.dropWhile (cs.contains ·) with
  | nil =>
   rw [GE] at hd
   simpa using hd
  | cons x r =>
   exfalso
   rw [hd] at h
   have hx:cs.contains x=true:=by
    simp at h
    simpa using h.2
   have:=List.head_dropWhile_not (p:=(cs.contains ·)) (l:=l.reverse) (by rw [hd];simp)
   simp only [hd,List.head_cons] at this
   rw [hx] at this;cases this
 ·
  intro h
  have:l.reverse.dropWhile (cs.contains ·)=[]:=by
   rw [GE];simpa using h
  rw [this];rfl
theorem Hf (l:l8_) (w:World) (hl:l.length<=100000000) :
  C9 157 #[.string (bs l)] w (.bool (l.all C4)):=by
 have hT:=λw=>Any.strings_Trim_laid Tryz.lays160 kR (bs l) ⟨#[48,49,50,51,52,53,54,55,56,57]⟩ w (by rw [BR];omega) dD (ascii_of_all dD)
 have hN:Lib.trimS l [48,49,50,51,52,53,54,55,56,57]=[]↔l.all C4=true:=by
  rw [KA]
  have:(λx=>([48,49,50,51,52,53,54,55,56,57]:l8_).contains x)=C4:=funext Nr
  rw [this]
 have HN:=EJ hN;clear hN
 go_enter func157,ntmps157
 go_wp2_with (go_at_call 96;go_must (refine (hT _).mono ?_);rintro e w' ⟨rfl,hb⟩)
 go_ret
 exact ⟨EY (by rw [B1,List.isEmpty_iff];exact HN.out),hb⟩
theorem A2C {m:Bool} {a b:ByteArray} (h:a=b):Ending.returned (.tuple #[.bool m,.string a])=Ending.returned (.tuple #[.bool m,.string b]):=by rw [h]
theorem A6i (c:UInt8) (r:l8_) (h:0<(bs (c::r)).size):(bs (c::r))[0]'h=c:=rfl
theorem A6h (c:UInt8) (r:l8_):(bs (c::r)).extract 1 (r.length+1)=bs r:=by
 rw [K3];simp
theorem A4b (c:UInt8) (r:l8_):(bs (c::r)).toList.isEmpty=false:=by simp [bs]
def AW:l8_->Bool × l8_
 | []=>(false,[])
 | c::r=>if c=45 then (true,r) else if c=43 then (false,r) else (false,c::r)
theorem K1 (l:l8_) (w:World) (hl:l.length<=100000000) :
  C9 122 #[.string (bs l)] w (.tuple #[.bool (AW l).1,.string (bs (AW l).2)]):=by
 cases l with
 | nil =>
  have hT:=Gw
  go_enter func122,ntmps122
  go_wp2
  go_ret2
  exact ⟨rfl,Nh _ _⟩
 | cons c r =>
  have b:=A6i c r
  have hs:(bs (c::r)).size=r.length+1:=by rw [BR];rfl
  have he:=A4b c r
  have hb:=A6h c r
  have Hb:=EJ hb
  simp only [A8] at hl
  by_cases h1:c=45
  ·
   subst h1
   generalize bs (45::r)=s at *
   clear hb
   go_enter func122,ntmps122
   go_wp2
   go_quiet (fail)
   go_wp2
   go_ret2
   exact ⟨A2C Hb.out,PK _ _⟩
  ·
   by_cases h2:c=43
   ·
    subst h2
    generalize bs (43::r)=s at *
    clear hb
    go_enter func122,ntmps122
    go_wp2
    go_quiet (fail)
    go_wp2
    go_ret2
    exact ⟨A2C Hb.out,PK _ _⟩
   ·
    have d:((c.toNat:Int) == 45)=false:=by
     rw [DZ];intro h;exact h1 (UInt8.toNat_inj.1 (by show c.toNat=45;omega))
    have f:((c.toNat:Int) == 43)=false:=by
     rw [DZ];intro h;exact h2 (UInt8.toNat_inj.1 (by show c.toNat=43;omega))
    have a:AW (c::r)=(false,c::r):=by simp [AW,h1,h2]
    rw [a]
    generalize bs (c::r)=s at *
    clear hb a h1 h2
    go_enter func122,ntmps122
    go_wp2
    go_ret2
    exact ⟨rfl,Nh _ _⟩
theorem Rk {fn:Func} {t u v x:Tmp} (h:fn.results=#[.tmp t,.tmp u,.tmp v,.tmp x]) (tmps:Array Value) (P:Program) (w:World) :
  (results fn tmps).run P w=.ok (.tuple #[tmps.getD t undef,tmps.getD u undef,tmps.getD v undef,tmps.getD x undef]) w:=by
 simp [results,h]
theorem Rj {a b a' b':ByteArray} {c d d':Bool} (h1:a=a') (h2:b=b') (h3:d=d'):Ending.returned (.tuple #[.string a,.string b,.bool c,.bool d])=Ending.returned (.tuple #[.string a',.string b',.bool c,.bool d']):=by
 rw [h1,h2,h3]
def Cs:l8_->l8_ × l8_ × Bool
 | []=>([],[],false)
 | c::r=>if c=46 then ([],r,true) else (c::(Cs r).1,(Cs r).2)
theorem LD (B:l8_):∀ A:l8_,46 ∉ A->Cs (A++46::B)=(A,B,true)
 | [],_=>by simp [Cs]
 | c::A,h=>by
  simp only [Ax,not_or] at h
  have ih:=LD B A h.2
  simp [Cs,ih,Ne.symm h.1]
theorem Ua:∀ l:l8_,46 ∉ l->Cs l=(l,[],false)
 | [],_=>rfl
 | c::l,h=>by
  simp only [Ax,not_or] at h
  have ih:=Ua l h.2
  simp [Cs,ih,Ne.symm h.1]
theorem LE (l:l8_):(Cs l).1.length+(Cs l).2.1.length<=l.length:=by
 induction l with
 | nil=>simp [Cs]
 | cons c r ih=>unfold Cs;split <;> simp;omega
theorem A66 (l:l8_) (w:World) (hl:l.length<=100000000) :
  C9 156 #[.string (bs l),.string ⟨#[46]⟩] w (.tuple #[.string (bs (Cs l).1),.string (bs (Cs l).2.1),.bool (Cs l).2.2]):=by
 by_cases h:46∈l
 ·
  obtain ⟨A,B,rfl,hA⟩:=Ra 46 l h
  rw [LD B A hA];exact X0 A B 46 w hl hA
 · rw [Ua l h];exact ZK l 46 w h
def Ih (l:l8_):Bool:=(Cs l).1.all C4 && (Cs l).2.1.all C4 && decide (0<(Cs l).1.length+(Cs l).2.1.length)
theorem LB (l:l8_) (w:World) (hl:l.length<=100000000) :
    C9 123 #[.string (bs l)] w (.tuple #[.string (bs (Cs l).1),.string (bs (Cs l).2.1),.bool (Cs l).2.2,.bool (Ih l)]):=by
  have c:=LE l
  have hm:Ih l=((Cs l).1.all C4 && (Cs l).2.1.all C4 && decide (0<(Cs l).1.length+(Cs l).2.1.length)):=rfl
  have b:=λw=>A66 l w hl
  generalize Ih l=ok at *
  generalize Cs l=p at *
  obtain ⟨A,B,f⟩:=p
  simp only at c hm b
  have Hm:=EJ hm;clear hm
  have j:(bs A).size=A.length:=BR A
  have k:(bs B).size=B.length:=BR B
  by_cases hA:A.all C4=true
  · by_cases hB : B.all C4 = true
    · have a : ok = decide (0 < A.length + B.length) := by rw [Hm.out, hA, hB]; rfl
      have HA:=EJ hA;have HB:=EJ hB;have Hok:=EJ a;clear a hA hB
      go_enter func123,ntmps123
      go_wp2_with first | (go_at_call 156;go_must (refine (b _).mono ?_);rintro e d ⟨rfl,hb1⟩) | (go_at_call_of 157 (Value.string (bs A));go_must (refine (Hf A _ oO).mono ?_);rintro e g ⟨rfl,hb2⟩;rw [HA.out]) | (go_at_call_of 157 (Value.string (bs B));go_must (refine (Hf B _ oO).mono ?_);rintro e i ⟨rfl,hb3⟩;rw [HB.out])
      refine CK (Rk rfl _ _ _) rfl ?_
      refine ⟨Rj rfl rfl ?_,DN (DN hb1 hb2) hb3⟩
      rw [Hok.out,B1];simp;omega
    · have hB' : B.all C4 = false := by simpa using hB
      have a:ok=false:=by rw [Hm.out,hA,hB'];rfl
      have HA:=EJ hA;have HB:=EJ hB';have Hok:=EJ a;clear a hA hB hB'
      go_enter func123,ntmps123
      go_wp2_with first | (go_at_call 156;go_must (refine (b _).mono ?_);rintro e d ⟨rfl,hb1⟩) | (go_at_call_of 157 (Value.string (bs A));go_must (refine (Hf A _ oO).mono ?_);rintro e g ⟨rfl,hb2⟩;rw [HA.out]) | (go_at_call_of 157 (Value.string (bs B));go_must (refine (Hf B _ oO).mono ?_);rintro e i ⟨rfl,hb3⟩;rw [HB.out])
      refine CK (Rk rfl _ _ _) rfl ?_
      exact ⟨Rj rfl rfl Hok.out.symm,DN (DN hb1 hb2) hb3⟩
  · have hA' : A.all C4 = false := by simpa using hA
    have a:ok=false:=by rw [Hm.out,hA'];rfl
    have HA:=EJ hA';have Hok:=EJ a;clear a hA hA'
    go_enter func123,ntmps123
    go_wp2_with first | (go_at_call 156;go_must (refine (b _).mono ?_);rintro e d ⟨rfl,hb1⟩) | (go_at_call_of 157 (Value.string (bs A));go_must (refine (Hf A _ oO).mono ?_);rintro e g ⟨rfl,hb2⟩;rw [HA.out])
    refine CK (Rk rfl _ _ _) rfl ?_
    exact ⟨Rj rfl rfl Hok.out.symm,DN hb1 hb2⟩
end
section
def Jr:List Nat->List Nat × Nat
 | []=>([],0)
 | x::r=>((2 * x+(Jr r).2) % 10::(Jr r).1,(2 * x+(Jr r).2) / 10)
theorem QP (l:List Nat):(Jr l).1.length=l.length:=by
 induction l with
 | nil=>rfl
 | cons x r ih=>simp [Jr,ih]
theorem PJ (l:List Nat) (h:∀ x∈l,x<10):(Jr l).2<=1:=by
 induction l with
 | nil=>simp [Jr]
 | cons x r ih =>
  have a:=h x (by simp)
  have b:=ih (λy hy=>h y (by simp [hy]))
  simp [Jr];omega
theorem Sp (l:List Nat):∀ x∈(Jr l).1,x<10:=by
 induction l with
 | nil=>simp [Jr]
 | cons x r ih =>
  intro y hy
  simp [Jr] at hy
  rcases hy with rfl | hy
  · omega
  · exact ih y hy
def PO (l:List Nat):List Value:=l.map λ(x:Nat)=>Value.int .u8 (x:Int)
theorem Z2 (l:List Nat):(PO l).length=l.length:=by simp [PO]
theorem A3U (ds:List Nat) (j:Nat) (hj:j<ds.length) :
  Jr (ds.drop j)=((2 * ds[j]+(Jr (ds.drop (j+1))).2) % 10::(Jr (ds.drop (j+1))).1,(2 * ds[j]+(Jr (ds.drop (j+1))).2) / 10):=by
 rw [Ar hj];rfl
theorem YC (b:Nat) (cap:Nat) (ds:List Nat) (w:World) (hr:P0 w b (PO ds)) (hd:∀ x∈ds,x<10) (hl:ds.length<=maxLen) (B:Nat) (hB:B<=b) :
  Calls Tryz.prog 159 #[.slice (some ⟨b,0,none⟩) ds.length cap] w λe w'=>e=.returned (Ah (Jr ds).2)/\P0 w' b (PO (Jr ds).1)/\Below B w w':=by
 unfold maxLen at hl
 go_enter func159,ntmps159
 go_wp2_with fail
 go_loopw [3,4] (λc i wr=>∃ (k:Nat) (f:Int),k<=ds.length/\f=(k:Int)-1/\i=Ah f/\c=.int .u8 ((Jr (ds.drop k)).2:Int)/\P0 wr b (PO (ds.take k++(Jr (ds.drop k)).1))/\Below B w wr) (λ_ i _=>(intOf i+1).toNat)
 case atStart=>exact ⟨ds.length,_,FQ _,rfl,rfl,by simp [Jr],by simpa [Jr] using hr,Nh _ _⟩
 case round =>
  obtain ⟨k,f,hk,m,rfl,rfl,a,d⟩:=hrel
  cases k with
  | zero =>
   obtain rfl:f=-1:=by omega
   clear m
   have hc:=PJ ds hd
   have s:ds.drop 0=ds:=by simp
   rw [s] at a ⊢
   have Hrow:=EJ a;clear a
   go_wp2
   go_ret
   exact ⟨rfl,by simpa using Hrow.out,d⟩
  | succ j =>
   obtain rfl:f=(j:Int):=by omega
   clear m
   have hj:j<ds.length:=by omega
   have hc:=PJ (ds.drop (j+1)) (λx hx=>hd x (DL hx))
   have hx:=hd ds[j] (by simp)
   have o:=A3U ds j hj
   have t:=d.size
   obtain ⟨q,u⟩:=a j (.int .u8 (ds[j]:Int)) (by
    have g:j<(ds.take (j+1)).length:=by simp;omega
    rw [PO,List.getElem?_map,A8f g,List.getElem?_take,A7 oO,A6 hj];rfl)
   have l:=a.set j (.int .u8 ((2 * (ds[j]:Int)+((Jr (ds.drop (j+1))).2:Int)) % 10)) (by simp [PO];omega)
   have Hset:=EJ l;have Hst:=EJ o;clear l o a hr
   generalize hgc:(Jr (ds.drop (j+1))).2=c at *
   generalize hgx:ds[j]=x at *
   have Hgc:=EJ hgc;have Hgx:=EJ hgx;clear hgc hgx
   go_wp2
   refine ⟨⟨j,_,oO,rfl,rfl,?_,?_,d.setCell hB _⟩,by simp [intOf]⟩
   · rw [Hst.out];go_num
   ·
    have e:(PO (List.take (j+1) ds++(Jr (List.drop (j+1) ds)).fst)).set j (Value.int IntKind.u8 ((2 * (x:Int)+(c:Int)) % 10))=PO (List.take j ds++(Jr (List.drop j ds)).fst):=by
     rw [Hst.out]
     rw [Bd hj]
     have g:(List.map (λ(x:Nat)=>Value.int .u8 (x:Int)) (List.take j ds)).length=j:=by simp;omega
     simp only [PO,Bp,AB]
     rw [List.set_append_right _ _ oO,g,Ku]
     simp
    rw [<- e];exact Hset.out
def Gh:Nat->Int->List Nat->Int × List Nat
 | 0,n,d=>(n,d)
 | k+1,n,d=>Gh k (2 * n+(Jr d).2) (Jr d).1
def Bu (l:l8_):List Nat:=l.map λc=>c.toNat-48
def Dd (l:l8_):Nat:=l.foldl (λn c=>10 * n+(c.toNat-48)) 0
def Y5 (whole rest:l8_):Option Int :=
 if 5<(whole.dropWhile (· == 48)).length then none
 else some ((Gh 16 (Dd (whole.dropWhile (· == 48))) (Bu rest)).1+(Jr (Gh 16 (Dd (whole.dropWhile (· == 48))) (Bu rest)).2).2)
def Gy (minus:Bool) (whole rest:l8_):Int × Bool :=
 match Y5 whole rest with
 | none=>(0,false)
 | some n=>let m:=if minus then -n else n;(m,Am m)
theorem RL (l:l8_) (c:UInt8):Dd (l++[c])=10 * Dd l+(c.toNat-48):=by simp [Dd]
theorem Yn (l:l8_) (h:∀ c∈l,C4 c=true):∀ n,l.foldl (λn c=>10 * n+(c.toNat-48)) n<(n+1) * 10 ^ l.length:=by
 induction l with
 | nil=>intro n;simp
 | cons c r ih =>
  intro n
  have b:=ih (λx hx=>h x (by simp [hx])) (10 * n+(c.toNat-48))
  have a:=h c (by simp)
  simp [C4] at a
  rw [DS,A8,Nat.pow_succ]
  have d:(10 * n+(c.toNat-48)+1) * 10 ^ r.length<=(n+1) * (10 ^ r.length * 10):=by
   rw [Nat.mul_comm (10 ^ r.length) 10,<- Nat.mul_assoc]
   exact Cz _ oO
  omega
theorem KZ (l:l8_) (h:∀ c∈l,C4 c=true):Dd l<10 ^ l.length:=by
 have:=Yn l h 0
 rw [Ey,Nat.one_mul] at this
 exact this
theorem Qd (l:l8_) (h:∀ c∈l,C4 c=true):∀ x∈Bu l,x<10:=by
 intro x hx
 simp [Bu] at hx
 obtain ⟨c,hc,rfl⟩:=hx
 have a:=h c hc
 simp [C4] at a
 omega
theorem T5 (minus:Bool) (whole rest:l8_) (w:World) (hb:5<(whole.dropWhile (· == 48)).length) :
  C9 124 #[.bool minus,.string (bs whole),.string (bs rest)] w (.tuple #[Ah 0,.bool false]):=by
 have hs:=BR (whole.dropWhile (· == 48))
 have hT:=λw=>Ts whole w
 generalize whole.dropWhile (· == 48)=t at *
 go_enter func124,ntmps124
 go_wp2_with (go_at_call 158;go_must (refine (hT _).mono ?_);rintro e a ⟨rfl,rfl⟩)
 go_ret2
 exact ⟨rfl,Nh _ _⟩
theorem Jg (l:l8_) (k:Nat) (h:k<l.length):(Az l)[k]?=some (.int .u8 (l[k].toNat:Int)):=by
 unfold Az
 rw [List.getElem?_map,A6 h];rfl
theorem Lu (l:l8_) (k:Nat) (h:k<l.length):Dd (l.take (k+1))=10 * Dd (l.take k)+(l[k].toNat-48):=by
 rw [Bd h,RL]
theorem ST (l:l8_) (k:Nat) (hl:l.length<=5) (h:∀ c∈l,C4 c=true):Dd (l.take k)<100000:=by
 have a:=KZ (l.take k) (λc hc=>h c (DK hc))
 have b:10 ^ (l.take k).length<=10 ^ 5:=Nat.pow_le_pow_right dD (by simp;omega)
 omega
theorem Gi {c:UInt8} (h:C4 c=true):48<=c.toNat/\c.toNat<=57:=by
 simpa [C4] using h
theorem MB (b:Nat) (cap n:Nat) (ds:List Nat) (w:World) (hn:ds.length=n) (hr:P0 w b (PO ds)) (hd:∀ x∈ds,x<10) (hl:n<=3000) (B:Nat) (hB:B<=b) :
  Calls Tryz.prog 159 #[.slice (some ⟨b,0,none⟩) n cap] w λe w'=>e=.returned (Ah (Jr ds).2)/\P0 w' b (PO (Jr ds).1)/\Below B w w':=by
 subst hn
 exact YC b cap ds w hr hd (by unfold maxLen;omega) B hB
theorem Xz (a b:List Nat):PO (a++b)=PO a++PO b:=by simp [PO]
theorem Fb (l:l8_):(Bu l).length=l.length:=by simp [Bu]
theorem A3f (l:l8_) (k:Nat) (h:k<l.length):(PO ((Bu l).take k)++Az (l.drop k))[k]?=some (.int .u8 (l[k].toNat:Int)):=by
 have e:(PO ((Bu l).take k)).length=k:=by rw [Z2,AT,Fb];omega
 rw [A6X oO,e,Ku,Ar h];rfl
theorem A5y (l:l8_) (k:Nat) (h:k<l.length) (h1:48<=l[k].toNat):(PO ((Bu l).take k)++Az (l.drop k)).set k (.int .u8 ((l[k].toNat:Int)-48))=PO ((Bu l).take (k+1))++Az (l.drop (k+1)):=by
 have e:(PO ((Bu l).take k)).length=k:=by rw [Z2,AT,Fb];omega
 rw [List.set_append_right _ _ oO,e,Ku,Ar h,Bd (by rw [Fb];exact h),Xz,AB]
 congr 1
 have a:(Bu l)[k]'(by rw [Fb];exact h)=l[k].toNat-48:=by simp [Bu]
 have b:((l[k].toNat-48:Nat):Int)=(l[k].toNat:Int)-48:=by omega
 rw [a]
 simp only [PO,C3,Da,b]
 rfl
theorem A2B {a b:Int} {c d:Bool} (h:a=b) (h':c=d):Ending.returned (.tuple #[Ah a,.bool c])=Ending.returned (.tuple #[Ah b,.bool d]):=by rw [h,h']
theorem T2 (minus : Bool) (whole rest : l8_) (w : World) (h1 : (whole.dropWhile (· == 48)).length ≤ 5) (h2 : rest.length ≤ 3000) (h3 : ∀ c ∈ whole, C4 c = true) (h4 : ∀ c ∈ rest, C4 c = true) :
    C9 124 #[.bool minus,.string (bs whole),.string (bs rest)] w (.tuple #[Ah (Gy minus whole rest).1,.bool (Gy minus whole rest).2]):=by
  have hT:=λw=>Ts whole w
  have hv:Gy minus whole rest=(let m:=if minus then -((Gh 16 (Dd (whole.dropWhile (· == 48))) (Bu rest)).1+(Jr (Gh 16 (Dd (whole.dropWhile (· == 48))) (Bu rest)).2).2) else ((Gh 16 (Dd (whole.dropWhile (· == 48))) (Bu rest)).1+(Jr (Gh 16 (Dd (whole.dropWhile (· == 48))) (Bu rest)).2).2);(m,Am m)):=by
    unfold Gy Y5
    rw [A2 oO]
  have ht:∀ c∈whole.dropWhile (· == 48),C4 c=true:=λc hc=>h3 c (List.dropWhile_sublist _ |>.subset hc)
  clear h3
  generalize whole.dropWhile (· == 48)=t at *
  have hs:=BR t
  have R:=BR rest
  have Hv:=EJ hv;have Ht:=EJ ht;have H4:=EJ h4;clear hv ht h4
  go_enter func124,ntmps124
  go_wp2_with first | (go_at_call 158;go_must (refine (hT _).mono ?_);rintro e J ⟨rfl,rfl⟩) | (refine EN rfl _ _ _ _ rfl JK BI Ln _ rfl ?_;intro cap J D a hg y)
  have hb1:=G2 hg
  have Hrow:=EJ a;clear a hg hT
  go_loop [8,10,21] (λn _ i=>∃ k:Nat,k<=t.length/\i=Ah k/\n=Ah (Dd (t.take k):Int)) (λ_ _ i=>t.length-(intOf i).toNat)
  case atStart=>exact ⟨0,G8 _,rfl,rfl⟩
  case round =>
    obtain ⟨k,hk,rfl,rfl⟩:=hrel
    have G:=ST t k h1 Ht.out
    by_cases hkl:k<t.length
    · have s := Lu t k hkl
      have hd:=Gi (Ht.out t[k] (by simp))
      have hc:=(Hrow.out k _ (Jg t k hkl)).1
      have Hstep:=EJ s;clear s
      generalize Dd (t.take k)=N at *
      generalize t[k].toNat=c at *
      go_wp2
      go_round
      case rel=>exact ⟨k+1,oO,by go_num,by rw [Hstep.out];go_num⟩
      case measure=>simp [intOf];omega
    · obtain rfl : k = t.length := by omega
      rw [Ca] at G
      rw [Ca]
      clear Hrow
      go_wp2_with (refine EN rfl _ _ _ _ rfl JK BI Ln _ rfl ?_;intro K L v a hg E)
      have hb2:=DN hb1 (G2 hg)
      rw [y] at a
      have hB:w.heap.size<=w.heap.size+1:=by omega
      clear D hg hb1
      go_loopw [12,36] (λ_ i wr=>∃ k:Nat,k<=rest.length/\i=Ah k/\P0 wr (w.heap.size+1) (PO ((Bu rest).take k)++Az (rest.drop k))/\AD w wr) (λ_ i _=>rest.length-(intOf i).toNat)
      case atStart=>exact ⟨0,G8 _,rfl,by simpa [PO] using (show P0 L (w.heap.size+1) (Az rest) from a),hb2⟩
      case round =>
        obtain ⟨k,hk,rfl,b,o⟩:=hrel
        clear a hb2 y E v
        by_cases hkl:k<rest.length
        · have hd := Gi (H4.out rest[k] (by simp))
          obtain ⟨hc,T⟩:=b k _ (A3f rest k hkl)
          have q:=b.set k (.int .u8 ((rest[k].toNat:Int)-48)) (by
            have:=(C2.1 (A3f rest k hkl)).1;exact this)
          rw [A5y rest k hkl hd.1] at q
          have Hset:=EJ q;clear q b
          generalize rest[k].toNat=c at *
          go_wp2
          go_roundw
          case rel=>exact ⟨k+1,oO,by go_num,Hset.out,o.setCell hB _⟩
          case measure=>simp [intOf];omega
        · obtain rfl : k = rest.length := by omega
          have u:P0 wr (w.heap.size+1) (PO (Bu rest)):=by
            have M:(Bu rest).take rest.length=Bu rest:=AR (by rw [Fb];omega)
            have O:rest.drop rest.length=[]:=by simp
            rw [M,O] at b
            simpa [Az] using b
          have Hrow3:=EJ u;clear b u
          have l:=Fb rest
          have g:=Qd rest H4.out
          have Hdl:=EJ l;have Hdd:=EJ g;clear l g
          generalize Bu rest=d0 at *
          generalize Dd t=n0 at *
          obtain ⟨wo,rfl⟩:=eX wr
          go_wp2
          go_loopw [8,46] (λn i wr=>∃ (k:Nat) (N:Int) (d:List Nat),k<=16/\i=Ah k/\n=Ah N/\0<=N/\N+1<=100000 * 2 ^ k/\d.length=rest.length/\(∀ x∈d,x<10)/\P0 wr (w.heap.size+1) (PO d)/\AD w wr/\Gh (16-k) N d=Gh 16 n0 d0) (λ_ i _=>16-(intOf i).toNat)
          case atStart=>exact ⟨0,n0,d0,oO,rfl,rfl,oO,by simp;omega,Hdl.out,Hdd.out,Hrow3.out,o,rfl⟩
          case round =>
            obtain ⟨k,N,d,hk,rfl,rfl,U,A,l,g,a,f,B⟩:=hrel
            have F:(2:Int) ^ k<=65536:=by
              have h:=Nat.pow_le_pow_right (show 0<2 by decide) hk
              have h2:((2 ^ k:Nat):Int)<=((2 ^ 16:Nat):Int):=by exact_mod_cast h
              simpa using h2
            have V:N<6553600000:=by omega
            have X:=PJ d g
            have P:=f.size
            have Hrr:=EJ B;have Hdl2:=EJ l;have Hdd2:=EJ g;have HN1:=EJ A
            have Hrow:=EJ a
            clear B l g A a o F
            by_cases hk16:k<16
            · go_wp2_with (go_at_call 159; go_must (refine (MB _ _ _ d _ Hdl2.out Hrow.out Hdd2.out h2 w.heap.size hB).mono ?_); rintro e H ⟨rfl, j, hb4⟩)
              go_roundw
              case rel =>
                refine ⟨k+1,2 * N+(Jr d).2,(Jr d).1,oO,by go_num,by go_num,oO,?_,by rw [QP];exact Hdl2.out,Sp d,j,f.trans hb4,?_⟩
                · have := HN1.out
                  rw [Int.pow_succ];omega
                · rw [<- Hrr.out,show 16-k=(16-(k+1))+1 from by omega];rfl
              case measure=>simp [intOf];omega
            · obtain rfl : k = 16 := by omega
              have C:(Gh 16 n0 d0)=(N,d):=by rw [<- Hrr.out];rfl
              have Hrd:=EJ C;clear C
              cases minus with
              | true =>
                go_wp2_with first | (go_at_call 159;go_must (refine (MB _ _ _ d _ Hdl2.out Hrow.out Hdd2.out h2 w.heap.size hB).mono ?_);rintro e H ⟨rfl,j,hb4⟩) | (go_at_call 111;go_must (refine (Jd _ _).mono ?_);rintro e Q ⟨rfl,rfl⟩)
                go_ret2
                refine ⟨?_,f.trans hb4⟩
                rw [Hv.out,Hrd.out];rfl
              | false =>
                go_wp2_with first | (go_at_call 159;go_must (refine (MB _ _ _ d _ Hdl2.out Hrow.out Hdd2.out h2 w.heap.size hB).mono ?_);rintro e H ⟨rfl,j,hb4⟩) | (go_at_call 111;go_must (refine (Jd _ _).mono ?_);rintro e Q ⟨rfl,rfl⟩)
                go_ret2
                refine ⟨?_,f.trans hb4⟩
                rw [Hv.out,Hrd.out];rfl
end
section
theorem Sg (l:l8_) (n:Nat):(bs l).extract 0 n=bs (l.take n):=by rw [K3];simp
theorem Si (l:l8_) (n m:Nat) (h:m=l.length):(bs l).extract n m=bs (l.drop n):=by
 subst h;rw [K3,AR (by simp)]
end
section
def HT (digits:l8_) (p:Int):l8_:=digits.take p.toNat++List.replicate (p.toNat-digits.length) 48
def J5 (digits:l8_) (p:Int):l8_:=List.replicate (-p).toNat 48++digits.drop p.toNat
theorem Ym (a b:l8_):Dd a<=Dd (a++b):=by
 unfold Dd
 rw [List.foldl_append]
 generalize a.foldl (λn c=>10 * n+(c.toNat-48)) 0=n
 induction b generalizing n with
 | nil=>simp
 | cons c r ih =>
  rw [DS]
  exact BA oO (ih _)
theorem No (l:l8_) (k:Nat):Dd (l.take k)<=Dd l:=by
 conv=>rhs;rw [<- Fh k l]
 exact Ym _ _
theorem RK (l:l8_):Dd (l.dropWhile (· == 48))=Dd l:=by
 induction l with
 | nil=>rfl
 | cons c r ih =>
  rw [List.dropWhile_cons]
  split
  ·
   next h =>
   rw [ih]
   have:c=48:=by simpa using h
   subst this
   simp [Dd]
  · rfl
theorem RM (l:l8_) (n:Nat):n * 10 ^ l.length<=l.foldl (λn c=>10 * n+(c.toNat-48)) n:=by
 induction l generalizing n with
 | nil=>simp
 | cons c r ih =>
  rw [DS,A8,Nat.pow_succ]
  refine BA ?_ (ih _)
  rw [Nat.mul_comm (10 ^ r.length) 10,<- Nat.mul_assoc]
  exact Cz _ oO
theorem A0c (l:l8_) (h:∀ c∈l,C4 c=true):5<(l.dropWhile (· == 48)).length↔99999<Dd l:=by
 rw [<- RK l]
 have ht:∀ c∈l.dropWhile (· == 48),C4 c=true:=λc hc=>h c (List.dropWhile_sublist _ |>.subset hc)
 constructor
 ·
  intro hl
  cases hd:l.dropWhile (· == 48) with
  | nil=>rw [hd] at hl;simp at hl
  | cons c r =>
   have hc:(c == 48)=false:=by
    have:=List.head_dropWhile_not (p:=(· == 48)) (l:=l) (by rw [hd];simp)
    simpa [hd] using this
   have e:=Gi (ht c (by rw [hd];simp))
   have a:c≠48:=by simpa using hc
   have f:1<=c.toNat-48:=by
    rcases BL 48 c.toNat with h' | h'
    · omega
    · exact D6 (UInt8.toNat_inj.1 (by show c.toNat=48;omega)) a
   rw [hd] at hl
   simp only [A8] at hl
   have b:=RM r (10 * 0+(c.toNat-48))
   have d:1 * 10 ^ 5<=(10 * 0+(c.toNat-48)) * 10 ^ r.length:=Nat.mul_le_mul oO (Nat.pow_le_pow_right dD oO)
   unfold Dd
   rw [DS]
   omega
 ·
  intro hn
  rcases BL 5 (l.dropWhile (· == 48)).length with h' | h'
  · exact h'
  ·
   have b:=KZ _ ht
   have d:10 ^ (l.dropWhile (· == 48)).length<=10 ^ 5:=Nat.pow_le_pow_right dD h'
   omega
theorem SK (k:Nat):∀ (n:Int) (d:List Nat),(∀ x∈d,x<10)->∀ x∈(Gh k n d).2,x<10:=by
 induction k with
 | zero=>intro n d h;exact h
 | succ k ih=>intro n d h;exact ih _ _ (Sp d)
end
section
theorem PH (minus:Bool) (whole rest:l8_) (w:World) (h2:rest.length<=3000) (h3:∀ c∈whole,C4 c=true) (h4:∀ c∈rest,C4 c=true) :
    C9 124 #[.bool minus,.string (bs whole),.string (bs rest)] w (.tuple #[Ah (Gy minus whole rest).1,.bool (Gy minus whole rest).2]):=by
  by_cases hb:5<(whole.dropWhile (· == 48)).length
  · have hv : Gy minus whole rest = (0, false) := by unfold Gy Y5; rw [A7 hb]
    rw [hv]
    exact T5 minus whole rest w hb
  · exact T2 minus whole rest w oO h2 h3 h4
def Mm (l:l8_):Int × Bool :=
 if Ih (AW l).2 then
  (if (Gy (AW l).1 (Cs (AW l).2).1 (Cs (AW l).2).2.1).2 then ((Gy (AW l).1 (Cs (AW l).2).1 (Cs (AW l).2).2.1).1,true) else (0,false))
 else (0,false)
theorem J4 (l:l8_):(AW l).2.length<=l.length:=by
 cases l with
 | nil=>simp [AW]
 | cons c r =>
  simp only [AW]
  split
  · simp
  · split <;> simp
theorem KF (l:l8_) (h:Ih l=true):(∀ c∈(Cs l).1,C4 c=true)/\(∀ c∈(Cs l).2.1,C4 c=true):=by
 simp only [Ih,A4,At] at h
 exact ⟨h.1.1,h.1.2⟩
theorem Sn (l:l8_) (w:World) (hl:64<l.length) :
  Calls Tryz.prog 94 #[.string (bs l)] w λe w'=>e=.returned (.tuple #[Ah 0,.bool false])/\w=w':=by
 have hs:=BR l
 go_enter func94,ntmps94
 go_wp2_with fail
 go_ret2
 exact ⟨rfl,rfl⟩
theorem Qx (l:l8_) (w:World) (hl:l.length<=64) :
  C9 94 #[.string (bs l)] w (.tuple #[Ah (Mm l).1,.bool (Mm l).2]):=by
 have hs:=BR l
 have hS:=λw=>K1 l w oO
 have b:=J4 l
 have hP:Mm l=(if Ih (AW l).2 then (if (Gy (AW l).1 (Cs (AW l).2).1 (Cs (AW l).2).2.1).2 then ((Gy (AW l).1 (Cs (AW l).2).1 (Cs (AW l).2).2.1).1,true) else (0,false)) else (0,false)):=rfl
 generalize AW l=sr at *
 obtain ⟨m,r⟩:=sr
 simp only at hP hS b
 have hM:=λw=>LB r w oO
 have c:=LE r
 have a:=KF r
 generalize Ih r=ok at *
 generalize Cs r=p at *
 obtain ⟨A,B,f⟩:=p
 simp only at hP hM a c
 cases ok with
 | false =>
  rw [A2 dD] at hP
  have HP:=EJ hP;clear hP a
  go_enter func94,ntmps94
  go_wp2_with first | (go_at_call 122;go_must (refine (hS _).mono ?_);rintro e d ⟨rfl,hb1⟩) | (go_at_call 123;go_must (refine (hM _).mono ?_);rintro e g ⟨rfl,hb2⟩)
  go_ret2
  exact ⟨by rw [HP.out];rfl,DN hb1 hb2⟩
 | true =>
  rw [A7 rfl] at hP
  obtain ⟨hA,hB⟩:=a rfl
  have hV:=λw=>PH m A B w oO hA hB
  have HA:=EJ hA;have HB:=EJ hB;clear a hA hB
  generalize Gy m A B=v at *
  obtain ⟨n,fit⟩:=v
  simp only at hP hV
  have HP:=EJ hP;clear hP
  cases fit
  all_goals
   go_enter func94,ntmps94
   go_wp2_with first | (go_at_call 122;go_must (refine (hS _).mono ?_);rintro e d ⟨rfl,hb1⟩) | (go_at_call 123;go_must (refine (hM _).mono ?_);rintro e g ⟨rfl,hb2⟩) | (go_at_call 124;go_must (refine (hV _).mono ?_);rintro e i ⟨rfl,hb3⟩)
   go_ret2
   exact ⟨by rw [HP.out];rfl,DN (DN hb1 hb2) hb3⟩
theorem Nj (digits:l8_) (p:Int) (h:∀ c∈digits,C4 c=true):∀ c∈HT digits p,C4 c=true:=by
 intro c hc
 rw [HT,B4] at hc
 rcases hc with hc | hc
 · exact h c (DK hc)
 · rw [List.mem_replicate] at hc;rw [hc.2];rfl
theorem Oi (digits:l8_) (p:Int) (h:∀ c∈digits,C4 c=true):∀ c∈J5 digits p,C4 c=true:=by
 intro c hc
 rw [J5,B4] at hc
 rcases hc with hc | hc
 · rw [List.mem_replicate] at hc;rw [hc.2];rfl
 · exact h c (DL hc)
def XK (m:Bool) (o:Option Int):Int × Bool :=
 match o with
 | none=>(0,false)
 | some n=>if Am (if m then -n else n) then (if m then -n else n,true) else (0,false)
theorem A0P (l:l8_):Mm l=if Ih (AW l).2 then XK (AW l).1 (Y5 (Cs (AW l).2).1 (Cs (AW l).2).2.1) else (0,false):=by
 unfold Mm
 split
 ·
  unfold Gy XK
  cases Y5 (Cs (AW l).2).1 (Cs (AW l).2).2.1 with
  | none=>rfl
  | some n =>
   simp only
 · rfl
end
section
def Er (c:UInt8):Nat :=
 if 48<=c.toNat/\c.toNat<=57 then c.toNat-48 else if 97<=c.toNat/\c.toNat<=122 then c.toNat-87 else if 65<=c.toNat/\c.toNat<=90 then c.toNat-55 else 99
theorem A5R (c:UInt8):Er c<=99:=by unfold Er;split <;> (try split) <;> (try split) <;> omega
theorem El {k:IntKind} {a b:Int} (h:a=b):Ending.returned (.int k a)=.returned (.int k b):=by rw [h]
theorem A1t (c:UInt8) (w:World) :
    Calls Tryz.prog 160 #[.int .u8 (c.toNat:Int)] w λe w'=>e=.returned (Ah (Er c))/\w=w':=by
  have hc:c.toNat<256:=CE c
  have hh:Er c=if 48<=c.toNat/\c.toNat<=57 then c.toNat-48 else if 97<=c.toNat/\c.toNat<=122 then c.toNat-87 else if 65<=c.toNat/\c.toNat<=90 then c.toNat-55 else 99:=rfl
  have Hh:=EJ hh;clear hh
  generalize c.toNat=n at *
  by_cases h1:48<=n/\n<=57
  · obtain ⟨b, d⟩ := h1
    go_enter func160,ntmps160
    go_wp2
    go_ret
    exact ⟨El (by rw [Hh.out,A7 ⟨b,d⟩];omega),rfl⟩
  · have a : n < 48 ∨ 57 < n := by omega
    by_cases h2:97<=n/\n<=122
    · obtain ⟨f, g⟩ := h2
      have H1:=EJ h1;clear h1 a
      go_enter func160,ntmps160
      go_wp2
      go_ret
      exact ⟨El (by rw [Hh.out,A2 H1.out,A7 ⟨f,g⟩];omega),rfl⟩
    · have i : n < 97 ∨ 122 < n := by omega
      by_cases h3:65<=n/\n<=90
      · obtain ⟨j, k⟩ := h3
        have H1:=EJ h1;have H2:=EJ h2;clear h1 a h2 i
        go_enter func160,ntmps160
        go_wp2
        go_ret
        exact ⟨El (by rw [Hh.out,A2 H1.out,A2 H2.out,A7 ⟨j,k⟩];omega),rfl⟩
      · have l : n < 65 ∨ 90 < n := by omega
        have H1:=EJ h1;have H2:=EJ h2;have H3:=EJ h3;clear h1 h2 h3
        go_enter func160,ntmps160
        go_wp2
        all_goals
          go_ret
          exact ⟨El (by rw [Hh.out,A2 H1.out,A2 H2.out,A2 H3.out];rfl),rfl⟩
def Kd (l:l8_):Nat:=l.foldl (λn c=>min (10 * n+(c.toNat-48)) 1099511627776) 0
def GN (l:l8_):Int × Bool :=
 if (AW l).2.isEmpty || !(AW l).2.all C4 then (0,false)
 else let n:Int:=if (AW l).1 then -(Kd (AW l).2:Int) else Kd (AW l).2
  (n,decide (-2147483648<=n) && decide (n<=2147483647))
def IK (l:l8_):Int × Bool :=
 if (AW l).2.isEmpty || decide (3<(AW l).2.length) || !(AW l).2.all C4 then (0,false)
 else (if (AW l).1 then -(Dd (AW l).2:Int) else Dd (AW l).2,true)
theorem XU (l:l8_) (c:UInt8):Kd (l++[c])=min (10 * Kd l+(c.toNat-48)) 1099511627776:=by simp [Kd]
theorem XT (l:l8_) (k:Nat) (h:k<l.length):Kd (l.take (k+1))=min (10 * Kd (l.take k)+(l[k].toNat-48)) 1099511627776:=by
 rw [Bd h,XU]
theorem XV (l:l8_):∀ n,n<=1099511627776->l.foldl (λn c=>min (10 * n+(c.toNat-48)) 1099511627776) n=min (l.foldl (λn c=>10 * n+(c.toNat-48)) n) 1099511627776:=by
 induction l with
 | nil=>intro n h;simp;omega
 | cons c r ih =>
  intro n h
  rw [DS,DS,ih _ oO]
  by_cases hb:10 * n+(c.toNat-48)<=1099511627776
  · rw [Nat.min_eq_left hb]
  ·
   have a:=RM r (min (10 * n+(c.toNat-48)) 1099511627776)
   have d:=RM r (10 * n+(c.toNat-48))
   have b:1<=10 ^ r.length:=Nat.one_le_pow _ _ dD
   have e:min (10 * n+(c.toNat-48)) 1099511627776=1099511627776:=by omega
   rw [e] at a ⊢
   have f:1099511627776 * 1<=1099511627776 * 10 ^ r.length:=Nat.mul_le_mul_left _ b
   have g:1099511627776 * 10 ^ r.length<=(10 * n+(c.toNat-48)) * 10 ^ r.length:=Cz _ oO
   omega
theorem VN (l:l8_):Kd l=min (Dd l) 1099511627776:=XV l 0 oO
theorem A5d {a b:Int} {c d:Bool} (h:a=b) (h':c=d):Ending.returned (.tuple #[Ah a,.bool c])=Ending.returned (.tuple #[Ah b,.bool d]):=by rw [h,h']
theorem PG (l : l8_) (w : World) (hl : l.length ≤ 1000) :
    C9 126 #[.string (bs l)] w (.tuple #[Ah (GN l).1,.bool (GN l).2]):=by
  have hS:=λw=>K1 l w oO
  have g:=J4 l
  have hW:GN l=(if (AW l).2.isEmpty || !(AW l).2.all C4 then (0,false) else let n:Int:=if (AW l).1 then -(Kd (AW l).2:Int) else Kd (AW l).2
    (n,decide (-2147483648<=n) && decide (n<=2147483647))):=rfl
  generalize AW l=sr at *
  obtain ⟨m,r⟩:=sr
  simp only at hW hS g
  have hs:=BR r
  have hT:=Gw
  cases r with
  | nil =>
    have HW:=EJ hW;clear hW
    go_enter func126,ntmps126
    go_wp2_with (go_at_call 122;go_must (refine (hS _).mono ?_);rintro e j ⟨rfl,hb1⟩)
    go_ret2
    exact ⟨by rw [HW.out];rfl,hb1⟩
  | cons c0 r0 =>
    have t:=A4b c0 r0
    have hI:(c0::r0).isEmpty=false:=rfl
    rw [hI,Bool.false_or] at hW
    clear hI hT
    have a:=λw=>Hf (c0::r0) w oO
    generalize c0::r0=r at *
    cases hall:r.all C4 with
    | false =>
      rw [hall,A7 dD] at hW
      rw [hall] at a
      have HW:=EJ hW;clear hW hall
      go_enter func126,ntmps126
      go_wp2_with first | (go_at_call 122;go_must (refine (hS _).mono ?_);rintro e j ⟨rfl,hb1⟩) | (go_at_call 157;go_must (refine (a _).mono ?_);rintro e q ⟨rfl,hb2⟩)
      go_ret2
      exact ⟨by rw [HW.out];rfl,DN hb1 hb2⟩
    | true =>
      rw [hall,A2 dD] at hW
      rw [hall] at a
      have d:∀ c∈r,C4 c=true:=At.1 hall
      have HW:=EJ hW;have Hdig:=EJ d;clear hW d hall
      go_enter func126,ntmps126
      go_wp2_with first | (go_at_call 122;go_must (refine (hS _).mono ?_);rintro e j ⟨rfl,hb1⟩) | (go_at_call 157;go_must (refine (a _).mono ?_);rintro e q ⟨rfl,hb2⟩) | (refine EN rfl _ _ _ _ rfl JK BI Ln _ rfl ?_;intro cap v s f hg u)
      have hb3:=DN (DN hb1 hb2) (G2 hg)
      have Hrow:=EJ f;clear f hg hb1 hb2 hS a
      go_loop [5,23] (λn i=>∃ k:Nat,k<=r.length/\i=Ah k/\n=Ah (Kd (r.take k):Int)) (λ_ i=>r.length-(intOf i).toNat)
      case atStart=>exact ⟨0,G8 _,rfl,rfl⟩
      case round =>
        obtain ⟨k,hk,rfl,rfl⟩:=hrel
        have o:Kd (r.take k)<=1099511627776:=by rw [VN];omega
        by_cases hkl:k<r.length
        · have b := XT r k hkl
          have hd:=Gi (Hdig.out r[k] (by simp))
          have hc:=(Hrow.out k _ (Jg r k hkl)).1
          have Hstep:=EJ b;clear b
          generalize Kd (r.take k)=N at *
          generalize r[k].toNat=c at *
          go_wp2
          go_round
          case rel=>exact ⟨k+1,oO,by go_num,by rw [Hstep.out];go_num⟩
          case measure=>simp [intOf];omega
        · obtain rfl : k = r.length := by omega
          rw [Ca] at o ⊢
          clear Hrow
          generalize Kd r=N at *
          cases m
          all_goals
            go_wp2
            all_goals
              go_ret2
              refine ⟨?_,hb3⟩
              rw [HW.out]
              refine A5d rfl ?_
              rw [B1]
              simp
              try omega
theorem A1s (l:l8_) (w:World) (hl:l.length<=1000) :
    C9 128 #[.string (bs l)] w (.tuple #[Ah (IK l).1,.bool (IK l).2]):=by
  have hS:=λw=>K1 l w oO
  have j:=J4 l
  have hW:IK l=(if (AW l).2.isEmpty || decide (3<(AW l).2.length) || !(AW l).2.all C4 then (0,false) else (if (AW l).1 then -(Dd (AW l).2:Int) else Dd (AW l).2,true)):=rfl
  generalize AW l=sr at *
  obtain ⟨m,r⟩:=sr
  simp only at hW hS j
  have hs:=BR r
  have hT:=Gw
  cases r with
  | nil =>
    have HW:=EJ hW;clear hW
    go_enter func128,ntmps128
    go_wp2_with (go_at_call 122;go_must (refine (hS _).mono ?_);rintro e o ⟨rfl,hb1⟩)
    go_ret2
    exact ⟨by rw [HW.out];rfl,hb1⟩
  | cons c0 r0 =>
    have u:=A4b c0 r0
    have hI:(c0::r0).isEmpty=false:=rfl
    rw [hI,Bool.false_or] at hW
    clear hI hT
    have a:=λw=>Hf (c0::r0) w oO
    generalize c0::r0=r at *
    by_cases h3:3<r.length
    · rw [Al h3, Bool.true_or, A7 rfl] at hW
      have HW:=EJ hW;clear hW
      go_enter func128,ntmps128
      go_wp2_with first | (go_at_call 122;go_must (refine (hS _).mono ?_);rintro e o ⟨rfl,hb1⟩) | (go_at_call 157;go_must (refine (a _).mono ?_);rintro e q ⟨rfl,hb2⟩)
      go_ret2
      exact ⟨by rw [HW.out];rfl,hb1⟩
    · rw [An h3, Bool.false_or] at hW
      cases hall:r.all C4 with
      | false =>
        rw [hall,A7 dD] at hW
        rw [hall] at a
        have HW:=EJ hW;clear hW hall
        go_enter func128,ntmps128
        go_wp2_with first | (go_at_call 122;go_must (refine (hS _).mono ?_);rintro e o ⟨rfl,hb1⟩) | (go_at_call 157;go_must (refine (a _).mono ?_);rintro e q ⟨rfl,hb2⟩)
        go_ret2
        exact ⟨by rw [HW.out];rfl,DN hb1 hb2⟩
      | true =>
        rw [hall,A2 dD] at hW
        rw [hall] at a
        have d:∀ c∈r,C4 c=true:=At.1 hall
        have HW:=EJ hW;have Hdig:=EJ d;clear hW d hall
        go_enter func128,ntmps128
        go_wp2_with first | (go_at_call 122;go_must (refine (hS _).mono ?_);rintro e o ⟨rfl,hb1⟩) | (go_at_call 157;go_must (refine (a _).mono ?_);rintro e q ⟨rfl,hb2⟩) | (refine EN rfl _ _ _ _ rfl JK BI Ln _ rfl ?_;intro cap x t f hg v)
        have hb3:=DN (DN hb1 hb2) (G2 hg)
        have Hrow:=EJ f;clear f hg hb1 hb2 hS a
        have g:∀ k,Dd (r.take k)<1000:=by
          intro k
          have y:=No r k
          have A:=KZ r Hdig.out
          have B:10 ^ r.length<=10 ^ 3:=Nat.pow_le_pow_right dD oO
          omega
        have Hnat:=EJ g;clear g
        go_loop [5,28] (λn i=>∃ k:Nat,k<=r.length/\i=Ah k/\n=Ah (Dd (r.take k):Int)) (λ_ i=>r.length-(intOf i).toNat)
        case atStart=>exact ⟨0,G8 _,rfl,rfl⟩
        case round =>
          obtain ⟨k,hk,rfl,rfl⟩:=hrel
          have s:=Hnat.out k
          by_cases hkl:k<r.length
          · have b := Lu r k hkl
            have hd:=Gi (Hdig.out r[k] (by simp))
            have hc:=(Hrow.out k _ (Jg r k hkl)).1
            have Hstep:=EJ b;clear b
            generalize Dd (r.take k)=N at *
            generalize r[k].toNat=c at *
            go_wp2
            go_round
            case rel=>exact ⟨k+1,oO,by go_num,by rw [Hstep.out];go_num⟩
            case measure=>simp [intOf];omega
          · obtain rfl : k = r.length := by omega
            rw [Ca] at s ⊢
            clear Hrow Hnat
            generalize Dd r=N at *
            cases m
            all_goals
              go_wp2
              go_ret2
              exact ⟨by rw [HW.out];rfl,hb3⟩
theorem Y0 (c:UInt8) (k:Nat):Lib.repeatL [c] k=List.replicate k c:=by
 induction k with
 | zero=>rfl
 | succ k ih=>rw [Lib.repeatL,ih];rfl
theorem A6s (k:Nat) (w:World) (hk:k<=100000) :
  C9 164 #[.string ⟨#[48]⟩,Ah k] w (.string (bs (List.replicate k 48))):=by
 rw [<- Y0]
 exact Tryz.strings_Repeat ⟨#[48]⟩ k w oO (by show 1 * k<=_;omega)
theorem XY {a b a' b':ByteArray} (h1:a=a') (h2:b=b'):Ending.returned (.tuple #[.string a,.string b])=Ending.returned (.tuple #[.string a',.string b']):=by
 rw [h1,h2]
theorem U6 (A B:l8_) (k:Int) (w:World) (hA:A.length+B.length<=1000) (hk:-2000<=k) (hk2:k<=2000) :
    Calls Tryz.prog 129 #[.string (bs A),.string (bs B),Ah k] w λe w'=>e=.returned (.tuple #[.string (bs (HT (A++B) (A.length+k))),.string (bs (J5 (A++B) (A.length+k)))])/\AD w w':=by
  have sA:=BR A
  have sB:=BR B
  have l:=G1 A B
  have q:(bs (A++B)).size=A.length+B.length:=by rw [BR];simp
  have a:(A++B).length=A.length+B.length:=by simp
  by_cases h1:(A.length:Int)+k<0
  · have hZ := fun w => A6s (-((A.length : Int) + k)).toNat w oO
    have i:(((-((A.length:Int)+k)).toNat:Nat):Int)=-((A.length:Int)+k):=by omega
    rw [i] at hZ
    have eW:HT (A++B) (A.length+k)=[]:=by
      unfold HT
      have:((A.length:Int)+k).toNat=0:=by omega
      rw [this];simp
    have eR:J5 (A++B) (A.length+k)=List.replicate (-((A.length:Int)+k)).toNat 48++(A++B):=by
      unfold J5
      have:((A.length:Int)+k).toNat=0:=by omega
      rw [this];rfl
    have d:=BR (List.replicate (-((A.length:Int)+k)).toNat (48:UInt8))
    rw [I5] at d
    have m:(bs (List.replicate (-((A.length:Int)+k)).toNat (48:UInt8))).size<=3000:=by rw [d];omega
    have EW:=EJ eW;have ER:=EJ eR;clear eW eR i d
    generalize List.replicate (-((A.length:Int)+k)).toNat (48:UInt8)=Z at *
    have c:=G1 Z (A++B)
    have Hcat2:=EJ c;clear c a
    generalize A++B=C at *
    go_enter func129,ntmps129
    go_wp2_with (go_at_call 164;go_must (refine (hZ _).mono ?_);rintro e o ⟨rfl,hb1⟩)
    go_ret2
    exact ⟨XY (by rw [EW.out];rfl) (by rw [ER.out];exact Hcat2.out),hb1⟩
  · by_cases h2 : (A.length : Int) + (B.length : Int) < (A.length : Int) + k
    · have hZ := fun w => A6s (((A.length : Int) + k) - ((A.length : Int) + (B.length : Int))).toNat w oO
      have i:(((((A.length:Int)+k)-((A.length:Int)+(B.length:Int))).toNat:Nat):Int)=((A.length:Int)+k)-((A.length:Int)+(B.length:Int)):=by omega
      rw [i] at hZ
      have b:(A++B++List.replicate (((A.length:Int)+k)-((A.length:Int)+(B.length:Int))).toNat (48:UInt8)).length=((A.length:Int)+k).toNat:=by
        simp;omega
      have eW:HT (A++B) (A.length+k)=A++B++List.replicate (((A.length:Int)+k)-((A.length:Int)+(B.length:Int))).toNat 48:=by
        unfold HT
        rw [AR (by rw [a];omega)]
        congr 2;rw [a];omega
      have eR:J5 (A++B) (A.length+k)=[]:=by
        unfold J5
        have:(-((A.length:Int)+k)).toNat=0:=by omega
        rw [this,Bf (by rw [a];omega)];rfl
      have d:(bs (List.replicate (((A.length:Int)+k)-((A.length:Int)+(B.length:Int))).toNat (48:UInt8))).size<=3000:=by rw [BR];simp;omega
      have EW:=EJ eW;have ER:=EJ eR;clear eW eR
      generalize List.replicate (((A.length:Int)+k)-((A.length:Int)+(B.length:Int))).toNat (48:UInt8)=Z at *
      have c:=G1 (A++B) Z
      have j:=BR (A++B++Z)
      have f:=Sg (A++B++Z) ((A.length:Int)+k).toNat
      have g:=Si (A++B++Z) ((A.length:Int)+k).toNat ((A.length:Int)+k).toNat b.symm
      rw [<- b,Ca,b] at f
      rw [<- b,Fl,b] at g
      rw [b] at j
      clear i a
      have s:((((A.length:Int)+k).toNat:Nat):Int)=(A.length:Int)+k:=by omega
      generalize A++B=C at *
      generalize C++Z=D at *
      clear b
      go_enter func129,ntmps129
      go_wp2_with (go_at_call 164;go_must (refine (hZ _).mono ?_);rintro e o ⟨rfl,hb1⟩)
      have X1:=EJ f;have X2:=EJ g;clear f g
      go_quiet (fail)
      go_wp2
      go_ret2
      exact ⟨XY (by rw [EW.out];exact X1.out) (by rw [ER.out];rfl),hb1.trans (PK _ _ |>.mono hb1.size)⟩
    · have eW : HT (A ++ B) (A.length + k) = (A ++ B).take ((A.length : Int) + k).toNat := by
        unfold HT
        rw [show ((A.length:Int)+k).toNat-(A++B).length=0 from by rw [a];omega];simp
      have eR:J5 (A++B) (A.length+k)=(A++B).drop ((A.length:Int)+k).toNat:=by
        unfold J5
        have:(-((A.length:Int)+k)).toNat=0:=by omega
        rw [this];rfl
      have f:=Sg (A++B) ((A.length:Int)+k).toNat
      have g:=Si (A++B) ((A.length:Int)+k).toNat (A.length+B.length) a.symm
      have EW:=EJ eW;have ER:=EJ eR;have X1:=EJ f;have X2:=EJ g;clear eW eR f g a
      generalize A++B=C at *
      go_enter func129,ntmps129
      go_wp2_with fail
      go_quiet (fail)
      go_wp2
      go_ret2
      exact ⟨XY (by rw [EW.out];exact X1.out) (by rw [ER.out];exact X2.out),PK _ _⟩
end
section
theorem OX  {W:World} (hb:AD W w1):(∀ b o,b<W.heap.size->w1.cell? ⟨b,o,none⟩=W.cell? ⟨b,o,none⟩)/\(∀ b o,b<W.heap.size->w1.frozen? ⟨b,o,none⟩=W.frozen? ⟨b,o,none⟩) :=
 ⟨λb o h=>hb.cell (p:=⟨b,o,none⟩) h,λb o h=>hb.frozen (p:=⟨b,o,none⟩) h⟩
theorem G3  {o:Obj} (hb:Below (w.alloc o).heap.size (w.alloc o) w1):AD w w1 :=
 ((Nh _ _).alloc (FQ _) o).trans (hb.mono (by simp))
theorem Ip {w w1:World} (hb:AD w w1) (a b c:Value):AD w (((w1.setCell ⟨w.heap.size,0,none⟩ a).setCell ⟨w.heap.size,1,none⟩ b).setCell ⟨w.heap.size,2,none⟩ c) :=
 ((hb.setCell (p:=⟨w.heap.size,0,none⟩) (FQ _) _).setCell (p:=⟨w.heap.size,1,none⟩) (FQ _) _).setCell (p:=⟨w.heap.size,2,none⟩) (FQ _) _
def Jf (x:UInt8):l8_->l8_ × l8_ × Bool
 | []=>([],[],false)
 | c::r=>if c=x then ([],r,true) else (c::(Jf x r).1,(Jf x r).2)
theorem WX (x:UInt8) (B:l8_):∀ A:l8_,x ∉ A->Jf x (A++x::B)=(A,B,true)
 | [],_=>by simp [Jf]
 | c::A,h=>by
  simp only [Ax,not_or] at h
  have ih:=WX x B A h.2
  simp [Jf,ih,Ne.symm h.1]
theorem V7 (x:UInt8):∀ l:l8_,x ∉ l->Jf x l=(l,[],false)
 | [],_=>rfl
 | c::l,h=>by
  simp only [Ax,not_or] at h
  have ih:=V7 x l h.2
  simp [Jf,ih,Ne.symm h.1]
theorem WZ (x:UInt8) (l:l8_):(Jf x l).1.length+(Jf x l).2.1.length<=l.length:=by
 induction l with
 | nil=>simp [Jf]
 | cons c r ih=>unfold Jf;split <;> simp;omega
theorem Zr (x:UInt8) (l:l8_) (w:World) (hl:l.length<=100000000) :
  C9 156 #[.string (bs l),.string ⟨#[x]⟩] w (.tuple #[.string (bs (Jf x l).1),.string (bs (Jf x l).2.1),.bool (Jf x l).2.2]):=by
 by_cases h:x∈l
 ·
  obtain ⟨A,B,rfl,hA⟩:=Ra x l h
  rw [WX x B A hA];exact X0 A B x w hl hA
 · rw [V7 x l h];exact ZK l x w h
structure GZ where
 kind:Int
 n:Int
 ok:Bool
 e:Int
def GZ.val (t:GZ):Value:=.tuple #[.agg #[Ah t.kind,Ah t.n,.string ⟨#[]⟩],.bool t.ok,Ah t.e]
def CN:GZ:=⟨0,0,false,0⟩
def Hw:GZ:=⟨0,0,true,9⟩
def IF (n:Int):GZ:=⟨1,n,true,0⟩
def MM (n:Int):GZ:=⟨2,n,true,0⟩
def FV (base:Nat):l8_->Nat->Bool->Option (Nat × Bool)
 | [],n,over=>some (n,over)
 | c::r,n,over=>if base<=Er c then none else if 4294967296<=n * base+Er c then FV base r 0 true else FV base r (n * base+Er c) over
def HH:Option (Nat × Bool)->GZ
 | none=>CN
 | some (n,over)=>if over then Hw else IF (if 2147483648<=n then (n:Int)-4294967296 else n)
def Kf (l:l8_):Bool:=(Jf 35 l).2.2 && !(Jf 35 l).1.isEmpty && decide ((Jf 35 l).1.length<=2) && (Jf 35 l).1.all C4 && !(Jf 35 l).2.1.isEmpty
theorem T7 (l:l8_) (w:World) (hl:l.length<=1000) (hno:Kf l=false) :
    C9 125 #[.string (bs l)] w CN.val:=by
  have hC:=λw=>Zr 35 l w oO
  have m:=WZ 35 l
  unfold Kf at hno
  generalize Jf 35 l=p at *
  obtain ⟨A,B,f⟩:=p
  simp only at hno hC m
  have sA:=BR A
  cases f with
  | false =>
    clear hno
    go_enter func125,ntmps125
    go_wp2_with (go_at_call 156;go_must (refine (hC _).mono ?_);rintro e j ⟨rfl,hb1⟩;obtain ⟨b,d⟩:=OX hb1;have a:=hb1.size;simp at a;replace a:=Dj a)
    exact CK (v:=CN.val) (by simp [results,Tryz.results125,go_sem,b,GZ.val,CN]) rfl ⟨rfl,Ip (G3 hb1) _ _ _⟩
  | true =>
    simp only [BV] at hno
    have sB:=BR B
    have hT:=Gw
    by_cases hA0:A.isEmpty=true
    · obtain rfl : A = [] := by simpa using hA0
      clear hno hA0
      go_enter func125,ntmps125
      go_wp2_with (go_at_call 156;go_must (refine (hC _).mono ?_);rintro e j ⟨rfl,hb1⟩;obtain ⟨b,d⟩:=OX hb1;have a:=hb1.size;simp at a;replace a:=Dj a)
      exact CK (v:=CN.val) (by simp [results,Tryz.results125,go_sem,b,GZ.val,CN]) rfl ⟨rfl,Ip (G3 hb1) _ _ _⟩
    · have c : A.isEmpty = false := by simpa using hA0
      have t:(bs A).toList.isEmpty=false:=by rw [Gw];exact c
      rw [c] at hno
      by_cases hA2:2<A.length
      · clear hno hA0 c hT
        go_enter func125,ntmps125
        go_wp2_with (go_at_call 156;go_must (refine (hC _).mono ?_);rintro e j ⟨rfl,hb1⟩;obtain ⟨b,d⟩:=OX hb1;have a:=hb1.size;simp at a;replace a:=Dj a)
        exact CK (v:=CN.val) (by simp [results,Tryz.results125,go_sem,b,GZ.val,CN]) rfl ⟨rfl,Ip (G3 hb1) _ _ _⟩
      · have g := fun w => Hf A w oO
        cases hall:A.all C4 with
        | false =>
          rw [hall] at g
          clear hno hA0 c hall hT
          go_enter func125,ntmps125
          go_wp2_with first | (go_at_call 156;go_must (refine (hC _).mono ?_);rintro e j ⟨rfl,hb1⟩;obtain ⟨b,d⟩:=OX hb1;have a:=hb1.size;simp at a;replace a:=Dj a) | (go_at_call 157;go_must (refine (g _).mono ?_);rintro e s ⟨rfl,hb2⟩;obtain ⟨i,o⟩:=OX hb2;have q:=hb2.size)
          exact CK (v:=CN.val) (by simp [results,Tryz.results125,go_sem,b,i,a,GZ.val,CN]) rfl ⟨rfl,Ip (DN (G3 hb1) hb2) _ _ _⟩
        | true =>
          rw [hall] at g hno
          have k:decide (A.length<=2)=true:=by simp;omega
          rw [k] at hno
          obtain rfl:B=[]:=by simpa using hno
          have u:(bs []).toList.isEmpty=true:=by rw [Gw];rfl
          clear hno hA0 c hall k hT
          go_enter func125,ntmps125
          go_wp2_with first | (go_at_call 156;go_must (refine (hC _).mono ?_);rintro e j ⟨rfl,hb1⟩;obtain ⟨b,d⟩:=OX hb1;have a:=hb1.size;simp at a;replace a:=Dj a) | (go_at_call 157;go_must (refine (g _).mono ?_);rintro e s ⟨rfl,hb2⟩;obtain ⟨i,o⟩:=OX hb2;have q:=hb2.size)
          exact CK (v:=CN.val) (by simp [results,Tryz.results125,go_sem,b,i,a,GZ.val,CN]) rfl ⟨rfl,Ip (DN (G3 hb1) hb2) _ _ _⟩
theorem Cu  {w':World} {a b c:Value} {t:TypeId} (hb:Below (w.alloc (.cells #[a,b,c] t)).heap.size (w.alloc (.cells #[a,b,c] t)) w') :
  w'.cell? ⟨w.heap.size,0,none⟩=some a/\w'.cell? ⟨w.heap.size,1,none⟩=some b/\w'.cell? ⟨w.heap.size,2,none⟩=some c /\
  w'.frozen? ⟨w.heap.size,0,none⟩=false/\w'.frozen? ⟨w.heap.size,1,none⟩=false/\w'.frozen? ⟨w.heap.size,2,none⟩=false:=by
 have d:w.heap.size<(w.alloc (.cells #[a,b,c] t)).heap.size:=by simp
 rw [hb.cell (p:=⟨w.heap.size,0,none⟩) d,hb.cell (p:=⟨w.heap.size,1,none⟩) d,hb.cell (p:=⟨w.heap.size,2,none⟩) d,hb.frozen (p:=⟨w.heap.size,0,none⟩) d,hb.frozen (p:=⟨w.heap.size,1,none⟩) d,hb.frozen (p:=⟨w.heap.size,2,none⟩) d]
 refine ⟨?_,?_,?_,?_,?_,?_⟩ <;> go_simp
theorem Rp (base:Nat) (B:l8_) (k n:Nat) (over:Bool) (h:k<B.length) :
  FV base (B.drop k) n over=if base<=Er B[k] then none else if 4294967296<=n * base+Er B[k] then FV base (B.drop (k+1)) 0 true else FV base (B.drop (k+1)) (n * base+Er B[k]) over:=by
 rw [Ar h];rfl
def Ml (A B:l8_):GZ:=if Dd A<2\/36<Dd A then CN else HH (FV (Dd A) B 0 false)
theorem T6 (l A B : l8_) (w : World) (hl : l.length ≤ 1000) (hcut : Jf 35 l = (A, B, true)) (hA0 : A ≠ []) (hA2 : A.length ≤ 2) (hall : A.all C4 = true) (hB0 : B ≠ []) :
    Calls Tryz.prog 125 #[.string (bs l)] w λe w'=>e=.returned (Ml A B).val/\AD w w':=by
  have hC:=λw=>Zr 35 l w oO
  have F:=WZ 35 l
  rw [hcut] at hC F
  simp only at hC F
  clear hcut
  have sA:=BR A
  have sB:=BR B
  have M:(bs A).toList.isEmpty=false:=by rw [Gw];cases A <;> simp at *
  have O:(bs B).toList.isEmpty=false:=by rw [Gw];cases B <;> simp at *
  have x:=λw=>Hf A w oO
  rw [hall] at x
  have q:∀ c∈A,C4 c=true:=At.1 hall
  have y:∀ k,Dd (A.take k)<100:=by
    intro k
    have h1:=No A k
    have h2:=KZ A q
    have h4:10 ^ A.length<=10 ^ 2:=Nat.pow_le_pow_right dD hA2
    omega
  have Hdig:=EJ q;have Hnat:=EJ y
  clear hA0 hB0 hall q y
  go_enter func125,ntmps125
  go_wp2_with first | (go_at_call 156;go_must (refine (hC _).mono ?_);rintro e w1 ⟨rfl,hb1⟩;obtain ⟨Q,R⟩:=OX hb1;have s:=hb1.size;simp at s;replace s:=Dj s) | (go_at_call 157;go_must (refine (x _).mono ?_);rintro e w2 ⟨rfl,hb2⟩;obtain ⟨T,U⟩:=OX hb2;have V:=hb2.size) | (refine EN rfl _ _ _ _ rfl JK BI Ln _ rfl ?_;intro cap w3 J g hg X)
  have m:Below (w.alloc (Obj.cells #[Value.int .i64 0,Value.int .i64 0,Value.string ⟨#[]⟩] 147)).heap.size (w.alloc (Obj.cells #[Value.int .i64 0,Value.int .i64 0,Value.string ⟨#[]⟩] 147)) w3:=DN (DN hb1 hb2) (G2 hg)
  have Hrow:=EJ g
  clear Q R T U hb1 hb2 V g hg hC x M O J X s
  go_loop [8,46] (λn i=>∃ k:Nat,k<=A.length/\i=Ah k/\n=Ah (Dd (A.take k):Int)) (λ_ i=>A.length-(intOf i).toNat)
  case atStart=>exact ⟨0,G8 _,rfl,rfl⟩
  case round =>
    obtain ⟨k,hk,rfl,rfl⟩:=hrel
    have Y:=Hnat.out k
    by_cases hkl:k<A.length
    · have b := Lu A k hkl
      have hd:=Gi (Hdig.out A[k] (by simp))
      have hc:=(Hrow.out k _ (Jg A k hkl)).1
      have Hstep:=EJ b;clear b
      generalize Dd (A.take k)=N at *
      generalize A[k].toNat=c at *
      go_wp2
      go_round
      case rel=>exact ⟨k+1,oO,by go_num,by rw [Hstep.out];go_num⟩
      case measure=>simp [intOf];omega
    · obtain rfl : k = A.length := by omega
      rw [Ca] at Y ⊢
      clear Hrow Hnat hkl
      generalize hgN:Dd A=N at *
      have HgN:=EJ hgN;clear hgN
      by_cases hbad:N<2\/36<N
      · have Hbad := EJ hbad
        obtain ⟨t,c1,u,f0,f1,f2⟩:=Cu m
        go_wp2
        all_goals exact CK (v:=CN.val) (by simp [results,Tryz.results125,go_sem,t,c1,u,GZ.val,CN]) rfl ⟨by rw [Ml,HgN.out,A7 Hbad.out],Ip (G3 m) _ _ _⟩
      · have hb2 : 2 ≤ N := by omega
        have A8U:N<=36:=by omega
        have Hbad:=EJ hbad;clear hbad
        go_wp2_with (refine EN rfl _ _ _ _ rfl JK BI Ln _ rfl ?_;intro a1 w4 E g hg K)
        have j:=m.trans ((G2 hg).mono m.size)
        obtain ⟨t,c1,u,f0,f1,f2⟩:=Cu j
        have Hrow:=EJ g
        clear g hg E K m
        have C:(if N<2\/36<N then CN else HH (FV N B 0 false))=HH (FV N B 0 false):=A2 Hbad.out
        have Hfin:=EJ C;clear C
        go_loop [11,12,67] (λn o i=>∃ (k:Nat) (f:Nat) (ov:Bool),k<=B.length/\i=Ah k/\n=Ah f/\o=.bool ov/\f<4294967296/\FV N (B.drop k) f ov=FV N B 0 false) (λ_ _ i=>B.length-(intOf i).toNat)
        case atStart=>exact ⟨0,0,false,G8 _,rfl,rfl,rfl,oO,rfl⟩
        case round =>
          obtain ⟨k,f,ov,hk,rfl,rfl,rfl,a2,G⟩:=hrel
          have Hrr:=EJ G;clear G
          by_cases hkl:k<B.length
          · have b := Rp N B k f ov hkl
            have hc:=(Hrow.out k _ (Jg B k hkl)).1
            have hx:=A5R B[k]
            have hD:=λw=>A1t B[k] w
            generalize Er B[k]=d at *
            generalize B[k]=c at *
            obtain ⟨P,hP⟩:=eX (f * N)
            have a3:(f:Int) * (N:Int)=(P:Int):=by rw [hP,Int.natCast_mul]
            have a4:P<=154618822656:=by
              have h:=Nat.mul_le_mul (show f<=4294967296 by omega) A8U
              rw [<- hP] at h;omega
            rw [<- hP] at b
            have Hstep:=EJ b;clear b hP
            by_cases hdN:N<=d
            · go_wp2_with (go_at_call 160; go_must (refine (hD _).mono ?_); rintro e Z ⟨rfl, rfl⟩)
              refine CK (v:=CN.val) (by simp [results,Tryz.results125,go_sem,t,c1,u,GZ.val,CN]) rfl ⟨?_,Ip (G3 j) _ _ _⟩
              rw [Ml,HgN.out,Hfin.out,<- Hrr.out,Hstep.out,A7 hdN];rfl
            · by_cases hov : 4294967296 ≤ P + d
              · have L : (4294967296 : Int) ≤ (P : Int) + (d : Int) := by omega
                have Hov:=EJ hov;clear hov
                go_wp2_with (go_at_call 160;go_must (refine (hD _).mono ?_);rintro e Z ⟨rfl,rfl⟩)
                go_round
                case rel=>exact ⟨k+1,0,true,oO,by go_num,rfl,rfl,oO,by rw [<- Hrr.out,Hstep.out,A2 hdN,A7 Hov.out]⟩
                case measure=>simp [intOf];omega
              · have L : decide ((4294967296 : Int) ≤ (P : Int) + (d : Int)) = false := An oO
                have H:P+d<4294967296:=by omega
                have Hov:=EJ hov;have HPd:=EJ H;clear hov H
                go_wp2_with (go_at_call 160;go_must (refine (hD _).mono ?_);rintro e Z ⟨rfl,rfl⟩)
                go_round
                case rel=>exact ⟨k+1,P+d,ov,oO,by go_num,by go_num,rfl,HPd.out,by rw [<- Hrr.out,Hstep.out,A2 hdN,A2 Hov.out]⟩
                case measure=>simp [intOf];omega
          · obtain rfl : k = B.length := by omega
            have D:FV N B 0 false=some (f,ov):=by
              rw [<- Hrr.out,Fl];rfl
            have Hend:=EJ D;clear D Hrow hkl
            cases ov with
            | true =>
              go_wp2
              refine CK (v:=Hw.val) (by simp [results,Tryz.results125,go_sem,t,c1,u,GZ.val,Hw]) rfl ⟨?_,Ip (G3 j) _ _ _⟩
              rw [Ml,HgN.out,Hfin.out,Hend.out];rfl
            | false =>
              by_cases a:2147483648<=f
              · have a0 : decide ((2147483648 : Int) ≤ (f : Int)) = true := Al oO
                have Hbig:=EJ a;clear a
                go_wp2
                have a:=Hbig.out
                refine CK (v:=(IF ((f:Int)-4294967296)).val) (by simp [results,Tryz.results125,go_sem,t,c1,u,GZ.val,IF]) rfl ⟨?_,Ip (G3 j) _ _ _⟩
                rw [Ml,HgN.out,Hfin.out,Hend.out]
                rw [HH];simp only [BN,if_false,a];rfl
              · have a0 : decide ((2147483648 : Int) ≤ (f : Int)) = false := An oO
                have Hbig:=EJ a;clear a
                go_wp2
                have a:=Hbig.out
                refine CK (v:=(IF (f:Int)).val) (by simp [results,Tryz.results125,go_sem,t,c1,u,GZ.val,IF]) rfl ⟨?_,Ip (G3 j) _ _ _⟩
                rw [Ml,HgN.out,Hfin.out,Hend.out]
                rw [HH];simp only [BN,if_false,a]
def FF (l:l8_):GZ:=if Kf l then Ml (Jf 35 l).1 (Jf 35 l).2.1 else CN
theorem N5 (l:l8_) (w:World) (hl:l.length<=1000) :
  Calls Tryz.prog 125 #[.string (bs l)] w λe w'=>e=.returned (FF l).val/\AD w w':=by
 unfold FF
 cases hok:Kf l with
 | false=>exact T7 l w hl hok
 | true =>
  unfold Kf at hok
  simp only [A4,Ad,AP,List.isEmpty_eq_false_iff] at hok
  obtain ⟨⟨⟨⟨a,b⟩,c⟩,d⟩,f⟩:=hok
  have hc:Jf 35 l=((Jf 35 l).1,(Jf 35 l).2.1,true):=by rw [<- a]
  exact T6 l _ _ w hl hc b c d f
end
section
def eE:ByteArray:=⟨#[101,69]⟩
theorem N4:eE.size=2:=rfl
theorem B00 (h:1<eE.size):eE[1]'h=69:=rfl
theorem A63:eE.extract 2 2=bs []:=rfl
theorem A7G:∀ i (h:i<eE.size),(eE[i]'h).toNat<128:=by
 intro i h
 have a:i<2:=h
 obtain rfl | rfl:i=0\/i=1:=by omega
 · show (101:UInt8).toNat<128;decide
 · show (69:UInt8).toNat<128;decide
def isE (c:UInt8):Bool:=c == 101 || c == 69
theorem YB (r:Nat) (h:128<=r) (h2:r<2048):Utf8.encode (r:Int)=⟨#[UInt8.ofNat (192+r / 64),UInt8.ofNat (128+r % 64)]⟩:=by
 have hv:Utf8.valid (r:Int)=true:=by simp [Utf8.valid];omega
 unfold Utf8.encode
 simp only [hv,if_true,Int.toNat_natCast]
 rw [A2 oO,A7 oO]
theorem WT (r:Nat) (h2:2048<=r) (h3:Utf8.valid (r:Int)=true):3<=(Utf8.encode (r:Int)).size/\(Utf8.encode (r:Int)).size<=4:=by
 unfold Utf8.encode
 simp only [h3,if_true,Int.toNat_natCast]
 rw [A2 oO,A2 oO]
 split <;> simp [ByteArray.size]
theorem Rq  {f:FuncId} {args:Array Value} {a n:Nat}
  (h:Calls P f args (w.drewN (a+n)) λe w'=>e=.returned v/\w'=w.drewN (a+n)) :
  Calls P f args (w.drewN (a+n)) λe w''=>e=.returned v/\∃ m,w''=w.drewN (a+m) :=
 h.mono λ_ _ ⟨he,hm⟩=>⟨he,n,hm⟩
theorem SY (c:Int) (w:World) :
  Calls Tryz.prog 58 #[.string ByteArray.empty,.int .u8 c] w λe w'=>e=.returned (Ah (-1))/\w'=w :=
 Tryz.strings_IndexByte ByteArray.empty c w
theorem SW (r:Nat) (w:World) (h:128<=r) (h2:r<2048) :
  C9 161 #[.string eE,.int .i32 (r:Int)] w (Ah (-1)):=by
 have hV:=λw=>(Tryz.utf8_ValidRune (r:Int) w)
 have f:Lib.validRune (r:Int)=true:=by simp [Lib.validRune];omega
 rw [f] at hV
 have a:=YB r h h2
 have hs:(Utf8.encode (r:Int)).size=2:=by rw [a];rfl
 obtain ⟨c,hc⟩:=eX (UInt8.ofNat (128+r % 64))
 have g:c.toNat=128+r % 64:=by rw [hc,UInt8.toNat_ofNat'];omega
 have b:∀ h,(Utf8.encode (r:Int))[1]'h=c:=by rw [a,hc];intro _;rfl
 have l:((69:Int) != (c.toNat:Int))=true:=by rw [bne_iff_ne];omega
 have q:=N4
 have t:=B00
 have u:=A63
 have i:((r:Int) == 65533)=false:=by rw [DZ];omega
 have m:decide ((r:Int)<128)=false:=An oO
 have j:¬ ((r:Int)<128):=by omega
 have d:(Utf8.encode (r:Int))[1]'(by rw [hs];omega)=c:=b _
 have Hget:=EJ d
 clear hc g a f b d
 generalize eE=s at *
 go_enter func161,ntmps161
 go_wp2_with (go_at_call 184;go_must (refine (hV _).mono ?_);rintro e k ⟨rfl,rfl⟩)
 go_step3
 go_wp2_with fail
 go_loopw [9] (λv wr=>v=Ah 1/\wr=k) (λ_ _=>0)
 case atStart=>exact ⟨rfl,rfl⟩
 case round =>
  obtain ⟨rfl,rfl⟩:=hrel
  go_wp2
  go_step3
  go_wp2_with fail
  have b:=Hget.out
  go_quiet (fail)
  go_wp2_with fail
  have o:IntKind.i64.wrap 2=2:=rfl
  go_quiet ((go_at_call 58;exact Rq (SY _ _)))
  go_wp2_with fail
  rw [Exit.noGoto_ret]
  simp (config:={zetaDelta:=true}) only [Exit.inBlock,Exit.then,Exit.noGoto]
  go_ret
  exact ⟨rfl,by simpa using PK _ _⟩
theorem S8 (r:Nat) (w:World) (h2:2048<=r) (hv:Utf8.valid (r:Int)=true) (h3:r≠65533) :
  C9 161 #[.string eE,.int .i32 (r:Int)] w (Ah (-1)):=by
 have hV:=λw=>(Tryz.utf8_ValidRune (r:Int) w)
 have a:Lib.validRune (r:Int)=true:=by rw [<- hv,B1];simp [Lib.validRune,Utf8.valid];omega
 rw [a] at hV
 have i:r<1114112:=by simp [Utf8.valid] at hv;omega
 obtain ⟨b,c⟩:=WT r h2 hv
 obtain ⟨z,hz⟩:∃ z:Nat,(Utf8.encode (r:Int)).size=z:=⟨_,rfl⟩
 have m:=N4
 have d:((r:Int) == 65533)=false:=by rw [DZ];omega
 have j:decide ((r:Int)<128)=false:=An oO
 have f:¬ ((r:Int)<128):=by omega
 rw [hz] at b c
 clear a hv
 generalize eE=s at *
 go_enter func161,ntmps161
 go_wp2_with (go_at_call 184;go_must (refine (hV _).mono ?_);rintro e g ⟨rfl,rfl⟩)
 go_step3
 go_wp2_with fail
 go_loopw [9] (λv wr=>v=Ah ((z:Int)-1)/\wr=g) (λ_ _=>0)
 case atStart=>exact ⟨rfl,rfl⟩
 case round =>
  obtain ⟨rfl,rfl⟩:=hrel
  have k:decide ((z:Int)-1<2)=false:=An oO
  have l:¬ ((z:Int)-1<2):=by omega
  go_wp2
  go_ret
  exact ⟨rfl,Nh _ _⟩
theorem SX (w:World) :
  C9 161 #[.string eE,.int .i32 65533] w (Ah (-1)):=by
 have k:=N4
 have a:=A7G
 have Hasc:=EJ a;clear a
 generalize eE=s at *
 go_enter func161,ntmps161
 go_wp2
 go_loopg [5,6] 2 (λg _ _ wx=>∃ i:Nat,i+g=2/\wx=w.iter s i)
 case atStart=>exact ⟨0,oO,rfl⟩
 case round =>
  obtain ⟨i,f,rfl⟩:=hrel
  cases gk with
  | zero =>
   obtain rfl:i=2:=by omega
   have d:=run_next_end (P:=Tryz.prog) w s 2
   go_wp2
   go_ret
   exact ⟨rfl,by simpa [World.iter] using (Nh w.heap.size w).alloc (FQ _) _⟩
  | succ g =>
   have hi:i<s.size:=by omega
   have b:=Hasc.out i hi
   have d:=λty=>run_next_ascii (P:=Tryz.prog) w s i ty hi b
   generalize s[i].toNat=c at *
   have j:((c:Int) == 65533)=false:=by rw [DZ];omega
   go_wp2
   go_roundg g
   case measure=>omega
   case rel=>exact ⟨i+1,oO,rfl⟩
theorem WW (s:ByteArray) (pos:Nat) (h:pos<s.size) (ha:128<=(s[pos]'h).toNat) :
  128<=(Utf8.decode s pos).1/\Utf8.valid ((Utf8.decode s pos).1:Int)=true/\1<=(Utf8.decode s pos).2/\pos+(Utf8.decode s pos).2<=s.size/\∀ j,pos<j->j<pos+(Utf8.decode s pos).2->∀ hj:j<s.size,128<=(s[j]'hj).toNat:=by
 have hn:¬ (s[pos]'h).toNat<128:=by omega
 have hb:=(s[pos]'h).toNat_lt
 have hg:∀ k (hk:pos+k<s.size),s.get! (pos+k)=s[pos+k]'hk:=λk hk=>get_at s (pos+k) hk
 have one:∀ j,pos<j->j<pos+1->∀ hj:j<s.size,128<=(s[j]'hj).toNat:=λj _ _ _=>by omega
 have b:Utf8.valid ((Utf8.runeError:Nat):Int)=true:=by decide
 have a:128<=Utf8.runeError:=by decide
 simp only [Utf8.decode,get_at s pos h,hn,if_false]
 split
 ·
  rename_i h2
  simp only [A4,Ad,beq_iff_eq] at h2
  obtain ⟨e,f,c⟩:=h2
  split
  ·
   rename_i h3
   refine ⟨h3,?_,oO,oO,?_⟩
   · simp [Utf8.valid];omega
   ·
    intro j g i hj
    obtain rfl:j=pos+1:=by omega
    rw [hg 1 hj] at c;omega
  · exact ⟨a,b,oO,oO,one⟩
 ·
  split
  ·
   rename_i h2
   simp only [A4,Ad,beq_iff_eq] at h2
   obtain ⟨⟨e,f,c⟩,l,d⟩:=h2
   split
   ·
    rename_i h3
    simp only [ge_iff_le,A4,Ad] at h3
    refine ⟨oO,h3.2,oO,oO,?_⟩
    intro j g i hj
    obtain rfl | rfl:j=pos+1\/j=pos+2:=by omega
    · rw [hg 1 hj] at c;omega
    · rw [hg 2 hj] at d;omega
   · exact ⟨a,b,oO,oO,one⟩
  ·
   split
   ·
    rename_i h2
    simp only [A4,Ad,beq_iff_eq] at h2
    obtain ⟨⟨⟨e,f,c⟩,l,d⟩,o,m⟩:=h2
    split
    ·
     rename_i h3
     simp only [ge_iff_le,A4,Ad] at h3
     refine ⟨oO,h3.2,oO,oO,?_⟩
     intro j g i hj
     obtain rfl | rfl | rfl:j=pos+1\/j=pos+2\/j=pos+3:=by omega
     · rw [hg 1 hj] at c;omega
     · rw [hg 2 hj] at d;omega
     · rw [hg 3 hj] at m;omega
    · exact ⟨a,b,oO,oO,one⟩
   · exact ⟨a,b,oO,oO,one⟩
theorem S9 (r:Nat) (w:World) (h:128<=r) (hv:Utf8.valid (r:Int)=true) :
  C9 161 #[.string eE,.int .i32 (r:Int)] w (Ah (-1)):=by
 by_cases h2:r<2048
 · exact SW r w h h2
 ·
  by_cases h3:r=65533
  · subst h3;exact SX w
  · exact S8 r w oO hv h3
def F6:l8_->l8_ × l8_ × Bool
 | []=>([],[],false)
 | c::r=>if isE c then ([],r,true) else (c::(F6 r).1,(F6 r).2)
theorem A3V (l:l8_):(F6 l).1.length+(F6 l).2.1.length<=l.length:=by
 induction l with
 | nil=>simp [F6]
 | cons c r ih=>unfold F6;split <;> simp;omega
theorem T8 (l:l8_) (h:(F6 l).2.2=true):∃ c,isE c=true/\l=(F6 l).1++c::(F6 l).2.1:=by
 induction l with
 | nil=>simp [F6] at h
 | cons c r ih =>
  unfold F6 at h ⊢
  by_cases hc:isE c=true
  · simp only [hc,if_true];exact ⟨c,hc,rfl⟩
  ·
   simp only [hc] at h ⊢
   obtain ⟨d,hd,e⟩:=ih h
   refine ⟨d,hd,?_⟩
   show c::r=c::((F6 r).1++d::(F6 r).2.1)
   rw [<- e]
theorem V6 (l:l8_) (h:(F6 l).2.2=false):(F6 l).1=l/\(F6 l).2.1=[]:=by
 induction l with
 | nil=>simp [F6]
 | cons c r ih =>
  unfold F6 at h ⊢
  by_cases hc:isE c=true
  · simp [hc] at h
  ·
   simp only [hc] at h ⊢
   obtain ⟨a,b⟩:=ih h
   exact ⟨by show c::(F6 r).1=c::r;rw [a],b⟩
def A3w (l:l8_):Int:=if (F6 l).2.2 then ((F6 l).1.length:Int) else -1
theorem A3v (l:l8_):Lib.indexAny l eE.data.toList=A3w l:=by
 induction l with
 | nil=>rfl
 | cons c r ih =>
  have a:eE.data.toList.contains c=isE c:=by
   show List.contains [101,69] c=(c == 101 || c == 69)
   by_cases h1:c=101
   · subst h1;rfl
   ·
    by_cases h2:c=69
    · subst h2;rfl
    ·
     rw [beq_false_of_ne h1,beq_false_of_ne h2,List.contains,List.elem,beq_false_of_ne h1]
     show List.elem c [69]=_
     rw [List.elem,beq_false_of_ne h2];rfl
  rw [Lib.indexAny,a,ih]
  unfold A3w
  rw [F6]
  by_cases hc:isE c=true
  · simp [hc]
  ·
   simp only [hc]
   by_cases h2:(F6 r).2.2=true
   ·
    simp [h2]
    try omega
   · simp [h2]
theorem WU:∀ x:UInt8,128<=x.toNat->eE.data.toList.contains x=false:=by
 intro x hx
 show List.contains [101,69] x=false
 have a:x≠101:=by rintro rfl;exact D6 hx dD
 have b:x≠69:=by rintro rfl;exact D6 hx dD
 rw [List.contains,List.elem,beq_false_of_ne a]
 show List.elem x [69]=_
 rw [List.elem,beq_false_of_ne b];rfl
theorem NN (s : ByteArray) (w : World) (h8 : s.size ≤ 8) :
    C9 127 #[.string s,.string eE] w (Ah (Lib.indexAny s.data.toList eE.data.toList)):=by
  have J:eE.toList.isEmpty=false:=by rw [show eE=bs [101,69] from rfl,Gw];rfl
  have Q:=N4
  have E:decide ((8:Int)<(s.size:Int))=false:=An oO
  have hU:=λn w=>Tryz.strings_shouldUseASCIISet n w
  have hR:=λc (hc:c<128) w=>Tryz.strings_IndexRune_ascii eE (c:Nat) w oO oO
  have hH:=λr w h hv=>S9 r w h hv
  have m:=λx=>Lib.contains_iff_indexByte eE.data.toList x
  have HC:=EJ WU
  generalize eE=ch at *
  go_enter func127,ntmps127
  go_wp2_with (go_at_call 162;go_must (refine (hU _ _).mono ?_);rintro e f ⟨rfl,rfl⟩;rw [E])
  obtain ⟨B,hB⟩:∃ B,f.heap.size=B:=⟨_,rfl⟩
  have a:(f.iter s 0).heap[B]?=some (.stringIter s 0):=by rw [<- hB];exact World.iter_heap _ _ _
  have F:Below B f (f.iter s 0):=by rw [<- hB];exact (Nh f.heap.size f).alloc (FQ _) _
  generalize f.iter s 0=wi at *
  rw [hB]
  have HB:=EJ (show f.heap.size<=B by omega)
  clear hB
  go_loopg [9,10] s.size (λg _ _ wx=>∃ i:Nat,i+g=s.size/\wx.heap[B]?=some (.stringIter s i)/\Below B f wx/\Lib.NoAny s.data.toList ch.data.toList i)
  case atStart=>exact ⟨0,oO,a,F,Lib.NoAny.zero _ _⟩
  case round =>
    obtain ⟨i,K,a,o,v⟩:=hrel
    have HN:=EJ v
    clear v
    cases gk with
    | zero =>
      obtain rfl:i=s.size:=by omega
      have q:=λty=>Lib.run_next_end_at (P:=Tryz.prog) wr B s s.size ty a oO
      go_wp2
      go_ret
      exact ⟨by rw [Lib.indexAny_none (by rw [<- Lib.size_eq];exact HN.out)];rfl,o.mono HB.out⟩
    | succ g =>
      have hi:i<s.size:=by omega
      obtain ⟨x,hx⟩:∃ x:UInt8,s[i]'hi=x:=⟨_,rfl⟩
      have t:s.data.toList[i]?=some x:=by rw [<- hx];exact Lib.data_getElem? s i hi
      by_cases hx128:x.toNat<128
      · have q := fun ty => Lib.run_next_ascii_at (P := Tryz.prog) wr B s i ty a hi (by rw [hx]; exact hx128)
        rw [hx] at q
        have Hx:=EJ t
        have Hit:=EJ (Lib.iterAt_heap wr B s i (i+1) a)
        have Hb2:=EJ (Lib.below_iterAt o (FQ B) s (i+1))
        clear t hx a
        have d:=m x
        have l:((x.toNat:Int)).toNat.toUInt8=x:=by simp
        have k:=λw=>hR x.toNat hx128 w
        rw [l] at k
        clear l hR hH m hU
        cases hin:ch.data.toList.contains x
        · rw [hin] at d
          have L:¬ ((0:Int)<=Lib.indexByte ch.data.toList x):=dF d.symm
          clear d
          go_wp2_with (go_at_call 161;go_must (refine (k _).mono ?_);rintro e G ⟨rfl,rfl⟩)
          go_roundg g
          case measure=>omega
          case rel=>exact ⟨i+1,oO,Hit.out,Hb2.out,HN.out.succ Hx.out hin⟩
        · rw [hin] at d
          have M:(0:Int)<=Lib.indexByte ch.data.toList x:=dT d.symm
          clear d
          go_wp2_with (go_at_call 161;go_must (refine (k _).mono ?_);rintro e G ⟨rfl,rfl⟩)
          go_ret
          exact ⟨by rw [Lib.indexAny_hit HN.out Hx.out hin];rfl,Hb2.out.mono HB.out⟩
      · obtain ⟨H, y, N, O, A⟩ := WW s i hi (by rw [hx]; omega)
        have q:=λty=>Lib.run_next_any_at (P:=Tryz.prog) wr B s i ty a hi
        have u:Lib.NoAny s.data.toList ch.data.toList (i+(Utf8.decode s i).2):=by
          intro j b hj hb
          by_cases hji:j<i
          · exact HN.out j b hji hb
          · have C : j < s.size := by omega
            rw [Lib.data_getElem? s j C] at hb
            have hb2:s[j]=b:=Ei hb
            have D:128<=b.toNat:=by
              by_cases hje:j=i
              · subst hje;rw [<- hb2,hx];omega
              · rw [<- hb2];exact A j oO hj C
            exact HC.out b D
        have Hno2:=EJ u
        clear u A t hx hR m hU
        have k:=λw=>hH _ w H y
        generalize (Utf8.decode s i).1=r at *
        generalize (Utf8.decode s i).2=n at *
        have Hit:=EJ (Lib.iterAt_heap wr B s i (i+n) a)
        have Hb2:=EJ (Lib.below_iterAt o (FQ B) s (i+n))
        clear a hH y
        go_wp2_with (go_at_call 161;go_must (refine (k _).mono ?_);rintro e G ⟨rfl,hb3⟩)
        go_roundg (s.size-(i+n))
        case measure=>omega
        case rel=>exact ⟨i+n,oO,(hb3.block B (BJ.1 Hit.out).1).trans Hit.out,Hb2.out.trans (hb3.mono (Nat.le_of_lt (BJ.1 Hit.out).1)),Hno2.out⟩
theorem OE (l:l8_) (w:World) (hl:l.length<=1000) :
    C9 127 #[.string (bs l),.string eE] w (Ah (A3w l)):=by
  have hd:(bs l).data.toList=l:=by rw [<- Lib.toList_data,Gw]
  rw [<- A3v]
  by_cases h8:l.length<=8
  · have h := NN (bs l) w (by rw [BR]; exact h8)
    rw [hd] at h;exact h
  · have hz := zero_of_info (P := Tryz.prog) (t := 192) (v := .agg (Array.replicate 256 (.bool false))) (n := 256) kR
    have h:=Tryz.strings_IndexAny_long hz.1 (bs l) eE w (by rw [N4];omega) (by rw [BR];omega) (by rw [BR];omega) (by rw [N4];omega) (by
      intro j b hj
      have a:eE.data.toList=[101,69]:=rfl
      rw [a] at hj
      have hm:=List.mem_of_getElem? hj
      simp only [Ax,AK,Cl] at hm
      rcases hm with rfl | rfl <;> decide)
    rw [hd] at h
    refine h.mono λe w' ⟨c,d⟩=>⟨c,?_⟩
    rw [d]
    exact ((Nh w.heap.size w).alloc (FQ _) _).alloc (by simp) _
end
section
def PF (m:Bool) (p:l8_) (k:Int):GZ :=
 if Ih p then
  (if (Gy m (HT ((Cs p).1 ++ (Cs p).2.1) ((Cs p).1.length + k)) (J5 ((Cs p).1 ++ (Cs p).2.1) ((Cs p).1.length + k))).2 then
   MM (Gy m (HT ((Cs p).1++(Cs p).2.1) ((Cs p).1.length+k)) (J5 ((Cs p).1++(Cs p).2.1) ((Cs p).1.length+k))).1
  else Hw)
 else CN
def Ro (l:l8_):GZ :=
 if (F6 (AW l).2).2.2 then
  (if (IK (F6 (AW l).2).2.1).2 then PF (AW l).1 (F6 (AW l).2).1 (IK (F6 (AW l).2).2.1).1 else CN)
 else PF (AW l).1 (AW l).2 0
def GO (l:l8_):GZ :=
 if 64<l.length then CN
 else if (FF l).ok then FF l
 else if (GN l).2 then IF (GN l).1
 else Ro l
theorem A1B  {w0:World} (hb1:AD w0 w1) {o:Obj}
  (hb2:Below (w1.alloc o).heap.size (w1.alloc o) w2):AD w0 w2:=by
 have h:AD w0 (w1.alloc o):=hb1.alloc hb1.size o
 exact h.trans (hb2.mono h.size)
theorem Sm (l:l8_) (w:World) (hl:64<l.length) :
  C9 95 #[.string (bs l)] w CN.val:=by
 have hs:=BR l
 go_enter func95,ntmps95
 go_wp2_with fail
 exact CK (v:=CN.val) (by simp [results,Tryz.results95,go_sem,GZ.val,CN]) rfl ⟨rfl,G3 (Nh _ _)⟩
theorem Qu (l:l8_) (w:World) (hl:l.length<=64) (h:(FF l).ok=true) :
  Calls Tryz.prog 95 #[.string (bs l)] w λe w'=>e=.returned (FF l).val/\AD w w':=by
 have hs:=BR l
 have hR:=λw=>N5 l w oO
 generalize FF l=R at *
 obtain ⟨k,n,ok,er⟩:=R
 simp only at h
 subst h
 simp only [GZ.val] at hR ⊢
 go_enter func95,ntmps95
 go_wp2_with (go_at_call 125;go_must (refine (hR _).mono ?_);rintro e d ⟨rfl,hb1⟩;obtain ⟨b,c1,c,f0,f1,f2⟩:=Cu hb1;have a:=hb1.size;simp at a;replace a:=Dj a)
 refine CK (v:=.tuple #[.agg #[Ah k,Ah n,.string ⟨#[]⟩],.bool true,Ah er]) (by simp [results,Tryz.results95,go_sem,b,c1,c,a]) rfl ⟨rfl,(Ip (G3 hb1) _ _ _).alloc (by simp;omega) _⟩
theorem Qt (l:l8_) (w:World) (hl:l.length<=64) (h:(FF l).ok=false) (h2:(GN l).2=true) :
  Calls Tryz.prog 95 #[.string (bs l)] w λe w'=>e=.returned (IF (GN l).1).val/\AD w w':=by
 have hs:=BR l
 have hR:=λw=>N5 l w oO
 have hW:=λw=>PG l w oO
 generalize FF l=R at *
 generalize GN l=V at *
 obtain ⟨k,n,ok,er⟩:=R
 obtain ⟨v,vok⟩:=V
 simp only at h h2
 subst h h2
 simp only [GZ.val,IF] at hR hW ⊢
 go_enter func95,ntmps95
 go_wp2_with first | (go_at_call 125;go_must (refine (hR _).mono ?_);rintro e d ⟨rfl,hb1⟩;obtain ⟨b,c1,c,f0,f1,f2⟩:=Cu hb1;have a:=hb1.size;simp at a;replace a:=Dj a) | (go_at_call 126;go_must (refine (hW _).mono ?_);rintro e f ⟨rfl,hb2⟩;replace hb2:=A1B hb1 hb2;clear b c1 c f0 f1 f2;obtain ⟨b,c1,c,f0,f1,f2⟩:=Cu hb2)
 refine CK (v:=.tuple #[.agg #[Ah 1,Ah v,.string ⟨#[]⟩],.bool true,Ah 0]) (by simp [results,Tryz.results95,go_sem,b,c1,c]) rfl ⟨rfl,Ip (G3 hb2) _ _ _⟩
theorem UH (l:l8_):-1000<=(IK l).1/\(IK l).1<=1000:=by
 unfold IK
 split
 · simp
 ·
  next h =>
  simp only [BC,Ad,AP,not_or,Bool.not_eq_false] at h
  obtain ⟨⟨b,c⟩,a⟩:=h
  have d:=KZ (AW l).2 (At.1 a)
  have e:10 ^ (AW l).2.length<=10 ^ 3:=Nat.pow_le_pow_right dD oO
  generalize Dd (AW l).2=N at *
  split
  · simp only;omega
  · simp only;omega
theorem Qw (l:l8_) (w:World) (hl:l.length<=64) (h:(FF l).ok=false) (h2:(GN l).2=false) (h3:(F6 (AW l).2).2.2=false) :
  Calls Tryz.prog 95 #[.string (bs l)] w λe w'=>e=.returned (PF (AW l).1 (AW l).2 0).val/\AD w w':=by
 have hs:=BR l
 have hR:=λw=>N5 l w oO
 have hW:=λw=>PG l w oO
 have hS:=λw=>K1 l w oO
 have j:=J4 l
 generalize FF l=R at *
 generalize GN l=V at *
 generalize AW l=sr at *
 obtain ⟨k,n,ok,er⟩:=R
 obtain ⟨v,vok⟩:=V
 obtain ⟨m,r⟩:=sr
 simp only at h h2 h3 j hS ⊢
 subst h h2
 simp only [GZ.val] at hR hW
 have hI:∀ w,C9 127 #[.string (bs r),.string ⟨#[101,69]⟩] w (Ah (-1)):=λw=>by
  have h:=OE r w oO
  unfold A3w at h
  rw [h3] at h
  exact h
 have hM:=λw=>LB r w oO
 have o:=LE r
 have g:=KF r
 unfold PF
 generalize Ih r=ok at *
 generalize Cs r=pq at *
 obtain ⟨A,B,f⟩:=pq
 simp only at hM g o
 clear h3
 cases ok with
 | false =>
  clear g
  go_enter func95,ntmps95
  go_wp2_with first | (go_at_call 125;go_must (refine (hR _).mono ?_);rintro e s ⟨rfl,hb1⟩;obtain ⟨a,c1,b,f0,f1,f2⟩:=Cu hb1;have d:=hb1.size;simp at d;replace d:=Dj d) | (go_at_call 126;go_must (refine (hW _).mono ?_);rintro e t ⟨rfl,hb2⟩;replace hb2:=A1B hb1 hb2;clear a c1 b f0 f1 f2;obtain ⟨a,c1,b,f0,f1,f2⟩:=Cu hb2) | (go_at_call 122;go_must (refine (hS _).mono ?_);rintro e u ⟨rfl,hb3⟩;replace hb3:=DN hb2 hb3;clear a c1 b f0 f1 f2;obtain ⟨a,c1,b,f0,f1,f2⟩:=Cu hb3) | (go_at_call 127;go_must (refine (hI _).mono ?_);rintro e x ⟨rfl,hb4⟩;replace hb4:=DN hb3 hb4;clear a c1 b f0 f1 f2;obtain ⟨a,c1,b,f0,f1,f2⟩:=Cu hb4) | (go_at_call 123;go_must (refine (hM _).mono ?_);rintro e y ⟨rfl,hb5⟩;replace hb5:=DN hb4 hb5;clear a c1 b f0 f1 f2;obtain ⟨a,c1,b,f0,f1,f2⟩:=Cu hb5)
  exact CK (v:=CN.val) (by simp [results,Tryz.results95,go_sem,a,c1,b,GZ.val,CN]) rfl ⟨rfl,Ip (G3 hb5) _ _ _⟩
 | true =>
  obtain ⟨hA,hB⟩:=g rfl
  rw [A7 rfl]
  have i:∀ c∈A++B,C4 c=true:=by
   intro c hc
   rcases B4.1 hc with h | h
   · exact hA c h
   · exact hB c h
  have q:=λw=>U6 A B 0 w oO oO oO
  have hV:=λw=>PH m (HT (A++B) (A.length+0)) (J5 (A++B) (A.length+0)) w (by simp [J5];omega) (Nj _ _ i) (Oi _ _ i)
  clear g hA hB i
  simp only
  generalize HT (A++B) (A.length+0)=W at *
  generalize J5 (A++B) (A.length+0)=D at *
  generalize Gy m W D=vv at *
  obtain ⟨C,fit⟩:=vv
  simp only at hV
  cases fit
  all_goals
   go_enter func95,ntmps95
   go_wp2_with first | (go_at_call 125;go_must (refine (hR _).mono ?_);rintro e s ⟨rfl,hb1⟩;obtain ⟨a,c1,b,f0,f1,f2⟩:=Cu hb1;have d:=hb1.size;simp at d;replace d:=Dj d) | (go_at_call 126;go_must (refine (hW _).mono ?_);rintro e t ⟨rfl,hb2⟩;replace hb2:=A1B hb1 hb2;clear a c1 b f0 f1 f2;obtain ⟨a,c1,b,f0,f1,f2⟩:=Cu hb2) | (go_at_call 122;go_must (refine (hS _).mono ?_);rintro e u ⟨rfl,hb3⟩;replace hb3:=DN hb2 hb3;clear a c1 b f0 f1 f2;obtain ⟨a,c1,b,f0,f1,f2⟩:=Cu hb3) | (go_at_call 127;go_must (refine (hI _).mono ?_);rintro e x ⟨rfl,hb4⟩;replace hb4:=DN hb3 hb4;clear a c1 b f0 f1 f2;obtain ⟨a,c1,b,f0,f1,f2⟩:=Cu hb4) | (go_at_call 123;go_must (refine (hM _).mono ?_);rintro e y ⟨rfl,hb5⟩;replace hb5:=DN hb4 hb5;clear a c1 b f0 f1 f2;obtain ⟨a,c1,b,f0,f1,f2⟩:=Cu hb5) | (go_at_call 129;go_must (refine (q _).mono ?_);rintro e E ⟨rfl,Yw⟩;replace Yw:=DN hb5 Yw;clear a c1 b f0 f1 f2;obtain ⟨a,c1,b,f0,f1,f2⟩:=Cu Yw) | (go_at_call 124;go_must (refine (hV _).mono ?_);rintro e F ⟨rfl,hb7⟩;replace hb7:=DN Yw hb7;clear a c1 b f0 f1 f2;obtain ⟨a,c1,b,f0,f1,f2⟩:=Cu hb7)
  · exact CK (v:=Hw.val) (by simp [results,Tryz.results95,go_sem,a,c1,b,GZ.val,Hw]) rfl ⟨rfl,Ip (G3 hb7) _ _ _⟩
  · exact CK (v:=(MM C).val) (by simp [results,Tryz.results95,go_sem,a,c1,b,GZ.val,MM]) rfl ⟨rfl,Ip (G3 hb7) _ _ _⟩
theorem Qv (l:l8_) (w:World) (hl:l.length<=64) (h:(FF l).ok=false) (h2:(GN l).2=false) (h3:(F6 (AW l).2).2.2=true) :
  Calls Tryz.prog 95 #[.string (bs l)] w λe w'=>e=.returned (if (IK (F6 (AW l).2).2.1).2 then PF (AW l).1 (F6 (AW l).2).1 (IK (F6 (AW l).2).2.1).1 else CN).val/\AD w w':=by
 have hs:=BR l
 have hR:=λw=>N5 l w oO
 have hW:=λw=>PG l w oO
 have hS:=λw=>K1 l w oO
 have j:=J4 l
 generalize FF l=R at *
 generalize GN l=V at *
 generalize AW l=sr at *
 obtain ⟨k,n,ok,er⟩:=R
 obtain ⟨v,vok⟩:=V
 obtain ⟨m,r⟩:=sr
 simp only at h h2 h3 j hS ⊢
 subst h h2
 simp only [GZ.val] at hR hW
 have hI:=λw=>OE r w oO
 obtain ⟨x,-,g⟩:=T8 r h3
 have s:=A3V r
 unfold A3w at hI
 generalize F6 r=cc at *
 obtain ⟨p,q,fd⟩:=cc
 simp only at h3 g hI s ⊢
 subst h3
 rw [A7 rfl] at hI
 change ∀ w,Calls Tryz.prog 127 #[.string (bs r),.string ⟨#[101,69]⟩] w _ at hI
 have y:(bs r).size=p.length+(q.length+1):=by rw [BR,g];simp
 have N:(bs r).extract (p.length+1) (p.length+(q.length+1))=bs q:=by
  rw [<- y,Si _ _ _ (BR r),g,List.append_cons,List.drop_left' (by simp)]
 have O:(bs r).extract 0 p.length=bs p:=by
  rw [Sg,g];simp
 have hP:=λw=>A1s q w oO
 obtain ⟨t,u⟩:=UH q
 have P:p.length+(q.length+1)<=64:=by have h:=BR r;omega
 have hM:=λw=>LB p w oO
 have C:=LE p
 have i:=KF p
 generalize IK q=pw at *
 obtain ⟨by',pok⟩:=pw
 unfold PF
 simp only at hP t u ⊢
 clear g j s
 cases pok with
 | false =>
  clear i
  go_enter func95,ntmps95
  go_wp2_with first | (go_at_call 125;go_must (refine (hR _).mono ?_);rintro e E ⟨rfl,hb1⟩;obtain ⟨a,c1,b,f0,f1,f2⟩:=Cu hb1;have d:=hb1.size;simp at d;replace d:=Dj d) | (go_at_call 126;go_must (refine (hW _).mono ?_);rintro e F ⟨rfl,hb2⟩;replace hb2:=A1B hb1 hb2;clear a c1 b f0 f1 f2;obtain ⟨a,c1,b,f0,f1,f2⟩:=Cu hb2) | (go_at_call 122;go_must (refine (hS _).mono ?_);rintro e G ⟨rfl,hb3⟩;replace hb3:=DN hb2 hb3;clear a c1 b f0 f1 f2;obtain ⟨a,c1,b,f0,f1,f2⟩:=Cu hb3) | (go_at_call 127;go_must (refine (hI _).mono ?_);rintro e H ⟨rfl,hb4⟩;replace hb4:=DN hb3 hb4;clear a c1 b f0 f1 f2;obtain ⟨a,c1,b,f0,f1,f2⟩:=Cu hb4) | (go_at_call 128;go_must (refine (hP _).mono ?_);rintro e J ⟨rfl,hb5⟩;replace hb5:=DN hb4 hb5;clear a c1 b f0 f1 f2;obtain ⟨a,c1,b,f0,f1,f2⟩:=Cu hb5)
  exact CK (v:=CN.val) (by simp [results,Tryz.results95,go_sem,a,c1,b,GZ.val,CN]) rfl ⟨rfl,Ip (G3 hb5) _ _ _⟩
 | true =>
  rw [A7 rfl]
  generalize Ih p=ok at *
  generalize Cs p=pq at *
  obtain ⟨A,B,f⟩:=pq
  simp only at hM i C
  cases ok with
  | false =>
   clear i
   go_enter func95,ntmps95
   go_wp2_with first | (go_at_call 125;go_must (refine (hR _).mono ?_);rintro e E ⟨rfl,hb1⟩;obtain ⟨a,c1,b,f0,f1,f2⟩:=Cu hb1;have d:=hb1.size;simp at d;replace d:=Dj d) | (go_at_call 126;go_must (refine (hW _).mono ?_);rintro e F ⟨rfl,hb2⟩;replace hb2:=A1B hb1 hb2;clear a c1 b f0 f1 f2;obtain ⟨a,c1,b,f0,f1,f2⟩:=Cu hb2) | (go_at_call 122;go_must (refine (hS _).mono ?_);rintro e G ⟨rfl,hb3⟩;replace hb3:=DN hb2 hb3;clear a c1 b f0 f1 f2;obtain ⟨a,c1,b,f0,f1,f2⟩:=Cu hb3) | (go_at_call 127;go_must (refine (hI _).mono ?_);rintro e H ⟨rfl,hb4⟩;replace hb4:=DN hb3 hb4;clear a c1 b f0 f1 f2;obtain ⟨a,c1,b,f0,f1,f2⟩:=Cu hb4) | (go_at_call 128;go_must (refine (hP _).mono ?_);rintro e J ⟨rfl,hb5⟩;replace hb5:=DN hb4 hb5;clear a c1 b f0 f1 f2;obtain ⟨a,c1,b,f0,f1,f2⟩:=Cu hb5) | (go_at_call 123;go_must (refine (hM _).mono ?_);rintro e L ⟨rfl,Yw⟩;replace Yw:=DN hb5 Yw;clear a c1 b f0 f1 f2;obtain ⟨a,c1,b,f0,f1,f2⟩:=Cu Yw)
   exact CK (v:=CN.val) (by simp [results,Tryz.results95,go_sem,a,c1,b,GZ.val,CN]) rfl ⟨rfl,Ip (G3 Yw) _ _ _⟩
  | true =>
   obtain ⟨hA,hB⟩:=i rfl
   rw [A7 rfl]
   have o:∀ c∈A++B,C4 c=true:=by
    intro c hc
    rcases B4.1 hc with h | h
    · exact hA c h
    · exact hB c h
   have K:=λw=>U6 A B by' w oO oO oO
   have hV:=λw=>PH m (HT (A++B) (A.length+by')) (J5 (A++B) (A.length+by')) w (by simp [J5];omega) (Nj _ _ o) (Oi _ _ o)
   clear i hA hB o
   simp only
   generalize HT (A++B) (A.length+by')=W at *
   generalize J5 (A++B) (A.length+by')=D at *
   generalize Gy m W D=vv at *
   obtain ⟨M,fit⟩:=vv
   simp only at hV
   cases fit
   all_goals
    go_enter func95,ntmps95
    go_wp2_with first | (go_at_call 125;go_must (refine (hR _).mono ?_);rintro e E ⟨rfl,hb1⟩;obtain ⟨a,c1,b,f0,f1,f2⟩:=Cu hb1;have d:=hb1.size;simp at d;replace d:=Dj d) | (go_at_call 126;go_must (refine (hW _).mono ?_);rintro e F ⟨rfl,hb2⟩;replace hb2:=A1B hb1 hb2;clear a c1 b f0 f1 f2;obtain ⟨a,c1,b,f0,f1,f2⟩:=Cu hb2) | (go_at_call 122;go_must (refine (hS _).mono ?_);rintro e G ⟨rfl,hb3⟩;replace hb3:=DN hb2 hb3;clear a c1 b f0 f1 f2;obtain ⟨a,c1,b,f0,f1,f2⟩:=Cu hb3) | (go_at_call 127;go_must (refine (hI _).mono ?_);rintro e H ⟨rfl,hb4⟩;replace hb4:=DN hb3 hb4;clear a c1 b f0 f1 f2;obtain ⟨a,c1,b,f0,f1,f2⟩:=Cu hb4) | (go_at_call 128;go_must (refine (hP _).mono ?_);rintro e J ⟨rfl,hb5⟩;replace hb5:=DN hb4 hb5;clear a c1 b f0 f1 f2;obtain ⟨a,c1,b,f0,f1,f2⟩:=Cu hb5) | (go_at_call 123;go_must (refine (hM _).mono ?_);rintro e L ⟨rfl,Yw⟩;replace Yw:=DN hb5 Yw;clear a c1 b f0 f1 f2;obtain ⟨a,c1,b,f0,f1,f2⟩:=Cu Yw) | (go_at_call 129;go_must (refine (K _).mono ?_);rintro e Q ⟨rfl,hb7⟩;replace hb7:=DN Yw hb7;clear a c1 b f0 f1 f2;obtain ⟨a,c1,b,f0,f1,f2⟩:=Cu hb7) | (go_at_call 124;go_must (refine (hV _).mono ?_);rintro e T ⟨rfl,hb8⟩;replace hb8:=DN hb7 hb8;clear a c1 b f0 f1 f2;obtain ⟨a,c1,b,f0,f1,f2⟩:=Cu hb8)
   · exact CK (v:=Hw.val) (by simp [results,Tryz.results95,go_sem,a,c1,b,GZ.val,Hw]) rfl ⟨rfl,Ip (G3 hb8) _ _ _⟩
   · exact CK (v:=(MM M).val) (by simp [results,Tryz.results95,go_sem,a,c1,b,GZ.val,MM]) rfl ⟨rfl,Ip (G3 hb8) _ _ _⟩
theorem U7 (l:l8_) (w:World) :
  Calls Tryz.prog 95 #[.string (bs l)] w λe w'=>e=.returned (GO l).val/\AD w w':=by
 unfold GO
 by_cases hl:64<l.length
 · rw [A7 hl];exact Sm l w hl
 ·
  rw [A2 hl]
  have hl':l.length<=64:=by omega
  cases h:(FF l).ok with
  | true=>rw [A7 rfl];exact Qu l w hl' h
  | false =>
   rw [A2 dD]
   cases h2:(GN l).2 with
   | true=>rw [A7 rfl];exact Qt l w hl' h h2
   | false =>
    rw [A2 dD]
    unfold Ro
    cases h3:(F6 (AW l).2).2.2 with
    | true=>rw [A7 rfl];exact Qv l w hl' h h2 h3
    | false=>rw [A2 dD];exact Qw l w hl' h h2 h3
end
section
def A2H (l:l8_):GZ :=
 if (F6 l).2.2 then
  (if (IK (F6 l).2.1).2 then PF (AW (F6 l).1).1 (AW (F6 l).1).2 (IK (F6 l).2.1).1 else CN)
 else PF (AW (F6 l).1).1 (AW (F6 l).1).2 0
theorem VE (l:l8_):AW (F6 l).1=((AW l).1,(F6 (AW l).2).1)/\(F6 l).2=(F6 (AW l).2).2:=by
  cases l with
  | nil=>exact ⟨rfl,rfl⟩
  | cons c r =>
    by_cases hE:isE c=true
    · have a : c ≠ 45 := by rintro rfl; exact D6 hE dD
      have b:c≠43:=by rintro rfl;exact D6 hE dD
      simp [AW,F6,hE,a,b]
    · have hE' : isE c = false := by simpa using hE
      by_cases a:c=45
      · subst a;simp [AW,F6,hE']
      · by_cases b : c = 43
        · subst b;simp [AW,F6,hE']
        · simp [AW,F6,hE',a,b]
theorem A2G (l:l8_):A2H l=Ro l:=by
 obtain ⟨a,b⟩:=VE l
 unfold A2H Ro
 rw [a,b]
 cases hf:(F6 (AW l).2).2.2 with
 | true=>rfl
 | false =>
  simp only [BN,if_false]
  rw [(V6 _ hf).1]
theorem VF (c:UInt8) (r:l8_) (h:C4 c=true):AW (c::r)=(false,c::r):=by
 have a:c≠45:=by rintro rfl;exact D6 h dD
 have b:c≠43:=by rintro rfl;exact D6 h dD
 simp [AW,a,b]
theorem Up (l:l8_) (hl:l.length<=64) (h:Kf l=false):GO l=if (GN l).2 then IF (GN l).1 else A2H l:=by
 have hr:(FF l).ok=false:=by unfold FF;rw [h];rfl
 unfold GO
 rw [A2 oO,hr,A2G]
 rfl
end
section
def EF (c:UInt8):Bool:=c == 0 || c == 9 || c == 10 || c == 12 || c == 13 || c == 32
def Qs (c:UInt8):Bool:=c == 10 || c == 12 || c == 13
def NV (c:UInt8):Bool:=c == 40 || c == 41 || c == 60 || c == 62 || c == 91 || c == 93 || c == 123 || c == 125 || c == 47 || c == 37
def E1 (c:UInt8):Bool:=!EF c && !NV c
theorem YA {c:UInt8} (h:Qs c=true):EF c=true:=by
 simp only [Qs,BC,beq_iff_eq] at h
 rcases h with (rfl | rfl) | rfl <;> rfl
def E7:Bool->l8_->l8_
 | _,[]=>[]
 | false,c::r=>if c=37 then E7 true r else if EF c then E7 false r else c::r
 | true,c::r=>if Qs c then E7 false (r) else E7 true r
theorem H6:∀ (l:l8_) (m:Bool),(E7 m l).length<=l.length
 | [],m=>by cases m <;> simp [E7]
 | c::r,false=>by
  have h1:=H6 r true;have h2:=H6 r false
  simp only [E7];split
  · simp;omega
  · split <;> simp <;> omega
 | c::r,true=>by
  have h1:=H6 r true;have h2:=H6 r false
  simp only [E7];split <;> simp <;> omega
theorem I8:∀ (l:l8_) (m:Bool),∃ k,k<=l.length/\E7 m l=l.drop k
 | [],m=>⟨0,FQ _,by cases m <;> rfl⟩
 | c::r,false=>by
  obtain ⟨k1,a1,b1⟩:=I8 r true;obtain ⟨k2,a2,b2⟩:=I8 r false
  simp only [E7];split
  · exact ⟨k1+1,by simp;omega,by rw [b1];rfl⟩
  ·
   split
   · exact ⟨k2+1,by simp;omega,by rw [b2];rfl⟩
   · exact ⟨0,G8 _,rfl⟩
 | c::r,true=>by
  obtain ⟨k1,a1,b1⟩:=I8 r true;obtain ⟨k2,a2,b2⟩:=I8 r false
  simp only [E7];split
  · exact ⟨k2+1,by simp;omega,by rw [b2];rfl⟩
  · exact ⟨k1+1,by simp;omega,by rw [b1];rfl⟩
def Jq:l8_->l8_
 | c::r=>if c=10 then r else c::r
 | []=>[]
theorem NT (l:l8_):(Jq l).length<=l.length:=by
 cases l with
 | nil=>simp [Jq]
 | cons c r=>simp only [Jq];split <;> simp
def Qr (c:UInt8):Bool:=decide (48<=c.toNat) && decide (c.toNat<=55)
def NJ:Nat->Nat->l8_->Nat × l8_
 | 0,n,l=>(n,l)
 | _+1,n,[]=>(n,[])
 | k+1,n,c::r=>if Qr c then NJ k (8 * n+(c.toNat-48)) r else (n,c::r)
theorem Wj:∀ (k n:Nat) (l:l8_),(NJ k n l).2.length<=l.length
 | 0,n,l=>FQ _
 | _+1,n,[]=>FQ _
 | k+1,n,c::r=>by
  have:=Wj k (8 * n+(c.toNat-48)) r
  simp only [NJ];split <;> simp <;> omega
def Je (c:UInt8) (r:l8_):l8_ × l8_ :=
 if c=110 then ([10],r) else if c=114 then ([13],r) else if c=116 then ([9],r) else if c=98 then ([8],r) else if c=102 then ([12],r)
 else if c=10 then ([],r) else if c=13 then ([],Jq r)
 else if Qr c then ([ch ((NJ 2 (c.toNat-48) r).1 % 256:Nat)],(NJ 2 (c.toNat-48) r).2) else ([c],r)
theorem WP (c:UInt8) (r:l8_):(Je c r).2.length<=r.length:=by
 have a:=NT r
 have b:=Wj 2 (c.toNat-48) r
 unfold Je
 repeat' split
 all_goals first | exact FQ _ | assumption
def Do (d:Nat) (o:l8_) (l:l8_):Option (l8_ × l8_) :=
 match l with
 | []=>none
 | c::r =>
  if c=40 then Do (d+1) (o++[c]) r
  else if c=41 then (if d=1 then some (o,r) else Do (d-1) (o++[c]) r)
  else if c=92 then
   match r with
   | []=>none
   | e::r'=>Do d (o++(Je e r').1) (Je e r').2
  else if c=13 then Do d (o++[10]) (Jq r)
  else Do d (o++[c]) r
termination_by l.length
decreasing_by
 all_goals simp_wf
 · have:=WP e r';omega
 · have:=NT r;omega
def A3x (c:UInt8):Option Nat:=if Er c<16 then some (Er c) else none
def Mw:Option Nat->l8_->l8_->Option (l8_ × l8_)
 | _,_,[]=>none
 | h,o,c::r =>
  if EF c then Mw h o r
  else if c=62 then some (match h with | none=>o | some x=>o++[ch (x * 16:Nat)],r)
  else match A3x c with
   | none=>none
   | some d=>match h with
    | none=>Mw (some d) o r
    | some x=>Mw none (o++[ch (x * 16+d:Nat)]) r
structure Ka where
 kind:Int
 n:Int
 text:l8_
def Ka.val (t:Ka):Value:=.agg #[Ah t.kind,Ah t.n,.string (bs t.text)]
abbrev Xi:=Except Int (Ka × l8_)
def HZ (o:Option (l8_ × l8_)):Xi :=
 match o with
 | none=>.error 14
 | some (s,r)=>if 65535<s.length then .error 9 else .ok (⟨6,0,s⟩,r)
def J9 (k:Int) (l:l8_):Xi :=
 if 127<(l.takeWhile E1).length then .error 9 else .ok (⟨k,0,l.takeWhile E1⟩,l.dropWhile E1)
def LH (c:UInt8) (r:l8_):Xi :=
 match r with
 | d::r'=>if d=c then .ok (⟨3,0,[c,c]⟩,r') else if c=60 then HZ (Mw none [] (d::r')) else .error 14
 | []=>if c=60 then HZ (Mw none [] []) else .error 14
def Mf (r:l8_):Xi :=
 match r with
 | d::r'=>if d=47 then J9 5 r' else J9 4 (d::r')
 | []=>J9 4 []
def Tj (l:l8_):Xi :=
 let t:=GO (l.takeWhile E1)
 if t.e≠0 then .error t.e else if t.ok then .ok (⟨t.kind,t.n,[]⟩,l.dropWhile E1) else J9 3 l
def M0 (l:l8_):Xi :=
 match E7 false l with
 | []=>.ok (⟨0,0,[]⟩,[])
 | c::r =>
  if c=40 then HZ (Do 1 [] r)
  else if c=41 then .error 14
  else if c=60\/c=62 then LH c r
  else if c=123 then .ok (⟨7,0,[]⟩,r)
  else if c=125 then .ok (⟨8,0,[]⟩,r)
  else if c=91\/c=93 then .ok (⟨3,0,[c]⟩,r)
  else if c=47 then Mf r
  else Tj (c::r)
end
section
def Mh (n:Int):l8_:=if n<0 then [45] else []
def ID (n:Int):l8_:=Eb (n.natAbs / 65536)
def LR (n:Int):l8_:=Jc (n.natAbs % 65536)
def norm (n:Int):Int:=if Am n then n else 0
end
section
theorem A5t (n:Int):-2147483648<=norm n:=by unfold norm Am;split <;> simp at * <;> omega
theorem A5u (n:Int):norm n<=2147483647:=by unfold norm Am;split <;> simp at * <;> omega
theorem XJ (n:Int):(bs (Mh n)).size<=1:=by rw [BR];unfold Mh;split <;> simp
theorem Vl (n:Int) (h:-2147483648<=n) (h':n<=2147483647):(bs (ID n)).size<=20:=JH _ oO
theorem XZ (n:Int):(bs (LR n)).size<=16:=by rw [BR];exact N0 _
def DC (n:Int):l8_:=Mh n++ID n++(if LR n=[] then [] else 46::LR n)
def Oj (n:Int):l8_:=Mh n++ID n++46::(if LR n=[] then [48] else LR n)
theorem Zg {a b:ByteArray} (h:a=b):Ending.returned (.string a)=Ending.returned (.string b):=by rw [h]
theorem WC (f:Nat) (h:0<f) (h':f<65536):Jc f≠[]:=by rw [NQ f h h'];simp
theorem Ph (n:Int):LR n=[]↔n.natAbs % 65536=0:=by
 unfold LR
 constructor
 ·
  intro h
  by_cases h0:n.natAbs % 65536=0
  · exact h0
  · exact D6 h (WC _ oO oO)
 · intro h;rw [h,LA]
end
section
theorem CH {c d:UInt8} (h:(c.toNat:Int)=(d.toNat:Int)):c=d:=UInt8.toNat_inj.1 oO
theorem DH {c d:UInt8} (h:¬ (c.toNat:Int)=(d.toNat:Int)):c≠d:=λe=>h (by rw [e])
theorem XA (c d:UInt8):decide ((c.toNat:Int)=(d.toNat:Int))=(c == d):=by
 by_cases h:c=d
 · subst h;simp
 · rw [beq_false_of_ne h];exact An λe=>h (CH e)
theorem GQ (q:UInt8->Bool) (l:l8_) (t:Nat) (h:t<l.length):(l.drop t).takeWhile q=if q l[t] then l[t]::(l.drop (t+1)).takeWhile q else []:=by
 rw [Ar h,List.takeWhile_cons]
def C0 (l:l8_) (t:Nat):Nat:=t+((l.drop t).takeWhile E1).length
theorem Fy (l:l8_) (t:Nat) (h:t<=l.length):t<=C0 l t/\C0 l t<=l.length:=by
 have a:=(List.takeWhile_sublist E1 (l:=l.drop t)).length_le
 rw [B9] at a
 unfold C0;omega
def AY (m:Bool) (l:l8_) (t:Nat):Nat:=l.length-(E7 m (l.drop t)).length
theorem FU (m:Bool) (l:l8_) (t:Nat):AY m l t<=l.length:=Nat.sub_le _ _
theorem PP (m:Bool) (l:l8_) (t:Nat):l.drop (AY m l t)=E7 m (l.drop t):=by
 obtain ⟨k,a,b⟩:=I8 (l.drop t) m
 unfold AY
 rw [b,Kv,B9]
 rw [B9] at a
 by_cases h:t+k<=l.length
 · congr 1;omega
 · rw [Bf oO,Bf oO]
theorem Re (l:l8_) (t:Nat) (h:t<l.length):AY false l t=if l[t]=37 then AY true l (t+1) else if EF l[t] then AY false l (t+1) else t:=by
 unfold AY
 rw [Ar h]
 simp only [E7]
 split
 · rfl
 ·
  split
  · rfl
  · simp;omega
theorem Mg (l:l8_) (t:Nat) (h:t<l.length):AY true l t=if Qs l[t] then AY false l (t+1) else AY true l (t+1):=by
 unfold AY
 rw [Ar h]
 simp only [E7]
 split <;> rfl
theorem Lp (m:Bool) (l:l8_) (t:Nat) (h:l.length<=t):AY m l t=l.length:=by
 unfold AY
 rw [Bf h];cases m <;> simp [E7]
theorem XI (l:l8_) (t:Nat) (h:t<l.length->Qs l[t]! = true):AY true l t=AY false l t:=by
 by_cases ht:t<l.length
 ·
  have he:=h ht
  rw [getElem!_pos l t ht] at he
  rw [Mg l t ht,A7 he,Re l t ht,A7 (YA he),A2 (by rintro e;rw [e] at he;cases he)]
 · rw [Lp true l t oO,Lp false l t oO]
def T9 (l:l8_) (t:Nat):Bool:=decide (t<l.length) && !(decide (((l[t]!).toNat:Int)=10) || decide (((l[t]!).toNat:Int)=12) || decide (((l[t]!).toNat:Int)=13))
theorem QQ (l:l8_) (t:Nat):T9 l t=(decide (t<l.length) && !Qs l[t]!):=by
 unfold T9 Qs
 rw [<- XA _ 10,<- XA _ 12,<- XA _ 13];rfl
theorem A40 {l:l8_} (h:T9 l t=true):∃ ht:t<l.length,Qs (l[t]'ht)=false:=by
 rw [QQ] at h
 simp only [A4,Ad,AP] at h
 obtain ⟨a,b⟩:=h
 rw [getElem!_pos l t a] at b
 exact ⟨a,b⟩
theorem A41 {l:l8_} (h:T9 l t=false):AY true l t=AY false l t/\(∀ ht:t<l.length,(l[t]'ht)≠37):=by
 rw [QQ] at h
 have a:t<l.length->Qs l[t]! = true:=λht=>by simpa [ht] using h
 refine ⟨XI l t a,λht e=>?_⟩
 have:=a ht
 rw [getElem!_pos l t ht,e] at this
 cases this
end
section
theorem GB:(Tryz.prog.info? 5).map (λi=>(i.zero,i.size,i.bytes))=some (some (.int .u8 0),1,1):=by kernel_rfl
structure NR where
 k:Int
 n:Int
 s:l8_
 at':Int
 e:Int
abbrev NR.tok (r:NR):Value:=.agg #[Ah r.k,Ah r.n,.string (bs r.s)]
abbrev NR.val (r:NR):Value:=.tuple #[r.tok,Ah r.at',Ah r.e]
def A0Z (l:l8_):Xi->NR
 | .ok (t,r)=>⟨t.kind,t.n,t.text,(l.length-r.length:Nat),0⟩
 | .error k=>⟨0,0,[],0,k⟩
theorem Cv {a b:Value} (h:a=b):Ending.returned a=.returned b:=by rw [h]
def B0p (w:World) (B:Nat) (l:l8_) (o:Option (l8_ × l8_)) (v:Value) (at' err:Int):Prop :=
 match o with
 | none=>err=14
 | some (s,r)=>err=0/\Cq 5 B w v (Az s)/\s.length<=l.length/\∃ k:Nat,at'=k/\k<=l.length/\r=l.drop k
def Yv (h:Option Nat):Int:=match h with | none=>-1 | some x=>x
theorem A1e (h:Option Nat) (o:l8_) (l:l8_) (t:Nat) (ht:t<l.length):Mw h o (l.drop t) =
  if EF l[t] then Mw h o (l.drop (t+1))
  else if l[t]=62 then some (match h with | none=>o | some x=>o++[ch (x * 16:Nat)],l.drop (t+1))
  else if 15<Er l[t] then none else match h with
   | none=>Mw (some (Er l[t])) o (l.drop (t+1))
   | some x=>Mw none (o++[ch (x * 16+Er l[t]:Nat)]) (l.drop (t+1)):=by
 rw [Ar ht]
 simp only [Mw]
 split
 · rfl
 ·
  split
  · cases h <;> rfl
  ·
   unfold A3x
   by_cases h16:Er l[t]<16
   · rw [A7 h16,A2 oO] <;> cases h <;> rfl
   · rw [A2 h16,A7 oO]
theorem K2 (x:Int) (h0:0<=x) (h:x<256):((ch x).toNat:Int)=x:=by
 unfold ch
 rw [UInt8.toNat_ofNat'];omega
theorem bF {b:Bool} (h:b=false):¬ b=true:=by rw [h];simp
end
section
def lfB (l:l8_) (t:Nat):Bool:=decide (t<l.length) && decide (((l[t]!).toNat:Int)=10)
theorem A8P {l:l8_} (h:lfB l t=true):t<l.length/\Jq (l.drop t)=l.drop (t+1):=by
 unfold lfB at h
 simp only [A4,Ad] at h
 obtain ⟨a,b⟩:=h
 rw [getElem!_pos l t a] at b
 have c:l[t]=10:=CH b
 refine ⟨a,?_⟩
 rw [Ar a]
 simp [Jq,c]
theorem A8Q {l:l8_} (h:lfB l t=false):Jq (l.drop t)=l.drop t:=by
 by_cases h1:t<l.length
 ·
  unfold lfB at h
  rw [Al h1,BV,getElem!_pos l t h1] at h
  have a:l[t]≠10:=DH (dF h)
  rw [Ar h1]
  simp [Jq,a]
 · rw [Bf oO];rfl
def UL (l:l8_) (k t:Nat):Bool:=decide (k<2) && (decide (t<l.length) && (decide (48<=((l[t]!).toNat:Int)) && decide (((l[t]!).toNat:Int)<=55)))
theorem A7r {l:l8_} {k:Nat} (h:UL l k t=true):k<2/\∃ ht:t<l.length,48<=(l[t]'ht).toNat/\(l[t]'ht).toNat<=55/\∀ n,NJ (2-k) n (l.drop t)=NJ (2-(k+1)) (8 * n+((l[t]'ht).toNat-48)) (l.drop (t+1)):=by
 unfold UL at h
 simp only [A4,Ad] at h
 obtain ⟨b,a,c,d⟩:=h
 rw [getElem!_pos l t a] at c d
 refine ⟨b,a,oO,oO,λn=>?_⟩
 rw [Ar a,show 2-k=(2-(k+1))+1 by omega]
 have:Qr l[t]=true:=by simp [Qr];omega
 simp only [NJ]
 rw [A7 this]
theorem A7s {l:l8_} {k:Nat} (h:UL l k t=false) (n:Nat):NJ (2-k) n (l.drop t)=(n,l.drop t):=by
  by_cases h0:k<2
  · rw [show 2 - k = (2 - (k + 1)) + 1 by omega]
    by_cases h1:t<l.length
    · rw [Ar h1]
      unfold UL at h
      rw [Al h0,BV,Al h1,BV,getElem!_pos l t h1] at h
      have:Qr l[t]=false:=by
        unfold Qr
        rw [<- h];congr 1 <;> exact DX.2 oO
      simp only [NJ]
      rw [A2 (by rw [this];simp)]
    · rw [Bf oO];rfl
  · rw [show 2-k=0 by omega];rfl
theorem A0A (d:Nat) (o l:l8_) (s:Nat) (h:s<l.length):Do d o (l.drop s) =
  if l[s]=40 then Do (d+1) (o++[l[s]]) (l.drop (s+1))
  else if l[s]=41 then (if d=1 then some (o,l.drop (s+1)) else Do (d-1) (o++[l[s]]) (l.drop (s+1)))
  else if l[s]=92 then
   match l.drop (s+1) with
   | []=>none
   | e::r'=>Do d (o++(Je e r').1) (Je e r').2
  else if l[s]=13 then Do d (o++[10]) (Jq (l.drop (s+1)))
  else Do d (o++[l[s]]) (l.drop (s+1)):=by
 rw [Ar h]
 exact Do.eq_def d o (l[s]::l.drop (s+1))
theorem A3P (r:l8_):Je 110 r=([10],r):=rfl
theorem A3O (r:l8_):Je 114 r=([13],r):=rfl
theorem A3N (r:l8_):Je 116 r=([9],r):=rfl
theorem A6O (r:l8_):Je 98 r=([8],r):=rfl
theorem A3Q (r:l8_):Je 102 r=([12],r):=rfl
theorem A6Q (r:l8_):Je 10 r=([],r):=rfl
theorem A6P (r:l8_):Je 13 r=([],Jq r):=rfl
theorem V4 {y:UInt8} (r:l8_) (h1:48<=(y.toNat:Int)) (h2:(y.toNat:Int)<=55):Je y r=([ch ((NJ 2 (y.toNat-48) r).1 % 256:Nat)],(NJ 2 (y.toNat-48) r).2):=by
 have ne:∀ c:UInt8,(c.toNat<48\/55<c.toNat)->y≠c:=λc hc e=>by subst e;omega
 unfold Je
 rw [A2 (ne 110 dD),A2 (ne 114 dD),A2 (ne 116 dD),A2 (ne 98 dD),A2 (ne 102 dD),A2 (ne 10 dD),A2 (ne 13 dD),
  A7 (by simp only [Qr,A4,Ad];omega)]
theorem OQ {y:UInt8} (r:l8_) (h1:¬ (y.toNat:Int)=110) (h2:¬ (y.toNat:Int)=114) (h3:¬ (y.toNat:Int)=116) (h4:¬ (y.toNat:Int)=98) (h5:¬ (y.toNat:Int)=102) (h6:¬ (y.toNat:Int)=10) (h7:¬ (y.toNat:Int)=13)
  (h8:¬ (48<=(y.toNat:Int)/\(y.toNat:Int)<=55)):Je y r=([y],r):=by
 unfold Je
 rw [A2 (DH (d:=110) h1),A2 (DH (d:=114) h2),A2 (DH (d:=116) h3),A2 (DH (d:=98) h4),A2 (DH (d:=102) h5),A2 (DH (d:=10) h6),A2 (DH (d:=13) h7),
  A2 (by simp only [Qr,A4,Ad];omega)]
end
section
def Nb (c:UInt8) (r:l8_):Xi :=
 if c=40 then HZ (Do 1 [] r)
 else if c=41 then .error 14
 else if c=60\/c=62 then LH c r
 else if c=123 then .ok (⟨7,0,[]⟩,r)
 else if c=125 then .ok (⟨8,0,[]⟩,r)
 else if c=91\/c=93 then .ok (⟨3,0,[c]⟩,r)
 else if c=47 then Mf r
 else Tj (c::r)
theorem A26 {l:l8_} {n s:Nat} (h:l.drop s=E7 false (l.drop n)) (hs:l.length<=s):M0 (l.drop n)=.ok (⟨0,0,[]⟩,[]):=by
 unfold M0
 rw [<- h,Bf hs]
theorem A4Y {l:l8_} {n s:Nat} (h:l.drop s=E7 false (l.drop n)) (hs:s<l.length):M0 (l.drop n)=Nb l[s] (l.drop (s+1)):=by
 unfold M0
 rw [<- h,Ar hs];rfl
theorem A4n {l:l8_} {s:Nat} {c d:UInt8} (hc:c≠0) (hd:d=(l[s]?).getD 0):LH c (l.drop s)=if d=c then .ok (⟨3,0,[c,c]⟩,l.drop (s+1)) else if c=60 then HZ (Mw none [] (l.drop s)) else .error 14:=by
  by_cases h:s<l.length
  · rw [Ar h]
    rw [A6 h] at hd
    obtain rfl:d=l[s]:=hd
    rfl
  · rw [Bf oO]
    rw [AO oO] at hd
    obtain rfl:d=0:=hd
    rw [A2 (λe=>hc e.symm)];rfl
theorem A2q {l:l8_} {s:Nat} {d:UInt8} (hd:d=(l[s]?).getD 0):Mf (l.drop s)=if d=47 then J9 5 (l.drop (s+1)) else J9 4 (l.drop s):=by
  by_cases h:s<l.length
  · rw [Ar h]
    rw [A6 h] at hd
    obtain rfl:d=l[s]:=hd
    rfl
  · rw [Bf oO]
    rw [AO oO] at hd
    obtain rfl:d=0:=hd
    rw [A2 dD];rfl
theorem A0h {c:UInt8} (r:l8_) (h1:¬ (c.toNat:Int)=40) (h2:¬ (c.toNat:Int)=41) (h3:¬ (c.toNat:Int)=60) (h4:¬ (c.toNat:Int)=62) (h5:¬ (c.toNat:Int)=123) (h6:¬ (c.toNat:Int)=125) (h7:¬ (c.toNat:Int)=91)
  (h8:¬ (c.toNat:Int)=93) (h9:¬ (c.toNat:Int)=47):Nb c r=Tj (c::r):=by
 unfold Nb
 rw [A2 (DH (d:=40) h1),A2 (DH (d:=41) h2),A2 (not_or.2 ⟨DH (d:=60) h3,DH (d:=62) h4⟩),A2 (DH (d:=123) h5),A2 (DH (d:=125) h6),A2 (not_or.2 ⟨DH (d:=91) h7,DH (d:=93) h8⟩),A2 (DH (d:=47) h9)]
theorem Ti (l:l8_) (s:Nat):(l.drop s).take (C0 l s-s)=(l.drop s).takeWhile E1:=by
 unfold C0
 rw [Nat.add_sub_cancel_left]
 conv=>lhs;arg 2;rw [<- List.takeWhile_append_dropWhile (p:=E1) (l:=l.drop s)]
 rw [List.take_left'];rfl
theorem MI (l:l8_) (s:Nat):(l.drop s).dropWhile E1=l.drop (C0 l s):=by
 unfold C0
 rw [<- Kv]
 conv=>rhs;arg 2;rw [<- List.takeWhile_append_dropWhile (p:=E1) (l:=l.drop s)]
 rw [List.drop_left'];rfl
theorem Pu (l:l8_) (t:Ka) (k:Nat) (hk:k<=l.length):A0Z l (.ok (t,l.drop k))=⟨t.kind,t.n,t.text,k,0⟩:=by
 simp only [A0Z,B9]
 rw [show l.length-(l.length-k)=k by omega]
theorem A2d (r:l8_):Nb 40 r=HZ (Do 1 [] r):=rfl
theorem A72 (r:l8_):Nb 41 r=.error 14:=rfl
theorem A2b (r:l8_):Nb 60 r=LH 60 r:=rfl
theorem A2a (r:l8_):Nb 62 r=LH 62 r:=rfl
theorem A51 (r:l8_):Nb 123 r=.ok (⟨7,0,[]⟩,r):=rfl
theorem A50 (r:l8_):Nb 125 r=.ok (⟨8,0,[]⟩,r):=rfl
theorem A71 (r:l8_):Nb 91 r=.ok (⟨3,0,[91]⟩,r):=rfl
theorem A70 (r:l8_):Nb 93 r=.ok (⟨3,0,[93]⟩,r):=rfl
theorem A2c (r:l8_):Nb 47 r=Mf r:=rfl
def GD (l:l8_) (a:Int):NR:=if a<0\/(l.length:Int)<a then ⟨0,0,[],0,21⟩ else A0Z l (M0 (l.drop a.toNat))
end
section
theorem U0:∀ c:UInt8,decide (0<=Lib.indexByte [0,9,10,12,13,32] c)=EF c:=by
 intro c
 have key:∀ n:Fin 256,decide (0<=Lib.indexByte [0,9,10,12,13,32] (UInt8.ofNat n.1))=EF (UInt8.ofNat n.1):=by decide +kernel
 have:=key ⟨c.toNat,CE c⟩
 simpa using this
theorem TZ:∀ c:UInt8,decide (Lib.indexByte [40,41,60,62,91,93,123,125,47,37] c<0)=!NV c:=by
 intro c
 have key:∀ n:Fin 256,decide (Lib.indexByte [40,41,60,62,91,93,123,125,47,37] (UInt8.ofNat n.1)<0)=!NV (UInt8.ofNat n.1):=by decide +kernel
 have:=key ⟨c.toNat,CE c⟩
 simpa using this
theorem A5O:∀ c:UInt8,decide (Lib.indexByte [10,12,13] c<0)=!Qs c:=by
 intro c
 have key:∀ n:Fin 256,decide (Lib.indexByte [10,12,13] (UInt8.ofNat n.1)<0)=!Qs (UInt8.ofNat n.1):=by decide +kernel
 have:=key ⟨c.toNat,CE c⟩
 simpa using this
theorem NM (l:l8_) (c:UInt8) (w:World):Calls Tryz.prog 58 #[.string (bs l),.int .u8 (c.toNat:Int)] w λe w'=>e=.returned (Ah (Lib.indexByte l c))/\w=w':=by
 refine (Tryz.strings_IndexByte (bs l) (c.toNat:Int) w).mono λe w' h=>⟨?_,h.2.symm⟩
 rw [h.1]
 have:(bs l).data.toList=l:=by simp [bs]
 rw [this]
 have:((c.toNat:Int).toNat).toUInt8=c:=by rw [Int.toNat_natCast];exact UInt8.ofNat_toNat
 rw [this]
theorem NA (c:UInt8) (w:World) :
  Calls Tryz.prog 176 #[.int .u8 (c.toNat:Int)] w λe w'=>e=.returned (.bool (EF c))/\w=w':=by
 refine Av func176 rfl ntmps176<|A5<|Ab rfl<|A5<|A3 rfl<|As (NM [0,9,10,12,13,32] c _) (λb a=>?_)
 obtain rfl:=a
 refine A1 (.bis (EF c) (.geq rfl rfl) (by exact U0 c))<|Ab rfl<|AI ?_
 exact ⟨rfl,rfl⟩
theorem Uw (c:UInt8) (w:World) :
  Calls Tryz.prog 182 #[.int .u8 (c.toNat:Int)] w λe w'=>e=.returned (.bool (E1 c))/\w=w':=by
 refine Av func182 rfl ntmps182<|A5<|Ab rfl<|A5<|A3 rfl<|As (NA c _) (λg b=>?_)
 obtain rfl:=b
 refine A1 (.not rfl)<|A3 rfl<|B5 rfl rfl rfl (λa=>?_) (λa=>?_)
 have d:=(nT a)
 refine A3 rfl<|EK rfl rfl rfl (by rw [(nT a)] <;> rfl)<|As (NM [40,41,60,62,91,93,123,125,47,37] c _) (λi f=>?_)
 obtain rfl:=f
 refine EK rfl rfl rfl (by rw [(nT a)] <;> rfl)<|A1 (.bis (!NV c) (.lss rfl rfl) (by exact TZ c))<|A1 (.pkT rfl (by rw [(nT a)] <;> rfl) rfl)<|Ab rfl<|AI ?_
 exact ⟨EY (by unfold E1;simp_all),rfl⟩
 have d:=(nF a)
 refine EO rfl rfl rfl (by rw [(nF a)] <;> rfl)<|EO rfl rfl rfl (by rw [(nF a)] <;> rfl)<|A1 (.pkF rfl (by rw [(nF a)] <;> rfl) rfl)<|Ab rfl<|AI ?_
 exact ⟨EY (by unfold E1;simp_all),rfl⟩
def JJ (w:World) (r:Nat) (p:Option Addr) (l:l8_) (c t:Nat):Prop:=Be w r #[.slice p l.length c,Ah (t:Int)] 180/\Ay w p l
theorem MS (r:Nat) (p:Option Addr) (l:l8_) (c t:Nat) (w:World) (h:JJ w r p l c t) :
  Calls Tryz.prog 150 #[ptV r] w λe w'=>e=.returned (.bool (decide (t<l.length)))/\Df w w':=by
 have hr:=h.1
 refine Av func150 rfl ntmps150<|A5<|Ab rfl<|Aj<|Eg Ci kR<|AA (.mv rfl) rfl<|AA (.nck rfl) rfl<|AA (.fa DI rfl B6 dD rfl) rfl<|Du (λm=>Af (BE _) rfl hr rfl) rfl<|AA (.mv rfl) rfl<|AA (.nck rfl) rfl<|AA (.fa DI rfl Gr dD rfl) rfl<|Du (λm=>Af (g22_ _) rfl hr rfl) rfl<|AA (.lenS BI rfl) rfl<|AA (.lss rfl rfl) rfl<|AA (.as rfl) rfl<|Dk (λb a=>?_)
 refine AI ?_
 exact ⟨EY (by (apply B1.2;(try simp only [A4,BC,AP,Ad,Aw,BN,BT,false_iff,iff_false,true_iff,iff_true]);omega)),aS⟩
theorem UQ (r:Nat) (p:Option Addr) (l:l8_) (c t:Nat) (w:World) (h:JJ w r p l c t) (m:Nat) :
  Calls Tryz.prog 150 #[ptV r] (w.drewN m) λe w'=>e=.returned (.bool (decide (t<l.length)))/\∃ k,w'=w.drewN k :=
 (MS r p l c t (w.drewN m) ⟨h.1,h.2.drewN m⟩).mono λe w' h=>⟨h.1,Df.trans ⟨m,rfl⟩ h.2⟩
def R7 (l:l8_) (t:Nat):Except Int UInt8:=match l[t]? with | some x=>.ok x | none=>.error 14
theorem MQ (r:Nat) (p:Option Addr) (l:l8_) (c t:Nat) (w:World) (h:JJ w r p l c t) (hne:0<l.length->(pA p).block≠r) (hl:l.length<=100000000) :
  Calls Tryz.prog 177 #[ptV r] w (Ct 30 (R7 l t) (λx=>.int .u8 (x.toNat:Int)) (λ_ w'=>JJ w' r p l c (t+1)/\Bo w.heap.size r w w') (λw'=>Bo w.heap.size r w w')):=by
 have hr:=h.1
 have hb:=h.2
 refine Av func177 rfl ntmps177 ?_
 have u:=Bo.refl (w.heap.size) r w
 refine A5<|Ab rfl<|Aj<|A5<|A3 rfl<|As (MS r p l c t _ ⟨hr,hb⟩) (λD d=>?_)
 have g:=hr.drew d
 have v:=hb.drew d
 have i:=BY u (Ob d)
 refine A1 (.not rfl)<|A0<|Ae rfl (λk=>?_) (λk=>?_)
 have y:=(nT k)
 refine Ak<|A1 (.mkI Mc rfl)<|FE rfl (AE ?_)
 exact BB 14 (by unfold R7;rw [AO (by simp_all)]) i
 have y:=(nF k)
 have j:t<l.length:=by simp_all
 refine Ap<|A5<|A3 rfl<|A1 (.nck rfl)<|A1 (.fa DI rfl B6 dD rfl)<|Ai (Af (BE _) rfl g rfl)<|A1 (.iis (((t+1:Nat):Int)) (.add rfl rfl (Bn oO)) oO)<|A1 (.nck rfl)<|A1 (.fa DI rfl B6 dD rfl)<|WL.st B6 rfl rfl rfl g (by exact Nat.le_of_ble_eq_true rfl) (λB a b C=>?_)
 have a:Be B r _ _:=a
 have b:E6 r _ _:=b
 have e:=Ay.upd v b hne
 have A:=BY i (BX b)
 refine A0<|Aj<|Eg Ci kR<|AA (.mv rfl) rfl<|AA (.nck rfl) rfl<|AA (.fa DI rfl Gr dD rfl) rfl<|Du (λm=>Af (g22_ _) rfl a rfl) rfl<|AA (.mv rfl) rfl<|AA (.nck rfl) rfl<|AA (.fa DI rfl B6 dD rfl) rfl<|Du (λm=>Af (BE _) rfl a rfl) rfl<|AA (.iis ((t:Int)) (.sub rfl rfl (Bn oO)) oO) rfl<|AA (.ixb BI Iy rfl rfl (e.isp oO) (t) oO oO) rfl<|Du (λm=>AS (P3 _) rfl ((e.drewN m).cells (t) oO)) rfl<|AA (.as rfl) rfl<|Dk (λE f=>?_)
 have o:=a.drew f
 have q:=e.drew f
 have s:=BY A (Ob f)
 refine AI ?_
 exact Ct.ok (l[t]'j) (by unfold R7;rw [A6 j]) rfl ⟨⟨o,q⟩,s⟩
def I1 (l:l8_) (t:Nat) (x:UInt8):Bool:=decide (t<l.length) && decide (((l[t]!).toNat:Int)=(x.toNat:Int))
theorem QH {l:l8_} {x:UInt8} (h:I1 l t x=true):∃ ht:t<l.length,l[t]'ht=x:=by
 unfold I1 at h
 simp only [A4,Ad] at h
 obtain ⟨a,b⟩:=h
 rw [getElem!_pos l t a] at b
 exact ⟨a,CH b⟩
theorem UM {l:l8_} {x:UInt8} (h:I1 l t x=false) (ht:t<l.length):l[t]≠x:=by
 unfold I1 at h
 rw [Al ht,BV,getElem!_pos l t ht] at h
 exact DH (dF h)
theorem MR (r:Nat) (p:Option Addr) (l:l8_) (c t:Nat) (x:UInt8) (w:World) (h:JJ w r p l c t) (hne:0<l.length->(pA p).block≠r) (hl:l.length<=100000000) (ht:t<=l.length) :
  Calls Tryz.prog 179 #[ptV r,.int .u8 (x.toNat:Int)] w λe w'=>e=.returned (.bool (I1 l t x))/\JJ w' r p l c (if I1 l t x then t+1 else t)/\Bo w.heap.size r w w':=by
 have hr:=h.1
 have hb:=h.2
 refine Av func179 rfl ntmps179 ?_
 have q:=Bo.refl (w.heap.size) r w
 refine A5<|Ab rfl<|Aj<|N7 20 (I1 l t x) ?_ (λC g=>?_)
 refine Eg Ci kR<|AA (.mv rfl) rfl<|WQ.c1 BQ rfl rfl (λm=>(UQ r p l c t _ ⟨hr,hb⟩ m))<|AA (.mv rfl) rfl<|MD rfl rfl rfl (λa=>?_) (λa=>?_)
 have s:=dT a
 refine AA (.mv rfl) rfl<|C5 rfl rfl rfl a<|AA (.nck rfl) rfl<|C5 rfl rfl rfl a<|AA (.fa DI rfl Gr dD rfl) rfl<|C5 rfl rfl rfl a<|Du (λm=>Af (g22_ _) rfl hr rfl) rfl<|C5 rfl rfl rfl a<|AA (.mv rfl) rfl<|C5 rfl rfl rfl a<|AA (.nck rfl) rfl<|C5 rfl rfl rfl a<|AA (.fa DI rfl B6 dD rfl) rfl<|C5 rfl rfl rfl a<|Du (λm=>Af (BE _) rfl hr rfl) rfl<|C5 rfl rfl rfl a<|AA (.ixb BI Iy rfl rfl (hb.isp oO) (t) oO oO) rfl<|C5 rfl rfl rfl a<|Du (λm=>AS (P3 _) rfl ((hb.drewN m).cells (t) oO)) rfl<|C5 rfl rfl rfl a<|AA (.mv rfl) rfl<|C5 rfl rfl rfl a<|AA (.eql rfl rfl) rfl<|AA (.pkT rfl a rfl) rfl<|Dk (λD u=>?_)
 exact ⟨Gm (CD rfl (by (by_cases hq:t<l.length) <;> (unfold I1;first | (exfalso;simp_all;done) | (rw [getElem!_pos l t hq];simp_all;done) | (rw [An hq];simp_all;done)))),u⟩
 have s:=dF a
 refine Bj rfl rfl rfl a<|Bj rfl rfl rfl a<|Bj rfl rfl rfl a<|Bj rfl rfl rfl a<|Bj rfl rfl rfl a<|Bj rfl rfl rfl a<|Bj rfl rfl rfl a<|Bj rfl rfl rfl a<|Bj rfl rfl rfl a<|Bj rfl rfl rfl a<|Bj rfl rfl rfl a<|AA (.pkF rfl a rfl) rfl<|Dk (λE v=>?_)
 exact ⟨Gm (CD rfl (by (by_cases hq:t<l.length) <;> (unfold I1;first | (exfalso;simp_all;done) | (rw [getElem!_pos l t hq];simp_all;done) | (rw [An hq];simp_all;done)))),v⟩
 have f:=hr.drew g
 have i:=hb.drew g
 have j:=BY q (Ob g)
 refine Ae rfl (λy=>?_) (λy=>?_)
 refine A5<|A3 rfl<|A1 (.nck rfl)<|A1 (.fa DI rfl B6 dD rfl)<|Ai (Af (BE _) rfl f rfl)<|A1 (.iis (((t+1:Nat):Int)) (.add rfl rfl (Bn oO)) oO)<|A1 (.nck rfl)<|A1 (.fa DI rfl B6 dD rfl)<|WL.st B6 rfl rfl rfl f (by exact Nat.le_of_ble_eq_true rfl) (λA d b B=>?_)
 have d:Be A r _ _:=d
 have b:E6 r _ _:=b
 have k:=Ay.upd i b hne
 have o:=BY j (BX b)
 refine A0<|A5<|Ab rfl<|AI ?_
 exact ⟨EY (by simp_all),by rw [A7 aS];exact ⟨d,k⟩,o⟩
 refine Ap<|A5<|Ab rfl<|AI ?_
 exact ⟨EY (by simp_all),by rw [A2 (bF aS)];exact ⟨f,i⟩,j⟩
theorem A9V (l:l8_) (c:UInt8) (w:World) (m:Nat):Calls Tryz.prog 58 #[.string (bs l),.int .u8 (c.toNat:Int)] (w.drewN m) λe w'=>e=.returned (Ah (Lib.indexByte l c))/\∃ k,w'=w.drewN k :=
 (NM l c (w.drewN m)).mono λe w' h=>⟨h.1,m,h.2.symm⟩
theorem A0v (r:Nat) (p:Option Addr) (l:l8_) (c a:Nat) (w:World) (h:JJ w r p l c a) (hne:0<l.length->(pA p).block≠r) (hl:l.length<=100000000) (ha:a<=l.length) :
  Calls Tryz.prog 149 #[ptV r] w λe w'=>e=.returned (.tuple #[])/\JJ w' r p l c (AY false l a)/\Bo w.heap.size r w w':=by
 have hr:=h.1
 have hb:=h.2
 obtain ⟨R,hR⟩:=eX (AY false l a)
 rw [<- hR]
 refine Av func149 rfl ntmps149<|AU<|Cf (α:=Nat) (λt=>[(0,ptV r)]) (λt w'=>JJ w' r p l c t/\Bo w.heap.size r w w'/\t<=l.length/\AY false l t=R) (λt=>l.length-t) (a) ⟨rfl,tT⟩ (⟨h,Bo.refl _ _ _,ha,hR.symm⟩) (λt w1 hR=>?_)
 obtain ⟨q,hT,ht,hw⟩:=hR
 obtain ⟨s,rfl⟩:=eX t
 refine Aj<|A5<|A3 rfl<|As (MS r p l c s _ ⟨q.1,q.2⟩) (λw1 y=>?_)
 have u:=q.1.drew y
 have v:=q.2.drew y
 have H:=BY hT (Ob y)
 refine A0<|Ae rfl (λK=>?_) (λK=>?_)
 have a0:=dT K
 have hs:=Re l s oO
 refine Ap<|AU<|Aj<|Eg Ci kR<|AA (.mv rfl) rfl<|AA (.nck rfl) rfl<|AA (.fa DI rfl Gr dD rfl) rfl<|Du (λm=>Af (g22_ _) rfl u rfl) rfl<|AA (.mv rfl) rfl<|AA (.nck rfl) rfl<|AA (.fa DI rfl B6 dD rfl) rfl<|Du (λm=>Af (BE _) rfl u rfl) rfl<|AA (.ixb BI Iy rfl rfl (v.isp oO) (s) oO oO) rfl<|Du (λm=>AS (P3 _) rfl ((v.drewN m).cells (s) oO)) rfl<|AA (.as rfl) rfl<|Dk (λw6 A=>?_)
 have x:=u.drew A
 have B:=v.drew A
 have C:=BY H (Ob A)
 refine AU<|A5<|A3 rfl<|As (NA _ _) (λaa L=>?_)
 obtain rfl:=L
 refine Ab rfl<|Ae rfl (λa1=>?_) (λa1=>?_)
 refine Ak<|A3 rfl<|A1 (.nck rfl)<|A1 (.fa DI rfl B6 dD rfl)<|Ai (Af (BE _) rfl x rfl)<|A1 (.iis (((s+1:Nat):Int)) (.add rfl rfl (Bn oO)) oO)<|A1 (.nck rfl)<|A1 (.fa DI rfl B6 dD rfl)<|WL.st B6 rfl rfl rfl x (by exact Nat.le_of_ble_eq_true rfl) (λa2 i f a8=>?_)
 have i:Be a2 r _ _:=i
 have f:E6 r _ _:=f
 have N:=Ay.upd B f hne
 have P:=BY C (BX f)
 refine A0<|?_
 exact ⟨s+1,⟨rfl,tT⟩,⟨⟨i,N⟩,P,oO,by rw [<- hw,hs,A2 (λe=>D6 (show EF (l[s]'oO)=true by assumption) (by rw [e];decide)),A7 aS]⟩,oO⟩
 refine A5<|A3 rfl<|A1 (.eql rfl rfl)<|Ab rfl<|Ae rfl (λD=>?_) (λD=>?_)
 have Q:=dT D
 refine AU<|Cf (α:=Nat) (λt=>[(0,ptV r)]) (λt w'=>JJ w' r p l c t/\Bo w.heap.size r w w'/\s<=t/\t<=l.length/\AY true l t=R/\(t=s->l[s]'oO=37)) (λt=>l.length-t) (s) ⟨rfl,tT⟩ (⟨⟨x,B⟩,C,oO,oO,by rw [Mg l s oO,A2 (by rw [show l[s]=37 from CH aS];decide),<- hw,hs,A7 (CH aS)],λ_=>CH aS⟩) (λt w1 hR=>?_)
 obtain ⟨d,a3,ab,ac,a4,a5⟩:=hR
 refine Aj<|N7 43 (T9 l t) ?_ (λad k=>?_)
 refine Eg Ci kR<|AA (.mv rfl) rfl<|WQ.c1 BQ rfl rfl (λm=>(UQ r p l c t _ ⟨d.1,d.2⟩ m))<|AA (.mv rfl) rfl<|MD rfl rfl rfl (λb=>?_) (λb=>?_)
 have T:=dT b
 refine AA (.mv rfl) rfl<|C5 rfl rfl rfl b<|AA (.nck rfl) rfl<|C5 rfl rfl rfl b<|AA (.fa DI rfl Gr dD rfl) rfl<|C5 rfl rfl rfl b<|Du (λm=>Af (g22_ _) rfl d.1 rfl) rfl<|C5 rfl rfl rfl b<|AA (.mv rfl) rfl<|C5 rfl rfl rfl b<|AA (.nck rfl) rfl<|C5 rfl rfl rfl b<|AA (.fa DI rfl B6 dD rfl) rfl<|C5 rfl rfl rfl b<|Du (λm=>Af (BE _) rfl d.1 rfl) rfl<|C5 rfl rfl rfl b<|AA (.ixb BI Iy rfl rfl (d.2.isp oO) (t) oO oO) rfl<|C5 rfl rfl rfl b<|Du (λm=>AS (P3 _) rfl ((d.2.drewN m).cells (t) oO)) rfl<|C5 rfl rfl rfl b<|WQ.c1 BQ rfl rfl (λm=>(A9V [10,12,13] _ _ m))<|C5 rfl rfl rfl b<|AA (.bis (!Qs (l[t]'oO)) (.lss rfl rfl) (by exact A5O _)) rfl<|AA (.pkT rfl b rfl) rfl<|Dk (λae U=>?_)
 exact ⟨Gm (CD rfl (by rw [QQ];(by_cases hq:t<l.length) <;> (first | (exfalso;omega) | (rw [getElem!_pos l t hq,Al hq];rfl) | (rw [An hq];simp_all;done)))),U⟩
 have T:=dF b
 refine Bj rfl rfl rfl b<|Bj rfl rfl rfl b<|Bj rfl rfl rfl b<|Bj rfl rfl rfl b<|Bj rfl rfl rfl b<|Bj rfl rfl rfl b<|Bj rfl rfl rfl b<|Bj rfl rfl rfl b<|Bj rfl rfl rfl b<|Bj rfl rfl rfl b<|Bj rfl rfl rfl b<|AA (.pkF rfl b rfl) rfl<|Dk (λaf V=>?_)
 exact ⟨Gm (CD rfl (by rw [QQ];(by_cases hq:t<l.length) <;> (first | (exfalso;omega) | (rw [getElem!_pos l t hq,Al hq];rfl) | (rw [An hq];simp_all;done)))),V⟩
 have o:=d.1.drew k
 have E:=d.2.drew k
 have F:=BY a3 (Ob k)
 refine Ae rfl (λa6=>?_) (λa6=>?_)
 obtain ⟨J,G⟩:=A40 aS
 rw [Mg l t J,G,A2 (by simp)] at a4
 refine Ap<|AU<|Ak<|A3 rfl<|A1 (.nck rfl)<|A1 (.fa DI rfl B6 dD rfl)<|Ai (Af (BE _) rfl o rfl)<|A1 (.iis (((t+1:Nat):Int)) (.add rfl rfl (Bn oO)) oO)<|A1 (.nck rfl)<|A1 (.fa DI rfl B6 dD rfl)<|WL.st B6 rfl rfl rfl o (by exact Nat.le_of_ble_eq_true rfl) (λa7 j g a9=>?_)
 have j:Be a7 r _ _:=j
 have g:E6 r _ _:=g
 have X:=Ay.upd E g hne
 have Y:=BY F (BX g)
 refine A0<|?_
 exact ⟨t+1,⟨rfl,tT⟩,⟨⟨j,X⟩,Y,oO,oO,oO,λh=>by omega⟩,oO⟩
 obtain ⟨J,G⟩:=A41 aS
 have ag:t≠s:=λe=>by subst e;exact G oO (a5 rfl)
 refine C7 ?_
 exact ⟨t,⟨rfl,tT⟩,⟨⟨o,E⟩,F,oO,oO⟩,oO⟩
 have Q:=dF D
 refine B2 (BK rfl  ?_)
 exact ⟨rfl,⟨by rw [<- hw,hs,A2 (DH aS),A2 (bF aS)];exact x,B⟩,C⟩
 have a0:=dF K
 refine C7<|BU (BK rfl ?_)
 exact ⟨rfl,⟨by rw [show R=s by rw [<- hw,Lp false l s oO];omega];exact u,v⟩,H⟩
end
section
theorem Ls (c:UInt8) (w:World) :
  Calls Tryz.prog 57 #[.int .u8 (c.toNat:Int)] w λe w'=>e=.returned (.bool (EF c))/\w=w':=by
 refine Av func57 rfl ntmps57<|A5<|Ab rfl<|A5<|A3 rfl<|As (NM [0,9,10,12,13,32] c _) (λb a=>?_)
 obtain rfl:=a
 refine A1 (.bis (EF c) (.geq rfl rfl) (by exact U0 c))<|Ab rfl<|AI ?_
 exact ⟨rfl,rfl⟩
theorem Om (c:UInt8) (w:World) :
  Calls Tryz.prog 45 #[.int .u8 (c.toNat:Int)] w λe w'=>e=.returned (.bool (E1 c))/\w=w':=by
 refine Av func45 rfl ntmps45<|A5<|Ab rfl<|A5<|A3 rfl<|As (Ls c _) (λg b=>?_)
 obtain rfl:=b
 refine A1 (.not rfl)<|A3 rfl<|B5 rfl rfl rfl (λa=>?_) (λa=>?_)
 have d:=(nT a)
 refine A3 rfl<|EK rfl rfl rfl (by rw [(nT a)] <;> rfl)<|As (NM [40,41,60,62,91,93,123,125,47,37] c _) (λi f=>?_)
 obtain rfl:=f
 refine EK rfl rfl rfl (by rw [(nT a)] <;> rfl)<|A1 (.bis (!NV c) (.lss rfl rfl) (by exact TZ c))<|A1 (.pkT rfl (by rw [(nT a)] <;> rfl) rfl)<|Ab rfl<|AI ?_
 exact ⟨EY (by unfold E1;simp_all),rfl⟩
 have d:=(nF a)
 refine EO rfl rfl rfl (by rw [(nF a)] <;> rfl)<|EO rfl rfl rfl (by rw [(nF a)] <;> rfl)<|A1 (.pkF rfl (by rw [(nF a)] <;> rfl) rfl)<|Ab rfl<|AI ?_
 exact ⟨EY (by unfold E1;simp_all),rfl⟩
def L6 (l:l8_) (a:Int):Nat:=if a<0\/(l.length:Int)<a then l.length else a.toNat
theorem Zv (l:l8_) (a:Int):L6 l a<=l.length:=by unfold L6;split <;> omega
theorem S7 (l:l8_) (a:Nat) (h:a<=l.length):L6 l a=a:=by unfold L6;rw [A2 oO];omega
theorem PY (p:Option Addr) (l:l8_) (c:Nat) (a:Int) (w:World) :
  Calls Tryz.prog 56 #[.slice p l.length c,Ah a] w λe w'=>e=.returned (Ah (L6 l a:Int))/\w=w':=by
 refine Av func56 rfl ntmps56<|A5<|Ab rfl<|Aj<|Fx 12 (decide (a<0\/(l.length:Int)<a)) ?_ ?_
 refine Ak<|A3 rfl<|A1 (.lss rfl rfl)<|A3 rfl<|B5 rfl rfl rfl (λb=>?_) (λb=>?_)
 have f:=dF b
 refine A3 rfl<|Au b<|A3 rfl<|Au b<|A1 (.lenS BI rfl)<|Au b<|A1 (.gtr rfl rfl)<|A1 (.pkF rfl b rfl)<|A0<|?_
 exact ⟨Gm (CD rfl (by (apply B1.2;(try simp) <;> omega))),rfl⟩
 have f:=dT b
 refine Ac b<|Ac b<|Ac b<|A1 (.pkT rfl b rfl)<|A0<|?_
 exact ⟨Gm (CD rfl (by (apply B1.2;(try simp) <;> omega))),rfl⟩
 refine Ae rfl (λd=>?_) (λd=>?_)
 have g:=dT d
 refine A5<|A3 rfl<|A1 (.lenS BI rfl)<|Ab rfl<|AI ?_
 exact ⟨El (by unfold L6;rw [A7 aS]),rfl⟩
 have g:=dF d
 refine Ap<|A5<|A3 rfl<|Ab rfl<|AI ?_
 exact ⟨El (by unfold L6;rw [A2 aS];omega),rfl⟩
theorem Po (p:Option Addr) (l:l8_) (c:Nat) (a:Int) (w:World) (hb:Ay w p l) (hl:l.length<=100000000) :
  Calls Tryz.prog 42 #[.slice p l.length c,Ah a] w λe w'=>e=.returned (Ah (AY false l (L6 l a):Int))/\w=w':=by
 obtain ⟨R,hR⟩:=eX (AY false l (L6 l a))
 have ha:=Zv l a
 rw [<- hR]
 refine Av func42 rfl ntmps42<|A5<|Ab rfl<|A5<|A3 rfl<|A3 rfl<|As (PY p l c a _) (λm o=>?_)
 obtain rfl:=o
 refine Ab rfl<|Aj<|AU<|Cf (α:=Nat) (λt=>[(0,.slice p l.length c),(1,Ah (t:Int))]) (λt w'=>w=w'/\t<=l.length/\AY false l t=R) (λt=>l.length-t) (L6 l a) ⟨rfl,rfl,tT⟩ (⟨rfl,ha,hR.symm⟩) (λt m hR=>?_)
 obtain ⟨rfl,ht,hw⟩:=hR
 obtain ⟨s,rfl⟩:=eX t
 refine Aj<|A5<|A3 rfl<|A3 rfl<|A1 (.lenS BI rfl)<|A1 (.lss rfl rfl)<|A0<|Ae rfl (λj=>?_) (λj=>?_)
 have q:=dT j
 refine Ap<|AU<|Aj<|Ak ?_
 have hs:=Re l s oO
 refine A3 rfl<|A3 rfl<|A1 (.ixb BI Iy rfl rfl (hb.isp oO) (s) (rfl) oO)<|Ai (AS (P3 _) rfl (hb.cells (s) oO))<|Ab rfl<|AU<|A5<|A3 rfl<|As (Ls _ _) (λJ u=>?_)
 obtain rfl:=u
 refine Ab rfl<|Ae rfl (λD=>?_) (λD=>?_)
 refine Ak<|A3 rfl<|A1 (.add rfl rfl (Bn oO))<|Ab rfl ?_
 exact ⟨s+1,⟨rfl,M5 rfl oO,tT⟩,⟨rfl,oO,by rw [<- hw,hs,A2 (by rintro e;simp_all [EF]),A7 (by simp_all)]⟩,oO⟩
 refine A5<|A3 rfl<|A1 (.eql rfl rfl)<|Ab rfl<|Ae rfl (λk=>?_) (λk=>?_)
 have v:=dT k
 refine AU<|Cf (α:=Nat) (λt=>[(0,.slice p l.length c),(1,Ah (t:Int))]) (λt w'=>w=w'/\s<=t/\t<=l.length/\AY true l t=R/\(t=s->l[s]'oO=37)) (λt=>l.length-t) (s) ⟨rfl,rfl,tT⟩ (⟨rfl,oO,oO,by rw [Mg l s oO,A2 (by rw [show l[s]=37 from CH aS];decide),<- hw,hs,A7 (CH aS)],λ_=>CH aS⟩) (λt m hR=>?_)
 obtain ⟨rfl,F,G,x,y⟩:=hR
 refine Aj<|Fx 50 (T9 l t) ?_ ?_
 refine Ak<|A3 rfl<|A3 rfl<|A1 (.lenS BI rfl)<|A1 (.lss rfl rfl)<|A3 rfl<|B5 rfl rfl rfl (λb=>?_) (λb=>?_)
 have A:=dT b
 refine A3 rfl<|Au b<|A3 rfl<|Au b<|A1 (.ixb BI Iy rfl rfl (hb.isp oO) (t) (rfl) oO)<|Au b<|Ai (AS (P3 _) rfl (hb.cells (t) oO))<|Au b<|A1 (.neq rfl rfl)<|A1 (.pkT rfl b rfl)<|A3 rfl<|B5 rfl rfl rfl (λd=>?_) (λd=>?_)
 have B:=Kj d
 refine A3 rfl<|Au d<|A3 rfl<|Au d<|A1 (.ixb BI Iy rfl rfl (hb.isp oO) (t) (rfl) oO)<|Au d<|Ai (AS (P3 _) rfl (hb.cells (t) oO))<|Au d<|A1 (.neq rfl rfl)<|A1 (.pkT rfl d rfl)<|A3 rfl<|B5 rfl rfl rfl (λf=>?_) (λf=>?_)
 have C:=Kj f
 refine A3 rfl<|Au f<|A3 rfl<|Au f<|A1 (.ixb BI Iy rfl rfl (hb.isp oO) (t) (rfl) oO)<|Au f<|Ai (AS (P3 _) rfl (hb.cells (t) oO))<|Au f<|A1 (.neq rfl rfl)<|A1 (.pkT rfl f rfl)<|A0<|?_
 exact ⟨Gm (CD rfl (by (by_cases hq:t<l.length) <;> (unfold T9;first | (exfalso;omega) | (rw [getElem!_pos l t hq];simp_all;done) | (rw [An hq];simp_all;done)))),rfl⟩
 have C:=Kk f
 refine Ac f<|Ac f<|Ac f<|Ac f<|A1 (.pkF rfl f rfl)<|A0<|?_
 exact ⟨Gm (CD rfl (by (by_cases hq:t<l.length) <;> (unfold T9;first | (exfalso;omega) | (rw [getElem!_pos l t hq];simp_all;done) | (rw [An hq];simp_all;done)))),rfl⟩
 have B:=Kk d
 refine Ac d<|Ac d<|Ac d<|Ac d<|A1 (.pkF rfl d rfl)<|A3 rfl<|Ac rfl<|Ac rfl<|Ac rfl<|Ac rfl<|Ac rfl<|A1 (.pkF rfl rfl rfl)<|A0<|?_
 exact ⟨Gm (CD rfl (by (by_cases hq:t<l.length) <;> (unfold T9;first | (exfalso;omega) | (rw [getElem!_pos l t hq];simp_all;done) | (rw [An hq];simp_all;done)))),rfl⟩
 have A:=dF b
 refine Ac b<|Ac b<|Ac b<|Ac b<|A1 (.pkF rfl b rfl)<|A3 rfl<|Ac rfl<|Ac rfl<|Ac rfl<|Ac rfl<|Ac rfl<|A1 (.pkF rfl rfl rfl)<|A3 rfl<|Ac rfl<|Ac rfl<|Ac rfl<|Ac rfl<|Ac rfl<|A1 (.pkF rfl rfl rfl)<|A0<|?_
 exact ⟨Gm (CD rfl (by (by_cases hq:t<l.length) <;> (unfold T9;first | (exfalso;omega) | (rw [getElem!_pos l t hq];simp_all;done) | (rw [An hq];simp_all;done)))),rfl⟩
 refine Ae rfl (λE=>?_) (λE=>?_)
 obtain ⟨i,g⟩:=A40 aS
 rw [Mg l t i,g,A2 (by simp)] at x
 refine Ap<|AU<|Ak<|A3 rfl<|A1 (.add rfl rfl (Bn oO))<|Ab rfl ?_
 exact ⟨t+1,⟨rfl,M5 rfl oO,tT⟩,⟨rfl,oO,oO,oO,λh=>by omega⟩,oO⟩
 obtain ⟨i,g⟩:=A41 aS
 have H:t≠s:=λe=>by subst e;exact g oO (y rfl)
 refine C7 ?_
 exact ⟨t,⟨rfl,M5 rfl oO,tT⟩,⟨rfl,oO,oO⟩,oO⟩
 have v:=dF k
 refine A5<|A3 rfl<|Ab rfl<|AI ?_
 exact ⟨El (by rw [<- hw,hs,A2 (DH aS),A2 (by simp_all)]),rfl⟩
 have q:=dF j
 refine C7<|A5<|A3 rfl<|Ab rfl<|AI ?_
 exact ⟨El (by rw [Lp false l s oO] at hw;omega),rfl⟩
def Ec (l:l8_) (a:Nat):l8_:=(l.drop a).take (C0 l a-a)
theorem Vk (l:l8_) (a:Nat):Ec l a=(l.drop a).takeWhile E1:=Ti l a
theorem A0L (p:Option Addr) (l:l8_) (c:Nat) (a:Int) (w:World) (hb:Ay w p l) (hc:l.length<=c) (hl:l.length<=100000000) :
  Calls Tryz.prog 64 #[.slice p l.length c,Ah a] w λe w'=>e=.returned (.tuple #[.string (bs (Ec l (L6 l a))),Ah (C0 l (L6 l a):Int)])/\w=w':=by
 obtain ⟨R,hR⟩:=eX (C0 l (L6 l a))
 have ha:=Zv l a
 have f:=Fy l (L6 l a) ha
 unfold Ec
 rw [<- hR] at f ⊢
 refine Av func64 rfl ntmps64<|A5<|DA rfl<|Ab rfl<|A5<|A3 rfl<|A3 rfl<|As (PY p l c a _) (λk g=>?_)
 obtain rfl:=g
 refine Ab rfl<|A5<|A3 rfl<|Ab rfl<|Aj<|AU<|Cf (α:=Nat) (λt=>[(0,.slice p l.length c),(1,Ah (L6 l a:Int)),(5,Ah (t:Int))]) (λt w'=>w=w'/\t<=l.length/\C0 l t=R) (λt=>l.length-t) (L6 l a) ⟨rfl,rfl,rfl,tT⟩ (⟨rfl,ha,hR.symm⟩) (λt k hR=>?_)
 obtain ⟨rfl,ht,hw⟩:=hR
 refine Aj<|A5<|A3 rfl<|A3 rfl<|A1 (.lenS BI rfl)<|A1 (.lss rfl rfl)<|A3 rfl<|B5 rfl rfl rfl (λb=>?_) (λb=>?_)
 have i:=dT b
 have hs:=GQ E1 l t oO
 refine A3 rfl<|Au b<|A3 rfl<|Au b<|A1 (.ixb BI Iy rfl rfl (hb.isp oO) (t) (rfl) oO)<|Au b<|Ai (AS (P3 _) rfl (hb.cells (t) oO))<|Au b<|As (Om _ _) (λo j=>?_)
 obtain rfl:=j
 refine A1 (.pkT rfl b rfl)<|A0<|Ae rfl (λm=>?_) (λm=>?_)
 refine Ap<|AU<|Ak<|A3 rfl<|A1 (.add rfl rfl (Bn oO))<|Ab rfl ?_
 exact ⟨t+1,⟨rfl,rfl,M5 rfl oO,tT⟩,⟨rfl,oO,by unfold C0 at hw ⊢;rw [hs,A7 aS,A8] at hw;omega⟩,oO⟩
 refine C7<|Aj ?_
 have d:t=R:=by
  by_cases hq:t<l.length;have hs:=GQ E1 l t hq;unfold C0 at hw;rw [hs,A2 (by simp_all),Ag] at hw;omega;unfold C0 at hw;rw [Bf oO] at hw;simp at hw;omega
 refine Ak<|A3 rfl<|A3 rfl<|A3 rfl<|A1 (.slb BI Iy rfl rfl rfl  (L6 l a) (R) (rfl) oO oO oO)<|Ai (O0 BI Ln JK rfl rfl hb oO oO oO)<|A3 rfl<|DA rfl<|Ab rfl<|B2 (EG rfl rfl rfl ?_)
 exact ⟨Cv (by subst d;rfl),rfl⟩
 have i:=dF b
 refine Ac b<|Ac b<|Ac b<|Ac b<|A1 (.pkF rfl b rfl)<|A0<|E4 rfl rfl<|C7<|Aj ?_
 have d:t=R:=by
  by_cases hq:t<l.length;have hs:=GQ E1 l t hq;unfold C0 at hw;rw [hs,A2 (by simp_all),Ag] at hw;omega;unfold C0 at hw;rw [Bf oO] at hw;simp at hw;omega
 refine Ak<|A3 rfl<|A3 rfl<|A3 rfl<|A1 (.slb BI Iy rfl rfl rfl  (L6 l a) (R) (rfl) oO oO oO)<|Ai (O0 BI Ln JK rfl rfl hb oO oO oO)<|A3 rfl<|DA rfl<|Ab rfl<|B2 (EG rfl rfl rfl ?_)
 exact ⟨Cv (by subst d;rfl),rfl⟩
theorem Wq (l cs:l8_) (w:World) (hl:l.length<=100000000) (hc:cs.length<=1000) (ha:∀ b∈cs,b.toNat<128) :
  C9 96 #[.string (bs l),.string (bs cs)] w (.string (bs (Lib.trimS l cs))):=by
 refine (Any.strings_Trim_laid Tryz.lays160 kR (bs l) (bs cs) w (by rw [BR];omega) (by rw [BR];omega) ?_).mono λe w' h=>⟨?_,h.2⟩
 ·
  intro j b hb
  have:(bs cs).data.toList=cs:=by simp [bs]
  rw [this] at hb
  exact ha b (List.mem_of_getElem? hb)
 ·
  rw [h.1]
  have a:(bs l).data.toList=l:=by simp [bs]
  have c:(bs cs).data.toList=cs:=by simp [bs]
  rw [a,c];rfl
theorem A21 (l:l8_):(decide (Lib.trimS l [48,49,50,51,52,53,54,55,56,57]=[]))=l.all C4:=by
 have:(λx=>([48,49,50,51,52,53,54,55,56,57]:l8_).contains x)=C4:=funext Nr
 rw [B1,Ad,KA,this]
def Kb (s:l8_):Bool:=!decide (s=[]) && decide (s.length<=10) && s.all C4
def I6 (s:l8_) (most:Int):Int × Bool:=if Kb s then ((Dd s:Int),decide ((Dd s:Int)<=most)) else (0,false)
theorem Yb (s:l8_) (most:Int) (w:World) (hl:s.length<=100000000) :
  C9 93 #[.string (bs s),Ah most] w (.tuple #[Ah (I6 s most).1,.bool (I6 s most).2]):=by
 refine Av func93 rfl ntmps93 ?_
 have f:=DR w
 refine A5<|DA rfl<|Ab rfl<|Aj<|De (α:=Unit) (λt=>[(0,.string (bs s)),(1,Ah most),(4,Ah 0),(5,.bool false),(20,.bool (!Kb s))]) (λt w'=>AD w w') ?_ (λt F hR=>?_)
 refine Ak<|A3 rfl<|A1 (.eqs rfl rfl)<|A3 rfl<|B5 rfl rfl rfl (λa=>?_) (λa=>?_)
 have u:=dF a
 refine A3 rfl<|Au a<|A1 (.len JK rfl)<|Au a<|A1 (.gtr rfl rfl)<|A1 (.pkF rfl a rfl)<|A3 rfl<|B5 rfl rfl rfl (λb=>?_) (λb=>?_)
 have v:=dF b
 refine A3 rfl<|Au b<|As (Wq s [48,49,50,51,52,53,54,55,56,57] _ hl dD dD) (λU x=>?_)
 have y:=DN f x
 refine Au b<|A1 (.bis (!s.all C4) (.nes rfl rfl) (by rw [A21]))<|A1 (.pkF rfl b rfl)<|A0<|?_
 exact ⟨(),⟨rfl,rfl,rfl,rfl,CD rfl (by unfold Kb;first | (simp_all;done) | (simp_all;omega)),tT⟩,y⟩
 have v:=dT b
 refine Ac b<|Ac b<|A1 (.pkT rfl b rfl)<|A0<|?_
 exact ⟨(),⟨rfl,rfl,rfl,rfl,CD rfl (by unfold Kb;first | (simp_all;done) | (simp_all;omega)),tT⟩,f⟩
 have u:=dT a
 refine Ac a<|Ac a<|A1 (.pkT rfl a rfl)<|A3 rfl<|Ac rfl<|Ac rfl<|Ac rfl<|A1 (.pkT rfl rfl rfl)<|A0<|?_
 exact ⟨(),⟨rfl,rfl,rfl,rfl,CD rfl (by unfold Kb;first | (simp_all;done) | (simp_all;omega)),tT⟩,f⟩
 have g:=hR
 refine Ae rfl (λG=>?_) (λG=>?_)
 have l:Kb s=false:=by simp_all
 refine A5<|DA rfl<|Ab rfl<|B2 (EG rfl rfl rfl ?_)
 exact ⟨A2B (by unfold I6;rw [l];rfl) (by unfold I6;rw [l];rfl),g⟩
 have j:Kb s=true:=by simp_all
 have d:=j
 unfold Kb at d
 simp only [A4,Ad,AP,Aw] at d
 have k:=At.1 d.2
 refine Ap<|A5<|Ab rfl<|Aj<|A5<|A3 rfl<|A4o JK BI Ln rfl rfl (λH B cz m hz K o J=>?_)
 have C:=uB g m o
 have E:=DW m g.size
 refine A1 (.lenS BI rfl)<|A3 rfl<|A0<|AU<|Cf (α:=Nat) (λt=>[(0,.string (bs s)),(1,Ah most),(6,Ah (Dd (s.take t):Int)),(22,.slice (some ⟨H,0,none⟩) s.length cz),(23,Ah (s.length:Int)),(24,Ah (t:Int))]) (λt w'=>B=w'/\t<=s.length) (λt=>s.length-t) (0) ⟨rfl,rfl,rfl,rfl,rfl,rfl,tT⟩ (⟨rfl,G8 _⟩) (λt F hR=>?_)
 obtain ⟨i,rfl⟩:=eX t
 obtain ⟨rfl,hi⟩:=hR
 refine A5<|A1 (.lss rfl rfl)<|A0<|Aj<|Ae rfl (λq=>?_) (λq=>?_)
 have D:=dT q
 refine Ap<|Aj<|AU<|A5<|A1 (.ixb BI Iy rfl rfl (hz.isp oO) (i) (rfl) oO)<|Ai (AS (P3 _) rfl (hz.cells (i) oO))<|Ab rfl ?_
 have L:=Lu s i oO
 have P:=Gi (k _ (AM (show i<s.length by omega)))
 have Q:=KZ (s.take i) (λc hc=>k c (DK hc))
 have T:10 ^ (s.take i).length<=10 ^ 9:=Nat.pow_le_pow_right oO (by rw [AT];omega)
 refine Ak<|A3 rfl<|A1 (.mul rfl rfl (Bn oO))<|A3 rfl<|A1 (.sub rfl rfl (Un oO))<|A1 (.cvt Ln JL rfl (Bn oO))<|A1 (.iis ((Dd (s.take (i+1)):Int)) (.add rfl rfl (Bn oO)) oO)<|Ab rfl<|Ak<|A1 (.iis (((i+1:Nat):Int)) (.add rfl rfl (Bn oO)) oO)<|A3 rfl<|A0<|?_
 exact ⟨i+1,⟨rfl,rfl,rfl,rfl,rfl,rfl,tT⟩,⟨rfl,oM⟩,oM⟩
 have D:=dF q
 refine C7<|Aj ?_
 obtain rfl:i=s.length:=by omega
 rw [Ca]
 refine Ak<|A3 rfl<|A3 rfl<|A3 rfl<|A1 (.leq rfl rfl)<|DA rfl<|Ab rfl<|B2 (EG rfl rfl rfl ?_)
 exact ⟨A2B (by unfold I6;rw [j];rfl) (by unfold I6;rw [j];rfl),C⟩
end
section
def Lt (l:l8_):Int × Bool:=if 64<l.length then (0,false) else Mm l
theorem A1u (l:l8_) (w:World) :
  C9 94 #[.string (bs l)] w (.tuple #[Ah (Lt l).1,.bool (Lt l).2]):=by
 unfold Lt
 split
 · exact (Sn l w aS).mono λe w' h=>⟨h.1,h.2▸Nh _ _⟩
 · exact Qx l w oO
end
section
def UJ (k n:Int) (s:l8_):List Value:=[Ah k,Ah n,.string (bs s),.slice none 0 0,.slice none 0 0,.slice none 0 0]
def PW (c:UInt8):Bool:=C4 c || c == 43 || c == 45
theorem A4W (l:l8_):(decide (Lib.trimS l [43,45,48,49,50,51,52,53,54,55,56,57]=[]))=l.all PW:=by
 have:(λx=>([43,45,48,49,50,51,52,53,54,55,56,57]:l8_).contains x)=PW:=by
  funext x
  have key:∀ n:Fin 256,([43,45,48,49,50,51,52,53,54,55,56,57]:l8_).contains (UInt8.ofNat n.1)=PW (UInt8.ofNat n.1):=by decide +kernel
  have:=key ⟨x.toNat,CE x⟩
  simpa using this
 rw [B1,Ad,KA,this]
theorem A5P (l:l8_):decide (0<=Lib.indexByte l 46)=l.contains 46:=by
 exact (Lib.contains_iff_indexByte l 46).symm
def M4 (s:l8_):Int × Int × Bool :=
 if s.contains 46 then (3,(Lt s).1,(Lt s).2)
 else if (GO s).ok && decide ((GO s).e=0) && decide ((GO s).kind=1) && s.all PW then (2,(GO s).n,true) else (0,0,false)
theorem W9 (s:l8_) (w:World) (hl:s.length<=100000000) :
  C9 66 #[.string (bs s)] w (.tuple #[.agg (UJ (M4 s).1 (M4 s).2.1 []).toArray,.bool (M4 s).2.2]):=by
 obtain ⟨T,hT⟩:=eX (GO s)
 have d:∀ w,C9 95 #[.string (bs s)] w T.val:=λw=>by rw [hT];exact U7 _ w
 obtain ⟨D,hD⟩:=eX (s.contains 46)
 have hN:M4 s=if D then (3,(Lt s).1,(Lt s).2) else if T.ok && decide (T.e=0) && decide (T.kind=1) && s.all PW then (2,T.n,true) else (0,0,false):=by rw [hT,hD];rfl
 refine Av func66 rfl ntmps66 ?_
 have ah:=DR w
 refine A5<|C1 JE rfl (λb1 aB ai m a1 ay=>?_)
 have X:=uB ah ai a1
 refine Ab rfl<|Aj<|A5<|A3 rfl<|As (NM s 46 _) (λw3 aj=>?_)
 obtain rfl:=aj
 refine A1 (.bis (D) (.geq rfl rfl) (by rw [hD];exact A5P s))<|A0<|Ae rfl (λh4=>?_) (λh4=>?_)
 refine A5<|A3 rfl<|As (A1u s _) (λw5 a0=>?_)
 have ak:=m.bl a0
 have am:=DN X a0
 refine A3 rfl<|A1 (.ext rfl rfl)<|A1 (.ext rfl rfl)<|DA rfl<|Ab rfl<|A5<|A3 rfl<|?_
 refine A1 (.buildL (ps:=_) Hj rfl rfl rfl pS) ?_
 refine A3 rfl<|AH rfl rfl ak Bb rfl rfl (λw8 a2 a3 az=>?_)
 have an:=CP am oO a3
 refine Ab rfl<|B2 (EQ rfl rfl (BF a2 CO rfl Bb) rfl ?_)
 exact ⟨Cv (by rw [hN,A7 aS];rfl),an⟩
 refine Ap<|A5<|A3 rfl<|As (d _) (λaC o=>?_)
 have q:=m.bl o
 have a4:=DN X o
 refine A3 rfl<|A1 (.ext rfl rfl)<|A1 (.ext rfl rfl)<|A1 (.ext rfl rfl)<|C1 J0 rfl (λaD aA t E j ap=>?_)
 have a5:=Bx t q.lt
 have a6:=q.un j a5
 have a7:=uB a4 t j
 refine AH rfl rfl E BG rfl rfl (λaE k l aq=>?_)
 have f:=a6.up l
 have g:=CP a7 oO l
 refine DA rfl<|Ab rfl<|Aj<|A5<|A3 rfl<|A1 (.not rfl)<|A3 rfl<|B5 rfl rfl rfl (λc=>?_) (λc=>?_)
 have a8:=(nF c)
 refine A3 rfl<|EK rfl rfl rfl (by rw [(nF c)] <;> rfl)<|A1 (.neq rfl rfl)<|A1 (.pkF rfl (by rw [(nF c)] <;> rfl) rfl)<|A3 rfl<|B5 rfl rfl rfl (λa=>?_) (λa=>?_)
 have a9:=Kk a
 refine A1 (.fa Eo rfl B6 dD rfl)<|Au a<|Ai (Af (BE _) rfl k rfl)<|Au a<|A1 (.neq rfl rfl)<|A1 (.pkF rfl a rfl)<|A3 rfl<|B5 rfl rfl rfl (λb=>?_) (λb=>?_)
 have aa:=Kk b
 refine A3 rfl<|Au b<|As (Wq s [43,45,48,49,50,51,52,53,54,55,56,57] _ hl dD dD) (λaF i=>?_)
 have u:=f.bl i
 have ab:=k.bl i
 have v:=DN g i
 refine Au b<|A1 (.bis (!s.all PW) (.nes rfl rfl) (by rw [A4W]))<|A1 (.pkF rfl b rfl)<|A0<|Ae rfl (λao=>?_) (λao=>?_)
 refine A5<|A1 (.buildL (ps:=_) Hj rfl rfl rfl pZ) ?_
 refine AH rfl rfl u Bb rfl rfl (λaG F G ar=>?_)
 have ac:=CP v oO G
 refine Ab rfl<|B2 (EQ rfl rfl (BF F CO rfl Bb) rfl ?_)
 exact ⟨Cv (by rw [hN,A2 (bF aS),A2 (by intro hx;simp only [A4,Ad] at hx;obtain ⟨⟨⟨x,y⟩,B⟩,C⟩:=hx;clear hN hT d;simp_all)];rfl),ac⟩
 refine Ap<|A5<|A1 (.fa Eo rfl B6 dD rfl)<|Ai (Af (BE _) rfl ab rfl)<|?_
 refine A1 (.buildL (ps:=_) Hj rfl rfl rfl pS) ?_
 refine AH rfl rfl u Bb rfl rfl (λaH H J au=>?_)
 have ad:=CP v oO J
 refine Ab rfl<|B2 (EQ rfl rfl (BF H CO rfl Bb) rfl ?_)
 exact ⟨Cv (by rw [hN,A2 (bF aS),A7 (by simp only [A4,Ad];clear hN hT d;simp_all)];rfl),ad⟩
 have aa:=Kj b
 refine Ac b<|Ac b<|A1 (.pkT rfl b rfl)<|A0<|E3 rfl rfl ?_
 refine A5<|A1 (.buildL (ps:=_) Hj rfl rfl rfl pZ) ?_
 refine AH rfl rfl f Bb rfl rfl (λaI K L av=>?_)
 have ae:=CP g oO L
 refine Ab rfl<|B2 (EQ rfl rfl (BF K CO rfl Bb) rfl ?_)
 exact ⟨Cv (by rw [hN,A2 (bF aS),A2 (by intro hx;simp only [A4,Ad] at hx;obtain ⟨⟨⟨x,y⟩,B⟩,C⟩:=hx;clear hN hT d;simp_all)];rfl),ae⟩
 have a9:=Kj a
 refine Ac a<|Ac a<|A1 (.pkT rfl a rfl)<|A3 rfl<|Ac rfl<|Ac rfl<|Ac rfl<|A1 (.pkT rfl rfl rfl)<|A0<|E3 rfl rfl ?_
 refine A5<|A1 (.buildL (ps:=_) Hj rfl rfl rfl pZ) ?_
 refine AH rfl rfl f Bb rfl rfl (λaJ P Q aw=>?_)
 have af:=CP g oO Q
 refine Ab rfl<|B2 (EQ rfl rfl (BF P CO rfl Bb) rfl ?_)
 exact ⟨Cv (by rw [hN,A2 (bF aS),A2 (by intro hx;simp only [A4,Ad] at hx;obtain ⟨⟨⟨x,y⟩,B⟩,C⟩:=hx;clear hN hT d;simp_all)];rfl),af⟩
 have a8:=(nT c)
 refine EO rfl rfl rfl (by rw [(nT c)] <;> rfl)<|A1 (.pkT rfl (by rw [(nT c)] <;> rfl) rfl)<|A3 rfl<|Ac rfl<|Ac rfl<|Ac rfl<|A1 (.pkT rfl rfl rfl)<|A3 rfl<|Ac rfl<|Ac rfl<|Ac rfl<|A1 (.pkT rfl rfl rfl)<|A0<|E3 rfl rfl ?_
 refine A5<|A1 (.buildL (ps:=_) Hj rfl rfl rfl pZ) ?_
 refine AH rfl rfl f Bb rfl rfl (λaK U V ax=>?_)
 have ag:=CP g oO V
 refine Ab rfl<|B2 (EQ rfl rfl (BF U CO rfl Bb) rfl ?_)
 exact ⟨Cv (by rw [hN,A2 (bF aS),A2 (by intro hx;simp only [A4,Ad] at hx;obtain ⟨⟨⟨x,y⟩,B⟩,C⟩:=hx;clear hN hT d;simp_all)];rfl),ag⟩
def QB (w:World) (r:Nat) (p:Option Addr) (l:l8_) (c t:Nat) (refs:Bool):Prop:=Be w r #[.slice p l.length c,Ah (t:Int),.bool refs] 112/\Ay w p l
theorem A2r (p:Option Addr) (l:l8_) (c a:Nat) (w:World) (hb:Ay w p l) (ha:a<=l.length) (hl:l.length<=100000000) (d:Nat) (hd:d=AY false l a) (m:Nat) :
  Calls Tryz.prog 42 #[.slice p l.length c,Ah (a:Int)] (w.drewN m) λe w'=>e=.returned (Ah (d:Int))/\∃ k,w'=w.drewN k :=
 (Po p l c a (w.drewN m) (hb.drewN m) hl).mono λe w' h=>⟨by rw [h.1,S7 l a ha,hd],m,h.2.symm⟩
theorem Uj (p:Option Addr) (l:l8_) (c a:Nat) (w:World) (hb:Ay w p l) (hc:l.length<=c) (ha:a<=l.length) (hl:l.length<=100000000) (m:Nat) :
  Calls Tryz.prog 64 #[.slice p l.length c,Ah (a:Int)] (w.drewN m) λe w'=>e=.returned (.tuple #[.string (bs (Ec l a)),Ah (C0 l a:Int)])/\∃ k,w'=w.drewN k :=
 (A0L p l c a (w.drewN m) (hb.drewN m) hc hl).mono λe w' h=>⟨by rw [h.1,S7 l a ha],m,h.2.symm⟩
def Mk (refs:Bool) (l:l8_) (s:l8_) (t:Nat):Option (Int × Nat) :=
 if refs && (I6 s 4096).2 && decide (1<=(I6 s 4096).1) then
  (if Ec l (AY false l t) = [48] then
   (if Ec l (AY false l (C0 l (AY false l t)))=[82] then some ((I6 s 4096).1,C0 l (AY false l (C0 l (AY false l t)))) else none)
  else none)
 else none
def A5e (o:Option (Int × Nat)):Int × Int:=match o with | some (n,_)=>(8,n) | none=>(0,0)
def A9B (o:Option (Int × Nat)):Value:=.tuple #[.agg (UJ (A5e o).1 (A5e o).2 []).toArray,.bool o.isSome]
def Y2 (o:Option (Int × Nat)) (t:Nat):Nat:=match o with | some (_,b)=>b | none=>t
theorem A2L (r:Nat) (p:Option Addr) (l:l8_) (c t:Nat) (refs:Bool) (s:l8_) (w:World) (h:QB w r p l c t refs) (hne:0<l.length->(pA p).block≠r) (hc:l.length<=c) (hl:l.length<=100000000) (ht:t<=l.length) (hs:s.length<=100000000) :
  Calls Tryz.prog 65 #[ptV r,.string (bs s)] w λe w'=>e=.returned (A9B (Mk refs l s t))/\QB w' r p l c (Y2 (Mk refs l s t) t) refs/\Bo w.heap.size r w w':=by
 have hr:=h.1
 have hb:=h.2
 obtain ⟨a,ha⟩:=eX (AY false l t)
 obtain ⟨b,G⟩:=eX (AY false l (C0 l a))
 have a4:a<=l.length:=by rw [ha];exact FU _ _ _
 have aw:b<=l.length:=by rw [G];exact FU _ _ _
 have ax:=Fy l a a4
 have hR:Mk refs l s t=if refs && (I6 s 4096).2 && decide (1<=(I6 s 4096).1) then (if Ec l a=[48] then (if Ec l b=[82] then some ((I6 s 4096).1,C0 l b) else none) else none) else none:=by rw [G,ha];rfl
 obtain ⟨N,hN⟩:=eX (I6 s 4096)
 have hW:∀ w,C9 93 #[.string (bs s),Ah 4096] w (.tuple #[Ah N.1,.bool N.2]):=λw=>by rw [hN];exact Yb s 4096 w hs
 rw [<- hN] at hR
 generalize Mk refs l s t=R at hR ⊢
 refine Av func65 rfl ntmps65 ?_
 have a5:=Bo.refl (w.heap.size) r w
 refine A5<|C1 JE rfl (λb1 aI H a9 E aH=>?_)
 have ay:=Bx H hr.lt
 have az:=hr.un E ay
 have f:=λh0=>H▸hb.lt h0
 have a6:=DQ hb E f
 have Y:=DW H a5.size
 have a7:=BY a5 (EH E Y)
 refine Ab rfl<|A5<|A3 rfl<|As (hW _) (λw7 F=>?_)
 have j:=az.bl F
 have a8:=a9.bl F
 have k:=Hk a6 F (λh0=>a6.lt h0)
 have J:=BY a7 (Gq (JM F) a7.size)
 refine A3 rfl<|A1 (.ext rfl rfl)<|A1 (.ext rfl rfl)<|DA rfl<|Ab rfl<|Aj<|Fx 28 (!(refs && N.2 && decide (1<=N.1))) ?_ ?_
 refine Ak<|A3 rfl<|A1 (.nck rfl)<|A1 (.fa CZ rfl P2 dD rfl)<|Ai (Af (g4_ _) rfl j rfl)<|A1 (.not rfl)<|A3 rfl<|B5 rfl rfl rfl (λg=>?_) (λg=>?_)
 have aa:=(nF g)
 refine A3 rfl<|EK rfl rfl rfl (by rw [(nF g)] <;> rfl)<|A1 (.not rfl)<|A1 (.pkF rfl (by rw [(nF g)] <;> rfl) rfl)<|A3 rfl<|B5 rfl rfl rfl (λi=>?_) (λi=>?_)
 have ab:=(nF i)
 refine A3 rfl<|EK rfl rfl rfl (by rw [(nF i)] <;> rfl)<|A1 (.lss rfl rfl)<|A1 (.pkF rfl (by rw [(nF i)] <;> rfl) rfl)<|A0<|?_
 exact ⟨Gm (CD rfl (by cases refs <;> cases h2:N.2 <;> by_cases h3:1<=N.1 <;> simp_all <;> omega)),rfl⟩
 have ab:=(nT i)
 refine EO rfl rfl rfl (by rw [(nT i)] <;> rfl)<|A1 (.pkT rfl (by rw [(nT i)] <;> rfl) rfl)<|A0<|?_
 exact ⟨Gm (CD rfl (by cases refs <;> cases h2:N.2 <;> by_cases h3:1<=N.1 <;> simp_all <;> omega)),rfl⟩
 have aa:=(nT g)
 refine EO rfl rfl rfl (by rw [(nT g)] <;> rfl)<|A1 (.pkT rfl (by rw [(nT g)] <;> rfl) rfl)<|A3 rfl<|Ac rfl<|Ac rfl<|A1 (.pkT rfl rfl rfl)<|A0<|?_
 exact ⟨Gm (CD rfl (by cases refs <;> cases h2:N.2 <;> by_cases h3:1<=N.1 <;> simp_all <;> omega)),rfl⟩
 refine Ae rfl (λaA=>?_) (λaA=>?_)
 refine A5<|A1 (.buildL (ps:=_) Hj rfl rfl rfl pZ) ?_
 refine AH rfl rfl a8 Bb rfl rfl (λaJ a0 o aC=>?_)
 have ac:=j.up o
 have ad:=DQ k o f
 have ae:=BY J (EH o oO)
 refine Ab rfl<|B2 (EQ rfl rfl (BF a0 CO rfl Bb) rfl ?_)
 exact ⟨Cv (by rw [hR,A2 (bF (nT aS))];rfl),by rw [hR,A2 (bF (nT aS))];exact ⟨ac,ad⟩,ae⟩
 refine Ap<|Aj<|Eg Ci kR<|AA (.mv rfl) rfl<|AA (.nck rfl) rfl<|AA (.fa CZ rfl Gr dD rfl) rfl<|Du (λm=>Af (g22_ _) rfl j rfl) rfl<|AA (.mv rfl) rfl<|AA (.nck rfl) rfl<|AA (.fa CZ rfl Gr dD rfl) rfl<|Du (λm=>Af (g22_ _) rfl j rfl) rfl<|AA (.mv rfl) rfl<|AA (.nck rfl) rfl<|AA (.fa CZ rfl B6 dD rfl) rfl<|Du (λm=>Af (BE _) rfl j rfl) rfl<|WQ.c1 BQ rfl rfl (λm=>(A2r p l c t _ k ht hl a ha m))<|WQ.c1 BQ rfl rfl (λm=>(Uj p l c a _ k hc a4 hl m))<|AA (.mv rfl) rfl<|AA (.ext rfl rfl) rfl<|AA (.ext rfl rfl) rfl<|AA (.as rfl) rfl<|AA (.as rfl) rfl<|Dk (λaK q=>?_)
 have u:=j.drew q
 have K:=a8.drew q
 have v:=k.drew q
 have L:=BY J (Ob q)
 refine Aj<|A5<|A3 rfl<|A1 (.nes rfl rfl)<|A0<|Ae rfl (λP=>?_) (λP=>?_)
 have af:=Kj P
 refine A5<|A1 (.buildL (ps:=_) Hj rfl rfl rfl pZ) ?_
 refine AH rfl rfl K Bb rfl rfl (λaL a1 x aD=>?_)
 have ag:=u.up x
 have ah:=DQ v x f
 have ai:=BY L (EH x oO)
 refine Ab rfl<|B2 (EQ rfl rfl (BF a1 CO rfl Bb) rfl ?_)
 exact ⟨Cv (by rw [hR,A7 (nF aS),A2 aS];rfl),by rw [hR,A7 (nF aS),A2 aS];exact ⟨ag,ah⟩,ai⟩
 have af:=Kk P
 refine Ap<|Aj<|Eg Ci kR<|AA (.mv rfl) rfl<|AA (.nck rfl) rfl<|AA (.fa CZ rfl Gr dD rfl) rfl<|Du (λm=>Af (g22_ _) rfl u rfl) rfl<|AA (.mv rfl) rfl<|AA (.nck rfl) rfl<|AA (.fa CZ rfl Gr dD rfl) rfl<|Du (λm=>Af (g22_ _) rfl u rfl) rfl<|AA (.mv rfl) rfl<|WQ.c1 BQ rfl rfl (λm=>(A2r p l c (C0 l a) _ v ax.2 hl b G m))<|WQ.c1 BQ rfl rfl (λm=>(Uj p l c b _ v hc aw hl m))<|AA (.mv rfl) rfl<|AA (.ext rfl rfl) rfl<|AA (.ext rfl rfl) rfl<|AA (.as rfl) rfl<|AA (.as rfl) rfl<|Dk (λaM y=>?_)
 have Q:=u.drew y
 have T:=K.drew y
 have U:=v.drew y
 have V:=BY L (Ob y)
 refine Aj<|A5<|A3 rfl<|A1 (.nes rfl rfl)<|A0<|Ae rfl (λX=>?_) (λX=>?_)
 have aj:=Kj X
 refine A5<|A1 (.buildL (ps:=_) Hj rfl rfl rfl pZ) ?_
 refine AH rfl rfl T Bb rfl rfl (λaN a2 B aE=>?_)
 have ak:=Q.up B
 have am:=DQ U B f
 have an:=BY V (EH B oO)
 refine Ab rfl<|B2 (EQ rfl rfl (BF a2 CO rfl Bb) rfl ?_)
 exact ⟨Cv (by rw [hR,A7 (nF aS),A7 aS,A2 aS];rfl),by rw [hR,A7 (nF aS),A7 aS,A2 aS];exact ⟨ak,am⟩,an⟩
 have aj:=Kk X
 refine Ap<|A5<|A3 rfl<|A1 (.iis ((C0 l b:Int)) (.mv rfl) (by rfl))<|A1 (.nck rfl)<|A1 (.fa CZ rfl B6 dD rfl)<|WL.st B6 rfl rfl rfl Q (by exact Nat.le_of_ble_eq_true rfl) (λaB C d aF=>?_)
 have C:Be aB r _ _:=C
 have d:E6 r _ _:=d
 have ao:=T.up d
 have ap:=Ay.upd U d hne
 have aq:=BY V (BX d)
 refine A0<|A5<|A3 rfl<|?_
 refine A1 (.buildL (ps:=_) Hj rfl rfl rfl pS) ?_
 refine AH rfl rfl ao Bb rfl rfl (λaO a3 D aG=>?_)
 have ar:=C.up D
 have au:=DQ ap D f
 have av:=BY aq (EH D oO)
 refine Ab rfl<|B2 (EQ rfl rfl (BF a3 CO rfl Bb) rfl ?_)
 exact ⟨Cv (by rw [hR,A7 (nF aS),A7 aS,A7 aS];rfl),by rw [hR,A7 (nF aS),A7 aS,A7 aS];exact ⟨ar,au⟩,av⟩
structure WR where
 kind:Int
 n:Int
 word:l8_
 ok:Bool
 np:Nat
def Fm (refs:Bool) (l:l8_) (t:Nat):WR :=
 if Ec l t=[110,117,108,108] then ⟨0,0,Ec l t,true,C0 l t⟩
 else if Ec l t=[116,114,117,101] then ⟨1,1,Ec l t,true,C0 l t⟩
 else if Ec l t=[102,97,108,115,101] then ⟨1,0,Ec l t,true,C0 l t⟩
 else if (Mk refs l (Ec l t) (C0 l t)).isSome then ⟨(A5e (Mk refs l (Ec l t) (C0 l t))).1,(A5e (Mk refs l (Ec l t) (C0 l t))).2,Ec l t,true,Y2 (Mk refs l (Ec l t) (C0 l t)) (C0 l t)⟩
 else if (M4 (Ec l t)).2.2 then ⟨(M4 (Ec l t)).1,(M4 (Ec l t)).2.1,Ec l t,true,C0 l t⟩
 else ⟨0,0,Ec l t,false,C0 l t⟩
def WR.val (x:WR):Value:=.tuple #[.agg (UJ x.kind x.n []).toArray,.string (bs x.word),.bool x.ok]
theorem Tl (l:l8_) (t:Nat):(Ec l t).length<=l.length:=by unfold Ec;rw [AT,B9];omega
theorem TE {o:Option (Int × Nat)} (h:o.isSome=false):Y2 o t=t:=by cases o with | none=>rfl | some x=>cases h
theorem TK (r:Nat) (p:Option Addr) (l:l8_) (c t:Nat) (refs:Bool) (w:World) (h:QB w r p l c t refs) (hne:0<l.length->(pA p).block≠r) (hc:l.length<=c) (hl:l.length<=100000000) (ht:t<=l.length) :
  Calls Tryz.prog 47 #[ptV r] w λe w'=>e=.returned (Fm refs l t).val/\QB w' r p l c (Fm refs l t).np refs/\Bo w.heap.size r w w':=by
 have hr:=h.1
 have hb:=h.2
 have hX:=eX (Fm refs l t)
 obtain ⟨X,hX⟩:=hX
 rw [<- hX]
 unfold Fm at hX
 have bi:=Fy l t ht
 have bj:=Tl l t
 have Y:∀ w1,Ay w1 p l->∀ m,Calls Tryz.prog 64 #[.slice p l.length c,Ah (t:Int)] (w1.drewN m) λe w'=>e=.returned (.tuple #[.string (bs (Ec l t)),Ah (C0 l t:Int)])/\∃ k,w'=w1.drewN k:=λw1 h1 m=>Uj p l c t w1 h1 hc ht hl m
 generalize Ec l t=s at hX bj Y
 generalize C0 l t=t1 at hX bi Y
 refine Av func47 rfl ntmps47 ?_
 have aA:=Bo.refl (w.heap.size) r w
 refine A5<|C1 JE rfl (λb1 bK a0 aC L bH=>?_)
 have bk:=Bx a0 hr.lt
 have a1:=hr.un L bk
 have b:=λN=>a0▸hb.lt N
 have aB:=DQ hb L b
 have an:=DW a0 aA.size
 have bm:=BY aA (EH L an)
 refine DA rfl<|Ab rfl<|Aj<|Eg Ci kR<|AA (.mv rfl) rfl<|AA (.nck rfl) rfl<|AA (.fa CZ rfl Gr dD rfl) rfl<|Du (λm=>Af (g22_ _) rfl a1 rfl) rfl<|AA (.mv rfl) rfl<|AA (.nck rfl) rfl<|AA (.fa CZ rfl B6 dD rfl) rfl<|Du (λm=>Af (BE _) rfl a1 rfl) rfl<|WQ.c1 BQ rfl rfl (λm=>(Y _ aB m))<|AA (.mv rfl) rfl<|AA (.ext rfl rfl) rfl<|AA (.ext rfl rfl) rfl<|AA (.as rfl) rfl<|AA (.as rfl) rfl<|Dk (λw7 T=>?_)
 have bn:=a1.drew T
 have bo:=aC.drew T
 have aD:=aB.drew T
 have aE:=BY bm (Ob T)
 refine A5<|A3 rfl<|A3 rfl<|A1 (.nck rfl)<|A1 (.fa CZ rfl B6 dD rfl)<|WL.st B6 rfl rfl rfl bn (by exact Nat.le_of_ble_eq_true rfl) (λbp a d bt=>?_)
 have a:Be bp r _ _:=a
 have d:E6 r _ _:=d
 have q:=bo.up d
 have v:=Ay.upd aD d hne
 have u:=BY aE (BX d)
 refine A0<|Aj<|A5<|A3 rfl<|A0<|AU<|A5<|A1 (.eqs rfl rfl)<|Ab rfl<|Ae rfl (λa2=>?_) (λa2=>?_)
 have aF:=dT a2
 refine A5<|A1 (.buildL (ps:=_) Hj rfl rfl rfl pZ) ?_
 refine A3 rfl<|AH rfl rfl q Bb rfl rfl (λbL ao x bu=>?_)
 have aG:=a.up x
 have aH:=DQ v x b
 have aI:=BY u (EH x oO)
 refine DA rfl<|Ab rfl<|B2 (N6 rfl rfl (BF ao CO rfl Bb) rfl rfl ?_)
 (rw [A7 aS] at hX;subst hX;exact ⟨rfl,⟨aG,aH⟩,aI⟩)
 have aF:=dF a2
 refine A5<|A1 (.eqs rfl rfl)<|Ab rfl<|Ae rfl (λa3=>?_) (λa3=>?_)
 have aJ:=dT a3
 refine A5<|A1 (.buildL (ps:=_) Hj rfl rfl rfl pS) ?_
 refine A3 rfl<|AH rfl rfl q Bb rfl rfl (λbM ap y bv=>?_)
 have aK:=a.up y
 have aL:=DQ v y b
 have aM:=BY u (EH y oO)
 refine DA rfl<|Ab rfl<|B2 (N6 rfl rfl (BF ap CO rfl Bb) rfl rfl ?_)
 (rw [A2 aS,A7 aS] at hX;subst hX;exact ⟨rfl,⟨aK,aL⟩,aM⟩)
 have aJ:=dF a3
 refine A5<|A1 (.eqs rfl rfl)<|Ab rfl<|Ae rfl (λa4=>?_) (λa4=>?_)
 have aN:=dT a4
 refine A5<|A1 (.buildL (ps:=_) Hj rfl rfl rfl pS) ?_
 refine A3 rfl<|AH rfl rfl q Bb rfl rfl (λbN aq B bw=>?_)
 have aO:=a.up B
 have aP:=DQ v B b
 have aQ:=BY u (EH B oO)
 refine DA rfl<|Ab rfl<|B2 (N6 rfl rfl (BF aq CO rfl Bb) rfl rfl ?_)
 (rw [A2 aS,A2 aS,A7 aS] at hX;subst hX;exact ⟨rfl,⟨aO,aP⟩,aQ⟩)
 have aN:=dF a4
 refine Ap<|Aj<|A5<|A3 rfl<|A3 rfl<|As (A2L r p l c t1 refs s _ ⟨a,v⟩ hne hc hl oO oO) (λbO C=>?_)
 have a5:=C.1.1
 have a6:=Iw q C.2 q.lt oO
 have a7:=C.1.2
 have a8:=BY u (Gq C.2 u.size)
 refine A3 rfl<|A1 (.ext rfl rfl)<|A1 (.ext rfl rfl)<|C1 JE rfl (λbP bI D ar f bx=>?_)
 have aR:=Bx D a5.lt
 have aT:=a5.un f aR
 have aU:=Bx D a6.lt
 have aV:=a6.un f aU
 have U:=λN=>D▸a7.lt N
 have aW:=DQ a7 f U
 have a9:=DW D a8.size
 have aX:=BY a8 (EH f a9)
 refine AH rfl rfl ar Bb rfl rfl (λbQ au g bz=>?_)
 have aa:=aT.up g
 have ab:=aV.up g
 have P:=DQ aW g U
 have Q:=BY aX (EH g oO)
 refine Ab rfl<|A5<|A3 rfl<|A0<|Ae rfl (λbq=>?_) (λbq=>?_)
 refine A5<|Ai (BD rfl au CO rfl Bb)<|A3 rfl<|AH rfl rfl ab Bb rfl rfl (λbR av E bA=>?_)
 have aY:=aa.up E
 have aZ:=DQ P E b
 have a':=BY Q (EH E oO)
 refine DA rfl<|Ab rfl<|B2 (N6 rfl rfl (BF av CO rfl Bb) rfl rfl ?_)
 (rw [A2 aS,A2 aS,A2 aS,A7 aS] at hX;subst hX;exact ⟨rfl,⟨aY,aZ⟩,a'⟩)
 refine Ap<|A5<|A3 rfl<|As (W9 s _ oO) (λbS F=>?_)
 have ac:=aa.bl F
 have ad:=ab.bl F
 have ae:=Hk P F (λN=>P.lt N)
 have af:=BY Q (Gq (JM F) Q.size)
 refine A3 rfl<|A1 (.ext rfl rfl)<|A1 (.ext rfl rfl)<|C1 JE rfl (λbT bJ G aw i bB=>?_)
 have b0:=Bx G ac.lt
 have b2:=ac.un i b0
 have b3:=Bx G ad.lt
 have b4:=ad.un i b3
 have H:=λN=>G▸ae.lt N
 have b5:=DQ ae i H
 have ag:=DW G af.size
 have b6:=BY af (EH i ag)
 refine AH rfl rfl aw Bb rfl rfl (λbU V j bC=>?_)
 have ah:=b2.up j
 have ai:=b4.up j
 have aj:=DQ b5 j H
 have ak:=BY b6 (EH j oO)
 refine Ab rfl<|Aj<|A5<|A3 rfl<|A1 (.not rfl)<|A0<|Ae rfl (λam=>?_) (λam=>?_)
 have b7:=(nT am)
 refine Ak<|A1 (.buildL (ps:=_) Hj rfl rfl rfl pZ) ?_
 refine AH rfl rfl V Bb rfl rfl (λbV ax o bD=>?_)
 have b8:=ah.up o
 have b9:=ai.up o
 have ba:=DQ aj o H
 have bb:=BY ak (EH o oO)
 refine A0<|A5<|Ai (BD rfl ax CO rfl Bb)<|A3 rfl<|A3 rfl<|AH rfl rfl b9 Bb rfl rfl (λbW ay J bE=>?_)
 have bc:=b8.up J
 have bd:=DQ ba J b
 have be:=BY bb (EH J oO)
 refine DA rfl<|Ab rfl<|B2 (N6 rfl rfl (BF ay CO rfl Bb) rfl rfl ?_)
 (rw [A2 aS,A2 aS,A2 aS,A2 (bF aS),A2 (bF aS)] at hX;subst hX;exact ⟨Cv (by rw [show (M4 s).2.2=false by assumption];rfl),⟨by rw [<- TE (t:=t1) (show (Mk refs l s t1).isSome=false by assumption)];exact bc,bd⟩,be⟩)
 have b7:=(nF am)
 refine Ap<|A5<|Ai (BD rfl V CO rfl Bb)<|A3 rfl<|A3 rfl<|AH rfl rfl ai Bb rfl rfl (λbX az K bG=>?_)
 have bf:=ah.up K
 have bg:=DQ aj K b
 have bh:=BY ak (EH K oO)
 refine DA rfl<|Ab rfl<|B2 (N6 rfl rfl (BF az CO rfl Bb) rfl rfl ?_)
 (rw [A2 aS,A2 aS,A2 aS,A2 (bF aS),A7 aS] at hX;subst hX;exact ⟨Cv (by rw [show (M4 s).2.2=true by assumption];rfl),⟨by rw [<- TE (t:=t1) (show (Mk refs l s t1).isSome=false by assumption)];exact bf,bg⟩,bh⟩)
end
section
section
variable {P:Program} {n:Sh} {fn:Func} {R:Ending->World->Prop} {f:Fr} {w:World}
def A6V (f:Fr) (tmps:Array Value):Prop:=∀ i u,look f i=some u->tmps.getD i undef=u
def Ew (P:Program) (fn:Func) (R:Ending->World->Prop) (D:List Deferred):Exit->Fr->World->Prop
 | .normal,f,w | .ret,f,w=>∀ tmps,A6V f tmps->Leaves P fn tmps R D .returning w
 | .panic chain,f,w=>∀ tmps,A6V f tmps->Leaves P fn tmps R D (.panicking chain) w
 | .outgrown,_,w=>R .outgrown w
 | _,_,_=>False
def WD (P:Program) (n:Sh) (fn:Func) (R:Ending->World->Prop) (c:Code) (f:Fr) (w:World):Prop:=∀ a,LK n f a->c.wp P (bodyPostD P fn R) a w
theorem KR {e:Exit} {a:Act} (h:Hq n (Ew P fn R n.D) e a w):bodyPostD P fn R e a w:=by
 obtain ⟨f,hr,hQ⟩:=h
 cases e with
 | normal=>have:=hQ a.tmps hr.2.2;rw [<- hr.1] at this;exact this
 | ret=>have:=hQ a.tmps hr.2.2;rw [<- hr.1] at this;exact this
 | panic ch=>have:=hQ a.tmps hr.2.2;rw [<- hr.1] at this;exact this
 | outgrown=>exact hQ
 | exit i=>exact hQ.elim
 | goto l=>exact hQ.elim
theorem WD.of {c:Code} (h:W P n c (Ew P fn R n.D) f w):WD P n fn R c f w:=by
 unfold W at h
 exact λa ha=>wp_mono (h a ha) λ_ _ _=>KR
theorem WD.seq {x y:Code} (h:W P n x (nx (λf w=>WD P n fn R y f w) (Ew P fn R n.D)) f w):WD P n fn R (.seq x y) f w:=by
 unfold W at h
 intro a ha
 refine wp_seq (wp_mono (h a ha) ?_)
 rintro e a' w' ⟨f',hr,hQ⟩
 cases e with
 | normal=>exact hQ a' hr
 | exit i=>exact KR (P:=P) (fn:=fn) (R:=R) (n:=n) (w:=w') (e:=.exit i) ⟨f',hr,hQ⟩
 | goto l=>exact KR (P:=P) (fn:=fn) (R:=R) (n:=n) (w:=w') (e:=.goto l) ⟨f',hr,hQ⟩
 | ret=>exact KR (P:=P) (fn:=fn) (R:=R) (n:=n) (w:=w') (e:=.ret) ⟨f',hr,hQ⟩
 | panic ch=>exact KR (P:=P) (fn:=fn) (R:=R) (n:=n) (w:=w') (e:=.panic ch) ⟨f',hr,hQ⟩
 | outgrown=>exact KR (P:=P) (fn:=fn) (R:=R) (n:=n) (w:=w') (e:=.outgrown) ⟨f',hr,hQ⟩
theorem WD.defer {y:Code} {ty ty2:Nat} {pos2:String} {aft2:Array Edge} {F:FuncId} {caps:List Operand} (hcap:QO f caps=some vs) (hd:Nat.blt d n.n=true)
  (h:WD P ⟨n.n,⟨.fn (.func F) vs.toArray,#[]⟩::n.D⟩ fn R y ((d,.func (.func F) #[] vs.toArray)::f) w) :
  WD P n fn R (.seq (.region id [⟨some d,.makeFunc (.func F) #[] caps.toArray,ty,pos,aft,none⟩,⟨none,.defer ⟨.value (.tmp d),#[],#[]⟩,ty2,pos2,aft2,none⟩].toArray false) y) f w:=by
 intro a ha
 refine wp_seq (wp_region_lit ?_)
 have c:(Instr.makeFunc (.func F) #[] (vs.toArray)).run P w=.ok (.func (.func F) #[] vs.toArray) w:=rfl
 have e:caps.toArray.map a.eval=vs.toArray:=by rw [List.map_toArray,Kp ha.agr _ _ hcap]
 have b:=ha.put hd (.func (.func F) #[] vs.toArray)
 have g:(a.put (some d) (.func (.func F) #[] vs.toArray)).eval (.tmp d)=.func (.func F) #[] vs.toArray:=b.agr _ _ (by simp [D3,look,Nat.beq_refl])
 unfold wpList
 rw [A7 (by simp [Region.wanted])]
 refine Or.inl ?_
 unfold Oper.wp execOp
 simp only [e,Bq,c,AX,CC,List.map_toArray,Da]
 rw [Oper.upon_value]
 unfold wpList
 rw [A7 (by simp [Region.wanted])]
 refine Or.inl ?_
 unfold Oper.wp execOp
 simp only [resolve,Deferred.ofValue,g,Bq,CC,AX,Array.append_empty,List.map_toArray,Da]
 rw [Oper.upon_defer]
 exact wpList_nil (h _ ⟨by show _::_=_::_;rw [b.1],b.2.1,b.2.2⟩)
theorem SA {F:FuncId} {c:Code} {args:Array Value} (hf:P.funcs[F]?=some fn) (hb:fn.body=some c)
  {k:Nat} (hn:fn.ntmps=k) (hl:args.size<=k) (h:WD P ⟨k,[]⟩ fn R c (KD 0 args.toList) w):Calls P F args w R:=by
 refine calls_of_wp_defers hf hb (h _ ⟨rfl,by simp [hn];omega,?_⟩)
 intro i v hv
 obtain ⟨j,e,hj⟩:=Kh _ _ _ _ hv
 obtain rfl:i=j:=by omega
 have a:i<args.size:=by
  rcases BL i args.size with h | h
  · exact h
  · rw [AO (by simpa using h)] at hj;cases hj
 have hj':args[i]?=some v:=by rw [<- Dz];exact hj
 simp only [Ba]
 rw [Array.getElem?_append_left a,hj'];rfl
theorem Ke {F:FuncId} {g:Func} (h1:P.funcs[F]?=some g) (h2:g.body≠none) (h3:g.name≠"runtime.NumGoroutine") (args:Array Value) (w:World):(callFunc F args).run P w=.ok (.enter F args) w:=by
 cases hb:g.body with
 | none=>exact D6 hb h2
 | some c=>simp [callFunc,h1,h3,hb]
theorem O1  (hv:En P fn f w v) (h:R (.returned v) w):Ew P fn R [] .ret f w:=λtmps ht=>⟨v,hv tmps ht,h⟩
theorem Ew.ret {F:FuncId} (hb:Dq P F) (S:World->Prop)
  (hc:CallsD P F vs.toArray .returning w λe u' w'=>u'=.returning/\(∃ v,e=.returned v)/\S w')
  (hr:∀ w',S w'->∃ v,En P fn f w' v/\R (.returned v) w'):Ew P fn R [⟨.fn (.func F) vs.toArray,#[]⟩] .ret f w:=by
 intro tmps ht
 obtain ⟨g,a,b,c⟩:=hb
 refine leaves_cons (f:=F) (args:=vs.toArray) (by simp) ?_ (hc.mono ?_)
 ·
  simp only [invoke,Array.empty_append]
  exact Ke a b c _ _
 ·
  rintro e u' w' ⟨rfl,⟨v,rfl⟩,hS⟩
  obtain ⟨v,hv,hR⟩:=hr w' hS
  exact ⟨v,hv tmps ht,hR⟩
theorem LL {F:FuncId} {v0:Value} (hb:Dq P F) (S:World->Prop)
  (hc:CallsD P F vs.toArray (.panicking [{ v:=v0,recovered:=false }]) w λe u' w'=>u'=.panicking [{ v:=v0,recovered:=true }]/\(∃ v,e=.returned v)/\S w')
  (hr:∀ w',S w'->∃ v,En P fn f w' v/\R (.returned v) w'):Ew P fn R [⟨.fn (.func F) vs.toArray,#[]⟩] (.panic [{ v:=v0,recovered:=false }]) f w:=by
 intro tmps ht
 obtain ⟨g,a,b,c⟩:=hb
 refine leaves_cons (f:=F) (args:=vs.toArray) (by simp) ?_ (hc.mono ?_)
 ·
  simp only [invoke,Array.empty_append]
  exact Ke a b c _ _
 ·
  rintro e u' w' ⟨rfl,⟨v,rfl⟩,hS⟩
  obtain ⟨v,hv,hR⟩:=hr w' hS
  exact ⟨v,hv tmps ht,hR⟩
def Pj:FrameMode->Value × FrameMode
 | .panicking ({ v,recovered:=false,goexit:=false }::older)=>(v,.panicking ({ v,recovered:=true }::older))
 | m=>(.nilIface,m)
theorem SR (c₀:Frame) (cs:List Frame):recoverD (c₀::cs)=some ((Pj c₀.mode).1,{ c₀ with mode:=(Pj c₀.mode).2 }::cs)\/recoverD (c₀::cs)=none/\Pj c₀.mode=(.nilIface,c₀.mode):=by
 unfold recoverD Pj
 simp only
 split
 · next h=>rw [h];exact Or.inl rfl
 ·
  next h =>
  refine Or.inr ⟨rfl,?_⟩
  split
  · next h2=>exact D6 h2 (h _ _)
  · rfl
theorem R0  {ty:Nat} {l:List Oper} {Q:Exit->Act->List Frame->World->Prop} {a:Act} {c₀:Frame} {cs:List Frame} {Q0:Exit->Act->World->Prop}
  (h:wpList P (⟨some d,.call ⟨.builtin .recover,#[],ats⟩,ty,pos,aft,none⟩::l).toArray Q0 l (a.put (some d) (Pj c₀.mode).1) w)
  (hmono:∀ e a w,Q0 e a w->Q e a ({ c₀ with mode:=(Pj c₀.mode).2 }::cs) w) :
  (Code.region id (⟨some d,.call ⟨.builtin .recover,#[],ats⟩,ty,pos,aft,none⟩::l).toArray false).wpS P Q a (c₀::cs) w:=by
 intro b k hb t
 generalize ho:(⟨some d,.call ⟨.builtin .recover,#[],ats⟩,ty,pos,aft,none⟩:Oper)=o at h ⊢
 have h':wpOps P (o::l).toArray Q0 (List.range' 1 l.length) (a.put (some d) (Pj c₀.mode).1) w:=by
  rw [wpOps_eq_wpList l 1 (λj=>by simp [Nat.add_comm 1 j])];exact h
 obtain ⟨e,a',w',hq,q⟩:=wp_ops _ _ _ h' b k ({ c₀ with mode:=(Pj c₀.mode).2 }::cs)
 refine ⟨e,a',_,w',hmono _ _ _ hq,.of_steps (.head step_region (.one (step_lone_go ?_))) q⟩
 have g:List.range (o::l).toArray.size=0::List.range' 1 l.length:=by
  rw [List.range_eq_range'];simp [List.range'_succ]
 rw [g]
 have hg:=stepG_op (P:=P) (b:=b) (k:=k) (cs:=c₀::cs) (w:=w) (a:=a) (ops:=(o::l).toArray) (i:=0) (rest:=List.range' 1 l.length) (o:=o) (by simp) (by subst ho;simp [Region.wanted])
 have s:∀ v,(b.at a (.inRegion (o::l).toArray (0::List.range' 1 l.length)::k)).finish v=b.at (a.put (some d) v) (.inRegion (o::l).toArray (List.range' 1 l.length)::k):=by
  intro v;rw [Frame.finish_at];subst ho;rfl
 have hk:(b.at a (.inRegion (o::l).toArray (0::List.range' 1 l.length)::k)).kind=.deferred:=hb
 have c:=tryRecover_deferred hk (c₀::cs)
 have m:(execOp a.eval o).run P w=.ok .recover w:=by
  subst ho;simp [execOp,resolve,invoke,builtin]
 rw [hg,<- s]
 rcases SR c₀ cs with f | ⟨f,hm⟩
 ·
  rw [f] at c
  simp only [Frame.at] at c ⊢
  simp [stepG.apply,m,c]
 ·
  rw [f] at c
  rw [hm]
  simp only [Frame.at] at c ⊢
  simp [stepG.apply,m,c]
theorem IS {F:FuncId} {ty k:Nat} {l:List Oper} {y:Code} {args:Array Value} {u:FrameMode} (hf:P.funcs[F]?=some fn)
  (hb:fn.body=some (.seq (.region id (⟨some d,.call ⟨.builtin .recover,#[],ats⟩,ty,pos,aft,none⟩::l).toArray false) y)) (hn:fn.ntmps=k) (hl:args.size<=k) (hd:Nat.blt d k=true)
  (h:WL P ⟨k,[]⟩ (⟨some d,.call ⟨.builtin .recover,#[],ats⟩,ty,pos,aft,none⟩::l).toArray (nx (λf w=>W P ⟨k,[]⟩ y (Ji P fn R) f w) (Ji P fn R)) l ((d,(Pj u).1)::KD 0 args.toList) w) :
  CallsD P F args u w λe u' w'=>u'=(Pj u).2/\R e w':=by
 refine callsD_of_wpS hf hb λc₀ cs hu=>wpS_seq ?_
 have c:LK ⟨k,[]⟩ (KD 0 args.toList) { tmps:=args++Array.replicate (fn.ntmps-args.size) undef,defers:=[] }:=by
  refine ⟨rfl,by simp [hn];omega,λi v hv=>?_⟩
  obtain ⟨j,e,hj⟩:=Kh _ _ _ _ hv
  obtain rfl:i=j:=by omega
  have o:i<args.size:=by
   rcases BL i args.size with h | h
   · exact h
   · rw [AO (by simpa using h)] at hj;cases hj
  have hj':args[i]?=some v:=by rw [<- Dz];exact hj
  simp only [Ba]
  rw [Array.getElem?_append_left o,hj'];rfl
 subst hu
 have b:∀ e a w,Hq ⟨k,[]⟩ (Ji P fn R) e a w->bodyPostS P fn c₀ cs (λe u' w'=>u'=(Pj c₀.mode).2/\R e w') e a ({ c₀ with mode:=(Pj c₀.mode).2 }::cs) w:=by
  rintro e a w ⟨f,hr,hQ⟩
  unfold Ji at hQ
  cases e with
  | normal=>obtain ⟨v,g,m⟩:=hQ;exact ⟨hr.1,_,rfl,v,g _ hr.2.2,rfl,m⟩
  | ret=>obtain ⟨v,g,m⟩:=hQ;exact ⟨hr.1,_,rfl,v,g _ hr.2.2,rfl,m⟩
  | panic ch=>exact ⟨hr.1,_,rfl,rfl,hQ⟩
  | outgrown=>exact ⟨_,rfl,hQ⟩
  | exit i=>exact hQ.elim
  | goto l=>exact hQ.elim
 unfold WL at h
 have:=h _ (c.put hd (Pj c₀.mode).1)
 refine R0 this ?_
 rintro e a w ⟨f,hr,hQ⟩
 cases e with
 | normal =>
  have hQ':W P ⟨k,[]⟩ y (Ji P fn R) f w:=hQ
  unfold W at hQ'
  exact wpS_of_wp (wp_mono (hQ' a hr) λe a w hh=>b e a w hh)
 | _=>exact b _ _ _ ⟨f,hr,hQ⟩
def noPn (Q:Exit->Fr->World->Prop):Exit->Fr->World->Prop
 | .panic _,_,_=>False
 | e,f,w=>Q e f w
theorem Vc {c:Code} {Q:Exit->Fr->World->Prop} (h:W P n c (noPn Q) f w):W P n c Q f w:=h.mono λe f w h=>by
 cases e with
 | panic ch=>exact h.elim
 | normal=>exact h
 | ret=>exact h
 | exit i=>exact h
 | goto l=>exact h
 | outgrown=>exact h
theorem BM.neNil  {ty u:TypeId} (ht:P.underlying tx=some (.interface (P.methodsAt tx))) (hx:D3 f x=some (.iface u v)):BM P (.binOp .neq tx x (.const .nilIface) ty) f (.bool true):=λρ hρ d ty' pos aft g w=>by
 have h4:ρ (.const .nilIface)=.nilIface:=hρ _ _ rfl
 simp [execOp,hρ _ _ hx,h4,eqGuard,run_neq_held_nil w tx u v ht]
theorem BM.neNil0  {ty:TypeId} (ht:P.underlying tx=some (.interface (P.methodsAt tx))) (hx:D3 f x=some .nilIface):BM P (.binOp .neq tx x (.const .nilIface) ty) f (.bool false):=λρ hρ d ty' pos aft g w=>by
 have h4:ρ (.const .nilIface)=.nilIface:=hρ _ _ rfl
 simp [execOp,hρ _ _ hx,h4,eqGuard_nil_constR,run_neq_nil_nil w tx ht]
theorem BM.tas  {t:TypeId} {k:IntKind} (hu:P.underlying t=some (.int k)) (hx:D3 f x=some (.iface t v)):BM P (.typeAssert x tx t true) f (.tuple #[v,.bool true]):=λρ hρ d ty' pos aft g w=>by
 simp [execOp,hρ _ _ hx,Instr.typeAssert,B7 hu]
theorem Bt  {t:TypeId} {b o:Nat} {cs:Array Value} (hb:Be w b cs tb) (ha:(isAgg t).run P w=.ok false w) (hv:cs[o]?=some v):(loadVar t ⟨b,o,none⟩).run P w=.ok v w:=by
 have hc:=(hb.cell o).trans hv
 simp [loadVar,ha,hc]
theorem Ir {a b c:Tmp} {tc:TypeId} {pa pb pc:Addr} {x y z:Value} (hr:fn.results=#[.cell a ta,.cell b tb,.cell c tc]) (ha:look f a=some (.pointer (some pa))) (hb:look f b=some (.pointer (some pb))) (hc:look f c=some (.pointer (some pc)))
  (hx:(loadVar ta pa).run P w=.ok x w) (hy:(loadVar tb pb).run P w=.ok y w) (hz:(loadVar tc pc).run P w=.ok z w):En P fn f w (.tuple #[x,y,z]):=λtmps hh=>by
 have e1:=hh _ _ ha;have e2:=hh _ _ hb;have e3:=hh _ _ hc
 simp only [Ba] at e1 e2 e3
 simp [results,hr,e1,e2,e3,asAddr,hx,hy,hz]
end
end
section
def HO {α:Type} (E:TypeId) (res:Except Int α) (S:α->Value->World->Prop) (S':World->Prop) (e:Ending) (w:World):Prop :=
 match res with
 | .ok a=>∃ v,e=.returned v/\S a v w
 | .error k=>e=.panicked [{ v:=.iface E (Ah k),recovered:=false }]/\S' w
theorem HO.ok {α:Type} {E:TypeId} {res:Except Int α} {S:α->Value->World->Prop} {S':World->Prop} {e:Ending} {w:World} (a:α) (v:Value) (h:res=.ok a) (he:e=.returned v) (hs:S a v w):HO E res S S' e w:=by
 unfold HO;rw [h];exact ⟨v,he,hs⟩
abbrev GX:=@HO.ok
theorem A1N {α:Type} {E:TypeId} {res:Except Int α} {S:α->Value->World->Prop} {S':World->Prop} {w:World} (k:Int) (h:res=.error k) (hs:S' w):HO E res S S' (.panicked [{ v:=.iface E (Ah k),recovered:=false }]) w:=by
 unfold HO;rw [h];exact ⟨rfl,hs⟩
abbrev DG:=@A1N
section
variable {P:Program} {n:Sh} {f:Fr}
theorem WL.cx  {Q:Exit->Fr->World->Prop} {rest:List Oper} {ty:Nat} {F:FuncId} {xs:List Operand}
 {res:Except Int α} {S:α->Value->World->Prop} (hb:Dq P F) (hx:QO f xs=some vs) (hd:Nat.blt d n.n=true)
  (hc:Calls P F vs.toArray w (HO E res S S')) (herr:∀ k w',res=.error k->S' w'->Q (.panic [{ v:=.iface E (Ah k),recovered:=false }]) f w')
  (hok:∀ a v w',res=.ok a->S a v w'->WL P n ops Q rest ((d,v)::f) w'):WL P n ops Q (⟨some d,.call ⟨.value (.func F),xs.toArray,ats⟩,ty,pos,aft,none⟩::rest) f w:=by
 cases hres:res with
 | ok a=>exact DO (V:=λv:Value=>v) hb hx hd (hc.mono λe w' h=>by rw [hres] at h;exact h) λv w' h=>hok a v w' hres h
 | error k=>exact Gb hb hx (hc.mono λe w' h=>by rw [hres] at h;exact h) λw' h=>herr k w' hres h
end
theorem Ek  {L:Fq α} {r:Nat} {l:List α} (h:AJ L e B w v l) (hT:Bo w.heap.size r w w1) (hr:r<B):AJ L e B w1 v l :=
 h.same λg hg=>hT.block g (h.lt g hg).2 (by have:=(h.lt g hg).1;omega)
section
variable {P:Program} {f:Fr}
theorem BM.eqNil  {ty u:TypeId} (ht:P.underlying tx=some (.interface (P.methodsAt tx))) (hx:D3 f x=some (.iface u v)):BM P (.binOp .eql tx x (.const .nilIface) ty) f (.bool false):=λρ hρ d ty' pos aft g w=>by
 have h4:ρ (.const .nilIface)=.nilIface:=hρ _ _ rfl
 simp [execOp,hρ _ _ hx,h4,eqGuard,run_eql_held_nil w tx u v ht]
theorem BM.eqNil0  {ty:TypeId} (ht:P.underlying tx=some (.interface (P.methodsAt tx))) (hx:D3 f x=some .nilIface):BM P (.binOp .eql tx x (.const .nilIface) ty) f (.bool true):=λρ hρ d ty' pos aft g w=>by
 have h4:ρ (.const .nilIface)=.nilIface:=hρ _ _ rfl
 simp [execOp,hρ _ _ hx,h4,eqGuard_nil_constR,run_eql_nil_nil w tx ht]
end
end
section
theorem D8 (k:Int) (w:World):Calls Tryz.prog 60 #[Ah k] w λe w'=>e=.panicked [{ v:=.iface 30 (Ah k),recovered:=false }]/\w=w':=by
 refine Av func60 rfl ntmps60<|Ak<|A3 rfl<|A1 (.mkI Mc rfl)<|FE rfl (AE ?_)
 exact ⟨rfl,rfl⟩
theorem A1f (b:Nat) (w:World):Calls Tryz.prog 44 #[.nilIface,ptV b] w λe w'=>e=.returned (.tuple #[])/\w=w':=by
 refine Av func44 rfl ntmps44<|Aj<|A5<|A3 rfl<|A1 (.eqNil0 kR rfl)<|A0<|E3 rfl rfl<|B2 (BK rfl  ?_)
 exact ⟨rfl,rfl⟩
theorem A1g (b B:Nat) (j k:Int) (w:World) (h:Be w b #[Ah j] 30) (hB:B<=b):Calls Tryz.prog 44 #[.iface 30 (Ah k),ptV b] w λe w'=>e=.returned (.tuple #[])/\Be w' b #[Ah k] 30/\E6 b w w':=by
 refine Av func44 rfl ntmps44<|Aj<|A5<|A3 rfl<|A1 (.eqNil kR rfl)<|A0<|E4 rfl rfl<|Ap<|A5<|A3 rfl<|A1 (.tas Mc rfl)<|A3 rfl<|A1 (.ext rfl rfl)<|A1 (.ext rfl rfl)<|DA rfl<|Ab rfl<|Aj<|A5<|A3 rfl<|A1 (.not rfl)<|A0<|E4 rfl rfl<|Ap<|Ak<|A3 rfl<|A3 rfl<|A1 (.nck rfl)<|WL.st GJ rfl rfl rfl h (by exact Nat.le_of_ble_eq_true rfl) (λd a c f=>?_)
 have a:Be d b _ _:=a
 have c:E6 b _ _:=c
 refine A0<|BU (BK rfl ?_)
 exact ⟨rfl,a,aS⟩
end
section
open Go.RowKit Go.WideShapes Go.ChangeShapes
theorem WG:∀ (vs:List Value) (s o:Nat) (pre mid post:List Value),pre.length=o+s->mid.length=vs.length ->
  (vs.zipIdx s).foldl (λ(cs:Array Value) (x:Value × Nat)=>cs.setIfInBounds (o+x.2) x.1) (pre++mid++post).toArray=(pre++vs++post).toArray
 | [],s,o,pre,mid,post,h1,h2=>by
  obtain rfl:mid=[]:=CB.1 (by simpa using h2)
  rfl
 | v::r,s,o,pre,[],post,h1,h2=>by simp at h2
 | v::r,s,o,pre,m0::mr,post,h1,h2=>by
  have ih:=WG r (s+1) o (pre++[v]) mr post (by simp;omega) (by simpa using h2)
  rw [List.zipIdx_cons,DS]
  have e:(pre++m0::mr++post).toArray.setIfInBounds (o+s) v=(pre++[v]++mr++post).toArray:=by
   rw [<- h1]
   simp
  rw [e,ih]
  simp
theorem U4 {α:Type} (L:Fq α):∀ (xs:List α) (i:Nat) (pre post:List Value),pre.length=i * L.m->post.length=xs.length * L.m ->
  Instr.fill (λi=>some (i * L.m,L.m)) (pre++post).toArray ((List.range' i xs.length).zip (xs.map λx=>Value.agg (L.V x).toArray))=some (pre++L.flat xs).toArray
 | [],i,pre,post,h1,h2=>by
  obtain rfl:post=[]:=CB.1 (by simpa using h2)
  rfl
 | x::r,i,pre,post,h1,h2=>by
  have hlx:=L.len x
  have h2':post.length=r.length * L.m+L.m:=by rw [h2,A8,Nat.succ_mul]
  have ih:=U4 L r (i+1) (pre++L.V x) (post.drop L.m) (by rw [A9,h1,hlx,Nat.succ_mul]) (by rw [B9];omega)
  have hf:=WG (L.V x) 0 (i * L.m) pre (post.take L.m) (post.drop L.m) oO (by rw [AT,hlx];omega)
  rw [AB pre,Fh] at hf
  have hc:(Value.agg (L.V x).toArray).cells=(L.V x).toArray:=rfl
  rw [A8,List.range'_succ,C3,List.zip_cons_cons]
  conv=>lhs;unfold Instr.fill
  simp only [hc]
  rw [A2 (by simp [hlx];omega)]
  refine Eq.trans (Bk (λc=>Instr.fill (λi=>some (i * L.m,L.m)) c ((List.range' (i+1) r.length).zip (r.map λx=>Value.agg (L.V x).toArray))) ?_) (ih.trans (by simp [Fq.flat]))
  rw [<- hf]
  simp
section
variable {P:Program} {n:Sh} {f:Fr} {α:Type} {L:Fq α}
theorem Cw  {Q:Exit->Fr->World->Prop} {rest:List Oper} {ty:Nat} {t:TypeId} {len:Nat} {ps:List (Nat × Operand)} {z:Value} (xs:List α)
  (hu:P.underlying t=some (.slice e)) (hs:∀ w,(sizeOf e).run P w=.ok L.m w) (hz:∀ w,(zeroValue e).run P w=.ok z w) (_hzs:z.cells.size=L.m) (hl0:Nat.blt 0 len=true) (hl1:Nat.ble (len * L.m) 1000=true)
  (hx:QO f (ps.map (·.2))=some vs) (hi:ps.map (·.1)=List.range' 0 len) (hv:vs=xs.map λx=>Value.agg (L.V x).toArray) (hl:len=xs.length) (hd:Nat.blt d n.n=true)
  (k:∀ b w1,b=w.heap.size->AJ L e b w1 (.slice (some ⟨b,0,none⟩) len len) xs->E6 b w w1->w1.heap.size=b+1->WL P n ops Q rest ((d,.slice (some ⟨b,0,none⟩) len len)::f) w1) :
  WL P n ops Q (⟨some d,.buildSlice t len ps.toArray,ty,pos,aft,none⟩::rest) f w:=by
 have q:0<len:=by simpa [Nat.blt_eq] using hl0
 have s:len * L.m<=1000:=by simpa using hl1
 have o:len<=len * L.m:=Nat.le_mul_of_pos_right _ L.pos
 refine WL.run hd (w':=w.alloc (.cells (L.flat xs).toArray e)) (v:=.slice (some ⟨w.heap.size,0,none⟩) len len) (λρ hρ=>?_) (k _ _ rfl (.inr ⟨w.heap.size,len,_,by rw [<- hl],FQ _,Be.alloc _ _ _,by rw [<- hl];exact FQ _,by unfold maxLen;omega,by rw [List.size_toArray,L.flat_len,<- hl];exact FQ _,by show (L.flat xs).take _=_;rw [AR (by rw [L.flat_len];exact FQ _)]⟩) (E6.alloc _ _) (by simp))
 have g:=Kp hρ _ _ hx
 have c:(ps.toArray.map λ(i,x)=>(i,ρ x)).toList=(ps.map (·.1)).zip vs:=by
  rw [<- g];simp only [List.map_map,Array.toList_map]
  clear hx hi hv g
  induction ps with
  | nil=>rfl
  | cons p r ih=>simpa using ih
 have a:=U4 L xs 0 [] ((Array.range (len * L.m)).map (λx=>z.cells[x % z.cells.size]!)).toList (by simp) (by simp [hl])
 simp only [CJ,Array.toArray_toList] at a
 rw [hi,hl,hv] at c
 rw [<- hl] at c a
 have j:¬ len * L.m=0:=by omega
 have l:¬ 16777216<len * L.m:=by omega
 unfold execOp
 simp only [Instr.buildSlice,Bq,B7 hu,hs,AX,c]
 rw [A2 oO,A2 j]
 simp only [Bq,hz,CC,AX,a]
 simp [newRow]
theorem Sy  {Q:Exit->Fr->World->Prop} {rest:List Oper} {ty:Nat} {t:TypeId} {nn:Nat} {l:List α} (o:α) (k:Nat)
  (hown:AJ L e B w (.slice p nn c) l) (hk:k<l.length) (hi:(P.info? t).map (·.size)=some L.m) (hx:D3 f x=some (.pointer (some ((pA p).add (k * L.m))))) (hy:D3 f y=some (.agg vs.toArray)) (hv:vs=L.V o)
  (kk:∀ w1 g,p=some ⟨g,0,none⟩->E6 g w w1->AJ L e B w1 (.slice p nn c) (l.set k o)->WL P n ops Q rest f w1) :
  WL P n ops Q (⟨none,.store t x y,ty,pos,aft,none⟩::rest) f w:=by
 subst hv
 rcases hown with ⟨q,v⟩ | ⟨g,cap,cur,q,hB,hg,j,s,A,d⟩
 · rw [v] at hk;simp only [Ag] at hk;omega
 ·
  cases q;have a:=L.len o;have C:=L.flat_len l;have D:k * L.m+L.m<=l.length * L.m:=by rw [<- Nat.succ_mul];exact Cz _ hk
  have E:l.length * L.m<=c * L.m:=Cz _ j;have u:=run_storeCells_at P g (k * L.m) e (L.V o) 0 cur w hg (by rw [a];omega) (L.one o);rw [show pA (some (⟨g,0,none⟩:Addr))=⟨g,0,none⟩ from rfl,add_lit,Ey] at hx;have b:(l.set k o).length=l.length:=List.length_set;refine Sz (w':=w.setRow g (cur.toList.take (k * L.m+0)++L.V o++cur.toList.drop (k * L.m+0+(L.V o).length)).toArray) (λρ hρ=>?_)
   (kk _ g rfl (E6.setRow _ _ _) (.inr ⟨g,c,_,by rw [b],hB,setRow_heap w g cur _ e _ hg,by rw [b];exact j,s,?_,?_⟩))
  ·
   cases hq:P.info? t with
   | none=>simp [hq] at hi
   | some i =>
    have hs:i.size=L.m:=by simpa [hq] using hi
    unfold execOp;simp [hρ _ _ hx,hρ _ _ hy,Instr.storeAt,Instr.sureAddr,storeVar,Bq,sizeOf,typeInfo,hq,hs,Value.cells,a,u]
  ·
   simp only [List.size_toArray,A9,AT,B9,Array.length_toList,a]
   omega
  ·
   rw [b,<- KG L l k hk o,Nat.add_zero,a,<- d];rw [List.take_take,Nat.min_eq_left oO];rw [AB,AB,A1R,A1R];simp only [AT,Array.length_toList,a];rw [Nat.min_eq_left oO,List.take_take,Nat.min_eq_right oO,AR (l:=L.V o) oO,List.drop_take]
   congr 3
   omega
theorem Se (L:Fq α) (l:List α) (k i:Nat) (hk:k<l.length) (hi:i<L.m) (o:α) (v:Value) (hv:L.V o=(L.V l[k]).set i v):(L.flat l).set (k * L.m+i) v=L.flat (l.set k o):=by
 have a:=KG L l k hk l[k]
 rw [List.set_getElem_self] at a
 have hl:=L.flat_len l
 have b:k * L.m+L.m<=l.length * L.m:=by rw [<- Nat.succ_mul];exact Cz _ hk
 have ht:((L.flat l).take (k * L.m)).length=k * L.m:=by rw [AT];omega
 have c:=L.len l[k]
 rw [<- KG L l k hk o,hv]
 conv=>lhs;rw [<- a]
 rw [AB,List.set_append_right _ _ oO,ht,Nat.add_sub_cancel_left,List.set_append_left _ _ oO,AB]
theorem A80  {Q:Exit->Fr->World->Prop} {rest:List Oper} {ty:Nat} {t:TypeId} {nn:Nat} {l:List α} (o:α) (k i:Nat)
  (hown:AJ L e B w (.slice p nn c) l) (hk:k<l.length) (hi:i<L.m) (hs:∀ w,(sizeOf t).run P w=.ok 1 w) (hx:D3 f x=some (.pointer (some (((pA p).add (k * L.m)).add i)))) (hy:D3 f y=some v) (h1:v.oneCell'=true) (hv:L.V o=(L.V l[k]).set i v)
  (kk:∀ w1 g,p=some ⟨g,0,none⟩->E6 g w w1->AJ L e B w1 (.slice p nn c) (l.set k o)->WL P n ops Q rest f w1) :
  WL P n ops Q (⟨none,.store t x y,ty,pos,aft,none⟩::rest) f w:=by
 rcases hown with ⟨h1,q⟩ | ⟨g,cap,cur,q,hB,hg,d,u,A,b⟩
 · rw [q] at hk;simp only [Ag] at hk;omega
 ·
  cases q;have D:k * L.m+L.m<=l.length * L.m:=by rw [<- Nat.succ_mul];exact Cz _ hk
  have E:l.length * L.m<=c * L.m:=Cz _ d;have j:=run_storeCells_at P g (k * L.m+i) e [v] 0 cur w hg oE (by simpa using h1);rw [show pA (some (⟨g,0,none⟩:Addr))=⟨g,0,none⟩ from rfl,add_lit,add_lit,Ey] at hx;have a:(l.set k o).length=l.length:=List.length_set;have C:v.cells=#[v]:=by cases v <;> first | rfl | cases h1
  have s:cur.toList.take (k * L.m+i+0)++[v]++cur.toList.drop (k * L.m+i+0 + [v].length)=cur.toList.set (k * L.m+i) v:=by
   rw [List.set_eq_take_append_cons_drop,A7 (by rw [Array.length_toList];omega)]
   simp
  rw [s] at j;refine Sz (w':=w.setRow g (cur.toList.set (k * L.m+i) v).toArray) (λρ hρ=>?_)
   (kk _ g rfl (E6.setRow _ _ _) (.inr ⟨g,c,_,by rw [a],hB,setRow_heap w g cur _ e _ hg,by rw [a];exact d,u,?_,?_⟩))
  · unfold execOp;simp [hρ _ _ hx,hρ _ _ hy,Instr.storeAt,Instr.sureAddr,storeVar,Bq,hs,C,j]
  · simpa using A
  · rw [a,<- Se L l k i hk hi o v hv,<- b,List.take_set]
theorem A15 (L:Fq α) (o:α) (cs:Array Value) (hc:cs.toList=L.V o) (j:Nat):(madeCells cs (j * L.m)).toList=L.flat (List.replicate j o):=by
 have c:cs.size=L.m:=by rw [<- Array.length_toList,hc,L.len]
 refine List.ext_getElem? λq=>?_
 have a:=L.pos
 rcases BL q (j * L.m) with hq | hq
 ·
  have d:q / L.m<j:=(Nat.div_lt_iff_lt_mul a).2 hq
  have b:q % L.m<L.m:=Nat.mod_lt _ a
  have e:=L.flat_at (List.replicate j o) (q / L.m) (by simpa using d) (q % L.m) b
  rw [Nat.mul_comm,Nat.div_add_mod] at e
  rw [e,List.getElem_replicate,<- hc]
  simp [madeCells,hq,c,b]
 · rw [AO (by simp [madeCells];exact hq),AO (by rw [L.flat_len,I5];exact hq)]
theorem A86  {Q:Exit->Fr->World->Prop} {rest:List Oper} {ty:Nat} {t:TypeId} {z:Value} {kl kc:IntKind} (o:α) (j:Nat)
  (ht:P.underlying t=some (.slice e)) (hi:(P.info? e).map (λi=>(i.zero,i.size,i.bytes))=some (some z,L.m,by')) (hby2:Nat.ble by' 1000=true) (hz:z.cells.toList=L.V o)
  (hx:D3 f x=some (.int kl j)) (hy:D3 f y=some (.int kc j)) (hj:j<=10000) (hm:L.m<=1000) (hd:Nat.blt d n.n=true)
  (k:∀ w1,AJ L e w.heap.size w1 (.slice (some ⟨w.heap.size,0,none⟩) j j) (List.replicate j o)->AD w w1->WL P n ops Q rest ((d,.slice (some ⟨w.heap.size,0,none⟩) j j)::f) w1) :
  WL P n ops Q (⟨some d,.makeSlice t x y,ty,pos,aft,none⟩::rest) f w:=by
 cases hh:P.info? e with
 | none=>rw [hh] at hi;cases hi
 | some i =>
  rw [hh] at hi;simp only [Option.map_some,Br,CR] at hi;obtain ⟨c,a,g⟩:=hi;have b:i.bytes<=1000:=by rw [g];simpa using hby2
  have hb1:i.bytes * j<=1000 * j:=Cz _ b;have v:j * L.m<=j * 1000:=Nat.mul_le_mul_left _ hm;obtain ⟨w',s,l,u⟩:=run_makeSlice_full (P:=P) (w:=w) w.heap.size t e i z L.m ht hh c a kl kc j oO oO (by unfold maxLen;omega) (FQ _);rw [A15 L o z.cells hz j] at l;have q:AJ L e w.heap.size w' (.slice (some ⟨w.heap.size,0,none⟩) j j) (List.replicate j o):=AJ.of (by rw [I5];exact l);refine WL.run hd (λρ hρ=>?_) (k w' q ((Nh _ _).grown u (FQ _) λk hk=>by cases hk));unfold execOp;simp [hρ _ _ hx,hρ _ _ hy,s]
end
theorem AJ.rowp  {L:Fq α} {n:Nat} {l:List α} (h:AJ L e B w (.slice p n c) l):Bi L w p l:=by
 obtain ⟨p',c',hv,hr,-⟩:=h.row
 cases hv
 exact hr
end
section
inductive PV where
 | mk (kind n:Int) (text:l8_) (keys:List (l8_)) (list:List PV)
structure PC where
 kind:Int
 n:Int
 text:l8_
 kp:Option Addr
 kl:Nat
 kc:Nat
 lp:Option Addr
 ll:Nat
 lc:Nat
def pcV (x:PC):List Value:=[Ah x.kind,Ah x.n,.string (bs x.text),.slice x.kp x.kl x.kc,.slice x.lp x.ll x.lc,.slice none 0 0]
def NF:Fq PC:=⟨6,pcV,dD,λ_=>rfl,λx u hu=>At.1 (show (pcV x).all Value.oneCell'=true from rfl) u hu⟩
def M3 (k n:Int) (s:l8_):PC:=⟨k,n,s,none,0,0,none,0,0⟩
def K8 (k n:Int) (s:l8_):PV:=.mk k n s [] []
def A2m:Fq (l8_):=⟨1,λs=>[.string (bs s)],dD,λ_=>rfl,λx u hu=>by simp only [Ao] at hu;subst hu;rfl⟩
theorem Bi.lit  {V:Fq α} {b:Nat} {cs:Array Value} {t:TypeId} {l:List α} (h:Be w b cs t) (e:cs=(V.flat l).toArray):Bi V w (some ⟨b,0,none⟩) l:=by
 subst e
 refine Gl (λ_=>rfl) λk v hk=>?_
 show w.cell? ((⟨b,0,none⟩:Addr).add k)=_
 rw [add_lit,Ey,h.cell k]
 simpa using hk
theorem Bi.strs {w:World} {p:Option Addr} {l:List (l8_)} (h:Bi A2m w p l):AZ VB w p l:=⟨h.isp,λj hj=>by
 have:=h.cells j hj 0 dD
 rw [show j * A2m.m+0=j by show j * 1+0=j;omega] at this
 exact this⟩
def SC (S:Nat->Prop) (w:World) (v:Value) (l:List (l8_)):Prop:=AJ A2m 9 0 w v l/\∀ g,v.ownBlock=some g->S g
def Xl (S:Nat->Prop) (w:World) (v:Value) (cs:List PC):Prop:=AJ NF 99 0 w v cs/\∀ g,v.ownBlock=some g->S g
inductive Dv (w:World) (S:Nat->Prop):PC->PV->Prop
 | mk (x:PC) (keys:List (l8_)) (list:List PV) (cs:List PC) (hk:SC S w (.slice x.kp x.kl x.kc) keys) (hr:Xl S w (.slice x.lp x.ll x.lc) cs) (hlen:cs.length=list.length)
   (hsub:∀ i (h:i<cs.length) (h2:i<list.length),Dv w S cs[i] list[i]):Dv w S x (.mk x.kind x.n x.text keys list)
theorem Dv.zero (w:World) (S:Nat->Prop) (k n:Int) (s:l8_):Dv w S (M3 k n s) (K8 k n s) :=
 Dv.mk (M3 k n s) [] [] [] ⟨AJ.nil _ _ _ _,λg h=>by cases h⟩ ⟨AJ.nil _ _ _ _,λg h=>by cases h⟩ rfl λi h=>by simp at h
theorem SC.same {S:Nat->Prop} {l:List (l8_)} (h:SC S w v l) (hb:∀ k,S k->k<w.heap.size->w1.heap[k]?=w.heap[k]?):SC S w1 v l :=
 ⟨h.1.same λg hg=>hb g (h.2 g hg) (h.1.lt g hg).2,h.2⟩
theorem Xl.same {S:Nat->Prop} {l:List PC} (h:Xl S w v l) (hb:∀ k,S k->k<w.heap.size->w1.heap[k]?=w.heap[k]?):Xl S w1 v l :=
 ⟨h.1.same λg hg=>hb g (h.2 g hg) (h.1.lt g hg).2,h.2⟩
theorem Dv.same {S:Nat->Prop} {x:PC} {o:PV} (h:Dv w S x o) (hb:∀ k,S k->k<w.heap.size->w1.heap[k]?=w.heap[k]?):Dv w1 S x o:=by
 induction h with
 | mk x keys list cs hk hr hlen _ ih=>exact .mk x keys list cs (hk.same hb) (hr.same hb) hlen ih
theorem Dv.mono  {S:Nat->Prop} {x:PC} {o:PV} (h:Dv w S x o) (hST:∀ k,S k->k<w.heap.size->T k):Dv w T x o:=by
 induction h with
 | mk x keys list cs hk hr hlen _ ih=>exact .mk x keys list cs ⟨hk.1,λg hg=>hST g (hk.2 g hg) (hk.1.lt g hg).2⟩ ⟨hr.1,λg hg=>hST g (hr.2 g hg) (hr.1.lt g hg).2⟩ hlen ih
end
section
def ND:PV->Int | .mk k _ _ _ _=>k
def Xs:PV->Int | .mk _ n _ _ _=>n
def TI:PV->l8_ | .mk _ _ t _ _=>t
def NC:PV->List PV | .mk _ _ _ _ l=>l
def IA (n:Int):Int × Int:=if n < -32768\/32767<n then (0,11) else (n * 65536,0)
def EE (o:PV):Int × Bool:=if ND o=3 then (Xs o,Am (Xs o)) else if ND o=2 then ((IA (Xs o)).1,decide ((IA (Xs o)).2=0)) else (0,false)
structure D2 where
 list:List Cm
 start:BH
 now:BH
def FH:BH:=⟨0,0⟩
def GI (k:Int) (a:BH):Cm:=⟨k,a,FH,FH⟩
def HL (l:List Cm):Int:=match l.getLast? with | none=>0 | some s=>s.fKind
def Gt (m:Int) (p:D2) (q:BH) (l:List Cm):D2 × Int:=if m<(p.list.length:Int)+(l.length:Int) then (p,9) else (⟨p.list++l,p.start,q⟩,0)
def GV (m:Int) (p:D2) (a:BH):D2 × Int :=
 if BP a=false then (p,11) else if HL p.list=1 then (⟨p.list.dropLast++[GI 1 a],a,a⟩,0)
 else (if (Gt m p a [GI 1 a]).2=0 then { (Gt m p a [GI 1 a]).1 with start:=a } else (Gt m p a [GI 1 a]).1,(Gt m p a [GI 1 a]).2)
def FI (m:Int) (p:D2) (s:Cm) (q:BH):D2 × Int :=
 if HL p.list=0 then (p,10) else if HL p.list=4 then Gt m p q [GI 1 p.now,s] else Gt m p q [s]
def Fu (m:Int) (p:D2) (a:BH):D2 × Int:=if BP a=false then (p,11) else FI m p (GI 2 a) a
def If (m:Int) (p:D2) (a b c:BH):D2 × Int:=if (BP a && BP b && BP c)=false then (p,11) else FI m p ⟨3,a,b,c⟩ c
def GA (m:Int) (p:D2):D2 × Int:=if HL p.list=0\/HL p.list=4 then (p,0) else Gt m p p.start [GI 4 FH]
def Ie:D2:=⟨[],FH,FH⟩
structure SB where
 ctm:M6
 fill:Cj
 stroke:Cj
 pen:DP
 clips:List Bm
 font:Int
 size:Int
structure Vw where
 s:SB
 saved:List SB
 path:D2
 clip:Int
 inText:Bool
 lost:Bool
 text:M6
 line:M6
 items:List AN
def LU (e:Int):Except Int Unit:=if e=0 then .ok () else .error 22
def CS (b:Bool):Except Int Unit:=if b=true then .ok () else .error 22
def HG (b:Bool):Except Int Unit:=if b=true then .ok () else .error 25
def Dt (args:List PV) (n:Nat):Except Int (List Int):=if args.length=n/\args.all (λo=>(EE o).2)=true then .ok (args.map λo=>(EE o).1) else .error 22
def Jk (args:List PV):Except Int Int:=match args with
 | [o]=>if ND o=2/\0<=Xs o/\Xs o<=2 then .ok (Xs o) else .error 22
 | _=>.error 22
def m6L:List Int->M6
 | [a,b,c,d,e,f]=>⟨a,b,c,d,e,f⟩
 | _=>Xu
def RU (args:List PV):Except Int M6:=(Dt args 6).map m6L
def LF (a b:M6):Except Int M6:=if (Di a b).2=0 then .ok (Di a b).1 else .error 22
def NO (m:M6) (x y:Int):Except Int BH:=if (Gk m x y).2=0 then .ok ⟨(Gk m x y).1.1,(Gk m x y).1.2⟩ else .error 22
def Dx (m:M6):List Int->Except Int (List BH)
 | x::y::r=>do let p <- NO m x y;let q <- Dx m r;return p::q
 | _=>.ok []
def Dg (p:D2 × Int):Except Int D2:=if p.2=0 then .ok p.1 else if p.2=9 then .error 25 else .error 22
def J7 (a b:Int):Except Int Int:=if (LI a b).2=0 then .ok (LI a b).1 else .error 22
def FM (x:DP):DP:={ x with pfDash:=none,cfDash:=0 }
def FL (x:Bm):Bm:={ x with pfPath:=none,cfPath:=0 }
def JA (x:AN):AN:={ x with pfPath:=none,cfPath:=0,pfClips:=none,cfClips:=0,fClips:=x.fClips.map FL,fPen:=FM x.fPen,pfBytes:=none,cfBytes:=0 }
def K9:DP:=⟨0,0,0,0,none,[],0,0⟩
def MC (n:Int):Cj:=⟨n,0,0,0,0⟩
def FJ (kind:Int) (path:List Cm) (color:Cj) (pen:DP) (clips:List Bm):AN:=⟨kind,none,path,0,color,none,clips,0,pen,0,0,0,0,0,0,0,none,[],0⟩
def Il (color:Cj) (clips:List Bm) (font:Int) (m:M6) (b:l8_):AN:=⟨4,none,[],0,color,none,clips,0,K9,font,m.a,m.b,m.c,m.d,m.e,m.f,none,b,0⟩
def FG (v:Vw) (it:AN):Except Int Vw:=do
 HG (decide (v.items.length<4096))
 return { v with items:=v.items++[it] }
def Og:List Int->Int->Int->Int
 | [],_,r=>r
 | b::l,n,r=>Og l n (if (r+b) * (r+b)<=n then r+b else r)
def Fc:List Int:=[16777216,8388608,4194304,2097152,1048576,524288,262144,131072,65536,32768,16384,8192,4096,2048,1024,512,256,128,64,32,16,8,4,2,1]
def VD (a:Int):Int:=let r:=Og Fc (a * 65536) 0;if a * 65536-r * r > r then r+1 else r
def Me (a:Int):Int × Int:=if (Am a && decide (0<=a))=true then (VD a,0) else (0,11)
def Sl (m:M6):Int × Int :=
 let s:=J2 (FN m.a m.d).1 (FN m.b m.c).1
 (s.1,EV (EV (FN m.a m.d).2 (FN m.b m.c).2) s.2)
def IH (m:M6):Int × Int :=
 let d:=Sl m
 let d2:=if d.1<0 then ((J2 0 d.1).1,EV d.2 (J2 0 d.1).2) else d
 let n:=Me (max d2.1 0)
 let e:=EV d2.2 n.2
 if e≠0 then (0,e) else (n.1,0)
def GP (by_ n:Int):Except Int Int:=if (FN n by_).2=0 then .ok (FN n by_).1 else .error 22
def HU (by_:Int):List Int->Except Int (List Int)
 | []=>.ok []
 | n::r=>do let x <- GP by_ n;let l <- HU by_ r;return x::l
def G6 (l:List Int):Int:=l.foldl (· + ·) 0
def Lr (m:M6):Except Int Int:=if (IH m).2=0 then .ok (IH m).1 else .error 22
def Ia (s:SB):Except Int DP:=do
 let by_ <- Lr s.ctm
 let w <- GP by_ s.pen.fWidth
 let ph <- GP by_ s.pen.fPhase
 let d <- HU by_ s.pen.fDash
 return if G6 d=0/\d.length > 0 then { s.pen with fWidth:=w,fPhase:=0,pfDash:=none,fDash:=[],cfDash:=0 } else { s.pen with fWidth:=w,fPhase:=ph,pfDash:=none,fDash:=d,cfDash:=0 }
def Mx (v:Vw) (fill:Int):Except Int Vw:=if v.path.list.length > 0/\fill > 0 then FG v (FJ fill v.path.list v.s.fill K9 v.s.clips) else .ok v
def JF (v v1:Vw) (stroke:Bool):Except Int Vw:=if v.path.list.length > 0/\stroke=true then (do let p <- Ia v.s;FG v1 (FJ 3 v.path.list v.s.stroke p v.s.clips)) else .ok v1
def FZ (v:Vw):Except Int (List Bm):=if v.clip > 0 then (do
   CS (decide (v.path.list.length > 0))
   HG (decide (v.s.clips.length<16))
   return v.s.clips++[(⟨none,v.path.list,0,decide (v.clip=2)⟩:Bm)])
  else .ok v.s.clips
def DY (v:Vw) (fill:Int) (stroke:Bool):Except Int Vw:=do
 let v1 <- Mx v fill
 let v2 <- JF v v1 stroke
 let cl <- FZ v
 return { v2 with s:={ v.s with clips:=cl },clip:=0,path:=Ie }
def NZ (v:Vw):Except Int Vw:=do let p <- Dg (GA 4096 v.path);return { v with path:=p }
def IY (v:Vw) (op:l8_):Except Int Vw:=if op=[115]\/op=[98]\/op=[98,42] then NZ v else .ok v
def Jo (v:Vw) (args:List PV) (op:l8_):Except Int Vw:=do
 let _ <- Dt args 0
 let v1 <- IY v op
 if op=[83]\/op=[115] then DY v1 0 true
 else if op=[102]\/op=[70] then DY v1 1 false
 else if op=[102,42] then DY v1 2 false
 else if op=[66]\/op=[98] then DY v1 1 true
 else if op=[66,42]\/op=[98,42] then DY v1 2 true
 else DY v1 0 false
def DF (x:Int):Int:=min (max x 0) 65536
def ES (args:List PV) (n:Nat):Except Int Cj:=do
 let l <- Dt args n
 return ⟨n,DF (l.getD 0 0),DF (l.getD 1 0),DF (l.getD 2 0),DF (l.getD 3 0)⟩
def Et (v:Vw) (args:List PV) (op:l8_):Except Int Vw :=
 if op=[103] then do let c <- ES args 1;return { v with s:={ v.s with fill:=c } }
 else if op=[114,103] then do let c <- ES args 3;return { v with s:={ v.s with fill:=c } }
 else if op=[107] then do let c <- ES args 4;return { v with s:={ v.s with fill:=c } }
 else if op=[71] then do let c <- ES args 1;return { v with s:={ v.s with stroke:=c } }
 else if op=[82,71] then do let c <- ES args 3;return { v with s:={ v.s with stroke:=c } }
 else do let c <- ES args 4;return { v with s:={ v.s with stroke:=c } }
def Qp:List PV->Except Int (List Int)
 | []=>.ok []
 | o::r=>do CS ((EE o).2 && decide ((EE o).1 ≥ 0));let l <- Qp r;return (EE o).1::l
def OT (v:Vw) (args:List PV):Except Int Vw:=match args with
 | [a,b]=>do
  CS (decide (ND a=6))
  CS ((EE b).2 && decide ((EE b).1 ≥ 0))
  let l <- Qp (NC a)
  CS (decide (l.length<=11) && (decide (l.length=0) || decide (G6 l > 0)))
  return { v with s:={ v.s with pen:={ v.s.pen with pfDash:=none,fDash:=l,cfDash:=0,fPhase:=(EE b).1 } } }
 | _=>.error 22
def I0 (v:Vw) (args:List PV) (op:l8_):Except Int Vw :=
 if op=[119] then do let l <- Dt args 1;CS (decide (l.getD 0 0 ≥ 0));return { v with s:={ v.s with pen:={ v.s.pen with fWidth:=l.getD 0 0 } } }
 else if op=[74] then do let n <- Jk args;return { v with s:={ v.s with pen:={ v.s.pen with fCap:=n } } }
 else if op=[106] then do let n <- Jk args;return { v with s:={ v.s with pen:={ v.s.pen with fJoin:=n } } }
 else if op=[77] then do let l <- Dt args 1;CS (decide (l.getD 0 0 ≥ 65536));return { v with s:={ v.s with pen:={ v.s.pen with fMiter:=l.getD 0 0 } } }
 else OT v args
def FO (v:Vw) (args:List PV) (op:l8_):Except Int Vw :=
 if op=[113] then do let _ <- Dt args 0;HG (decide (v.saved.length<32));return { v with saved:=v.s::v.saved }
 else if op=[81] then do
  let _ <- Dt args 0
  match v.saved with
  | []=>.error 22
  | s::r=>return { v with s:=s,saved:=r }
 else do let m <- RU args;let c <- LF m v.s.ctm;return { v with s:={ v.s with ctm:=c } }
def KB (v:Vw) (p:D2):Vw:={ v with path:=p }
def FY (v:Vw) (args:List PV) (op:l8_):Except Int Vw :=
 if op=[109] then do let l <- Dx v.s.ctm (<- Dt args 2);return KB v (<- Dg (GV 4096 v.path (l.getD 0 FH)))
 else if op=[108] then do let l <- Dx v.s.ctm (<- Dt args 2);return KB v (<- Dg (Fu 4096 v.path (l.getD 0 FH)))
 else if op=[99] then do let l <- Dx v.s.ctm (<- Dt args 6);return KB v (<- Dg (If 4096 v.path (l.getD 0 FH) (l.getD 1 FH) (l.getD 2 FH)))
 else if op=[118] then do let l <- Dx v.s.ctm (<- Dt args 4);CS (decide (v.path.list.length≠0));return KB v (<- Dg (If 4096 v.path v.path.now (l.getD 0 FH) (l.getD 1 FH)))
 else if op=[121] then do let l <- Dx v.s.ctm (<- Dt args 4);return KB v (<- Dg (If 4096 v.path (l.getD 0 FH) (l.getD 1 FH) (l.getD 1 FH)))
 else if op=[104] then do let _ <- Dt args 0;NZ v
 else do
  let n <- Dt args 4
  let x <- J7 (n.getD 0 0) (n.getD 2 0)
  let y <- J7 (n.getD 1 0) (n.getD 3 0)
  let l <- Dx v.s.ctm [n.getD 0 0,n.getD 1 0,x,n.getD 1 0,x,y,n.getD 0 0,y]
  let p0 <- Dg (GV 4096 v.path (l.getD 0 FH))
  let p1 <- Dg (Fu 4096 p0 (l.getD 1 FH))
  let p2 <- Dg (Fu 4096 p1 (l.getD 2 FH))
  let p3 <- Dg (Fu 4096 p2 (l.getD 3 FH))
  return KB v (<- Dg (GA 4096 p3))
structure LO where
 name:l8_
 font:Int
def IZ (fs:List LO) (v:Vw) (args:List PV):Except Int Vw:=match args with
 | [a,b]=>do
  CS (decide (ND a=4))
  CS (EE b).2
  match fs.find? (λf=>decide (f.name=TI a)) with
  | none=>.error 26
  | some f=>return { v with s:={ v.s with font:=f.font,size:=(EE b).1 } }
 | _=>.error 22
def L5 (sum:Int->l8_->Int) (v:Vw) (b:l8_):M6 × Bool :=
 let n:=sum v.s.font b * 65536
 let w:=if 2 * (n % 1000) ≥ 1000 then n / 1000+1 else n / 1000
 let t:=Di (It (FN w v.s.size).1 0) v.text
 (t.1,!(decide ((FN w v.s.size).2=0) && decide (t.2=0)))
def PR (sum:Int->l8_->Int) (v:Vw) (b:l8_):Except Int Vw:=do
 let m1 <- LF (m6S v.s.size v.s.size) v.text
 let m <- LF m1 v.s.ctm
 let v1 <- FG v (Il v.s.fill v.s.clips v.s.font m b)
 return { v1 with lost:=(L5 sum v b).2,text:=(L5 sum v b).1 }
def FX (sum:Int->l8_->Int) (v:Vw) (args:List PV):Except Int Vw:=match args with
 | [a]=>do
  CS (decide (ND a=5) && decide (v.s.font ≥ 0) && !v.lost)
  if TI a=[] then .ok v else PR sum v (TI a)
 | _=>.error 22
def JR (sum:Int->l8_->Int) (fs:List LO) (v:Vw) (args:List PV) (op:l8_):Except Int Vw:=do
 CS (decide (v.inText=true↔op≠[66,84]))
 if op=[66,84] then do let _ <- Dt args 0;return { v with inText:=true,lost:=false,text:=O3,line:=O3 }
 else if op=[69,84] then do let _ <- Dt args 0;return { v with inText:=false }
 else if op=[84,102] then IZ fs v args
 else if op=[84,109] then do let m <- RU args;return { v with line:=m,text:=m,lost:=false }
 else if op=[84,100] then do let n <- Dt args 2;let m <- LF (It (n.getD 0 0) (n.getD 1 0)) v.line;return { v with line:=m,text:=m,lost:=false }
 else FX sum v args
def GU:List (l8_):=[[119],[74],[106],[77],[100]]
def GY:List (l8_):=[[103],[114,103],[107],[71],[82,71],[75]]
def Hl:List (l8_):=[[66,84],[69,84],[84,102],[84,109],[84,100],[84,106]]
def Fn:List (l8_):=[[113],[81],[99,109],[109],[108],[99],[118],[121],[104],[114,101],[83],[115],[102],[70],[102,42],[66],[66,42],[98],[98,42],[110],[87],[87,42]]
def KK (sum:Int->l8_->Int) (fs:List LO) (v:Vw) (args:List PV) (op:l8_):Except Int Vw :=
 if op∈GU then I0 v args op else if op∈GY then Et v args op else if op∈Hl then JR sum fs v args op
 else if op ∉ Fn then .error 23
 else do
  CS (!v.inText)
  if Fn.idxOf op<3 then FO v args op
  else if Fn.idxOf op<10 then FY v args op
  else if op=[87]\/op=[87,42] then do let _ <- Dt args 0;return { v with clip:=op.length }
  else Jo v args op
end
section
theorem Cd  {x:Except Int α} {f:α->Except Int β} {b:β} (h:(x>>=f)=.ok b):∃ a,x=.ok a/\f a=.ok b:=by
 cases x with
 | error k=>cases h
 | ok a=>exact ⟨a,rfl,h⟩
theorem Fe  {a b:α} (h:(pure a:Except Int α)=.ok b):a=b:=by cases h;rfl
structure Ix (p:D2):Prop where
 snd:DE 0 p.list=true
 len:p.list.length<=4096
 start:BP p.start=true
 now:BP p.now=true
def OH (k:Int) (l:List Cm):Int:=match l.getLast? with | none=>k | some s=>s.fKind
theorem Yq (k:Int) (s:Cm) (l:List Cm):OH k (s::l)=OH s.fKind l:=by
 unfold OH
 cases l with
 | nil=>rfl
 | cons a r=>rw [List.getLast?_cons_cons];cases h:(a::r).getLast? with
  | none=>simp at h
  | some x=>rfl
theorem Ge (s:Cm):∀ (l:List Cm) (k:Int),DE k (l++[s])=(DE k l && HV s (OH k l))
 | [],k=>by show (HV s k && true)=(true && HV s k);simp
 | a::r,k=>by
  rw [G5]
  show (HV a k && DE a.fKind (r++[s]))=((HV a k && DE a.fKind r) && HV s (OH k (a::r)))
  rw [Ge s r,Yq,Bool.and_assoc]
theorem QK (l:List Cm):OH 0 l=HL l:=rfl
theorem XN {a:BH} {k:Int} (h:BP a=true) (hk:k≠1):HV (GI 1 a) k=true:=by
 unfold HV GI
 simp only [show Hn 1=1 from rfl,ON,A7,h,B8,List.all_nil,Int.toNat_one,List.drop_succ_cons,Nt]
 simp [hk,FH,BP,Am,Hu]
theorem A78 {a:BH} {k:Int} (h:BP a=true) (h0:k≠0) (h4:k≠4):HV (GI 2 a) k=true:=by
 unfold HV GI
 simp only [show Hn 2=1 from rfl,ON,h,B8,List.all_nil,Int.toNat_one,List.drop_succ_cons,Nt]
 simp [h0,h4,FH,BP,Am,Hu]
theorem A77 {a b c:BH} {k:Int} (h:(BP a && BP b && BP c)=true) (h0:k≠0) (h4:k≠4):HV ⟨3,a,b,c⟩ k=true:=by
 simp only [A4] at h
 unfold HV
 simp only [show Hn 3=3 from rfl,ON,h.1.1,h.1.2,h.2,B8,List.all_nil]
 simp [h0,h4]
theorem A76 {k:Int} (h0:k≠0) (h4:k≠4):HV (GI 4 FH) k=true:=by
 unfold HV GI
 simp only [show Hn 4=0 from rfl,ON,B8,List.all_nil]
 simp [h0,h4,FH,BP,Am,Hu]
theorem Ix.add {p:D2} {q:BH} {l:List Cm} (h:Ix p) (hq:BP q=true) (hl:DE 0 (p.list++l)=true):Ix (Gt 4096 p q l).1:=by
 unfold Gt;split
 · exact h
 · exact ⟨hl,by rw [A9];omega,h.start,hq⟩
theorem Ix.draw {p:D2} {s:Cm} {q:BH} (h:Ix p) (hq:BP q=true) (hs:∀ k,k≠0->k≠4->HV s k=true):Ix (FI 4096 p s q).1:=by
 unfold FI
 split
 · exact h
 ·
  split
  ·
   rename_i h4
   refine h.add hq ?_
   rw [show p.list++[GI 1 p.now,s]=(p.list++[GI 1 p.now])++[s] by simp,Ge,Ge,h.snd,QK,XN h.now (by rw [h4];decide)]
   rw [show OH 0 (p.list++[GI 1 p.now])=1 by unfold OH;rw [List.getLast?_concat];rfl,hs 1 dD dD];rfl
  ·
   refine h.add hq ?_
   rw [Ge,h.snd,QK,hs _ aS aS];rfl
theorem XM (l:List Cm) (k:Int) (h:DE k l=true):DE k l.dropLast=true:=by
 rcases List.eq_nil_or_concat l with rfl | ⟨m,y,rfl⟩
 · rfl
 ·
  rw [List.concat_eq_append] at h ⊢
  rw [List.dropLast_concat]
  rw [Ge,A4] at h;exact h.1
theorem WF (l:List Cm) (h:DE 0 l=true) (h1:HL l=1):OH 0 l.dropLast≠1:=by
 rcases List.eq_nil_or_concat l with rfl | ⟨m,y,rfl⟩
 · cases h1
 ·
  rw [List.concat_eq_append] at h h1 ⊢
  rw [List.dropLast_concat]
  rw [Ge,A4] at h
  have hy:y.fKind=1:=by unfold HL at h1;rw [List.getLast?_concat] at h1;exact h1
  intro hc
  have:=h.2
  unfold HV at this
  rw [hc,hy] at this
  simp [ON] at this
theorem Ix.move {p:D2} {a:BH} (h:Ix p):Ix (GV 4096 p a).1:=by
 unfold GV
 split
 · exact h
 ·
  rename_i hf
  have hf:BP a=true:=by simpa using hf
  split
  ·
   rename_i h1
   refine ⟨?_,by simp only [A9,List.length_dropLast,Ck];have:=h.len;omega,hf,hf⟩
   show DE 0 (p.list.dropLast++[GI 1 a])=true
   rw [Ge,XM _ _ h.snd,XN hf (WF _ h.snd h1)];rfl
  ·
   rename_i h1
   have hA:=h.add (q:=a) (l:=[GI 1 a]) hf (by rw [Ge,h.snd,QK,XN hf h1];rfl)
   simp only
   split
   · exact ⟨hA.snd,hA.len,hf,hA.now⟩
   · exact hA
theorem Ix.line {p:D2} {a:BH} (h:Ix p):Ix (Fu 4096 p a).1:=by
 unfold Fu
 split
 · exact h
 ·
  rename_i hf
  have hf:BP a=true:=by simpa using hf
  exact h.draw hf λk b c=>A78 hf b c
theorem Ix.curve {p:D2} {a b c:BH} (h:Ix p):Ix (If 4096 p a b c).1:=by
 unfold If
 split
 · exact h
 ·
  rename_i hf
  have hf:(BP a && BP b && BP c)=true:=by
   cases hq:(BP a && BP b && BP c) with
   | true=>rfl
   | false=>exact D6 hq hf
  have hc:BP c=true:=by simp only [A4] at hf;exact hf.2
  exact h.draw hc λk d e=>A77 hf d e
theorem Ix.close {p:D2} (h:Ix p):Ix (GA 4096 p).1:=by
 unfold GA
 split
 · exact h
 ·
  rename_i h0
  refine h.add h.start ?_
  rw [Ge,h.snd,QK,A76 (λe=>h0 (.inl e)) (λe=>h0 (.inr e))];rfl
theorem Ix.zero:Ix Ie:=⟨rfl,G8 _,dD,dD⟩
theorem GS {r:D2 × Int} {p:D2} (h:Dg r=.ok p):p=r.1:=by
 unfold Dg at h
 split at h
 · cases h;rfl
 · split at h <;> cases h
theorem Yx {n:Int} (h:(IA n).2=0):Am (IA n).1=true:=by
 unfold IA at h ⊢
 split at h
 · cases h
 · rename_i h1;rw [A2 h1];exact A3H (by simp only;omega) (by simp only;omega)
theorem MY {o:PV} (h:(EE o).2=true):Am (EE o).1=true:=by
 unfold EE at h ⊢
 split at h
 · rename_i h3;rw [A7 h3];exact h
 ·
  rename_i h3
  rw [A2 h3]
  split at h
  · rename_i h2;rw [A7 h2];exact Yx (by simpa using h)
  · cases h
theorem FB {args:List PV} {n:Nat} {l:List Int} (h:Dt args n=.ok l):l.length=n/\∀ x∈l,Am x=true:=by
 unfold Dt at h
 split at h
 ·
  rename_i hc
  cases h
  refine ⟨by rw [B0];exact hc.1,λx hx=>?_⟩
  obtain ⟨o,ho,rfl⟩:=FR.1 hx
  exact MY (At.1 hc.2 o ho)
 · cases h
theorem U1 {l:List Int} (h:∀ x∈l,Am x=true) (i:Nat):Am (l.getD i 0)=true:=by
 rw [Cc]
 cases hq:l[i]? with
 | none=>rfl
 | some x=>exact h x (List.mem_of_getElem? hq)
theorem Oo (x:Int):0<=DF x/\DF x<=65536:=by unfold DF;omega
theorem A1j {l:List Int} (h:l.length<=i):l.getD i 0=0:=by
 rw [Cc,AO h];rfl
theorem Ub {args:List PV} {n:Nat} {c:Cj} (h:ES args n=.ok c) (hn:n=1\/n=3\/n=4):Fw c=true:=by
  unfold ES at h
  obtain ⟨l,hl,h⟩:=Cd h
  obtain ⟨k,-⟩:=FB hl
  have h:=Fe h
  subst h
  unfold Fw Jw Jl
  simp only [Cy,B3,HS]
  have a:=Oo (l.getD 0 0);have d:=Oo (l.getD 1 0);have e:=Oo (l.getD 2 0);have f:=Oo (l.getD 3 0)
  have z:∀ i,l.length<=i->DF (l.getD i 0)=0:=λi hi=>by rw [A1j hi];rfl
  have m:1<=l.length:=by omega
  rcases hn with rfl | rfl | rfl
  · have g := z 1 oO; have j := z 2 oO; have b := z 3 oO
    generalize DF (l.getD 0 0)=a0 at *;generalize DF (l.getD 1 0)=a1 at *;generalize DF (l.getD 2 0)=a2 at *;generalize DF (l.getD 3 0)=a3 at *
    subst g j b;simp [a]
  · have b := z 3 oO
    generalize DF (l.getD 0 0)=a0 at *;generalize DF (l.getD 1 0)=a1 at *;generalize DF (l.getD 2 0)=a2 at *;generalize DF (l.getD 3 0)=a3 at *
    subst b;simp [a,d,e]
  · generalize DF (l.getD 0 0) = a0 at *; generalize DF (l.getD 1 0) = a1 at *; generalize DF (l.getD 2 0) = a2 at *; generalize DF (l.getD 3 0) = a3 at *
    simp [a,d,e,f]
structure A4w (s:SB):Prop where
 fill:Fw s.fill=true
 stroke:Fw s.stroke=true
 pen:KT s.pen=true
 clips:ET s.clips=true
 font:-1<=s.font/\s.font<=13
structure EM (v:Vw):Prop where
 s:A4w v.s
 saved:∀ s∈v.saved,A4w s
 path:Ix v.path
 items:∀ it∈v.items,E8 it=true
theorem X3 {a b:M6} (h:(Di a b).2=0):Am (Di a b).1.a=true/\Am (Di a b).1.b=true/\Am (Di a b).1.c=true/\Am (Di a b).1.d=true/\Am (Di a b).1.e=true/\Am (Di a b).1.f=true:=by
 have hp:∀ (e x y:Int),Am x=true->Am y=true->Am (IL e x y).1.1=true/\Am (IL e x y).1.2=true:=λe x y hx hy=>by
  unfold IL;split
  · exact ⟨rfl,rfl⟩
  · exact ⟨hx,hy⟩
 have hd:∀ x y,Am (IM b x y).1.1=true/\Am (IM b x y).1.2=true:=λx y=>hp _ _ _ (ML _ _ _ _ _ _) (ML _ _ _ _ _ _)
 have ha:∀ x y,Am (Gk b x y).1.1=true/\Am (Gk b x y).1.2=true:=λx y=>hp _ _ _ (ML _ _ _ _ _ _) (ML _ _ _ _ _ _)
 unfold Di
 simp only
 split
 · exact ⟨rfl,rfl,rfl,rfl,rfl,rfl⟩
 ·
  split
  · exact ⟨rfl,rfl,rfl,rfl,rfl,rfl⟩
  ·
   split
   · exact ⟨rfl,rfl,rfl,rfl,rfl,rfl⟩
   · exact ⟨(hd _ _).1,(hd _ _).2,(hd _ _).1,(hd _ _).2,(ha _ _).1,(ha _ _).2⟩
theorem A5n {a:Int} (h:0<=a):0<=Ov a 65536:=by
 have b:=Int.tdiv_nonneg h (show (0:Int)<=65536 by decide)
 have c:=Int.tmod_nonneg 65536 h
 unfold Ov
 split
 · omega
 · split <;> omega
theorem UP {a b:Int} (ha:0<=a) (hb:0<=b):0<=(FN a b).1:=by
 unfold FN;split
 ·
  unfold Mb;split
  · exact A5n (Int.mul_nonneg ha hb)
  · exact Int.le_refl _
 · exact Int.le_refl _
theorem Zf:∀ (l:List Int) (n r:Int),0<=r->(∀ b∈l,0<=b)->0<=Og l n r
 | [],_,_,h,_=>h
 | b::l,n,r,h,hl=>by
  rw [Og]
  refine Zf l n _ ?_ λx hx=>hl x (by simp [hx])
  have:=hl b (by simp)
  split <;> omega
theorem A53 (a:Int):0<=VD a:=by
 have:=Zf Fc (a * 65536) 0 (Int.le_refl _) dD
 unfold VD
 simp only
 split <;> omega
theorem A2x (m:M6):0<=(IH m).1:=by
 unfold IH
 simp only
 generalize (if (Sl m).1<0 then ((J2 0 (Sl m).1).1,EV (Sl m).2 (J2 0 (Sl m).1).2) else Sl m)=d
 split
 · exact Int.le_refl _
 ·
  unfold Me;split
  · exact A53 _
  · exact Int.le_refl _
theorem Oa {k n x:Int} (h:GP k n=.ok x):x=(FN n k).1:=by
 unfold GP at h;split at h
 · cases h;rfl
 · cases h
theorem Tt {k:Int} (hk:0<=k):∀ {l m:List Int},HU k l=.ok m->(∀ n∈l,0<=n)->m.length=l.length/\m.all IB=true
 | [],m,h,_=>by cases h;exact ⟨rfl,rfl⟩
 | n::r,m,h,hn=>by
  rw [HU] at h
  obtain ⟨x,hx,h⟩:=Cd h
  obtain ⟨q,hq,h⟩:=Cd h
  have h:=Fe h
  subst h
  have ih:=Tt hk hq λy hy=>hn y (by simp [hy])
  rw [Oa hx]
  refine ⟨by simp [ih.1],?_⟩
  rw [B8,ih.2,Bool.and_true]
  unfold IB
  rw [L4,Bool.and_true]
  exact Al (UP (hn n (by simp)) hk)
theorem HJ (x:DP):KT x=true↔(0<=x.fWidth/\Am x.fWidth=true/\0<=x.fCap/\x.fCap<=2/\0<=x.fJoin/\x.fJoin<=2/\65536<=x.fMiter/\Am x.fMiter=true/\0<=x.fPhase/\Am x.fPhase=true/\x.fDash.length<=11)/\x.fDash.all IB=true/\(x.fDash.isEmpty || x.fDash.any λn=>decide (0<n))=true:=by
 unfold KT KS
 simp only [A4,AP,Ee,Aw,BT]
 constructor
 ·
  rintro ⟨⟨⟨⟨⟨⟨⟨⟨⟨⟨⟨⟨g,d⟩,i⟩,j⟩,k⟩,l⟩,m⟩,e⟩,o⟩,a⟩,f⟩,b⟩,c⟩
  exact ⟨⟨oO,d,oO,oO,oO,oO,oO,e,oO,a,oO⟩,b,c⟩
 ·
  rintro ⟨⟨g,d,i,j,k,l,m,e,o,a,f⟩,b,c⟩
  exact ⟨⟨⟨⟨⟨⟨⟨⟨⟨⟨⟨⟨oO,d⟩,oO⟩,oO⟩,oO⟩,oO⟩,oO⟩,e⟩,oO⟩,a⟩,oO⟩,b⟩,c⟩
theorem RR {b:Bool} {u:Unit} (h:CS b=.ok u):b=true:=by
 unfold CS at h;split at h
 · assumption
 · cases h
theorem A8t {b:Bool} {u:Unit} (h:HG b=.ok u):b=true:=by
 unfold HG at h;split at h
 · assumption
 · cases h
theorem A2l (l:List Int):G6 l=A73 l:=rfl
theorem XS {s:SB} {p:DP} (h:A4w s) (hp:Ia s=.ok p):KT p=true:=by
 unfold Ia at hp
 obtain ⟨k,hk,hp⟩:=Cd hp
 have hk:k=(IH s.ctm).1:=by
  unfold Lr at hk
  split at hk
  · cases hk;rfl
  · cases hk
 have b:0<=k:=hk▸A2x _
 obtain ⟨w,hw,hp⟩:=Cd hp
 obtain ⟨ph,g,hp⟩:=Cd hp
 obtain ⟨d,hd,hp⟩:=Cd hp
 have hp:=Fe hp
 obtain ⟨⟨i,C,j,l,m,o,q,t,x,y,A⟩,u,B⟩:=(HJ _).1 h.pen
 have f:=At.1 u
 obtain ⟨hl,c⟩:=Tt b hd λn hn=>by
  have:=f n hn
  unfold IB at this
  simp only [A4,Ad] at this
  exact this.1
 have v:=Pb d (At.1 c)
 rw [Oa hw,Oa g] at hp
 subst hp
 split
 · exact (HJ _).2 ⟨⟨UP i b,L4 _ _,j,l,m,o,q,t,Int.le_refl _,rfl,G8 _⟩,rfl,rfl⟩
 ·
  rename_i hn
  refine (HJ _).2 ⟨⟨UP i b,L4 _ _,j,l,m,o,q,t,UP x b,L4 _ _,by show d.length<=11;omega⟩,c,?_⟩
  show (d.isEmpty || d.any λn=>decide (0<n))=true
  cases d with
  | nil=>rfl
  | cons a r =>
   have:G6 (a::r)≠0:=λe=>hn ⟨e,by simp⟩
   rw [A2l,VA] at this
   rw [v.2.2.1 oO,Bool.or_true]
theorem Wv {kind:Int} {l:List Cm} {c:Cj} {p:DP} {cl:List Bm} (hk:(kind=1\/kind=2)/\p=K9\/kind=3/\KT p=true) (hc:Fw c=true) (hcl:ET cl=true) (hl:l.length > 0) (hp:DE 0 l=true) (hn:l.length<=4096):E8 (FJ kind l c p cl)=true:=by
 have hr:LS (FJ kind l c p cl)=true:=by
  unfold LS FJ OC EZ
  simp [hp,hn]
  intro h;rw [h] at hl;simp at hl
 unfold E8
 rw [show (FJ kind l c p cl).fColor=c from rfl,show (FJ kind l c p cl).fClips=cl from rfl,show (FJ kind l c p cl).fKind=kind from rfl,show (FJ kind l c p cl).fPen=p from rfl,hc,hcl,hr]
 rcases hk with ⟨hk,rfl⟩ | ⟨rfl,hp⟩
 · rw [A2 oO,A7 hk];rfl
 · rw [A2 oO,A2 oO,A7 rfl,hp];rfl
theorem A2f {c:Cj} {cl:List Bm} {f:Int} {a b:M6} {t:l8_} (he:(Di a b).2=0) (hc:Fw c=true) (hcl:ET cl=true) (hf:0<=f/\f<=13) (ht:1<=t.length/\t.length<=65535):E8 (Il c cl f (Di a b).1 t)=true:=by
 obtain ⟨d,e,g,i,j,k⟩:=X3 he
 unfold E8
 rw [show (Il c cl f (Di a b).1 t).fColor=c from rfl,show (Il c cl f (Di a b).1 t).fClips=cl from rfl,show (Il c cl f (Di a b).1 t).fKind=4 from rfl,hc,hcl,A7 rfl]
 have hl:GW (Il c cl f (Di a b).1 t)=true:=by
  unfold GW Il Ej
  simp [d,e,g,i,j,k,hf]
  omega
 rw [hl];rfl
end
section
theorem Sx {v v1:Vw} {it:AN} (h:EM v) (hi:E8 it=true) (ho:FG v it=.ok v1):EM v1/\v1.s=v.s/\v1.path=v.path:=by
 unfold FG at ho
 obtain ⟨_,-,ho⟩:=Cd ho
 have ho:=Fe ho
 subst ho
 refine ⟨⟨h.s,h.saved,h.path,λx hx=>?_⟩,rfl,rfl⟩
 rcases B4.1 hx with hx | hx
 · exact h.items x hx
 · rw [Ao.1 hx];exact hi
theorem NY {v v1:Vw} (h:EM v) (ho:NZ v=.ok v1):EM v1:=by
 unfold NZ at ho
 obtain ⟨p,hp,ho⟩:=Cd ho
 have ho:=Fe ho
 subst ho
 rw [GS hp]
 exact ⟨h.s,h.saved,h.path.close,h.items⟩
theorem H9 {v v1:Vw} {st:Bool} (h:EM v) (hf:fill=0\/fill=1\/fill=2) (ho:DY v fill st=.ok v1):EM v1:=by
 unfold DY at ho
 obtain ⟨a,ha,ho⟩:=Cd ho
 obtain ⟨b,hb,ho⟩:=Cd ho
 obtain ⟨c,hc,ho⟩:=Cd ho
 have ho:=Fe ho
 have e:EM a/\a.s=v.s:=by
  unfold Mx at ha
  split at ha
  ·
   rename_i hq
   have:=Sx h (Wv (p:=K9) (.inl ⟨oO,rfl⟩) h.s.fill h.s.clips hq.1 h.path.snd h.path.len) ha
   exact ⟨this.1,this.2.1⟩
  · cases ha;exact ⟨h,rfl⟩
 have f:EM b:=by
  unfold JF at hb
  split at hb
  ·
   rename_i hq
   obtain ⟨p,hp,hb⟩:=Cd hb
   exact (Sx e.1 (Wv (.inr ⟨rfl,XS h.s hp⟩) h.s.stroke h.s.clips hq.1 h.path.snd h.path.len) hb).1
  · cases hb;exact e.1
 have i:ET c=true:=by
  unfold FZ at hc
  split at hc
  ·
   obtain ⟨_,hw,hc⟩:=Cd hc
   obtain ⟨_,hr,hc⟩:=Cd hc
   have hc:=Fe hc
   subst hc
   have hw:=dT (RR hw)
   have hr:=dT (A8t hr)
   have d:=h.s.clips
   unfold ET at d ⊢
   simp only [A4,Ad] at d
   rw [List.all_append,d.2,A9,Ck]
   have g:Fo (⟨none,v.path.list,0,decide (v.clip=2)⟩:Bm)=true:=by
    unfold Fo EZ
    rw [h.path.snd,Al h.path.len]
    cases hq:v.path.list with
    | nil=>rw [hq] at hw;simp at hw
    | cons x r=>rfl
   rw [B8,g,List.all_nil]
   simp only [Bool.and_true,Ad]
   omega
  · cases hc;exact h.s.clips
 subst ho
 exact ⟨⟨h.s.fill,h.s.stroke,h.s.pen,i,h.s.font⟩,f.saved,Ix.zero,f.items⟩
theorem Yi {v v1:Vw} {args:List PV} {op:l8_} (h:EM v) (ho:Jo v args op=.ok v1):EM v1:=by
 unfold Jo at ho
 obtain ⟨_,-,ho⟩:=Cd ho
 obtain ⟨a,ha,ho⟩:=Cd ho
 have b:EM a:=by
  unfold IY at ha
  split at ha
  · exact NY h ha
  · cases ha;exact h
 split at ho
 · exact H9 b oO ho
 ·
  split at ho
  · exact H9 b oO ho
  ·
   split at ho
   · exact H9 b oO ho
   ·
    split at ho
    · exact H9 b oO ho
    ·
     split at ho
     · exact H9 b oO ho
     · exact H9 b oO ho
theorem EM.setS {v:Vw} {s:SB} (h:EM v) (hs:A4w s):EM { v with s:=s }:=⟨hs,h.saved,h.path,h.items⟩
theorem X4 {v v1:Vw} {args:List PV} {op:l8_} (h:EM v) (ho:Et v args op=.ok v1):EM v1:=by
 unfold Et at ho
 have hF:∀ {n:Nat},(n=1\/n=3\/n=4)->(do let c <- ES args n;return { v with s:={ v.s with fill:=c } }:Except Int Vw)=.ok v1->EM v1:=λhn ho=>by
  obtain ⟨c,hc,ho⟩:=Cd ho
  have ho:=Fe ho
  subst ho
  exact h.setS ⟨Ub hc hn,h.s.stroke,h.s.pen,h.s.clips,h.s.font⟩
 have hS:∀ {n:Nat},(n=1\/n=3\/n=4)->(do let c <- ES args n;return { v with s:={ v.s with stroke:=c } }:Except Int Vw)=.ok v1->EM v1:=λhn ho=>by
  obtain ⟨c,hc,ho⟩:=Cd ho
  have ho:=Fe ho
  subst ho
  exact h.setS ⟨h.s.fill,Ub hc hn,h.s.pen,h.s.clips,h.s.font⟩
 split at ho
 · exact hF oO ho
 ·
  split at ho
  · exact hF oO ho
  ·
   split at ho
   · exact hF oO ho
   ·
    split at ho
    · exact hS oO ho
    ·
     split at ho
     · exact hS oO ho
     · exact hS oO ho
theorem Zi:∀ {l:List PV} {m:List Int},Qp l=.ok m->m.all IB=true
 | [],m,h=>by cases h;rfl
 | o::r,m,h=>by
  rw [Qp] at h
  obtain ⟨_,hw,h⟩:=Cd h
  obtain ⟨q,hq,h⟩:=Cd h
  have h:=Fe h
  subst h
  have hw:=RR hw
  simp only [A4,Ad] at hw
  rw [B8,Zi hq,Bool.and_true]
  unfold IB
  rw [MY hw.1,Bool.and_true]
  exact Al hw.2
theorem EM.setPen {v:Vw} {p:DP} (h:EM v) (hp:KT p=true):EM { v with s:={ v.s with pen:=p } }:=h.setS ⟨h.s.fill,h.s.stroke,hp,h.s.clips,h.s.font⟩
theorem A1w {v v1:Vw} {args:List PV} (h:EM v) (ho:OT v args=.ok v1):EM v1:=by
 unfold OT at ho
 split at ho
 ·
  obtain ⟨_,-,ho⟩:=Cd ho
  obtain ⟨_,hb,ho⟩:=Cd ho
  obtain ⟨l,hl,ho⟩:=Cd ho
  obtain ⟨_,hs,ho⟩:=Cd ho
  have ho:=Fe ho
  subst ho
  have hb:=RR hb
  have hs:=RR hs
  simp only [A4,BC,Ad] at hb hs
  have hd:=Zi hl
  have b:=Pb l (At.1 hd)
  obtain ⟨⟨c,d,e,f,g,i,j,k,-,-,-⟩,-,-⟩:=(HJ _).1 h.s.pen
  refine h.setPen ((HJ _).2 ⟨⟨c,d,e,f,g,i,j,k,hb.2,MY hb.1,hs.1⟩,hd,?_⟩)
  show (l.isEmpty || l.any λn=>decide (0<n))=true
  rcases hs.2 with a | a
  · rw [CM a];rfl
  ·
   rw [A2l,VA] at a
   rw [b.2.2.1 oO,Bool.or_true]
 · cases ho
theorem To {args:List PV} {n:Int} (h:Jk args=.ok n):0<=n/\n<=2:=by
 unfold Jk at h
 split at h
 ·
  split at h
  · rename_i hq;cases h;exact hq.2
  · cases h
 · cases h
theorem A0N {v v1:Vw} {args:List PV} {op:l8_} (h:EM v) (ho:I0 v args op=.ok v1):EM v1:=by
 unfold I0 at ho
 obtain ⟨⟨f,g,i,j,k,m,o,q,e,a,b⟩,c,d⟩:=(HJ _).1 h.s.pen
 split at ho
 ·
  obtain ⟨l,hl,ho⟩:=Cd ho
  obtain ⟨_,hw,ho⟩:=Cd ho
  have ho:=Fe ho
  subst ho
  exact h.setPen ((HJ _).2 ⟨⟨dT (RR hw),U1 (FB hl).2 0,i,j,k,m,o,q,e,a,b⟩,c,d⟩)
 ·
  split at ho
  ·
   obtain ⟨n,hn,ho⟩:=Cd ho
   have ho:=Fe ho
   subst ho
   have hn:=To hn
   exact h.setPen ((HJ _).2 ⟨⟨f,g,hn.1,hn.2,k,m,o,q,e,a,b⟩,c,d⟩)
  ·
   split at ho
   ·
    obtain ⟨n,hn,ho⟩:=Cd ho
    have ho:=Fe ho
    subst ho
    have hn:=To hn
    exact h.setPen ((HJ _).2 ⟨⟨f,g,i,j,hn.1,hn.2,o,q,e,a,b⟩,c,d⟩)
   ·
    split at ho
    ·
     obtain ⟨l,hl,ho⟩:=Cd ho
     obtain ⟨_,hw,ho⟩:=Cd ho
     have ho:=Fe ho
     subst ho
     exact h.setPen ((HJ _).2 ⟨⟨f,g,i,j,k,m,dT (RR hw),U1 (FB hl).2 0,e,a,b⟩,c,d⟩)
    · exact A1w h ho
end
section
theorem VC {v v1:Vw} {args:List PV} {op:l8_} (h:EM v) (ho:FO v args op=.ok v1):EM v1:=by
 unfold FO at ho
 split at ho
 ·
  obtain ⟨_,-,ho⟩:=Cd ho
  obtain ⟨_,-,ho⟩:=Cd ho
  have ho:=Fe ho
  subst ho
  refine ⟨h.s,λs hs=>?_,h.path,h.items⟩
  rcases Ax.1 hs with rfl | hs
  · exact h.s
  · exact h.saved s hs
 ·
  split at ho
  ·
   obtain ⟨_,-,ho⟩:=Cd ho
   split at ho
   · cases ho
   ·
    rename_i s r hr
    have ho:=Fe ho
    subst ho
    exact ⟨h.saved s (by rw [hr];simp),λx hx=>h.saved x (by rw [hr];simp [hx]),h.path,h.items⟩
  ·
   obtain ⟨_,-,ho⟩:=Cd ho
   obtain ⟨_,-,ho⟩:=Cd ho
   have ho:=Fe ho
   subst ho
   exact h.setS ⟨h.s.fill,h.s.stroke,h.s.pen,h.s.clips,h.s.font⟩
theorem EM.setPath {v:Vw} {p:D2} (h:EM v) (hp:Ix p):EM (KB v p):=⟨h.s,h.saved,hp,h.items⟩
theorem A1q {v v1:Vw} {args:List PV} {op:l8_} (h:EM v) (ho:FY v args op=.ok v1):EM v1:=by
 unfold FY at ho
 split at ho
 ·
  obtain ⟨_,-,ho⟩:=Cd ho
  obtain ⟨_,-,ho⟩:=Cd ho
  obtain ⟨p,hp,ho⟩:=Cd ho
  have ho:=Fe ho
  subst ho
  rw [GS hp];exact h.setPath h.path.move
 ·
  split at ho
  ·
   obtain ⟨_,-,ho⟩:=Cd ho
   obtain ⟨_,-,ho⟩:=Cd ho
   obtain ⟨p,hp,ho⟩:=Cd ho
   have ho:=Fe ho
   subst ho
   rw [GS hp];exact h.setPath h.path.line
  ·
   split at ho
   ·
    obtain ⟨_,-,ho⟩:=Cd ho
    obtain ⟨_,-,ho⟩:=Cd ho
    obtain ⟨p,hp,ho⟩:=Cd ho
    have ho:=Fe ho
    subst ho
    rw [GS hp];exact h.setPath h.path.curve
   ·
    split at ho
    ·
     obtain ⟨_,-,ho⟩:=Cd ho
     obtain ⟨_,-,ho⟩:=Cd ho
     obtain ⟨_,-,ho⟩:=Cd ho
     obtain ⟨p,hp,ho⟩:=Cd ho
     have ho:=Fe ho
     subst ho
     rw [GS hp];exact h.setPath h.path.curve
    ·
     split at ho
     ·
      obtain ⟨_,-,ho⟩:=Cd ho
      obtain ⟨_,-,ho⟩:=Cd ho
      obtain ⟨p,hp,ho⟩:=Cd ho
      have ho:=Fe ho
      subst ho
      rw [GS hp];exact h.setPath h.path.curve
     ·
      split at ho
      ·
       obtain ⟨_,-,ho⟩:=Cd ho
       exact NY h ho
      ·
       obtain ⟨_,-,ho⟩:=Cd ho
       obtain ⟨_,-,ho⟩:=Cd ho
       obtain ⟨_,-,ho⟩:=Cd ho
       obtain ⟨_,-,ho⟩:=Cd ho
       obtain ⟨f,a,ho⟩:=Cd ho
       obtain ⟨g,b,ho⟩:=Cd ho
       obtain ⟨i,c,ho⟩:=Cd ho
       obtain ⟨j,d,ho⟩:=Cd ho
       obtain ⟨q,e,ho⟩:=Cd ho
       have ho:=Fe ho
       subst ho
       have k:Ix f:=by rw [GS a];exact h.path.move
       have l:Ix g:=by rw [GS b];exact k.line
       have m:Ix i:=by rw [GS c];exact l.line
       have o:Ix j:=by rw [GS d];exact m.line
       rw [GS e];exact h.setPath o.close
theorem X9 {fs:List LO} {v v1:Vw} {args:List PV} (hf:∀ f∈fs,0<=f.font/\f.font<=13) (h:EM v) (ho:IZ fs v args=.ok v1):EM v1:=by
 unfold IZ at ho
 split at ho
 ·
  obtain ⟨_,-,ho⟩:=Cd ho
  obtain ⟨_,-,ho⟩:=Cd ho
  split at ho
  · cases ho
  ·
   rename_i f hq
   have ho:=Fe ho
   subst ho
   have:=hf f (List.mem_of_find?_eq_some hq)
   exact h.setS ⟨h.s.fill,h.s.stroke,h.s.pen,h.s.clips,by show -1<=f.font/\f.font<=13;omega⟩
 · cases ho
theorem A6g {a b m:M6} (h:LF a b=.ok m):(Di a b).2=0/\m=(Di a b).1:=by
 unfold LF at h
 split at h
 · cases h;exact ⟨aS,rfl⟩
 · cases h
theorem US  {v v1:Vw} {args:List PV} (ha:∀ a∈args,(TI a).length<=65535) (h:EM v) (ho:FX sum v args=.ok v1):EM v1:=by
 unfold FX at ho
 split at ho
 ·
  rename_i a
  obtain ⟨_,hw,ho⟩:=Cd ho
  have hw:=RR hw
  simp only [A4,Ad] at hw
  split at ho
  · cases ho;exact h
  ·
   rename_i hn
   unfold PR at ho
   obtain ⟨b,-,ho⟩:=Cd ho
   obtain ⟨m,hm,ho⟩:=Cd ho
   obtain ⟨c,hv,ho⟩:=Cd ho
   have ho:=Fe ho
   subst ho
   obtain ⟨e,rfl⟩:=A6g hm
   have hl:=ha a (by simp)
   have hp:1<=(TI a).length:=by
    cases hq:TI a with
    | nil=>exact D6 hq hn
    | cons x r=>simp
   have:=(Sx h (A2f (f:=v.s.font) e h.s.fill h.s.clips ⟨hw.1.2,h.s.font.2⟩ ⟨hp,hl⟩) hv).1
   exact ⟨this.s,this.saved,this.path,this.items⟩
 · cases ho
theorem XE  {fs:List LO} {v v1:Vw} {args:List PV} {op:l8_} (hf:∀ f∈fs,0<=f.font/\f.font<=13) (ha:∀ a∈args,(TI a).length<=65535) (h:EM v) (ho:JR sum fs v args op=.ok v1):EM v1:=by
 unfold JR at ho
 obtain ⟨_,-,ho⟩:=Cd ho
 split at ho
 ·
  obtain ⟨_,-,ho⟩:=Cd ho
  have ho:=Fe ho
  subst ho
  exact ⟨h.s,h.saved,h.path,h.items⟩
 ·
  split at ho
  ·
   obtain ⟨_,-,ho⟩:=Cd ho
   have ho:=Fe ho
   subst ho
   exact ⟨h.s,h.saved,h.path,h.items⟩
  ·
   split at ho
   · exact X9 hf h ho
   ·
    split at ho
    ·
     obtain ⟨_,-,ho⟩:=Cd ho
     have ho:=Fe ho
     subst ho
     exact ⟨h.s,h.saved,h.path,h.items⟩
    ·
     split at ho
     ·
      obtain ⟨_,-,ho⟩:=Cd ho
      obtain ⟨_,-,ho⟩:=Cd ho
      have ho:=Fe ho
      subst ho
      exact ⟨h.s,h.saved,h.path,h.items⟩
     · exact US ha h ho
theorem A5q  {fs:List LO} {v v1:Vw} {args:List PV} {op:l8_} (hf:∀ f∈fs,0<=f.font/\f.font<=13) (ha:∀ a∈args,(TI a).length<=65535) (h:EM v) (ho:KK sum fs v args op=.ok v1):EM v1:=by
 unfold KK at ho
 split at ho
 · exact A0N h ho
 ·
  split at ho
  · exact X4 h ho
  ·
   split at ho
   · exact XE hf ha h ho
   ·
    split at ho
    · cases ho
    ·
     obtain ⟨_,-,ho⟩:=Cd ho
     split at ho
     · exact VC h ho
     ·
      split at ho
      · exact A1q h ho
      ·
       split at ho
       ·
        obtain ⟨_,-,ho⟩:=Cd ho
        have ho:=Fe ho
        subst ho
        exact ⟨h.s,h.saved,h.path,h.items⟩
       · exact Yi h ho
def Vp:Vw:=⟨⟨O3,MC 1,MC 1,⟨65536,0,0,655360,none,[],0,0⟩,[],-1,0⟩,[],Ie,0,false,false,Xu,Xu,[]⟩
theorem A4T:EM Vp:=⟨⟨dD,dD,dD,dD,dD⟩,λs hs=>(by cases hs),Ix.zero,λx hx=>(by cases hx)⟩
end
section
theorem IJ:∀ (n:Nat) (d:Nat) (o l:l8_) (s r:l8_),l.length<=n->Do d o l=some (s,r)->r.length<=l.length
 | n,d,o,[],s,r,_,h=>by rw [Do.eq_def] at h;cases h
 | 0,d,o,c::t,s,r,hn,h=>by simp at hn
 | n+1,d,o,c::t,s,r,hn,h=>by
  simp only [A8] at hn ⊢
  rw [Do.eq_def] at h
  simp only at h
  split at h
  · have:=IJ n _ _ t s r oO h;omega
  ·
   split at h
   ·
    split at h
    · simp only [Br,CR] at h;rw [h.2];omega
    · have:=IJ n _ _ t s r oO h;omega
   ·
    split at h
    ·
     split at h
     · cases h
     ·
      next e r' =>
      have h2:=WP e r'
      simp only [A8] at hn
      have:=IJ n _ _ _ s r oO h
      simp only [A8];omega
    ·
     split at h
     ·
      have h2:=NT t
      have:=IJ n _ _ _ s r oO h;omega
     · have:=IJ n _ _ t s r oO h;omega
theorem Mu:∀ (l:l8_) (h:Option Nat) (o:l8_) (s r:l8_),Mw h o l=some (s,r)->r.length<=l.length
 | [],h,o,s,r,e=>by simp [Mw] at e
 | c::t,h,o,s,r,e=>by
  simp only [A8]
  unfold Mw at e
  split at e
  · have:=Mu t _ _ s r e;omega
  ·
   split at e
   · simp only [Br,CR] at e;rw [<- e.2];omega
   ·
    split at e
    · cases e
    ·
     split at e
     · have:=Mu t _ _ s r e;omega
     · have:=Mu t _ _ s r e;omega
theorem MO {o:Option (l8_ × l8_)} {t:Ka} {r:l8_} (h:HZ o=.ok (t,r)):∃ s,o=some (s,r)/\t=⟨6,0,s⟩/\s.length<=65535:=by
 unfold HZ at h
 split at h
 · cases h
 ·
  next s r' =>
  split at h
  · cases h
  ·
   simp only [Except.ok.injEq,CR] at h
   obtain ⟨rfl,rfl⟩:=h
   exact ⟨s,rfl,rfl,oO⟩
theorem L0 {k:Int} {l:l8_} {t:Ka} {r:l8_} (h:J9 k l=.ok (t,r)):r=l.dropWhile E1/\t=⟨k,0,l.takeWhile E1⟩/\(l.takeWhile E1).length<=127:=by
 unfold J9 at h
 split at h
 · cases h
 ·
  simp only [Except.ok.injEq,CR] at h
  exact ⟨h.2.symm,h.1.symm,oO⟩
theorem IX (l:l8_):(l.dropWhile E1).length<=l.length:=(List.dropWhile_sublist E1).length_le
theorem SS (o:Option (Nat × Bool)):(HH o).ok=true->(HH o).e=0->(HH o).kind=1\/(HH o).kind=2:=by
 unfold HH
 split
 · simp [CN]
 · split <;> simp [Hw,IF]
theorem VU (l:l8_):(FF l).ok=true->(FF l).e=0->(FF l).kind=1\/(FF l).kind=2:=by
 unfold FF
 split
 ·
  unfold Ml
  repeat' split
  all_goals first | exact SS _ | simp [CN]
 · simp [CN]
theorem Vv (l:l8_) (h:(GO l).ok=true) (he:(GO l).e=0):(GO l).kind=1\/(GO l).kind=2:=by
 have hf:∀ a b c,(PF a b c).ok=true->(PF a b c).e=0->(PF a b c).kind=1\/(PF a b c).kind=2:=by
  intro a b c;unfold PF;repeat' split
  all_goals simp [CN,Hw,IF,MM]
 revert h he
 unfold GO
 split
 · simp [CN]
 ·
  split
  · exact VU l
  ·
   split
   · simp [IF]
   ·
    unfold Ro
    split
    ·
     split
     · exact hf _ _ _
     · simp [CN]
    · exact hf _ _ _
theorem VQ {c:UInt8} (h1:EF c=false) (h2:c≠37) (h40:c≠40) (h41:c≠41) (h60:¬ (c=60\/c=62)) (h123:c≠123) (h125:c≠125) (h91:¬ (c=91\/c=93)) (h47:c≠47):E1 c=true:=by
 unfold E1 NV
 rw [h1]
 simp only [not_or] at h60 h91
 simp [h2,h40,h41,h60.1,h60.2,h123,h125,h91.1,h91.2,h47]
theorem A29 {c:UInt8} {r:l8_} (h1:EF c=false) (h2:c≠37) {t:Ka} (h:Nb c r=.ok (t,s)):s.length<=r.length/\t.kind≠0:=by
  unfold Nb at h
  split at h
  · obtain ⟨s', ho, rfl, -⟩ := MO h
    exact ⟨IJ _ _ _ _ _ _ (FQ _) ho,by simp⟩
  · split at h
    · cases h
    · split at h
      · unfold LH at h
        split at h
        · split at h
          · simp only [Except.ok.injEq, CR] at h
            obtain ⟨rfl,rfl⟩:=h
            exact ⟨by simp,by simp⟩
          · split at h
            · obtain ⟨s', ho, rfl, -⟩ := MO h
              exact ⟨Mu _ _ _ _ _ ho,by simp⟩
            · cases h
        · split at h
          · obtain ⟨s', ho, rfl, -⟩ := MO h
            exact ⟨Mu _ _ _ _ _ ho,by simp⟩
          · cases h
      · split at h
        · simp only [Except.ok.injEq, CR] at h
          obtain ⟨rfl,rfl⟩:=h
          exact ⟨FQ _,by simp⟩
        · split at h
          · simp only [Except.ok.injEq, CR] at h
            obtain ⟨rfl,rfl⟩:=h
            exact ⟨FQ _,by simp⟩
          · split at h
            · simp only [Except.ok.injEq, CR] at h
              obtain ⟨rfl,rfl⟩:=h
              exact ⟨FQ _,by simp⟩
            · split at h
              · unfold Mf at h
                split at h
                · split at h
                  · next d r' _ =>
                    obtain ⟨rfl,rfl,-⟩:=L0 h
                    have:=IX r'
                    exact ⟨by simp only [A8];omega,by simp⟩
                  · obtain ⟨rfl, rfl, -⟩ := L0 h
                    exact ⟨IX _,by simp⟩
                · obtain ⟨rfl, rfl, -⟩ := L0 h
                  exact ⟨IX _,by simp⟩
              · have e := VQ h1 h2 aS aS aS aS aS aS aS
                have a:(c::r).dropWhile E1=r.dropWhile E1:=by simp [List.dropWhile_cons,e]
                have b:=IX r
                unfold Tj at h
                simp only at h
                split at h
                · cases h
                · next he =>
                  split at h
                  · next hk =>
                    simp only [Except.ok.injEq,CR] at h
                    obtain ⟨rfl,rfl⟩:=h
                    rw [a]
                    refine ⟨b,?_⟩
                    have:=Vv _ hk (by simpa using he)
                    intro f
                    simp only at f
                    omega
                  · obtain ⟨rfl, rfl, -⟩ := L0 h
                    rw [a]
                    exact ⟨b,by simp⟩
theorem JS:∀ (l:l8_) (m:Bool) {c:UInt8} {r:l8_},E7 m l=c::r->EF c=false/\c≠37
 | [],m,c,r,h=>by cases m <;> simp [E7] at h
 | x::t,false,c,r,h=>by
  unfold E7 at h
  split at h
  · exact JS t true h
  ·
   split at h
   · exact JS t false h
   ·
    simp only [DT] at h
    obtain ⟨rfl,rfl⟩:=h
    exact ⟨by simp_all,aS⟩
 | x::t,true,c,r,h=>by
  unfold E7 at h
  split at h
  · exact JS t false h
  · exact JS t true h
theorem A0f {l:l8_} {t:Ka} (h:M0 l=.ok (t,s)):(t.kind=0/\s=[])\/(t.kind≠0/\s.length<l.length):=by
 unfold M0 at h
 split at h
 ·
  simp only [Except.ok.injEq,CR] at h
  obtain ⟨rfl,rfl⟩:=h
  exact Or.inl ⟨rfl,rfl⟩
 ·
  next c r hs =>
  have hh:=JS l false hs
  obtain ⟨d,b⟩:=A29 (t:=t) (s:=s) hh.1 hh.2 h
  have a:=H6 l false
  rw [hs] at a
  simp only [A8] at a
  exact Or.inr ⟨b,oO⟩
theorem XF {o:Option (l8_ × l8_)} {k:Int} (h:HZ o=.error k):k=14\/k=9:=by
 unfold HZ at h
 split at h
 · cases h;exact Or.inl rfl
 ·
  split at h
  · cases h;exact Or.inr rfl
  · cases h
theorem Yo {i:Int} {l:l8_} {k:Int} (h:J9 i l=.error k):k=9:=by
 unfold J9 at h
 split at h
 · cases h;rfl
 · cases h
theorem A0i {c:UInt8} {r:l8_} {k:Int} (h:Nb c r=.error k):k≠0:=by
 have ht:∀ {o:Option (l8_ × l8_)},HZ o=.error k->k≠0:=λh=>by rcases XF h with rfl | rfl <;> decide
 have hn:∀ {i:Int} {l:l8_},J9 i l=.error k->k≠0:=λh=>by rw [Yo h];decide
 unfold Nb at h
 split at h
 · exact ht h
 ·
  split at h
  · cases h;decide
  ·
   split at h
   ·
    unfold LH at h
    split at h
    ·
     split at h
     · cases h
     ·
      split at h
      · exact ht h
      · cases h;decide
    ·
     split at h
     · exact ht h
     · cases h;decide
   ·
    split at h
    · cases h
    ·
     split at h
     · cases h
     ·
      split at h
      · cases h
      ·
       split at h
       ·
        unfold Mf at h
        split at h
        ·
         split at h
         · exact hn h
         · exact hn h
        · exact hn h
       ·
        unfold Tj at h
        simp only at h
        split at h
        · next he=>cases h;exact he
        ·
         split at h
         · cases h
         · exact hn h
theorem A0g {l:l8_} (h:M0 l=.error 0):False:=by
 unfold M0 at h
 split at h
 · cases h
 · exact A0i (k:=0) h rfl
theorem RI (l:l8_) (a:Nat) (ha:a<=l.length):(GD l a).e≠0\/((GD l a).k=0/\(GD l a).at'=l.length)\/((GD l a).k≠0/\(a:Int)<(GD l a).at'/\(GD l a).at'<=l.length):=by
 have e:GD l a=A0Z l (M0 (l.drop a)):=by unfold GD;rw [A2 oO];rfl
 rw [e]
 cases h:M0 (l.drop a) with
 | error k =>
  by_cases hk:k=0
  · exfalso;subst hk;exact A0g h
  · exact Or.inl hk
 | ok p =>
  obtain ⟨t,s⟩:=p
  right
  simp only [A0Z]
  rcases A0f h with ⟨b,rfl⟩ | ⟨b,c⟩
  · exact Or.inl ⟨b,by simp⟩
  ·
   rw [B9] at c
   exact Or.inr ⟨b,oO,oO⟩
end
section
def Ng:l8_->Option (l8_)
 | []=>some []
 | [c]=>if c=35 then none else some [c]
 | [c,a]=>if c=35 then none else (Ng [a]).map (c::·)
 | c::a::b::r =>
  if c=35 then (if Er a<16/\Er b<16 then (Ng r).map (ch ((16 * Er a+Er b:Nat):Int)::·) else none)
  else (Ng (a::b::r)).map (c::·)
def Jz (l:l8_) (t:Nat):Except Int (l8_ × Nat) :=
 match Ng (Ec l t) with
 | none=>.error 23
 | some out=>if out=[]\/0∈out then .error 23 else if 127<out.length then .error 25 else .ok (out,C0 l t)
def Jx (c:UInt8):Bool:=c != 62 && (EF c || decide (Er c<16))
def Q2 (l:l8_) (t:Nat):Bool:=if l[t]?=some 60 then (l.drop (t+1)).all Jx else true
def KM (l:l8_) (t:Nat):Except Int (l8_ × Nat) :=
 if (GD l t).e=14/\Q2 l t=true then .error 24
 else if (GD l t).e=9 then .error 25
 else if (GD l t).e≠0\/(GD l t).k≠6 then .error 23
 else .ok ((GD l t).s,(GD l t).at'.toNat)
abbrev Ni:=Except Int (PV × Nat)
def Ii (obj:Nat->Ni) (l:l8_):Nat->List PV->Nat->Except Int (List PV × Nat)
 | 0,_,_=>.error 24
 | f+1,acc,t =>
  match l[AY false l t]? with
  | none=>.error 24
  | some c =>
   if c=93 then .ok (acc,AY false l t+1)
   else if 65535<=acc.length then .error 25
   else match obj (AY false l t) with
    | .error k=>.error k
    | .ok (o,t')=>Ii obj l f (acc++[o]) t'
def Ho (obj:Nat->Ni) (l:l8_):Nat->List (l8_)->List PV->Nat->Except Int (List (l8_) × List PV × Nat)
 | 0,_,_,_=>.error 24
 | f+1,ks,os,t =>
  match l[AY false l t]? with
  | none=>.error 24
  | some c =>
   if c=62/\l.length<=AY false l t+1 then .error 24
   else if c=62/\l[AY false l t+1]?=some 62 then .ok (ks,os,AY false l t+2)
   else if c≠47 then .error 23
   else match Jz l (AY false l t+1) with
    | .error k=>.error k
    | .ok (k,t1) =>
     if k∈ks then .error 23
     else if 65535<=os.length then .error 25
     else match l[AY false l t1]? with
      | none=>.error 24
      | some _=>match obj (AY false l t1) with
       | .error k=>.error k
       | .ok (o,t')=>Ho obj l f (ks++[k]) (os++[o]) t'
def J1 (l:l8_) (t:Nat):Ni:=match KM l t with | .error k=>.error k | .ok (s,t')=>.ok (K8 5 0 s,t')
def LT (l:l8_) (t:Nat):Ni:=match Jz l t with | .error k=>.error k | .ok (s,t')=>.ok (K8 4 0 s,t')
def RY (r:Except Int (List PV × Nat)):Ni:=match r with | .error k=>.error k | .ok (os,t')=>.ok (.mk 6 0 [] [] os,t')
def NG (r:Except Int (List (l8_) × List PV × Nat)):Ni:=match r with | .error k=>.error k | .ok (ks,os,t')=>.ok (.mk 7 0 [] ks os,t')
def Jn (X:WR):Ni:=if X.ok then .ok (K8 X.kind X.n [],X.np) else .error 23
def FW (refs:Bool) (l:l8_):Nat->Nat->Ni
 | 0,t =>
  match l[t]? with
  | none=>.error 24
  | some c =>
   if c=47 then LT l (t+1)
   else if c=91 then .error 25
   else if c=40 then J1 l t
   else if c=60 then (if l.length<=t+1 then .error 24 else if l[t+1]?≠some 60 then J1 l t else .error 25)
   else Jn (Fm refs l t)
 | d+1,t =>
  match l[t]? with
  | none=>.error 24
  | some c =>
   if c=47 then LT l (t+1)
   else if c=91 then RY (Ii (FW refs l d) l (l.length+1) [] (t+1))
   else if c=40 then J1 l t
   else if c=60 then (if l.length<=t+1 then .error 24 else if l[t+1]?≠some 60 then J1 l t else NG (Ho (FW refs l d) l (l.length+1) [] [] (t+2)))
   else Jn (Fm refs l t)
end
end Go.Proofs.YthmhfjeojkbpfaaGreatDoor
