/-
  What the claim leans on, part 2: pruned and joined by my own tool out of the texts that stand in wip/ as templates.
-/
import Derived.Test.YthmhfjeojkbpfaaGreatDoorVk1
set_option maxHeartbeats 6400000
set_option maxRecDepth 100000
namespace Go.Proofs.YthmhfjeojkbpfaaGreatDoor
open Go.RowKit
open Go.Proofs.Tryz
variable {aft:Array Edge} {ops:Array Oper} {ats:Array TypeId} {refs:Bool} {R:Ending->World->Prop} {f:Fr} {fill last:Int} {sum:Int->List UInt8->Int} {ns:List Int} {A s:List UInt8} {vs xs:List Value} {B N bp bv by' c d g i id m t t1:Nat} {F1 T Z:Nat->Prop} {x y:Operand} {p q:Option Addr} {P:Program} {pos:String} {α β:Type} {E e ta tb tx:TypeId} {v v' v1 vp z:Value} {w w1 w2:World} {S':World->Prop}
section
theorem G9 (l:l8_):(bs l).toList=l:=by simp [bs]
theorem SG (l:l8_) (w:World) :
  Calls Tryz.prog 158 #[.string (bs l),.string ⟨#[48]⟩] w λe w'=>e=.returned (.string (bs (l.dropWhile (· == 48))))/\w=w' :=
 (Tryz.strings_TrimLeft_one (bs l) 48 dD w).mono λ_ _ ⟨h1,h2⟩=>⟨h1,h2.symm⟩
theorem JE (l:l8_) (a b:Nat):(bs l).extract a b=bs ((l.drop a).take (b-a)):=by
 apply ByteArray.ext
 simp [bs,ByteArray.data_extract]
theorem MV (c:UInt8) (B:l8_):∀ A:l8_,c ∉ A->Lib.indexByte (A++c::B) c=(A.length:Int)
 | [],_=>by simp [Lib.indexByte]
 | b::A,h=>by
  simp only [Ar,not_or] at h
  have ih:=MV c B A h.2
  have e3:(b == c)=false:=by rw [DL];exact λe=>h.1 e.symm
  have a:((A.length:Int) == -1)=false:=by rw [DL];omega
  simp [Lib.indexByte,e3,ih]
theorem O6 (c:UInt8):∀ l:l8_,c ∉ l->Lib.indexByte l c=-1
 | [],_=>rfl
 | b::l,h=>by
  simp only [Ar,not_or] at h
  have ih:=O6 c l h.2
  have e3:(b == c)=false:=by rw [DL];exact λe=>h.1 e.symm
  simp [Lib.indexByte,e3,ih]
theorem Qp (c:UInt8):∀ l:l8_,c∈l->∃ A B,l=A++c::B/\c ∉ A
 | [],h=>by cases h
 | b::l,h=>by
  by_cases e:c=b
  · exact ⟨[],l,by rw [e];rfl,by simp⟩
  ·
   rcases Ar.1 h with h | h
   · exact CM h e
   ·
    obtain ⟨A,B,h1,h2⟩:=Qp c l h
    exact ⟨b::A,B,by rw [h1];rfl,by simp [e,h2]⟩
theorem XH (A B:l8_) (c:UInt8) (w:World) (h:c ∉ A) :
  Calls Tryz.prog 199 #[.string (bs (A++c::B)),.string ⟨#[c]⟩] w λe w'=>e=.returned (.int .i64 (A.length:Int))/\w=w':=by
 rw [<- MV c B A h]
 exact (Tryz.stringslite_Index_one (bs _) c w).mono λ_ _ ⟨a,b⟩=>⟨a,b.symm⟩
theorem A0h (l:l8_) (c:UInt8) (w:World) (h:c ∉ l) :
  Calls Tryz.prog 199 #[.string (bs l),.string ⟨#[c]⟩] w λe w'=>e=.returned (.int .i64 (-1))/\w=w':=by
 rw [<- O6 c l h]
 exact (Tryz.stringslite_Index_one (bs _) c w).mono λ_ _ ⟨a,b⟩=>⟨a,b.symm⟩
theorem EI {a b:Bool} (h:a=b):Ending.returned (.bool a)=Ending.returned (.bool b):=by rw [h]
theorem A41 {a b a' b':ByteArray} {c:Bool} (h1:a=a') (h2:b=b'):Ending.returned (.tuple #[.string a,.string b,.bool c])=Ending.returned (.tuple #[.string a',.string b',.bool c]):=by
 rw [h1,h2]
theorem WN (A B:l8_) (c:UInt8) (w:World) (hl:(A++c::B).length<=100000000) (hc:c ∉ A) :
  Calls Tryz.prog 183 #[.string (bs (A++c::B)),.string ⟨#[c]⟩] w λe w'=>e=.returned (.tuple #[.string (bs A),.string (bs B),.bool true])/\Below w.heap.size w w':=by
 have hk:A.length<(A++c::B).length:=by simp
 have hA:(bs (A++c::B)).extract 0 A.length=bs A:=by
  rw [JE];simp
 have hB:(bs (A++c::B)).extract (A.length+1) (A++c::B).length=bs B:=by
  rw [JE]
  have e:(A++c::B).drop (A.length+1)=B:=by
   rw [<- K9];simp
  rw [e,AR (by simp;omega)]
 have hI:=λw=>XH A B c w hc
 have hs:(bs (A++c::B)).size=(A++c::B).length:=BE _
 generalize A++c::B=l at *
 generalize hkk:A.length=k at *
 clear hkk
 have hA':=Ev hA;have hB':=Ev hB;clear hA hB hc
 go_enter func183,ntmps183
 go_wp2_with (go_at_call 199;go_must (refine (hI _).mono ?_);rintro e w' ⟨rfl,rfl⟩)
 go_quiet (fail)
 go_wp2
 go_ret3
 exact ⟨A41 hA'.out hB'.out,Pc _ _⟩
theorem ZA (l:l8_) (c:UInt8) (w:World) (hc:c ∉ l) :
  Calls Tryz.prog 183 #[.string (bs l),.string ⟨#[c]⟩] w λe w'=>e=.returned (.tuple #[.string (bs l),.string (bs []),.bool false])/\Below w.heap.size w w':=by
 have hI:=λw=>A0h l c w hc
 clear hc
 go_enter func183,ntmps183
 go_wp2_with (go_at_call 199;go_must (refine (hI _).mono ?_);rintro e w' ⟨rfl,rfl⟩)
 go_ret3
 exact ⟨rfl,EM _ _⟩
theorem W6 (A B:l8_) (c:UInt8) (w:World) (hl:(A++c::B).length<=100000000) (hc:c ∉ A) :
  Calls Tryz.prog 156 #[.string (bs (A++c::B)),.string ⟨#[c]⟩] w λe w'=>e=.returned (.tuple #[.string (bs A),.string (bs B),.bool true])/\Below w.heap.size w w':=by
 have hI:=λw=>WN A B c w hl hc
 clear hc hl
 go_enter func156,ntmps156
 go_wp2_with (go_at_call 183;go_must (refine (hI _).mono ?_);rintro e w' ⟨rfl,hb⟩)
 go_ret3
 exact ⟨rfl,hb⟩
theorem YV (l:l8_) (c:UInt8) (w:World) (hc:c ∉ l) :
  Calls Tryz.prog 156 #[.string (bs l),.string ⟨#[c]⟩] w λe w'=>e=.returned (.tuple #[.string (bs l),.string (bs []),.bool false])/\Below w.heap.size w w':=by
 have hI:=λw=>ZA l c w hc
 clear hc
 go_enter func156,ntmps156
 go_wp2_with (go_at_call 183;go_must (refine (hI _).mono ?_);rintro e w' ⟨rfl,hb⟩)
 go_ret3
 exact ⟨rfl,hb⟩
def BS (b:UInt8):Bool:=decide (48<=b.toNat) && decide (b.toNat<=57)
theorem MX (b:UInt8):([48,49,50,51,52,53,54,55,56,57]:l8_).contains b=BS b:=by
 unfold BS
 rw [AU]
 simp [<- UInt8.toNat_inj]
 omega
theorem Gi (p:UInt8->Bool):∀ l:l8_,l.dropWhile p=[]↔l.all p=true
 | []=>by simp
 | b::l=>by
  cases h:p b with
  | true=>simp [h,Gi p l]
  | false=>simp [h]
theorem Ke (l cs:l8_):Lib.trimS l cs=[]↔l.all (cs.contains ·)=true:=by
 unfold Lib.trimS Lib.trimLeftS Lib.trimRightS
 rw [Gi]
 constructor
 ·
  intro h
  cases hd:l.reverse.dropWhile (cs.contains ·) with
  | nil =>
   rw [Gi] at hd
   simpa using hd
  | cons x r =>
   exfalso
   rw [hd] at h
   have hx:cs.contains x=true:=by
    simp at h
    simpa using h.2
   have:=List.head_dropWhile_not (p:=(cs.contains ·)) (l:=l.reverse) (by rw [hd];simp)
   simp only [hd,List.head_cons] at this
   rw [hx] at this;cases this
 ·
  intro h
  have:l.reverse.dropWhile (cs.contains ·)=[]:=by
   rw [Gi];simpa using h
  rw [this];rfl
theorem GO (l:l8_) (w:World) (hl:l.length<=100000000) :
  Calls Tryz.prog 157 #[.string (bs l)] w λe w'=>e=.returned (.bool (l.all BS))/\Below w.heap.size w w':=by
 have hT:=λw=>Any.strings_Trim_laid Tryz.lays160 kR (bs l) ⟨#[48,49,50,51,52,53,54,55,56,57]⟩ w (by rw [BE];omega) dD (ascii_of_all dD)
 have hN:Lib.trimS l [48,49,50,51,52,53,54,55,56,57]=[]↔l.all BS=true:=by
  rw [Ke]
  have:(λx=>([48,49,50,51,52,53,54,55,56,57]:l8_).contains x)=BS:=funext MX
  rw [this]
 have HN:=Ev hN;clear hN
 go_enter func157,ntmps157
 go_wp2_with (go_at_call 96;go_must (refine (hT _).mono ?_);rintro e w' ⟨rfl,hb⟩)
 go_ret
 exact ⟨EI (by rw [AU,List.isEmpty_iff];exact HN.out),hb⟩
theorem A1B {m:Bool} {a b:ByteArray} (h:a=b):Ending.returned (.tuple #[.bool m,.string a])=Ending.returned (.tuple #[.bool m,.string b]):=by rw [h]
theorem A56 (c:UInt8) (r:l8_) (h:0<(bs (c::r)).size):(bs (c::r))[0]'h=c:=rfl
theorem A55 (c:UInt8) (r:l8_):(bs (c::r)).extract 1 (r.length+1)=bs r:=by
 rw [JE];simp
theorem A39 (c:UInt8) (r:l8_):(bs (c::r)).toList.isEmpty=false:=by simp [bs]
def AL:l8_->Bool × l8_
 | []=>(false,[])
 | c::r=>if c=45 then (true,r) else if c=43 then (false,r) else (false,c::r)
theorem JC (l:l8_) (w:World) (hl:l.length<=100000000) :
  Calls Tryz.prog 122 #[.string (bs l)] w λe w'=>e=.returned (.tuple #[.bool (AL l).1,.string (bs (AL l).2)])/\Below w.heap.size w w':=by
 cases l with
 | nil =>
  have hT:=G9
  go_enter func122,ntmps122
  go_wp2
  go_ret2
  exact ⟨rfl,EM _ _⟩
 | cons c r =>
  have b:=A56 c r
  have hs:(bs (c::r)).size=r.length+1:=by rw [BE];rfl
  have he:=A39 c r
  have hb:=A55 c r
  have Hb:=Ev hb
  simp only [A8] at hl
  by_cases h1:c=45
  ·
   subst h1
   generalize bs (45::r)=s at *
   clear hb
   go_enter func122,ntmps122
   go_wp2
   go_quiet (fail)
   go_wp2
   go_ret2
   exact ⟨A1B Hb.out,Pc _ _⟩
  ·
   by_cases h2:c=43
   ·
    subst h2
    generalize bs (43::r)=s at *
    clear hb
    go_enter func122,ntmps122
    go_wp2
    go_quiet (fail)
    go_wp2
    go_ret2
    exact ⟨A1B Hb.out,Pc _ _⟩
   ·
    have d:((c.toNat:Int) == 45)=false:=by
     rw [DL];intro h;exact h1 (UInt8.toNat_inj.1 (by show c.toNat=45;omega))
    have f:((c.toNat:Int) == 43)=false:=by
     rw [DL];intro h;exact h2 (UInt8.toNat_inj.1 (by show c.toNat=43;omega))
    have a:AL (c::r)=(false,c::r):=by simp [AL,h1,h2]
    rw [a]
    generalize bs (c::r)=s at *
    clear hb a h1 h2
    go_enter func122,ntmps122
    go_wp2
    go_ret2
    exact ⟨rfl,EM _ _⟩
theorem Qz {fn:Func} {t u v x:Tmp} (h:fn.results=#[.tmp t,.tmp u,.tmp v,.tmp x]) (tmps:Array Value) (P:Program) (w:World) :
  (results fn tmps).run P w=.ok (.tuple #[tmps.getD t undef,tmps.getD u undef,tmps.getD v undef,tmps.getD x undef]) w:=by
 simp [results,h]
theorem Qy {a b a' b':ByteArray} {c d d':Bool} (h1:a=a') (h2:b=b') (h3:d=d'):Ending.returned (.tuple #[.string a,.string b,.bool c,.bool d])=Ending.returned (.tuple #[.string a',.string b',.bool c,.bool d']):=by
 rw [h1,h2,h3]
def Cf:l8_->l8_ × l8_ × Bool
 | []=>([],[],false)
 | c::r=>if c=46 then ([],r,true) else (c::(Cf r).1,(Cf r).2)
theorem La (B:l8_):∀ A:l8_,46 ∉ A->Cf (A++46::B)=(A,B,true)
 | [],_=>by simp [Cf]
 | c::A,h=>by
  simp only [Ar,not_or] at h
  have ih:=La B A h.2
  simp [Cf,ih,Ne.symm h.1]
theorem Tv:∀ l:l8_,46 ∉ l->Cf l=(l,[],false)
 | [],_=>rfl
 | c::l,h=>by
  simp only [Ar,not_or] at h
  have ih:=Tv l h.2
  simp [Cf,ih,Ne.symm h.1]
theorem Lb (l:l8_):(Cf l).1.length+(Cf l).2.1.length<=l.length:=by
 induction l with
 | nil=>simp [Cf]
 | cons c r ih=>unfold Cf;split <;> simp;omega
theorem A4U (l:l8_) (w:World) (hl:l.length<=100000000) :
  Calls Tryz.prog 156 #[.string (bs l),.string ⟨#[46]⟩] w λe w'=>e=.returned (.tuple #[.string (bs (Cf l).1),.string (bs (Cf l).2.1),.bool (Cf l).2.2])/\Below w.heap.size w w':=by
 by_cases h:46∈l
 ·
  obtain ⟨A,B,rfl,hA⟩:=Qp 46 l h
  rw [La B A hA];exact W6 A B 46 w hl hA
 · rw [Tv l h];exact YV l 46 w h
def HT (l:l8_):Bool:=(Cf l).1.all BS && (Cf l).2.1.all BS && decide (0<(Cf l).1.length+(Cf l).2.1.length)
theorem L8 (l:l8_) (w:World) (hl:l.length<=100000000) :
    Calls Tryz.prog 123 #[.string (bs l)] w λe w'=>e=.returned (.tuple #[.string (bs (Cf l).1),.string (bs (Cf l).2.1),.bool (Cf l).2.2,.bool (HT l)])/\Below w.heap.size w w':=by
  have c:=Lb l
  have hm:HT l=((Cf l).1.all BS && (Cf l).2.1.all BS && decide (0<(Cf l).1.length+(Cf l).2.1.length)):=rfl
  have b:=λw=>A4U l w hl
  generalize HT l=ok at *
  generalize Cf l=p at *
  obtain ⟨A,B,f⟩:=p
  simp only at c hm b
  have Hm:=Ev hm;clear hm
  have j:(bs A).size=A.length:=BE A
  have k:(bs B).size=B.length:=BE B
  by_cases hA:A.all BS=true
  · by_cases hB : B.all BS = true
    · have a : ok = decide (0 < A.length + B.length) := by rw [Hm.out, hA, hB]; rfl
      have HA:=Ev hA;have HB:=Ev hB;have Hok:=Ev a;clear a hA hB
      go_enter func123,ntmps123
      go_wp2_with first | (go_at_call 156;go_must (refine (b _).mono ?_);rintro e d ⟨rfl,hb1⟩) | (go_at_call_of 157 (Value.string (bs A));go_must (refine (GO A _ oO).mono ?_);rintro e g ⟨rfl,hb2⟩;rw [HA.out]) | (go_at_call_of 157 (Value.string (bs B));go_must (refine (GO B _ oO).mono ?_);rintro e i ⟨rfl,hb3⟩;rw [HB.out])
      refine Cv (Qz rfl _ _ _) rfl ?_
      refine ⟨Qy rfl rfl ?_,DJ (DJ hb1 hb2) hb3⟩
      rw [Hok.out,AU];simp;omega
    · have hB' : B.all BS = false := by simpa using hB
      have a:ok=false:=by rw [Hm.out,hA,hB'];rfl
      have HA:=Ev hA;have HB:=Ev hB';have Hok:=Ev a;clear a hA hB hB'
      go_enter func123,ntmps123
      go_wp2_with first | (go_at_call 156;go_must (refine (b _).mono ?_);rintro e d ⟨rfl,hb1⟩) | (go_at_call_of 157 (Value.string (bs A));go_must (refine (GO A _ oO).mono ?_);rintro e g ⟨rfl,hb2⟩;rw [HA.out]) | (go_at_call_of 157 (Value.string (bs B));go_must (refine (GO B _ oO).mono ?_);rintro e i ⟨rfl,hb3⟩;rw [HB.out])
      refine Cv (Qz rfl _ _ _) rfl ?_
      exact ⟨Qy rfl rfl Hok.out.symm,DJ (DJ hb1 hb2) hb3⟩
  · have hA' : A.all BS = false := by simpa using hA
    have a:ok=false:=by rw [Hm.out,hA'];rfl
    have HA:=Ev hA';have Hok:=Ev a;clear a hA hA'
    go_enter func123,ntmps123
    go_wp2_with first | (go_at_call 156;go_must (refine (b _).mono ?_);rintro e d ⟨rfl,hb1⟩) | (go_at_call_of 157 (Value.string (bs A));go_must (refine (GO A _ oO).mono ?_);rintro e g ⟨rfl,hb2⟩;rw [HA.out])
    refine Cv (Qz rfl _ _ _) rfl ?_
    exact ⟨Qy rfl rfl Hok.out.symm,DJ hb1 hb2⟩
end
section
def J5:List Nat->List Nat × Nat
 | []=>([],0)
 | x::r=>((2 * x+(J5 r).2) % 10::(J5 r).1,(2 * x+(J5 r).2) / 10)
theorem Q9 (l:List Nat):(J5 l).1.length=l.length:=by
 induction l with
 | nil=>rfl
 | cons x r ih=>simp [J5,ih]
theorem Pa (l:List Nat) (h:∀ x∈l,x<10):(J5 l).2<=1:=by
 induction l with
 | nil=>simp [J5]
 | cons x r ih =>
  have a:=h x (by simp)
  have b:=ih (λy hy=>h y (by simp [hy]))
  simp [J5];omega
theorem RD (l:List Nat):∀ x∈(J5 l).1,x<10:=by
 induction l with
 | nil=>simp [J5]
 | cons x r ih =>
  intro y hy
  simp [J5] at hy
  rcases hy with rfl | hy
  · omega
  · exact ih y hy
def Pf (l:List Nat):List Value:=l.map λ(x:Nat)=>Value.int .u8 (x:Int)
theorem Yd (l:List Nat):(Pf l).length=l.length:=by simp [Pf]
theorem A2S (ds:List Nat) (j:Nat) (hj:j<ds.length) :
  J5 (ds.drop j)=((2 * ds[j]+(J5 (ds.drop (j+1))).2) % 10::(J5 (ds.drop (j+1))).1,(2 * ds[j]+(J5 (ds.drop (j+1))).2) / 10):=by
 rw [Ap hj];rfl
theorem XQ (b:Nat) (cap:Nat) (ds:List Nat) (w:World) (hr:Oq w b (Pf ds)) (hd:∀ x∈ds,x<10) (hl:ds.length<=maxLen) (B:Nat) (hB:B<=b) :
  Calls Tryz.prog 159 #[.slice (some ⟨b,0,none⟩) ds.length cap] w λe w'=>e=.returned (.int .i64 (J5 ds).2)/\Oq w' b (Pf (J5 ds).1)/\Below B w w':=by
 unfold maxLen at hl
 go_enter func159,ntmps159
 go_wp2_with fail
 go_loopw [3,4] (λc i wr=>∃ (k:Nat) (f:Int),k<=ds.length/\f=(k:Int)-1/\i=.int .i64 f/\c=.int .u8 ((J5 (ds.drop k)).2:Int)/\Oq wr b (Pf (ds.take k++(J5 (ds.drop k)).1))/\Below B w wr) (λ_ i _=>(intOf i+1).toNat)
 case atStart=>exact ⟨ds.length,_,FL _,rfl,rfl,by simp [J5],by simpa [J5] using hr,EM _ _⟩
 case round =>
  obtain ⟨k,f,hk,m,rfl,rfl,a,d⟩:=hrel
  cases k with
  | zero =>
   obtain rfl:f=-1:=by omega
   clear m
   have hc:=Pa ds hd
   have s:ds.drop 0=ds:=by simp
   rw [s] at a ⊢
   have Hrow:=Ev a;clear a
   go_wp2
   go_ret
   exact ⟨rfl,by simpa using Hrow.out,d⟩
  | succ j =>
   obtain rfl:f=(j:Int):=by omega
   clear m
   have hj:j<ds.length:=by omega
   have hc:=Pa (ds.drop (j+1)) (λx hx=>hd x (Eu hx))
   have hx:=hd ds[j] (by simp)
   have o:=A2S ds j hj
   have t:=d.size
   obtain ⟨q,u⟩:=a j (.int .u8 (ds[j]:Int)) (by
    have g:j<(ds.take (j+1)).length:=by simp;omega
    rw [Pf,List.getElem?_map,A77 g,List.getElem?_take,A6 oO,A7 hj];rfl)
   have l:=a.set j (.int .u8 ((2 * (ds[j]:Int)+((J5 (ds.drop (j+1))).2:Int)) % 10)) (by simp [Pf];omega)
   have Hset:=Ev l;have Hst:=Ev o;clear l o a hr
   generalize hgc:(J5 (ds.drop (j+1))).2=c at *
   generalize hgx:ds[j]=x at *
   have Hgc:=Ev hgc;have Hgx:=Ev hgx;clear hgc hgx
   go_wp2
   refine ⟨⟨j,_,by omega,rfl,rfl,?_,?_,d.setCell hB _⟩,by simp [intOf]⟩
   · rw [Hst.out];go_num
   ·
    have e:(Pf (List.take (j+1) ds++(J5 (List.drop (j+1) ds)).fst)).set j (Value.int IntKind.u8 ((2 * (x:Int)+(c:Int)) % 10))=Pf (List.take j ds++(J5 (List.drop j ds)).fst):=by
     rw [Hst.out]
     rw [B7 hj]
     have g:(List.map (λ(x:Nat)=>Value.int .u8 (x:Int)) (List.take j ds)).length=j:=by simp;omega
     simp only [Pf,BC,AE]
     rw [List.set_append_right _ _ oO,g,K8]
     simp
    rw [<- e];exact Hset.out
def FV:Nat->Int->List Nat->Int × List Nat
 | 0,n,d=>(n,d)
 | k+1,n,d=>FV k (2 * n+(J5 d).2) (J5 d).1
def Bj (l:l8_):List Nat:=l.map λc=>c.toNat-48
def D2 (l:l8_):Nat:=l.foldl (λn c=>10 * n+(c.toNat-48)) 0
def Xi (whole rest:l8_):Option Int :=
 if 5<(whole.dropWhile (· == 48)).length then none
 else some ((FV 16 (D2 (whole.dropWhile (· == 48))) (Bj rest)).1+(J5 (FV 16 (D2 (whole.dropWhile (· == 48))) (Bj rest)).2).2)
def Gc (minus:Bool) (whole rest:l8_):Int × Bool :=
 match Xi whole rest with
 | none=>(0,false)
 | some n=>let m:=if minus then -n else n;(m,Ao m)
theorem R5 (l:l8_) (c:UInt8):D2 (l++[c])=10 * D2 l+(c.toNat-48):=by simp [D2]
theorem XA (l:l8_) (h:∀ c∈l,BS c=true):∀ n,l.foldl (λn c=>10 * n+(c.toNat-48)) n<(n+1) * 10 ^ l.length:=by
 induction l with
 | nil=>intro n;simp
 | cons c r ih =>
  intro n
  have b:=ih (λx hx=>h x (by simp [hx])) (10 * n+(c.toNat-48))
  have a:=h c (by simp)
  simp [BS] at a
  rw [DD,A8,Nat.pow_succ]
  have d:(10 * n+(c.toNat-48)+1) * 10 ^ r.length<=(n+1) * (10 ^ r.length * 10):=by
   rw [Nat.mul_comm (10 ^ r.length) 10,<- Nat.mul_assoc]
   exact Cm _ oO
  omega
theorem KB (l:l8_) (h:∀ c∈l,BS c=true):D2 l<10 ^ l.length:=by
 have:=XA l h 0
 rw [EF,Nat.one_mul] at this
 exact this
theorem Px (l:l8_) (h:∀ c∈l,BS c=true):∀ x∈Bj l,x<10:=by
 intro x hx
 simp [Bj] at hx
 obtain ⟨c,hc,rfl⟩:=hx
 have a:=h c hc
 simp [BS] at a
 omega
theorem Sm (minus:Bool) (whole rest:l8_) (w:World) (hb:5<(whole.dropWhile (· == 48)).length) :
  Calls Tryz.prog 124 #[.bool minus,.string (bs whole),.string (bs rest)] w λe w'=>e=.returned (.tuple #[.int .i64 0,.bool false])/\Below w.heap.size w w':=by
 have hs:=BE (whole.dropWhile (· == 48))
 have hT:=λw=>SG whole w
 generalize whole.dropWhile (· == 48)=t at *
 go_enter func124,ntmps124
 go_wp2_with (go_at_call 158;go_must (refine (hT _).mono ?_);rintro e a ⟨rfl,rfl⟩)
 go_ret2
 exact ⟨rfl,EM _ _⟩
theorem IY (l:l8_) (k:Nat) (h:k<l.length):(AI l)[k]?=some (.int .u8 (l[k].toNat:Int)):=by
 unfold AI
 rw [List.getElem?_map,A7 h];rfl
theorem L2 (l:l8_) (k:Nat) (h:k<l.length):D2 (l.take (k+1))=10 * D2 (l.take k)+(l[k].toNat-48):=by
 rw [B7 h,R5]
theorem Sc (l:l8_) (k:Nat) (hl:l.length<=5) (h:∀ c∈l,BS c=true):D2 (l.take k)<100000:=by
 have a:=KB (l.take k) (λc hc=>h c (Dv hc))
 have b:10 ^ (l.take k).length<=10 ^ 5:=Nat.pow_le_pow_right dD (by simp;omega)
 omega
theorem FW {c:UInt8} (h:BS c=true):48<=c.toNat/\c.toNat<=57:=by
 simpa [BS] using h
theorem M7 (b:Nat) (cap n:Nat) (ds:List Nat) (w:World) (hn:ds.length=n) (hr:Oq w b (Pf ds)) (hd:∀ x∈ds,x<10) (hl:n<=3000) (B:Nat) (hB:B<=b) :
  Calls Tryz.prog 159 #[.slice (some ⟨b,0,none⟩) n cap] w λe w'=>e=.returned (.int .i64 (J5 ds).2)/\Oq w' b (Pf (J5 ds).1)/\Below B w w':=by
 subst hn
 exact XQ b cap ds w hr hd (by unfold maxLen;omega) B hB
theorem WC (a b:List Nat):Pf (a++b)=Pf a++Pf b:=by simp [Pf]
theorem EP (l:l8_):(Bj l).length=l.length:=by simp [Bj]
theorem A2g (l:l8_) (k:Nat) (h:k<l.length):(Pf ((Bj l).take k)++AI (l.drop k))[k]?=some (.int .u8 (l[k].toNat:Int)):=by
 have e:(Pf ((Bj l).take k)).length=k:=by rw [Yd,AT,EP];omega
 rw [A5N oO,e,K8,Ap h];rfl
theorem A4l (l:l8_) (k:Nat) (h:k<l.length) (h1:48<=l[k].toNat):(Pf ((Bj l).take k)++AI (l.drop k)).set k (.int .u8 ((l[k].toNat:Int)-48))=Pf ((Bj l).take (k+1))++AI (l.drop (k+1)):=by
 have e:(Pf ((Bj l).take k)).length=k:=by rw [Yd,AT,EP];omega
 rw [List.set_append_right _ _ oO,e,K8,Ap h,B7 (by rw [EP];exact h),WC,AE]
 congr 1
 have a:(Bj l)[k]'(by rw [EP];exact h)=l[k].toNat-48:=by simp [Bj]
 have b:((l[k].toNat-48:Nat):Int)=(l[k].toNat:Int)-48:=by omega
 rw [a]
 simp only [Pf,Co,DT,b]
 rfl
theorem A1A {a b:Int} {c d:Bool} (h:a=b) (h':c=d):Ending.returned (.tuple #[.int .i64 a,.bool c])=Ending.returned (.tuple #[.int .i64 b,.bool d]):=by rw [h,h']
theorem Sl (minus : Bool) (whole rest : l8_) (w : World) (h1 : (whole.dropWhile (· == 48)).length ≤ 5) (h2 : rest.length ≤ 3000) (h3 : ∀ c ∈ whole, BS c = true) (h4 : ∀ c ∈ rest, BS c = true) :
    Calls Tryz.prog 124 #[.bool minus,.string (bs whole),.string (bs rest)] w λe w'=>e=.returned (.tuple #[.int .i64 (Gc minus whole rest).1,.bool (Gc minus whole rest).2])/\Below w.heap.size w w':=by
  have hT:=λw=>SG whole w
  have hv:Gc minus whole rest=(let m:=if minus then -((FV 16 (D2 (whole.dropWhile (· == 48))) (Bj rest)).1+(J5 (FV 16 (D2 (whole.dropWhile (· == 48))) (Bj rest)).2).2) else ((FV 16 (D2 (whole.dropWhile (· == 48))) (Bj rest)).1+(J5 (FV 16 (D2 (whole.dropWhile (· == 48))) (Bj rest)).2).2);(m,Ao m)):=by
    unfold Gc Xi
    rw [A1 oO]
  have ht:∀ c∈whole.dropWhile (· == 48),BS c=true:=λc hc=>h3 c (List.dropWhile_sublist _ |>.subset hc)
  clear h3
  generalize whole.dropWhile (· == 48)=t at *
  have hs:=BE t
  have R:=BE rest
  have Hv:=Ev hv;have Ht:=Ev ht;have H4:=Ev h4;clear hv ht h4
  go_enter func124,ntmps124
  go_wp2_with first | (go_at_call 158;go_must (refine (hT _).mono ?_);rintro e J ⟨rfl,rfl⟩) | (refine EA rfl _ _ _ _ rfl Ju Bu Lk _ rfl ?_;intro cap J D a hg y)
  have hb1:=FI hg
  have Hrow:=Ev a;clear a hg hT
  go_loop [8,10,21] (λn _ i=>∃ k:Nat,k<=t.length/\i=.int .i64 k/\n=.int .i64 (D2 (t.take k):Int)) (λ_ _ i=>t.length-(intOf i).toNat)
  case atStart=>exact ⟨0,Gg _,rfl,rfl⟩
  case round =>
    obtain ⟨k,hk,rfl,rfl⟩:=hrel
    have G:=Sc t k h1 Ht.out
    by_cases hkl:k<t.length
    · have s := L2 t k hkl
      have hd:=FW (Ht.out t[k] (by simp))
      have hc:=(Hrow.out k _ (IY t k hkl)).1
      have Hstep:=Ev s;clear s
      generalize D2 (t.take k)=N at *
      generalize t[k].toNat=c at *
      go_wp2
      go_round
      case rel=>exact ⟨k+1,by omega,by go_num,by rw [Hstep.out];go_num⟩
      case measure=>simp [intOf];omega
    · obtain rfl : k = t.length := by omega
      rw [Cs] at G
      rw [Cs]
      clear Hrow
      go_wp2_with (refine EA rfl _ _ _ _ rfl Ju Bu Lk _ rfl ?_;intro K L v a hg E)
      have hb2:=DJ hb1 (FI hg)
      rw [y] at a
      have hB:w.heap.size<=w.heap.size+1:=by omega
      clear D hg hb1
      go_loopw [12,36] (λ_ i wr=>∃ k:Nat,k<=rest.length/\i=.int .i64 k/\Oq wr (w.heap.size+1) (Pf ((Bj rest).take k)++AI (rest.drop k))/\Below w.heap.size w wr) (λ_ i _=>rest.length-(intOf i).toNat)
      case atStart=>exact ⟨0,Gg _,rfl,by simpa [Pf] using (show Oq L (w.heap.size+1) (AI rest) from a),hb2⟩
      case round =>
        obtain ⟨k,hk,rfl,b,o⟩:=hrel
        clear a hb2 y E v
        by_cases hkl:k<rest.length
        · have hd := FW (H4.out rest[k] (by simp))
          obtain ⟨hc,T⟩:=b k _ (A2g rest k hkl)
          have q:=b.set k (.int .u8 ((rest[k].toNat:Int)-48)) (by
            have:=(BR.1 (A2g rest k hkl)).1;exact this)
          rw [A4l rest k hkl hd.1] at q
          have Hset:=Ev q;clear q b
          generalize rest[k].toNat=c at *
          go_wp2
          go_roundw
          case rel=>exact ⟨k+1,by omega,by go_num,Hset.out,o.setCell hB _⟩
          case measure=>simp [intOf];omega
        · obtain rfl : k = rest.length := by omega
          have u:Oq wr (w.heap.size+1) (Pf (Bj rest)):=by
            have M:(Bj rest).take rest.length=Bj rest:=AR (by rw [EP];omega)
            have O:rest.drop rest.length=[]:=by simp
            rw [M,O] at b
            simpa [AI] using b
          have Hrow3:=Ev u;clear b u
          have l:=EP rest
          have g:=Px rest H4.out
          have Hdl:=Ev l;have Hdd:=Ev g;clear l g
          generalize Bj rest=d0 at *
          generalize D2 t=n0 at *
          obtain ⟨wo,rfl⟩:∃ wo:World,wo=wr:=⟨_,rfl⟩
          go_wp2
          go_loopw [8,46] (λn i wr=>∃ (k:Nat) (N:Int) (d:List Nat),k<=16/\i=.int .i64 k/\n=.int .i64 N/\0<=N/\N+1<=100000 * 2 ^ k/\d.length=rest.length/\(∀ x∈d,x<10)/\Oq wr (w.heap.size+1) (Pf d)/\Below w.heap.size w wr/\FV (16-k) N d=FV 16 n0 d0) (λ_ i _=>16-(intOf i).toNat)
          case atStart=>exact ⟨0,n0,d0,by omega,rfl,rfl,by omega,by simp;omega,Hdl.out,Hdd.out,Hrow3.out,o,rfl⟩
          case round =>
            obtain ⟨k,N,d,hk,rfl,rfl,U,A,l,g,a,f,B⟩:=hrel
            have F:(2:Int) ^ k<=65536:=by
              have h:=Nat.pow_le_pow_right (show 0<2 by decide) hk
              have h2:((2 ^ k:Nat):Int)<=((2 ^ 16:Nat):Int):=by exact_mod_cast h
              simpa using h2
            have V:N<6553600000:=by omega
            have X:=Pa d g
            have P:=f.size
            have Hrr:=Ev B;have Hdl2:=Ev l;have Hdd2:=Ev g;have HN1:=Ev A
            have Hrow:=Ev a
            clear B l g A a o F
            by_cases hk16:k<16
            · go_wp2_with (go_at_call 159; go_must (refine (M7 _ _ _ d _ Hdl2.out Hrow.out Hdd2.out h2 w.heap.size hB).mono ?_); rintro e H ⟨rfl, j, hb4⟩)
              go_roundw
              case rel =>
                refine ⟨k+1,2 * N+(J5 d).2,(J5 d).1,by omega,by go_num,by go_num,by omega,?_,by rw [Q9];exact Hdl2.out,RD d,j,f.trans hb4,?_⟩
                · have := HN1.out
                  rw [Int.pow_succ];omega
                · rw [<- Hrr.out,show 16-k=(16-(k+1))+1 from by omega];rfl
              case measure=>simp [intOf];omega
            · obtain rfl : k = 16 := by omega
              have C:(FV 16 n0 d0)=(N,d):=by rw [<- Hrr.out];rfl
              have Hrd:=Ev C;clear C
              cases minus with
              | true =>
                go_wp2_with first | (go_at_call 159;go_must (refine (M7 _ _ _ d _ Hdl2.out Hrow.out Hdd2.out h2 w.heap.size hB).mono ?_);rintro e H ⟨rfl,j,hb4⟩) | (go_at_call 111;go_must (refine (IV _ _).mono ?_);rintro e Q ⟨rfl,rfl⟩)
                go_ret2
                refine ⟨?_,f.trans hb4⟩
                rw [Hv.out,Hrd.out];rfl
              | false =>
                go_wp2_with first | (go_at_call 159;go_must (refine (M7 _ _ _ d _ Hdl2.out Hrow.out Hdd2.out h2 w.heap.size hB).mono ?_);rintro e H ⟨rfl,j,hb4⟩) | (go_at_call 111;go_must (refine (IV _ _).mono ?_);rintro e Q ⟨rfl,rfl⟩)
                go_ret2
                refine ⟨?_,f.trans hb4⟩
                rw [Hv.out,Hrd.out];rfl
end
section
theorem Ru (l:l8_) (n:Nat):(bs l).extract 0 n=bs (l.take n):=by rw [JE];simp
theorem Rv (l:l8_) (n m:Nat) (h:m=l.length):(bs l).extract n m=bs (l.drop n):=by
 subst h;rw [JE,AR (by simp)]
end
section
def Hr (digits:l8_) (p:Int):l8_:=digits.take p.toNat++List.replicate (p.toNat-digits.length) 48
def IM (digits:l8_) (p:Int):l8_:=List.replicate (-p).toNat 48++digits.drop p.toNat
theorem Xz (a b:l8_):D2 a<=D2 (a++b):=by
 unfold D2
 rw [List.foldl_append]
 generalize a.foldl (λn c=>10 * n+(c.toNat-48)) 0=n
 induction b generalizing n with
 | nil=>simp
 | cons c r ih =>
  rw [DD]
  exact AW oO (ih _)
theorem MT (l:l8_) (k:Nat):D2 (l.take k)<=D2 l:=by
 conv=>rhs;rw [<- HG k l]
 exact Xz _ _
theorem R4 (l:l8_):D2 (l.dropWhile (· == 48))=D2 l:=by
 induction l with
 | nil=>rfl
 | cons c r ih =>
  rw [List.dropWhile_cons]
  split
  ·
   next h =>
   rw [ih]
   have:c=48:=by simpa using h
   subst this
   simp [D2]
  · rfl
theorem R6 (l:l8_) (n:Nat):n * 10 ^ l.length<=l.foldl (λn c=>10 * n+(c.toNat-48)) n:=by
 induction l generalizing n with
 | nil=>simp
 | cons c r ih =>
  rw [DD,A8,Nat.pow_succ]
  refine AW ?_ (ih _)
  rw [Nat.mul_comm (10 ^ r.length) 10,<- Nat.mul_assoc]
  exact Cm _ oO
theorem Zm (l:l8_) (h:∀ c∈l,BS c=true):5<(l.dropWhile (· == 48)).length↔99999<D2 l:=by
 rw [<- R4 l]
 have ht:∀ c∈l.dropWhile (· == 48),BS c=true:=λc hc=>h c (List.dropWhile_sublist _ |>.subset hc)
 constructor
 ·
  intro hl
  cases hd:l.dropWhile (· == 48) with
  | nil=>rw [hd] at hl;simp at hl
  | cons c r =>
   have hc:(c == 48)=false:=by
    have:=List.head_dropWhile_not (p:=(· == 48)) (l:=l) (by rw [hd];simp)
    simpa [hd] using this
   have e:=FW (ht c (by rw [hd];simp))
   have a:c≠48:=by simpa using hc
   have f:1<=c.toNat-48:=by
    rcases BU 48 c.toNat with h' | h'
    · omega
    · exact CM (UInt8.toNat_inj.1 (by show c.toNat=48;omega)) a
   rw [hd] at hl
   simp only [A8] at hl
   have b:=R6 r (10 * 0+(c.toNat-48))
   have d:1 * 10 ^ 5<=(10 * 0+(c.toNat-48)) * 10 ^ r.length:=Nat.mul_le_mul oO (Nat.pow_le_pow_right dD oO)
   unfold D2
   rw [DD]
   omega
 ·
  intro hn
  rcases BU 5 (l.dropWhile (· == 48)).length with h' | h'
  · exact h'
  ·
   have b:=KB _ ht
   have d:10 ^ (l.dropWhile (· == 48)).length<=10 ^ 5:=Nat.pow_le_pow_right dD h'
   omega
theorem S2 (k:Nat):∀ (n:Int) (d:List Nat),(∀ x∈d,x<10)->∀ x∈(FV k n d).2,x<10:=by
 induction k with
 | zero=>intro n d h;exact h
 | succ k ih=>intro n d h;exact ih _ _ (RD d)
end
section
theorem P8 (minus:Bool) (whole rest:l8_) (w:World) (h2:rest.length<=3000) (h3:∀ c∈whole,BS c=true) (h4:∀ c∈rest,BS c=true) :
    Calls Tryz.prog 124 #[.bool minus,.string (bs whole),.string (bs rest)] w λe w'=>e=.returned (.tuple #[.int .i64 (Gc minus whole rest).1,.bool (Gc minus whole rest).2])/\Below w.heap.size w w':=by
  by_cases hb:5<(whole.dropWhile (· == 48)).length
  · have hv : Gc minus whole rest = (0, false) := by unfold Gc Xi; rw [A6 hb]
    rw [hv]
    exact Sm minus whole rest w hb
  · exact Sl minus whole rest w oO h2 h3 h4
def LT (l:l8_):Int × Bool :=
 if HT (AL l).2 then
  (if (Gc (AL l).1 (Cf (AL l).2).1 (Cf (AL l).2).2.1).2 then ((Gc (AL l).1 (Cf (AL l).2).1 (Cf (AL l).2).2.1).1,true) else (0,false))
 else (0,false)
theorem IJ (l:l8_):(AL l).2.length<=l.length:=by
 cases l with
 | nil=>simp [AL]
 | cons c r =>
  simp only [AL]
  split
  · simp
  · split <;> simp
theorem Kg (l:l8_) (h:HT l=true):(∀ c∈(Cf l).1,BS c=true)/\(∀ c∈(Cf l).2.1,BS c=true):=by
 simp only [HT,A3,Au] at h
 exact ⟨h.1.1,h.1.2⟩
theorem RB (l:l8_) (w:World) (hl:64<l.length) :
  Calls Tryz.prog 94 #[.string (bs l)] w λe w'=>e=.returned (.tuple #[.int .i64 0,.bool false])/\w=w':=by
 have hs:=BE l
 go_enter func94,ntmps94
 go_wp2_with fail
 go_ret2
 exact ⟨rfl,rfl⟩
theorem PS (l:l8_) (w:World) (hl:l.length<=64) :
  Calls Tryz.prog 94 #[.string (bs l)] w λe w'=>e=.returned (.tuple #[.int .i64 (LT l).1,.bool (LT l).2])/\Below w.heap.size w w':=by
 have hs:=BE l
 have hS:=λw=>JC l w oO
 have b:=IJ l
 have hP:LT l=(if HT (AL l).2 then (if (Gc (AL l).1 (Cf (AL l).2).1 (Cf (AL l).2).2.1).2 then ((Gc (AL l).1 (Cf (AL l).2).1 (Cf (AL l).2).2.1).1,true) else (0,false)) else (0,false)):=rfl
 generalize AL l=sr at *
 obtain ⟨m,r⟩:=sr
 simp only at hP hS b
 have hM:=λw=>L8 r w oO
 have c:=Lb r
 have a:=Kg r
 generalize HT r=ok at *
 generalize Cf r=p at *
 obtain ⟨A,B,f⟩:=p
 simp only at hP hM a c
 cases ok with
 | false =>
  rw [A1 dD] at hP
  have HP:=Ev hP;clear hP a
  go_enter func94,ntmps94
  go_wp2_with first | (go_at_call 122;go_must (refine (hS _).mono ?_);rintro e d ⟨rfl,hb1⟩) | (go_at_call 123;go_must (refine (hM _).mono ?_);rintro e g ⟨rfl,hb2⟩)
  go_ret2
  exact ⟨by rw [HP.out];rfl,DJ hb1 hb2⟩
 | true =>
  rw [A6 rfl] at hP
  obtain ⟨hA,hB⟩:=a rfl
  have hV:=λw=>P8 m A B w oO hA hB
  have HA:=Ev hA;have HB:=Ev hB;clear a hA hB
  generalize Gc m A B=v at *
  obtain ⟨n,fit⟩:=v
  simp only at hP hV
  have HP:=Ev hP;clear hP
  cases fit
  all_goals
   go_enter func94,ntmps94
   go_wp2_with first | (go_at_call 122;go_must (refine (hS _).mono ?_);rintro e d ⟨rfl,hb1⟩) | (go_at_call 123;go_must (refine (hM _).mono ?_);rintro e g ⟨rfl,hb2⟩) | (go_at_call 124;go_must (refine (hV _).mono ?_);rintro e i ⟨rfl,hb3⟩)
   go_ret2
   exact ⟨by rw [HP.out];rfl,DJ (DJ hb1 hb2) hb3⟩
theorem MO (digits:l8_) (p:Int) (h:∀ c∈digits,BS c=true):∀ c∈Hr digits p,BS c=true:=by
 intro c hc
 rw [Hr,Ba] at hc
 rcases hc with hc | hc
 · exact h c (Dv hc)
 · rw [List.mem_replicate] at hc;rw [hc.2];rfl
theorem NK (digits:l8_) (p:Int) (h:∀ c∈digits,BS c=true):∀ c∈IM digits p,BS c=true:=by
 intro c hc
 rw [IM,Ba] at hc
 rcases hc with hc | hc
 · rw [List.mem_replicate] at hc;rw [hc.2];rfl
 · exact h c (Eu hc)
def WT (m:Bool) (o:Option Int):Int × Bool :=
 match o with
 | none=>(0,false)
 | some n=>if Ao (if m then -n else n) then (if m then -n else n,true) else (0,false)
theorem ZX (l:l8_):LT l=if HT (AL l).2 then WT (AL l).1 (Xi (Cf (AL l).2).1 (Cf (AL l).2).2.1) else (0,false):=by
 unfold LT
 split
 ·
  unfold Gc WT
  cases Xi (Cf (AL l).2).1 (Cf (AL l).2).2.1 with
  | none=>rfl
  | some n =>
   simp only
 · rfl
end
section
def Ee (c:UInt8):Nat :=
 if 48<=c.toNat/\c.toNat<=57 then c.toNat-48 else if 97<=c.toNat/\c.toNat<=122 then c.toNat-87 else if 65<=c.toNat/\c.toNat<=90 then c.toNat-55 else 99
theorem A4D (c:UInt8):Ee c<=99:=by unfold Ee;split <;> (try split) <;> (try split) <;> omega
theorem E7 {k:IntKind} {a b:Int} (h:a=b):Ending.returned (.int k a)=.returned (.int k b):=by rw [h]
theorem A0y (c:UInt8) (w:World) :
    Calls Tryz.prog 160 #[.int .u8 (c.toNat:Int)] w λe w'=>e=.returned (.int .i64 (Ee c))/\w=w':=by
  have hc:c.toNat<256:=Ce c
  have hh:Ee c=if 48<=c.toNat/\c.toNat<=57 then c.toNat-48 else if 97<=c.toNat/\c.toNat<=122 then c.toNat-87 else if 65<=c.toNat/\c.toNat<=90 then c.toNat-55 else 99:=rfl
  have Hh:=Ev hh;clear hh
  generalize c.toNat=n at *
  by_cases h1:48<=n/\n<=57
  · obtain ⟨b, d⟩ := h1
    go_enter func160,ntmps160
    go_wp2
    go_ret
    exact ⟨E7 (by rw [Hh.out,A6 ⟨b,d⟩];omega),rfl⟩
  · have a : n < 48 ∨ 57 < n := by omega
    by_cases h2:97<=n/\n<=122
    · obtain ⟨f, g⟩ := h2
      have H1:=Ev h1;clear h1 a
      go_enter func160,ntmps160
      go_wp2
      go_ret
      exact ⟨E7 (by rw [Hh.out,A1 H1.out,A6 ⟨f,g⟩];omega),rfl⟩
    · have i : n < 97 ∨ 122 < n := by omega
      by_cases h3:65<=n/\n<=90
      · obtain ⟨j, k⟩ := h3
        have H1:=Ev h1;have H2:=Ev h2;clear h1 a h2 i
        go_enter func160,ntmps160
        go_wp2
        go_ret
        exact ⟨E7 (by rw [Hh.out,A1 H1.out,A1 H2.out,A6 ⟨j,k⟩];omega),rfl⟩
      · have l : n < 65 ∨ 90 < n := by omega
        have H1:=Ev h1;have H2:=Ev h2;have H3:=Ev h3;clear h1 h2 h3
        go_enter func160,ntmps160
        go_wp2
        all_goals
          go_ret
          exact ⟨E7 (by rw [Hh.out,A1 H1.out,A1 H2.out,A1 H3.out];rfl),rfl⟩
def JS (l:l8_):Nat:=l.foldl (λn c=>min (10 * n+(c.toNat-48)) 1099511627776) 0
def Gu (l:l8_):Int × Bool :=
 if (AL l).2.isEmpty || !(AL l).2.all BS then (0,false)
 else let n:Int:=if (AL l).1 then -(JS (AL l).2:Int) else JS (AL l).2
  (n,decide (-2147483648<=n) && decide (n<=2147483647))
def In (l:l8_):Int × Bool :=
 if (AL l).2.isEmpty || decide (3<(AL l).2.length) || !(AL l).2.all BS then (0,false)
 else (if (AL l).1 then -(D2 (AL l).2:Int) else D2 (AL l).2,true)
theorem X6 (l:l8_) (c:UInt8):JS (l++[c])=min (10 * JS l+(c.toNat-48)) 1099511627776:=by simp [JS]
theorem X5 (l:l8_) (k:Nat) (h:k<l.length):JS (l.take (k+1))=min (10 * JS (l.take k)+(l[k].toNat-48)) 1099511627776:=by
 rw [B7 h,X6]
theorem X7 (l:l8_):∀ n,n<=1099511627776->l.foldl (λn c=>min (10 * n+(c.toNat-48)) 1099511627776) n=min (l.foldl (λn c=>10 * n+(c.toNat-48)) n) 1099511627776:=by
 induction l with
 | nil=>intro n h;simp;omega
 | cons c r ih =>
  intro n h
  rw [DD,DD,ih _ oO]
  by_cases hb:10 * n+(c.toNat-48)<=1099511627776
  · rw [Nat.min_eq_left hb]
  ·
   have a:=R6 r (min (10 * n+(c.toNat-48)) 1099511627776)
   have d:=R6 r (10 * n+(c.toNat-48))
   have b:1<=10 ^ r.length:=Nat.one_le_pow _ _ dD
   have e:min (10 * n+(c.toNat-48)) 1099511627776=1099511627776:=by omega
   rw [e] at a ⊢
   have f:1099511627776 * 1<=1099511627776 * 10 ^ r.length:=Nat.mul_le_mul_left _ b
   have g:1099511627776 * 10 ^ r.length<=(10 * n+(c.toNat-48)) * 10 ^ r.length:=Cm _ oO
   omega
theorem UY (l:l8_):JS l=min (D2 l) 1099511627776:=X7 l 0 oO
theorem A42 {a b:Int} {c d:Bool} (h:a=b) (h':c=d):Ending.returned (.tuple #[.int .i64 a,.bool c])=Ending.returned (.tuple #[.int .i64 b,.bool d]):=by rw [h,h']
theorem P7 (l : l8_) (w : World) (hl : l.length ≤ 1000) :
    Calls Tryz.prog 126 #[.string (bs l)] w λe w'=>e=.returned (.tuple #[.int .i64 (Gu l).1,.bool (Gu l).2])/\Below w.heap.size w w':=by
  have hS:=λw=>JC l w oO
  have g:=IJ l
  have hW:Gu l=(if (AL l).2.isEmpty || !(AL l).2.all BS then (0,false) else let n:Int:=if (AL l).1 then -(JS (AL l).2:Int) else JS (AL l).2
    (n,decide (-2147483648<=n) && decide (n<=2147483647))):=rfl
  generalize AL l=sr at *
  obtain ⟨m,r⟩:=sr
  simp only at hW hS g
  have hs:=BE r
  have hT:=G9
  cases r with
  | nil =>
    have HW:=Ev hW;clear hW
    go_enter func126,ntmps126
    go_wp2_with (go_at_call 122;go_must (refine (hS _).mono ?_);rintro e j ⟨rfl,hb1⟩)
    go_ret2
    exact ⟨by rw [HW.out];rfl,hb1⟩
  | cons c0 r0 =>
    have t:=A39 c0 r0
    have hI:(c0::r0).isEmpty=false:=rfl
    rw [hI,Bool.false_or] at hW
    clear hI hT
    have a:=λw=>GO (c0::r0) w oO
    generalize c0::r0=r at *
    cases hall:r.all BS with
    | false =>
      rw [hall,A6 dD] at hW
      rw [hall] at a
      have HW:=Ev hW;clear hW hall
      go_enter func126,ntmps126
      go_wp2_with first | (go_at_call 122;go_must (refine (hS _).mono ?_);rintro e j ⟨rfl,hb1⟩) | (go_at_call 157;go_must (refine (a _).mono ?_);rintro e q ⟨rfl,hb2⟩)
      go_ret2
      exact ⟨by rw [HW.out];rfl,DJ hb1 hb2⟩
    | true =>
      rw [hall,A1 dD] at hW
      rw [hall] at a
      have d:∀ c∈r,BS c=true:=Au.1 hall
      have HW:=Ev hW;have Hdig:=Ev d;clear hW d hall
      go_enter func126,ntmps126
      go_wp2_with first | (go_at_call 122;go_must (refine (hS _).mono ?_);rintro e j ⟨rfl,hb1⟩) | (go_at_call 157;go_must (refine (a _).mono ?_);rintro e q ⟨rfl,hb2⟩) | (refine EA rfl _ _ _ _ rfl Ju Bu Lk _ rfl ?_;intro cap v s f hg u)
      have hb3:=DJ (DJ hb1 hb2) (FI hg)
      have Hrow:=Ev f;clear f hg hb1 hb2 hS a
      go_loop [5,23] (λn i=>∃ k:Nat,k<=r.length/\i=.int .i64 k/\n=.int .i64 (JS (r.take k):Int)) (λ_ i=>r.length-(intOf i).toNat)
      case atStart=>exact ⟨0,Gg _,rfl,rfl⟩
      case round =>
        obtain ⟨k,hk,rfl,rfl⟩:=hrel
        have o:JS (r.take k)<=1099511627776:=by rw [UY];omega
        by_cases hkl:k<r.length
        · have b := X5 r k hkl
          have hd:=FW (Hdig.out r[k] (by simp))
          have hc:=(Hrow.out k _ (IY r k hkl)).1
          have Hstep:=Ev b;clear b
          generalize JS (r.take k)=N at *
          generalize r[k].toNat=c at *
          go_wp2
          go_round
          case rel=>exact ⟨k+1,by omega,by go_num,by rw [Hstep.out];go_num⟩
          case measure=>simp [intOf];omega
        · obtain rfl : k = r.length := by omega
          rw [Cs] at o ⊢
          clear Hrow
          generalize JS r=N at *
          cases m
          all_goals
            go_wp2
            all_goals
              go_ret2
              refine ⟨?_,hb3⟩
              rw [HW.out]
              refine A42 rfl ?_
              rw [AU]
              simp
              try omega
theorem A0x (l:l8_) (w:World) (hl:l.length<=1000) :
    Calls Tryz.prog 128 #[.string (bs l)] w λe w'=>e=.returned (.tuple #[.int .i64 (In l).1,.bool (In l).2])/\Below w.heap.size w w':=by
  have hS:=λw=>JC l w oO
  have j:=IJ l
  have hW:In l=(if (AL l).2.isEmpty || decide (3<(AL l).2.length) || !(AL l).2.all BS then (0,false) else (if (AL l).1 then -(D2 (AL l).2:Int) else D2 (AL l).2,true)):=rfl
  generalize AL l=sr at *
  obtain ⟨m,r⟩:=sr
  simp only at hW hS j
  have hs:=BE r
  have hT:=G9
  cases r with
  | nil =>
    have HW:=Ev hW;clear hW
    go_enter func128,ntmps128
    go_wp2_with (go_at_call 122;go_must (refine (hS _).mono ?_);rintro e o ⟨rfl,hb1⟩)
    go_ret2
    exact ⟨by rw [HW.out];rfl,hb1⟩
  | cons c0 r0 =>
    have u:=A39 c0 r0
    have hI:(c0::r0).isEmpty=false:=rfl
    rw [hI,Bool.false_or] at hW
    clear hI hT
    have a:=λw=>GO (c0::r0) w oO
    generalize c0::r0=r at *
    by_cases h3:3<r.length
    · rw [Aj h3, Bool.true_or, A6 rfl] at hW
      have HW:=Ev hW;clear hW
      go_enter func128,ntmps128
      go_wp2_with first | (go_at_call 122;go_must (refine (hS _).mono ?_);rintro e o ⟨rfl,hb1⟩) | (go_at_call 157;go_must (refine (a _).mono ?_);rintro e q ⟨rfl,hb2⟩)
      go_ret2
      exact ⟨by rw [HW.out];rfl,hb1⟩
    · rw [Al h3, Bool.false_or] at hW
      cases hall:r.all BS with
      | false =>
        rw [hall,A6 dD] at hW
        rw [hall] at a
        have HW:=Ev hW;clear hW hall
        go_enter func128,ntmps128
        go_wp2_with first | (go_at_call 122;go_must (refine (hS _).mono ?_);rintro e o ⟨rfl,hb1⟩) | (go_at_call 157;go_must (refine (a _).mono ?_);rintro e q ⟨rfl,hb2⟩)
        go_ret2
        exact ⟨by rw [HW.out];rfl,DJ hb1 hb2⟩
      | true =>
        rw [hall,A1 dD] at hW
        rw [hall] at a
        have d:∀ c∈r,BS c=true:=Au.1 hall
        have HW:=Ev hW;have Hdig:=Ev d;clear hW d hall
        go_enter func128,ntmps128
        go_wp2_with first | (go_at_call 122;go_must (refine (hS _).mono ?_);rintro e o ⟨rfl,hb1⟩) | (go_at_call 157;go_must (refine (a _).mono ?_);rintro e q ⟨rfl,hb2⟩) | (refine EA rfl _ _ _ _ rfl Ju Bu Lk _ rfl ?_;intro cap x t f hg v)
        have hb3:=DJ (DJ hb1 hb2) (FI hg)
        have Hrow:=Ev f;clear f hg hb1 hb2 hS a
        have g:∀ k,D2 (r.take k)<1000:=by
          intro k
          have y:=MT r k
          have A:=KB r Hdig.out
          have B:10 ^ r.length<=10 ^ 3:=Nat.pow_le_pow_right dD oO
          omega
        have Hnat:=Ev g;clear g
        go_loop [5,28] (λn i=>∃ k:Nat,k<=r.length/\i=.int .i64 k/\n=.int .i64 (D2 (r.take k):Int)) (λ_ i=>r.length-(intOf i).toNat)
        case atStart=>exact ⟨0,Gg _,rfl,rfl⟩
        case round =>
          obtain ⟨k,hk,rfl,rfl⟩:=hrel
          have s:=Hnat.out k
          by_cases hkl:k<r.length
          · have b := L2 r k hkl
            have hd:=FW (Hdig.out r[k] (by simp))
            have hc:=(Hrow.out k _ (IY r k hkl)).1
            have Hstep:=Ev b;clear b
            generalize D2 (r.take k)=N at *
            generalize r[k].toNat=c at *
            go_wp2
            go_round
            case rel=>exact ⟨k+1,by omega,by go_num,by rw [Hstep.out];go_num⟩
            case measure=>simp [intOf];omega
          · obtain rfl : k = r.length := by omega
            rw [Cs] at s ⊢
            clear Hrow Hnat
            generalize D2 r=N at *
            cases m
            all_goals
              go_wp2
              go_ret2
              exact ⟨by rw [HW.out];rfl,hb3⟩
theorem Xd (c:UInt8) (k:Nat):Lib.repeatL [c] k=List.replicate k c:=by
 induction k with
 | zero=>rfl
 | succ k ih=>rw [Lib.repeatL,ih];rfl
theorem A5f (k:Nat) (w:World) (hk:k<=100000) :
  Calls Tryz.prog 164 #[.string ⟨#[48]⟩,.int .i64 k] w λe w'=>e=.returned (.string (bs (List.replicate k 48)))/\Below w.heap.size w w':=by
 rw [<- Xd]
 exact Tryz.strings_Repeat ⟨#[48]⟩ k w oO (by show 1 * k<=_;omega)
theorem Xb {a b a' b':ByteArray} (h1:a=a') (h2:b=b'):Ending.returned (.tuple #[.string a,.string b])=Ending.returned (.tuple #[.string a',.string b']):=by
 rw [h1,h2]
theorem Tr (A B:l8_) (k:Int) (w:World) (hA:A.length+B.length<=1000) (hk:-2000<=k) (hk2:k<=2000) :
    Calls Tryz.prog 129 #[.string (bs A),.string (bs B),.int .i64 k] w λe w'=>e=.returned (.tuple #[.string (bs (Hr (A++B) (A.length+k))),.string (bs (IM (A++B) (A.length+k)))])/\Below w.heap.size w w':=by
  have sA:=BE A
  have sB:=BE B
  have l:=FH A B
  have q:(bs (A++B)).size=A.length+B.length:=by rw [BE];simp
  have a:(A++B).length=A.length+B.length:=by simp
  by_cases h1:(A.length:Int)+k<0
  · have hZ := fun w => A5f (-((A.length : Int) + k)).toNat w oO
    have i:(((-((A.length:Int)+k)).toNat:Nat):Int)=-((A.length:Int)+k):=by omega
    rw [i] at hZ
    have eW:Hr (A++B) (A.length+k)=[]:=by
      unfold Hr
      have:((A.length:Int)+k).toNat=0:=by omega
      rw [this];simp
    have eR:IM (A++B) (A.length+k)=List.replicate (-((A.length:Int)+k)).toNat 48++(A++B):=by
      unfold IM
      have:((A.length:Int)+k).toNat=0:=by omega
      rw [this];rfl
    have d:=BE (List.replicate (-((A.length:Int)+k)).toNat (48:UInt8))
    rw [HH] at d
    have m:(bs (List.replicate (-((A.length:Int)+k)).toNat (48:UInt8))).size<=3000:=by rw [d];omega
    have EW:=Ev eW;have ER:=Ev eR;clear eW eR i d
    generalize List.replicate (-((A.length:Int)+k)).toNat (48:UInt8)=Z at *
    have c:=FH Z (A++B)
    have Hcat2:=Ev c;clear c a
    generalize A++B=C at *
    go_enter func129,ntmps129
    go_wp2_with (go_at_call 164;go_must (refine (hZ _).mono ?_);rintro e o ⟨rfl,hb1⟩)
    go_ret2
    exact ⟨Xb (by rw [EW.out];rfl) (by rw [ER.out];exact Hcat2.out),hb1⟩
  · by_cases h2 : (A.length : Int) + (B.length : Int) < (A.length : Int) + k
    · have hZ := fun w => A5f (((A.length : Int) + k) - ((A.length : Int) + (B.length : Int))).toNat w oO
      have i:(((((A.length:Int)+k)-((A.length:Int)+(B.length:Int))).toNat:Nat):Int)=((A.length:Int)+k)-((A.length:Int)+(B.length:Int)):=by omega
      rw [i] at hZ
      have b:(A++B++List.replicate (((A.length:Int)+k)-((A.length:Int)+(B.length:Int))).toNat (48:UInt8)).length=((A.length:Int)+k).toNat:=by
        simp;omega
      have eW:Hr (A++B) (A.length+k)=A++B++List.replicate (((A.length:Int)+k)-((A.length:Int)+(B.length:Int))).toNat 48:=by
        unfold Hr
        rw [AR (by rw [a];omega)]
        congr 2;rw [a];omega
      have eR:IM (A++B) (A.length+k)=[]:=by
        unfold IM
        have:(-((A.length:Int)+k)).toNat=0:=by omega
        rw [this,B9 (by rw [a];omega)];rfl
      have d:(bs (List.replicate (((A.length:Int)+k)-((A.length:Int)+(B.length:Int))).toNat (48:UInt8))).size<=3000:=by rw [BE];simp;omega
      have EW:=Ev eW;have ER:=Ev eR;clear eW eR
      generalize List.replicate (((A.length:Int)+k)-((A.length:Int)+(B.length:Int))).toNat (48:UInt8)=Z at *
      have c:=FH (A++B) Z
      have j:=BE (A++B++Z)
      have f:=Ru (A++B++Z) ((A.length:Int)+k).toNat
      have g:=Rv (A++B++Z) ((A.length:Int)+k).toNat ((A.length:Int)+k).toNat b.symm
      rw [<- b,Cs,b] at f
      rw [<- b,F3,b] at g
      rw [b] at j
      clear i a
      have s:((((A.length:Int)+k).toNat:Nat):Int)=(A.length:Int)+k:=by omega
      generalize A++B=C at *
      generalize C++Z=D at *
      clear b
      go_enter func129,ntmps129
      go_wp2_with (go_at_call 164;go_must (refine (hZ _).mono ?_);rintro e o ⟨rfl,hb1⟩)
      have X1:=Ev f;have X2:=Ev g;clear f g
      go_quiet (fail)
      go_wp2
      go_ret2
      exact ⟨Xb (by rw [EW.out];exact X1.out) (by rw [ER.out];rfl),hb1.trans (Pc _ _ |>.mono hb1.size)⟩
    · have eW : Hr (A ++ B) (A.length + k) = (A ++ B).take ((A.length : Int) + k).toNat := by
        unfold Hr
        rw [show ((A.length:Int)+k).toNat-(A++B).length=0 from by rw [a];omega];simp
      have eR:IM (A++B) (A.length+k)=(A++B).drop ((A.length:Int)+k).toNat:=by
        unfold IM
        have:(-((A.length:Int)+k)).toNat=0:=by omega
        rw [this];rfl
      have f:=Ru (A++B) ((A.length:Int)+k).toNat
      have g:=Rv (A++B) ((A.length:Int)+k).toNat (A.length+B.length) a.symm
      have EW:=Ev eW;have ER:=Ev eR;have X1:=Ev f;have X2:=Ev g;clear eW eR f g a
      generalize A++B=C at *
      go_enter func129,ntmps129
      go_wp2_with fail
      go_quiet (fail)
      go_wp2
      go_ret2
      exact ⟨Xb (by rw [EW.out];exact X1.out) (by rw [ER.out];exact X2.out),Pc _ _⟩
end
section
theorem Om  {W:World} (hb:Below W.heap.size W w1):(∀ b o,b<W.heap.size->w1.cell? ⟨b,o,none⟩=W.cell? ⟨b,o,none⟩)/\(∀ b o,b<W.heap.size->w1.frozen? ⟨b,o,none⟩=W.frozen? ⟨b,o,none⟩) :=
 ⟨λb o h=>hb.cell (p:=⟨b,o,none⟩) h,λb o h=>hb.frozen (p:=⟨b,o,none⟩) h⟩
theorem FJ  {o:Obj} (hb:Below (w.alloc o).heap.size (w.alloc o) w1):Below w.heap.size w w1 :=
 ((EM _ _).alloc (FL _) o).trans (hb.mono (by simp))
theorem I1 {w w1:World} (hb:Below w.heap.size w w1) (a b c:Value):Below w.heap.size w (((w1.setCell ⟨w.heap.size,0,none⟩ a).setCell ⟨w.heap.size,1,none⟩ b).setCell ⟨w.heap.size,2,none⟩ c) :=
 ((hb.setCell (p:=⟨w.heap.size,0,none⟩) (FL _) _).setCell (p:=⟨w.heap.size,1,none⟩) (FL _) _).setCell (p:=⟨w.heap.size,2,none⟩) (FL _) _
def IX (x:UInt8):l8_->l8_ × l8_ × Bool
 | []=>([],[],false)
 | c::r=>if c=x then ([],r,true) else (c::(IX x r).1,(IX x r).2)
theorem W4 (x:UInt8) (B:l8_):∀ A:l8_,x ∉ A->IX x (A++x::B)=(A,B,true)
 | [],_=>by simp [IX]
 | c::A,h=>by
  simp only [Ar,not_or] at h
  have ih:=W4 x B A h.2
  simp [IX,ih,Ne.symm h.1]
theorem Up (x:UInt8):∀ l:l8_,x ∉ l->IX x l=(l,[],false)
 | [],_=>rfl
 | c::l,h=>by
  simp only [Ar,not_or] at h
  have ih:=Up x l h.2
  simp [IX,ih,Ne.symm h.1]
theorem W5 (x:UInt8) (l:l8_):(IX x l).1.length+(IX x l).2.1.length<=l.length:=by
 induction l with
 | nil=>simp [IX]
 | cons c r ih=>unfold IX;split <;> simp;omega
theorem YC (x:UInt8) (l:l8_) (w:World) (hl:l.length<=100000000) :
  Calls Tryz.prog 156 #[.string (bs l),.string ⟨#[x]⟩] w λe w'=>e=.returned (.tuple #[.string (bs (IX x l).1),.string (bs (IX x l).2.1),.bool (IX x l).2.2])/\Below w.heap.size w w':=by
 by_cases h:x∈l
 ·
  obtain ⟨A,B,rfl,hA⟩:=Qp x l h
  rw [W4 x B A hA];exact W6 A B x w hl hA
 · rw [Up x l h];exact YV l x w h
structure GG where
 kind:Int
 n:Int
 ok:Bool
 e:Int
def GG.val (t:GG):Value:=.tuple #[.agg #[.int .i64 t.kind,.int .i64 t.n,.string ⟨#[]⟩],.bool t.ok,.int .i64 t.e]
def CA:GG:=⟨0,0,false,0⟩
def GZ:GG:=⟨0,0,true,9⟩
def Ih (n:Int):GG:=⟨1,n,true,0⟩
def Mj (n:Int):GG:=⟨2,n,true,0⟩
def FC (base:Nat):l8_->Nat->Bool->Option (Nat × Bool)
 | [],n,over=>some (n,over)
 | c::r,n,over=>if base<=Ee c then none else if 4294967296<=n * base+Ee c then FC base r 0 true else FC base r (n * base+Ee c) over
def H8:Option (Nat × Bool)->GG
 | none=>CA
 | some (n,over)=>if over then GZ else Ih (if 2147483648<=n then (n:Int)-4294967296 else n)
def JU (l:l8_):Bool:=(IX 35 l).2.2 && !(IX 35 l).1.isEmpty && decide ((IX 35 l).1.length<=2) && (IX 35 l).1.all BS && !(IX 35 l).2.1.isEmpty
theorem So (l:l8_) (w:World) (hl:l.length<=1000) (hno:JU l=false) :
    Calls Tryz.prog 125 #[.string (bs l)] w λe w'=>e=.returned CA.val/\Below w.heap.size w w':=by
  have hC:=λw=>YC 35 l w oO
  have m:=W5 35 l
  unfold JU at hno
  generalize IX 35 l=p at *
  obtain ⟨A,B,f⟩:=p
  simp only at hno hC m
  have sA:=BE A
  cases f with
  | false =>
    clear hno
    go_enter func125,ntmps125
    go_wp2_with (go_at_call 156;go_must (refine (hC _).mono ?_);rintro e j ⟨rfl,hb1⟩;obtain ⟨b,d⟩:=Om hb1;have a:=hb1.size;simp at a;replace a:=D9 a)
    exact Cv (v:=CA.val) (by simp [results,Tryz.results125,go_sem,b,GG.val,CA]) rfl ⟨rfl,I1 (FJ hb1) _ _ _⟩
  | true =>
    simp only [Cx] at hno
    have sB:=BE B
    have hT:=G9
    by_cases hA0:A.isEmpty=true
    · obtain rfl : A = [] := by simpa using hA0
      clear hno hA0
      go_enter func125,ntmps125
      go_wp2_with (go_at_call 156;go_must (refine (hC _).mono ?_);rintro e j ⟨rfl,hb1⟩;obtain ⟨b,d⟩:=Om hb1;have a:=hb1.size;simp at a;replace a:=D9 a)
      exact Cv (v:=CA.val) (by simp [results,Tryz.results125,go_sem,b,GG.val,CA]) rfl ⟨rfl,I1 (FJ hb1) _ _ _⟩
    · have c : A.isEmpty = false := by simpa using hA0
      have t:(bs A).toList.isEmpty=false:=by rw [G9];exact c
      rw [c] at hno
      by_cases hA2:2<A.length
      · clear hno hA0 c hT
        go_enter func125,ntmps125
        go_wp2_with (go_at_call 156;go_must (refine (hC _).mono ?_);rintro e j ⟨rfl,hb1⟩;obtain ⟨b,d⟩:=Om hb1;have a:=hb1.size;simp at a;replace a:=D9 a)
        exact Cv (v:=CA.val) (by simp [results,Tryz.results125,go_sem,b,GG.val,CA]) rfl ⟨rfl,I1 (FJ hb1) _ _ _⟩
      · have g := fun w => GO A w oO
        cases hall:A.all BS with
        | false =>
          rw [hall] at g
          clear hno hA0 c hall hT
          go_enter func125,ntmps125
          go_wp2_with first | (go_at_call 156;go_must (refine (hC _).mono ?_);rintro e j ⟨rfl,hb1⟩;obtain ⟨b,d⟩:=Om hb1;have a:=hb1.size;simp at a;replace a:=D9 a) | (go_at_call 157;go_must (refine (g _).mono ?_);rintro e s ⟨rfl,hb2⟩;obtain ⟨i,o⟩:=Om hb2;have q:=hb2.size)
          exact Cv (v:=CA.val) (by simp [results,Tryz.results125,go_sem,b,i,a,GG.val,CA]) rfl ⟨rfl,I1 (DJ (FJ hb1) hb2) _ _ _⟩
        | true =>
          rw [hall] at g hno
          have k:decide (A.length<=2)=true:=by simp;omega
          rw [k] at hno
          obtain rfl:B=[]:=by simpa using hno
          have u:(bs []).toList.isEmpty=true:=by rw [G9];rfl
          clear hno hA0 c hall k hT
          go_enter func125,ntmps125
          go_wp2_with first | (go_at_call 156;go_must (refine (hC _).mono ?_);rintro e j ⟨rfl,hb1⟩;obtain ⟨b,d⟩:=Om hb1;have a:=hb1.size;simp at a;replace a:=D9 a) | (go_at_call 157;go_must (refine (g _).mono ?_);rintro e s ⟨rfl,hb2⟩;obtain ⟨i,o⟩:=Om hb2;have q:=hb2.size)
          exact Cv (v:=CA.val) (by simp [results,Tryz.results125,go_sem,b,i,a,GG.val,CA]) rfl ⟨rfl,I1 (DJ (FJ hb1) hb2) _ _ _⟩
theorem Ch  {w':World} {a b c:Value} {t:TypeId} (hb:Below (w.alloc (.cells #[a,b,c] t)).heap.size (w.alloc (.cells #[a,b,c] t)) w') :
  w'.cell? ⟨w.heap.size,0,none⟩=some a/\w'.cell? ⟨w.heap.size,1,none⟩=some b/\w'.cell? ⟨w.heap.size,2,none⟩=some c /\
  w'.frozen? ⟨w.heap.size,0,none⟩=false/\w'.frozen? ⟨w.heap.size,1,none⟩=false/\w'.frozen? ⟨w.heap.size,2,none⟩=false:=by
 have d:w.heap.size<(w.alloc (.cells #[a,b,c] t)).heap.size:=by simp
 rw [hb.cell (p:=⟨w.heap.size,0,none⟩) d,hb.cell (p:=⟨w.heap.size,1,none⟩) d,hb.cell (p:=⟨w.heap.size,2,none⟩) d,hb.frozen (p:=⟨w.heap.size,0,none⟩) d,hb.frozen (p:=⟨w.heap.size,1,none⟩) d,hb.frozen (p:=⟨w.heap.size,2,none⟩) d]
 refine ⟨?_,?_,?_,?_,?_,?_⟩ <;> go_simp
theorem QG (base:Nat) (B:l8_) (k n:Nat) (over:Bool) (h:k<B.length) :
  FC base (B.drop k) n over=if base<=Ee B[k] then none else if 4294967296<=n * base+Ee B[k] then FC base (B.drop (k+1)) 0 true else FC base (B.drop (k+1)) (n * base+Ee B[k]) over:=by
 rw [Ap h];rfl
def LS (A B:l8_):GG:=if D2 A<2\/36<D2 A then CA else H8 (FC (D2 A) B 0 false)
theorem Sn (l A B : l8_) (w : World) (hl : l.length ≤ 1000) (hcut : IX 35 l = (A, B, true)) (hA0 : A ≠ []) (hA2 : A.length ≤ 2) (hall : A.all BS = true) (hB0 : B ≠ []) :
    Calls Tryz.prog 125 #[.string (bs l)] w λe w'=>e=.returned (LS A B).val/\Below w.heap.size w w':=by
  have hC:=λw=>YC 35 l w oO
  have F:=W5 35 l
  rw [hcut] at hC F
  simp only at hC F
  clear hcut
  have sA:=BE A
  have sB:=BE B
  have M:(bs A).toList.isEmpty=false:=by rw [G9];cases A <;> simp at *
  have O:(bs B).toList.isEmpty=false:=by rw [G9];cases B <;> simp at *
  have x:=λw=>GO A w oO
  rw [hall] at x
  have q:∀ c∈A,BS c=true:=Au.1 hall
  have y:∀ k,D2 (A.take k)<100:=by
    intro k
    have h1:=MT A k
    have h2:=KB A q
    have h4:10 ^ A.length<=10 ^ 2:=Nat.pow_le_pow_right dD hA2
    omega
  have Hdig:=Ev q;have Hnat:=Ev y
  clear hA0 hB0 hall q y
  go_enter func125,ntmps125
  go_wp2_with first | (go_at_call 156;go_must (refine (hC _).mono ?_);rintro e w1 ⟨rfl,hb1⟩;obtain ⟨Q,R⟩:=Om hb1;have s:=hb1.size;simp at s;replace s:=D9 s) | (go_at_call 157;go_must (refine (x _).mono ?_);rintro e w2 ⟨rfl,hb2⟩;obtain ⟨T,U⟩:=Om hb2;have V:=hb2.size) | (refine EA rfl _ _ _ _ rfl Ju Bu Lk _ rfl ?_;intro cap w3 J g hg X)
  have m:Below (w.alloc (Obj.cells #[Value.int .i64 0,Value.int .i64 0,Value.string ⟨#[]⟩] 147)).heap.size (w.alloc (Obj.cells #[Value.int .i64 0,Value.int .i64 0,Value.string ⟨#[]⟩] 147)) w3:=DJ (DJ hb1 hb2) (FI hg)
  have Hrow:=Ev g
  clear Q R T U hb1 hb2 V g hg hC x M O J X s
  go_loop [8,46] (λn i=>∃ k:Nat,k<=A.length/\i=.int .i64 k/\n=.int .i64 (D2 (A.take k):Int)) (λ_ i=>A.length-(intOf i).toNat)
  case atStart=>exact ⟨0,Gg _,rfl,rfl⟩
  case round =>
    obtain ⟨k,hk,rfl,rfl⟩:=hrel
    have Y:=Hnat.out k
    by_cases hkl:k<A.length
    · have b := L2 A k hkl
      have hd:=FW (Hdig.out A[k] (by simp))
      have hc:=(Hrow.out k _ (IY A k hkl)).1
      have Hstep:=Ev b;clear b
      generalize D2 (A.take k)=N at *
      generalize A[k].toNat=c at *
      go_wp2
      go_round
      case rel=>exact ⟨k+1,by omega,by go_num,by rw [Hstep.out];go_num⟩
      case measure=>simp [intOf];omega
    · obtain rfl : k = A.length := by omega
      rw [Cs] at Y ⊢
      clear Hrow Hnat hkl
      generalize hgN:D2 A=N at *
      have HgN:=Ev hgN;clear hgN
      by_cases hbad:N<2\/36<N
      · have Hbad := Ev hbad
        obtain ⟨t,c1,u,f0,f1,f2⟩:=Ch m
        go_wp2
        all_goals exact Cv (v:=CA.val) (by simp [results,Tryz.results125,go_sem,t,c1,u,GG.val,CA]) rfl ⟨by rw [LS,HgN.out,A6 Hbad.out],I1 (FJ m) _ _ _⟩
      · have hb2 : 2 ≤ N := by omega
        have A7G:N<=36:=by omega
        have Hbad:=Ev hbad;clear hbad
        go_wp2_with (refine EA rfl _ _ _ _ rfl Ju Bu Lk _ rfl ?_;intro a1 w4 E g hg K)
        have j:=m.trans ((FI hg).mono m.size)
        obtain ⟨t,c1,u,f0,f1,f2⟩:=Ch j
        have Hrow:=Ev g
        clear g hg E K m
        have C:(if N<2\/36<N then CA else H8 (FC N B 0 false))=H8 (FC N B 0 false):=A1 Hbad.out
        have Hfin:=Ev C;clear C
        go_loop [11,12,67] (λn o i=>∃ (k:Nat) (f:Nat) (ov:Bool),k<=B.length/\i=.int .i64 k/\n=.int .i64 f/\o=.bool ov/\f<4294967296/\FC N (B.drop k) f ov=FC N B 0 false) (λ_ _ i=>B.length-(intOf i).toNat)
        case atStart=>exact ⟨0,0,false,Gg _,rfl,rfl,rfl,by omega,rfl⟩
        case round =>
          obtain ⟨k,f,ov,hk,rfl,rfl,rfl,a2,G⟩:=hrel
          have Hrr:=Ev G;clear G
          by_cases hkl:k<B.length
          · have b := QG N B k f ov hkl
            have hc:=(Hrow.out k _ (IY B k hkl)).1
            have hx:=A4D B[k]
            have hD:=λw=>A0y B[k] w
            generalize Ee B[k]=d at *
            generalize B[k]=c at *
            obtain ⟨P,hP⟩:∃ P:Nat,P=f * N:=⟨_,rfl⟩
            have a3:(f:Int) * (N:Int)=(P:Int):=by rw [hP,Int.natCast_mul]
            have a4:P<=154618822656:=by
              have h:=Nat.mul_le_mul (show f<=4294967296 by omega) A7G
              rw [<- hP] at h;omega
            rw [<- hP] at b
            have Hstep:=Ev b;clear b hP
            by_cases hdN:N<=d
            · go_wp2_with (go_at_call 160; go_must (refine (hD _).mono ?_); rintro e Z ⟨rfl, rfl⟩)
              refine Cv (v:=CA.val) (by simp [results,Tryz.results125,go_sem,t,c1,u,GG.val,CA]) rfl ⟨?_,I1 (FJ j) _ _ _⟩
              rw [LS,HgN.out,Hfin.out,<- Hrr.out,Hstep.out,A6 hdN];rfl
            · by_cases hov : 4294967296 ≤ P + d
              · have L : (4294967296 : Int) ≤ (P : Int) + (d : Int) := by omega
                have Hov:=Ev hov;clear hov
                go_wp2_with (go_at_call 160;go_must (refine (hD _).mono ?_);rintro e Z ⟨rfl,rfl⟩)
                go_round
                case rel=>exact ⟨k+1,0,true,by omega,by go_num,rfl,rfl,by omega,by rw [<- Hrr.out,Hstep.out,A1 hdN,A6 Hov.out]⟩
                case measure=>simp [intOf];omega
              · have L : decide ((4294967296 : Int) ≤ (P : Int) + (d : Int)) = false := Al oO
                have H:P+d<4294967296:=by omega
                have Hov:=Ev hov;have HPd:=Ev H;clear hov H
                go_wp2_with (go_at_call 160;go_must (refine (hD _).mono ?_);rintro e Z ⟨rfl,rfl⟩)
                go_round
                case rel=>exact ⟨k+1,P+d,ov,by omega,by go_num,by go_num,rfl,HPd.out,by rw [<- Hrr.out,Hstep.out,A1 hdN,A1 Hov.out]⟩
                case measure=>simp [intOf];omega
          · obtain rfl : k = B.length := by omega
            have D:FC N B 0 false=some (f,ov):=by
              rw [<- Hrr.out,F3];rfl
            have Hend:=Ev D;clear D Hrow hkl
            cases ov with
            | true =>
              go_wp2
              refine Cv (v:=GZ.val) (by simp [results,Tryz.results125,go_sem,t,c1,u,GG.val,GZ]) rfl ⟨?_,I1 (FJ j) _ _ _⟩
              rw [LS,HgN.out,Hfin.out,Hend.out];rfl
            | false =>
              by_cases a:2147483648<=f
              · have a0 : decide ((2147483648 : Int) ≤ (f : Int)) = true := Aj oO
                have Hbig:=Ev a;clear a
                go_wp2
                have a:=Hbig.out
                refine Cv (v:=(Ih ((f:Int)-4294967296)).val) (by simp [results,Tryz.results125,go_sem,t,c1,u,GG.val,Ih]) rfl ⟨?_,I1 (FJ j) _ _ _⟩
                rw [LS,HgN.out,Hfin.out,Hend.out]
                rw [H8];simp only [By,if_false,a];rfl
              · have a0 : decide ((2147483648 : Int) ≤ (f : Int)) = false := Al oO
                have Hbig:=Ev a;clear a
                go_wp2
                have a:=Hbig.out
                refine Cv (v:=(Ih (f:Int)).val) (by simp [results,Tryz.results125,go_sem,t,c1,u,GG.val,Ih]) rfl ⟨?_,I1 (FJ j) _ _ _⟩
                rw [LS,HgN.out,Hfin.out,Hend.out]
                rw [H8];simp only [By,if_false,a]
def Ft (l:l8_):GG:=if JU l then LS (IX 35 l).1 (IX 35 l).2.1 else CA
theorem MC (l:l8_) (w:World) (hl:l.length<=1000) :
  Calls Tryz.prog 125 #[.string (bs l)] w λe w'=>e=.returned (Ft l).val/\Below w.heap.size w w':=by
 unfold Ft
 cases hok:JU l with
 | false=>exact So l w hl hok
 | true =>
  unfold JU at hok
  simp only [A3,Ab,AH,List.isEmpty_eq_false_iff] at hok
  obtain ⟨⟨⟨⟨a,b⟩,c⟩,d⟩,f⟩:=hok
  have hc:IX 35 l=((IX 35 l).1,(IX 35 l).2.1,true):=by rw [<- a]
  exact Sn l _ _ w hl hc b c d f
end
section
def eE:ByteArray:=⟨#[101,69]⟩
theorem MB:eE.size=2:=rfl
theorem A8J (h:1<eE.size):eE[1]'h=69:=rfl
theorem A4R:eE.extract 2 2=bs []:=rfl
theorem A6z:∀ i (h:i<eE.size),(eE[i]'h).toNat<128:=by
 intro i h
 have a:i<2:=h
 obtain rfl | rfl:i=0\/i=1:=by omega
 · show (101:UInt8).toNat<128;decide
 · show (69:UInt8).toNat<128;decide
def isE (c:UInt8):Bool:=c == 101 || c == 69
theorem XP (r:Nat) (h:128<=r) (h2:r<2048):Utf8.encode (r:Int)=⟨#[UInt8.ofNat (192+r / 64),UInt8.ofNat (128+r % 64)]⟩:=by
 have hv:Utf8.valid (r:Int)=true:=by simp [Utf8.valid];omega
 unfold Utf8.encode
 simp only [hv,if_true,Int.toNat_natCast]
 rw [A1 oO,A6 oO]
theorem W0 (r:Nat) (h2:2048<=r) (h3:Utf8.valid (r:Int)=true):3<=(Utf8.encode (r:Int)).size/\(Utf8.encode (r:Int)).size<=4:=by
 unfold Utf8.encode
 simp only [h3,if_true,Int.toNat_natCast]
 rw [A1 oO,A1 oO]
 split <;> simp [ByteArray.size]
theorem QH  {f:FuncId} {args:Array Value} {a n:Nat}
  (h:Calls P f args (w.drewN (a+n)) λe w'=>e=.returned v/\w'=w.drewN (a+n)) :
  Calls P f args (w.drewN (a+n)) λe w''=>e=.returned v/\∃ m,w''=w.drewN (a+m) :=
 h.mono λ_ _ ⟨he,hm⟩=>⟨he,n,hm⟩
theorem Si (c:Int) (w:World) :
  Calls Tryz.prog 58 #[.string ByteArray.empty,.int .u8 c] w λe w'=>e=.returned (.int .i64 (-1))/\w'=w :=
 Tryz.strings_IndexByte ByteArray.empty c w
theorem Sf (r:Nat) (w:World) (h:128<=r) (h2:r<2048) :
  Calls Tryz.prog 161 #[.string eE,.int .i32 (r:Int)] w λe w'=>e=.returned (.int .i64 (-1))/\Below w.heap.size w w':=by
 have hV:=λw=>(Tryz.utf8_ValidRune (r:Int) w)
 have f:Lib.validRune (r:Int)=true:=by simp [Lib.validRune];omega
 rw [f] at hV
 have a:=XP r h h2
 have hs:(Utf8.encode (r:Int)).size=2:=by rw [a];rfl
 obtain ⟨c,hc⟩:∃ c:UInt8,c=UInt8.ofNat (128+r % 64):=⟨_,rfl⟩
 have g:c.toNat=128+r % 64:=by rw [hc,UInt8.toNat_ofNat'];omega
 have b:∀ h,(Utf8.encode (r:Int))[1]'h=c:=by rw [a,hc];intro _;rfl
 have l:((69:Int) != (c.toNat:Int))=true:=by rw [bne_iff_ne];omega
 have q:=MB
 have t:=A8J
 have u:=A4R
 have i:((r:Int) == 65533)=false:=by rw [DL];omega
 have m:decide ((r:Int)<128)=false:=Al oO
 have j:¬ ((r:Int)<128):=by omega
 have d:(Utf8.encode (r:Int))[1]'(by rw [hs];omega)=c:=b _
 have Hget:=Ev d
 clear hc g a f b d
 generalize eE=s at *
 go_enter func161,ntmps161
 go_wp2_with (go_at_call 184;go_must (refine (hV _).mono ?_);rintro e k ⟨rfl,rfl⟩)
 go_step3
 go_wp2_with fail
 go_loopw [9] (λv wr=>v=.int .i64 1/\wr=k) (λ_ _=>0)
 case atStart=>exact ⟨rfl,rfl⟩
 case round =>
  obtain ⟨rfl,rfl⟩:=hrel
  go_wp2
  go_step3
  go_wp2_with fail
  have b:=Hget.out
  go_quiet (fail)
  go_wp2_with fail
  have o:IntKind.i64.wrap 2=2:=rfl
  go_quiet ((go_at_call 58;exact QH (Si _ _)))
  go_wp2_with fail
  rw [Exit.noGoto_ret]
  simp (config:={zetaDelta:=true}) only [Exit.inBlock,Exit.then,Exit.noGoto]
  go_ret
  exact ⟨rfl,by simpa using Pc _ _⟩
theorem Rm (r:Nat) (w:World) (h2:2048<=r) (hv:Utf8.valid (r:Int)=true) (h3:r≠65533) :
  Calls Tryz.prog 161 #[.string eE,.int .i32 (r:Int)] w λe w'=>e=.returned (.int .i64 (-1))/\Below w.heap.size w w':=by
 have hV:=λw=>(Tryz.utf8_ValidRune (r:Int) w)
 have a:Lib.validRune (r:Int)=true:=by rw [<- hv,AU];simp [Lib.validRune,Utf8.valid];omega
 rw [a] at hV
 have i:r<1114112:=by simp [Utf8.valid] at hv;omega
 obtain ⟨b,c⟩:=W0 r h2 hv
 obtain ⟨z,hz⟩:∃ z:Nat,(Utf8.encode (r:Int)).size=z:=⟨_,rfl⟩
 have m:=MB
 have d:((r:Int) == 65533)=false:=by rw [DL];omega
 have j:decide ((r:Int)<128)=false:=Al oO
 have f:¬ ((r:Int)<128):=by omega
 rw [hz] at b c
 clear a hv
 generalize eE=s at *
 go_enter func161,ntmps161
 go_wp2_with (go_at_call 184;go_must (refine (hV _).mono ?_);rintro e g ⟨rfl,rfl⟩)
 go_step3
 go_wp2_with fail
 go_loopw [9] (λv wr=>v=.int .i64 ((z:Int)-1)/\wr=g) (λ_ _=>0)
 case atStart=>exact ⟨rfl,rfl⟩
 case round =>
  obtain ⟨rfl,rfl⟩:=hrel
  have k:decide ((z:Int)-1<2)=false:=Al oO
  have l:¬ ((z:Int)-1<2):=by omega
  go_wp2
  go_ret
  exact ⟨rfl,EM _ _⟩
theorem Sg (w:World) :
  Calls Tryz.prog 161 #[.string eE,.int .i32 65533] w λe w'=>e=.returned (.int .i64 (-1))/\Below w.heap.size w w':=by
 have k:=MB
 have a:=A6z
 have Hasc:=Ev a;clear a
 generalize eE=s at *
 go_enter func161,ntmps161
 go_wp2
 go_loopg [5,6] 2 (λg _ _ wx=>∃ i:Nat,i+g=2/\wx=w.iter s i)
 case atStart=>exact ⟨0,by omega,rfl⟩
 case round =>
  obtain ⟨i,f,rfl⟩:=hrel
  cases gk with
  | zero =>
   obtain rfl:i=2:=by omega
   have d:=run_next_end (P:=Tryz.prog) w s 2
   go_wp2
   go_ret
   exact ⟨rfl,by simpa [World.iter] using (EM w.heap.size w).alloc (FL _) _⟩
  | succ g =>
   have hi:i<s.size:=by omega
   have b:=Hasc.out i hi
   have d:=λty=>run_next_ascii (P:=Tryz.prog) w s i ty hi b
   generalize s[i].toNat=c at *
   have j:((c:Int) == 65533)=false:=by rw [DL];omega
   go_wp2
   go_roundg g
   case measure=>omega
   case rel=>exact ⟨i+1,by omega,rfl⟩
theorem W3 (s:ByteArray) (pos:Nat) (h:pos<s.size) (ha:128<=(s[pos]'h).toNat) :
  128<=(Utf8.decode s pos).1/\Utf8.valid ((Utf8.decode s pos).1:Int)=true/\1<=(Utf8.decode s pos).2/\pos+(Utf8.decode s pos).2<=s.size/\∀ j,pos<j->j<pos+(Utf8.decode s pos).2->∀ hj:j<s.size,128<=(s[j]'hj).toNat:=by
 have hn:¬ (s[pos]'h).toNat<128:=by omega
 have hb:=(s[pos]'h).toNat_lt
 have hg:∀ k (hk:pos+k<s.size),s.get! (pos+k)=s[pos+k]'hk:=λk hk=>get_at s (pos+k) hk
 have one:∀ j,pos<j->j<pos+1->∀ hj:j<s.size,128<=(s[j]'hj).toNat:=λj _ _ _=>by omega
 have b:Utf8.valid ((Utf8.runeError:Nat):Int)=true:=by decide
 have a:128<=Utf8.runeError:=by decide
 simp only [Utf8.decode,get_at s pos h,hn,if_false]
 split
 ·
  rename_i h2
  simp only [A3,Ab,beq_iff_eq] at h2
  obtain ⟨e,f,c⟩:=h2
  split
  ·
   rename_i h3
   refine ⟨h3,?_,by omega,by omega,?_⟩
   · simp [Utf8.valid];omega
   ·
    intro j g i hj
    obtain rfl:j=pos+1:=by omega
    rw [hg 1 hj] at c;omega
  · exact ⟨a,b,by omega,by omega,one⟩
 ·
  split
  ·
   rename_i h2
   simp only [A3,Ab,beq_iff_eq] at h2
   obtain ⟨⟨e,f,c⟩,l,d⟩:=h2
   split
   ·
    rename_i h3
    simp only [ge_iff_le,A3,Ab] at h3
    refine ⟨by omega,h3.2,by omega,by omega,?_⟩
    intro j g i hj
    obtain rfl | rfl:j=pos+1\/j=pos+2:=by omega
    · rw [hg 1 hj] at c;omega
    · rw [hg 2 hj] at d;omega
   · exact ⟨a,b,by omega,by omega,one⟩
  ·
   split
   ·
    rename_i h2
    simp only [A3,Ab,beq_iff_eq] at h2
    obtain ⟨⟨⟨e,f,c⟩,l,d⟩,o,m⟩:=h2
    split
    ·
     rename_i h3
     simp only [ge_iff_le,A3,Ab] at h3
     refine ⟨by omega,h3.2,by omega,by omega,?_⟩
     intro j g i hj
     obtain rfl | rfl | rfl:j=pos+1\/j=pos+2\/j=pos+3:=by omega
     · rw [hg 1 hj] at c;omega
     · rw [hg 2 hj] at d;omega
     · rw [hg 3 hj] at m;omega
    · exact ⟨a,b,by omega,by omega,one⟩
   · exact ⟨a,b,by omega,by omega,one⟩
theorem Rn (r:Nat) (w:World) (h:128<=r) (hv:Utf8.valid (r:Int)=true) :
  Calls Tryz.prog 161 #[.string eE,.int .i32 (r:Int)] w λe w'=>e=.returned (.int .i64 (-1))/\Below w.heap.size w w':=by
 by_cases h2:r<2048
 · exact Sf r w h h2
 ·
  by_cases h3:r=65533
  · subst h3;exact Sg w
  · exact Rm r w oO hv h3
def EK:l8_->l8_ × l8_ × Bool
 | []=>([],[],false)
 | c::r=>if isE c then ([],r,true) else (c::(EK r).1,(EK r).2)
theorem A2T (l:l8_):(EK l).1.length+(EK l).2.1.length<=l.length:=by
 induction l with
 | nil=>simp [EK]
 | cons c r ih=>unfold EK;split <;> simp;omega
theorem Sp (l:l8_) (h:(EK l).2.2=true):∃ c,isE c=true/\l=(EK l).1++c::(EK l).2.1:=by
 induction l with
 | nil=>simp [EK] at h
 | cons c r ih =>
  unfold EK at h ⊢
  by_cases hc:isE c=true
  · simp only [hc,if_true];exact ⟨c,hc,rfl⟩
  ·
   simp only [hc] at h ⊢
   obtain ⟨d,hd,e⟩:=ih h
   refine ⟨d,hd,?_⟩
   show c::r=c::((EK r).1++d::(EK r).2.1)
   rw [<- e]
theorem Uo (l:l8_) (h:(EK l).2.2=false):(EK l).1=l/\(EK l).2.1=[]:=by
 induction l with
 | nil=>simp [EK]
 | cons c r ih =>
  unfold EK at h ⊢
  by_cases hc:isE c=true
  · simp [hc] at h
  ·
   simp only [hc] at h ⊢
   obtain ⟨a,b⟩:=ih h
   exact ⟨by show c::(EK r).1=c::r;rw [a],b⟩
def A2v (l:l8_):Int:=if (EK l).2.2 then ((EK l).1.length:Int) else -1
theorem A2u (l:l8_):Lib.indexAny l eE.data.toList=A2v l:=by
 induction l with
 | nil=>rfl
 | cons c r ih =>
  have a:eE.data.toList.contains c=isE c:=by
   show List.contains [101,69] c=(c == 101 || c == 69)
   by_cases h1:c=101
   · subst h1;rfl
   ·
    by_cases h2:c=69
    · subst h2;rfl
    ·
     rw [beq_false_of_ne h1,beq_false_of_ne h2,List.contains,List.elem,beq_false_of_ne h1]
     show List.elem c [69]=_
     rw [List.elem,beq_false_of_ne h2];rfl
  rw [Lib.indexAny,a,ih]
  unfold A2v
  rw [EK]
  by_cases hc:isE c=true
  · simp [hc]
  ·
   simp only [hc]
   by_cases h2:(EK r).2.2=true
   ·
    simp [h2]
    try omega
   · simp [h2]
theorem W1:∀ x:UInt8,128<=x.toNat->eE.data.toList.contains x=false:=by
 intro x hx
 show List.contains [101,69] x=false
 have a:x≠101:=by rintro rfl;exact CM hx dD
 have b:x≠69:=by rintro rfl;exact CM hx dD
 rw [List.contains,List.elem,beq_false_of_ne a]
 show List.elem x [69]=_
 rw [List.elem,beq_false_of_ne b];rfl
theorem Nk (s : ByteArray) (w : World) (h8 : s.size ≤ 8) :
    Calls Tryz.prog 127 #[.string s,.string eE] w λe w'=>e=.returned (.int .i64 (Lib.indexAny s.data.toList eE.data.toList))/\Below w.heap.size w w':=by
  have J:eE.toList.isEmpty=false:=by rw [show eE=bs [101,69] from rfl,G9];rfl
  have Q:=MB
  have E:decide ((8:Int)<(s.size:Int))=false:=Al oO
  have hU:=λn w=>Tryz.strings_shouldUseASCIISet n w
  have hR:=λc (hc:c<128) w=>Tryz.strings_IndexRune_ascii eE (c:Nat) w oO oO
  have hH:=λr w h hv=>Rn r w h hv
  have m:=λx=>Lib.contains_iff_indexByte eE.data.toList x
  have HC:=Ev W1
  generalize eE=ch at *
  go_enter func127,ntmps127
  go_wp2_with (go_at_call 162;go_must (refine (hU _ _).mono ?_);rintro e f ⟨rfl,rfl⟩;rw [E])
  obtain ⟨B,hB⟩:∃ B,f.heap.size=B:=⟨_,rfl⟩
  have a:(f.iter s 0).heap[B]?=some (.stringIter s 0):=by rw [<- hB];exact World.iter_heap _ _ _
  have F:Below B f (f.iter s 0):=by rw [<- hB];exact (EM f.heap.size f).alloc (FL _) _
  generalize f.iter s 0=wi at *
  rw [hB]
  have HB:=Ev (show f.heap.size<=B by omega)
  clear hB
  go_loopg [9,10] s.size (λg _ _ wx=>∃ i:Nat,i+g=s.size/\wx.heap[B]?=some (.stringIter s i)/\Below B f wx/\Lib.NoAny s.data.toList ch.data.toList i)
  case atStart=>exact ⟨0,by omega,a,F,Lib.NoAny.zero _ _⟩
  case round =>
    obtain ⟨i,K,a,o,v⟩:=hrel
    have HN:=Ev v
    clear v
    cases gk with
    | zero =>
      obtain rfl:i=s.size:=by omega
      have q:=λty=>Lib.run_next_end_at (P:=Tryz.prog) wr B s s.size ty a oO
      go_wp2
      go_ret
      exact ⟨by rw [Lib.indexAny_none (by rw [<- Lib.size_eq];exact HN.out)];rfl,o.mono HB.out⟩
    | succ g =>
      have hi:i<s.size:=by omega
      obtain ⟨x,hx⟩:∃ x:UInt8,s[i]'hi=x:=⟨_,rfl⟩
      have t:s.data.toList[i]?=some x:=by rw [<- hx];exact Lib.data_getElem? s i hi
      by_cases hx128:x.toNat<128
      · have q := fun ty => Lib.run_next_ascii_at (P := Tryz.prog) wr B s i ty a hi (by rw [hx]; exact hx128)
        rw [hx] at q
        have Hx:=Ev t
        have Hit:=Ev (Lib.iterAt_heap wr B s i (i+1) a)
        have Hb2:=Ev (Lib.below_iterAt o (FL B) s (i+1))
        clear t hx a
        have d:=m x
        have l:((x.toNat:Int)).toNat.toUInt8=x:=by simp
        have k:=λw=>hR x.toNat hx128 w
        rw [l] at k
        clear l hR hH m hU
        cases hin:ch.data.toList.contains x
        · rw [hin] at d
          have L:¬ ((0:Int)<=Lib.indexByte ch.data.toList x):=dF d.symm
          clear d
          go_wp2_with (go_at_call 161;go_must (refine (k _).mono ?_);rintro e G ⟨rfl,rfl⟩)
          go_roundg g
          case measure=>omega
          case rel=>exact ⟨i+1,by omega,Hit.out,Hb2.out,HN.out.succ Hx.out hin⟩
        · rw [hin] at d
          have M:(0:Int)<=Lib.indexByte ch.data.toList x:=dT d.symm
          clear d
          go_wp2_with (go_at_call 161;go_must (refine (k _).mono ?_);rintro e G ⟨rfl,rfl⟩)
          go_ret
          exact ⟨by rw [Lib.indexAny_hit HN.out Hx.out hin];rfl,Hb2.out.mono HB.out⟩
      · obtain ⟨H, y, N, O, A⟩ := W3 s i hi (by rw [hx]; omega)
        have q:=λty=>Lib.run_next_any_at (P:=Tryz.prog) wr B s i ty a hi
        have u:Lib.NoAny s.data.toList ch.data.toList (i+(Utf8.decode s i).2):=by
          intro j b hj hb
          by_cases hji:j<i
          · exact HN.out j b hji hb
          · have C : j < s.size := by omega
            rw [Lib.data_getElem? s j C] at hb
            have hb2:s[j]=b:=DC hb
            have D:128<=b.toNat:=by
              by_cases hje:j=i
              · subst hje;rw [<- hb2,hx];omega
              · rw [<- hb2];exact A j oO hj C
            exact HC.out b D
        have Hno2:=Ev u
        clear u A t hx hR m hU
        have k:=λw=>hH _ w H y
        generalize (Utf8.decode s i).1=r at *
        generalize (Utf8.decode s i).2=n at *
        have Hit:=Ev (Lib.iterAt_heap wr B s i (i+n) a)
        have Hb2:=Ev (Lib.below_iterAt o (FL B) s (i+n))
        clear a hH y
        go_wp2_with (go_at_call 161;go_must (refine (k _).mono ?_);rintro e G ⟨rfl,hb3⟩)
        go_roundg (s.size-(i+n))
        case measure=>omega
        case rel=>exact ⟨i+n,by omega,(hb3.block B (Bs.1 Hit.out).1).trans Hit.out,Hb2.out.trans (hb3.mono (Nat.le_of_lt (Bs.1 Hit.out).1)),Hno2.out⟩
theorem O1 (l:l8_) (w:World) (hl:l.length<=1000) :
    Calls Tryz.prog 127 #[.string (bs l),.string eE] w λe w'=>e=.returned (.int .i64 (A2v l))/\Below w.heap.size w w':=by
  have hd:(bs l).data.toList=l:=by rw [<- Lib.toList_data,G9]
  rw [<- A2u]
  by_cases h8:l.length<=8
  · have h := Nk (bs l) w (by rw [BE]; exact h8)
    rw [hd] at h;exact h
  · have hz := zero_of_info (P := Tryz.prog) (t := 192) (v := .agg (Array.replicate 256 (.bool false))) (n := 256) kR
    have h:=Tryz.strings_IndexAny_long hz.1 (bs l) eE w (by rw [MB];omega) (by rw [BE];omega) (by rw [BE];omega) (by rw [MB];omega) (by
      intro j b hj
      have a:eE.data.toList=[101,69]:=rfl
      rw [a] at hj
      have hm:=List.mem_of_getElem? hj
      simp only [Ar,AA,C8] at hm
      rcases hm with rfl | rfl <;> decide)
    rw [hd] at h
    refine h.mono λe w' ⟨c,d⟩=>⟨c,?_⟩
    rw [d]
    exact ((EM w.heap.size w).alloc (FL _) _).alloc (by simp) _
end
section
def P6 (m:Bool) (p:l8_) (k:Int):GG :=
 if HT p then
  (if (Gc m (Hr ((Cf p).1 ++ (Cf p).2.1) ((Cf p).1.length + k)) (IM ((Cf p).1 ++ (Cf p).2.1) ((Cf p).1.length + k))).2 then
   Mj (Gc m (Hr ((Cf p).1++(Cf p).2.1) ((Cf p).1.length+k)) (IM ((Cf p).1++(Cf p).2.1) ((Cf p).1.length+k))).1
  else GZ)
 else CA
def QD (l:l8_):GG :=
 if (EK (AL l).2).2.2 then
  (if (In (EK (AL l).2).2.1).2 then P6 (AL l).1 (EK (AL l).2).1 (In (EK (AL l).2).2.1).1 else CA)
 else P6 (AL l).1 (AL l).2 0
def Gv (l:l8_):GG :=
 if 64<l.length then CA
 else if (Ft l).ok then Ft l
 else if (Gu l).2 then Ih (Gu l).1
 else QD l
theorem A0H  {w0:World} (hb1:Below w0.heap.size w0 w1) {o:Obj}
  (hb2:Below (w1.alloc o).heap.size (w1.alloc o) w2):Below w0.heap.size w0 w2:=by
 have h:Below w0.heap.size w0 (w1.alloc o):=hb1.alloc hb1.size o
 exact h.trans (hb2.mono h.size)
theorem RA (l:l8_) (w:World) (hl:64<l.length) :
  Calls Tryz.prog 95 #[.string (bs l)] w λe w'=>e=.returned CA.val/\Below w.heap.size w w':=by
 have hs:=BE l
 go_enter func95,ntmps95
 go_wp2_with fail
 exact Cv (v:=CA.val) (by simp [results,Tryz.results95,go_sem,GG.val,CA]) rfl ⟨rfl,FJ (EM _ _)⟩
theorem PP (l:l8_) (w:World) (hl:l.length<=64) (h:(Ft l).ok=true) :
  Calls Tryz.prog 95 #[.string (bs l)] w λe w'=>e=.returned (Ft l).val/\Below w.heap.size w w':=by
 have hs:=BE l
 have hR:=λw=>MC l w oO
 generalize Ft l=R at *
 obtain ⟨k,n,ok,er⟩:=R
 simp only at h
 subst h
 simp only [GG.val] at hR ⊢
 go_enter func95,ntmps95
 go_wp2_with (go_at_call 125;go_must (refine (hR _).mono ?_);rintro e d ⟨rfl,hb1⟩;obtain ⟨b,c1,c,f0,f1,f2⟩:=Ch hb1;have a:=hb1.size;simp at a;replace a:=D9 a)
 refine Cv (v:=.tuple #[.agg #[.int .i64 k,.int .i64 n,.string ⟨#[]⟩],.bool true,.int .i64 er]) (by simp [results,Tryz.results95,go_sem,b,c1,c,a]) rfl ⟨rfl,(I1 (FJ hb1) _ _ _).alloc (by simp;omega) _⟩
theorem PO (l:l8_) (w:World) (hl:l.length<=64) (h:(Ft l).ok=false) (h2:(Gu l).2=true) :
  Calls Tryz.prog 95 #[.string (bs l)] w λe w'=>e=.returned (Ih (Gu l).1).val/\Below w.heap.size w w':=by
 have hs:=BE l
 have hR:=λw=>MC l w oO
 have hW:=λw=>P7 l w oO
 generalize Ft l=R at *
 generalize Gu l=V at *
 obtain ⟨k,n,ok,er⟩:=R
 obtain ⟨v,vok⟩:=V
 simp only at h h2
 subst h h2
 simp only [GG.val,Ih] at hR hW ⊢
 go_enter func95,ntmps95
 go_wp2_with first | (go_at_call 125;go_must (refine (hR _).mono ?_);rintro e d ⟨rfl,hb1⟩;obtain ⟨b,c1,c,f0,f1,f2⟩:=Ch hb1;have a:=hb1.size;simp at a;replace a:=D9 a) | (go_at_call 126;go_must (refine (hW _).mono ?_);rintro e f ⟨rfl,hb2⟩;replace hb2:=A0H hb1 hb2;clear b c1 c f0 f1 f2;obtain ⟨b,c1,c,f0,f1,f2⟩:=Ch hb2)
 refine Cv (v:=.tuple #[.agg #[.int .i64 1,.int .i64 v,.string ⟨#[]⟩],.bool true,.int .i64 0]) (by simp [results,Tryz.results95,go_sem,b,c1,c]) rfl ⟨rfl,I1 (FJ hb2) _ _ _⟩
theorem U1 (l:l8_):-1000<=(In l).1/\(In l).1<=1000:=by
 unfold In
 split
 · simp
 ·
  next h =>
  simp only [Bo,Ab,AH,not_or,Bool.not_eq_false] at h
  obtain ⟨⟨b,c⟩,a⟩:=h
  have d:=KB (AL l).2 (Au.1 a)
  have e:10 ^ (AL l).2.length<=10 ^ 3:=Nat.pow_le_pow_right dD oO
  generalize D2 (AL l).2=N at *
  split
  · simp only;omega
  · simp only;omega
theorem PR (l:l8_) (w:World) (hl:l.length<=64) (h:(Ft l).ok=false) (h2:(Gu l).2=false) (h3:(EK (AL l).2).2.2=false) :
  Calls Tryz.prog 95 #[.string (bs l)] w λe w'=>e=.returned (P6 (AL l).1 (AL l).2 0).val/\Below w.heap.size w w':=by
 have hs:=BE l
 have hR:=λw=>MC l w oO
 have hW:=λw=>P7 l w oO
 have hS:=λw=>JC l w oO
 have j:=IJ l
 generalize Ft l=R at *
 generalize Gu l=V at *
 generalize AL l=sr at *
 obtain ⟨k,n,ok,er⟩:=R
 obtain ⟨v,vok⟩:=V
 obtain ⟨m,r⟩:=sr
 simp only at h h2 h3 j hS ⊢
 subst h h2
 simp only [GG.val] at hR hW
 have hI:∀ w,Calls Tryz.prog 127 #[.string (bs r),.string ⟨#[101,69]⟩] w λe w'=>e=.returned (.int .i64 (-1))/\Below w.heap.size w w':=λw=>by
  have h:=O1 r w oO
  unfold A2v at h
  rw [h3] at h
  exact h
 have hM:=λw=>L8 r w oO
 have o:=Lb r
 have g:=Kg r
 unfold P6
 generalize HT r=ok at *
 generalize Cf r=pq at *
 obtain ⟨A,B,f⟩:=pq
 simp only at hM g o
 clear h3
 cases ok with
 | false =>
  clear g
  go_enter func95,ntmps95
  go_wp2_with first | (go_at_call 125;go_must (refine (hR _).mono ?_);rintro e s ⟨rfl,hb1⟩;obtain ⟨a,c1,b,f0,f1,f2⟩:=Ch hb1;have d:=hb1.size;simp at d;replace d:=D9 d) | (go_at_call 126;go_must (refine (hW _).mono ?_);rintro e t ⟨rfl,hb2⟩;replace hb2:=A0H hb1 hb2;clear a c1 b f0 f1 f2;obtain ⟨a,c1,b,f0,f1,f2⟩:=Ch hb2) | (go_at_call 122;go_must (refine (hS _).mono ?_);rintro e u ⟨rfl,hb3⟩;replace hb3:=DJ hb2 hb3;clear a c1 b f0 f1 f2;obtain ⟨a,c1,b,f0,f1,f2⟩:=Ch hb3) | (go_at_call 127;go_must (refine (hI _).mono ?_);rintro e x ⟨rfl,hb4⟩;replace hb4:=DJ hb3 hb4;clear a c1 b f0 f1 f2;obtain ⟨a,c1,b,f0,f1,f2⟩:=Ch hb4) | (go_at_call 123;go_must (refine (hM _).mono ?_);rintro e y ⟨rfl,hb5⟩;replace hb5:=DJ hb4 hb5;clear a c1 b f0 f1 f2;obtain ⟨a,c1,b,f0,f1,f2⟩:=Ch hb5)
  exact Cv (v:=CA.val) (by simp [results,Tryz.results95,go_sem,a,c1,b,GG.val,CA]) rfl ⟨rfl,I1 (FJ hb5) _ _ _⟩
 | true =>
  obtain ⟨hA,hB⟩:=g rfl
  rw [A6 rfl]
  have i:∀ c∈A++B,BS c=true:=by
   intro c hc
   rcases Ba.1 hc with h | h
   · exact hA c h
   · exact hB c h
  have q:=λw=>Tr A B 0 w oO oO oO
  have hV:=λw=>P8 m (Hr (A++B) (A.length+0)) (IM (A++B) (A.length+0)) w (by simp [IM];omega) (MO _ _ i) (NK _ _ i)
  clear g hA hB i
  simp only
  generalize Hr (A++B) (A.length+0)=W at *
  generalize IM (A++B) (A.length+0)=D at *
  generalize Gc m W D=vv at *
  obtain ⟨C,fit⟩:=vv
  simp only at hV
  cases fit
  all_goals
   go_enter func95,ntmps95
   go_wp2_with first | (go_at_call 125;go_must (refine (hR _).mono ?_);rintro e s ⟨rfl,hb1⟩;obtain ⟨a,c1,b,f0,f1,f2⟩:=Ch hb1;have d:=hb1.size;simp at d;replace d:=D9 d) | (go_at_call 126;go_must (refine (hW _).mono ?_);rintro e t ⟨rfl,hb2⟩;replace hb2:=A0H hb1 hb2;clear a c1 b f0 f1 f2;obtain ⟨a,c1,b,f0,f1,f2⟩:=Ch hb2) | (go_at_call 122;go_must (refine (hS _).mono ?_);rintro e u ⟨rfl,hb3⟩;replace hb3:=DJ hb2 hb3;clear a c1 b f0 f1 f2;obtain ⟨a,c1,b,f0,f1,f2⟩:=Ch hb3) | (go_at_call 127;go_must (refine (hI _).mono ?_);rintro e x ⟨rfl,hb4⟩;replace hb4:=DJ hb3 hb4;clear a c1 b f0 f1 f2;obtain ⟨a,c1,b,f0,f1,f2⟩:=Ch hb4) | (go_at_call 123;go_must (refine (hM _).mono ?_);rintro e y ⟨rfl,hb5⟩;replace hb5:=DJ hb4 hb5;clear a c1 b f0 f1 f2;obtain ⟨a,c1,b,f0,f1,f2⟩:=Ch hb5) | (go_at_call 129;go_must (refine (q _).mono ?_);rintro e E ⟨rfl,XK⟩;replace XK:=DJ hb5 XK;clear a c1 b f0 f1 f2;obtain ⟨a,c1,b,f0,f1,f2⟩:=Ch XK) | (go_at_call 124;go_must (refine (hV _).mono ?_);rintro e F ⟨rfl,hb7⟩;replace hb7:=DJ XK hb7;clear a c1 b f0 f1 f2;obtain ⟨a,c1,b,f0,f1,f2⟩:=Ch hb7)
  · exact Cv (v:=GZ.val) (by simp [results,Tryz.results95,go_sem,a,c1,b,GG.val,GZ]) rfl ⟨rfl,I1 (FJ hb7) _ _ _⟩
  · exact Cv (v:=(Mj C).val) (by simp [results,Tryz.results95,go_sem,a,c1,b,GG.val,Mj]) rfl ⟨rfl,I1 (FJ hb7) _ _ _⟩
theorem PQ (l:l8_) (w:World) (hl:l.length<=64) (h:(Ft l).ok=false) (h2:(Gu l).2=false) (h3:(EK (AL l).2).2.2=true) :
  Calls Tryz.prog 95 #[.string (bs l)] w λe w'=>e=.returned (if (In (EK (AL l).2).2.1).2 then P6 (AL l).1 (EK (AL l).2).1 (In (EK (AL l).2).2.1).1 else CA).val/\Below w.heap.size w w':=by
 have hs:=BE l
 have hR:=λw=>MC l w oO
 have hW:=λw=>P7 l w oO
 have hS:=λw=>JC l w oO
 have j:=IJ l
 generalize Ft l=R at *
 generalize Gu l=V at *
 generalize AL l=sr at *
 obtain ⟨k,n,ok,er⟩:=R
 obtain ⟨v,vok⟩:=V
 obtain ⟨m,r⟩:=sr
 simp only at h h2 h3 j hS ⊢
 subst h h2
 simp only [GG.val] at hR hW
 have hI:=λw=>O1 r w oO
 obtain ⟨x,-,g⟩:=Sp r h3
 have s:=A2T r
 unfold A2v at hI
 generalize EK r=cc at *
 obtain ⟨p,q,fd⟩:=cc
 simp only at h3 g hI s ⊢
 subst h3
 rw [A6 rfl] at hI
 change ∀ w,Calls Tryz.prog 127 #[.string (bs r),.string ⟨#[101,69]⟩] w _ at hI
 have y:(bs r).size=p.length+(q.length+1):=by rw [BE,g];simp
 have N:(bs r).extract (p.length+1) (p.length+(q.length+1))=bs q:=by
  rw [<- y,Rv _ _ _ (BE r),g,List.append_cons,List.drop_left' (by simp)]
 have O:(bs r).extract 0 p.length=bs p:=by
  rw [Ru,g];simp
 have hP:=λw=>A0x q w oO
 obtain ⟨t,u⟩:=U1 q
 have P:p.length+(q.length+1)<=64:=by have h:=BE r;omega
 have hM:=λw=>L8 p w oO
 have C:=Lb p
 have i:=Kg p
 generalize In q=pw at *
 obtain ⟨by',pok⟩:=pw
 unfold P6
 simp only at hP t u ⊢
 clear g j s
 cases pok with
 | false =>
  clear i
  go_enter func95,ntmps95
  go_wp2_with first | (go_at_call 125;go_must (refine (hR _).mono ?_);rintro e E ⟨rfl,hb1⟩;obtain ⟨a,c1,b,f0,f1,f2⟩:=Ch hb1;have d:=hb1.size;simp at d;replace d:=D9 d) | (go_at_call 126;go_must (refine (hW _).mono ?_);rintro e F ⟨rfl,hb2⟩;replace hb2:=A0H hb1 hb2;clear a c1 b f0 f1 f2;obtain ⟨a,c1,b,f0,f1,f2⟩:=Ch hb2) | (go_at_call 122;go_must (refine (hS _).mono ?_);rintro e G ⟨rfl,hb3⟩;replace hb3:=DJ hb2 hb3;clear a c1 b f0 f1 f2;obtain ⟨a,c1,b,f0,f1,f2⟩:=Ch hb3) | (go_at_call 127;go_must (refine (hI _).mono ?_);rintro e H ⟨rfl,hb4⟩;replace hb4:=DJ hb3 hb4;clear a c1 b f0 f1 f2;obtain ⟨a,c1,b,f0,f1,f2⟩:=Ch hb4) | (go_at_call 128;go_must (refine (hP _).mono ?_);rintro e J ⟨rfl,hb5⟩;replace hb5:=DJ hb4 hb5;clear a c1 b f0 f1 f2;obtain ⟨a,c1,b,f0,f1,f2⟩:=Ch hb5)
  exact Cv (v:=CA.val) (by simp [results,Tryz.results95,go_sem,a,c1,b,GG.val,CA]) rfl ⟨rfl,I1 (FJ hb5) _ _ _⟩
 | true =>
  rw [A6 rfl]
  generalize HT p=ok at *
  generalize Cf p=pq at *
  obtain ⟨A,B,f⟩:=pq
  simp only at hM i C
  cases ok with
  | false =>
   clear i
   go_enter func95,ntmps95
   go_wp2_with first | (go_at_call 125;go_must (refine (hR _).mono ?_);rintro e E ⟨rfl,hb1⟩;obtain ⟨a,c1,b,f0,f1,f2⟩:=Ch hb1;have d:=hb1.size;simp at d;replace d:=D9 d) | (go_at_call 126;go_must (refine (hW _).mono ?_);rintro e F ⟨rfl,hb2⟩;replace hb2:=A0H hb1 hb2;clear a c1 b f0 f1 f2;obtain ⟨a,c1,b,f0,f1,f2⟩:=Ch hb2) | (go_at_call 122;go_must (refine (hS _).mono ?_);rintro e G ⟨rfl,hb3⟩;replace hb3:=DJ hb2 hb3;clear a c1 b f0 f1 f2;obtain ⟨a,c1,b,f0,f1,f2⟩:=Ch hb3) | (go_at_call 127;go_must (refine (hI _).mono ?_);rintro e H ⟨rfl,hb4⟩;replace hb4:=DJ hb3 hb4;clear a c1 b f0 f1 f2;obtain ⟨a,c1,b,f0,f1,f2⟩:=Ch hb4) | (go_at_call 128;go_must (refine (hP _).mono ?_);rintro e J ⟨rfl,hb5⟩;replace hb5:=DJ hb4 hb5;clear a c1 b f0 f1 f2;obtain ⟨a,c1,b,f0,f1,f2⟩:=Ch hb5) | (go_at_call 123;go_must (refine (hM _).mono ?_);rintro e L ⟨rfl,XK⟩;replace XK:=DJ hb5 XK;clear a c1 b f0 f1 f2;obtain ⟨a,c1,b,f0,f1,f2⟩:=Ch XK)
   exact Cv (v:=CA.val) (by simp [results,Tryz.results95,go_sem,a,c1,b,GG.val,CA]) rfl ⟨rfl,I1 (FJ XK) _ _ _⟩
  | true =>
   obtain ⟨hA,hB⟩:=i rfl
   rw [A6 rfl]
   have o:∀ c∈A++B,BS c=true:=by
    intro c hc
    rcases Ba.1 hc with h | h
    · exact hA c h
    · exact hB c h
   have K:=λw=>Tr A B by' w oO oO oO
   have hV:=λw=>P8 m (Hr (A++B) (A.length+by')) (IM (A++B) (A.length+by')) w (by simp [IM];omega) (MO _ _ o) (NK _ _ o)
   clear i hA hB o
   simp only
   generalize Hr (A++B) (A.length+by')=W at *
   generalize IM (A++B) (A.length+by')=D at *
   generalize Gc m W D=vv at *
   obtain ⟨M,fit⟩:=vv
   simp only at hV
   cases fit
   all_goals
    go_enter func95,ntmps95
    go_wp2_with first | (go_at_call 125;go_must (refine (hR _).mono ?_);rintro e E ⟨rfl,hb1⟩;obtain ⟨a,c1,b,f0,f1,f2⟩:=Ch hb1;have d:=hb1.size;simp at d;replace d:=D9 d) | (go_at_call 126;go_must (refine (hW _).mono ?_);rintro e F ⟨rfl,hb2⟩;replace hb2:=A0H hb1 hb2;clear a c1 b f0 f1 f2;obtain ⟨a,c1,b,f0,f1,f2⟩:=Ch hb2) | (go_at_call 122;go_must (refine (hS _).mono ?_);rintro e G ⟨rfl,hb3⟩;replace hb3:=DJ hb2 hb3;clear a c1 b f0 f1 f2;obtain ⟨a,c1,b,f0,f1,f2⟩:=Ch hb3) | (go_at_call 127;go_must (refine (hI _).mono ?_);rintro e H ⟨rfl,hb4⟩;replace hb4:=DJ hb3 hb4;clear a c1 b f0 f1 f2;obtain ⟨a,c1,b,f0,f1,f2⟩:=Ch hb4) | (go_at_call 128;go_must (refine (hP _).mono ?_);rintro e J ⟨rfl,hb5⟩;replace hb5:=DJ hb4 hb5;clear a c1 b f0 f1 f2;obtain ⟨a,c1,b,f0,f1,f2⟩:=Ch hb5) | (go_at_call 123;go_must (refine (hM _).mono ?_);rintro e L ⟨rfl,XK⟩;replace XK:=DJ hb5 XK;clear a c1 b f0 f1 f2;obtain ⟨a,c1,b,f0,f1,f2⟩:=Ch XK) | (go_at_call 129;go_must (refine (K _).mono ?_);rintro e Q ⟨rfl,hb7⟩;replace hb7:=DJ XK hb7;clear a c1 b f0 f1 f2;obtain ⟨a,c1,b,f0,f1,f2⟩:=Ch hb7) | (go_at_call 124;go_must (refine (hV _).mono ?_);rintro e T ⟨rfl,hb8⟩;replace hb8:=DJ hb7 hb8;clear a c1 b f0 f1 f2;obtain ⟨a,c1,b,f0,f1,f2⟩:=Ch hb8)
   · exact Cv (v:=GZ.val) (by simp [results,Tryz.results95,go_sem,a,c1,b,GG.val,GZ]) rfl ⟨rfl,I1 (FJ hb8) _ _ _⟩
   · exact Cv (v:=(Mj M).val) (by simp [results,Tryz.results95,go_sem,a,c1,b,GG.val,Mj]) rfl ⟨rfl,I1 (FJ hb8) _ _ _⟩
theorem Ts (l:l8_) (w:World) :
  Calls Tryz.prog 95 #[.string (bs l)] w λe w'=>e=.returned (Gv l).val/\Below w.heap.size w w':=by
 unfold Gv
 by_cases hl:64<l.length
 · rw [A6 hl];exact RA l w hl
 ·
  rw [A1 hl]
  have hl':l.length<=64:=by omega
  cases h:(Ft l).ok with
  | true=>rw [A6 rfl];exact PP l w hl' h
  | false =>
   rw [A1 dD]
   cases h2:(Gu l).2 with
   | true=>rw [A6 rfl];exact PO l w hl' h h2
   | false =>
    rw [A1 dD]
    unfold QD
    cases h3:(EK (AL l).2).2.2 with
    | true=>rw [A6 rfl];exact PQ l w hl' h h2 h3
    | false=>rw [A1 dD];exact PR l w hl' h h2 h3
end
section
def A1G (l:l8_):GG :=
 if (EK l).2.2 then
  (if (In (EK l).2.1).2 then P6 (AL (EK l).1).1 (AL (EK l).1).2 (In (EK l).2.1).1 else CA)
 else P6 (AL (EK l).1).1 (AL (EK l).1).2 0
theorem UR (l:l8_):AL (EK l).1=((AL l).1,(EK (AL l).2).1)/\(EK l).2=(EK (AL l).2).2:=by
  cases l with
  | nil=>exact ⟨rfl,rfl⟩
  | cons c r =>
    by_cases hE:isE c=true
    · have a : c ≠ 45 := by rintro rfl; exact CM hE dD
      have b:c≠43:=by rintro rfl;exact CM hE dD
      simp [AL,EK,hE,a,b]
    · have hE' : isE c = false := by simpa using hE
      by_cases a:c=45
      · subst a;simp [AL,EK,hE']
      · by_cases b : c = 43
        · subst b;simp [AL,EK,hE']
        · simp [AL,EK,hE',a,b]
theorem A1F (l:l8_):A1G l=QD l:=by
 obtain ⟨a,b⟩:=UR l
 unfold A1G QD
 rw [a,b]
 cases hf:(EK (AL l).2).2.2 with
 | true=>rfl
 | false =>
  simp only [By,if_false]
  rw [(Uo _ hf).1]
theorem US (c:UInt8) (r:l8_) (h:BS c=true):AL (c::r)=(false,c::r):=by
 have a:c≠45:=by rintro rfl;exact CM h dD
 have b:c≠43:=by rintro rfl;exact CM h dD
 simp [AL,a,b]
theorem TL (l:l8_) (hl:l.length<=64) (h:JU l=false):Gv l=if (Gu l).2 then Ih (Gu l).1 else A1G l:=by
 have hr:(Ft l).ok=false:=by unfold Ft;rw [h];rfl
 unfold Gv
 rw [A1 oO,hr,A1F]
 rfl
end
section
def Er (c:UInt8):Bool:=c == 0 || c == 9 || c == 10 || c == 12 || c == 13 || c == 32
def PN (c:UInt8):Bool:=c == 10 || c == 12 || c == 13
def Nq (c:UInt8):Bool:=c == 40 || c == 41 || c == 60 || c == 62 || c == 91 || c == 93 || c == 123 || c == 125 || c == 47 || c == 37
def DO (c:UInt8):Bool:=!Er c && !Nq c
theorem XO {c:UInt8} (h:PN c=true):Er c=true:=by
 simp only [PN,Bo,beq_iff_eq] at h
 rcases h with (rfl | rfl) | rfl <;> rfl
def DV:Bool->l8_->l8_
 | _,[]=>[]
 | false,c::r=>if c=37 then DV true r else if Er c then DV false r else c::r
 | true,c::r=>if PN c then DV false (r) else DV true r
theorem GI:∀ (l:l8_) (m:Bool),(DV m l).length<=l.length
 | [],m=>by cases m <;> simp [DV]
 | c::r,false=>by
  have h1:=GI r true;have h2:=GI r false
  simp only [DV];split
  · simp;omega
  · split <;> simp <;> omega
 | c::r,true=>by
  have h1:=GI r true;have h2:=GI r false
  simp only [DV];split <;> simp <;> omega
theorem HK:∀ (l:l8_) (m:Bool),∃ k,k<=l.length/\DV m l=l.drop k
 | [],m=>⟨0,FL _,by cases m <;> rfl⟩
 | c::r,false=>by
  obtain ⟨k1,a1,b1⟩:=HK r true;obtain ⟨k2,a2,b2⟩:=HK r false
  simp only [DV];split
  · exact ⟨k1+1,by simp;omega,by rw [b1];rfl⟩
  ·
   split
   · exact ⟨k2+1,by simp;omega,by rw [b2];rfl⟩
   · exact ⟨0,Gg _,rfl⟩
 | c::r,true=>by
  obtain ⟨k1,a1,b1⟩:=HK r true;obtain ⟨k2,a2,b2⟩:=HK r false
  simp only [DV];split
  · exact ⟨k2+1,by simp;omega,by rw [b2];rfl⟩
  · exact ⟨k1+1,by simp;omega,by rw [b1];rfl⟩
def J4:l8_->l8_
 | c::r=>if c=10 then r else c::r
 | []=>[]
theorem No (l:l8_):(J4 l).length<=l.length:=by
 cases l with
 | nil=>simp [J4]
 | cons c r=>simp only [J4];split <;> simp
def PL (c:UInt8):Bool:=decide (48<=c.toNat) && decide (c.toNat<=55)
def Ng:Nat->Nat->l8_->Nat × l8_
 | 0,n,l=>(n,l)
 | _+1,n,[]=>(n,[])
 | k+1,n,c::r=>if PL c then Ng k (8 * n+(c.toNat-48)) r else (n,c::r)
theorem Vx:∀ (k n:Nat) (l:l8_),(Ng k n l).2.length<=l.length
 | 0,n,l=>FL _
 | _+1,n,[]=>FL _
 | k+1,n,c::r=>by
  have:=Vx k (8 * n+(c.toNat-48)) r
  simp only [Ng];split <;> simp <;> omega
def IW (c:UInt8) (r:l8_):l8_ × l8_ :=
 if c=110 then ([10],r) else if c=114 then ([13],r) else if c=116 then ([9],r) else if c=98 then ([8],r) else if c=102 then ([12],r)
 else if c=10 then ([],r) else if c=13 then ([],J4 r)
 else if PL c then ([ch ((Ng 2 (c.toNat-48) r).1 % 256:Nat)],(Ng 2 (c.toNat-48) r).2) else ([c],r)
theorem VZ (c:UInt8) (r:l8_):(IW c r).2.length<=r.length:=by
 have a:=No r
 have b:=Vx 2 (c.toNat-48) r
 unfold IW
 repeat' split
 all_goals first | exact FL _ | assumption
def Dd (d:Nat) (o:l8_) (l:l8_):Option (l8_ × l8_) :=
 match l with
 | []=>none
 | c::r =>
  if c=40 then Dd (d+1) (o++[c]) r
  else if c=41 then (if d=1 then some (o,r) else Dd (d-1) (o++[c]) r)
  else if c=92 then
   match r with
   | []=>none
   | e::r'=>Dd d (o++(IW e r').1) (IW e r').2
  else if c=13 then Dd d (o++[10]) (J4 r)
  else Dd d (o++[c]) r
termination_by l.length
decreasing_by
 all_goals simp_wf
 · have:=VZ e r';omega
 · have:=No r;omega
def A2w (c:UInt8):Option Nat:=if Ee c<16 then some (Ee c) else none
def M1:Option Nat->l8_->l8_->Option (l8_ × l8_)
 | _,_,[]=>none
 | h,o,c::r =>
  if Er c then M1 h o r
  else if c=62 then some (match h with | none=>o | some x=>o++[ch (x * 16:Nat)],r)
  else match A2w c with
   | none=>none
   | some d=>match h with
    | none=>M1 (some d) o r
    | some x=>M1 none (o++[ch (x * 16+d:Nat)]) r
structure JM where
 kind:Int
 n:Int
 text:l8_
def JM.val (t:JM):Value:=.agg #[.int .i64 t.kind,.int .i64 t.n,.string (bs t.text)]
abbrev Wl:=Except Int (JM × l8_)
def Hz (o:Option (l8_ × l8_)):Wl :=
 match o with
 | none=>.error 14
 | some (s,r)=>if 65535<s.length then .error 9 else .ok (⟨6,0,s⟩,r)
def IR (k:Int) (l:l8_):Wl :=
 if 127<(l.takeWhile DO).length then .error 9 else .ok (⟨k,0,l.takeWhile DO⟩,l.dropWhile DO)
def Ld (c:UInt8) (r:l8_):Wl :=
 match r with
 | d::r'=>if d=c then .ok (⟨3,0,[c,c]⟩,r') else if c=60 then Hz (M1 none [] (d::r')) else .error 14
 | []=>if c=60 then Hz (M1 none [] []) else .error 14
def LM (r:l8_):Wl :=
 match r with
 | d::r'=>if d=47 then IR 5 r' else IR 4 (d::r')
 | []=>IR 4 []
def Sz (l:l8_):Wl :=
 let t:=Gv (l.takeWhile DO)
 if t.e≠0 then .error t.e else if t.ok then .ok (⟨t.kind,t.n,[]⟩,l.dropWhile DO) else IR 3 l
def Lu (l:l8_):Wl :=
 match DV false l with
 | []=>.ok (⟨0,0,[]⟩,[])
 | c::r =>
  if c=40 then Hz (Dd 1 [] r)
  else if c=41 then .error 14
  else if c=60\/c=62 then Ld c r
  else if c=123 then .ok (⟨7,0,[]⟩,r)
  else if c=125 then .ok (⟨8,0,[]⟩,r)
  else if c=91\/c=93 then .ok (⟨3,0,[c]⟩,r)
  else if c=47 then LM r
  else Sz (c::r)
end
section
def LO (n:Int):l8_:=if n<0 then [45] else []
def If (n:Int):l8_:=DY (n.natAbs / 65536)
def Ln (n:Int):l8_:=IU (n.natAbs % 65536)
def norm (n:Int):Int:=if Ao n then n else 0
end
section
theorem A4h (n:Int):-2147483648<=norm n:=by unfold norm Ao;split <;> simp at * <;> omega
theorem A4i (n:Int):norm n<=2147483647:=by unfold norm Ao;split <;> simp at * <;> omega
theorem WP (n:Int):(bs (LO n)).size<=1:=by rw [BE];unfold LO;split <;> simp
theorem UC (n:Int) (h:-2147483648<=n) (h':n<=2147483647):(bs (If n)).size<=20:=Jk _ oO
theorem Xc (n:Int):(bs (Ln n)).size<=16:=by rw [BE];exact My _
def DG (n:Int):l8_:=LO n++If n++(if Ln n=[] then [] else 46::Ln n)
def NL (n:Int):l8_:=LO n++If n++46::(if Ln n=[] then [48] else Ln n)
theorem Yr {a b:ByteArray} (h:a=b):Ending.returned (.string a)=Ending.returned (.string b):=by rw [h]
theorem VP (f:Nat) (h:0<f) (h':f<65536):IU f≠[]:=by rw [Nm f h h'];simp
theorem OJ (n:Int):Ln n=[]↔n.natAbs % 65536=0:=by
 unfold Ln
 constructor
 ·
  intro h
  by_cases h0:n.natAbs % 65536=0
  · exact h0
  · exact CM h (VP _ oO oO)
 · intro h;rw [h,L7]
end
section
theorem Cr {c d:UInt8} (h:(c.toNat:Int)=(d.toNat:Int)):c=d:=UInt8.toNat_inj.1 oO
theorem Dn {c d:UInt8} (h:¬ (c.toNat:Int)=(d.toNat:Int)):c≠d:=λe=>h (by rw [e])
theorem WE (c d:UInt8):decide ((c.toNat:Int)=(d.toNat:Int))=(c == d):=by
 by_cases h:c=d
 · subst h;simp
 · rw [beq_false_of_ne h];exact Al λe=>h (Cr e)
theorem Gx (q:UInt8->Bool) (l:l8_) (t:Nat) (h:t<l.length):(l.drop t).takeWhile q=if q l[t] then l[t]::(l.drop (t+1)).takeWhile q else []:=by
 rw [Ap h,List.takeWhile_cons]
def BP (l:l8_) (t:Nat):Nat:=t+((l.drop t).takeWhile DO).length
theorem EX (l:l8_) (t:Nat) (h:t<=l.length):t<=BP l t/\BP l t<=l.length:=by
 have a:=(List.takeWhile_sublist DO (l:=l.drop t)).length_le
 rw [B4] at a
 unfold BP;omega
def AP (m:Bool) (l:l8_) (t:Nat):Nat:=l.length-(DV m (l.drop t)).length
theorem Ff (m:Bool) (l:l8_) (t:Nat):AP m l t<=l.length:=Nat.sub_le _ _
theorem Pg (m:Bool) (l:l8_) (t:Nat):l.drop (AP m l t)=DV m (l.drop t):=by
 obtain ⟨k,a,b⟩:=HK (l.drop t) m
 unfold AP
 rw [b,K9,B4]
 rw [B4] at a
 by_cases h:t+k<=l.length
 · congr 1;omega
 · rw [B9 oO,B9 oO]
theorem Qs (l:l8_) (t:Nat) (h:t<l.length):AP false l t=if l[t]=37 then AP true l (t+1) else if Er l[t] then AP false l (t+1) else t:=by
 unfold AP
 rw [Ap h]
 simp only [DV]
 split
 · rfl
 ·
  split
  · rfl
  · simp;omega
theorem LN (l:l8_) (t:Nat) (h:t<l.length):AP true l t=if PN l[t] then AP false l (t+1) else AP true l (t+1):=by
 unfold AP
 rw [Ap h]
 simp only [DV]
 split <;> rfl
theorem KW (m:Bool) (l:l8_) (t:Nat) (h:l.length<=t):AP m l t=l.length:=by
 unfold AP
 rw [B9 h];cases m <;> simp [DV]
theorem WO (l:l8_) (t:Nat) (h:t<l.length->PN l[t]! = true):AP true l t=AP false l t:=by
 by_cases ht:t<l.length
 ·
  have he:=h ht
  rw [getElem!_pos l t ht] at he
  rw [LN l t ht,A6 he,Qs l t ht,A6 (XO he),A1 (by rintro e;rw [e] at he;cases he)]
 · rw [KW true l t oO,KW false l t oO]
def Sq (l:l8_) (t:Nat):Bool:=decide (t<l.length) && !(decide (((l[t]!).toNat:Int)=10) || decide (((l[t]!).toNat:Int)=12) || decide (((l[t]!).toNat:Int)=13))
theorem Qa (l:l8_) (t:Nat):Sq l t=(decide (t<l.length) && !PN l[t]!):=by
 unfold Sq PN
 rw [<- WE _ 10,<- WE _ 12,<- WE _ 13];rfl
theorem A2Y {l:l8_} (h:Sq l t=true):∃ ht:t<l.length,PN (l[t]'ht)=false:=by
 rw [Qa] at h
 simp only [A3,Ab,AH] at h
 obtain ⟨a,b⟩:=h
 rw [getElem!_pos l t a] at b
 exact ⟨a,b⟩
theorem A2Z {l:l8_} (h:Sq l t=false):AP true l t=AP false l t/\(∀ ht:t<l.length,(l[t]'ht)≠37):=by
 rw [Qa] at h
 have a:t<l.length->PN l[t]! = true:=λht=>by simpa [ht] using h
 refine ⟨WO l t a,λht e=>?_⟩
 have:=a ht
 rw [getElem!_pos l t ht,e] at this
 cases this
end
section
theorem Gr:(Tryz.prog.info? 5).map (λi=>(i.zero,i.size,i.bytes))=some (some (.int .u8 0),1,1):=by kernel_rfl
structure NR where
 k:Int
 n:Int
 s:l8_
 at':Int
 e:Int
abbrev NR.tok (r:NR):Value:=.agg #[.int .i64 r.k,.int .i64 r.n,.string (bs r.s)]
abbrev NR.val (r:NR):Value:=.tuple #[r.tok,.int .i64 r.at',.int .i64 r.e]
def A05 (l:l8_):Wl->NR
 | .ok (t,r)=>⟨t.kind,t.n,t.text,(l.length-r.length:Nat),0⟩
 | .error k=>⟨0,0,[],0,k⟩
theorem Ci {a b:Value} (h:a=b):Ending.returned a=.returned b:=by rw [h]
def A98 (w:World) (B:Nat) (l:l8_) (o:Option (l8_ × l8_)) (v:Value) (at' err:Int):Prop :=
 match o with
 | none=>err=14
 | some (s,r)=>err=0/\Cc 5 B w v (AI s)/\s.length<=l.length/\∃ k:Nat,at'=k/\k<=l.length/\r=l.drop k
def XJ (h:Option Nat):Int:=match h with | none=>-1 | some x=>x
theorem A0j (h:Option Nat) (o:l8_) (l:l8_) (t:Nat) (ht:t<l.length):M1 h o (l.drop t) =
  if Er l[t] then M1 h o (l.drop (t+1))
  else if l[t]=62 then some (match h with | none=>o | some x=>o++[ch (x * 16:Nat)],l.drop (t+1))
  else if 15<Ee l[t] then none else match h with
   | none=>M1 (some (Ee l[t])) o (l.drop (t+1))
   | some x=>M1 none (o++[ch (x * 16+Ee l[t]:Nat)]) (l.drop (t+1)):=by
 rw [Ap ht]
 simp only [M1]
 split
 · rfl
 ·
  split
  · cases h <;> rfl
  ·
   unfold A2w
   by_cases h16:Ee l[t]<16
   · rw [A6 h16,A1 oO] <;> cases h <;> rfl
   · rw [A1 h16,A6 oO]
theorem JD (x:Int) (h0:0<=x) (h:x<256):((ch x).toNat:Int)=x:=by
 unfold ch
 rw [UInt8.toNat_ofNat'];omega
theorem bF {b:Bool} (h:b=false):¬ b=true:=by rw [h];simp
end
section
def lfB (l:l8_) (t:Nat):Bool:=decide (t<l.length) && decide (((l[t]!).toNat:Int)=10)
theorem A7B {l:l8_} (h:lfB l t=true):t<l.length/\J4 (l.drop t)=l.drop (t+1):=by
 unfold lfB at h
 simp only [A3,Ab] at h
 obtain ⟨a,b⟩:=h
 rw [getElem!_pos l t a] at b
 have c:l[t]=10:=Cr b
 refine ⟨a,?_⟩
 rw [Ap a]
 simp [J4,c]
theorem A7C {l:l8_} (h:lfB l t=false):J4 (l.drop t)=l.drop t:=by
 by_cases h1:t<l.length
 ·
  unfold lfB at h
  rw [Aj h1,Cx,getElem!_pos l t h1] at h
  have a:l[t]≠10:=Dn (dF h)
  rw [Ap h1]
  simp [J4,a]
 · rw [B9 oO];rfl
def U5 (l:l8_) (k t:Nat):Bool:=decide (k<2) && (decide (t<l.length) && (decide (48<=((l[t]!).toNat:Int)) && decide (((l[t]!).toNat:Int)<=55)))
theorem A6i {l:l8_} {k:Nat} (h:U5 l k t=true):k<2/\∃ ht:t<l.length,48<=(l[t]'ht).toNat/\(l[t]'ht).toNat<=55/\∀ n,Ng (2-k) n (l.drop t)=Ng (2-(k+1)) (8 * n+((l[t]'ht).toNat-48)) (l.drop (t+1)):=by
 unfold U5 at h
 simp only [A3,Ab] at h
 obtain ⟨b,a,c,d⟩:=h
 rw [getElem!_pos l t a] at c d
 refine ⟨b,a,by omega,by omega,λn=>?_⟩
 rw [Ap a,show 2-k=(2-(k+1))+1 by omega]
 have:PL l[t]=true:=by simp [PL];omega
 simp only [Ng]
 rw [A6 this]
theorem A6j {l:l8_} {k:Nat} (h:U5 l k t=false) (n:Nat):Ng (2-k) n (l.drop t)=(n,l.drop t):=by
  by_cases h0:k<2
  · rw [show 2 - k = (2 - (k + 1)) + 1 by omega]
    by_cases h1:t<l.length
    · rw [Ap h1]
      unfold U5 at h
      rw [Aj h0,Cx,Aj h1,Cx,getElem!_pos l t h1] at h
      have:PL l[t]=false:=by
        unfold PL
        rw [<- h];congr 1 <;> exact D5.2 oO
      simp only [Ng]
      rw [A1 (by rw [this];simp)]
    · rw [B9 oO];rfl
  · rw [show 2-k=0 by omega];rfl
theorem ZI (d:Nat) (o l:l8_) (s:Nat) (h:s<l.length):Dd d o (l.drop s) =
  if l[s]=40 then Dd (d+1) (o++[l[s]]) (l.drop (s+1))
  else if l[s]=41 then (if d=1 then some (o,l.drop (s+1)) else Dd (d-1) (o++[l[s]]) (l.drop (s+1)))
  else if l[s]=92 then
   match l.drop (s+1) with
   | []=>none
   | e::r'=>Dd d (o++(IW e r').1) (IW e r').2
  else if l[s]=13 then Dd d (o++[10]) (J4 (l.drop (s+1)))
  else Dd d (o++[l[s]]) (l.drop (s+1)):=by
 rw [Ap h]
 exact Dd.eq_def d o (l[s]::l.drop (s+1))
theorem A2N (r:l8_):IW 110 r=([10],r):=rfl
theorem A2M (r:l8_):IW 114 r=([13],r):=rfl
theorem A2L (r:l8_):IW 116 r=([9],r):=rfl
theorem A5F (r:l8_):IW 98 r=([8],r):=rfl
theorem A2O (r:l8_):IW 102 r=([12],r):=rfl
theorem A5H (r:l8_):IW 10 r=([],r):=rfl
theorem A5G (r:l8_):IW 13 r=([],J4 r):=rfl
theorem Um {y:UInt8} (r:l8_) (h1:48<=(y.toNat:Int)) (h2:(y.toNat:Int)<=55):IW y r=([ch ((Ng 2 (y.toNat-48) r).1 % 256:Nat)],(Ng 2 (y.toNat-48) r).2):=by
 have ne:∀ c:UInt8,(c.toNat<48\/55<c.toNat)->y≠c:=λc hc e=>by subst e;omega
 unfold IW
 rw [A1 (ne 110 dD),A1 (ne 114 dD),A1 (ne 116 dD),A1 (ne 98 dD),A1 (ne 102 dD),A1 (ne 10 dD),A1 (ne 13 dD),
  A6 (by simp only [PL,A3,Ab];omega)]
theorem Ob {y:UInt8} (r:l8_) (h1:¬ (y.toNat:Int)=110) (h2:¬ (y.toNat:Int)=114) (h3:¬ (y.toNat:Int)=116) (h4:¬ (y.toNat:Int)=98) (h5:¬ (y.toNat:Int)=102) (h6:¬ (y.toNat:Int)=10) (h7:¬ (y.toNat:Int)=13)
  (h8:¬ (48<=(y.toNat:Int)/\(y.toNat:Int)<=55)):IW y r=([y],r):=by
 unfold IW
 rw [A1 (Dn (d:=110) h1),A1 (Dn (d:=114) h2),A1 (Dn (d:=116) h3),A1 (Dn (d:=98) h4),A1 (Dn (d:=102) h5),A1 (Dn (d:=10) h6),A1 (Dn (d:=13) h7),
  A1 (by simp only [PL,A3,Ab];omega)]
end
section
def MI (c:UInt8) (r:l8_):Wl :=
 if c=40 then Hz (Dd 1 [] r)
 else if c=41 then .error 14
 else if c=60\/c=62 then Ld c r
 else if c=123 then .ok (⟨7,0,[]⟩,r)
 else if c=125 then .ok (⟨8,0,[]⟩,r)
 else if c=91\/c=93 then .ok (⟨3,0,[c]⟩,r)
 else if c=47 then LM r
 else Sz (c::r)
theorem A15 {l:l8_} {n s:Nat} (h:l.drop s=DV false (l.drop n)) (hs:l.length<=s):Lu (l.drop n)=.ok (⟨0,0,[]⟩,[]):=by
 unfold Lu
 rw [<- h,B9 hs]
theorem A3O {l:l8_} {n s:Nat} (h:l.drop s=DV false (l.drop n)) (hs:s<l.length):Lu (l.drop n)=MI l[s] (l.drop (s+1)):=by
 unfold Lu
 rw [<- h,Ap hs];rfl
theorem A3g {l:l8_} {s:Nat} {c d:UInt8} (hc:c≠0) (hd:d=(l[s]?).getD 0):Ld c (l.drop s)=if d=c then .ok (⟨3,0,[c,c]⟩,l.drop (s+1)) else if c=60 then Hz (M1 none [] (l.drop s)) else .error 14:=by
  by_cases h:s<l.length
  · rw [Ap h]
    rw [A7 h] at hd
    obtain rfl:d=l[s]:=hd
    rfl
  · rw [B9 oO]
    rw [AK oO] at hd
    obtain rfl:d=0:=hd
    rw [A1 (λe=>hc e.symm)];rfl
theorem A1p {l:l8_} {s:Nat} {d:UInt8} (hd:d=(l[s]?).getD 0):LM (l.drop s)=if d=47 then IR 5 (l.drop (s+1)) else IR 4 (l.drop s):=by
  by_cases h:s<l.length
  · rw [Ap h]
    rw [A7 h] at hd
    obtain rfl:d=l[s]:=hd
    rfl
  · rw [B9 oO]
    rw [AK oO] at hd
    obtain rfl:d=0:=hd
    rw [A1 dD];rfl
theorem Zr {c:UInt8} (r:l8_) (h1:¬ (c.toNat:Int)=40) (h2:¬ (c.toNat:Int)=41) (h3:¬ (c.toNat:Int)=60) (h4:¬ (c.toNat:Int)=62) (h5:¬ (c.toNat:Int)=123) (h6:¬ (c.toNat:Int)=125) (h7:¬ (c.toNat:Int)=91)
  (h8:¬ (c.toNat:Int)=93) (h9:¬ (c.toNat:Int)=47):MI c r=Sz (c::r):=by
 unfold MI
 rw [A1 (Dn (d:=40) h1),A1 (Dn (d:=41) h2),A1 (not_or.2 ⟨Dn (d:=60) h3,Dn (d:=62) h4⟩),A1 (Dn (d:=123) h5),A1 (Dn (d:=125) h6),A1 (not_or.2 ⟨Dn (d:=91) h7,Dn (d:=93) h8⟩),A1 (Dn (d:=47) h9)]
theorem Sy (l:l8_) (s:Nat):(l.drop s).take (BP l s-s)=(l.drop s).takeWhile DO:=by
 unfold BP
 rw [Nat.add_sub_cancel_left]
 conv=>lhs;arg 2;rw [<- List.takeWhile_append_dropWhile (p:=DO) (l:=l.drop s)]
 rw [List.take_left'];rfl
theorem Mf (l:l8_) (s:Nat):(l.drop s).dropWhile DO=l.drop (BP l s):=by
 unfold BP
 rw [<- K9]
 conv=>rhs;arg 2;rw [<- List.takeWhile_append_dropWhile (p:=DO) (l:=l.drop s)]
 rw [List.drop_left'];rfl
theorem OT (l:l8_) (t:JM) (k:Nat) (hk:k<=l.length):A05 l (.ok (t,l.drop k))=⟨t.kind,t.n,t.text,k,0⟩:=by
 simp only [A05,B4]
 rw [show l.length-(l.length-k)=k by omega]
theorem A1c (r:l8_):MI 40 r=Hz (Dd 1 [] r):=rfl
theorem A5U (r:l8_):MI 41 r=.error 14:=rfl
theorem A1a (r:l8_):MI 60 r=Ld 60 r:=rfl
theorem A19 (r:l8_):MI 62 r=Ld 62 r:=rfl
theorem A3R (r:l8_):MI 123 r=.ok (⟨7,0,[]⟩,r):=rfl
theorem A3Q (r:l8_):MI 125 r=.ok (⟨8,0,[]⟩,r):=rfl
theorem A5T (r:l8_):MI 91 r=.ok (⟨3,0,[91]⟩,r):=rfl
theorem A5S (r:l8_):MI 93 r=.ok (⟨3,0,[93]⟩,r):=rfl
theorem A1b (r:l8_):MI 47 r=LM r:=rfl
def Gh (l:l8_) (a:Int):NR:=if a<0\/(l.length:Int)<a then ⟨0,0,[],0,21⟩ else A05 l (Lu (l.drop a.toNat))
end
section
theorem Tj:∀ c:UInt8,decide (0<=Lib.indexByte [0,9,10,12,13,32] c)=Er c:=by
 intro c
 have key:∀ n:Fin 256,decide (0<=Lib.indexByte [0,9,10,12,13,32] (UInt8.ofNat n.1))=Er (UInt8.ofNat n.1):=by decide +kernel
 have:=key ⟨c.toNat,Ce c⟩
 simpa using this
theorem Ti:∀ c:UInt8,decide (Lib.indexByte [40,41,60,62,91,93,123,125,47,37] c<0)=!Nq c:=by
 intro c
 have key:∀ n:Fin 256,decide (Lib.indexByte [40,41,60,62,91,93,123,125,47,37] (UInt8.ofNat n.1)<0)=!Nq (UInt8.ofNat n.1):=by decide +kernel
 have:=key ⟨c.toNat,Ce c⟩
 simpa using this
theorem A4A:∀ c:UInt8,decide (Lib.indexByte [10,12,13] c<0)=!PN c:=by
 intro c
 have key:∀ n:Fin 256,decide (Lib.indexByte [10,12,13] (UInt8.ofNat n.1)<0)=!PN (UInt8.ofNat n.1):=by decide +kernel
 have:=key ⟨c.toNat,Ce c⟩
 simpa using this
theorem Nj (l:l8_) (c:UInt8) (w:World):Calls Tryz.prog 58 #[.string (bs l),.int .u8 (c.toNat:Int)] w λe w'=>e=.returned (.int .i64 (Lib.indexByte l c))/\w=w':=by
 refine (Tryz.strings_IndexByte (bs l) (c.toNat:Int) w).mono λe w' h=>⟨?_,h.2.symm⟩
 rw [h.1]
 have:(bs l).data.toList=l:=by simp [bs]
 rw [this]
 have:((c.toNat:Int).toNat).toUInt8=c:=by rw [Int.toNat_natCast];exact UInt8.ofNat_toNat
 rw [this]
theorem N6 (c:UInt8) (w:World) :
  Calls Tryz.prog 176 #[.int .u8 (c.toNat:Int)] w λe w'=>e=.returned (.bool (Er c))/\w=w':=by
 refine W.e func176 rfl ntmps176 bL ?_
 refine A4<|A9 rfl<|A4<|A2 rfl<|WL.c1 AN rfl rfl ((Nj [0,9,10,12,13,32] c _)) (λb a=>?_)
 obtain rfl:=a
 refine A0 (.bis (Er c) (.geq rfl rfl) (by exact Tj c))<|A9 rfl<|Ai (AZ rfl rfl ?_)
 exact ⟨rfl,rfl⟩
theorem TS (c:UInt8) (w:World) :
  Calls Tryz.prog 182 #[.int .u8 (c.toNat:Int)] w λe w'=>e=.returned (.bool (DO c))/\w=w':=by
 refine W.e func182 rfl ntmps182 bL ?_
 refine A4<|A9 rfl<|A4<|A2 rfl<|WL.c1 AN rfl rfl ((N6 c _)) (λg b=>?_)
 obtain rfl:=b
 refine A0 (.not rfl)<|A2 rfl<|B1 rfl rfl rfl (λa=>?_) (λa=>?_)
 have d:=(nT a)
 refine A2 rfl<|Ew rfl rfl rfl (by rw [(nT a)] <;> rfl)<|WL.c1 AN rfl rfl ((Nj [40,41,60,62,91,93,123,125,47,37] c _)) (λi f=>?_)
 obtain rfl:=f
 refine Ew rfl rfl rfl (by rw [(nT a)] <;> rfl)<|A0 (.bis (!Nq c) (.lss rfl rfl) (by exact Ti c))<|A0 (.pkT rfl (by rw [(nT a)] <;> rfl) rfl)<|A9 rfl<|Ai (AZ rfl rfl ?_)
 exact ⟨EI (by unfold DO;simp_all),rfl⟩
 have d:=(nF a)
 refine EL rfl rfl rfl (by rw [(nF a)] <;> rfl)<|EL rfl rfl rfl (by rw [(nF a)] <;> rfl)<|A0 (.pkF rfl (by rw [(nF a)] <;> rfl) rfl)<|A9 rfl<|Ai (AZ rfl rfl ?_)
 exact ⟨EI (by unfold DO;simp_all),rfl⟩
def Jm (w:World) (r:Nat) (p:Option Addr) (l:l8_) (c t:Nat):Prop:=AF w r #[.slice p l.length c,.int .i64 (t:Int)] 180/\Av w p l
theorem Mp (r:Nat) (p:Option Addr) (l:l8_) (c t:Nat) (w:World) (h:Jm w r p l c t) :
  Calls Tryz.prog 150 #[.pointer (some ⟨r,0,none⟩)] w λe w'=>e=.returned (.bool (decide (t<l.length)))/\CZ w w':=by
 have hr:=h.1
 refine W.e func150 rfl ntmps150 bL ?_
 refine A4<|A9 rfl<|Ah<|E2 C7 kR<|At (.mv rfl) rfl<|At (.nck rfl) rfl<|At (.fa Dt rfl B5 dD rfl) rfl<|Di (λm=>Ad (Bw _) rfl hr rfl) rfl<|At (.mv rfl) rfl<|At (.nck rfl) rfl<|At (.fa Dt rfl G3 dD rfl) rfl<|Di (λm=>Ad (g22_ _) rfl hr rfl) rfl<|At (.lenS Bu rfl) rfl<|At (.lss rfl rfl) rfl<|At (.as rfl) rfl<|Da (λb a=>?_)
 refine Ai (AZ rfl rfl ?_)
 exact ⟨EI (by (apply AU.2;(try simp only [A3,Bo,AH,Ab,Aq,By,BI,false_iff,iff_false,true_iff,iff_true]);omega)),by assumption⟩
theorem U8 (r:Nat) (p:Option Addr) (l:l8_) (c t:Nat) (w:World) (h:Jm w r p l c t) (m:Nat) :
  Calls Tryz.prog 150 #[.pointer (some ⟨r,0,none⟩)] (w.drewN m) λe w'=>e=.returned (.bool (decide (t<l.length)))/\∃ k,w'=w.drewN k :=
 (Mp r p l c t (w.drewN m) ⟨h.1,h.2.drewN m⟩).mono λe w' h=>⟨h.1,CZ.trans ⟨m,rfl⟩ h.2⟩
def Qm (l:l8_) (t:Nat):Except Int UInt8:=match l[t]? with | some x=>.ok x | none=>.error 14
theorem Mn (r:Nat) (p:Option Addr) (l:l8_) (c t:Nat) (w:World) (h:Jm w r p l c t) (hne:0<l.length->(pA p).block≠r) (hl:l.length<=100000000) :
  Calls Tryz.prog 177 #[.pointer (some ⟨r,0,none⟩)] w (Cg 30 (Qm l t) (λx=>.int .u8 (x.toNat:Int)) (λ_ w'=>Jm w' r p l c (t+1)/\Bf w.heap.size r w w') (λw'=>Bf w.heap.size r w w')):=by
 have hr:=h.1
 have hb:=h.2
 refine W.e func177 rfl ntmps177 bL ?_
 have y:=Bf.refl (w.heap.size) r w
 refine A4<|A9 rfl<|Ah<|A4<|A2 rfl<|WL.c1 AN rfl rfl ((Mp r p l c t _ ⟨hr,hb⟩)) (λF d=>?_)
 have i:=hr.drew d
 have A:=hb.drew d
 have j:=BN y (NE d)
 refine A0 (.not rfl)<|WL.e<|Ac rfl (λq=>?_) (λq=>?_)
 have B:=(nT q)
 refine Ak<|A0 (.mkI LJ rfl)<|Fo rfl (Aw ?_)
 exact Bn 14 (by unfold Qm;rw [AK (by simp_all)]) j
 have B:=(nF q)
 have o:t<l.length:=by simp_all
 refine W.k<|A4<|A2 rfl<|A0 (.nck rfl)<|A0 (.fa Dt rfl B5 dD rfl)<|Ag (Ad (Bw _) rfl i rfl)<|A0 (.iis (((t+1:Nat):Int)) (.add rfl rfl (Bp oO)) oO)<|A0 (.nck rfl)<|A0 (.fa Dt rfl B5 dD rfl)<|WL.st B5 rfl rfl rfl i oQ (λD a b E=>?_)
 have a:AF D r _ _:=a
 have b:BF r _ _:=b
 have f:=Av.upd A b hne
 have C:=BN j (BM b)
 refine WL.e<|Ah<|E2 C7 kR<|At (.mv rfl) rfl<|At (.nck rfl) rfl<|At (.fa Dt rfl G3 dD rfl) rfl<|Di (λm=>Ad (g22_ _) rfl a rfl) rfl<|At (.mv rfl) rfl<|At (.nck rfl) rfl<|At (.fa Dt rfl B5 dD rfl) rfl<|Di (λm=>Ad (Bw _) rfl a rfl) rfl<|At (.iis ((t:Int)) (.sub rfl rfl (Bp oO)) oO) rfl<|At (.ixb Bu I7 rfl rfl (f.isp oD) (t) oO oO) rfl<|Di (λm=>AO (Ou _) rfl ((f.drewN m).cells (t) oO)) rfl<|At (.as rfl) rfl<|Da (λG g=>?_)
 have s:=a.drew g
 have u:=f.drew g
 have v:=BN C (NE g)
 refine Ai (AZ rfl rfl ?_)
 exact Cg.ok (l[t]'o) (by unfold Qm;rw [A7 o]) rfl ⟨⟨s,u⟩,v⟩
def Hc (l:l8_) (t:Nat) (x:UInt8):Bool:=decide (t<l.length) && decide (((l[t]!).toNat:Int)=(x.toNat:Int))
theorem Q3 {l:l8_} {x:UInt8} (h:Hc l t x=true):∃ ht:t<l.length,l[t]'ht=x:=by
 unfold Hc at h
 simp only [A3,Ab] at h
 obtain ⟨a,b⟩:=h
 rw [getElem!_pos l t a] at b
 exact ⟨a,Cr b⟩
theorem U6 {l:l8_} {x:UInt8} (h:Hc l t x=false) (ht:t<l.length):l[t]≠x:=by
 unfold Hc at h
 rw [Aj ht,Cx,getElem!_pos l t ht] at h
 exact Dn (dF h)
theorem Mo (r:Nat) (p:Option Addr) (l:l8_) (c t:Nat) (x:UInt8) (w:World) (h:Jm w r p l c t) (hne:0<l.length->(pA p).block≠r) (hl:l.length<=100000000) (ht:t<=l.length) :
  Calls Tryz.prog 179 #[.pointer (some ⟨r,0,none⟩),.int .u8 (x.toNat:Int)] w λe w'=>e=.returned (.bool (Hc l t x))/\Jm w' r p l c (if Hc l t x then t+1 else t)/\Bf w.heap.size r w w':=by
 have hr:=h.1
 have hb:=h.2
 refine W.e func179 rfl ntmps179 bL ?_
 have s:=Bf.refl (w.heap.size) r w
 refine A4<|A9 rfl<|Ah<|ME 20 (Hc l t x) ?_ (λD g=>?_)
 refine E2 C7 kR<|At (.mv rfl) rfl<|WQ.c1 AN rfl rfl (λm=>(U8 r p l c t _ ⟨hr,hb⟩ m))<|At (.mv rfl) rfl<|M9 rfl rfl rfl (λa=>?_) (λa=>?_)
 have u:=dT a
 refine At (.mv rfl) rfl<|BT rfl rfl rfl a<|At (.nck rfl) rfl<|BT rfl rfl rfl a<|At (.fa Dt rfl G3 dD rfl) rfl<|BT rfl rfl rfl a<|Di (λm=>Ad (g22_ _) rfl hr rfl) rfl<|BT rfl rfl rfl a<|At (.mv rfl) rfl<|BT rfl rfl rfl a<|At (.nck rfl) rfl<|BT rfl rfl rfl a<|At (.fa Dt rfl B5 dD rfl) rfl<|BT rfl rfl rfl a<|Di (λm=>Ad (Bw _) rfl hr rfl) rfl<|BT rfl rfl rfl a<|At (.ixb Bu I7 rfl rfl (hb.isp oD) (t) oO oO) rfl<|BT rfl rfl rfl a<|Di (λm=>AO (Ou _) rfl ((hb.drewN m).cells (t) oO)) rfl<|BT rfl rfl rfl a<|At (.mv rfl) rfl<|BT rfl rfl rfl a<|At (.eql rfl rfl) rfl<|At (.pkT rfl a rfl) rfl<|Da (λE v=>?_)
 exact ⟨G8 (Cy rfl (by (by_cases hq:t<l.length) <;> (unfold Hc;first | (exfalso;simp_all;done) | (rw [getElem!_pos l t hq];simp_all;done) | (rw [Al hq];simp_all;done)))),v⟩
 have u:=dF a
 refine Bb rfl rfl rfl a<|Bb rfl rfl rfl a<|Bb rfl rfl rfl a<|Bb rfl rfl rfl a<|Bb rfl rfl rfl a<|Bb rfl rfl rfl a<|Bb rfl rfl rfl a<|Bb rfl rfl rfl a<|Bb rfl rfl rfl a<|Bb rfl rfl rfl a<|Bb rfl rfl rfl a<|At (.pkF rfl a rfl) rfl<|Da (λF y=>?_)
 exact ⟨G8 (Cy rfl (by (by_cases hq:t<l.length) <;> (unfold Hc;first | (exfalso;simp_all;done) | (rw [getElem!_pos l t hq];simp_all;done) | (rw [Al hq];simp_all;done)))),y⟩
 have f:=hr.drew g
 have i:=hb.drew g
 have j:=BN s (NE g)
 refine Ac rfl (λA=>?_) (λA=>?_)
 refine A4<|A2 rfl<|A0 (.nck rfl)<|A0 (.fa Dt rfl B5 dD rfl)<|Ag (Ad (Bw _) rfl f rfl)<|A0 (.iis (((t+1:Nat):Int)) (.add rfl rfl (Bp oO)) oO)<|A0 (.nck rfl)<|A0 (.fa Dt rfl B5 dD rfl)<|WL.st B5 rfl rfl rfl f oQ (λB d b C=>?_)
 have d:AF B r _ _:=d
 have b:BF r _ _:=b
 have o:=Av.upd i b hne
 have q:=BN j (BM b)
 refine WL.e<|A4<|A9 rfl<|Ai (AZ rfl rfl ?_)
 exact ⟨EI (by simp_all),by rw [A6 aS];exact ⟨d,o⟩,q⟩
 refine W.k<|A4<|A9 rfl<|Ai (AZ rfl rfl ?_)
 exact ⟨EI (by simp_all),by rw [A1 (bF aS)];exact ⟨f,i⟩,j⟩
theorem A8E (l:l8_) (c:UInt8) (w:World) (m:Nat):Calls Tryz.prog 58 #[.string (bs l),.int .u8 (c.toNat:Int)] (w.drewN m) λe w'=>e=.returned (.int .i64 (Lib.indexByte l c))/\∃ k,w'=w.drewN k :=
 (Nj l c (w.drewN m)).mono λe w' h=>⟨h.1,m,h.2.symm⟩
theorem ZD (r:Nat) (p:Option Addr) (l:l8_) (c a:Nat) (w:World) (h:Jm w r p l c a) (hne:0<l.length->(pA p).block≠r) (hl:l.length<=100000000) (ha:a<=l.length) :
  Calls Tryz.prog 149 #[.pointer (some ⟨r,0,none⟩)] w λe w'=>e=.returned (.tuple #[])/\Jm w' r p l c (AP false l a)/\Bf w.heap.size r w w':=by
 have hr:=h.1
 have hb:=h.2
 obtain ⟨R,hR⟩:∃ R,R=AP false l a:=⟨_,rfl⟩
 rw [<- hR]
 refine W.e func149 rfl ntmps149 bL ?_
 refine W.b<|Cj (α:=Nat) (λt=>[(0,.pointer (some ⟨r,0,none⟩))]) (λt w'=>Jm w' r p l c t/\Bf w.heap.size r w w'/\t<=l.length/\AP false l t=R) (λt=>l.length-t) (a) ⟨rfl,tT⟩ (⟨h,Bf.refl _ _ _,ha,hR.symm⟩) (λt w1 hR=>?_)
 obtain ⟨v,hT,ht,hw⟩:=hR
 obtain ⟨s,rfl⟩:∃ s,s=t:=⟨t,rfl⟩
 refine Ah<|A4<|A2 rfl<|WL.c1 AN rfl rfl ((Mp r p l c s _ ⟨v.1,v.2⟩)) (λw1 B=>?_)
 have x:=v.1.drew B
 have y:=v.2.drew B
 have K:=BN hT (NE B)
 refine WL.e<|Ac rfl (λN=>?_) (λN=>?_)
 have a2:=dT N
 have hs:=Qs l s oO
 refine W.k<|W.b<|Ah<|E2 C7 kR<|At (.mv rfl) rfl<|At (.nck rfl) rfl<|At (.fa Dt rfl G3 dD rfl) rfl<|Di (λm=>Ad (g22_ _) rfl x rfl) rfl<|At (.mv rfl) rfl<|At (.nck rfl) rfl<|At (.fa Dt rfl B5 dD rfl) rfl<|Di (λm=>Ad (Bw _) rfl x rfl) rfl<|At (.ixb Bu I7 rfl rfl (y.isp oD) (s) oO oO) rfl<|Di (λm=>AO (Ou _) rfl ((y.drewN m).cells (s) oO)) rfl<|At (.as rfl) rfl<|Da (λw6 C=>?_)
 have A:=x.drew C
 have D:=y.drew C
 have E:=BN K (NE C)
 refine W.b<|A4<|A2 rfl<|WL.c1 AN rfl rfl ((N6 _ _)) (λac P=>?_)
 obtain rfl:=P
 refine A9 rfl<|Ac rfl (λa3=>?_) (λa3=>?_)
 refine Ak<|A2 rfl<|A0 (.nck rfl)<|A0 (.fa Dt rfl B5 dD rfl)<|Ag (Ad (Bw _) rfl A rfl)<|A0 (.iis (((s+1:Nat):Int)) (.add rfl rfl (Bp oO)) oO)<|A0 (.nck rfl)<|A0 (.fa Dt rfl B5 dD rfl)<|WL.st B5 rfl rfl rfl A oQ (λa4 j g aa=>?_)
 have j:AF a4 r _ _:=j
 have g:BF r _ _:=g
 have Q:=Av.upd D g hne
 have T:=BN E (BM g)
 refine WL.e<|?_
 exact ⟨s+1,⟨rfl,tT⟩,⟨⟨j,Q⟩,T,by omega,by rw [<- hw,hs,A1 (λe=>CM (show Er (l[s]'oO)=true by assumption) (by rw [e];decide)),A6 aS]⟩,by omega⟩
 refine A4<|A2 rfl<|A0 (.eql rfl rfl)<|A9 rfl<|Ac rfl (λF=>?_) (λF=>?_)
 have U:=dT F
 refine W.b<|Cj (α:=Nat) (λt=>[(0,.pointer (some ⟨r,0,none⟩))]) (λt w'=>Jm w' r p l c t/\Bf w.heap.size r w w'/\s<=t/\t<=l.length/\AP true l t=R/\(t=s->l[s]'oO=37)) (λt=>l.length-t) (s) ⟨rfl,tT⟩ (⟨⟨A,D⟩,E,by omega,by omega,by rw [LN l s oO,A1 (by rw [show l[s]=37 from Cr aS];decide),<- hw,hs,A6 (Cr aS)],λ_=>Cr aS⟩) (λt w1 hR=>?_)
 obtain ⟨f,a5,ad,ae,a6,a7⟩:=hR
 refine Ah<|ME 43 (Sq l t) ?_ (λaf q=>?_)
 refine E2 C7 kR<|At (.mv rfl) rfl<|WQ.c1 AN rfl rfl (λm=>(U8 r p l c t _ ⟨f.1,f.2⟩ m))<|At (.mv rfl) rfl<|M9 rfl rfl rfl (λd=>?_) (λd=>?_)
 have V:=dT d
 refine At (.mv rfl) rfl<|BT rfl rfl rfl d<|At (.nck rfl) rfl<|BT rfl rfl rfl d<|At (.fa Dt rfl G3 dD rfl) rfl<|BT rfl rfl rfl d<|Di (λm=>Ad (g22_ _) rfl f.1 rfl) rfl<|BT rfl rfl rfl d<|At (.mv rfl) rfl<|BT rfl rfl rfl d<|At (.nck rfl) rfl<|BT rfl rfl rfl d<|At (.fa Dt rfl B5 dD rfl) rfl<|BT rfl rfl rfl d<|Di (λm=>Ad (Bw _) rfl f.1 rfl) rfl<|BT rfl rfl rfl d<|At (.ixb Bu I7 rfl rfl (f.2.isp oD) (t) oO oO) rfl<|BT rfl rfl rfl d<|Di (λm=>AO (Ou _) rfl ((f.2.drewN m).cells (t) oO)) rfl<|BT rfl rfl rfl d<|WQ.c1 AN rfl rfl (λm=>(A8E [10,12,13] _ _ m))<|BT rfl rfl rfl d<|At (.bis (!PN (l[t]'oO)) (.lss rfl rfl) (by exact A4A _)) rfl<|At (.pkT rfl d rfl) rfl<|Da (λag X=>?_)
 exact ⟨G8 (Cy rfl (by rw [Qa];(by_cases hq:t<l.length) <;> (first | (exfalso;omega) | (rw [getElem!_pos l t hq,Aj hq];rfl) | (rw [Al hq];simp_all;done)))),X⟩
 have V:=dF d
 refine Bb rfl rfl rfl d<|Bb rfl rfl rfl d<|Bb rfl rfl rfl d<|Bb rfl rfl rfl d<|Bb rfl rfl rfl d<|Bb rfl rfl rfl d<|Bb rfl rfl rfl d<|Bb rfl rfl rfl d<|Bb rfl rfl rfl d<|Bb rfl rfl rfl d<|Bb rfl rfl rfl d<|At (.pkF rfl d rfl) rfl<|Da (λah Y=>?_)
 exact ⟨G8 (Cy rfl (by rw [Qa];(by_cases hq:t<l.length) <;> (first | (exfalso;omega) | (rw [getElem!_pos l t hq,Aj hq];rfl) | (rw [Al hq];simp_all;done)))),Y⟩
 have u:=f.1.drew q
 have G:=f.2.drew q
 have H:=BN a5 (NE q)
 refine Ac rfl (λa8=>?_) (λa8=>?_)
 obtain ⟨L,J⟩:=A2Y aS
 rw [LN l t L,J,A1 (by simp)] at a6
 refine W.k<|W.b<|Ak<|A2 rfl<|A0 (.nck rfl)<|A0 (.fa Dt rfl B5 dD rfl)<|Ag (Ad (Bw _) rfl u rfl)<|A0 (.iis (((t+1:Nat):Int)) (.add rfl rfl (Bp oO)) oO)<|A0 (.nck rfl)<|A0 (.fa Dt rfl B5 dD rfl)<|WL.st B5 rfl rfl rfl u oQ (λa9 o i ab=>?_)
 have o:AF a9 r _ _:=o
 have i:BF r _ _:=i
 have a0:=Av.upd G i hne
 have a1:=BN H (BM i)
 refine WL.e<|?_
 exact ⟨t+1,⟨rfl,tT⟩,⟨⟨o,a0⟩,a1,by omega,by omega,by omega,λh=>by omega⟩,by omega⟩
 obtain ⟨L,J⟩:=A2Z aS
 have ai:t≠s:=λe=>by subst e;exact J oO (a7 rfl)
 refine C0 ?_
 exact ⟨t,⟨rfl,tT⟩,⟨⟨u,G⟩,H,by omega,by omega⟩,by omega⟩
 have U:=dF F
 refine Ai (Bt rfl  ?_)
 exact ⟨rfl,⟨by rw [<- hw,hs,A1 (Dn aS),A1 (bF aS)];exact A,D⟩,E⟩
 have a2:=dF N
 refine C0<|BJ (Bt rfl ?_)
 exact ⟨rfl,⟨by rw [show R=s by rw [<- hw,KW false l s oO];omega];exact x,y⟩,K⟩
end
section
theorem KY (c:UInt8) (w:World) :
  Calls Tryz.prog 57 #[.int .u8 (c.toNat:Int)] w λe w'=>e=.returned (.bool (Er c))/\w=w':=by
 refine W.e func57 rfl ntmps57 bL ?_
 refine A4<|A9 rfl<|A4<|A2 rfl<|WL.c1 AN rfl rfl ((Nj [0,9,10,12,13,32] c _)) (λb a=>?_)
 obtain rfl:=a
 refine A0 (.bis (Er c) (.geq rfl rfl) (by exact Tj c))<|A9 rfl<|Ai (AZ rfl rfl ?_)
 exact ⟨rfl,rfl⟩
theorem NN (c:UInt8) (w:World) :
  Calls Tryz.prog 45 #[.int .u8 (c.toNat:Int)] w λe w'=>e=.returned (.bool (DO c))/\w=w':=by
 refine W.e func45 rfl ntmps45 bL ?_
 refine A4<|A9 rfl<|A4<|A2 rfl<|WL.c1 AN rfl rfl ((KY c _)) (λg b=>?_)
 obtain rfl:=b
 refine A0 (.not rfl)<|A2 rfl<|B1 rfl rfl rfl (λa=>?_) (λa=>?_)
 have d:=(nT a)
 refine A2 rfl<|Ew rfl rfl rfl (by rw [(nT a)] <;> rfl)<|WL.c1 AN rfl rfl ((Nj [40,41,60,62,91,93,123,125,47,37] c _)) (λi f=>?_)
 obtain rfl:=f
 refine Ew rfl rfl rfl (by rw [(nT a)] <;> rfl)<|A0 (.bis (!Nq c) (.lss rfl rfl) (by exact Ti c))<|A0 (.pkT rfl (by rw [(nT a)] <;> rfl) rfl)<|A9 rfl<|Ai (AZ rfl rfl ?_)
 exact ⟨EI (by unfold DO;simp_all),rfl⟩
 have d:=(nF a)
 refine EL rfl rfl rfl (by rw [(nF a)] <;> rfl)<|EL rfl rfl rfl (by rw [(nF a)] <;> rfl)<|A0 (.pkF rfl (by rw [(nF a)] <;> rfl) rfl)<|A9 rfl<|Ai (AZ rfl rfl ?_)
 exact ⟨EI (by unfold DO;simp_all),rfl⟩
def KF (l:l8_) (a:Int):Nat:=if a<0\/(l.length:Int)<a then l.length else a.toNat
theorem YH (l:l8_) (a:Int):KF l a<=l.length:=by unfold KF;split <;> omega
theorem Rl (l:l8_) (a:Nat) (h:a<=l.length):KF l a=a:=by unfold KF;rw [A1 oO];omega
theorem Po (p:Option Addr) (l:l8_) (c:Nat) (a:Int) (w:World) :
  Calls Tryz.prog 56 #[.slice p l.length c,.int .i64 a] w λe w'=>e=.returned (.int .i64 (KF l a:Int))/\w=w':=by
 refine W.e func56 rfl ntmps56 bL ?_
 refine A4<|A9 rfl<|Ah<|Fd 12 (decide (a<0\/(l.length:Int)<a)) ?_ ?_
 refine Ak<|A2 rfl<|A0 (.lss rfl rfl)<|A2 rfl<|B1 rfl rfl rfl (λb=>?_) (λb=>?_)
 have f:=dF b
 refine A2 rfl<|As b<|A2 rfl<|As b<|A0 (.lenS Bu rfl)<|As b<|A0 (.gtr rfl rfl)<|A0 (.pkF rfl b rfl)<|WL.e<|?_
 exact ⟨G8 (Cy rfl (by (apply AU.2;(try simp) <;> omega))),rfl⟩
 have f:=dT b
 refine Aa b<|Aa b<|Aa b<|A0 (.pkT rfl b rfl)<|WL.e<|?_
 exact ⟨G8 (Cy rfl (by (apply AU.2;(try simp) <;> omega))),rfl⟩
 refine Ac rfl (λd=>?_) (λd=>?_)
 have g:=dT d
 refine A4<|A2 rfl<|A0 (.lenS Bu rfl)<|A9 rfl<|Ai (AZ rfl rfl ?_)
 exact ⟨E7 (by unfold KF;rw [A6 aS]),rfl⟩
 have g:=dF d
 refine W.k<|A4<|A2 rfl<|A9 rfl<|Ai (AZ rfl rfl ?_)
 exact ⟨E7 (by unfold KF;rw [A1 aS];omega),rfl⟩
theorem OO (p:Option Addr) (l:l8_) (c:Nat) (a:Int) (w:World) (hb:Av w p l) (hl:l.length<=100000000) :
  Calls Tryz.prog 42 #[.slice p l.length c,.int .i64 a] w λe w'=>e=.returned (.int .i64 (AP false l (KF l a):Int))/\w=w':=by
 obtain ⟨R,hR⟩:∃ R,R=AP false l (KF l a):=⟨_,rfl⟩
 have ha:=YH l a
 rw [<- hR]
 refine W.e func42 rfl ntmps42 bL ?_
 refine A4<|A9 rfl<|A4<|A2 rfl<|A2 rfl<|WL.c1 AN rfl rfl ((Po p l c a _)) (λq u=>?_)
 obtain rfl:=u
 refine A9 rfl<|Ah<|W.b<|Cj (α:=Nat) (λt=>[(0,.slice p l.length c),(1,.int .i64 (t:Int))]) (λt w'=>w=w'/\t<=l.length/\AP false l t=R) (λt=>l.length-t) (KF l a) ⟨rfl,rfl,tT⟩ (⟨rfl,ha,hR.symm⟩) (λt q hR=>?_)
 obtain ⟨rfl,ht,hw⟩:=hR
 obtain ⟨s,rfl⟩:∃ s,s=t:=⟨t,rfl⟩
 refine Ah<|A4<|A2 rfl<|A2 rfl<|A0 (.lenS Bu rfl)<|A0 (.lss rfl rfl)<|WL.e<|Ac rfl (λm=>?_) (λm=>?_)
 have v:=dT m
 refine W.k<|W.b<|Ah<|Ak ?_
 have hs:=Qs l s oO
 have hs':l[s]! = l[s]'oO:=getElem!_pos l s oO
 refine A2 rfl<|A2 rfl<|A0 (.ixb Bu I7 rfl rfl (hb.isp oD) (s) (rfl) oO)<|Ag (AO (Ou _) rfl (hb.cells (s) oO))<|A9 rfl<|W.b<|A4<|A2 rfl<|WL.c1 AN rfl rfl ((KY _ _)) (λL x=>?_)
 obtain rfl:=x
 refine A9 rfl<|Ac rfl (λF=>?_) (λF=>?_)
 refine Ak<|A2 rfl<|A0 (.add rfl rfl (Bp oO))<|A9 rfl ?_
 exact ⟨s+1,⟨rfl,LA rfl oO,tT⟩,⟨rfl,by omega,by rw [<- hw,hs,A1 (by rintro e;simp_all [Er]),A6 (by simp_all)]⟩,by omega⟩
 refine A4<|A2 rfl<|A0 (.eql rfl rfl)<|A9 rfl<|Ac rfl (λo=>?_) (λo=>?_)
 have y:=dT o
 refine W.b<|Cj (α:=Nat) (λt=>[(0,.slice p l.length c),(1,.int .i64 (t:Int))]) (λt w'=>w=w'/\s<=t/\t<=l.length/\AP true l t=R/\(t=s->l[s]'oO=37)) (λt=>l.length-t) (s) ⟨rfl,rfl,tT⟩ (⟨rfl,by omega,by omega,by rw [LN l s oO,A1 (by rw [show l[s]=37 from Cr aS];decide),<- hw,hs,A6 (Cr aS)],λ_=>Cr aS⟩) (λt q hR=>?_)
 obtain ⟨rfl,H,J,A,B⟩:=hR
 refine Ah<|Fd 50 (Sq l t) ?_ ?_
 refine Ak<|A2 rfl<|A2 rfl<|A0 (.lenS Bu rfl)<|A0 (.lss rfl rfl)<|A2 rfl<|B1 rfl rfl rfl (λd=>?_) (λd=>?_)
 have C:=dT d
 refine A2 rfl<|As d<|A2 rfl<|As d<|A0 (.ixb Bu I7 rfl rfl (hb.isp oD) (t) (rfl) oO)<|As d<|Ag (AO (Ou _) rfl (hb.cells (t) oO))<|As d<|A0 (.neq rfl rfl)<|A0 (.pkT rfl d rfl)<|A2 rfl<|B1 rfl rfl rfl (λf=>?_) (λf=>?_)
 have D:=JY f
 refine A2 rfl<|As f<|A2 rfl<|As f<|A0 (.ixb Bu I7 rfl rfl (hb.isp oD) (t) (rfl) oO)<|As f<|Ag (AO (Ou _) rfl (hb.cells (t) oO))<|As f<|A0 (.neq rfl rfl)<|A0 (.pkT rfl f rfl)<|A2 rfl<|B1 rfl rfl rfl (λg=>?_) (λg=>?_)
 have E:=JY g
 refine A2 rfl<|As g<|A2 rfl<|As g<|A0 (.ixb Bu I7 rfl rfl (hb.isp oD) (t) (rfl) oO)<|As g<|Ag (AO (Ou _) rfl (hb.cells (t) oO))<|As g<|A0 (.neq rfl rfl)<|A0 (.pkT rfl g rfl)<|WL.e<|?_
 exact ⟨G8 (Cy rfl (by (by_cases hq:t<l.length) <;> (unfold Sq;first | (exfalso;omega) | (rw [getElem!_pos l t hq];simp_all;done) | (rw [Al hq];simp_all;done)))),rfl⟩
 have E:=JZ g
 refine Aa g<|Aa g<|Aa g<|Aa g<|A0 (.pkF rfl g rfl)<|WL.e<|?_
 exact ⟨G8 (Cy rfl (by (by_cases hq:t<l.length) <;> (unfold Sq;first | (exfalso;omega) | (rw [getElem!_pos l t hq];simp_all;done) | (rw [Al hq];simp_all;done)))),rfl⟩
 have D:=JZ f
 refine Aa f<|Aa f<|Aa f<|Aa f<|A0 (.pkF rfl f rfl)<|A2 rfl<|Aa rfl<|Aa rfl<|Aa rfl<|Aa rfl<|Aa rfl<|A0 (.pkF rfl rfl rfl)<|WL.e<|?_
 exact ⟨G8 (Cy rfl (by (by_cases hq:t<l.length) <;> (unfold Sq;first | (exfalso;omega) | (rw [getElem!_pos l t hq];simp_all;done) | (rw [Al hq];simp_all;done)))),rfl⟩
 have C:=dF d
 refine Aa d<|Aa d<|Aa d<|Aa d<|A0 (.pkF rfl d rfl)<|A2 rfl<|Aa rfl<|Aa rfl<|Aa rfl<|Aa rfl<|Aa rfl<|A0 (.pkF rfl rfl rfl)<|A2 rfl<|Aa rfl<|Aa rfl<|Aa rfl<|Aa rfl<|Aa rfl<|A0 (.pkF rfl rfl rfl)<|WL.e<|?_
 exact ⟨G8 (Cy rfl (by (by_cases hq:t<l.length) <;> (unfold Sq;first | (exfalso;omega) | (rw [getElem!_pos l t hq];simp_all;done) | (rw [Al hq];simp_all;done)))),rfl⟩
 refine Ac rfl (λG=>?_) (λG=>?_)
 obtain ⟨j,i⟩:=A2Y aS
 rw [LN l t j,i,A1 (by simp)] at A
 refine W.k<|W.b<|Ak<|A2 rfl<|A0 (.add rfl rfl (Bp oO))<|A9 rfl ?_
 exact ⟨t+1,⟨rfl,LA rfl oO,tT⟩,⟨rfl,by omega,by omega,by omega,λh=>by omega⟩,by omega⟩
 obtain ⟨j,i⟩:=A2Z aS
 have K:t≠s:=λe=>by subst e;exact i oO (B rfl)
 refine C0 ?_
 exact ⟨t,⟨rfl,LA rfl oO,tT⟩,⟨rfl,by omega,by omega⟩,by omega⟩
 have y:=dF o
 refine A4<|A2 rfl<|A9 rfl<|Ai (AZ rfl rfl ?_)
 exact ⟨E7 (by rw [<- hw,hs,A1 (Dn aS),A1 (by simp_all)]),rfl⟩
 have v:=dF m
 refine C0<|A4<|A2 rfl<|A9 rfl<|Ai (AZ rfl rfl ?_)
 exact ⟨E7 (by rw [KW false l s oO] at hw;omega),rfl⟩
def E0 (l:l8_) (a:Nat):l8_:=(l.drop a).take (BP l a-a)
theorem UB (l:l8_) (a:Nat):E0 l a=(l.drop a).takeWhile DO:=Sy l a
theorem ZT (p:Option Addr) (l:l8_) (c:Nat) (a:Int) (w:World) (hb:Av w p l) (hc:l.length<=c) (hl:l.length<=100000000) :
  Calls Tryz.prog 64 #[.slice p l.length c,.int .i64 a] w λe w'=>e=.returned (.tuple #[.string (bs (E0 l (KF l a))),.int .i64 (BP l (KF l a):Int)])/\w=w':=by
 obtain ⟨R,hR⟩:∃ R,R=BP l (KF l a):=⟨_,rfl⟩
 have ha:=YH l a
 have g:=EX l (KF l a) ha
 unfold E0
 rw [<- hR] at g ⊢
 refine W.e func64 rfl ntmps64 bL ?_
 refine A4<|Dp rfl<|A9 rfl<|A4<|A2 rfl<|A2 rfl<|WL.c1 AN rfl rfl ((Po p l c a _)) (λo i=>?_)
 obtain rfl:=i
 refine A9 rfl<|A4<|A2 rfl<|A9 rfl<|Ah<|W.b<|Cj (α:=Nat) (λt=>[(0,.slice p l.length c),(1,.int .i64 (KF l a:Int)),(5,.int .i64 (t:Int))]) (λt w'=>w=w'/\t<=l.length/\BP l t=R) (λt=>l.length-t) (KF l a) ⟨rfl,rfl,rfl,tT⟩ (⟨rfl,ha,hR.symm⟩) (λt o hR=>?_)
 obtain ⟨rfl,ht,hw⟩:=hR
 refine Ah<|A4<|A2 rfl<|A2 rfl<|A0 (.lenS Bu rfl)<|A0 (.lss rfl rfl)<|A2 rfl<|B1 rfl rfl rfl (λd=>?_) (λd=>?_)
 have j:=dT d
 have hs:=Gx DO l t oO
 refine A2 rfl<|As d<|A2 rfl<|As d<|A0 (.ixb Bu I7 rfl rfl (hb.isp oD) (t) (rfl) oO)<|As d<|Ag (AO (Ou _) rfl (hb.cells (t) oO))<|As d<|WL.c1 AN rfl rfl ((NN _ _)) (λs m=>?_)
 obtain rfl:=m
 refine A0 (.pkT rfl d rfl)<|WL.e<|Ac rfl (λq=>?_) (λq=>?_)
 refine W.k<|W.b<|Ak<|A2 rfl<|A0 (.add rfl rfl (Bp oO))<|A9 rfl ?_
 exact ⟨t+1,⟨rfl,rfl,LA rfl oO,tT⟩,⟨rfl,by omega,by unfold BP at hw ⊢;rw [hs,A6 aS,A8] at hw;omega⟩,by omega⟩
 refine C0<|Ah ?_
 have f:t=R:=by
  by_cases hq:t<l.length;have hs:=Gx DO l t hq;unfold BP at hw;rw [hs,A1 (by simp_all),Ae] at hw;omega;unfold BP at hw;rw [B9 oO] at hw;simp at hw;omega
 refine Ak<|A2 rfl<|A2 rfl<|A2 rfl<|A0 (.slb Bu I7 rfl rfl rfl  (KF l a) (R) (rfl) oO oO oO)<|Ag (Nt Bu Lk Ju rfl rfl hb oO oO oO)<|A2 rfl<|Dp rfl<|A9 rfl<|Ai (Ex rfl rfl rfl ?_)
 exact ⟨Ci (by subst f;rfl),rfl⟩
 have j:=dF d
 refine Aa d<|Aa d<|Aa d<|Aa d<|A0 (.pkF rfl d rfl)<|WL.e<|DS rfl rfl<|C0<|Ah ?_
 have f:t=R:=by
  by_cases hq:t<l.length;have hs:=Gx DO l t hq;unfold BP at hw;rw [hs,A1 (by simp_all),Ae] at hw;omega;unfold BP at hw;rw [B9 oO] at hw;simp at hw;omega
 refine Ak<|A2 rfl<|A2 rfl<|A2 rfl<|A0 (.slb Bu I7 rfl rfl rfl  (KF l a) (R) (rfl) oO oO oO)<|Ag (Nt Bu Lk Ju rfl rfl hb oO oO oO)<|A2 rfl<|Dp rfl<|A9 rfl<|Ai (Ex rfl rfl rfl ?_)
 exact ⟨Ci (by subst f;rfl),rfl⟩
theorem VF (l cs:l8_) (w:World) (hl:l.length<=100000000) (hc:cs.length<=1000) (ha:∀ b∈cs,b.toNat<128) :
  Calls Tryz.prog 96 #[.string (bs l),.string (bs cs)] w λe w'=>e=.returned (.string (bs (Lib.trimS l cs)))/\Below w.heap.size w w':=by
 refine (Any.strings_Trim_laid Tryz.lays160 kR (bs l) (bs cs) w (by rw [BE];omega) (by rw [BE];omega) ?_).mono λe w' h=>⟨?_,h.2⟩
 ·
  intro j b hb
  have:(bs cs).data.toList=cs:=by simp [bs]
  rw [this] at hb
  exact ha b (List.mem_of_getElem? hb)
 ·
  rw [h.1]
  have a:(bs l).data.toList=l:=by simp [bs]
  have c:(bs cs).data.toList=cs:=by simp [bs]
  rw [a,c];rfl
theorem A11 (l:l8_):(decide (Lib.trimS l [48,49,50,51,52,53,54,55,56,57]=[]))=l.all BS:=by
 have:(λx=>([48,49,50,51,52,53,54,55,56,57]:l8_).contains x)=BS:=funext MX
 rw [AU,Ab,Ke,this]
def JO (s:l8_):Bool:=!decide (s=[]) && decide (s.length<=10) && s.all BS
def HI (s:l8_) (most:Int):Int × Bool:=if JO s then ((D2 s:Int),decide ((D2 s:Int)<=most)) else (0,false)
theorem Xo (s:l8_) (most:Int) (w:World) (hl:s.length<=100000000) :
  Calls Tryz.prog 93 #[.string (bs s),.int .i64 most] w λe w'=>e=.returned (.tuple #[.int .i64 (HI s most).1,.bool (HI s most).2])/\Below w.heap.size w w':=by
 refine W.e func93 rfl ntmps93 bL ?_
 have g:=EM (w.heap.size) w
 refine A4<|Dp rfl<|A9 rfl<|Ah<|D4 (α:=Unit) (λt=>[(0,.string (bs s)),(1,.int .i64 most),(4,.int .i64 0),(5,.bool false),(20,.bool (!JO s))]) (λt w'=>Below w.heap.size w w') ?_ (λt H hR=>?_)
 refine Ak<|A2 rfl<|A0 (.eqs rfl rfl)<|A2 rfl<|B1 rfl rfl rfl (λa=>?_) (λa=>?_)
 have x:=dF a
 refine A2 rfl<|As a<|A0 (.len Ju rfl)<|As a<|A0 (.gtr rfl rfl)<|A0 (.pkF rfl a rfl)<|A2 rfl<|B1 rfl rfl rfl (λd=>?_) (λd=>?_)
 have y:=dF d
 refine A2 rfl<|As d<|WL.c1 AN rfl rfl ((VF s [48,49,50,51,52,53,54,55,56,57] _ hl dD dD)) (λX B=>?_)
 have C:=DJ g B
 refine As d<|A0 (.bis (!s.all BS) (.nes rfl rfl) (by rw [A11]))<|A0 (.pkF rfl d rfl)<|WL.e<|?_
 exact ⟨(),⟨rfl,rfl,rfl,rfl,Cy rfl (by unfold JO;first | (simp_all;done) | (simp_all;omega)),tT⟩,C⟩
 have y:=dT d
 refine Aa d<|Aa d<|A0 (.pkT rfl d rfl)<|WL.e<|?_
 exact ⟨(),⟨rfl,rfl,rfl,rfl,Cy rfl (by unfold JO;first | (simp_all;done) | (simp_all;omega)),tT⟩,g⟩
 have x:=dT a
 refine Aa a<|Aa a<|A0 (.pkT rfl a rfl)<|A2 rfl<|Aa rfl<|Aa rfl<|Aa rfl<|A0 (.pkT rfl rfl rfl)<|WL.e<|?_
 exact ⟨(),⟨rfl,rfl,rfl,rfl,Cy rfl (by unfold JO;first | (simp_all;done) | (simp_all;omega)),tT⟩,g⟩
 have j:=hR
 refine Ac rfl (λJ=>?_) (λJ=>?_)
 have o:JO s=false:=by simp_all
 refine A4<|Dp rfl<|A9 rfl<|Ai (Ex rfl rfl rfl ?_)
 exact ⟨A1A (by unfold HI;rw [o];rfl) (by unfold HI;rw [o];rfl),j⟩
 have l:JO s=true:=by simp_all
 have f:=l
 unfold JO at f
 simp only [A3,Ab,AH,Aq] at f
 have m:=Au.1 f.2
 refine W.k<|A4<|A9 rfl<|Ah<|A4<|A2 rfl<|A3h Ju Bu Lk rfl rfl (λK D cz q hz P u L=>?_)
 have E:=uB j q u
 have G:=Cq q j.size
 refine A0 (.lenS Bu rfl)<|A2 rfl<|WL.e<|W.b<|Cj (α:=Nat) (λt=>[(0,.string (bs s)),(1,.int .i64 most),(6,.int .i64 (D2 (s.take t):Int)),(22,.slice (some ⟨K,0,none⟩) s.length cz),(23,.int .i64 (s.length:Int)),(24,.int .i64 (t:Int))]) (λt w'=>D=w'/\t<=s.length) (λt=>s.length-t) (0) ⟨rfl,rfl,rfl,rfl,rfl,rfl,tT⟩ (⟨rfl,Gg _⟩) (λt H hR=>?_)
 obtain ⟨i,rfl⟩:∃ i,i=t:=⟨t,rfl⟩
 obtain ⟨rfl,hi⟩:=hR
 refine A4<|A0 (.lss rfl rfl)<|WL.e<|Ah<|Ac rfl (λv=>?_) (λv=>?_)
 have F:=dT v
 refine W.k<|Ah<|W.b<|A4<|A0 (.ixb Bu I7 rfl rfl (hz.isp oD) (i) (rfl) oO)<|Ag (AO (Ou _) rfl (hz.cells (i) oO))<|A9 rfl ?_
 have Q:=L2 s i oO
 have T:=FW (m _ (AJ (show i<s.length by omega)))
 have U:=KB (s.take i) (λc hc=>m c (Dv hc))
 have V:10 ^ (s.take i).length<=10 ^ 9:=Nat.pow_le_pow_right oO (by rw [AT];omega)
 refine Ak<|A2 rfl<|A0 (.mul rfl rfl (Bp oO))<|A2 rfl<|A0 (.sub rfl rfl (TJ oO))<|A0 (.cvt Lk JQ rfl (Bp oO))<|A0 (.iis ((D2 (s.take (i+1)):Int)) (.add rfl rfl (Bp oO)) oO)<|A9 rfl<|Ak<|A0 (.iis (((i+1:Nat):Int)) (.add rfl rfl (Bp oO)) oO)<|A2 rfl<|WL.e<|?_
 exact ⟨i+1,⟨rfl,rfl,rfl,rfl,rfl,rfl,tT⟩,⟨rfl,by ((try simp only) <;> omega)⟩,by ((try simp only) <;> omega)⟩
 have F:=dF v
 refine C0<|Ah ?_
 obtain rfl:i=s.length:=by omega
 rw [Cs]
 refine Ak<|A2 rfl<|A2 rfl<|A2 rfl<|A0 (.leq rfl rfl)<|Dp rfl<|A9 rfl<|Ai (Ex rfl rfl rfl ?_)
 exact ⟨A1A (by unfold HI;rw [l];rfl) (by unfold HI;rw [l];rfl),E⟩
end
section
def KZ (l:l8_):Int × Bool:=if 64<l.length then (0,false) else LT l
theorem A0z (l:l8_) (w:World) :
  Calls Tryz.prog 94 #[.string (bs l)] w λe w'=>e=.returned (.tuple #[.int .i64 (KZ l).1,.bool (KZ l).2])/\Below w.heap.size w w':=by
 unfold KZ
 split
 · exact (RB l w aS).mono λe w' h=>⟨h.1,h.2▸EM _ _⟩
 · exact PS l w oO
end
section
def U3 (k n:Int) (s:l8_):List Value:=[.int .i64 k,.int .i64 n,.string (bs s),.slice none 0 0,.slice none 0 0,.slice none 0 0]
def Pm (c:UInt8):Bool:=BS c || c == 43 || c == 45
theorem A3M (l:l8_):(decide (Lib.trimS l [43,45,48,49,50,51,52,53,54,55,56,57]=[]))=l.all Pm:=by
 have:(λx=>([43,45,48,49,50,51,52,53,54,55,56,57]:l8_).contains x)=Pm:=by
  funext x
  have key:∀ n:Fin 256,([43,45,48,49,50,51,52,53,54,55,56,57]:l8_).contains (UInt8.ofNat n.1)=Pm (UInt8.ofNat n.1):=by decide +kernel
  have:=key ⟨x.toNat,Ce x⟩
  simpa using this
 rw [AU,Ab,Ke,this]
theorem A4B (l:l8_):decide (0<=Lib.indexByte l 46)=l.contains 46:=by
 exact (Lib.contains_iff_indexByte l 46).symm
def Lz (s:l8_):Int × Int × Bool :=
 if s.contains 46 then (3,(KZ s).1,(KZ s).2)
 else if (Gv s).ok && decide ((Gv s).e=0) && decide ((Gv s).kind=1) && s.all Pm then (2,(Gv s).n,true) else (0,0,false)
theorem Vn (s:l8_) (w:World) (hl:s.length<=100000000) :
  Calls Tryz.prog 66 #[.string (bs s)] w λe w'=>e=.returned (.tuple #[.agg (U3 (Lz s).1 (Lz s).2.1 []).toArray,.bool (Lz s).2.2])/\Below w.heap.size w w':=by
 obtain ⟨T,hT⟩:∃ T,T=Gv s:=⟨_,rfl⟩
 have d:∀ w,Calls Tryz.prog 95 #[.string (bs s)] w λe w'=>e=.returned T.val/\Below w.heap.size w w':=λw=>by rw [hT];exact Ts _ w
 obtain ⟨D,hD⟩:∃ D,D=s.contains 46:=⟨_,rfl⟩
 have hN:Lz s=if D then (3,(KZ s).1,(KZ s).2) else if T.ok && decide (T.e=0) && decide (T.kind=1) && s.all Pm then (2,T.n,true) else (0,0,false):=by rw [hT,hD];rfl
 refine W.e func66 rfl ntmps66 bL ?_
 have a1:=EM (w.heap.size) w
 refine A4<|BV Jg rfl (λb1 aE a2 q a5 aB=>?_)
 have a3:=uB a1 a2 a5
 have ar:=Cq a2 a1.size
 refine A9 rfl<|Ah<|A4<|A2 rfl<|WL.c1 AN rfl rfl ((Nj s 46 _)) (λw3 ak=>?_)
 obtain rfl:=ak
 refine A0 (.bis (D) (.geq rfl rfl) (by rw [hD];exact A4B s))<|WL.e<|Ac rfl (λh4=>?_) (λh4=>?_)
 refine A4<|A2 rfl<|WL.c1 AN rfl rfl ((A0z s _)) (λw5 a4=>?_)
 have am:=q.bl a4
 have an:=DJ a3 a4
 refine A2 rfl<|A0 (.ext rfl rfl)<|A0 (.ext rfl rfl)<|Dp rfl<|A9 rfl<|A4<|A2 rfl<|?_
 refine A0 (.buildL (ps:=_) GQ rfl rfl rfl pS) ?_
 refine A2 rfl<|Az rfl rfl am B2 rfl rfl (λw8 a6 a7 aC=>?_)
 have ao:=CN an oO a7
 refine A9 rfl<|Ai (EE rfl rfl (Bq a6 CB rfl B2) rfl ?_)
 exact ⟨Ci (by rw [hN,A6 aS];rfl),ao⟩
 refine W.k<|A4<|A2 rfl<|WL.c1 AN rfl rfl ((d _)) (λaF t=>?_)
 have u:=q.bl t
 have v:=DJ a3 t
 refine A2 rfl<|A0 (.ext rfl rfl)<|A0 (.ext rfl rfl)<|A0 (.ext rfl rfl)<|BV IF rfl (λaG aD i G l au=>?_)
 have a8:=Bg i u.lt
 have a9:=u.un l a8
 have aa:=uB v i l
 have ap:=Cq i v.size
 refine Az rfl rfl G Br rfl rfl (λaH m o av=>?_)
 have f:=a9.up o
 have g:=CN aa oO o
 refine Dp rfl<|A9 rfl<|Ah<|A4<|A2 rfl<|A0 (.not rfl)<|A2 rfl<|B1 rfl rfl rfl (λc=>?_) (λc=>?_)
 have ab:=(nF c)
 refine A2 rfl<|Ew rfl rfl rfl (by rw [(nF c)] <;> rfl)<|A0 (.neq rfl rfl)<|A0 (.pkF rfl (by rw [(nF c)] <;> rfl) rfl)<|A2 rfl<|B1 rfl rfl rfl (λa=>?_) (λa=>?_)
 have ac:=JZ a
 refine A0 (.fa Ec rfl B5 dD rfl)<|As a<|Ag (Ad (Bw _) rfl m rfl)<|As a<|A0 (.neq rfl rfl)<|A0 (.pkF rfl a rfl)<|A2 rfl<|B1 rfl rfl rfl (λb=>?_) (λb=>?_)
 have ad:=JZ b
 refine A2 rfl<|As b<|WL.c1 AN rfl rfl ((VF s [43,45,48,49,50,51,52,53,54,55,56,57] _ hl dD dD)) (λaI j=>?_)
 have x:=f.bl j
 have ae:=m.bl j
 have y:=DJ g j
 refine As b<|A0 (.bis (!s.all Pm) (.nes rfl rfl) (by rw [A3M]))<|A0 (.pkF rfl b rfl)<|WL.e<|Ac rfl (λaq=>?_) (λaq=>?_)
 refine A4<|A0 (.buildL (ps:=_) GQ rfl rfl rfl pZ) ?_
 refine Az rfl rfl x B2 rfl rfl (λaJ H J aw=>?_)
 have af:=CN y oO J
 refine A9 rfl<|Ai (EE rfl rfl (Bq H CB rfl B2) rfl ?_)
 exact ⟨Ci (by rw [hN,A1 (bF aS),A1 (by intro hx;simp only [A3,Ab] at hx;obtain ⟨⟨⟨B,C⟩,E⟩,F⟩:=hx;clear hN hT d;simp_all)];rfl),af⟩
 refine W.k<|A4<|A0 (.fa Ec rfl B5 dD rfl)<|Ag (Ad (Bw _) rfl ae rfl)<|?_
 refine A0 (.buildL (ps:=_) GQ rfl rfl rfl pS) ?_
 refine Az rfl rfl x B2 rfl rfl (λaK K L ax=>?_)
 have ag:=CN y oO L
 refine A9 rfl<|Ai (EE rfl rfl (Bq K CB rfl B2) rfl ?_)
 exact ⟨Ci (by rw [hN,A1 (bF aS),A6 (by simp only [A3,Ab];clear hN hT d;simp_all)];rfl),ag⟩
 have ad:=JY b
 refine Aa b<|Aa b<|A0 (.pkT rfl b rfl)<|WL.e<|DR rfl rfl ?_
 refine A4<|A0 (.buildL (ps:=_) GQ rfl rfl rfl pZ) ?_
 refine Az rfl rfl f B2 rfl rfl (λaL P Q ay=>?_)
 have ah:=CN g oO Q
 refine A9 rfl<|Ai (EE rfl rfl (Bq P CB rfl B2) rfl ?_)
 exact ⟨Ci (by rw [hN,A1 (bF aS),A1 (by intro hx;simp only [A3,Ab] at hx;obtain ⟨⟨⟨B,C⟩,E⟩,F⟩:=hx;clear hN hT d;simp_all)];rfl),ah⟩
 have ac:=JY a
 refine Aa a<|Aa a<|A0 (.pkT rfl a rfl)<|A2 rfl<|Aa rfl<|Aa rfl<|Aa rfl<|A0 (.pkT rfl rfl rfl)<|WL.e<|DR rfl rfl ?_
 refine A4<|A0 (.buildL (ps:=_) GQ rfl rfl rfl pZ) ?_
 refine Az rfl rfl f B2 rfl rfl (λaM U V az=>?_)
 have ai:=CN g oO V
 refine A9 rfl<|Ai (EE rfl rfl (Bq U CB rfl B2) rfl ?_)
 exact ⟨Ci (by rw [hN,A1 (bF aS),A1 (by intro hx;simp only [A3,Ab] at hx;obtain ⟨⟨⟨B,C⟩,E⟩,F⟩:=hx;clear hN hT d;simp_all)];rfl),ai⟩
 have ab:=(nT c)
 refine EL rfl rfl rfl (by rw [(nT c)] <;> rfl)<|A0 (.pkT rfl (by rw [(nT c)] <;> rfl) rfl)<|A2 rfl<|Aa rfl<|Aa rfl<|Aa rfl<|A0 (.pkT rfl rfl rfl)<|A2 rfl<|Aa rfl<|Aa rfl<|Aa rfl<|A0 (.pkT rfl rfl rfl)<|WL.e<|DR rfl rfl ?_
 refine A4<|A0 (.buildL (ps:=_) GQ rfl rfl rfl pZ) ?_
 refine Az rfl rfl f B2 rfl rfl (λaN X a0 aA=>?_)
 have aj:=CN g oO a0
 refine A9 rfl<|Ai (EE rfl rfl (Bq X CB rfl B2) rfl ?_)
 exact ⟨Ci (by rw [hN,A1 (bF aS),A1 (by intro hx;simp only [A3,Ab] at hx;obtain ⟨⟨⟨B,C⟩,E⟩,F⟩:=hx;clear hN hT d;simp_all)];rfl),aj⟩
def PX (w:World) (r:Nat) (p:Option Addr) (l:l8_) (c t:Nat) (refs:Bool):Prop:=AF w r #[.slice p l.length c,.int .i64 (t:Int),.bool refs] 112/\Av w p l
theorem A1q (p:Option Addr) (l:l8_) (c a:Nat) (w:World) (hb:Av w p l) (ha:a<=l.length) (hl:l.length<=100000000) (d:Nat) (hd:d=AP false l a) (m:Nat) :
  Calls Tryz.prog 42 #[.slice p l.length c,.int .i64 (a:Int)] (w.drewN m) λe w'=>e=.returned (.int .i64 (d:Int))/\∃ k,w'=w.drewN k :=
 (OO p l c a (w.drewN m) (hb.drewN m) hl).mono λe w' h=>⟨by rw [h.1,Rl l a ha,hd],m,h.2.symm⟩
theorem TF (p:Option Addr) (l:l8_) (c a:Nat) (w:World) (hb:Av w p l) (hc:l.length<=c) (ha:a<=l.length) (hl:l.length<=100000000) (m:Nat) :
  Calls Tryz.prog 64 #[.slice p l.length c,.int .i64 (a:Int)] (w.drewN m) λe w'=>e=.returned (.tuple #[.string (bs (E0 l a)),.int .i64 (BP l a:Int)])/\∃ k,w'=w.drewN k :=
 (ZT p l c a (w.drewN m) (hb.drewN m) hc hl).mono λe w' h=>⟨by rw [h.1,Rl l a ha],m,h.2.symm⟩
def LR (refs:Bool) (l:l8_) (s:l8_) (t:Nat):Option (Int × Nat) :=
 if refs && (HI s 4096).2 && decide (1<=(HI s 4096).1) then
  (if E0 l (AP false l t) = [48] then
   (if E0 l (AP false l (BP l (AP false l t)))=[82] then some ((HI s 4096).1,BP l (AP false l (BP l (AP false l t)))) else none)
  else none)
 else none
def A43 (o:Option (Int × Nat)):Int × Int:=match o with | some (n,_)=>(8,n) | none=>(0,0)
def A8l (o:Option (Int × Nat)):Value:=.tuple #[.agg (U3 (A43 o).1 (A43 o).2 []).toArray,.bool o.isSome]
def Xf (o:Option (Int × Nat)) (t:Nat):Nat:=match o with | some (_,b)=>b | none=>t
theorem A1K (r:Nat) (p:Option Addr) (l:l8_) (c t:Nat) (refs:Bool) (s:l8_) (w:World) (h:PX w r p l c t refs) (hne:0<l.length->(pA p).block≠r) (hc:l.length<=c) (hl:l.length<=100000000) (ht:t<=l.length) (hs:s.length<=100000000) :
  Calls Tryz.prog 65 #[.pointer (some ⟨r,0,none⟩),.string (bs s)] w λe w'=>e=.returned (A8l (LR refs l s t))/\PX w' r p l c (Xf (LR refs l s t) t) refs/\Bf w.heap.size r w w':=by
 have hr:=h.1
 have hb:=h.2
 obtain ⟨a,ha⟩:∃ a,a=AP false l t:=⟨_,rfl⟩
 obtain ⟨b,H⟩:∃ b,b=AP false l (BP l a):=⟨_,rfl⟩
 have a5:a<=l.length:=by rw [ha];exact Ff _ _ _
 have a6:b<=l.length:=by rw [H];exact Ff _ _ _
 have ay:=EX l a a5
 have aJ:=EX l b a6
 have hR:LR refs l s t=if refs && (HI s 4096).2 && decide (1<=(HI s 4096).1) then (if E0 l a=[48] then (if E0 l b=[82] then some ((HI s 4096).1,BP l b) else none) else none) else none:=by rw [H,ha];rfl
 obtain ⟨N,hN⟩:∃ N,N=HI s 4096:=⟨_,rfl⟩
 have hW:∀ w,Calls Tryz.prog 93 #[.string (bs s),.int .i64 4096] w λe w'=>e=.returned (.tuple #[.int .i64 N.1,.bool N.2])/\Below w.heap.size w w':=λw=>by rw [hN];exact Xo s 4096 w hs
 rw [<- hN] at hR
 generalize LR refs l s t=R at hR ⊢
 refine W.e func65 rfl ntmps65 bL ?_
 have a7:=Bf.refl (w.heap.size) r w
 refine A4<|BV Jg rfl (λb1 aK J ab F aI=>?_)
 have az:=Bg J hr.lt
 have aA:=hr.un F az
 have f:=λh0=>J▸hb.lt h0
 have a8:=DB hb F f
 have a0:=Cq J a7.size
 have a9:=BN a7 (Es F a0)
 refine A9 rfl<|Ah ?_
 have aL:r<b1:=by have:=hr.lt;omega
 refine Ak<|A2 rfl<|WL.c1 AN rfl rfl ((hW _)) (λw7 G=>?_)
 have j:=aA.bl G
 have aa:=ab.bl G
 have o:=GY a8 G (λh0=>a8.lt h0)
 have K:=BN a9 (G2 (Jo G) a9.size)
 refine A2 rfl<|A0 (.ext rfl rfl)<|A0 (.ext rfl rfl)<|Dp rfl<|A9 rfl<|Ah<|Fd 28 (!(refs && N.2 && decide (1<=N.1))) ?_ ?_
 refine Ak<|A2 rfl<|A0 (.nck rfl)<|A0 (.fa CL rfl Ot dD rfl)<|Ag (Ad (g4_ _) rfl j rfl)<|A0 (.not rfl)<|A2 rfl<|B1 rfl rfl rfl (λg=>?_) (λg=>?_)
 have ac:=(nF g)
 refine A2 rfl<|Ew rfl rfl rfl (by rw [(nF g)] <;> rfl)<|A0 (.not rfl)<|A0 (.pkF rfl (by rw [(nF g)] <;> rfl) rfl)<|A2 rfl<|B1 rfl rfl rfl (λi=>?_) (λi=>?_)
 have ad:=(nF i)
 refine A2 rfl<|Ew rfl rfl rfl (by rw [(nF i)] <;> rfl)<|A0 (.lss rfl rfl)<|A0 (.pkF rfl (by rw [(nF i)] <;> rfl) rfl)<|WL.e<|?_
 exact ⟨G8 (Cy rfl (by cases refs <;> cases h2:N.2 <;> by_cases h3:1<=N.1 <;> simp_all <;> omega)),rfl⟩
 have ad:=(nT i)
 refine EL rfl rfl rfl (by rw [(nT i)] <;> rfl)<|A0 (.pkT rfl (by rw [(nT i)] <;> rfl) rfl)<|WL.e<|?_
 exact ⟨G8 (Cy rfl (by cases refs <;> cases h2:N.2 <;> by_cases h3:1<=N.1 <;> simp_all <;> omega)),rfl⟩
 have ac:=(nT g)
 refine EL rfl rfl rfl (by rw [(nT g)] <;> rfl)<|A0 (.pkT rfl (by rw [(nT g)] <;> rfl) rfl)<|A2 rfl<|Aa rfl<|Aa rfl<|A0 (.pkT rfl rfl rfl)<|WL.e<|?_
 exact ⟨G8 (Cy rfl (by cases refs <;> cases h2:N.2 <;> by_cases h3:1<=N.1 <;> simp_all <;> omega)),rfl⟩
 refine Ac rfl (λaB=>?_) (λaB=>?_)
 refine A4<|A0 (.buildL (ps:=_) GQ rfl rfl rfl pZ) ?_
 refine Az rfl rfl aa B2 rfl rfl (λaM a1 q aD=>?_)
 have ae:=j.up q
 have af:=DB o q f
 have ag:=BN K (Es q oO)
 refine A9 rfl<|Ai (EE rfl rfl (Bq a1 CB rfl B2) rfl ?_)
 exact ⟨Ci (by rw [hR,A1 (bF (nT aS))];rfl),by rw [hR,A1 (bF (nT aS))];exact ⟨ae,af⟩,ag⟩
 refine W.k<|Ah<|E2 C7 kR<|At (.mv rfl) rfl<|At (.nck rfl) rfl<|At (.fa CL rfl G3 dD rfl) rfl<|Di (λm=>Ad (g22_ _) rfl j rfl) rfl<|At (.mv rfl) rfl<|At (.nck rfl) rfl<|At (.fa CL rfl G3 dD rfl) rfl<|Di (λm=>Ad (g22_ _) rfl j rfl) rfl<|At (.mv rfl) rfl<|At (.nck rfl) rfl<|At (.fa CL rfl B5 dD rfl) rfl<|Di (λm=>Ad (Bw _) rfl j rfl) rfl<|WQ.c1 AN rfl rfl (λm=>(A1q p l c t _ o ht hl a ha m))<|WQ.c1 AN rfl rfl (λm=>(TF p l c a _ o hc a5 hl m))<|At (.mv rfl) rfl<|At (.ext rfl rfl) rfl<|At (.ext rfl rfl) rfl<|At (.as rfl) rfl<|At (.as rfl) rfl<|Da (λaN u=>?_)
 have v:=j.drew u
 have L:=aa.drew u
 have x:=o.drew u
 have P:=BN K (NE u)
 refine Ah<|A4<|A2 rfl<|A0 (.nes rfl rfl)<|WL.e<|Ac rfl (λQ=>?_) (λQ=>?_)
 have ah:=JY Q
 refine A4<|A0 (.buildL (ps:=_) GQ rfl rfl rfl pZ) ?_
 refine Az rfl rfl L B2 rfl rfl (λaO a2 y aE=>?_)
 have ai:=v.up y
 have aj:=DB x y f
 have ak:=BN P (Es y oO)
 refine A9 rfl<|Ai (EE rfl rfl (Bq a2 CB rfl B2) rfl ?_)
 exact ⟨Ci (by rw [hR,A6 (nF aS),A1 aS];rfl),by rw [hR,A6 (nF aS),A1 aS];exact ⟨ai,aj⟩,ak⟩
 have ah:=JZ Q
 refine W.k<|Ah<|E2 C7 kR<|At (.mv rfl) rfl<|At (.nck rfl) rfl<|At (.fa CL rfl G3 dD rfl) rfl<|Di (λm=>Ad (g22_ _) rfl v rfl) rfl<|At (.mv rfl) rfl<|At (.nck rfl) rfl<|At (.fa CL rfl G3 dD rfl) rfl<|Di (λm=>Ad (g22_ _) rfl v rfl) rfl<|At (.mv rfl) rfl<|WQ.c1 AN rfl rfl (λm=>(A1q p l c (BP l a) _ x ay.2 hl b H m))<|WQ.c1 AN rfl rfl (λm=>(TF p l c b _ x hc a6 hl m))<|At (.mv rfl) rfl<|At (.ext rfl rfl) rfl<|At (.ext rfl rfl) rfl<|At (.as rfl) rfl<|At (.as rfl) rfl<|Da (λaP B=>?_)
 have T:=v.drew B
 have U:=L.drew B
 have V:=x.drew B
 have X:=BN P (NE B)
 refine Ah<|A4<|A2 rfl<|A0 (.nes rfl rfl)<|WL.e<|Ac rfl (λY=>?_) (λY=>?_)
 have am:=JY Y
 refine A4<|A0 (.buildL (ps:=_) GQ rfl rfl rfl pZ) ?_
 refine Az rfl rfl U B2 rfl rfl (λaQ a3 C aF=>?_)
 have an:=T.up C
 have ao:=DB V C f
 have ap:=BN X (Es C oO)
 refine A9 rfl<|Ai (EE rfl rfl (Bq a3 CB rfl B2) rfl ?_)
 exact ⟨Ci (by rw [hR,A6 (nF aS),A6 aS,A1 aS];rfl),by rw [hR,A6 (nF aS),A6 aS,A1 aS];exact ⟨an,ao⟩,ap⟩
 have am:=JZ Y
 refine W.k<|A4<|A2 rfl<|A0 (.iis ((BP l b:Int)) (.mv rfl) (by rfl))<|A0 (.nck rfl)<|A0 (.fa CL rfl B5 dD rfl)<|WL.st B5 rfl rfl rfl T oQ (λaC D d aG=>?_)
 have D:AF aC r _ _:=D
 have d:BF r _ _:=d
 have aq:=U.up d
 have ar:=Av.upd V d hne
 have au:=BN X (BM d)
 refine WL.e<|A4<|A2 rfl<|?_
 refine A0 (.buildL (ps:=_) GQ rfl rfl rfl pS) ?_
 refine Az rfl rfl aq B2 rfl rfl (λaR a4 E aH=>?_)
 have av:=D.up E
 have aw:=DB ar E f
 have ax:=BN au (Es E oO)
 refine A9 rfl<|Ai (EE rfl rfl (Bq a4 CB rfl B2) rfl ?_)
 exact ⟨Ci (by rw [hR,A6 (nF aS),A6 aS,A6 aS];rfl),by rw [hR,A6 (nF aS),A6 aS,A6 aS];exact ⟨av,aw⟩,ax⟩
structure WR where
 kind:Int
 n:Int
 word:l8_
 ok:Bool
 np:Nat
def F4 (refs:Bool) (l:l8_) (t:Nat):WR :=
 if E0 l t=[110,117,108,108] then ⟨0,0,E0 l t,true,BP l t⟩
 else if E0 l t=[116,114,117,101] then ⟨1,1,E0 l t,true,BP l t⟩
 else if E0 l t=[102,97,108,115,101] then ⟨1,0,E0 l t,true,BP l t⟩
 else if (LR refs l (E0 l t) (BP l t)).isSome then ⟨(A43 (LR refs l (E0 l t) (BP l t))).1,(A43 (LR refs l (E0 l t) (BP l t))).2,E0 l t,true,Xf (LR refs l (E0 l t) (BP l t)) (BP l t)⟩
 else if (Lz (E0 l t)).2.2 then ⟨(Lz (E0 l t)).1,(Lz (E0 l t)).2.1,E0 l t,true,BP l t⟩
 else ⟨0,0,E0 l t,false,BP l t⟩
def WR.val (x:WR):Value:=.tuple #[.agg (U3 x.kind x.n []).toArray,.string (bs x.word),.bool x.ok]
theorem SA (l:l8_) (t:Nat):(E0 l t).length<=l.length:=by unfold E0;rw [AT,B4];omega
theorem SR {o:Option (Int × Nat)} (h:o.isSome=false):Xf o t=t:=by cases o with | none=>rfl | some x=>cases h
theorem SX (r:Nat) (p:Option Addr) (l:l8_) (c t:Nat) (refs:Bool) (w:World) (h:PX w r p l c t refs) (hne:0<l.length->(pA p).block≠r) (hc:l.length<=c) (hl:l.length<=100000000) (ht:t<=l.length) :
  Calls Tryz.prog 47 #[.pointer (some ⟨r,0,none⟩)] w λe w'=>e=.returned (F4 refs l t).val/\PX w' r p l c (F4 refs l t).np refs/\Bf w.heap.size r w w':=by
 have hr:=h.1
 have hb:=h.2
 have hX:∃ X,X=F4 refs l t:=⟨_,rfl⟩
 obtain ⟨X,hX⟩:=hX
 rw [<- hX]
 unfold F4 at hX
 have bk:=EX l t ht
 have bm:=SA l t
 have a1:∀ w1,Av w1 p l->∀ m,Calls Tryz.prog 64 #[.slice p l.length c,.int .i64 (t:Int)] (w1.drewN m) λe w'=>e=.returned (.tuple #[.string (bs (E0 l t)),.int .i64 (BP l t:Int)])/\∃ k,w'=w1.drewN k:=λw1 h1 m=>TF p l c t w1 h1 hc ht hl m
 generalize E0 l t=s at hX bm a1
 generalize BP l t=t1 at hX bk a1
 refine W.e func47 rfl ntmps47 bL ?_
 have aB:=Bf.refl (w.heap.size) r w
 refine A4<|BV Jg rfl (λb1 bO a2 aD N bJ=>?_)
 have bn:=Bg a2 hr.lt
 have a3:=hr.un N bn
 have d:=λP=>a2▸hb.lt P
 have aC:=DB hb N d
 have ap:=Cq a2 aB.size
 have bo:=BN aB (Es N ap)
 refine Dp rfl<|A9 rfl<|Ah ?_
 have bP:r<b1:=by have:=hr.lt;omega
 refine E2 C7 kR<|At (.mv rfl) rfl<|At (.nck rfl) rfl<|At (.fa CL rfl G3 dD rfl) rfl<|Di (λm=>Ad (g22_ _) rfl a3 rfl) rfl<|At (.mv rfl) rfl<|At (.nck rfl) rfl<|At (.fa CL rfl B5 dD rfl) rfl<|Di (λm=>Ad (Bw _) rfl a3 rfl) rfl<|WQ.c1 AN rfl rfl (λm=>(a1 _ aC m))<|At (.mv rfl) rfl<|At (.ext rfl rfl) rfl<|At (.ext rfl rfl) rfl<|At (.as rfl) rfl<|At (.as rfl) rfl<|Da (λw7 U=>?_)
 have bp:=a3.drew U
 have bq:=aD.drew U
 have aE:=aC.drew U
 have aF:=BN bo (NE U)
 refine A4<|A2 rfl<|A2 rfl<|A0 (.nck rfl)<|A0 (.fa CL rfl B5 dD rfl)<|WL.st B5 rfl rfl rfl bp oQ (λbt a f bv=>?_)
 have a:AF bt r _ _:=a
 have f:BF r _ _:=f
 have u:=bq.up f
 have B:=Av.upd aE f hne
 have v:=BN aF (BM f)
 refine WL.e<|Ah<|A4<|A2 rfl<|WL.e<|W.b<|A4<|A0 (.eqs rfl rfl)<|A9 rfl<|Ac rfl (λa4=>?_) (λa4=>?_)
 have aG:=dT a4
 refine A4<|A0 (.buildL (ps:=_) GQ rfl rfl rfl pZ) ?_
 refine A2 rfl<|Az rfl rfl u B2 rfl rfl (λbQ aq C bw=>?_)
 have aH:=a.up C
 have aI:=DB B C d
 have aJ:=BN v (Es C oO)
 refine Dp rfl<|A9 rfl<|Ai (MD rfl rfl (Bq aq CB rfl B2) rfl rfl ?_)
 (rw [A6 aS] at hX;subst hX;exact ⟨rfl,⟨aH,aI⟩,aJ⟩)
 have aG:=dF a4
 refine A4<|A0 (.eqs rfl rfl)<|A9 rfl<|Ac rfl (λa5=>?_) (λa5=>?_)
 have aK:=dT a5
 refine A4<|A0 (.buildL (ps:=_) GQ rfl rfl rfl pS) ?_
 refine A2 rfl<|Az rfl rfl u B2 rfl rfl (λbR ar D bx=>?_)
 have aL:=a.up D
 have aM:=DB B D d
 have aN:=BN v (Es D oO)
 refine Dp rfl<|A9 rfl<|Ai (MD rfl rfl (Bq ar CB rfl B2) rfl rfl ?_)
 (rw [A1 aS,A6 aS] at hX;subst hX;exact ⟨rfl,⟨aL,aM⟩,aN⟩)
 have aK:=dF a5
 refine A4<|A0 (.eqs rfl rfl)<|A9 rfl<|Ac rfl (λa6=>?_) (λa6=>?_)
 have aO:=dT a6
 refine A4<|A0 (.buildL (ps:=_) GQ rfl rfl rfl pS) ?_
 refine A2 rfl<|Az rfl rfl u B2 rfl rfl (λbS au E bz=>?_)
 have aP:=a.up E
 have aQ:=DB B E d
 have aR:=BN v (Es E oO)
 refine Dp rfl<|A9 rfl<|Ai (MD rfl rfl (Bq au CB rfl B2) rfl rfl ?_)
 (rw [A1 aS,A1 aS,A6 aS] at hX;subst hX;exact ⟨rfl,⟨aP,aQ⟩,aR⟩)
 have aO:=dF a6
 refine W.k<|Ah<|A4<|A2 rfl<|A2 rfl<|WL.c1 AN rfl rfl ((A1K r p l c t1 refs s _ ⟨a,B⟩ hne hc hl oO oO)) (λbT F=>?_)
 have a7:=F.1.1
 have a8:=I4 u F.2 u.lt oO
 have a9:=F.1.2
 have aa:=BN v (G2 F.2 v.size)
 refine A2 rfl<|A0 (.ext rfl rfl)<|A0 (.ext rfl rfl)<|BV Jg rfl (λbU bK G av g bA=>?_)
 have aT:=Bg G a7.lt
 have aU:=a7.un g aT
 have aV:=Bg G a8.lt
 have aW:=a8.un g aV
 have V:=λP=>G▸a9.lt P
 have aX:=DB a9 g V
 have ab:=Cq G aa.size
 have aY:=BN aa (Es g ab)
 refine Az rfl rfl av B2 rfl rfl (λbV Y i bB=>?_)
 have ac:=aU.up i
 have ad:=aW.up i
 have Q:=DB aX i V
 have T:=BN aY (Es i oO)
 refine A9 rfl<|A4<|A2 rfl<|WL.e<|Ac rfl (λbu=>?_) (λbu=>?_)
 refine A4<|Ag (BA rfl Y CB rfl B2)<|A2 rfl<|Az rfl rfl ad B2 rfl rfl (λbW aw H bC=>?_)
 have aZ:=ac.up H
 have a':=DB Q H d
 have b0:=BN T (Es H oO)
 refine Dp rfl<|A9 rfl<|Ai (MD rfl rfl (Bq aw CB rfl B2) rfl rfl ?_)
 (rw [A1 aS,A1 aS,A1 aS,A6 aS] at hX;subst hX;exact ⟨rfl,⟨aZ,a'⟩,b0⟩)
 refine W.k<|A4<|A2 rfl<|WL.c1 AN rfl rfl ((Vn s _ oO)) (λbX x=>?_)
 have ae:=ac.bl x
 have af:=ad.bl x
 have b2:=Y.bl x
 have ag:=GY Q x (λP=>Q.lt P)
 have ah:=BN T (G2 (Jo x) T.size)
 refine A2 rfl<|A0 (.ext rfl rfl)<|A0 (.ext rfl rfl)<|BV Jg rfl (λbY bM y ax j bD=>?_)
 have b3:=Bg y ae.lt
 have b4:=ae.un j b3
 have b5:=Bg y af.lt
 have b6:=af.un j b5
 have bN:=Bg y b2.lt
 have J:=λP=>y▸ag.lt P
 have b7:=DB ag j J
 have ai:=Cq y ah.size
 have b8:=BN ah (Es j ai)
 refine Az rfl rfl ax B2 rfl rfl (λbZ a0 o bE=>?_)
 have aj:=b4.up o
 have ak:=b6.up o
 have am:=DB b7 o J
 have an:=BN b8 (Es o oO)
 refine A9 rfl<|Ah<|A4<|A2 rfl<|A0 (.not rfl)<|WL.e<|Ac rfl (λao=>?_) (λao=>?_)
 have b9:=(nT ao)
 refine Ak<|A0 (.buildL (ps:=_) GQ rfl rfl rfl pZ) ?_
 refine Az rfl rfl a0 B2 rfl rfl (λb' ay q bG=>?_)
 have ba:=aj.up q
 have bb:=ak.up q
 have bc:=DB am q J
 have bd:=BN an (Es q oO)
 refine WL.e<|A4<|Ag (BA rfl ay CB rfl B2)<|A2 rfl<|A2 rfl<|Az rfl rfl bb B2 rfl rfl (λc0 az K bH=>?_)
 have be:=ba.up K
 have bf:=DB bc K d
 have bg:=BN bd (Es K oO)
 refine Dp rfl<|A9 rfl<|Ai (MD rfl rfl (Bq az CB rfl B2) rfl rfl ?_)
 (rw [A1 aS,A1 aS,A1 aS,A1 (bF aS),A1 (bF aS)] at hX;subst hX;exact ⟨Ci (by rw [show (Lz s).2.2=false by assumption];rfl),⟨by rw [<- SR (t:=t1) (show (LR refs l s t1).isSome=false by assumption)];exact be,bf⟩,bg⟩)
 have b9:=(nF ao)
 refine W.k<|A4<|Ag (BA rfl a0 CB rfl B2)<|A2 rfl<|A2 rfl<|Az rfl rfl ak B2 rfl rfl (λc2 aA L bI=>?_)
 have bh:=aj.up L
 have bi:=DB am L d
 have bj:=BN an (Es L oO)
 refine Dp rfl<|A9 rfl<|Ai (MD rfl rfl (Bq aA CB rfl B2) rfl rfl ?_)
 (rw [A1 aS,A1 aS,A1 aS,A1 (bF aS),A6 aS] at hX;subst hX;exact ⟨Ci (by rw [show (Lz s).2.2=true by assumption];rfl),⟨by rw [<- SR (t:=t1) (show (LR refs l s t1).isSome=false by assumption)];exact bh,bi⟩,bj⟩)
end
section
section
variable {P:Program} {n:Sh} {fn:Func} {R:Ending->World->Prop} {f:Fr} {w:World}
def A5L (f:Fr) (tmps:Array Value):Prop:=∀ i u,look f i=some u->tmps.getD i undef=u
def Ek (P:Program) (fn:Func) (R:Ending->World->Prop) (D:List Deferred):Exit->Fr->World->Prop
 | .normal,f,w | .ret,f,w=>∀ tmps,A5L f tmps->Leaves P fn tmps R D .returning w
 | .panic chain,f,w=>∀ tmps,A5L f tmps->Leaves P fn tmps R D (.panicking chain) w
 | .outgrown,_,w=>R .outgrown w
 | _,_,_=>False
def WD (P:Program) (n:Sh) (fn:Func) (R:Ending->World->Prop) (c:Code) (f:Fr) (w:World):Prop:=∀ a,Lh n f a->c.wp P (bodyPostD P fn R) a w
theorem Ku {e:Exit} {a:Act} (h:GV n (Ek P fn R n.D) e a w):bodyPostD P fn R e a w:=by
 obtain ⟨f,hr,hQ⟩:=h
 cases e with
 | normal=>have:=hQ a.tmps hr.2.2;rw [<- hr.1] at this;exact this
 | ret=>have:=hQ a.tmps hr.2.2;rw [<- hr.1] at this;exact this
 | panic ch=>have:=hQ a.tmps hr.2.2;rw [<- hr.1] at this;exact this
 | outgrown=>exact hQ
 | exit i=>exact hQ.elim
 | goto l=>exact hQ.elim
theorem WD.of {c:Code} (h:W P n c (Ek P fn R n.D) f w):WD P n fn R c f w:=by
 unfold W at h
 exact λa ha=>wp_mono (h a ha) λ_ _ _=>Ku
theorem WD.seq {x y:Code} (h:W P n x (nx (λf w=>WD P n fn R y f w) (Ek P fn R n.D)) f w):WD P n fn R (.seq x y) f w:=by
 unfold W at h
 intro a ha
 refine wp_seq (wp_mono (h a ha) ?_)
 rintro e a' w' ⟨f',hr,hQ⟩
 cases e with
 | normal=>exact hQ a' hr
 | exit i=>exact Ku (P:=P) (fn:=fn) (R:=R) (n:=n) (w:=w') (e:=.exit i) ⟨f',hr,hQ⟩
 | goto l=>exact Ku (P:=P) (fn:=fn) (R:=R) (n:=n) (w:=w') (e:=.goto l) ⟨f',hr,hQ⟩
 | ret=>exact Ku (P:=P) (fn:=fn) (R:=R) (n:=n) (w:=w') (e:=.ret) ⟨f',hr,hQ⟩
 | panic ch=>exact Ku (P:=P) (fn:=fn) (R:=R) (n:=n) (w:=w') (e:=.panic ch) ⟨f',hr,hQ⟩
 | outgrown=>exact Ku (P:=P) (fn:=fn) (R:=R) (n:=n) (w:=w') (e:=.outgrown) ⟨f',hr,hQ⟩
theorem WD.defer {y:Code} {ty ty2:Nat} {pos2:String} {aft2:Array Edge} {F:FuncId} {caps:List Operand} (hcap:Rw f caps=some vs) (hd:Nat.blt d n.n=true)
  (h:WD P ⟨n.n,⟨.fn (.func F) vs.toArray,#[]⟩::n.D⟩ fn R y ((d,.func (.func F) #[] vs.toArray)::f) w) :
  WD P n fn R (.seq (.region id [⟨some d,.makeFunc (.func F) #[] caps.toArray,ty,pos,aft,none⟩,⟨none,.defer ⟨.value (.tmp d),#[],#[]⟩,ty2,pos2,aft2,none⟩].toArray false) y) f w:=by
 intro a ha
 refine wp_seq (wp_region_lit ?_)
 have c:(Instr.makeFunc (.func F) #[] (vs.toArray)).run P w=.ok (.func (.func F) #[] vs.toArray) w:=rfl
 have e:caps.toArray.map a.eval=vs.toArray:=by rw [List.map_toArray,K4 ha.agr _ _ hcap]
 have b:=ha.put hd (.func (.func F) #[] vs.toArray)
 have g:(a.put (some d) (.func (.func F) #[] vs.toArray)).eval (.tmp d)=.func (.func F) #[] vs.toArray:=b.agr _ _ (by simp [D0,look,Nat.beq_refl])
 unfold wpList
 rw [A6 (by simp [Region.wanted])]
 refine Or.inl ?_
 unfold Oper.wp execOp
 simp only [e,BB,c,B6,CX,List.map_toArray,DT]
 rw [Oper.upon_value]
 unfold wpList
 rw [A6 (by simp [Region.wanted])]
 refine Or.inl ?_
 unfold Oper.wp execOp
 simp only [resolve,Deferred.ofValue,g,BB,CX,B6,Array.append_empty,List.map_toArray,DT]
 rw [Oper.upon_defer]
 exact wpList_nil (h _ ⟨by show _::_=_::_;rw [b.1],b.2.1,b.2.2⟩)
theorem RO {F:FuncId} {c:Code} {args:Array Value} (hf:P.funcs[F]?=some fn) (hb:fn.body=some c)
  {k:Nat} (hn:fn.ntmps=k) (hl:args.size<=k) (h:WD P ⟨k,[]⟩ fn R c (L0 0 args.toList) w):Calls P F args w R:=by
 refine calls_of_wp_defers hf hb (h _ ⟨rfl,by simp [hn];omega,?_⟩)
 intro i v hv
 obtain ⟨j,e,hj⟩:=JW _ _ _ _ hv
 obtain rfl:i=j:=by omega
 have a:i<args.size:=by
  rcases BU i args.size with h | h
  · exact h
  · rw [AK (by simpa using h)] at hj;cases hj
 have hj':args[i]?=some v:=by rw [<- DN];exact hj
 simp only [B0]
 rw [Array.getElem?_append_left a,hj'];rfl
theorem JT {F:FuncId} {g:Func} (h1:P.funcs[F]?=some g) (h2:g.body≠none) (h3:g.name≠"runtime.NumGoroutine") (args:Array Value) (w:World):(callFunc F args).run P w=.ok (.enter F args) w:=by
 cases hb:g.body with
 | none=>exact CM hb h2
 | some c=>simp [callFunc,h1,h3,hb]
theorem Nu  (hv:Eb P fn f w v) (h:R (.returned v) w):Ek P fn R [] .ret f w:=λtmps ht=>⟨v,hv tmps ht,h⟩
theorem Ek.ret {F:FuncId} (hb:Dk P F) (S:World->Prop)
  (hc:CallsD P F vs.toArray .returning w λe u' w'=>u'=.returning/\(∃ v,e=.returned v)/\S w')
  (hr:∀ w',S w'->∃ v,Eb P fn f w' v/\R (.returned v) w'):Ek P fn R [⟨.fn (.func F) vs.toArray,#[]⟩] .ret f w:=by
 intro tmps ht
 obtain ⟨g,a,b,c⟩:=hb
 refine leaves_cons (f:=F) (args:=vs.toArray) (by simp) ?_ (hc.mono ?_)
 ·
  simp only [invoke,Array.empty_append]
  exact JT a b c _ _
 ·
  rintro e u' w' ⟨rfl,⟨v,rfl⟩,hS⟩
  obtain ⟨v,hv,hR⟩:=hr w' hS
  exact ⟨v,hv tmps ht,hR⟩
theorem Li {F:FuncId} {v0:Value} (hb:Dk P F) (S:World->Prop)
  (hc:CallsD P F vs.toArray (.panicking [{ v:=v0,recovered:=false }]) w λe u' w'=>u'=.panicking [{ v:=v0,recovered:=true }]/\(∃ v,e=.returned v)/\S w')
  (hr:∀ w',S w'->∃ v,Eb P fn f w' v/\R (.returned v) w'):Ek P fn R [⟨.fn (.func F) vs.toArray,#[]⟩] (.panic [{ v:=v0,recovered:=false }]) f w:=by
 intro tmps ht
 obtain ⟨g,a,b,c⟩:=hb
 refine leaves_cons (f:=F) (args:=vs.toArray) (by simp) ?_ (hc.mono ?_)
 ·
  simp only [invoke,Array.empty_append]
  exact JT a b c _ _
 ·
  rintro e u' w' ⟨rfl,⟨v,rfl⟩,hS⟩
  obtain ⟨v,hv,hR⟩:=hr w' hS
  exact ⟨v,hv tmps ht,hR⟩
def OK:FrameMode->Value × FrameMode
 | .panicking ({ v,recovered:=false,goexit:=false }::older)=>(v,.panicking ({ v,recovered:=true }::older))
 | m=>(.nilIface,m)
theorem Sa (c₀:Frame) (cs:List Frame):recoverD (c₀::cs)=some ((OK c₀.mode).1,{ c₀ with mode:=(OK c₀.mode).2 }::cs)\/recoverD (c₀::cs)=none/\OK c₀.mode=(.nilIface,c₀.mode):=by
 unfold recoverD OK
 simp only
 split
 · next h=>rw [h];exact Or.inl rfl
 ·
  next h =>
  refine Or.inr ⟨rfl,?_⟩
  split
  · next h2=>exact CM h2 (h _ _)
  · rfl
theorem Qf  {ty:Nat} {l:List Oper} {Q:Exit->Act->List Frame->World->Prop} {a:Act} {c₀:Frame} {cs:List Frame} {Q0:Exit->Act->World->Prop}
  (h:wpList P (⟨some d,.call ⟨.builtin .recover,#[],ats⟩,ty,pos,aft,none⟩::l).toArray Q0 l (a.put (some d) (OK c₀.mode).1) w)
  (hmono:∀ e a w,Q0 e a w->Q e a ({ c₀ with mode:=(OK c₀.mode).2 }::cs) w) :
  (Code.region id (⟨some d,.call ⟨.builtin .recover,#[],ats⟩,ty,pos,aft,none⟩::l).toArray false).wpS P Q a (c₀::cs) w:=by
 intro b k hb t
 generalize ho:(⟨some d,.call ⟨.builtin .recover,#[],ats⟩,ty,pos,aft,none⟩:Oper)=o at h ⊢
 have h':wpOps P (o::l).toArray Q0 (List.range' 1 l.length) (a.put (some d) (OK c₀.mode).1) w:=by
  rw [wpOps_eq_wpList l 1 (λj=>by simp [Nat.add_comm 1 j])];exact h
 obtain ⟨e,a',w',hq,q⟩:=wp_ops _ _ _ h' b k ({ c₀ with mode:=(OK c₀.mode).2 }::cs)
 refine ⟨e,a',_,w',hmono _ _ _ hq,.of_steps (.head step_region (.one (step_lone_go ?_))) q⟩
 have g:List.range (o::l).toArray.size=0::List.range' 1 l.length:=by
  rw [List.range_eq_range'];simp [List.range'_succ]
 rw [g]
 have hg:=stepG_op (P:=P) (b:=b) (k:=k) (cs:=c₀::cs) (w:=w) (a:=a) (ops:=(o::l).toArray) (i:=0) (rest:=List.range' 1 l.length) (o:=o) (by simp) (by subst ho;simp [Region.wanted])
 have s:∀ v,(b.at a (.inRegion (o::l).toArray (0::List.range' 1 l.length)::k)).finish v=b.at (a.put (some d) v) (.inRegion (o::l).toArray (List.range' 1 l.length)::k):=by
  intro v;rw [Frame.finish_at];subst ho;rfl
 have hk:(b.at a (.inRegion (o::l).toArray (0::List.range' 1 l.length)::k)).kind=.deferred:=hb
 have c:=tryRecover_deferred hk (c₀::cs)
 have m:(execOp a.eval o).run P w=.ok .recover w:=by
  subst ho;simp [execOp,resolve,invoke,builtin]
 rw [hg,<- s]
 rcases Sa c₀ cs with f | ⟨f,hm⟩
 ·
  rw [f] at c
  simp only [Frame.at] at c ⊢
  simp [stepG.apply,m,c]
 ·
  rw [f] at c
  rw [hm]
  simp only [Frame.at] at c ⊢
  simp [stepG.apply,m,c]
theorem Iw {F:FuncId} {ty k:Nat} {l:List Oper} {y:Code} {args:Array Value} {u:FrameMode} (hf:P.funcs[F]?=some fn)
  (hb:fn.body=some (.seq (.region id (⟨some d,.call ⟨.builtin .recover,#[],ats⟩,ty,pos,aft,none⟩::l).toArray false) y)) (hn:fn.ntmps=k) (hl:args.size<=k) (hd:Nat.blt d k=true)
  (h:WL P ⟨k,[]⟩ (⟨some d,.call ⟨.builtin .recover,#[],ats⟩,ty,pos,aft,none⟩::l).toArray (nx (λf w=>W P ⟨k,[]⟩ y (Jn P fn R) f w) (Jn P fn R)) l ((d,(OK u).1)::L0 0 args.toList) w) :
  CallsD P F args u w λe u' w'=>u'=(OK u).2/\R e w':=by
 refine callsD_of_wpS hf hb λc₀ cs hu=>wpS_seq ?_
 have c:Lh ⟨k,[]⟩ (L0 0 args.toList) { tmps:=args++Array.replicate (fn.ntmps-args.size) undef,defers:=[] }:=by
  refine ⟨rfl,by simp [hn];omega,λi v hv=>?_⟩
  obtain ⟨j,e,hj⟩:=JW _ _ _ _ hv
  obtain rfl:i=j:=by omega
  have o:i<args.size:=by
   rcases BU i args.size with h | h
   · exact h
   · rw [AK (by simpa using h)] at hj;cases hj
  have hj':args[i]?=some v:=by rw [<- DN];exact hj
  simp only [B0]
  rw [Array.getElem?_append_left o,hj'];rfl
 subst hu
 have b:∀ e a w,GV ⟨k,[]⟩ (Jn P fn R) e a w->bodyPostS P fn c₀ cs (λe u' w'=>u'=(OK c₀.mode).2/\R e w') e a ({ c₀ with mode:=(OK c₀.mode).2 }::cs) w:=by
  rintro e a w ⟨f,hr,hQ⟩
  unfold Jn at hQ
  cases e with
  | normal=>obtain ⟨v,g,m⟩:=hQ;exact ⟨hr.1,_,rfl,v,g _ hr.2.2,rfl,m⟩
  | ret=>obtain ⟨v,g,m⟩:=hQ;exact ⟨hr.1,_,rfl,v,g _ hr.2.2,rfl,m⟩
  | panic ch=>exact ⟨hr.1,_,rfl,rfl,hQ⟩
  | outgrown=>exact ⟨_,rfl,hQ⟩
  | exit i=>exact hQ.elim
  | goto l=>exact hQ.elim
 unfold WL at h
 have:=h _ (c.put hd (OK c₀.mode).1)
 refine Qf this ?_
 rintro e a w ⟨f,hr,hQ⟩
 cases e with
 | normal =>
  have hQ':W P ⟨k,[]⟩ y (Jn P fn R) f w:=hQ
  unfold W at hQ'
  exact wpS_of_wp (wp_mono (hQ' a hr) λe a w hh=>b e a w hh)
 | _=>exact b _ _ _ ⟨f,hr,hQ⟩
def noPn (Q:Exit->Fr->World->Prop):Exit->Fr->World->Prop
 | .panic _,_,_=>False
 | e,f,w=>Q e f w
theorem Uu {c:Code} {Q:Exit->Fr->World->Prop} (h:W P n c (noPn Q) f w):W P n c Q f w:=h.mono λe f w h=>by
 cases e with
 | panic ch=>exact h.elim
 | normal=>exact h
 | ret=>exact h
 | exit i=>exact h
 | goto l=>exact h
 | outgrown=>exact h
theorem Bx.neNil  {ty u:TypeId} (ht:P.underlying tx=some (.interface (P.methodsAt tx))) (hx:D0 f x=some (.iface u v)):Bx P (.binOp .neq tx x (.const .nilIface) ty) f (.bool true):=λρ hρ d ty' pos aft g w=>by
 have h4:ρ (.const .nilIface)=.nilIface:=hρ _ _ rfl
 simp [execOp,hρ _ _ hx,h4,eqGuard,run_neq_held_nil w tx u v ht]
theorem Bx.neNil0  {ty:TypeId} (ht:P.underlying tx=some (.interface (P.methodsAt tx))) (hx:D0 f x=some .nilIface):Bx P (.binOp .neq tx x (.const .nilIface) ty) f (.bool false):=λρ hρ d ty' pos aft g w=>by
 have h4:ρ (.const .nilIface)=.nilIface:=hρ _ _ rfl
 simp [execOp,hρ _ _ hx,h4,eqGuard_nil_constR,run_neq_nil_nil w tx ht]
theorem Bx.tas  {t:TypeId} {k:IntKind} (hu:P.underlying t=some (.int k)) (hx:D0 f x=some (.iface t v)):Bx P (.typeAssert x tx t true) f (.tuple #[v,.bool true]):=λρ hρ d ty' pos aft g w=>by
 simp [execOp,hρ _ _ hx,Instr.typeAssert,B8 hu]
theorem Bi  {t:TypeId} {b o:Nat} {cs:Array Value} (hb:AF w b cs tb) (ha:(isAgg t).run P w=.ok false w) (hv:cs[o]?=some v):(loadVar t ⟨b,o,none⟩).run P w=.ok v w:=by
 have hc:=(hb.cell o).trans hv
 simp [loadVar,ha,hc]
theorem I2 {a b c:Tmp} {tc:TypeId} {pa pb pc:Addr} {x y:Value} (hr:fn.results=#[.cell a ta,.cell b tb,.cell c tc]) (ha:look f a=some (.pointer (some pa))) (hb:look f b=some (.pointer (some pb))) (hc:look f c=some (.pointer (some pc)))
  (hx:(loadVar ta pa).run P w=.ok x w) (hy:(loadVar tb pb).run P w=.ok y w) (hz:(loadVar tc pc).run P w=.ok z w):Eb P fn f w (.tuple #[x,y,z]):=λtmps hh=>by
 have e1:=hh _ _ ha;have e2:=hh _ _ hb;have e3:=hh _ _ hc
 simp only [B0] at e1 e2 e3
 simp [results,hr,e1,e2,e3,asAddr,hx,hy,hz]
end
end
section
def Hk {α:Type} (E:TypeId) (res:Except Int α) (S:α->Value->World->Prop) (S':World->Prop) (e:Ending) (w:World):Prop :=
 match res with
 | .ok a=>∃ v,e=.returned v/\S a v w
 | .error k=>e=.panicked [{ v:=.iface E (.int .i64 k),recovered:=false }]/\S' w
theorem Hk.ok {α:Type} {E:TypeId} {res:Except Int α} {S:α->Value->World->Prop} {S':World->Prop} {e:Ending} {w:World} (a:α) (v:Value) (h:res=.ok a) (he:e=.returned v) (hs:S a v w):Hk E res S S' e w:=by
 unfold Hk;rw [h];exact ⟨v,he,hs⟩
abbrev GD:=@Hk.ok
theorem A0P {α:Type} {E:TypeId} {res:Except Int α} {S:α->Value->World->Prop} {S':World->Prop} {w:World} (k:Int) (h:res=.error k) (hs:S' w):Hk E res S S' (.panicked [{ v:=.iface E (.int .i64 k),recovered:=false }]) w:=by
 unfold Hk;rw [h];exact ⟨rfl,hs⟩
abbrev Dq:=@A0P
section
variable {P:Program} {n:Sh} {f:Fr}
theorem WL.cx  {Q:Exit->Fr->World->Prop} {rest:List Oper} {ty:Nat} {F:FuncId} {xs:List Operand}
 {res:Except Int α} {S:α->Value->World->Prop} (hb:Dk P F) (hx:Rw f xs=some vs) (hd:Nat.blt d n.n=true)
  (hc:Calls P F vs.toArray w (Hk E res S S')) (herr:∀ k w',res=.error k->S' w'->Q (.panic [{ v:=.iface E (.int .i64 k),recovered:=false }]) f w')
  (hok:∀ a v w',res=.ok a->S a v w'->WL P n ops Q rest ((d,v)::f) w'):WL P n ops Q (⟨some d,.call ⟨.value (.func F),xs.toArray,ats⟩,ty,pos,aft,none⟩::rest) f w:=by
 cases hres:res with
 | ok a=>exact DQ (V:=λv:Value=>v) hb hx hd (hc.mono λe w' h=>by rw [hres] at h;exact h) λv w' h=>hok a v w' hres h
 | error k=>exact FQ hb hx (hc.mono λe w' h=>by rw [hres] at h;exact h) λw' h=>herr k w' hres h
end
theorem E6  {L:Fe α} {r:Nat} {l:List α} (h:AD L e B w v l) (hT:Bf w.heap.size r w w1) (hr:r<B):AD L e B w1 v l :=
 h.same λg hg=>hT.block g (h.lt g hg).2 (by have:=(h.lt g hg).1;omega)
section
variable {P:Program} {f:Fr}
theorem Bx.eqNil  {ty u:TypeId} (ht:P.underlying tx=some (.interface (P.methodsAt tx))) (hx:D0 f x=some (.iface u v)):Bx P (.binOp .eql tx x (.const .nilIface) ty) f (.bool false):=λρ hρ d ty' pos aft g w=>by
 have h4:ρ (.const .nilIface)=.nilIface:=hρ _ _ rfl
 simp [execOp,hρ _ _ hx,h4,eqGuard,run_eql_held_nil w tx u v ht]
theorem Bx.eqNil0  {ty:TypeId} (ht:P.underlying tx=some (.interface (P.methodsAt tx))) (hx:D0 f x=some .nilIface):Bx P (.binOp .eql tx x (.const .nilIface) ty) f (.bool true):=λρ hρ d ty' pos aft g w=>by
 have h4:ρ (.const .nilIface)=.nilIface:=hρ _ _ rfl
 simp [execOp,hρ _ _ hx,h4,eqGuard_nil_constR,run_eql_nil_nil w tx ht]
end
end
section
theorem CV (k:Int) (w:World):Calls Tryz.prog 60 #[.int .i64 k] w λe w'=>e=.panicked [{ v:=.iface 30 (.int .i64 k),recovered:=false }]/\w=w':=by
 refine W.e func60 rfl ntmps60 bL ?_
 refine Ak<|A2 rfl<|A0 (.mkI LJ rfl)<|Fo rfl (Aw ?_)
 exact ⟨rfl,rfl⟩
theorem A0k (b:Nat) (w:World):Calls Tryz.prog 44 #[.nilIface,.pointer (some ⟨b,0,none⟩)] w λe w'=>e=.returned (.tuple #[])/\w=w':=by
 refine W.e func44 rfl ntmps44 bL ?_
 refine Ah<|A4<|A2 rfl<|A0 (.eqNil0 kR rfl)<|WL.e<|DR rfl rfl<|Ai (Bt rfl  ?_)
 exact ⟨rfl,rfl⟩
theorem A0l (b B:Nat) (j k:Int) (w:World) (h:AF w b #[.int .i64 j] 30) (hB:B<=b):Calls Tryz.prog 44 #[.iface 30 (.int .i64 k),.pointer (some ⟨b,0,none⟩)] w λe w'=>e=.returned (.tuple #[])/\AF w' b #[.int .i64 k] 30/\BF b w w':=by
 refine W.e func44 rfl ntmps44 bL ?_
 refine Ah<|A4<|A2 rfl<|A0 (.eqNil kR rfl)<|WL.e<|DS rfl rfl<|W.k<|A4<|A2 rfl<|A0 (.tas LJ rfl)<|A2 rfl<|A0 (.ext rfl rfl)<|A0 (.ext rfl rfl)<|Dp rfl<|A9 rfl<|Ah<|A4<|A2 rfl<|A0 (.not rfl)<|WL.e<|DS rfl rfl<|W.k<|Ak<|A2 rfl<|A2 rfl<|A0 (.nck rfl)<|WL.st Gq rfl rfl rfl h oQ (λd a c f=>?_)
 have a:AF d b _ _:=a
 have c:BF b _ _:=c
 refine WL.e<|BJ (Bt rfl ?_)
 exact ⟨rfl,a,by assumption⟩
end
section
open Go.RowKit Go.WideShapes Go.ChangeShapes
theorem VS:∀ (vs:List Value) (s o:Nat) (pre mid post:List Value),pre.length=o+s->mid.length=vs.length ->
  (vs.zipIdx s).foldl (λ(cs:Array Value) (x:Value × Nat)=>cs.setIfInBounds (o+x.2) x.1) (pre++mid++post).toArray=(pre++vs++post).toArray
 | [],s,o,pre,mid,post,h1,h2=>by
  obtain rfl:mid=[]:=Cp.1 (by simpa using h2)
  rfl
 | v::r,s,o,pre,[],post,h1,h2=>by simp at h2
 | v::r,s,o,pre,m0::mr,post,h1,h2=>by
  have ih:=VS r (s+1) o (pre++[v]) mr post (by simp;omega) (by simpa using h2)
  rw [List.zipIdx_cons,DD]
  have e:(pre++m0::mr++post).toArray.setIfInBounds (o+s) v=(pre++[v]++mr++post).toArray:=by
   rw [<- h1]
   simp
  rw [e,ih]
  simp
theorem To {α:Type} (L:Fe α):∀ (xs:List α) (i:Nat) (pre post:List Value),pre.length=i * L.m->post.length=xs.length * L.m ->
  Instr.fill (λi=>some (i * L.m,L.m)) (pre++post).toArray ((List.range' i xs.length).zip (xs.map λx=>Value.agg (L.V x).toArray))=some (pre++L.flat xs).toArray
 | [],i,pre,post,h1,h2=>by
  obtain rfl:post=[]:=Cp.1 (by simpa using h2)
  rfl
 | x::r,i,pre,post,h1,h2=>by
  have hlx:=L.len x
  have h2':post.length=r.length * L.m+L.m:=by rw [h2,A8,Nat.succ_mul]
  have ih:=To L r (i+1) (pre++L.V x) (post.drop L.m) (by rw [A5,h1,hlx,Nat.succ_mul]) (by rw [B4];omega)
  have hf:=VS (L.V x) 0 (i * L.m) pre (post.take L.m) (post.drop L.m) oO (by rw [AT,hlx];omega)
  rw [AE pre,HG] at hf
  have hc:(Value.agg (L.V x).toArray).cells=(L.V x).toArray:=rfl
  rw [A8,List.range'_succ,Co,List.zip_cons_cons]
  conv=>lhs;unfold Instr.fill
  simp only [hc]
  rw [A1 (by simp [hlx];omega)]
  refine Eq.trans (Bc (λc=>Instr.fill (λi=>some (i * L.m,L.m)) c ((List.range' (i+1) r.length).zip (r.map λx=>Value.agg (L.V x).toArray))) ?_) (ih.trans (by simp [Fe.flat]))
  rw [<- hf]
  simp
section
variable {P:Program} {n:Sh} {f:Fr} {α:Type} {L:Fe α}
theorem Cu  {Q:Exit->Fr->World->Prop} {rest:List Oper} {ty:Nat} {t:TypeId} {len:Nat} {ps:List (Nat × Operand)} (xs:List α)
  (hu:P.underlying t=some (.slice e)) (hs:∀ w,(sizeOf e).run P w=.ok L.m w) (hz:∀ w,(zeroValue e).run P w=.ok z w) (_hzs:z.cells.size=L.m) (hl0:Nat.blt 0 len=true) (hl1:Nat.ble (len * L.m) 1000=true)
  (hx:Rw f (ps.map (·.2))=some vs) (hi:ps.map (·.1)=List.range' 0 len) (hv:vs=xs.map λx=>Value.agg (L.V x).toArray) (hl:len=xs.length) (hd:Nat.blt d n.n=true)
  (k:∀ b w1,b=w.heap.size->AD L e b w1 (.slice (some ⟨b,0,none⟩) len len) xs->BF b w w1->w1.heap.size=b+1->WL P n ops Q rest ((d,.slice (some ⟨b,0,none⟩) len len)::f) w1) :
  WL P n ops Q (⟨some d,.buildSlice t len ps.toArray,ty,pos,aft,none⟩::rest) f w:=by
 have q:0<len:=by simpa [Nat.blt_eq] using hl0
 have s:len * L.m<=1000:=by simpa using hl1
 have o:len<=len * L.m:=Nat.le_mul_of_pos_right _ L.pos
 refine WL.run hd (w':=w.alloc (.cells (L.flat xs).toArray e)) (v:=.slice (some ⟨w.heap.size,0,none⟩) len len) (λρ hρ=>?_) (k _ _ rfl (.inr ⟨w.heap.size,len,_,by rw [<- hl],FL _,AF.alloc _ _ _,by rw [<- hl];exact FL _,by unfold maxLen;omega,by rw [List.size_toArray,L.flat_len,<- hl];exact FL _,by show (L.flat xs).take _=_;rw [AR (by rw [L.flat_len];exact FL _)]⟩) (BF.alloc _ _) (by simp))
 have g:=K4 hρ _ _ hx
 have c:(ps.toArray.map λ(i,x)=>(i,ρ x)).toList=(ps.map (·.1)).zip vs:=by
  rw [<- g];simp only [List.map_map,Array.toList_map]
  clear hx hi hv g
  induction ps with
  | nil=>rfl
  | cons p r ih=>simpa using ih
 have a:=To L xs 0 [] ((Array.range (len * L.m)).map (λx=>z.cells[x % z.cells.size]!)).toList (by simp) (by simp [hl])
 simp only [CF,Array.toArray_toList] at a
 rw [hi,hl,hv] at c
 rw [<- hl] at c a
 have j:¬ len * L.m=0:=by omega
 have l:¬ 16777216<len * L.m:=by omega
 unfold execOp
 simp only [Instr.buildSlice,BB,B8 hu,hs,B6,c]
 rw [A1 oO,A1 j]
 simp only [BB,hz,CX,B6,a]
 simp [newRow]
theorem RM  {Q:Exit->Fr->World->Prop} {rest:List Oper} {ty:Nat} {t:TypeId} {nn:Nat} {l:List α} (o:α) (k:Nat)
  (hown:AD L e B w (.slice p nn c) l) (hk:k<l.length) (hi:(P.info? t).map (·.size)=some L.m) (hx:D0 f x=some (.pointer (some ((pA p).add (k * L.m))))) (hy:D0 f y=some (.agg vs.toArray)) (hv:vs=L.V o)
  (kk:∀ w1 g,p=some ⟨g,0,none⟩->BF g w w1->AD L e B w1 (.slice p nn c) (l.set k o)->WL P n ops Q rest f w1) :
  WL P n ops Q (⟨none,.store t x y,ty,pos,aft,none⟩::rest) f w:=by
 subst hv
 rcases hown with ⟨q,v⟩ | ⟨g,cap,cur,q,hB,hg,j,s,A,d⟩
 · rw [v] at hk;simp only [Ae] at hk;omega
 ·
  cases q;have a:=L.len o;have C:=L.flat_len l;have D:k * L.m+L.m<=l.length * L.m:=by rw [<- Nat.succ_mul];exact Cm _ hk
  have E:l.length * L.m<=c * L.m:=Cm _ j;have u:=run_storeCells_at P g (k * L.m) e (L.V o) 0 cur w hg (by rw [a];omega) (L.one o);rw [show pA (some (⟨g,0,none⟩:Addr))=⟨g,0,none⟩ from rfl,EC,EF] at hx;have b:(l.set k o).length=l.length:=List.length_set;refine RN (w':=w.setRow g (cur.toList.take (k * L.m+0)++L.V o++cur.toList.drop (k * L.m+0+(L.V o).length)).toArray) (λρ hρ=>?_)
   (kk _ g rfl (BF.setRow _ _ _) (.inr ⟨g,c,_,by rw [b],hB,setRow_heap w g cur _ e _ hg,by rw [b];exact j,s,?_,?_⟩))
  ·
   cases hq:P.info? t with
   | none=>simp [hq] at hi
   | some i =>
    have hs:i.size=L.m:=by simpa [hq] using hi
    unfold execOp;simp [hρ _ _ hx,hρ _ _ hy,Instr.storeAt,Instr.sureAddr,storeVar,BB,sizeOf,typeInfo,hq,hs,Value.cells,a,u]
  ·
   simp only [List.size_toArray,A5,AT,B4,Array.length_toList,a]
   omega
  ·
   rw [b,<- Kh L l k hk o,Nat.add_zero,a,<- d];rw [List.take_take,Nat.min_eq_left oO];rw [AE,AE,A0T,A0T];simp only [AT,Array.length_toList,a];rw [Nat.min_eq_left oO,List.take_take,Nat.min_eq_right oO,AR (l:=L.V o) oO,List.drop_take]
   congr 3
   omega
theorem Rs (L:Fe α) (l:List α) (k i:Nat) (hk:k<l.length) (hi:i<L.m) (o:α) (v:Value) (hv:L.V o=(L.V l[k]).set i v):(L.flat l).set (k * L.m+i) v=L.flat (l.set k o):=by
 have a:=Kh L l k hk l[k]
 rw [List.set_getElem_self] at a
 have hl:=L.flat_len l
 have b:k * L.m+L.m<=l.length * L.m:=by rw [<- Nat.succ_mul];exact Cm _ hk
 have ht:((L.flat l).take (k * L.m)).length=k * L.m:=by rw [AT];omega
 have c:=L.len l[k]
 rw [<- Kh L l k hk o,hv]
 conv=>lhs;rw [<- a]
 rw [AE,List.set_append_right _ _ oO,ht,Nat.add_sub_cancel_left,List.set_append_left _ _ oO,AE]
theorem A6U  {Q:Exit->Fr->World->Prop} {rest:List Oper} {ty:Nat} {t:TypeId} {nn:Nat} {l:List α} (o:α) (k i:Nat)
  (hown:AD L e B w (.slice p nn c) l) (hk:k<l.length) (hi:i<L.m) (hs:∀ w,(sizeOf t).run P w=.ok 1 w) (hx:D0 f x=some (.pointer (some (((pA p).add (k * L.m)).add i)))) (hy:D0 f y=some v) (h1:v.oneCell'=true) (hv:L.V o=(L.V l[k]).set i v)
  (kk:∀ w1 g,p=some ⟨g,0,none⟩->BF g w w1->AD L e B w1 (.slice p nn c) (l.set k o)->WL P n ops Q rest f w1) :
  WL P n ops Q (⟨none,.store t x y,ty,pos,aft,none⟩::rest) f w:=by
 rcases hown with ⟨h1,q⟩ | ⟨g,cap,cur,q,hB,hg,d,u,A,b⟩
 · rw [q] at hk;simp only [Ae] at hk;omega
 ·
  cases q;have D:k * L.m+L.m<=l.length * L.m:=by rw [<- Nat.succ_mul];exact Cm _ hk
  have E:l.length * L.m<=c * L.m:=Cm _ d;have j:=run_storeCells_at P g (k * L.m+i) e [v] 0 cur w hg oE (by simpa using h1);rw [show pA (some (⟨g,0,none⟩:Addr))=⟨g,0,none⟩ from rfl,EC,EC,EF] at hx;have a:(l.set k o).length=l.length:=List.length_set;have C:v.cells=#[v]:=by cases v <;> first | rfl | cases h1
  have s:cur.toList.take (k * L.m+i+0)++[v]++cur.toList.drop (k * L.m+i+0 + [v].length)=cur.toList.set (k * L.m+i) v:=by
   rw [List.set_eq_take_append_cons_drop,A6 (by rw [Array.length_toList];omega)]
   simp
  rw [s] at j;refine RN (w':=w.setRow g (cur.toList.set (k * L.m+i) v).toArray) (λρ hρ=>?_)
   (kk _ g rfl (BF.setRow _ _ _) (.inr ⟨g,c,_,by rw [a],hB,setRow_heap w g cur _ e _ hg,by rw [a];exact d,u,?_,?_⟩))
  · unfold execOp;simp [hρ _ _ hx,hρ _ _ hy,Instr.storeAt,Instr.sureAddr,storeVar,BB,hs,C,j]
  · simpa using A
  · rw [a,<- Rs L l k i hk hi o v hv,<- b,List.take_set]
theorem A0a (L:Fe α) (o:α) (cs:Array Value) (hc:cs.toList=L.V o) (j:Nat):(madeCells cs (j * L.m)).toList=L.flat (List.replicate j o):=by
 have c:cs.size=L.m:=by rw [<- Array.length_toList,hc,L.len]
 refine List.ext_getElem? λq=>?_
 have a:=L.pos
 rcases BU q (j * L.m) with hq | hq
 ·
  have d:q / L.m<j:=(Nat.div_lt_iff_lt_mul a).2 hq
  have b:q % L.m<L.m:=Nat.mod_lt _ a
  have e:=L.flat_at (List.replicate j o) (q / L.m) (by simpa using d) (q % L.m) b
  rw [Nat.mul_comm,Nat.div_add_mod] at e
  rw [e,List.getElem_replicate,<- hc]
  simp [madeCells,hq,c,b]
 · rw [AK (by simp [madeCells];exact hq),AK (by rw [L.flat_len,HH];exact hq)]
theorem A6X  {Q:Exit->Fr->World->Prop} {rest:List Oper} {ty:Nat} {t:TypeId} {kl kc:IntKind} (o:α) (j:Nat)
  (ht:P.underlying t=some (.slice e)) (hi:(P.info? e).map (λi=>(i.zero,i.size,i.bytes))=some (some z,L.m,by')) (hby2:Nat.ble by' 1000=true) (hz:z.cells.toList=L.V o)
  (hx:D0 f x=some (.int kl j)) (hy:D0 f y=some (.int kc j)) (hj:j<=10000) (hm:L.m<=1000) (hd:Nat.blt d n.n=true)
  (k:∀ w1,AD L e w.heap.size w1 (.slice (some ⟨w.heap.size,0,none⟩) j j) (List.replicate j o)->Below w.heap.size w w1->WL P n ops Q rest ((d,.slice (some ⟨w.heap.size,0,none⟩) j j)::f) w1) :
  WL P n ops Q (⟨some d,.makeSlice t x y,ty,pos,aft,none⟩::rest) f w:=by
 cases hh:P.info? e with
 | none=>rw [hh] at hi;cases hi
 | some i =>
  rw [hh] at hi;simp only [Option.map_some,Bm,CQ] at hi;obtain ⟨c,a,g⟩:=hi;have b:i.bytes<=1000:=by rw [g];simpa using hby2
  have hb1:i.bytes * j<=1000 * j:=Cm _ b;have v:j * L.m<=j * 1000:=Nat.mul_le_mul_left _ hm;obtain ⟨w',s,l,u⟩:=run_makeSlice_full (P:=P) (w:=w) w.heap.size t e i z L.m ht hh c a kl kc j oO oO (by unfold maxLen;omega) (FL _);rw [A0a L o z.cells hz j] at l;have q:AD L e w.heap.size w' (.slice (some ⟨w.heap.size,0,none⟩) j j) (List.replicate j o):=AD.of (by rw [HH];exact l);refine WL.run hd (λρ hρ=>?_) (k w' q ((EM _ _).grown u (FL _) λk hk=>by cases hk));unfold execOp;simp [hρ _ _ hx,hρ _ _ hy,s]
end
theorem AD.rowp  {L:Fe α} {n:Nat} {l:List α} (h:AD L e B w (.slice p n c) l):Be L w p l:=by
 obtain ⟨p',c',hv,hr,-⟩:=h.row
 cases hv
 exact hr
end
section
inductive PV where
 | mk (kind n:Int) (text:l8_) (keys:List (l8_)) (list:List PV)
structure PC where
 kind:Int
 n:Int
 text:l8_
 kp:Option Addr
 kl:Nat
 kc:Nat
 lp:Option Addr
 ll:Nat
 lc:Nat
def pcV (x:PC):List Value:=[.int .i64 x.kind,.int .i64 x.n,.string (bs x.text),.slice x.kp x.kl x.kc,.slice x.lp x.ll x.lc,.slice none 0 0]
def Nb:Fe PC:=⟨6,pcV,by decide,λ_=>rfl,λx u hu=>Au.1 (show (pcV x).all Value.oneCell'=true from rfl) u hu⟩
def Lx (k n:Int) (s:l8_):PC:=⟨k,n,s,none,0,0,none,0,0⟩
def JJ (k n:Int) (s:l8_):PV:=.mk k n s [] []
def A1l:Fe (l8_):=⟨1,λs=>[.string (bs s)],by decide,λ_=>rfl,λx u hu=>by simp only [Am] at hu;subst hu;rfl⟩
theorem Be.lit  {V:Fe α} {b:Nat} {cs:Array Value} {t:TypeId} {l:List α} (h:AF w b cs t) (e:cs=(V.flat l).toArray):Be V w (some ⟨b,0,none⟩) l:=by
 subst e
 refine FZ (λ_=>rfl) λk v hk=>?_
 show w.cell? ((⟨b,0,none⟩:Addr).add k)=_
 rw [EC,EF,h.cell k]
 simpa using hk
theorem Be.strs {w:World} {p:Option Addr} {l:List (l8_)} (h:Be A1l w p l):AS UO w p l:=⟨h.isp,λj hj=>by
 have:=h.cells j hj 0 dD
 rw [show j * A1l.m+0=j by show j * 1+0=j;omega] at this
 exact this⟩
def RQ (S:Nat->Prop) (w:World) (v:Value) (l:List (l8_)):Prop:=AD A1l 9 0 w v l/\∀ g,v.ownBlock=some g->S g
def Wo (S:Nat->Prop) (w:World) (v:Value) (cs:List PC):Prop:=AD Nb 99 0 w v cs/\∀ g,v.ownBlock=some g->S g
inductive Dj (w:World) (S:Nat->Prop):PC->PV->Prop
 | mk (x:PC) (keys:List (l8_)) (list:List PV) (cs:List PC) (hk:RQ S w (.slice x.kp x.kl x.kc) keys) (hr:Wo S w (.slice x.lp x.ll x.lc) cs) (hlen:cs.length=list.length)
   (hsub:∀ i (h:i<cs.length) (h2:i<list.length),Dj w S cs[i] list[i]):Dj w S x (.mk x.kind x.n x.text keys list)
theorem Dj.zero (w:World) (S:Nat->Prop) (k n:Int) (s:l8_):Dj w S (Lx k n s) (JJ k n s) :=
 Dj.mk (Lx k n s) [] [] [] ⟨AD.nil _ _ _ _,λg h=>by cases h⟩ ⟨AD.nil _ _ _ _,λg h=>by cases h⟩ rfl λi h=>by simp at h
theorem RQ.same {S:Nat->Prop} {l:List (l8_)} (h:RQ S w v l) (hb:∀ k,S k->k<w.heap.size->w1.heap[k]?=w.heap[k]?):RQ S w1 v l :=
 ⟨h.1.same λg hg=>hb g (h.2 g hg) (h.1.lt g hg).2,h.2⟩
theorem Wo.same {S:Nat->Prop} {l:List PC} (h:Wo S w v l) (hb:∀ k,S k->k<w.heap.size->w1.heap[k]?=w.heap[k]?):Wo S w1 v l :=
 ⟨h.1.same λg hg=>hb g (h.2 g hg) (h.1.lt g hg).2,h.2⟩
theorem Dj.same {S:Nat->Prop} {x:PC} {o:PV} (h:Dj w S x o) (hb:∀ k,S k->k<w.heap.size->w1.heap[k]?=w.heap[k]?):Dj w1 S x o:=by
 induction h with
 | mk x keys list cs hk hr hlen _ ih=>exact .mk x keys list cs (hk.same hb) (hr.same hb) hlen ih
theorem Dj.mono  {S:Nat->Prop} {x:PC} {o:PV} (h:Dj w S x o) (hST:∀ k,S k->k<w.heap.size->T k):Dj w T x o:=by
 induction h with
 | mk x keys list cs hk hr hlen _ ih=>exact .mk x keys list cs ⟨hk.1,λg hg=>hST g (hk.2 g hg) (hk.1.lt g hg).2⟩ ⟨hr.1,λg hg=>hST g (hr.2 g hg) (hr.1.lt g hg).2⟩ hlen ih
end
section
def N9:PV->Int | .mk k _ _ _ _=>k
def Wv:PV->Int | .mk _ n _ _ _=>n
def SV:PV->l8_ | .mk _ _ t _ _=>t
def N8:PV->List PV | .mk _ _ _ _ l=>l
def Ic (n:Int):Int × Int:=if n < -32768\/32767<n then (0,11) else (n * 65536,0)
def Ep (o:PV):Int × Bool:=if N9 o=3 then (Wv o,Ao (Wv o)) else if N9 o=2 then ((Ic (Wv o)).1,decide ((Ic (Wv o)).2=0)) else (0,false)
structure CP where
 list:List CK
 start:BQ
 now:BQ
def Fv:BQ:=⟨0,0⟩
def Gp (k:Int) (a:BQ):CK:=⟨k,a,Fv,Fv⟩
def Ib (l:List CK):Int:=match l.getLast? with | none=>0 | some s=>s.fKind
def G4 (m:Int) (p:CP) (q:BQ) (l:List CK):CP × Int:=if m<(p.list.length:Int)+(l.length:Int) then (p,9) else (⟨p.list++l,p.start,q⟩,0)
def GC (m:Int) (p:CP) (a:BQ):CP × Int :=
 if C5 a=false then (p,11) else if Ib p.list=1 then (⟨p.list.dropLast++[Gp 1 a],a,a⟩,0)
 else (if (G4 m p a [Gp 1 a]).2=0 then { (G4 m p a [Gp 1 a]).1 with start:=a } else (G4 m p a [Gp 1 a]).1,(G4 m p a [Gp 1 a]).2)
def Fw (m:Int) (p:CP) (s:CK) (q:BQ):CP × Int :=
 if Ib p.list=0 then (p,10) else if Ib p.list=4 then G4 m p q [Gp 1 p.now,s] else G4 m p q [s]
def Fa (m:Int) (p:CP) (a:BQ):CP × Int:=if C5 a=false then (p,11) else Fw m p (Gp 2 a) a
def HR (m:Int) (p:CP) (a b c:BQ):CP × Int:=if (C5 a && C5 b && C5 c)=false then (p,11) else Fw m p ⟨3,a,b,c⟩ c
def Ge (m:Int) (p:CP):CP × Int:=if Ib p.list=0\/Ib p.list=4 then (p,0) else G4 m p p.start [Gp 4 Fv]
def I9:CP:=⟨[],Fv,Fv⟩
structure RP where
 ctm:M6
 fill:C6
 stroke:C6
 pen:Dz
 clips:List Bv
 font:Int
 size:Int
structure Vw where
 s:RP
 saved:List RP
 path:CP
 clip:Int
 inText:Bool
 lost:Bool
 text:M6
 line:M6
 items:List AQ
def Lq (e:Int):Except Int Unit:=if e=0 then .ok () else .error 22
def CH (b:Bool):Except Int Unit:=if b=true then .ok () else .error 22
def H6 (b:Bool):Except Int Unit:=if b=true then .ok () else .error 25
def Dg (args:List PV) (n:Nat):Except Int (List Int):=if args.length=n/\args.all (λo=>(Ep o).2)=true then .ok (args.map λo=>(Ep o).1) else .error 22
def J0 (args:List PV):Except Int Int:=match args with
 | [o]=>if N9 o=2/\0<=Wv o/\Wv o<=2 then .ok (Wv o) else .error 22
 | _=>.error 22
def m6L:List Int->M6
 | [a,b,c,d,e,f]=>⟨a,b,c,d,e,f⟩
 | _=>Wx
def Sd (args:List PV):Except Int M6:=(Dg args 6).map m6L
def LB (a b:M6):Except Int M6:=if (D8 a b).2=0 then .ok (D8 a b).1 else .error 22
def Nl (m:M6) (x y:Int):Except Int BQ:=if (FY m x y).2=0 then .ok ⟨(FY m x y).1.1,(FY m x y).1.2⟩ else .error 22
def Dy (m:M6):List Int->Except Int (List BQ)
 | x::y::r=>do let p <- Nl m x y;let q <- Dy m r;return p::q
 | _=>.ok []
def D6 (p:CP × Int):Except Int CP:=if p.2=0 then .ok p.1 else if p.2=9 then .error 25 else .error 22
def IO (a b:Int):Except Int Int:=if (Lf a b).2=0 then .ok (Lf a b).1 else .error 22
def Fy (x:Dz):Dz:={ x with pfDash:=none,cfDash:=0 }
def Fn (x:Bv):Bv:={ x with pfPath:=none,cfPath:=0 }
def Jd (x:AQ):AQ:={ x with pfPath:=none,cfPath:=0,pfClips:=none,cfClips:=0,fClips:=x.fClips.map Fn,fPen:=Fy x.fPen,pfBytes:=none,cfBytes:=0 }
def JK:Dz:=⟨0,0,0,0,none,[],0,0⟩
def M8 (n:Int):C6:=⟨n,0,0,0,0⟩
def Fx (kind:Int) (path:List CK) (color:C6) (pen:Dz) (clips:List Bv):AQ:=⟨kind,none,path,0,color,none,clips,0,pen,0,0,0,0,0,0,0,none,[],0⟩
def HX (color:C6) (clips:List Bv) (font:Int) (m:M6) (b:l8_):AQ:=⟨4,none,[],0,color,none,clips,0,JK,font,m.a,m.b,m.c,m.d,m.e,m.f,none,b,0⟩
def Fu (v:Vw) (it:AQ):Except Int Vw:=do
 H6 (decide (v.items.length<4096))
 return { v with items:=v.items++[it] }
def NI:List Int->Int->Int->Int
 | [],_,r=>r
 | b::l,n,r=>NI l n (if (r+b) * (r+b)<=n then r+b else r)
def ES:List Int:=[16777216,8388608,4194304,2097152,1048576,524288,262144,131072,65536,32768,16384,8192,4096,2048,1024,512,256,128,64,32,16,8,4,2,1]
def UQ (a:Int):Int:=let r:=NI ES (a * 65536) 0;if a * 65536-r * r > r then r+1 else r
def LL (a:Int):Int × Int:=if (Ao a && decide (0<=a))=true then (UQ a,0) else (0,11)
def Rz (m:M6):Int × Int :=
 let s:=IH (Fz m.a m.d).1 (Fz m.b m.c).1
 (s.1,EH (EH (Fz m.a m.d).2 (Fz m.b m.c).2) s.2)
def Ik (m:M6):Int × Int :=
 let d:=Rz m
 let d2:=if d.1<0 then ((IH 0 d.1).1,EH d.2 (IH 0 d.1).2) else d
 let n:=LL (max d2.1 0)
 let e:=EH d2.2 n.2
 if e≠0 then (0,e) else (n.1,0)
def Gw (by_ n:Int):Except Int Int:=if (Fz n by_).2=0 then .ok (Fz n by_).1 else .error 22
def Hs (by_:Int):List Int->Except Int (List Int)
 | []=>.ok []
 | n::r=>do let x <- Gw by_ n;let l <- Hs by_ r;return x::l
def FM (l:List Int):Int:=l.foldl (· + ·) 0
def KX (m:M6):Except Int Int:=if (Ik m).2=0 then .ok (Ik m).1 else .error 22
def HM (s:RP):Except Int Dz:=do
 let by_ <- KX s.ctm
 let w <- Gw by_ s.pen.fWidth
 let ph <- Gw by_ s.pen.fPhase
 let d <- Hs by_ s.pen.fDash
 return if FM d=0/\d.length > 0 then { s.pen with fWidth:=w,fPhase:=0,pfDash:=none,fDash:=[],cfDash:=0 } else { s.pen with fWidth:=w,fPhase:=ph,pfDash:=none,fDash:=d,cfDash:=0 }
def M2 (v:Vw) (fill:Int):Except Int Vw:=if v.path.list.length > 0/\fill > 0 then Fu v (Fx fill v.path.list v.s.fill JK v.s.clips) else .ok v
def Jh (v v1:Vw) (stroke:Bool):Except Int Vw:=if v.path.list.length > 0/\stroke=true then (do let p <- HM v.s;Fu v1 (Fx 3 v.path.list v.s.stroke p v.s.clips)) else .ok v1
def FG (v:Vw):Except Int (List Bv):=if v.clip > 0 then (do
   CH (decide (v.path.list.length > 0))
   H6 (decide (v.s.clips.length<16))
   return v.s.clips++[(⟨none,v.path.list,0,decide (v.clip=2)⟩:Bv)])
  else .ok v.s.clips
def DK (v:Vw) (fill:Int) (stroke:Bool):Except Int Vw:=do
 let v1 <- M2 v fill
 let v2 <- Jh v v1 stroke
 let cl <- FG v
 return { v2 with s:={ v.s with clips:=cl },clip:=0,path:=I9 }
def Ns (v:Vw):Except Int Vw:=do let p <- D6 (Ge 4096 v.path);return { v with path:=p }
def IC (v:Vw) (op:l8_):Except Int Vw:=if op=[115]\/op=[98]\/op=[98,42] then Ns v else .ok v
def J3 (v:Vw) (args:List PV) (op:l8_):Except Int Vw:=do
 let _ <- Dg args 0
 let v1 <- IC v op
 if op=[83]\/op=[115] then DK v1 0 true
 else if op=[102]\/op=[70] then DK v1 1 false
 else if op=[102,42] then DK v1 2 false
 else if op=[66]\/op=[98] then DK v1 1 true
 else if op=[66,42]\/op=[98,42] then DK v1 2 true
 else DK v1 0 false
def Do (x:Int):Int:=min (max x 0) 65536
def EG (args:List PV) (n:Nat):Except Int C6:=do
 let l <- Dg args n
 return ⟨n,Do (l.getD 0 0),Do (l.getD 1 0),Do (l.getD 2 0),Do (l.getD 3 0)⟩
def Eg (v:Vw) (args:List PV) (op:l8_):Except Int Vw :=
 if op=[103] then do let c <- EG args 1;return { v with s:={ v.s with fill:=c } }
 else if op=[114,103] then do let c <- EG args 3;return { v with s:={ v.s with fill:=c } }
 else if op=[107] then do let c <- EG args 4;return { v with s:={ v.s with fill:=c } }
 else if op=[71] then do let c <- EG args 1;return { v with s:={ v.s with stroke:=c } }
 else if op=[82,71] then do let c <- EG args 3;return { v with s:={ v.s with stroke:=c } }
 else do let c <- EG args 4;return { v with s:={ v.s with stroke:=c } }
def PK:List PV->Except Int (List Int)
 | []=>.ok []
 | o::r=>do CH ((Ep o).2 && decide ((Ep o).1 ≥ 0));let l <- PK r;return (Ep o).1::l
def Oe (v:Vw) (args:List PV):Except Int Vw:=match args with
 | [a,b]=>do
  CH (decide (N9 a=6))
  CH ((Ep b).2 && decide ((Ep b).1 ≥ 0))
  let l <- PK (N8 a)
  CH (decide (l.length<=11) && (decide (l.length=0) || decide (FM l > 0)))
  return { v with s:={ v.s with pen:={ v.s.pen with pfDash:=none,fDash:=l,cfDash:=0,fPhase:=(Ep b).1 } } }
 | _=>.error 22
def HD (v:Vw) (args:List PV) (op:l8_):Except Int Vw :=
 if op=[119] then do let l <- Dg args 1;CH (decide (l.getD 0 0 ≥ 0));return { v with s:={ v.s with pen:={ v.s.pen with fWidth:=l.getD 0 0 } } }
 else if op=[74] then do let n <- J0 args;return { v with s:={ v.s with pen:={ v.s.pen with fCap:=n } } }
 else if op=[106] then do let n <- J0 args;return { v with s:={ v.s with pen:={ v.s.pen with fJoin:=n } } }
 else if op=[77] then do let l <- Dg args 1;CH (decide (l.getD 0 0 ≥ 65536));return { v with s:={ v.s with pen:={ v.s.pen with fMiter:=l.getD 0 0 } } }
 else Oe v args
def FT (v:Vw) (args:List PV) (op:l8_):Except Int Vw :=
 if op=[113] then do let _ <- Dg args 0;H6 (decide (v.saved.length<32));return { v with saved:=v.s::v.saved }
 else if op=[81] then do
  let _ <- Dg args 0
  match v.saved with
  | []=>.error 22
  | s::r=>return { v with s:=s,saved:=r }
 else do let m <- Sd args;let c <- LB m v.s.ctm;return { v with s:={ v.s with ctm:=c } }
def Kp (v:Vw) (p:CP):Vw:={ v with path:=p }
def Gj (v:Vw) (args:List PV) (op:l8_):Except Int Vw :=
 if op=[109] then do let l <- Dy v.s.ctm (<- Dg args 2);return Kp v (<- D6 (GC 4096 v.path (l.getD 0 Fv)))
 else if op=[108] then do let l <- Dy v.s.ctm (<- Dg args 2);return Kp v (<- D6 (Fa 4096 v.path (l.getD 0 Fv)))
 else if op=[99] then do let l <- Dy v.s.ctm (<- Dg args 6);return Kp v (<- D6 (HR 4096 v.path (l.getD 0 Fv) (l.getD 1 Fv) (l.getD 2 Fv)))
 else if op=[118] then do let l <- Dy v.s.ctm (<- Dg args 4);CH (decide (v.path.list.length≠0));return Kp v (<- D6 (HR 4096 v.path v.path.now (l.getD 0 Fv) (l.getD 1 Fv)))
 else if op=[121] then do let l <- Dy v.s.ctm (<- Dg args 4);return Kp v (<- D6 (HR 4096 v.path (l.getD 0 Fv) (l.getD 1 Fv) (l.getD 1 Fv)))
 else if op=[104] then do let _ <- Dg args 0;Ns v
 else do
  let n <- Dg args 4
  let x <- IO (n.getD 0 0) (n.getD 2 0)
  let y <- IO (n.getD 1 0) (n.getD 3 0)
  let l <- Dy v.s.ctm [n.getD 0 0,n.getD 1 0,x,n.getD 1 0,x,y,n.getD 0 0,y]
  let p0 <- D6 (GC 4096 v.path (l.getD 0 Fv))
  let p1 <- D6 (Fa 4096 p0 (l.getD 1 Fv))
  let p2 <- D6 (Fa 4096 p1 (l.getD 2 Fv))
  let p3 <- D6 (Fa 4096 p2 (l.getD 3 Fv))
  return Kp v (<- D6 (Ge 4096 p3))
structure LE where
 name:l8_
 font:Int
def ID (fs:List LE) (v:Vw) (args:List PV):Except Int Vw:=match args with
 | [a,b]=>do
  CH (decide (N9 a=4))
  CH (Ep b).2
  match fs.find? (λf=>decide (f.name=SV a)) with
  | none=>.error 26
  | some f=>return { v with s:={ v.s with font:=f.font,size:=(Ep b).1 } }
 | _=>.error 22
def KE (sum:Int->l8_->Int) (v:Vw) (b:l8_):M6 × Bool :=
 let n:=sum v.s.font b * 65536
 let w:=if 2 * (n % 1000) ≥ 1000 then n / 1000+1 else n / 1000
 let t:=D8 (Jj (Fz w v.s.size).1 0) v.text
 (t.1,!(decide ((Fz w v.s.size).2=0) && decide (t.2=0)))
def Qu (sum:Int->l8_->Int) (v:Vw) (b:l8_):Except Int Vw:=do
 let m1 <- LB (m6S v.s.size v.s.size) v.text
 let m <- LB m1 v.s.ctm
 let v1 <- Fu v (HX v.s.fill v.s.clips v.s.font m b)
 return { v1 with lost:=(KE sum v b).2,text:=(KE sum v b).1 }
def FE (sum:Int->l8_->Int) (v:Vw) (args:List PV):Except Int Vw:=match args with
 | [a]=>do
  CH (decide (N9 a=5) && decide (v.s.font ≥ 0) && !v.lost)
  if SV a=[] then .ok v else Qu sum v (SV a)
 | _=>.error 22
def Jv (sum:Int->l8_->Int) (fs:List LE) (v:Vw) (args:List PV) (op:l8_):Except Int Vw:=do
 CH (decide (v.inText=true↔op≠[66,84]))
 if op=[66,84] then do let _ <- Dg args 0;return { v with inText:=true,lost:=false,text:=Nw,line:=Nw }
 else if op=[69,84] then do let _ <- Dg args 0;return { v with inText:=false }
 else if op=[84,102] then ID fs v args
 else if op=[84,109] then do let m <- Sd args;return { v with line:=m,text:=m,lost:=false }
 else if op=[84,100] then do let n <- Dg args 2;let m <- LB (Jj (n.getD 0 0) (n.getD 1 0)) v.line;return { v with line:=m,text:=m,lost:=false }
 else FE sum v args
def GB:List (l8_):=[[119],[74],[106],[77],[100]]
def GE:List (l8_):=[[103],[114,103],[107],[71],[82,71],[75]]
def GS:List (l8_):=[[66,84],[69,84],[84,102],[84,109],[84,100],[84,106]]
def F6:List (l8_):=[[113],[81],[99,109],[109],[108],[99],[118],[121],[104],[114,101],[83],[115],[102],[70],[102,42],[66],[66,42],[98],[98,42],[110],[87],[87,42]]
def Ly (sum:Int->l8_->Int) (fs:List LE) (v:Vw) (args:List PV) (op:l8_):Except Int Vw :=
 if op∈GB then HD v args op else if op∈GE then Eg v args op else if op∈GS then Jv sum fs v args op
 else if op ∉ F6 then .error 23
 else do
  CH (!v.inText)
  if F6.idxOf op<3 then FT v args op
  else if F6.idxOf op<10 then Gj v args op
  else if op=[87]\/op=[87,42] then do let _ <- Dg args 0;return { v with clip:=op.length }
  else J3 v args op
end
section
theorem BZ  {x:Except Int α} {f:α->Except Int β} {b:β} (h:(x>>=f)=.ok b):∃ a,x=.ok a/\f a=.ok b:=by
 cases x with
 | error k=>cases h
 | ok a=>exact ⟨a,rfl,h⟩
theorem ET  {a b:α} (h:(pure a:Except Int α)=.ok b):a=b:=by cases h;rfl
structure I5 (p:CP):Prop where
 snd:E4 0 p.list=true
 len:p.list.length<=4096
 start:C5 p.start=true
 now:C5 p.now=true
def O3 (k:Int) (l:List CK):Int:=match l.getLast? with | none=>k | some s=>s.fKind
theorem XF (k:Int) (s:CK) (l:List CK):O3 k (s::l)=O3 s.fKind l:=by
 unfold O3
 cases l with
 | nil=>rfl
 | cons a r=>rw [List.getLast?_cons_cons];cases h:(a::r).getLast? with
  | none=>simp at h
  | some x=>rfl
theorem FU (s:CK):∀ (l:List CK) (k:Int),E4 k (l++[s])=(E4 k l && Ij s (O3 k l))
 | [],k=>by show (Ij s k && true)=(true && Ij s k);simp
 | a::r,k=>by
  rw [GR]
  show (Ij a k && E4 a.fKind (r++[s]))=((Ij a k && E4 a.fKind r) && Ij s (O3 k (a::r)))
  rw [FU s r,XF,Bool.and_assoc]
theorem Q7 (l:List CK):O3 0 l=Ib l:=rfl
theorem WW {a:BQ} {k:Int} (h:C5 a=true) (hk:k≠1):Ij (Gp 1 a) k=true:=by
 unfold Ij Gp
 simp only [show HL 1=1 from rfl,Sj,A6,h,Cw,List.all_nil,Int.toNat_one,List.drop_succ_cons,TE]
 simp [hk,Fv,C5,Ao,JN]
theorem A60 {a:BQ} {k:Int} (h:C5 a=true) (h0:k≠0) (h4:k≠4):Ij (Gp 2 a) k=true:=by
 unfold Ij Gp
 simp only [show HL 2=1 from rfl,Sj,h,Cw,List.all_nil,Int.toNat_one,List.drop_succ_cons,TE]
 simp [h0,h4,Fv,C5,Ao,JN]
theorem A5Z {a b c:BQ} {k:Int} (h:(C5 a && C5 b && C5 c)=true) (h0:k≠0) (h4:k≠4):Ij ⟨3,a,b,c⟩ k=true:=by
 simp only [A3] at h
 unfold Ij
 simp only [show HL 3=3 from rfl,Sj,h.1.1,h.1.2,h.2,Cw,List.all_nil]
 simp [h0,h4]
theorem A5Y {k:Int} (h0:k≠0) (h4:k≠4):Ij (Gp 4 Fv) k=true:=by
 unfold Ij Gp
 simp only [show HL 4=0 from rfl,Sj,Cw,List.all_nil]
 simp [h0,h4,Fv,C5,Ao,JN]
theorem I5.add {p:CP} {q:BQ} {l:List CK} (h:I5 p) (hq:C5 q=true) (hl:E4 0 (p.list++l)=true):I5 (G4 4096 p q l).1:=by
 unfold G4;split
 · exact h
 · exact ⟨hl,by rw [A5];omega,h.start,hq⟩
theorem I5.draw {p:CP} {s:CK} {q:BQ} (h:I5 p) (hq:C5 q=true) (hs:∀ k,k≠0->k≠4->Ij s k=true):I5 (Fw 4096 p s q).1:=by
 unfold Fw
 split
 · exact h
 ·
  split
  ·
   rename_i h4
   refine h.add hq ?_
   rw [show p.list++[Gp 1 p.now,s]=(p.list++[Gp 1 p.now])++[s] by simp,FU,FU,h.snd,Q7,WW h.now (by rw [h4];decide)]
   rw [show O3 0 (p.list++[Gp 1 p.now])=1 by unfold O3;rw [List.getLast?_concat];rfl,hs 1 dD dD];rfl
  ·
   refine h.add hq ?_
   rw [FU,h.snd,Q7,hs _ aS aS];rfl
theorem WV (l:List CK) (k:Int) (h:E4 k l=true):E4 k l.dropLast=true:=by
 rcases List.eq_nil_or_concat l with rfl | ⟨m,y,rfl⟩
 · rfl
 ·
  rw [List.concat_eq_append] at h ⊢
  rw [List.dropLast_concat]
  rw [FU,A3] at h;exact h.1
theorem VR (l:List CK) (h:E4 0 l=true) (h1:Ib l=1):O3 0 l.dropLast≠1:=by
 rcases List.eq_nil_or_concat l with rfl | ⟨m,y,rfl⟩
 · cases h1
 ·
  rw [List.concat_eq_append] at h h1 ⊢
  rw [List.dropLast_concat]
  rw [FU,A3] at h
  have hy:y.fKind=1:=by unfold Ib at h1;rw [List.getLast?_concat] at h1;exact h1
  intro hc
  have:=h.2
  unfold Ij at this
  rw [hc,hy] at this
  simp [Sj] at this
theorem I5.move {p:CP} {a:BQ} (h:I5 p):I5 (GC 4096 p a).1:=by
 unfold GC
 split
 · exact h
 ·
  rename_i hf
  have hf:C5 a=true:=by simpa using hf
  split
  ·
   rename_i h1
   refine ⟨?_,by simp only [A5,List.length_dropLast,CD];have:=h.len;omega,hf,hf⟩
   show E4 0 (p.list.dropLast++[Gp 1 a])=true
   rw [FU,WV _ _ h.snd,WW hf (VR _ h.snd h1)];rfl
  ·
   rename_i h1
   have hA:=h.add (q:=a) (l:=[Gp 1 a]) hf (by rw [FU,h.snd,Q7,WW hf h1];rfl)
   simp only
   split
   · exact ⟨hA.snd,hA.len,hf,hA.now⟩
   · exact hA
theorem I5.line {p:CP} {a:BQ} (h:I5 p):I5 (Fa 4096 p a).1:=by
 unfold Fa
 split
 · exact h
 ·
  rename_i hf
  have hf:C5 a=true:=by simpa using hf
  exact h.draw hf λk b c=>A60 hf b c
theorem I5.curve {p:CP} {a b c:BQ} (h:I5 p):I5 (HR 4096 p a b c).1:=by
 unfold HR
 split
 · exact h
 ·
  rename_i hf
  have hf:(C5 a && C5 b && C5 c)=true:=by
   cases hq:(C5 a && C5 b && C5 c) with
   | true=>rfl
   | false=>exact CM hq hf
  have hc:C5 c=true:=by simp only [A3] at hf;exact hf.2
  exact h.draw hc λk d e=>A5Z hf d e
theorem I5.close {p:CP} (h:I5 p):I5 (Ge 4096 p).1:=by
 unfold Ge
 split
 · exact h
 ·
  rename_i h0
  refine h.add h.start ?_
  rw [FU,h.snd,Q7,A5Y (λe=>h0 (.inl e)) (λe=>h0 (.inr e))];rfl
theorem I5.zero:I5 I9:=⟨rfl,Gg _,by decide,by decide⟩
theorem Gz {r:CP × Int} {p:CP} (h:D6 r=.ok p):p=r.1:=by
 unfold D6 at h
 split at h
 · cases h;rfl
 · split at h <;> cases h
theorem XL {n:Int} (h:(Ic n).2=0):Ao (Ic n).1=true:=by
 unfold Ic at h ⊢
 split at h
 · cases h
 · rename_i h1;rw [A1 h1];exact A7L (by simp only;omega) (by simp only;omega)
theorem Mw {o:PV} (h:(Ep o).2=true):Ao (Ep o).1=true:=by
 unfold Ep at h ⊢
 split at h
 · rename_i h3;rw [A6 h3];exact h
 ·
  rename_i h3
  rw [A1 h3]
  split at h
  · rename_i h2;rw [A6 h2];exact XL (by simpa using h)
  · cases h
theorem Fl {args:List PV} {n:Nat} {l:List Int} (h:Dg args n=.ok l):l.length=n/\∀ x∈l,Ao x=true:=by
 unfold Dg at h
 split at h
 ·
  rename_i hc
  cases h
  refine ⟨by rw [BD];exact hc.1,λx hx=>?_⟩
  obtain ⟨o,ho,rfl⟩:=IE.1 hx
  exact Mw (Au.1 hc.2 o ho)
 · cases h
theorem Tl {l:List Int} (h:∀ x∈l,Ao x=true) (i:Nat):Ao (l.getD i 0)=true:=by
 rw [BW]
 cases hq:l[i]? with
 | none=>rfl
 | some x=>exact h x (List.mem_of_getElem? hq)
theorem NP (x:Int):0<=Do x/\Do x<=65536:=by unfold Do;omega
theorem A0o {l:List Int} (h:l.length<=i):l.getD i 0=0:=by
 rw [BW,AK h];rfl
theorem Tw {args:List PV} {n:Nat} {c:C6} (h:EG args n=.ok c) (hn:n=1\/n=3\/n=4):Fc c=true:=by
  unfold EG at h
  obtain ⟨l,hl,h⟩:=BZ h
  obtain ⟨k,-⟩:=Fl hl
  have h:=ET h
  subst h
  unfold Fc J9 J1
  simp only [Cl,AX,Hq]
  have a:=NP (l.getD 0 0);have d:=NP (l.getD 1 0);have e:=NP (l.getD 2 0);have f:=NP (l.getD 3 0)
  have z:∀ i,l.length<=i->Do (l.getD i 0)=0:=λi hi=>by rw [A0o hi];rfl
  have m:1<=l.length:=by omega
  rcases hn with rfl | rfl | rfl
  · have g := z 1 oO; have j := z 2 oO; have b := z 3 oO
    generalize Do (l.getD 0 0)=a0 at *;generalize Do (l.getD 1 0)=a1 at *;generalize Do (l.getD 2 0)=a2 at *;generalize Do (l.getD 3 0)=a3 at *
    subst g j b;simp [a]
  · have b := z 3 oO
    generalize Do (l.getD 0 0)=a0 at *;generalize Do (l.getD 1 0)=a1 at *;generalize Do (l.getD 2 0)=a2 at *;generalize Do (l.getD 3 0)=a3 at *
    subst b;simp [a,d,e]
  · generalize Do (l.getD 0 0) = a0 at *; generalize Do (l.getD 1 0) = a1 at *; generalize Do (l.getD 2 0) = a2 at *; generalize Do (l.getD 3 0) = a3 at *
    simp [a,d,e,f]
structure A3p (s:RP):Prop where
 fill:Fc s.fill=true
 stroke:Fc s.stroke=true
 pen:Kw s.pen=true
 clips:EQ s.clips=true
 font:-1<=s.font/\s.font<=13
structure Ez (v:Vw):Prop where
 s:A3p v.s
 saved:∀ s∈v.saved,A3p s
 path:I5 v.path
 items:∀ it∈v.items,Et it=true
theorem W7 {a b:M6} (h:(D8 a b).2=0):Ao (D8 a b).1.a=true/\Ao (D8 a b).1.b=true/\Ao (D8 a b).1.c=true/\Ao (D8 a b).1.d=true/\Ao (D8 a b).1.e=true/\Ao (D8 a b).1.f=true:=by
 have hp:∀ (e x y:Int),Ao x=true->Ao y=true->Ao (Io e x y).1.1=true/\Ao (Io e x y).1.2=true:=λe x y hx hy=>by
  unfold Io;split
  · exact ⟨rfl,rfl⟩
  · exact ⟨hx,hy⟩
 have hd:∀ x y,Ao (Ip b x y).1.1=true/\Ao (Ip b x y).1.2=true:=λx y=>hp _ _ _ (Mi _ _ _ _ _ _) (Mi _ _ _ _ _ _)
 have ha:∀ x y,Ao (FY b x y).1.1=true/\Ao (FY b x y).1.2=true:=λx y=>hp _ _ _ (Mi _ _ _ _ _ _) (Mi _ _ _ _ _ _)
 unfold D8
 simp only
 split
 · exact ⟨rfl,rfl,rfl,rfl,rfl,rfl⟩
 ·
  split
  · exact ⟨rfl,rfl,rfl,rfl,rfl,rfl⟩
  ·
   split
   · exact ⟨rfl,rfl,rfl,rfl,rfl,rfl⟩
   · exact ⟨(hd _ _).1,(hd _ _).2,(hd _ _).1,(hd _ _).2,(ha _ _).1,(ha _ _).2⟩
theorem A4b {a:Int} (h:0<=a):0<=Lo a 65536:=by
 have b:=Int.tdiv_nonneg h (show (0:Int)<=65536 by decide)
 have c:=Int.tmod_nonneg 65536 h
 unfold Lo
 split
 · omega
 · split <;> omega
theorem U7 {a b:Int} (ha:0<=a) (hb:0<=b):0<=(Fz a b).1:=by
 unfold Fz;split
 ·
  unfold LI;split
  · exact A4b (Int.mul_nonneg ha hb)
  · exact Int.le_refl _
 · exact Int.le_refl _
theorem Yq:∀ (l:List Int) (n r:Int),0<=r->(∀ b∈l,0<=b)->0<=NI l n r
 | [],_,_,h,_=>h
 | b::l,n,r,h,hl=>by
  rw [NI]
  refine Yq l n _ ?_ λx hx=>hl x (by simp [hx])
  have:=hl b (by simp)
  split <;> omega
theorem A3T (a:Int):0<=UQ a:=by
 have:=Yq ES (a * 65536) 0 (Int.le_refl _) dD
 unfold UQ
 simp only
 split <;> omega
theorem A1w (m:M6):0<=(Ik m).1:=by
 unfold Ik
 simp only
 generalize (if (Rz m).1<0 then ((IH 0 (Rz m).1).1,EH (Rz m).2 (IH 0 (Rz m).1).2) else Rz m)=d
 split
 · exact Int.le_refl _
 ·
  unfold LL;split
  · exact A3T _
  · exact Int.le_refl _
theorem ND {k n x:Int} (h:Gw k n=.ok x):x=(Fz n k).1:=by
 unfold Gw at h;split at h
 · cases h;rfl
 · cases h
theorem SH {k:Int} (hk:0<=k):∀ {l m:List Int},Hs k l=.ok m->(∀ n∈l,0<=n)->m.length=l.length/\m.all Id=true
 | [],m,h,_=>by cases h;exact ⟨rfl,rfl⟩
 | n::r,m,h,hn=>by
  rw [Hs] at h
  obtain ⟨x,hx,h⟩:=BZ h
  obtain ⟨q,hq,h⟩:=BZ h
  have h:=ET h
  subst h
  have ih:=SH hk hq λy hy=>hn y (by simp [hy])
  rw [ND hx]
  refine ⟨by simp [ih.1],?_⟩
  rw [Cw,ih.2,Bool.and_true]
  unfold Id
  rw [KD,Bool.and_true]
  exact Aj (U7 (hn n (by simp)) hk)
theorem Ha (x:Dz):Kw x=true↔(0<=x.fWidth/\Ao x.fWidth=true/\0<=x.fCap/\x.fCap<=2/\0<=x.fJoin/\x.fJoin<=2/\65536<=x.fMiter/\Ao x.fMiter=true/\0<=x.fPhase/\Ao x.fPhase=true/\x.fDash.length<=11)/\x.fDash.all Id=true/\(x.fDash.isEmpty || x.fDash.any λn=>decide (0<n))=true:=by
 unfold Kw Kv
 simp only [A3,AH,E1,Aq,BI]
 constructor
 ·
  rintro ⟨⟨⟨⟨⟨⟨⟨⟨⟨⟨⟨⟨g,d⟩,i⟩,j⟩,k⟩,l⟩,m⟩,e⟩,o⟩,a⟩,f⟩,b⟩,c⟩
  exact ⟨⟨by omega,d,by omega,by omega,by omega,by omega,by omega,e,by omega,a,by omega⟩,b,c⟩
 ·
  rintro ⟨⟨g,d,i,j,k,l,m,e,o,a,f⟩,b,c⟩
  exact ⟨⟨⟨⟨⟨⟨⟨⟨⟨⟨⟨⟨by omega,d⟩,by omega⟩,by omega⟩,by omega⟩,by omega⟩,by omega⟩,e⟩,by omega⟩,a⟩,by omega⟩,b⟩,c⟩
theorem R9 {b:Bool} {u:Unit} (h:CH b=.ok u):b=true:=by
 unfold CH at h;split at h
 · assumption
 · cases h
theorem A7i {b:Bool} {u:Unit} (h:H6 b=.ok u):b=true:=by
 unfold H6 at h;split at h
 · assumption
 · cases h
theorem A1k (l:List Int):FM l=A5V l:=rfl
theorem X4 {s:RP} {p:Dz} (h:A3p s) (hp:HM s=.ok p):Kw p=true:=by
 unfold HM at hp
 obtain ⟨k,hk,hp⟩:=BZ hp
 have hk:k=(Ik s.ctm).1:=by
  unfold KX at hk
  split at hk
  · cases hk;rfl
  · cases hk
 have b:0<=k:=hk▸A1w _
 obtain ⟨w,hw,hp⟩:=BZ hp
 obtain ⟨ph,g,hp⟩:=BZ hp
 obtain ⟨d,hd,hp⟩:=BZ hp
 have hp:=ET hp
 obtain ⟨⟨i,C,j,l,m,o,q,t,x,y,A⟩,u,B⟩:=(Ha _).1 h.pen
 have f:=Au.1 u
 obtain ⟨hl,c⟩:=SH b hd λn hn=>by
  have:=f n hn
  unfold Id at this
  simp only [A3,Ab] at this
  exact this.1
 have v:=OD d (Au.1 c)
 rw [ND hw,ND g] at hp
 subst hp
 split
 · exact (Ha _).2 ⟨⟨U7 i b,KD _ _,j,l,m,o,q,t,Int.le_refl _,rfl,Gg _⟩,rfl,rfl⟩
 ·
  rename_i hn
  refine (Ha _).2 ⟨⟨U7 i b,KD _ _,j,l,m,o,q,t,U7 x b,KD _ _,by show d.length<=11;omega⟩,c,?_⟩
  show (d.isEmpty || d.any λn=>decide (0<n))=true
  cases d with
  | nil=>rfl
  | cons a r =>
   have:FM (a::r)≠0:=λe=>hn ⟨e,by simp⟩
   rw [A1k,UN] at this
   rw [v.2.2.1 oO,Bool.or_true]
theorem VK {kind:Int} {l:List CK} {c:C6} {p:Dz} {cl:List Bv} (hk:(kind=1\/kind=2)/\p=JK\/kind=3/\Kw p=true) (hc:Fc c=true) (hcl:EQ cl=true) (hl:l.length > 0) (hp:E4 0 l=true) (hn:l.length<=4096):Et (Fx kind l c p cl)=true:=by
 have hr:LP (Fx kind l c p cl)=true:=by
  unfold LP Fx OW Fk
  simp [hp,hn]
  intro h;rw [h] at hl;simp at hl
 unfold Et
 rw [show (Fx kind l c p cl).fColor=c from rfl,show (Fx kind l c p cl).fClips=cl from rfl,show (Fx kind l c p cl).fKind=kind from rfl,show (Fx kind l c p cl).fPen=p from rfl,hc,hcl,hr]
 rcases hk with ⟨hk,rfl⟩ | ⟨rfl,hp⟩
 · rw [A1 oO,A6 hk];rfl
 · rw [A1 oO,A1 oO,A6 rfl,hp];rfl
theorem A1e {c:C6} {cl:List Bv} {f:Int} {a b:M6} {t:l8_} (he:(D8 a b).2=0) (hc:Fc c=true) (hcl:EQ cl=true) (hf:0<=f/\f<=13) (ht:1<=t.length/\t.length<=65535):Et (HX c cl f (D8 a b).1 t)=true:=by
 obtain ⟨d,e,g,i,j,k⟩:=W7 he
 unfold Et
 rw [show (HX c cl f (D8 a b).1 t).fColor=c from rfl,show (HX c cl f (D8 a b).1 t).fClips=cl from rfl,show (HX c cl f (D8 a b).1 t).fKind=4 from rfl,hc,hcl,A6 rfl]
 have hl:He (HX c cl f (D8 a b).1 t)=true:=by
  unfold He HX E8
  simp [d,e,g,i,j,k,hf]
  omega
 rw [hl];rfl
end
section
theorem RL {v v1:Vw} {it:AQ} (h:Ez v) (hi:Et it=true) (ho:Fu v it=.ok v1):Ez v1/\v1.s=v.s/\v1.path=v.path:=by
 unfold Fu at ho
 obtain ⟨_,-,ho⟩:=BZ ho
 have ho:=ET ho
 subst ho
 refine ⟨⟨h.s,h.saved,h.path,λx hx=>?_⟩,rfl,rfl⟩
 rcases Ba.1 hx with hx | hx
 · exact h.items x hx
 · rw [Am.1 hx];exact hi
theorem Nr {v v1:Vw} (h:Ez v) (ho:Ns v=.ok v1):Ez v1:=by
 unfold Ns at ho
 obtain ⟨p,hp,ho⟩:=BZ ho
 have ho:=ET ho
 subst ho
 rw [Gz hp]
 exact ⟨h.s,h.saved,h.path.close,h.items⟩
theorem GL {v v1:Vw} {st:Bool} (h:Ez v) (hf:fill=0\/fill=1\/fill=2) (ho:DK v fill st=.ok v1):Ez v1:=by
 unfold DK at ho
 obtain ⟨a,ha,ho⟩:=BZ ho
 obtain ⟨b,hb,ho⟩:=BZ ho
 obtain ⟨c,hc,ho⟩:=BZ ho
 have ho:=ET ho
 have e:Ez a/\a.s=v.s:=by
  unfold M2 at ha
  split at ha
  ·
   rename_i hq
   have:=RL h (VK (p:=JK) (.inl ⟨by omega,rfl⟩) h.s.fill h.s.clips hq.1 h.path.snd h.path.len) ha
   exact ⟨this.1,this.2.1⟩
  · cases ha;exact ⟨h,rfl⟩
 have f:Ez b:=by
  unfold Jh at hb
  split at hb
  ·
   rename_i hq
   obtain ⟨p,hp,hb⟩:=BZ hb
   exact (RL e.1 (VK (.inr ⟨rfl,X4 h.s hp⟩) h.s.stroke h.s.clips hq.1 h.path.snd h.path.len) hb).1
  · cases hb;exact e.1
 have i:EQ c=true:=by
  unfold FG at hc
  split at hc
  ·
   obtain ⟨_,hw,hc⟩:=BZ hc
   obtain ⟨_,hr,hc⟩:=BZ hc
   have hc:=ET hc
   subst hc
   have hw:=dT (R9 hw)
   have hr:=dT (A7i hr)
   have d:=h.s.clips
   unfold EQ at d ⊢
   simp only [A3,Ab] at d
   rw [List.all_append,d.2,A5,CD]
   have g:G5 (⟨none,v.path.list,0,decide (v.clip=2)⟩:Bv)=true:=by
    unfold G5 Fk
    rw [h.path.snd,Aj h.path.len]
    cases hq:v.path.list with
    | nil=>rw [hq] at hw;simp at hw
    | cons x r=>rfl
   rw [Cw,g,List.all_nil]
   simp only [Bool.and_true,Ab]
   omega
  · cases hc;exact h.s.clips
 subst ho
 exact ⟨⟨h.s.fill,h.s.stroke,h.s.pen,i,h.s.font⟩,f.saved,I5.zero,f.items⟩
theorem Xv {v v1:Vw} {args:List PV} {op:l8_} (h:Ez v) (ho:J3 v args op=.ok v1):Ez v1:=by
 unfold J3 at ho
 obtain ⟨_,-,ho⟩:=BZ ho
 obtain ⟨a,ha,ho⟩:=BZ ho
 have b:Ez a:=by
  unfold IC at ha
  split at ha
  · exact Nr h ha
  · cases ha;exact h
 split at ho
 · exact GL b oO ho
 ·
  split at ho
  · exact GL b oO ho
  ·
   split at ho
   · exact GL b oO ho
   ·
    split at ho
    · exact GL b oO ho
    ·
     split at ho
     · exact GL b oO ho
     · exact GL b oO ho
theorem Ez.setS {v:Vw} {s:RP} (h:Ez v) (hs:A3p s):Ez { v with s:=s }:=⟨hs,h.saved,h.path,h.items⟩
theorem W8 {v v1:Vw} {args:List PV} {op:l8_} (h:Ez v) (ho:Eg v args op=.ok v1):Ez v1:=by
 unfold Eg at ho
 have hF:∀ {n:Nat},(n=1\/n=3\/n=4)->(do let c <- EG args n;return { v with s:={ v.s with fill:=c } }:Except Int Vw)=.ok v1->Ez v1:=λhn ho=>by
  obtain ⟨c,hc,ho⟩:=BZ ho
  have ho:=ET ho
  subst ho
  exact h.setS ⟨Tw hc hn,h.s.stroke,h.s.pen,h.s.clips,h.s.font⟩
 have hS:∀ {n:Nat},(n=1\/n=3\/n=4)->(do let c <- EG args n;return { v with s:={ v.s with stroke:=c } }:Except Int Vw)=.ok v1->Ez v1:=λhn ho=>by
  obtain ⟨c,hc,ho⟩:=BZ ho
  have ho:=ET ho
  subst ho
  exact h.setS ⟨h.s.fill,Tw hc hn,h.s.pen,h.s.clips,h.s.font⟩
 split at ho
 · exact hF oO ho
 ·
  split at ho
  · exact hF oO ho
  ·
   split at ho
   · exact hF oO ho
   ·
    split at ho
    · exact hS oO ho
    ·
     split at ho
     · exact hS oO ho
     · exact hS oO ho
theorem Yt:∀ {l:List PV} {m:List Int},PK l=.ok m->m.all Id=true
 | [],m,h=>by cases h;rfl
 | o::r,m,h=>by
  rw [PK] at h
  obtain ⟨_,hw,h⟩:=BZ h
  obtain ⟨q,hq,h⟩:=BZ h
  have h:=ET h
  subst h
  have hw:=R9 hw
  simp only [A3,Ab] at hw
  rw [Cw,Yt hq,Bool.and_true]
  unfold Id
  rw [Mw hw.1,Bool.and_true]
  exact Aj hw.2
theorem Ez.setPen {v:Vw} {p:Dz} (h:Ez v) (hp:Kw p=true):Ez { v with s:={ v.s with pen:=p } }:=h.setS ⟨h.s.fill,h.s.stroke,hp,h.s.clips,h.s.font⟩
theorem A0B {v v1:Vw} {args:List PV} (h:Ez v) (ho:Oe v args=.ok v1):Ez v1:=by
 unfold Oe at ho
 split at ho
 ·
  obtain ⟨_,-,ho⟩:=BZ ho
  obtain ⟨_,hb,ho⟩:=BZ ho
  obtain ⟨l,hl,ho⟩:=BZ ho
  obtain ⟨_,hs,ho⟩:=BZ ho
  have ho:=ET ho
  subst ho
  have hb:=R9 hb
  have hs:=R9 hs
  simp only [A3,Bo,Ab] at hb hs
  have hd:=Yt hl
  have b:=OD l (Au.1 hd)
  obtain ⟨⟨c,d,e,f,g,i,j,k,-,-,-⟩,-,-⟩:=(Ha _).1 h.s.pen
  refine h.setPen ((Ha _).2 ⟨⟨c,d,e,f,g,i,j,k,hb.2,Mw hb.1,hs.1⟩,hd,?_⟩)
  show (l.isEmpty || l.any λn=>decide (0<n))=true
  rcases hs.2 with a | a
  · rw [Cz a];rfl
  ·
   rw [A1k,UN] at a
   rw [b.2.2.1 oO,Bool.or_true]
 · cases ho
theorem SD {args:List PV} {n:Int} (h:J0 args=.ok n):0<=n/\n<=2:=by
 unfold J0 at h
 split at h
 ·
  split at h
  · rename_i hq;cases h;exact hq.2
  · cases h
 · cases h
theorem ZV {v v1:Vw} {args:List PV} {op:l8_} (h:Ez v) (ho:HD v args op=.ok v1):Ez v1:=by
 unfold HD at ho
 obtain ⟨⟨f,g,i,j,k,m,o,q,e,a,b⟩,c,d⟩:=(Ha _).1 h.s.pen
 split at ho
 ·
  obtain ⟨l,hl,ho⟩:=BZ ho
  obtain ⟨_,hw,ho⟩:=BZ ho
  have ho:=ET ho
  subst ho
  exact h.setPen ((Ha _).2 ⟨⟨dT (R9 hw),Tl (Fl hl).2 0,i,j,k,m,o,q,e,a,b⟩,c,d⟩)
 ·
  split at ho
  ·
   obtain ⟨n,hn,ho⟩:=BZ ho
   have ho:=ET ho
   subst ho
   have hn:=SD hn
   exact h.setPen ((Ha _).2 ⟨⟨f,g,hn.1,hn.2,k,m,o,q,e,a,b⟩,c,d⟩)
  ·
   split at ho
   ·
    obtain ⟨n,hn,ho⟩:=BZ ho
    have ho:=ET ho
    subst ho
    have hn:=SD hn
    exact h.setPen ((Ha _).2 ⟨⟨f,g,i,j,hn.1,hn.2,o,q,e,a,b⟩,c,d⟩)
   ·
    split at ho
    ·
     obtain ⟨l,hl,ho⟩:=BZ ho
     obtain ⟨_,hw,ho⟩:=BZ ho
     have ho:=ET ho
     subst ho
     exact h.setPen ((Ha _).2 ⟨⟨f,g,i,j,k,m,dT (R9 hw),Tl (Fl hl).2 0,e,a,b⟩,c,d⟩)
    · exact A0B h ho
end
section
theorem UP {v v1:Vw} {args:List PV} {op:l8_} (h:Ez v) (ho:FT v args op=.ok v1):Ez v1:=by
 unfold FT at ho
 split at ho
 ·
  obtain ⟨_,-,ho⟩:=BZ ho
  obtain ⟨_,-,ho⟩:=BZ ho
  have ho:=ET ho
  subst ho
  refine ⟨h.s,λs hs=>?_,h.path,h.items⟩
  rcases Ar.1 hs with rfl | hs
  · exact h.s
  · exact h.saved s hs
 ·
  split at ho
  ·
   obtain ⟨_,-,ho⟩:=BZ ho
   split at ho
   · cases ho
   ·
    rename_i s r hr
    have ho:=ET ho
    subst ho
    exact ⟨h.saved s (by rw [hr];simp),λx hx=>h.saved x (by rw [hr];simp [hx]),h.path,h.items⟩
  ·
   obtain ⟨_,-,ho⟩:=BZ ho
   obtain ⟨_,-,ho⟩:=BZ ho
   have ho:=ET ho
   subst ho
   exact h.setS ⟨h.s.fill,h.s.stroke,h.s.pen,h.s.clips,h.s.font⟩
theorem Ez.setPath {v:Vw} {p:CP} (h:Ez v) (hp:I5 p):Ez (Kp v p):=⟨h.s,h.saved,hp,h.items⟩
theorem A0v {v v1:Vw} {args:List PV} {op:l8_} (h:Ez v) (ho:Gj v args op=.ok v1):Ez v1:=by
 unfold Gj at ho
 split at ho
 ·
  obtain ⟨_,-,ho⟩:=BZ ho
  obtain ⟨_,-,ho⟩:=BZ ho
  obtain ⟨p,hp,ho⟩:=BZ ho
  have ho:=ET ho
  subst ho
  rw [Gz hp];exact h.setPath h.path.move
 ·
  split at ho
  ·
   obtain ⟨_,-,ho⟩:=BZ ho
   obtain ⟨_,-,ho⟩:=BZ ho
   obtain ⟨p,hp,ho⟩:=BZ ho
   have ho:=ET ho
   subst ho
   rw [Gz hp];exact h.setPath h.path.line
  ·
   split at ho
   ·
    obtain ⟨_,-,ho⟩:=BZ ho
    obtain ⟨_,-,ho⟩:=BZ ho
    obtain ⟨p,hp,ho⟩:=BZ ho
    have ho:=ET ho
    subst ho
    rw [Gz hp];exact h.setPath h.path.curve
   ·
    split at ho
    ·
     obtain ⟨_,-,ho⟩:=BZ ho
     obtain ⟨_,-,ho⟩:=BZ ho
     obtain ⟨_,-,ho⟩:=BZ ho
     obtain ⟨p,hp,ho⟩:=BZ ho
     have ho:=ET ho
     subst ho
     rw [Gz hp];exact h.setPath h.path.curve
    ·
     split at ho
     ·
      obtain ⟨_,-,ho⟩:=BZ ho
      obtain ⟨_,-,ho⟩:=BZ ho
      obtain ⟨p,hp,ho⟩:=BZ ho
      have ho:=ET ho
      subst ho
      rw [Gz hp];exact h.setPath h.path.curve
     ·
      split at ho
      ·
       obtain ⟨_,-,ho⟩:=BZ ho
       exact Nr h ho
      ·
       obtain ⟨_,-,ho⟩:=BZ ho
       obtain ⟨_,-,ho⟩:=BZ ho
       obtain ⟨_,-,ho⟩:=BZ ho
       obtain ⟨_,-,ho⟩:=BZ ho
       obtain ⟨f,a,ho⟩:=BZ ho
       obtain ⟨g,b,ho⟩:=BZ ho
       obtain ⟨i,c,ho⟩:=BZ ho
       obtain ⟨j,d,ho⟩:=BZ ho
       obtain ⟨q,e,ho⟩:=BZ ho
       have ho:=ET ho
       subst ho
       have k:I5 f:=by rw [Gz a];exact h.path.move
       have l:I5 g:=by rw [Gz b];exact k.line
       have m:I5 i:=by rw [Gz c];exact l.line
       have o:I5 j:=by rw [Gz d];exact m.line
       rw [Gz e];exact h.setPath o.close
theorem We {fs:List LE} {v v1:Vw} {args:List PV} (hf:∀ f∈fs,0<=f.font/\f.font<=13) (h:Ez v) (ho:ID fs v args=.ok v1):Ez v1:=by
 unfold ID at ho
 split at ho
 ·
  obtain ⟨_,-,ho⟩:=BZ ho
  obtain ⟨_,-,ho⟩:=BZ ho
  split at ho
  · cases ho
  ·
   rename_i f hq
   have ho:=ET ho
   subst ho
   have:=hf f (List.mem_of_find?_eq_some hq)
   exact h.setS ⟨h.s.fill,h.s.stroke,h.s.pen,h.s.clips,by show -1<=f.font/\f.font<=13;omega⟩
 · cases ho
theorem A54 {a b m:M6} (h:LB a b=.ok m):(D8 a b).2=0/\m=(D8 a b).1:=by
 unfold LB at h
 split at h
 · cases h;exact ⟨by assumption,rfl⟩
 · cases h
theorem Ub  {v v1:Vw} {args:List PV} (ha:∀ a∈args,(SV a).length<=65535) (h:Ez v) (ho:FE sum v args=.ok v1):Ez v1:=by
 unfold FE at ho
 split at ho
 ·
  rename_i a
  obtain ⟨_,hw,ho⟩:=BZ ho
  have hw:=R9 hw
  simp only [A3,Ab] at hw
  split at ho
  · cases ho;exact h
  ·
   rename_i hn
   unfold Qu at ho
   obtain ⟨b,-,ho⟩:=BZ ho
   obtain ⟨m,hm,ho⟩:=BZ ho
   obtain ⟨c,hv,ho⟩:=BZ ho
   have ho:=ET ho
   subst ho
   obtain ⟨e,rfl⟩:=A54 hm
   have hl:=ha a (by simp)
   have hp:1<=(SV a).length:=by
    cases hq:SV a with
    | nil=>exact CM hq hn
    | cons x r=>simp
   have:=(RL h (A1e (f:=v.s.font) e h.s.fill h.s.clips ⟨hw.1.2,h.s.font.2⟩ ⟨hp,hl⟩) hv).1
   exact ⟨this.s,this.saved,this.path,this.items⟩
 · cases ho
theorem WJ  {fs:List LE} {v v1:Vw} {args:List PV} {op:l8_} (hf:∀ f∈fs,0<=f.font/\f.font<=13) (ha:∀ a∈args,(SV a).length<=65535) (h:Ez v) (ho:Jv sum fs v args op=.ok v1):Ez v1:=by
 unfold Jv at ho
 obtain ⟨_,-,ho⟩:=BZ ho
 split at ho
 ·
  obtain ⟨_,-,ho⟩:=BZ ho
  have ho:=ET ho
  subst ho
  exact ⟨h.s,h.saved,h.path,h.items⟩
 ·
  split at ho
  ·
   obtain ⟨_,-,ho⟩:=BZ ho
   have ho:=ET ho
   subst ho
   exact ⟨h.s,h.saved,h.path,h.items⟩
  ·
   split at ho
   · exact We hf h ho
   ·
    split at ho
    ·
     obtain ⟨_,-,ho⟩:=BZ ho
     have ho:=ET ho
     subst ho
     exact ⟨h.s,h.saved,h.path,h.items⟩
    ·
     split at ho
     ·
      obtain ⟨_,-,ho⟩:=BZ ho
      obtain ⟨_,-,ho⟩:=BZ ho
      have ho:=ET ho
      subst ho
      exact ⟨h.s,h.saved,h.path,h.items⟩
     · exact Ub ha h ho
theorem A4e  {fs:List LE} {v v1:Vw} {args:List PV} {op:l8_} (hf:∀ f∈fs,0<=f.font/\f.font<=13) (ha:∀ a∈args,(SV a).length<=65535) (h:Ez v) (ho:Ly sum fs v args op=.ok v1):Ez v1:=by
 unfold Ly at ho
 split at ho
 · exact ZV h ho
 ·
  split at ho
  · exact W8 h ho
  ·
   split at ho
   · exact WJ hf ha h ho
   ·
    split at ho
    · cases ho
    ·
     obtain ⟨_,-,ho⟩:=BZ ho
     split at ho
     · exact UP h ho
     ·
      split at ho
      · exact A0v h ho
      ·
       split at ho
       ·
        obtain ⟨_,-,ho⟩:=BZ ho
        have ho:=ET ho
        subst ho
        exact ⟨h.s,h.saved,h.path,h.items⟩
       · exact Xv h ho
def Zj:Vw:=⟨⟨Nw,M8 1,M8 1,⟨65536,0,0,655360,none,[],0,0⟩,[],-1,0⟩,[],I9,0,false,false,Wx,Wx,[]⟩
theorem A3J:Ez Zj:=⟨⟨by decide,by decide,by decide,by decide,by decide⟩,λs hs=>(by cases hs),I5.zero,λx hx=>(by cases hx)⟩
end
section
theorem D1 {a b:Value} (h:a=b):Ending.returned a=.returned b:=by rw [h]
def Ky (x:Int × Int):Value:=.tuple #[.int .i64 x.1,.int .i64 x.2]
theorem HZ {a b:Int} {x:Int × Int} (h:x=(a,b)):Ending.returned (.tuple #[.int .i64 a,.int .i64 b])=.returned (Ky x):=by rw [h];rfl
theorem Uk (p:Option Addr) (l:List Int) (c:Nat) (w:World) (hr:AS DW w p l) (hl:l.length<=9223372036854775807) :
  Calls Tryz.prog 140 #[.slice p l.length c] w λe w'=>e=.returned (.bool (l.all Ao))/\w=w':=by
 refine W.e func140 rfl ntmps140 bL ?_
 refine A4<|A9 rfl<|Ah<|A4<|A2 rfl<|A0 (.lenS Dh rfl)<|A2 rfl<|WL.e<|W.b<|Cj (α:=Nat) (λt=>[(5,.slice p l.length c),(6,.int .i64 (l.length:Int)),(7,.int .i64 (t:Int))]) (λt w'=>w=w'/\t<=l.length/\∀ j (h:j<l.length),j<t->Ao l[j]=true) (λt=>l.length-t) (0) ⟨rfl,rfl,rfl,tT⟩ (⟨rfl,Gg _,λj _ h=>CM h oO⟩) (λt s hR=>?_)
 obtain ⟨i,rfl⟩:∃ i,i=t:=⟨t,rfl⟩
 obtain ⟨rfl,hi,a⟩:=hR
 refine A4<|A0 (.lss rfl rfl)<|WL.e<|Ah<|Ac rfl (λd=>?_) (λd=>?_)
 have g:=dT d
 refine W.k<|Ah<|W.b<|A4<|A0 (.ixb Dh B5 rfl rfl (hr.isp oD) (i) (rfl) oO)<|Ag (AO (Bw _) rfl (hr.cells (i) oO))<|A9 rfl<|A4<|A2 rfl<|WL.c1 AN rfl rfl ((IV _ _)) (λu m=>?_)
 obtain rfl:=m
 refine A0 (.not rfl)<|WL.e<|Ac rfl (λf=>?_) (λf=>?_)
 have o:=(nT f)
 refine A4<|A9 rfl<|Ai (AZ rfl rfl ?_)
 first
 | exact ⟨D1 (Bc _ (Eq.symm (List.all_eq_false.2 ⟨l[i]'oO,AJ _,by simp_all⟩))),rfl⟩
 | exact ⟨D1 (Bc _ (Eq.symm (Au.2 λx hx=>by
   obtain ⟨j,hj,rfl⟩:=List.mem_iff_getElem.1 hx;exact a j hj oO))),rfl⟩
 have o:=(nF f)
 refine W.k<|Ak<|A0 (.iis (((i+1:Nat):Int)) (.add rfl rfl (Bp oO)) oO)<|A2 rfl<|WL.e<|?_
 exact ⟨i+1,⟨rfl,rfl,rfl,tT⟩,⟨rfl,by ((try simp only) <;> omega),λj h hj=>by
  rcases Cb.1 hj with q | rfl;exact a j h q
  simp_all⟩,by ((try simp only) <;> omega)⟩
 have g:=dF d
 refine C0<|A4<|A9 rfl<|Ai (AZ rfl rfl ?_)
 first
 | exact ⟨D1 (Bc _ (Eq.symm (List.all_eq_false.2 ⟨l[i]'oO,AJ _,by simp_all⟩))),rfl⟩
 | exact ⟨D1 (Bc _ (Eq.symm (Au.2 λx hx=>by
   obtain ⟨j,hj,rfl⟩:=List.mem_iff_getElem.1 hx;exact a j hj oO))),rfl⟩
theorem Nn (n:Int) (w:World):Calls Tryz.prog 141 #[.int .i64 n] w λe w'=>e=.returned (Ky (LI n))/\w=w':=by
 refine W.e func141 rfl ntmps141 bL ?_
 refine A4<|Dp rfl<|A9 rfl<|Ah<|A4<|A2 rfl<|WL.c1 AN rfl rfl ((IV _ _)) (λd b=>?_)
 obtain rfl:=b
 refine A0 (.not rfl)<|WL.e<|Ac rfl (λa=>?_) (λa=>?_)
 have c:=(nT a)
 refine A4<|Dp rfl<|A9 rfl<|Ai (Ex rfl rfl rfl ?_)
 exact ⟨HZ (by unfold LI;rw [A1 (by simp_all)]),rfl⟩
 have c:=(nF a)
 refine W.k<|A4<|A2 rfl<|Dp rfl<|A9 rfl<|Ai (Ex rfl rfl rfl ?_)
 exact ⟨HZ (by unfold LI;rw [A6 (by simp_all)]),rfl⟩
theorem YM (a b:Int) (w:World):Calls Tryz.prog 146 #[.int .i64 a,.int .i64 b] w λe w'=>e=.returned (Ky (Lf a b))/\Below w.heap.size w w':=by
 refine W.e func146 rfl ntmps146 bL ?_
 have c:=EM (w.heap.size) w
 refine A4<|Dp rfl<|A9 rfl<|Ah<|A4<|A2 rfl<|A2 rfl<|Ct (ps:=_) Dh B5 PG rfl rfl rfl rfl rfl pR rfl (λy x d i j v=>?_)
 have f:=uB c d j
 have u:=Cq d c.size
 have o:=AS.lit (V:=DW) (l:=[a,b]) i (rfl)
 refine WL.c1 AN rfl rfl ((Uk _ [a,b] 2 _ o (by simp))) (λB q=>?_)
 obtain rfl:=q
 refine A0 (.not rfl)<|WL.e<|Ac rfl (λm=>?_) (λm=>?_)
 have s:=(nT m)
 refine A4<|Dp rfl<|A9 rfl<|Ai (Ex rfl rfl rfl ?_)
 exact ⟨HZ (by unfold Lf;rw [A1 (by simp_all)]),f⟩
 have s:=(nF m)
 have g:Ao a=true/\Ao b=true:=by simp_all
 have C:=MW g.1
 have D:=MW g.2
 refine W.k<|A4<|A2 rfl<|A2 rfl<|A0 (.add rfl rfl (Bp oO))<|WL.c1 AN rfl rfl ((Nn _ _)) (λE t=>?_)
 obtain rfl:=t
 refine A0 (.ext rfl rfl)<|A0 (.ext rfl rfl)<|Dp rfl<|A9 rfl<|Ai (Ex rfl rfl rfl ?_)
 exact ⟨D1 (by unfold Lf;rw [A6 (by simp_all)];rfl),f⟩
theorem A4N (a b:Int) (w:World):Calls Tryz.prog 197 #[.int .i64 a,.int .i64 b] w λe w'=>e=.returned (Ky (IH a b))/\Below w.heap.size w w':=by
 refine W.e func197 rfl ntmps197 bL ?_
 have c:=EM (w.heap.size) w
 refine A4<|Dp rfl<|A9 rfl<|Ah<|A4<|A2 rfl<|A2 rfl<|Ct (ps:=_) Dh B5 PG rfl rfl rfl rfl rfl pR rfl (λy x d i j v=>?_)
 have f:=uB c d j
 have u:=Cq d c.size
 have o:=AS.lit (V:=DW) (l:=[a,b]) i (rfl)
 refine WL.c1 AN rfl rfl ((Uk _ [a,b] 2 _ o (by simp))) (λB q=>?_)
 obtain rfl:=q
 refine A0 (.not rfl)<|WL.e<|Ac rfl (λm=>?_) (λm=>?_)
 have s:=(nT m)
 refine A4<|Dp rfl<|A9 rfl<|Ai (Ex rfl rfl rfl ?_)
 exact ⟨HZ (by unfold IH;rw [A1 (by simp_all)]),f⟩
 have s:=(nF m)
 have g:Ao a=true/\Ao b=true:=by simp_all
 have C:=MW g.1
 have D:=MW g.2
 refine W.k<|A4<|A2 rfl<|A2 rfl<|A0 (.sub rfl rfl (Bp oO))<|WL.c1 AN rfl rfl ((Nn _ _)) (λE t=>?_)
 obtain rfl:=t
 refine A0 (.ext rfl rfl)<|A0 (.ext rfl rfl)<|Dp rfl<|A9 rfl<|Ai (Ex rfl rfl rfl ?_)
 exact ⟨D1 (by unfold IH;rw [A6 (by simp_all)];rfl),f⟩
theorem A2E (a b:Int) (w:World) (ha:-4611686018427387904<=a/\a<=4611686018427387904) (hb:0<b/\b<=2147483648) :
  Calls Tryz.prog 142 #[.int .i64 a,.int .i64 b] w λe w'=>e=.returned (.int .i64 (Lo a b))/\Below w.heap.size w w':=by
 have m:=Int.mul_tdiv_add_tmod a b
 have o:=Int.tmod_lt_of_pos a hb.1
 have d:=Int.lt_tmod_of_pos a hb.1
 have f:-4611686018427387904<=a.tdiv b/\a.tdiv b<=4611686018427387904:=by
  have:=Int.natAbs_tdiv_le_natAbs a b
  omega
 refine W.e func142 rfl ntmps142 bL ?_
 have g:=EM (w.heap.size) w
 refine A4<|A9 rfl<|Ah<|A4<|A2 rfl<|A0 (.bis (false) (.lss rfl rfl) (by exact Al oO))<|WL.e<|DS rfl rfl<|W.k<|Ah<|E2 C7 kR<|At (.mv rfl) rfl<|At (.mv rfl) rfl<|At (.quo rfl rfl oO (Bp oO)) rfl<|At (.mv rfl) rfl<|At (.mv rfl) rfl<|At (.rem rfl rfl oO rfl) rfl<|At (.as rfl) rfl<|At (.as rfl) rfl<|Da (λq i=>?_)
 have c:=CZ.below g i
 refine Ah<|W.b<|A4<|A2 rfl<|A0 (.mul rfl rfl (Bp oO))<|A2 rfl<|A0 (.geq rfl rfl)<|A9 rfl<|Ac rfl (λd=>?_) (λd=>?_)
 have j:=dT d
 refine Ak<|A2 rfl<|A0 (.add rfl rfl (Bp oO))<|A9 rfl<|A4<|A2 rfl<|A9 rfl<|Ai (AZ rfl rfl ?_)
 exact ⟨D1 (by unfold Lo;first | rw [A6 oO] | rw [A1 oO,A6 oO] | rw [A1 oO,A1 oO]),c⟩
 have j:=dF d
 refine A4<|A2 rfl<|A0 (.mul rfl rfl (Bp oO))<|A2 rfl<|A0 (.geq rfl rfl)<|A9 rfl<|Ac rfl (λf=>?_) (λf=>?_)
 have l:=dT f
 refine Ak<|A2 rfl<|A0 (.sub rfl rfl (Bp oO))<|A9 rfl<|A4<|A2 rfl<|A9 rfl<|Ai (AZ rfl rfl ?_)
 exact ⟨D1 (by unfold Lo;first | rw [A6 oO] | rw [A1 oO,A6 oO] | rw [A1 oO,A1 oO]),c⟩
 have l:=dF f
 refine W.k<|A4<|A2 rfl<|A9 rfl<|Ai (AZ rfl rfl ?_)
 exact ⟨D1 (by unfold Lo;first | rw [A6 oO] | rw [A1 oO,A6 oO] | rw [A1 oO,A1 oO]),c⟩
end
section
open Go.RowKit Go.WideShapes Go.ChangeShapes
structure A9k (o:Option Nat) (w w1:World):Prop where
 os:w1.os=w.os
 tape:w1.tape=w.tape
 output:w1.output=w.output
 size:w1.heap.size=w.heap.size
 block:∀ k,o≠some k->w1.heap[k]?=w.heap[k]?
theorem AF.grown  {row:Option Nat} {cs:Array Value} {t:TypeId} (h:AF w c cs t) (hg:w.grownBy w1 row) (hc:row≠some c):AF w1 c cs t:=(hg.block c h.lt λe=>hc e.symm).trans h
theorem AD.cutc  {L:Fe α} {n:Nat} {l:List α} (h:AD L e B w (.slice p n c) l) (k:Nat) (hk:k<=l.length):AD L e B w (.slice p k c) (l.take k):=by
 rcases h with ⟨d,rfl⟩ | ⟨g,cap,cur,d,hB,hg,j,f,i,b⟩
 ·
  cases d
  obtain rfl:k=0:=by simpa using hk
  exact .inl ⟨rfl,by simp⟩
 ·
  cases d
  have a:(l.take k).length=k:=by rw [AT];omega
  refine .inr ⟨g,c,cur,by rw [a],hB,hg,by rw [a];omega,f,i,?_⟩
  rw [a,<- L.flat_take,<- b,List.take_take,Nat.min_eq_left (Cm _ hk)]
theorem AB.wide  {B':Nat} {S S':List Nat} {a b:World} (h:AB B' S a b) (hB:B<=B') (hS:∀ g∈S,g∈S'\/B<=g):AB B S' a b:=⟨h.os,h.tape,h.output,h.size,λi hi hn=>h.block i oO λhm=>(hS i hm).elim hn λq=>by omega⟩
end
section
section
variable {P:Program} {n:Sh} {f:Fr}
theorem C2  {Q:Exit->Fr->World->Prop} {rest:List Oper} {ty:Nat} {t:TypeId} {p:Addr} {b o:Nat} {cs:Array Value} (new:Array Value)
  (hs:∀ w,(sizeOf t).run P w=.ok 1 w) (hx:D0 f x=some (.pointer (some p))) (hp:p=⟨b,o,none⟩) (hy:D0 f y=some v) (h1:v.oneCell'=true) (hb:AF w b cs tb) (ho:o<cs.size) (hn:cs.setIfInBounds o v=new)
  (k:∀ w1,AF w1 b new tb->BF b w w1->w1.heap.size=w.heap.size->WL P n ops Q rest f w1):WL P n ops Q (⟨none,.store t x y,ty,pos,aft,none⟩::rest) f w:=by
 subst hp
 exact WL.st hs hx hy h1 hb ho λw1 hk hu a=>k w1 (hn▸hk) hu a
theorem Eh  {Q:Exit->Fr->World->Prop} {rest:List Oper} {ty:Nat} {t:TypeId} {p:Addr} {b o:Nat} {cs:Array Value} (new:Array Value)
  (hx:D0 f x=some (.pointer (some p))) (hp:p=⟨b,o,none⟩) (hy:D0 f y=some (.agg vs.toArray)) (hb:AF w b cs tb) (hi:(P.info? t).map (·.size)=some vs.length) (h1:A1Y vs=true) (ho:o+vs.length<=cs.size) (hn:(cs.toList.take o++vs++cs.toList.drop (o+vs.length)).toArray=new)
  (k:∀ w1,AF w1 b new tb->BF b w w1->w1.heap.size=w.heap.size->WL P n ops Q rest f w1):WL P n ops Q (⟨none,.store t x y,ty,pos,aft,none⟩::rest) f w:=by
 subst hp
 have a:=run_storeCells_at P b o tb vs 0 cs w hb oO (QU h1)
 simp only [Nat.add_zero] at a
 have c:=hb.lt
 refine RN (w':=w.setRow b (cs.toList.take o++vs++cs.toList.drop (o+vs.length)).toArray) (λρ hρ=>?_)
  (k _ (hn▸setRow_heap w b cs _ tb _ hb) (BF.setRow _ _ _) (by simp [World.setRow]))
 cases hq:P.info? t with
 | none=>simp [hq] at hi
 | some i =>
  have hs:i.size=vs.length:=by simpa [hq] using hi
  unfold execOp;simp [hρ _ _ hx,hρ _ _ hy,Instr.storeAt,Instr.sureAddr,storeVar,BB,sizeOf,typeInfo,hq,hs,Value.cells,a]
end
end
end Go.Proofs.YthmhfjeojkbpfaaGreatDoor
