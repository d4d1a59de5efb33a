/-
  What the claim leans on, part 2: pruned and joined by my own tool out of the texts that stand in wip/ as templates.
-/
import Derived.Test.YtiddobdioipidaaGreatDoorTr1
set_option maxHeartbeats 6400000
set_option maxRecDepth 100000
namespace Go.Proofs.YtiddobdioipidaaGreatDoor
open Go.RowKit
open Go.Proofs.Tryz
variable {pa pb:Addr} {aft:Array Edge} {ops:Array Oper} {ats:Array TypeId} {args cs:Array Value} {st:Bool} {Q:Exit->Fr->World->Prop} {f:Fr} {F:FuncId} {D a:Int} {ks:List (List UInt8)} {ns:List Int} {A d l s:List UInt8} {vs xs:List Value} {B M N c i id j wk:Nat} {S T:Nat->Prop} {x y:Operand} {dp p:Option Addr} {P:Program} {pos:String} {α ι:Type} {E e ta tb tx ty:TypeId} {u v z:Value} {w w1:World} {S':World->Prop}
section
theorem My  {W:World} (hb:AL W w1):(∀ b o,b<W.heap.size->w1.cell? ⟨b,o,none⟩=W.cell? ⟨b,o,none⟩)/\(∀ b o,b<W.heap.size->w1.frozen? ⟨b,o,none⟩=W.frozen? ⟨b,o,none⟩) :=
 ⟨λb o h=>hb.cell (p:=⟨b,o,none⟩) h,λb o h=>hb.frozen (p:=⟨b,o,none⟩) h⟩
theorem F0  {o:Obj} (hb:Below (w.alloc o).heap.size (w.alloc o) w1):AL w w1 :=
 ((Fl _ _).alloc (DS _) o).trans (hb.mono (by simp))
theorem GA {w w1:World} (hb:AL w w1) (a b c:Value):AL w (((w1.setCell ⟨w.heap.size,0,none⟩ a).setCell ⟨w.heap.size,1,none⟩ b).setCell ⟨w.heap.size,2,none⟩ c) :=
 ((hb.setCell (p:=⟨w.heap.size,0,none⟩) (DS _) _).setCell (p:=⟨w.heap.size,1,none⟩) (DS _) _).setCell (p:=⟨w.heap.size,2,none⟩) (DS _) _
def Hi (x:UInt8):l8_->l8_ × l8_ × Bool
 | []=>([],[],false)
 | c::r=>if c=x then ([],r,true) else (c::(Hi x r).1,(Hi x r).2)
theorem Ty (x:UInt8) (B:l8_):∀ A:l8_,x ∉ A->Hi x (A++x::B)=(A,B,true)
 | [],_=>by simp [Hi]
 | c::A,h=>by
  simp only [A7,not_or] at h
  have ih:=Ty x B A h.2
  simp [Hi,ih,Ne.symm h.1]
theorem S8 (x:UInt8):∀ l:l8_,x ∉ l->Hi x l=(l,[],false)
 | [],_=>rfl
 | c::l,h=>by
  simp only [A7,not_or] at h
  have ih:=S8 x l h.2
  simp [Hi,ih,Ne.symm h.1]
theorem Tz (x:UInt8) (l:l8_):(Hi x l).1.length+(Hi x l).2.1.length<=l.length:=by
 induction l with
 | nil=>simp [Hi]
 | cons c r ih=>unfold Hi;split <;> simp;omega
theorem VL (x:UInt8) (l:l8_) (w:World) (hl:l.length<=100000000) :
  Cl 202 #[.string (bs l),.string ⟨#[x]⟩] w (.tuple #[.string (bs (Hi x l).1),.string (bs (Hi x l).2.1),.bool (Hi x l).2.2]):=by
 by_cases h:x∈l
 ·
  obtain ⟨A,B,rfl,hA⟩:=OI x l h
  rw [Ty x B A hA];exact TA A B x w hl hA
 · rw [S8 x l h];exact W1 l x w h
structure FH where
 kind:Int
 n:Int
 ok:Bool
 e:Int
def FH.val (t:FH):Value:=.tuple #[.agg #[Ag t.kind,Ag t.n,.string ⟨#[]⟩],.bool t.ok,Ag t.e]
def Cm:FH:=⟨0,0,false,0⟩
def FW:FH:=⟨0,0,true,9⟩
def GF (n:Int):FH:=⟨1,n,true,0⟩
def Kp (n:Int):FH:=⟨2,n,true,0⟩
def EX (base:Nat):l8_->Nat->Bool->Option (Nat × Bool)
 | [],n,over=>some (n,over)
 | c::r,n,over=>if base<=DQ c then none else if 4294967296<=n * base+DQ c then EX base r 0 true else EX base r (n * base+DQ c) over
def FX:Option (Nat × Bool)->FH
 | none=>Cm
 | some (n,over)=>if over then FW else GF (if 2147483648<=n then (n:Int)-4294967296 else n)
def Iv (l:l8_):Bool:=(Hi 35 l).2.2 && !(Hi 35 l).1.isEmpty && decide ((Hi 35 l).1.length<=2) && (Hi 35 l).1.all BN && !(Hi 35 l).2.1.isEmpty
theorem Ql (l:l8_) (w:World) (hl:l.length<=1000) (hno:Iv l=false) :
    Cl 182 #[.string (bs l)] w Cm.val:=by
  have hC:=λw=>VL 35 l w oO
  have k:=Tz 35 l
  unfold Iv at hno
  generalize Hi 35 l=p at *
  obtain ⟨A,B,f⟩:=p
  simp only at hno hC k
  have sA:=BM A
  cases f with
  | false =>
    clear hno
    go_enter func182,ntmps182
    go_wp2_with (go_at_call 202;go_must (refine (hC _).mono ?_);rintro e i ⟨rfl,hb1⟩;obtain ⟨b,d⟩:=My hb1;have a:=hb1.size;simp at a;replace a:=CS a)
    exact Cj (v:=Cm.val) (by simp [results,Tryz.results182,go_sem,b,FH.val,Cm]) rfl ⟨rfl,GA (F0 hb1) _ _ _⟩
  | true =>
    simp only [DV] at hno
    have sB:=BM B
    have hT:=Fk
    by_cases hA0:A.isEmpty=true
    · obtain rfl : A = [] := by simpa using hA0
      clear hno hA0
      go_enter func182,ntmps182
      go_wp2_with (go_at_call 202;go_must (refine (hC _).mono ?_);rintro e i ⟨rfl,hb1⟩;obtain ⟨b,d⟩:=My hb1;have a:=hb1.size;simp at a;replace a:=CS a)
      exact Cj (v:=Cm.val) (by simp [results,Tryz.results182,go_sem,b,FH.val,Cm]) rfl ⟨rfl,GA (F0 hb1) _ _ _⟩
    · have c : A.isEmpty = false := by simpa using hA0
      have s:(bs A).toList.isEmpty=false:=by rw [Fk];exact c
      rw [c] at hno
      by_cases hA2:2<A.length
      · clear hno hA0 c hT
        go_enter func182,ntmps182
        go_wp2_with (go_at_call 202;go_must (refine (hC _).mono ?_);rintro e i ⟨rfl,hb1⟩;obtain ⟨b,d⟩:=My hb1;have a:=hb1.size;simp at a;replace a:=CS a)
        exact Cj (v:=Cm.val) (by simp [results,Tryz.results182,go_sem,b,FH.val,Cm]) rfl ⟨rfl,GA (F0 hb1) _ _ _⟩
      · have g := fun w => FO A w oO
        cases hall:A.all BN with
        | false =>
          rw [hall] at g
          clear hno hA0 c hall hT
          go_enter func182,ntmps182
          go_wp2_with first | (go_at_call 202;go_must (refine (hC _).mono ?_);rintro e i ⟨rfl,hb1⟩;obtain ⟨b,d⟩:=My hb1;have a:=hb1.size;simp at a;replace a:=CS a) | (go_at_call 203;go_must (refine (g _).mono ?_);rintro e q ⟨rfl,hb2⟩;obtain ⟨h,m⟩:=My hb2;have o:=hb2.size)
          exact Cj (v:=Cm.val) (by simp [results,Tryz.results182,go_sem,b,h,a,FH.val,Cm]) rfl ⟨rfl,GA (Ci (F0 hb1) hb2) _ _ _⟩
        | true =>
          rw [hall] at g hno
          have j:decide (A.length<=2)=true:=by simp;omega
          rw [j] at hno
          obtain rfl:B=[]:=by simpa using hno
          have t:(bs []).toList.isEmpty=true:=by rw [Fk];rfl
          clear hno hA0 c hall j hT
          go_enter func182,ntmps182
          go_wp2_with first | (go_at_call 202;go_must (refine (hC _).mono ?_);rintro e i ⟨rfl,hb1⟩;obtain ⟨b,d⟩:=My hb1;have a:=hb1.size;simp at a;replace a:=CS a) | (go_at_call 203;go_must (refine (g _).mono ?_);rintro e q ⟨rfl,hb2⟩;obtain ⟨h,m⟩:=My hb2;have o:=hb2.size)
          exact Cj (v:=Cm.val) (by simp [results,Tryz.results182,go_sem,b,h,a,FH.val,Cm]) rfl ⟨rfl,GA (Ci (F0 hb1) hb2) _ _ _⟩
theorem C9  {w':World} {a b c:Value} {t:TypeId} (hb:Below (w.alloc (.cells #[a,b,c] t)).heap.size (w.alloc (.cells #[a,b,c] t)) w') :
  w'.cell? ⟨w.heap.size,0,none⟩=some a/\w'.cell? ⟨w.heap.size,1,none⟩=some b/\w'.cell? ⟨w.heap.size,2,none⟩=some c /\
  w'.frozen? ⟨w.heap.size,0,none⟩=false/\w'.frozen? ⟨w.heap.size,1,none⟩=false/\w'.frozen? ⟨w.heap.size,2,none⟩=false:=by
 have d:w.heap.size<(w.alloc (.cells #[a,b,c] t)).heap.size:=by simp
 rw [hb.cell (p:=⟨w.heap.size,0,none⟩) d,hb.cell (p:=⟨w.heap.size,1,none⟩) d,hb.cell (p:=⟨w.heap.size,2,none⟩) d,hb.frozen (p:=⟨w.heap.size,0,none⟩) d,hb.frozen (p:=⟨w.heap.size,1,none⟩) d,hb.frozen (p:=⟨w.heap.size,2,none⟩) d]
 refine ⟨?_,?_,?_,?_,?_,?_⟩ <;> go_simp
theorem OV (base:Nat) (B:l8_) (k n:Nat) (over:Bool) (h:k<B.length) :
  EX base (B.drop k) n over=if base<=DQ B[k] then none else if 4294967296<=n * base+DQ B[k] then EX base (B.drop (k+1)) 0 true else EX base (B.drop (k+1)) (n * base+DQ B[k]) over:=by
 rw [Aw h];rfl
def JW (A B:l8_):FH:=if Ck A<2\/36<Ck A then Cm else FX (EX (Ck A) B 0 false)
theorem Qk (l A B : l8_) (w : World) (hl : l.length ≤ 1000) (hcut : Hi 35 l = (A, B, true)) (hA0 : A ≠ []) (hA2 : A.length ≤ 2) (hall : A.all BN = true) (hB0 : B ≠ []) :
    Calls Tryz.prog 182 #[.string (bs l)] w λe w'=>e=.returned (JW A B).val/\AL w w':=by
  have hC:=λw=>VL 35 l w oO
  have F:=Tz 35 l
  rw [hcut] at hC F
  simp only at hC F
  clear hcut
  have sA:=BM A
  have sB:=BM B
  have M:(bs A).toList.isEmpty=false:=by rw [Fk];cases A <;> simp at *
  have O:(bs B).toList.isEmpty=false:=by rw [Fk];cases B <;> simp at *
  have x:=λw=>FO A w oO
  rw [hall] at x
  have q:∀ c∈A,BN c=true:=AP.1 hall
  have y:∀ k,Ck (A.take k)<100:=by
    intro k
    have h1:=L9 A k
    have h2:=H9 A q
    have h4:10 ^ A.length<=10 ^ 2:=Nat.pow_le_pow_right dD hA2
    omega
  have Hdig:=E2 q;have Hnat:=E2 y
  clear hA0 hB0 hall q y
  go_enter func182,ntmps182
  go_wp2_with first | (go_at_call 202;go_must (refine (hC _).mono ?_);rintro e w1 ⟨rfl,hb1⟩;obtain ⟨Q,R⟩:=My hb1;have s:=hb1.size;simp at s;replace s:=CS s) | (go_at_call 203;go_must (refine (x _).mono ?_);rintro e w2 ⟨rfl,hb2⟩;obtain ⟨T,U⟩:=My hb2;have V:=hb2.size) | (refine Eb rfl _ _ _ _ rfl FV B1 Ga _ rfl ?_;intro cap w3 J g hg X)
  have m:Below (w.alloc (Obj.cells #[Value.int .i64 0,Value.int .i64 0,Value.string ⟨#[]⟩] 196)).heap.size (w.alloc (Obj.cells #[Value.int .i64 0,Value.int .i64 0,Value.string ⟨#[]⟩] 196)) w3:=Ci (Ci hb1 hb2) (EZ hg)
  have Hrow:=E2 g
  clear Q R T U hb1 hb2 V g hg hC x M O J X s
  go_loop [8,46] (λn i=>∃ k:Nat,k<=A.length/\i=Ag k/\n=Ag (Ck (A.take k):Int)) (λ_ i=>A.length-(intOf i).toNat)
  case atStart=>exact ⟨0,FN _,rfl,rfl⟩
  case round =>
    obtain ⟨k,hk,rfl,rfl⟩:=hrel
    have Y:=Hnat.out k
    by_cases hkl:k<A.length
    · have b := GO A k hkl
      have hd:=Ek (Hdig.out A[k] (by simp))
      have hc:=(Hrow.out k _ (Hj A k hkl)).1
      have Hstep:=E2 b;clear b
      generalize Ck (A.take k)=N at *
      generalize A[k].toNat=c at *
      go_wp2
      go_round
      case rel=>exact ⟨k+1,oO,by go_num,by rw [Hstep.out];go_num⟩
      case measure=>simp [intOf];omega
    · obtain rfl : k = A.length := by omega
      rw [D7] at Y ⊢
      clear Hrow Hnat hkl
      generalize hgN:Ck A=N at *
      have HgN:=E2 hgN;clear hgN
      by_cases hbad:N<2\/36<N
      · have Hbad := E2 hbad
        obtain ⟨t,c1,u,f0,f1,f2⟩:=C9 m
        go_wp2
        all_goals exact Cj (v:=Cm.val) (by simp [results,Tryz.results182,go_sem,t,c1,u,FH.val,Cm]) rfl ⟨by rw [JW,HgN.out,A5 Hbad.out],GA (F0 m) _ _ _⟩
      · have hb2 : 2 ≤ N := by omega
        have A3r:N<=36:=by omega
        have Hbad:=E2 hbad;clear hbad
        go_wp2_with (refine Eb rfl _ _ _ _ rfl FV B1 Ga _ rfl ?_;intro a1 w4 E g hg K)
        have j:=m.trans ((EZ hg).mono m.size)
        obtain ⟨t,c1,u,f0,f1,f2⟩:=C9 j
        have Hrow:=E2 g
        clear g hg E K m
        have C:(if N<2\/36<N then Cm else FX (EX N B 0 false))=FX (EX N B 0 false):=A2 Hbad.out
        have Hfin:=E2 C;clear C
        go_loop [11,12,67] (λn o i=>∃ (k:Nat) (f:Nat) (ov:Bool),k<=B.length/\i=Ag k/\n=Ag f/\o=.bool ov/\f<4294967296/\EX N (B.drop k) f ov=EX N B 0 false) (λ_ _ i=>B.length-(intOf i).toNat)
        case atStart=>exact ⟨0,0,false,FN _,rfl,rfl,rfl,oO,rfl⟩
        case round =>
          obtain ⟨k,f,ov,hk,rfl,rfl,rfl,a2,G⟩:=hrel
          have Hrr:=E2 G;clear G
          by_cases hkl:k<B.length
          · have b := OV N B k f ov hkl
            have hc:=(Hrow.out k _ (Hj B k hkl)).1
            have hx:=A1c B[k]
            have hD:=λw=>Xp B[k] w
            generalize DQ B[k]=d at *
            generalize B[k]=c at *
            obtain ⟨P,hP⟩:=eX (f * N)
            have a3:(f:Int) * (N:Int)=(P:Int):=by rw [hP,Int.natCast_mul]
            have a4:P<=154618822656:=by
              have h:=Nat.mul_le_mul (show f<=4294967296 by omega) A3r
              rw [<- hP] at h;omega
            rw [<- hP] at b
            have Hstep:=E2 b;clear b hP
            by_cases hdN:N<=d
            · go_wp2_with (go_at_call 206; go_must (refine (hD _).mono ?_); rintro e Z ⟨rfl, rfl⟩)
              refine Cj (v:=Cm.val) (by simp [results,Tryz.results182,go_sem,t,c1,u,FH.val,Cm]) rfl ⟨?_,GA (F0 j) _ _ _⟩
              rw [JW,HgN.out,Hfin.out,<- Hrr.out,Hstep.out,A5 hdN];rfl
            · by_cases hov : 4294967296 ≤ P + d
              · have L : (4294967296 : Int) ≤ (P : Int) + (d : Int) := by omega
                have Hov:=E2 hov;clear hov
                go_wp2_with (go_at_call 206;go_must (refine (hD _).mono ?_);rintro e Z ⟨rfl,rfl⟩)
                go_round
                case rel=>exact ⟨k+1,0,true,oO,by go_num,rfl,rfl,oO,by rw [<- Hrr.out,Hstep.out,A2 hdN,A5 Hov.out]⟩
                case measure=>simp [intOf];omega
              · have L : decide ((4294967296 : Int) ≤ (P : Int) + (d : Int)) = false := AH oO
                have H:P+d<4294967296:=by omega
                have Hov:=E2 hov;have HPd:=E2 H;clear hov H
                go_wp2_with (go_at_call 206;go_must (refine (hD _).mono ?_);rintro e Z ⟨rfl,rfl⟩)
                go_round
                case rel=>exact ⟨k+1,P+d,ov,oO,by go_num,by go_num,rfl,HPd.out,by rw [<- Hrr.out,Hstep.out,A2 hdN,A2 Hov.out]⟩
                case measure=>simp [intOf];omega
          · obtain rfl : k = B.length := by omega
            have D:EX N B 0 false=some (f,ov):=by
              rw [<- Hrr.out,NQ];rfl
            have Hend:=E2 D;clear D Hrow hkl
            cases ov with
            | true =>
              go_wp2
              refine Cj (v:=FW.val) (by simp [results,Tryz.results182,go_sem,t,c1,u,FH.val,FW]) rfl ⟨?_,GA (F0 j) _ _ _⟩
              rw [JW,HgN.out,Hfin.out,Hend.out];rfl
            | false =>
              by_cases a:2147483648<=f
              · have a0 : decide ((2147483648 : Int) ≤ (f : Int)) = true := AR oO
                have Hbig:=E2 a;clear a
                go_wp2
                have a:=Hbig.out
                refine Cj (v:=(GF ((f:Int)-4294967296)).val) (by simp [results,Tryz.results182,go_sem,t,c1,u,FH.val,GF]) rfl ⟨?_,GA (F0 j) _ _ _⟩
                rw [JW,HgN.out,Hfin.out,Hend.out]
                rw [FX];simp only [BV,if_false,a];rfl
              · have a0 : decide ((2147483648 : Int) ≤ (f : Int)) = false := AH oO
                have Hbig:=E2 a;clear a
                go_wp2
                have a:=Hbig.out
                refine Cj (v:=(GF (f:Int)).val) (by simp [results,Tryz.results182,go_sem,t,c1,u,FH.val,GF]) rfl ⟨?_,GA (F0 j) _ _ _⟩
                rw [JW,HgN.out,Hfin.out,Hend.out]
                rw [FX];simp only [BV,if_false,a]
def EI (l:l8_):FH:=if Iv l then JW (Hi 35 l).1 (Hi 35 l).2.1 else Cm
theorem KL (l:l8_) (w:World) (hl:l.length<=1000) :
  Calls Tryz.prog 182 #[.string (bs l)] w λe w'=>e=.returned (EI l).val/\AL w w':=by
 unfold EI
 cases hok:Iv l with
 | false=>exact Ql l w hl hok
 | true =>
  unfold Iv at hok
  simp only [AG,AI,BE,List.isEmpty_eq_false_iff] at hok
  obtain ⟨⟨⟨⟨a,b⟩,c⟩,d⟩,f⟩:=hok
  have hc:Hi 35 l=((Hi 35 l).1,(Hi 35 l).2.1,true):=by rw [<- a]
  exact Qk l _ _ w hl hc b c d f
end
section
def eE:ByteArray:=⟨#[101,69]⟩
theorem KK:eE.size=2:=rfl
theorem A4h (h:1<eE.size):eE[1]'h=69:=rfl
theorem A1n:eE.extract 2 2=bs []:=rfl
theorem A2K:∀ i (h:i<eE.size),(eE[i]'h).toNat<128:=by
 intro i h
 have a:i<2:=h
 obtain rfl | rfl:i=0\/i=1:=by omega
 · show (101:UInt8).toNat<128;decide
 · show (69:UInt8).toNat<128;decide
def isE (c:UInt8):Bool:=c == 101 || c == 69
theorem V8 (r:Nat) (h:128<=r) (h2:r<2048):Utf8.encode (r:Int)=⟨#[UInt8.ofNat (192+r / 64),UInt8.ofNat (128+r % 64)]⟩:=by
 have hv:Utf8.valid (r:Int)=true:=by simp [Utf8.valid];omega
 unfold Utf8.encode
 simp only [hv,if_true,Int.toNat_natCast]
 rw [A2 oO,A5 oO]
theorem Tt (r:Nat) (h2:2048<=r) (h3:Utf8.valid (r:Int)=true):3<=(Utf8.encode (r:Int)).size/\(Utf8.encode (r:Int)).size<=4:=by
 unfold Utf8.encode
 simp only [h3,if_true,Int.toNat_natCast]
 rw [A2 oO,A2 oO]
 split <;> simp [ByteArray.size]
theorem OX  {f:FuncId} {a n:Nat}
  (h:Calls P f args (w.drewN (a+n)) λe w'=>e=.returned v/\w'=w.drewN (a+n)) :
  Calls P f args (w.drewN (a+n)) λe w''=>e=.returned v/\∃ m,w''=w.drewN (a+m) :=
 h.mono λ_ _ ⟨he,hm⟩=>⟨he,n,hm⟩
theorem Qg (c:Int) (w:World) :
  Calls Tryz.prog 49 #[.string ByteArray.empty,.int .u8 c] w λe w'=>e=.returned (Ag (-1))/\w'=w :=
 Tryz.strings_IndexByte ByteArray.empty c w
theorem Qe (r:Nat) (w:World) (h:128<=r) (h2:r<2048) :
  Cl 153 #[.string eE,.int .i32 (r:Int)] w (Ag (-1)):=by
 have hV:=λw=>(Tryz.utf8_ValidRune (r:Int) w)
 have f:Lib.validRune (r:Int)=true:=by simp [Lib.validRune];omega
 rw [f] at hV
 have a:=V8 r h h2
 have hs:(Utf8.encode (r:Int)).size=2:=by rw [a];rfl
 obtain ⟨c,hc⟩:=eX (UInt8.ofNat (128+r % 64))
 have g:c.toNat=128+r % 64:=by rw [hc,UInt8.toNat_ofNat'];omega
 have b:∀ h,(Utf8.encode (r:Int))[1]'h=c:=by rw [a,hc];intro _;rfl
 have l:((69:Int) != (c.toNat:Int))=true:=by rw [bne_iff_ne];omega
 have q:=KK
 have t:=A4h
 have u:=A1n
 have i:((r:Int) == 65533)=false:=by rw [Dr];omega
 have m:decide ((r:Int)<128)=false:=AH oO
 have j:¬ ((r:Int)<128):=by omega
 have d:(Utf8.encode (r:Int))[1]'(by rw [hs];omega)=c:=b _
 have Hget:=E2 d
 clear hc g a f b d
 generalize eE=s at *
 go_enter func153,ntmps153
 go_wp2_with (go_at_call 169;go_must (refine (hV _).mono ?_);rintro e k ⟨rfl,rfl⟩)
 go_step3
 go_wp2_with fail
 go_loopw [9] (λv wr=>v=Ag 1/\wr=k) (λ_ _=>0)
 case atStart=>exact ⟨rfl,rfl⟩
 case round =>
  obtain ⟨rfl,rfl⟩:=hrel
  go_wp2
  go_step3
  go_wp2_with fail
  have b:=Hget.out
  go_quiet (fail)
  go_wp2_with fail
  have o:IntKind.i64.wrap 2=2:=rfl
  go_quiet ((go_at_call 49;exact OX (Qg _ _)))
  go_wp2_with fail
  rw [Exit.noGoto_ret]
  simp (config:={zetaDelta:=true}) only [Exit.inBlock,Exit.then,Exit.noGoto]
  go_ret
  exact ⟨rfl,by simpa using Nm _ _⟩
theorem Pk (r:Nat) (w:World) (h2:2048<=r) (hv:Utf8.valid (r:Int)=true) (h3:r≠65533) :
  Cl 153 #[.string eE,.int .i32 (r:Int)] w (Ag (-1)):=by
 have hV:=λw=>(Tryz.utf8_ValidRune (r:Int) w)
 have a:Lib.validRune (r:Int)=true:=by rw [<- hv,B3];simp [Lib.validRune,Utf8.valid];omega
 rw [a] at hV
 have h:r<1114112:=by simp [Utf8.valid] at hv;omega
 obtain ⟨b,c⟩:=Tt r h2 hv
 obtain ⟨z,hz⟩:∃ z:Nat,(Utf8.encode (r:Int)).size=z:=⟨_,rfl⟩
 have l:=KK
 have d:((r:Int) == 65533)=false:=by rw [Dr];omega
 have i:decide ((r:Int)<128)=false:=AH oO
 have f:¬ ((r:Int)<128):=by omega
 rw [hz] at b c
 clear a hv
 generalize eE=s at *
 go_enter func153,ntmps153
 go_wp2_with (go_at_call 169;go_must (refine (hV _).mono ?_);rintro e g ⟨rfl,rfl⟩)
 go_step3
 go_wp2_with fail
 go_loopw [9] (λv wr=>v=Ag ((z:Int)-1)/\wr=g) (λ_ _=>0)
 case atStart=>exact ⟨rfl,rfl⟩
 case round =>
  obtain ⟨rfl,rfl⟩:=hrel
  have j:decide ((z:Int)-1<2)=false:=AH oO
  have k:¬ ((z:Int)-1<2):=by omega
  go_wp2
  go_ret
  exact ⟨rfl,Fl _ _⟩
theorem Qf (w:World) :
  Cl 153 #[.string eE,.int .i32 65533] w (Ag (-1)):=by
 have j:=KK
 have a:=A2K
 have Hasc:=E2 a;clear a
 generalize eE=s at *
 go_enter func153,ntmps153
 go_wp2
 go_loopg [5,6] 2 (λg _ _ wx=>∃ i:Nat,i+g=2/\wx=w.iter s i)
 case atStart=>exact ⟨0,oO,rfl⟩
 case round =>
  obtain ⟨i,f,rfl⟩:=hrel
  cases gk with
  | zero =>
   obtain rfl:i=2:=by omega
   have d:=run_next_end (P:=Tryz.prog) w s 2
   go_wp2
   go_ret
   exact ⟨rfl,by simpa [World.iter] using (Fl w.heap.size w).alloc (DS _) _⟩
  | succ g =>
   have hi:i<s.size:=by omega
   have b:=Hasc.out i hi
   have d:=λty=>run_next_ascii (P:=Tryz.prog) w s i ty hi b
   generalize s[i].toNat=c at *
   have h:((c:Int) == 65533)=false:=by rw [Dr];omega
   go_wp2
   go_roundg g
   case measure=>omega
   case rel=>exact ⟨i+1,oO,rfl⟩
theorem Tx (s:ByteArray) (pos:Nat) (h:pos<s.size) (ha:128<=(s[pos]'h).toNat) :
  128<=(Utf8.decode s pos).1/\Utf8.valid ((Utf8.decode s pos).1:Int)=true/\1<=(Utf8.decode s pos).2/\pos+(Utf8.decode s pos).2<=s.size/\∀ j,pos<j->j<pos+(Utf8.decode s pos).2->∀ hj:j<s.size,128<=(s[j]'hj).toNat:=by
 have hn:¬ (s[pos]'h).toNat<128:=by omega
 have hb:=(s[pos]'h).toNat_lt
 have hg:∀ k (hk:pos+k<s.size),s.get! (pos+k)=s[pos+k]'hk:=λk hk=>get_at s (pos+k) hk
 have one:∀ j,pos<j->j<pos+1->∀ hj:j<s.size,128<=(s[j]'hj).toNat:=λj _ _ _=>by omega
 have b:Utf8.valid ((Utf8.runeError:Nat):Int)=true:=by decide
 have a:128<=Utf8.runeError:=by decide
 simp only [Utf8.decode,get_at s pos h,hn,if_false]
 split
 ·
  rename_i h2
  simp only [AG,AI,beq_iff_eq] at h2
  obtain ⟨e,f,c⟩:=h2
  split
  ·
   rename_i h3
   refine ⟨h3,?_,oO,oO,?_⟩
   · simp [Utf8.valid];omega
   ·
    intro j g i hj
    obtain rfl:j=pos+1:=by omega
    rw [hg 1 hj] at c;omega
  · exact ⟨a,b,oO,oO,one⟩
 ·
  split
  ·
   rename_i h2
   simp only [AG,AI,beq_iff_eq] at h2
   obtain ⟨⟨e,f,c⟩,l,d⟩:=h2
   split
   ·
    rename_i h3
    simp only [ge_iff_le,AG,AI] at h3
    refine ⟨oO,h3.2,oO,oO,?_⟩
    intro j g i hj
    obtain rfl | rfl:j=pos+1\/j=pos+2:=by omega
    · rw [hg 1 hj] at c;omega
    · rw [hg 2 hj] at d;omega
   · exact ⟨a,b,oO,oO,one⟩
  ·
   split
   ·
    rename_i h2
    simp only [AG,AI,beq_iff_eq] at h2
    obtain ⟨⟨⟨e,f,c⟩,l,d⟩,o,m⟩:=h2
    split
    ·
     rename_i h3
     simp only [ge_iff_le,AG,AI] at h3
     refine ⟨oO,h3.2,oO,oO,?_⟩
     intro j g i hj
     obtain rfl | rfl | rfl:j=pos+1\/j=pos+2\/j=pos+3:=by omega
     · rw [hg 1 hj] at c;omega
     · rw [hg 2 hj] at d;omega
     · rw [hg 3 hj] at m;omega
    · exact ⟨a,b,oO,oO,one⟩
   · exact ⟨a,b,oO,oO,one⟩
theorem Pl (r:Nat) (w:World) (h:128<=r) (hv:Utf8.valid (r:Int)=true) :
  Cl 153 #[.string eE,.int .i32 (r:Int)] w (Ag (-1)):=by
 by_cases h2:r<2048
 · exact Qe r w h h2
 ·
  by_cases h3:r=65533
  · subst h3;exact Qf w
  · exact Pk r w oO hv h3
def Ei:l8_->l8_ × l8_ × Bool
 | []=>([],[],false)
 | c::r=>if isE c then ([],r,true) else (c::(Ei r).1,(Ei r).2)
theorem Zt (l:l8_):(Ei l).1.length+(Ei l).2.1.length<=l.length:=by
 induction l with
 | nil=>simp [Ei]
 | cons c r ih=>unfold Ei;split <;> simp;omega
theorem Qm (l:l8_) (h:(Ei l).2.2=true):∃ c,isE c=true/\l=(Ei l).1++c::(Ei l).2.1:=by
 induction l with
 | nil=>simp [Ei] at h
 | cons c r ih =>
  unfold Ei at h ⊢
  by_cases hc:isE c=true
  · simp only [hc,if_true];exact ⟨c,hc,rfl⟩
  ·
   simp only [hc] at h ⊢
   obtain ⟨d,hd,e⟩:=ih h
   refine ⟨d,hd,?_⟩
   show c::r=c::((Ei r).1++d::(Ei r).2.1)
   rw [<- e]
theorem S7 (l:l8_) (h:(Ei l).2.2=false):(Ei l).1=l/\(Ei l).2.1=[]:=by
 induction l with
 | nil=>simp [Ei]
 | cons c r ih =>
  unfold Ei at h ⊢
  by_cases hc:isE c=true
  · simp [hc] at h
  ·
   simp only [hc] at h ⊢
   obtain ⟨a,b⟩:=ih h
   exact ⟨by show c::(Ei r).1=c::r;rw [a],b⟩
def YY (l:l8_):Int:=if (Ei l).2.2 then ((Ei l).1.length:Int) else -1
theorem YX (l:l8_):Lib.indexAny l eE.data.toList=YY l:=by
 induction l with
 | nil=>rfl
 | cons c r ih =>
  have a:eE.data.toList.contains c=isE c:=by
   show List.contains [101,69] c=(c == 101 || c == 69)
   by_cases h1:c=101
   · subst h1;rfl
   ·
    by_cases h2:c=69
    · subst h2;rfl
    ·
     rw [beq_false_of_ne h1,beq_false_of_ne h2,List.contains,List.elem,beq_false_of_ne h1]
     show List.elem c [69]=_
     rw [List.elem,beq_false_of_ne h2];rfl
  rw [Lib.indexAny,a,ih]
  unfold YY
  rw [Ei]
  by_cases hc:isE c=true
  · simp [hc]
  ·
   simp only [hc]
   by_cases h2:(Ei r).2.2=true
   ·
    simp [h2]
    try omega
   · simp [h2]
theorem Tv:∀ x:UInt8,128<=x.toNat->eE.data.toList.contains x=false:=by
 intro x hx
 show List.contains [101,69] x=false
 have a:x≠101:=by rintro rfl;exact Dp hx dD
 have b:x≠69:=by rintro rfl;exact Dp hx dD
 rw [List.contains,List.elem,beq_false_of_ne a]
 show List.elem x [69]=_
 rw [List.elem,beq_false_of_ne b];rfl
theorem Lz (s : ByteArray) (w : World) (h8 : s.size ≤ 8) :
    Cl 184 #[.string s,.string eE] w (Ag (Lib.indexAny s.data.toList eE.data.toList)):=by
  have J:eE.toList.isEmpty=false:=by rw [show eE=bs [101,69] from rfl,Fk];rfl
  have Q:=KK
  have E:decide ((8:Int)<(s.size:Int))=false:=AH oO
  have hU:=λn w=>Tryz.strings_shouldUseASCIISet n w
  have hR:=λc (hc:c<128) w=>Tryz.strings_IndexRune_ascii eE (c:Nat) w oO oO
  have hH:=λr w h hv=>Pl r w h hv
  have m:=λx=>Lib.contains_iff_indexByte eE.data.toList x
  have HC:=E2 Tv
  generalize eE=ch at *
  go_enter func184,ntmps184
  go_wp2_with (go_at_call 207;go_must (refine (hU _ _).mono ?_);rintro e f ⟨rfl,rfl⟩;rw [E])
  obtain ⟨B,hB⟩:∃ B,f.heap.size=B:=⟨_,rfl⟩
  have a:(f.iter s 0).heap[B]?=some (.stringIter s 0):=by rw [<- hB];exact World.iter_heap _ _ _
  have F:Below B f (f.iter s 0):=by rw [<- hB];exact (Fl f.heap.size f).alloc (DS _) _
  generalize f.iter s 0=wi at *
  rw [hB]
  have HB:=E2 (show f.heap.size<=B by omega)
  clear hB
  go_loopg [9,10] s.size (λg _ _ wx=>∃ i:Nat,i+g=s.size/\wx.heap[B]?=some (.stringIter s i)/\Below B f wx/\Lib.NoAny s.data.toList ch.data.toList i)
  case atStart=>exact ⟨0,oO,a,F,Lib.NoAny.zero _ _⟩
  case round =>
    obtain ⟨i,K,a,o,v⟩:=hrel
    have HN:=E2 v
    clear v
    cases gk with
    | zero =>
      obtain rfl:i=s.size:=by omega
      have q:=λty=>Lib.run_next_end_at (P:=Tryz.prog) wr B s s.size ty a oO
      go_wp2
      go_ret
      exact ⟨by rw [Lib.indexAny_none (by rw [<- Lib.size_eq];exact HN.out)];rfl,o.mono HB.out⟩
    | succ g =>
      have hi:i<s.size:=by omega
      obtain ⟨x,hx⟩:∃ x:UInt8,s[i]'hi=x:=⟨_,rfl⟩
      have t:s.data.toList[i]?=some x:=by rw [<- hx];exact Lib.data_getElem? s i hi
      by_cases hx128:x.toNat<128
      · have q := fun ty => Lib.run_next_ascii_at (P := Tryz.prog) wr B s i ty a hi (by rw [hx]; exact hx128)
        rw [hx] at q
        have Hx:=E2 t
        have Hit:=E2 (Lib.iterAt_heap wr B s i (i+1) a)
        have Hb2:=E2 (Lib.below_iterAt o (DS B) s (i+1))
        clear t hx a
        have d:=m x
        have l:((x.toNat:Int)).toNat.toUInt8=x:=by simp
        have k:=λw=>hR x.toNat hx128 w
        rw [l] at k
        clear l hR hH m hU
        cases hin:ch.data.toList.contains x
        · rw [hin] at d
          have L:¬ ((0:Int)<=Lib.indexByte ch.data.toList x):=dF d.symm
          clear d
          go_wp2_with (go_at_call 153;go_must (refine (k _).mono ?_);rintro e G ⟨rfl,rfl⟩)
          go_roundg g
          case measure=>omega
          case rel=>exact ⟨i+1,oO,Hit.out,Hb2.out,HN.out.succ Hx.out hin⟩
        · rw [hin] at d
          have M:(0:Int)<=Lib.indexByte ch.data.toList x:=dT d.symm
          clear d
          go_wp2_with (go_at_call 153;go_must (refine (k _).mono ?_);rintro e G ⟨rfl,rfl⟩)
          go_ret
          exact ⟨by rw [Lib.indexAny_hit HN.out Hx.out hin];rfl,Hb2.out.mono HB.out⟩
      · obtain ⟨H, y, N, O, A⟩ := Tx s i hi (by rw [hx]; omega)
        have q:=λty=>Lib.run_next_any_at (P:=Tryz.prog) wr B s i ty a hi
        have u:Lib.NoAny s.data.toList ch.data.toList (i+(Utf8.decode s i).2):=by
          intro j b hj hb
          by_cases hji:j<i
          · exact HN.out j b hji hb
          · have C : j < s.size := by omega
            rw [Lib.data_getElem? s j C] at hb
            have hb2:s[j]=b:=Bi hb
            have D:128<=b.toNat:=by
              by_cases hje:j=i
              · subst hje;rw [<- hb2,hx];omega
              · rw [<- hb2];exact A j oO hj C
            exact HC.out b D
        have Hno2:=E2 u
        clear u A t hx hR m hU
        have k:=λw=>hH _ w H y
        generalize (Utf8.decode s i).1=r at *
        generalize (Utf8.decode s i).2=n at *
        have Hit:=E2 (Lib.iterAt_heap wr B s i (i+n) a)
        have Hb2:=E2 (Lib.below_iterAt o (DS B) s (i+n))
        clear a hH y
        go_wp2_with (go_at_call 153;go_must (refine (k _).mono ?_);rintro e G ⟨rfl,hb3⟩)
        go_roundg (s.size-(i+n))
        case measure=>omega
        case rel=>exact ⟨i+n,oO,(hb3.block B (B5.1 Hit.out).1).trans Hit.out,Hb2.out.trans (hb3.mono (IF (B5.1 Hit.out).1)),Hno2.out⟩
theorem Mk (l:l8_) (w:World) (hl:l.length<=1000) :
    Cl 184 #[.string (bs l),.string eE] w (Ag (YY l)):=by
  have hd:(bs l).data.toList=l:=by rw [<- Lib.toList_data,Fk]
  rw [<- YX]
  by_cases h8:l.length<=8
  · have h := Lz (bs l) w (by rw [BM]; exact h8)
    rw [hd] at h;exact h
  · have hz := zero_of_info (P := Tryz.prog) (t := 155) (v := .agg (Array.replicate 256 (.bool false))) (n := 256) kR
    have h:=Tryz.strings_IndexAny_long hz.1 (bs l) eE w (by rw [KK];omega) (by rw [BM];omega) (by rw [BM];omega) (by rw [KK];omega) (by
      intro j b hj
      have a:eE.data.toList=[101,69]:=rfl
      rw [a] at hj
      have hm:=List.mem_of_getElem? hj
      simp only [A7,A6,Ax] at hm
      rcases hm with rfl | rfl <;> decide)
    rw [hd] at h
    refine h.mono λe w' ⟨c,d⟩=>⟨c,?_⟩
    rw [d]
    exact ((Fl w.heap.size w).alloc (DS _) _).alloc (by simp) _
end
section
def Nc (m:Bool) (p:l8_) (k:Int):FH :=
 if Gw p then
  (if (Fo m (G9 ((C8 p).1 ++ (C8 p).2.1) ((C8 p).1.length + k)) (H6 ((C8 p).1 ++ (C8 p).2.1) ((C8 p).1.length + k))).2 then
   Kp (Fo m (G9 ((C8 p).1++(C8 p).2.1) ((C8 p).1.length+k)) (H6 ((C8 p).1++(C8 p).2.1) ((C8 p).1.length+k))).1
  else FW)
 else Cm
def OU (l:l8_):FH :=
 if (Ei (AX l).2).2.2 then
  (if (GJ (Ei (AX l).2).2.1).2 then Nc (AX l).1 (Ei (AX l).2).1 (GJ (Ei (AX l).2).2.1).1 else Cm)
 else Nc (AX l).1 (AX l).2 0
def FC (l:l8_):FH :=
 if 64<l.length then Cm
 else if (EI l).ok then EI l
 else if (FB l).2 then GF (FB l).1
 else OU l
theorem Xu  {w0 w2:World} (hb1:AL w0 w1) {o:Obj}
  (hb2:Below (w1.alloc o).heap.size (w1.alloc o) w2):AL w0 w2:=by
 have h:AL w0 (w1.alloc o):=hb1.alloc hb1.size o
 exact h.trans (hb2.mono h.size)
theorem Pt (l:l8_) (w:World) (hl:64<l.length) :
  Cl 160 #[.string (bs l)] w Cm.val:=by
 have hs:=BM l
 go_enter func160,ntmps160
 go_wp2_with fail
 exact Cj (v:=Cm.val) (by simp [results,Tryz.results160,go_sem,FH.val,Cm]) rfl ⟨rfl,F0 (Fl _ _)⟩
theorem NZ (l:l8_) (w:World) (hl:l.length<=64) (h:(EI l).ok=true) :
  Calls Tryz.prog 160 #[.string (bs l)] w λe w'=>e=.returned (EI l).val/\AL w w':=by
 have hs:=BM l
 have hR:=λw=>KL l w oO
 generalize EI l=R at *
 obtain ⟨k,n,ok,er⟩:=R
 simp only at h
 subst h
 simp only [FH.val] at hR ⊢
 go_enter func160,ntmps160
 go_wp2_with (go_at_call 182;go_must (refine (hR _).mono ?_);rintro e d ⟨rfl,hb1⟩;obtain ⟨b,c1,c,f0,f1,f2⟩:=C9 hb1;have a:=hb1.size;simp at a;replace a:=CS a)
 refine Cj (v:=.tuple #[.agg #[Ag k,Ag n,.string ⟨#[]⟩],.bool true,Ag er]) (by simp [results,Tryz.results160,go_sem,b,c1,c,a]) rfl ⟨rfl,(GA (F0 hb1) _ _ _).alloc (by simp;omega) _⟩
theorem NY (l:l8_) (w:World) (hl:l.length<=64) (h:(EI l).ok=false) (h2:(FB l).2=true) :
  Calls Tryz.prog 160 #[.string (bs l)] w λe w'=>e=.returned (GF (FB l).1).val/\AL w w':=by
 have hs:=BM l
 have hR:=λw=>KL l w oO
 have hW:=λw=>Ni l w oO
 generalize EI l=R at *
 generalize FB l=V at *
 obtain ⟨k,n,ok,er⟩:=R
 obtain ⟨v,vok⟩:=V
 simp only at h h2
 subst h h2
 simp only [FH.val,GF] at hR hW ⊢
 go_enter func160,ntmps160
 go_wp2_with first | (go_at_call 182;go_must (refine (hR _).mono ?_);rintro e d ⟨rfl,hb1⟩;obtain ⟨b,c1,c,f0,f1,f2⟩:=C9 hb1;have a:=hb1.size;simp at a;replace a:=CS a) | (go_at_call 183;go_must (refine (hW _).mono ?_);rintro e f ⟨rfl,hb2⟩;replace hb2:=Xu hb1 hb2;clear b c1 c f0 f1 f2;obtain ⟨b,c1,c,f0,f1,f2⟩:=C9 hb2)
 refine Cj (v:=.tuple #[.agg #[Ag 1,Ag v,.string ⟨#[]⟩],.bool true,Ag 0]) (by simp [results,Tryz.results160,go_sem,b,c1,c]) rfl ⟨rfl,GA (F0 hb2) _ _ _⟩
theorem RE (l:l8_):-1000<=(GJ l).1/\(GJ l).1<=1000:=by
 unfold GJ
 split
 · simp
 ·
  next h =>
  simp only [CD,AI,BE,not_or,Bool.not_eq_false] at h
  obtain ⟨⟨b,c⟩,a⟩:=h
  have d:=H9 (AX l).2 (AP.1 a)
  have e:10 ^ (AX l).2.length<=10 ^ 3:=Nat.pow_le_pow_right dD oO
  generalize Ck (AX l).2=N at *
  split
  · simp only;omega
  · simp only;omega
theorem O1 (l:l8_) (w:World) (hl:l.length<=64) (h:(EI l).ok=false) (h2:(FB l).2=false) (h3:(Ei (AX l).2).2.2=false) :
  Calls Tryz.prog 160 #[.string (bs l)] w λe w'=>e=.returned (Nc (AX l).1 (AX l).2 0).val/\AL w w':=by
 have hs:=BM l
 have hR:=λw=>KL l w oO
 have hW:=λw=>Ni l w oO
 have hS:=λw=>Ig l w oO
 have j:=H5 l
 generalize EI l=R at *
 generalize FB l=V at *
 generalize AX l=sr at *
 obtain ⟨k,n,ok,er⟩:=R
 obtain ⟨v,vok⟩:=V
 obtain ⟨m,r⟩:=sr
 simp only at h h2 h3 j hS ⊢
 subst h h2
 simp only [FH.val] at hR hW
 have hI:∀ w,Cl 184 #[.string (bs r),.string ⟨#[101,69]⟩] w (Ag (-1)):=λw=>by
  have h:=Mk r w oO
  unfold YY at h
  rw [h3] at h
  exact h
 have hM:=λw=>Jt r w oO
 have o:=Jv r
 have g:=IN r
 unfold Nc
 generalize Gw r=ok at *
 generalize C8 r=pq at *
 obtain ⟨A,B,f⟩:=pq
 simp only at hM g o
 clear h3
 cases ok with
 | false =>
  clear g
  go_enter func160,ntmps160
  go_wp2_with first | (go_at_call 182;go_must (refine (hR _).mono ?_);rintro e s ⟨rfl,hb1⟩;obtain ⟨a,c1,b,f0,f1,f2⟩:=C9 hb1;have d:=hb1.size;simp at d;replace d:=CS d) | (go_at_call 183;go_must (refine (hW _).mono ?_);rintro e t ⟨rfl,hb2⟩;replace hb2:=Xu hb1 hb2;clear a c1 b f0 f1 f2;obtain ⟨a,c1,b,f0,f1,f2⟩:=C9 hb2) | (go_at_call 179;go_must (refine (hS _).mono ?_);rintro e u ⟨rfl,hb3⟩;replace hb3:=Ci hb2 hb3;clear a c1 b f0 f1 f2;obtain ⟨a,c1,b,f0,f1,f2⟩:=C9 hb3) | (go_at_call 184;go_must (refine (hI _).mono ?_);rintro e x ⟨rfl,hb4⟩;replace hb4:=Ci hb3 hb4;clear a c1 b f0 f1 f2;obtain ⟨a,c1,b,f0,f1,f2⟩:=C9 hb4) | (go_at_call 180;go_must (refine (hM _).mono ?_);rintro e y ⟨rfl,hb5⟩;replace hb5:=Ci hb4 hb5;clear a c1 b f0 f1 f2;obtain ⟨a,c1,b,f0,f1,f2⟩:=C9 hb5)
  exact Cj (v:=Cm.val) (by simp [results,Tryz.results160,go_sem,a,c1,b,FH.val,Cm]) rfl ⟨rfl,GA (F0 hb5) _ _ _⟩
 | true =>
  obtain ⟨hA,hB⟩:=g rfl
  rw [A5 rfl]
  have i:∀ c∈A++B,BN c=true:=by
   intro c hc
   rcases Bj.1 hc with h | h
   · exact hA c h
   · exact hB c h
  have q:=λw=>Rb A B 0 w oO oO oO
  have hV:=λw=>Nj m (G9 (A++B) (A.length+0)) (H6 (A++B) (A.length+0)) w (by simp [H6];omega) (KS _ _ i) (M0 _ _ i)
  clear g hA hB i
  simp only
  generalize G9 (A++B) (A.length+0)=W at *
  generalize H6 (A++B) (A.length+0)=D at *
  generalize Fo m W D=vv at *
  obtain ⟨C,fit⟩:=vv
  simp only at hV
  cases fit
  all_goals
   go_enter func160,ntmps160
   go_wp2_with first | (go_at_call 182;go_must (refine (hR _).mono ?_);rintro e s ⟨rfl,hb1⟩;obtain ⟨a,c1,b,f0,f1,f2⟩:=C9 hb1;have d:=hb1.size;simp at d;replace d:=CS d) | (go_at_call 183;go_must (refine (hW _).mono ?_);rintro e t ⟨rfl,hb2⟩;replace hb2:=Xu hb1 hb2;clear a c1 b f0 f1 f2;obtain ⟨a,c1,b,f0,f1,f2⟩:=C9 hb2) | (go_at_call 179;go_must (refine (hS _).mono ?_);rintro e u ⟨rfl,hb3⟩;replace hb3:=Ci hb2 hb3;clear a c1 b f0 f1 f2;obtain ⟨a,c1,b,f0,f1,f2⟩:=C9 hb3) | (go_at_call 184;go_must (refine (hI _).mono ?_);rintro e x ⟨rfl,hb4⟩;replace hb4:=Ci hb3 hb4;clear a c1 b f0 f1 f2;obtain ⟨a,c1,b,f0,f1,f2⟩:=C9 hb4) | (go_at_call 180;go_must (refine (hM _).mono ?_);rintro e y ⟨rfl,hb5⟩;replace hb5:=Ci hb4 hb5;clear a c1 b f0 f1 f2;obtain ⟨a,c1,b,f0,f1,f2⟩:=C9 hb5) | (go_at_call 186;go_must (refine (q _).mono ?_);rintro e E ⟨rfl,V4⟩;replace V4:=Ci hb5 V4;clear a c1 b f0 f1 f2;obtain ⟨a,c1,b,f0,f1,f2⟩:=C9 V4) | (go_at_call 181;go_must (refine (hV _).mono ?_);rintro e F ⟨rfl,Z2⟩;replace Z2:=Ci V4 Z2;clear a c1 b f0 f1 f2;obtain ⟨a,c1,b,f0,f1,f2⟩:=C9 Z2)
  · exact Cj (v:=FW.val) (by simp [results,Tryz.results160,go_sem,a,c1,b,FH.val,FW]) rfl ⟨rfl,GA (F0 Z2) _ _ _⟩
  · exact Cj (v:=(Kp C).val) (by simp [results,Tryz.results160,go_sem,a,c1,b,FH.val,Kp]) rfl ⟨rfl,GA (F0 Z2) _ _ _⟩
theorem O0 (l:l8_) (w:World) (hl:l.length<=64) (h:(EI l).ok=false) (h2:(FB l).2=false) (h3:(Ei (AX l).2).2.2=true) :
  Calls Tryz.prog 160 #[.string (bs l)] w λe w'=>e=.returned (if (GJ (Ei (AX l).2).2.1).2 then Nc (AX l).1 (Ei (AX l).2).1 (GJ (Ei (AX l).2).2.1).1 else Cm).val/\AL w w':=by
 have hs:=BM l
 have hR:=λw=>KL l w oO
 have hW:=λw=>Ni l w oO
 have hS:=λw=>Ig l w oO
 have j:=H5 l
 generalize EI l=R at *
 generalize FB l=V at *
 generalize AX l=sr at *
 obtain ⟨k,n,ok,er⟩:=R
 obtain ⟨v,vok⟩:=V
 obtain ⟨m,r⟩:=sr
 simp only at h h2 h3 j hS ⊢
 subst h h2
 simp only [FH.val] at hR hW
 have hI:=λw=>Mk r w oO
 obtain ⟨x,-,g⟩:=Qm r h3
 have s:=Zt r
 unfold YY at hI
 generalize Ei r=cc at *
 obtain ⟨p,q,fd⟩:=cc
 simp only at h3 g hI s ⊢
 subst h3
 rw [A5 rfl] at hI
 change ∀ w,Calls Tryz.prog 184 #[.string (bs r),.string ⟨#[101,69]⟩] w _ at hI
 have y:(bs r).size=p.length+(q.length+1):=by rw [BM,g];simp
 have N:(bs r).extract (p.length+1) (p.length+(q.length+1))=bs q:=by
  rw [<- y,Ps _ _ _ (BM r),g,List.append_cons,List.drop_left' (by simp)]
 have O:(bs r).extract 0 p.length=bs p:=by
  rw [Pr,g];simp
 have hP:=λw=>Xo q w oO
 obtain ⟨t,u⟩:=RE q
 have P:p.length+(q.length+1)<=64:=by have h:=BM r;omega
 have hM:=λw=>Jt p w oO
 have C:=Jv p
 have i:=IN p
 generalize GJ q=pw at *
 obtain ⟨by',pok⟩:=pw
 unfold Nc
 simp only at hP t u ⊢
 clear g j s
 cases pok with
 | false =>
  clear i
  go_enter func160,ntmps160
  go_wp2_with first | (go_at_call 182;go_must (refine (hR _).mono ?_);rintro e E ⟨rfl,hb1⟩;obtain ⟨a,c1,b,f0,f1,f2⟩:=C9 hb1;have d:=hb1.size;simp at d;replace d:=CS d) | (go_at_call 183;go_must (refine (hW _).mono ?_);rintro e F ⟨rfl,hb2⟩;replace hb2:=Xu hb1 hb2;clear a c1 b f0 f1 f2;obtain ⟨a,c1,b,f0,f1,f2⟩:=C9 hb2) | (go_at_call 179;go_must (refine (hS _).mono ?_);rintro e G ⟨rfl,hb3⟩;replace hb3:=Ci hb2 hb3;clear a c1 b f0 f1 f2;obtain ⟨a,c1,b,f0,f1,f2⟩:=C9 hb3) | (go_at_call 184;go_must (refine (hI _).mono ?_);rintro e H ⟨rfl,hb4⟩;replace hb4:=Ci hb3 hb4;clear a c1 b f0 f1 f2;obtain ⟨a,c1,b,f0,f1,f2⟩:=C9 hb4) | (go_at_call 185;go_must (refine (hP _).mono ?_);rintro e J ⟨rfl,hb5⟩;replace hb5:=Ci hb4 hb5;clear a c1 b f0 f1 f2;obtain ⟨a,c1,b,f0,f1,f2⟩:=C9 hb5)
  exact Cj (v:=Cm.val) (by simp [results,Tryz.results160,go_sem,a,c1,b,FH.val,Cm]) rfl ⟨rfl,GA (F0 hb5) _ _ _⟩
 | true =>
  rw [A5 rfl]
  generalize Gw p=ok at *
  generalize C8 p=pq at *
  obtain ⟨A,B,f⟩:=pq
  simp only at hM i C
  cases ok with
  | false =>
   clear i
   go_enter func160,ntmps160
   go_wp2_with first | (go_at_call 182;go_must (refine (hR _).mono ?_);rintro e E ⟨rfl,hb1⟩;obtain ⟨a,c1,b,f0,f1,f2⟩:=C9 hb1;have d:=hb1.size;simp at d;replace d:=CS d) | (go_at_call 183;go_must (refine (hW _).mono ?_);rintro e F ⟨rfl,hb2⟩;replace hb2:=Xu hb1 hb2;clear a c1 b f0 f1 f2;obtain ⟨a,c1,b,f0,f1,f2⟩:=C9 hb2) | (go_at_call 179;go_must (refine (hS _).mono ?_);rintro e G ⟨rfl,hb3⟩;replace hb3:=Ci hb2 hb3;clear a c1 b f0 f1 f2;obtain ⟨a,c1,b,f0,f1,f2⟩:=C9 hb3) | (go_at_call 184;go_must (refine (hI _).mono ?_);rintro e H ⟨rfl,hb4⟩;replace hb4:=Ci hb3 hb4;clear a c1 b f0 f1 f2;obtain ⟨a,c1,b,f0,f1,f2⟩:=C9 hb4) | (go_at_call 185;go_must (refine (hP _).mono ?_);rintro e J ⟨rfl,hb5⟩;replace hb5:=Ci hb4 hb5;clear a c1 b f0 f1 f2;obtain ⟨a,c1,b,f0,f1,f2⟩:=C9 hb5) | (go_at_call 180;go_must (refine (hM _).mono ?_);rintro e L ⟨rfl,V4⟩;replace V4:=Ci hb5 V4;clear a c1 b f0 f1 f2;obtain ⟨a,c1,b,f0,f1,f2⟩:=C9 V4)
   exact Cj (v:=Cm.val) (by simp [results,Tryz.results160,go_sem,a,c1,b,FH.val,Cm]) rfl ⟨rfl,GA (F0 V4) _ _ _⟩
  | true =>
   obtain ⟨hA,hB⟩:=i rfl
   rw [A5 rfl]
   have o:∀ c∈A++B,BN c=true:=by
    intro c hc
    rcases Bj.1 hc with h | h
    · exact hA c h
    · exact hB c h
   have K:=λw=>Rb A B by' w oO oO oO
   have hV:=λw=>Nj m (G9 (A++B) (A.length+by')) (H6 (A++B) (A.length+by')) w (by simp [H6];omega) (KS _ _ o) (M0 _ _ o)
   clear i hA hB o
   simp only
   generalize G9 (A++B) (A.length+by')=W at *
   generalize H6 (A++B) (A.length+by')=D at *
   generalize Fo m W D=vv at *
   obtain ⟨M,fit⟩:=vv
   simp only at hV
   cases fit
   all_goals
    go_enter func160,ntmps160
    go_wp2_with first | (go_at_call 182;go_must (refine (hR _).mono ?_);rintro e E ⟨rfl,hb1⟩;obtain ⟨a,c1,b,f0,f1,f2⟩:=C9 hb1;have d:=hb1.size;simp at d;replace d:=CS d) | (go_at_call 183;go_must (refine (hW _).mono ?_);rintro e F ⟨rfl,hb2⟩;replace hb2:=Xu hb1 hb2;clear a c1 b f0 f1 f2;obtain ⟨a,c1,b,f0,f1,f2⟩:=C9 hb2) | (go_at_call 179;go_must (refine (hS _).mono ?_);rintro e G ⟨rfl,hb3⟩;replace hb3:=Ci hb2 hb3;clear a c1 b f0 f1 f2;obtain ⟨a,c1,b,f0,f1,f2⟩:=C9 hb3) | (go_at_call 184;go_must (refine (hI _).mono ?_);rintro e H ⟨rfl,hb4⟩;replace hb4:=Ci hb3 hb4;clear a c1 b f0 f1 f2;obtain ⟨a,c1,b,f0,f1,f2⟩:=C9 hb4) | (go_at_call 185;go_must (refine (hP _).mono ?_);rintro e J ⟨rfl,hb5⟩;replace hb5:=Ci hb4 hb5;clear a c1 b f0 f1 f2;obtain ⟨a,c1,b,f0,f1,f2⟩:=C9 hb5) | (go_at_call 180;go_must (refine (hM _).mono ?_);rintro e L ⟨rfl,V4⟩;replace V4:=Ci hb5 V4;clear a c1 b f0 f1 f2;obtain ⟨a,c1,b,f0,f1,f2⟩:=C9 V4) | (go_at_call 186;go_must (refine (K _).mono ?_);rintro e Q ⟨rfl,Z2⟩;replace Z2:=Ci V4 Z2;clear a c1 b f0 f1 f2;obtain ⟨a,c1,b,f0,f1,f2⟩:=C9 Z2) | (go_at_call 181;go_must (refine (hV _).mono ?_);rintro e T ⟨rfl,hb8⟩;replace hb8:=Ci Z2 hb8;clear a c1 b f0 f1 f2;obtain ⟨a,c1,b,f0,f1,f2⟩:=C9 hb8)
   · exact Cj (v:=FW.val) (by simp [results,Tryz.results160,go_sem,a,c1,b,FH.val,FW]) rfl ⟨rfl,GA (F0 hb8) _ _ _⟩
   · exact Cj (v:=(Kp M).val) (by simp [results,Tryz.results160,go_sem,a,c1,b,FH.val,Kp]) rfl ⟨rfl,GA (F0 hb8) _ _ _⟩
theorem Rc (l:l8_) (w:World) :
  Calls Tryz.prog 160 #[.string (bs l)] w λe w'=>e=.returned (FC l).val/\AL w w':=by
 unfold FC
 by_cases hl:64<l.length
 · rw [A5 hl];exact Pt l w hl
 ·
  rw [A2 hl]
  have hl':l.length<=64:=by omega
  cases h:(EI l).ok with
  | true=>rw [A5 rfl];exact NZ l w hl' h
  | false =>
   rw [A2 dD]
   cases h2:(FB l).2 with
   | true=>rw [A5 rfl];exact NY l w hl' h h2
   | false =>
    rw [A2 dD]
    unfold OU
    cases h3:(Ei (AX l).2).2.2 with
    | true=>rw [A5 rfl];exact O0 l w hl' h h2 h3
    | false=>rw [A2 dD];exact O1 l w hl' h h2 h3
end
section
def Yo (l:l8_):FH :=
 if (Ei l).2.2 then
  (if (GJ (Ei l).2.1).2 then Nc (AX (Ei l).1).1 (AX (Ei l).1).2 (GJ (Ei l).2.1).1 else Cm)
 else Nc (AX (Ei l).1).1 (AX (Ei l).1).2 0
theorem Su (l:l8_):AX (Ei l).1=((AX l).1,(Ei (AX l).2).1)/\(Ei l).2=(Ei (AX l).2).2:=by
  cases l with
  | nil=>exact ⟨rfl,rfl⟩
  | cons c r =>
    by_cases hE:isE c=true
    · have a : c ≠ 45 := by rintro rfl; exact Dp hE dD
      have b:c≠43:=by rintro rfl;exact Dp hE dD
      simp [AX,Ei,hE,a,b]
    · have hE' : isE c = false := by simpa using hE
      by_cases a:c=45
      · subst a;simp [AX,Ei,hE']
      · by_cases b : c = 43
        · subst b;simp [AX,Ei,hE']
        · simp [AX,Ei,hE',a,b]
theorem Yn (l:l8_):Yo l=OU l:=by
 obtain ⟨a,b⟩:=Su l
 unfold Yo OU
 rw [a,b]
 cases hf:(Ei (AX l).2).2.2 with
 | true=>rfl
 | false =>
  simp only [BV,if_false]
  rw [(S7 _ hf).1]
theorem Sv (c:UInt8) (r:l8_) (h:BN c=true):AX (c::r)=(false,c::r):=by
 have a:c≠45:=by rintro rfl;exact Dp h dD
 have b:c≠43:=by rintro rfl;exact Dp h dD
 simp [AX,a,b]
theorem Rr (l:l8_) (hl:l.length<=64) (h:Iv l=false):FC l=if (FB l).2 then GF (FB l).1 else Yo l:=by
 have hr:(EI l).ok=false:=by unfold EI;rw [h];rfl
 unfold FC
 rw [A2 oO,hr,Yn]
 rfl
end
section
def CJ (c:UInt8):Bool:=c == 0 || c == 9 || c == 10 || c == 12 || c == 13 || c == 32
def NX (c:UInt8):Bool:=c == 10 || c == 12 || c == 13
def GP (c:UInt8):Bool:=c == 40 || c == 41 || c == 60 || c == 62 || c == 91 || c == 93 || c == 123 || c == 125 || c == 47 || c == 37
def D1 (c:UInt8):Bool:=!CJ c && !GP c
theorem V7 {c:UInt8} (h:NX c=true):CJ c=true:=by
 simp only [NX,CD,beq_iff_eq] at h
 rcases h with (rfl | rfl) | rfl <;> rfl
def DA:Bool->l8_->l8_
 | _,[]=>[]
 | false,c::r=>if c=37 then DA true r else if CJ c then DA false r else c::r
 | true,c::r=>if NX c then DA false (r) else DA true r
theorem HT:∀ (l:l8_) (m:Bool),(DA m l).length<=l.length
 | [],m=>by cases m <;> simp [DA]
 | c::r,false=>by
  have h1:=HT r true;have h2:=HT r false
  simp only [DA];split
  · simp;omega
  · split <;> simp <;> omega
 | c::r,true=>by
  have h1:=HT r true;have h2:=HT r false
  simp only [DA];split <;> simp <;> omega
theorem Gr:∀ (l:l8_) (m:Bool),∃ k,k<=l.length/\DA m l=l.drop k
 | [],m=>⟨0,DS _,by cases m <;> rfl⟩
 | c::r,false=>by
  obtain ⟨k1,a1,b1⟩:=Gr r true;obtain ⟨k2,a2,b2⟩:=Gr r false
  simp only [DA];split
  · exact ⟨k1+1,by simp;omega,by rw [b1];rfl⟩
  ·
   split
   · exact ⟨k2+1,by simp;omega,by rw [b2];rfl⟩
   · exact ⟨0,FN _,rfl⟩
 | c::r,true=>by
  obtain ⟨k1,a1,b1⟩:=Gr r true;obtain ⟨k2,a2,b2⟩:=Gr r false
  simp only [DA];split
  · exact ⟨k2+1,by simp;omega,by rw [b2];rfl⟩
  · exact ⟨k1+1,by simp;omega,by rw [b1];rfl⟩
def Hs:l8_->l8_
 | c::r=>if c=10 then r else c::r
 | []=>[]
theorem LI (l:l8_):(Hs l).length<=l.length:=by
 cases l with
 | nil=>simp [Hs]
 | cons c r=>simp only [Hs];split <;> simp
def NU (c:UInt8):Bool:=decide (48<=c.toNat) && decide (c.toNat<=55)
def Lt:Nat->Nat->l8_->Nat × l8_
 | 0,n,l=>(n,l)
 | _+1,n,[]=>(n,[])
 | k+1,n,c::r=>if NU c then Lt k (8 * n+(c.toNat-48)) r else (n,c::r)
theorem SW:∀ (k n:Nat) (l:l8_),(Lt k n l).2.length<=l.length
 | 0,n,l=>DS _
 | _+1,n,[]=>DS _
 | k+1,n,c::r=>by
  have:=SW k (8 * n+(c.toNat-48)) r
  simp only [Lt];split <;> simp <;> omega
def Hf (c:UInt8) (r:l8_):l8_ × l8_ :=
 if c=110 then ([10],r) else if c=114 then ([13],r) else if c=116 then ([9],r) else if c=98 then ([8],r) else if c=102 then ([12],r)
 else if c=10 then ([],r) else if c=13 then ([],Hs r)
 else if NU c then ([ch ((Lt 2 (c.toNat-48) r).1 % 256:Nat)],(Lt 2 (c.toNat-48) r).2) else ([c],r)
theorem Ts (c:UInt8) (r:l8_):(Hf c r).2.length<=r.length:=by
 have a:=LI r
 have b:=SW 2 (c.toNat-48) r
 unfold Hf
 repeat' split
 all_goals first | exact DS _ | assumption
def D0 (d:Nat) (o:l8_) (l:l8_):Option (l8_ × l8_) :=
 match l with
 | []=>none
 | c::r =>
  if c=40 then D0 (d+1) (o++[c]) r
  else if c=41 then (if d=1 then some (o,r) else D0 (d-1) (o++[c]) r)
  else if c=92 then
   match r with
   | []=>none
   | e::r'=>D0 d (o++(Hf e r').1) (Hf e r').2
  else if c=13 then D0 d (o++[10]) (Hs r)
  else D0 d (o++[c]) r
termination_by l.length
decreasing_by
 all_goals simp_wf
 · have:=Ts e r';omega
 · have:=LI r;omega
def YZ (c:UInt8):Option Nat:=if DQ c<16 then some (DQ c) else none
def Kb:Option Nat->l8_->l8_->Option (l8_ × l8_)
 | _,_,[]=>none
 | h,o,c::r =>
  if CJ c then Kb h o r
  else if c=62 then some (match h with | none=>o | some x=>o++[ch (x * 16:Nat)],r)
  else match YZ c with
   | none=>none
   | some d=>match h with
    | none=>Kb (some d) o r
    | some x=>Kb none (o++[ch (x * 16+d:Nat)]) r
structure JB where
 kind:Int
 n:Int
 text:l8_
def JB.val (t:JB):Value:=.agg #[Ag t.kind,Ag t.n,.string (bs t.text)]
abbrev TI:=Except Int (JB × l8_)
def Gp (o:Option (l8_ × l8_)):TI :=
 match o with
 | none=>.error 14
 | some (s,r)=>if 65535<s.length then .error 9 else .ok (⟨6,0,s⟩,r)
def HG (k:Int) (l:l8_):TI :=
 if 127<(l.takeWhile D1).length then .error 9 else .ok (⟨k,0,l.takeWhile D1⟩,l.dropWhile D1)
def Ki (c:UInt8) (r:l8_):TI :=
 match r with
 | d::r'=>if d=c then .ok (⟨3,0,[c,c]⟩,r') else if c=60 then Gp (Kb none [] (d::r')) else .error 14
 | []=>if c=60 then Gp (Kb none [] []) else .error 14
def Ll (r:l8_):TI :=
 match r with
 | d::r'=>if d=47 then HG 5 r' else HG 4 (d::r')
 | []=>HG 4 []
def Sl (l:l8_):TI :=
 let t:=FC (l.takeWhile D1)
 if t.e≠0 then .error t.e else if t.ok then .ok (⟨t.kind,t.n,[]⟩,l.dropWhile D1) else HG 3 l
def Lk (l:l8_):TI :=
 match DA false l with
 | []=>.ok (⟨0,0,[]⟩,[])
 | c::r =>
  if c=40 then Gp (D0 1 [] r)
  else if c=41 then .error 14
  else if c=60\/c=62 then Ki c r
  else if c=123 then .ok (⟨7,0,[]⟩,r)
  else if c=125 then .ok (⟨8,0,[]⟩,r)
  else if c=91\/c=93 then .ok (⟨3,0,[c]⟩,r)
  else if c=47 then Ll r
  else Sl (c::r)
end
section
def JG (n:Int):l8_:=if n<0 then [45] else []
def GE (n:Int):l8_:=B0 (n.natAbs / 65536)
def IW (n:Int):l8_:=Hc (n.natAbs % 65536)
def norm (n:Int):Int:=if Db n then n else 0
end
section
theorem VI (n:Int):-2147483648<=norm n:=by unfold norm Db;split <;> simp at * <;> omega
theorem VJ (n:Int):norm n<=2147483647:=by unfold norm Db;split <;> simp at * <;> omega
theorem U7 (n:Int):(bs (JG n)).size<=1:=by rw [BM];unfold JG;split <;> simp
theorem Nt (n:Int) (h:-2147483648<=n) (h':n<=2147483647):(bs (GE n)).size<=20:=HL _ oO
theorem Um (n:Int):(bs (IW n)).size<=16:=by rw [BM];exact J6 _
def Gu (n:Int):l8_:=JG n++GE n++(if IW n=[] then [] else 46::IW n)
def H7 (n:Int):l8_:=JG n++GE n++46::(if IW n=[] then [48] else IW n)
theorem LZ {a b:ByteArray} (h:a=b):Ending.returned (.string a)=Ending.returned (.string b):=by rw [h]
theorem Ti (f:Nat) (h:0<f) (h':f<65536):Hc f≠[]:=by rw [LE f h h'];simp
theorem MW (n:Int):IW n=[]↔n.natAbs % 65536=0:=by
 unfold IW
 constructor
 ·
  intro h
  by_cases h0:n.natAbs % 65536=0
  · exact h0
  · exact Dp h (Ti _ oO oO)
 · intro h;rw [h,Jo]
end
section
theorem Cf {c d:UInt8} (h:(c.toNat:Int)=(d.toNat:Int)):c=d:=UInt8.toNat_inj.1 oO
theorem D6 {c d:UInt8} (h:¬ (c.toNat:Int)=(d.toNat:Int)):c≠d:=λe=>h (by rw [e])
theorem Gn (c d:UInt8):decide ((c.toNat:Int)=(d.toNat:Int))=(c == d):=by
 by_cases h:c=d
 · subst h;simp
 · rw [beq_false_of_ne h];exact AH λe=>h (Cf e)
theorem PX (c:UInt8) (w:World) :
  Calls Tryz.prog 67 #[.int .u8 (c.toNat:Int)] w λe w'=>e=.returned (.bool (GP c))/\w=w':=by
 obtain ⟨R,hR⟩:=eX (GP c)
 rw [<- hR]
 unfold GP at hR
 rw [<- Gn c 40,<- Gn c 41,<- Gn c 60,<- Gn c 62,<- Gn c 91,<- Gn c 93,<- Gn c 123,<- Gn c 125,<- Gn c 47,<- Gn c 37] at hR
 refine AF func67 rfl ntmps67<|A4<|A8 rfl<|Ad<|A4<|A3 rfl<|A0<|AT<|Ad<|A4<|A1 (.eql rfl rfl)<|A8 rfl<|Ai rfl (λb=>?_) (λb=>?_)
 have o:=dT b
 refine As<|BZ rfl b<|A4<|A8 rfl<|AY ?_
 exact ⟨Cu (by rw [hR];simp_all),rfl⟩
 have o:=dF b
 refine A4<|A1 (.eql rfl rfl)<|A8 rfl<|Ai rfl (λd=>?_) (λd=>?_)
 have q:=dT d
 refine As<|BZ rfl d<|A4<|A8 rfl<|AY ?_
 exact ⟨Cu (by rw [hR];simp_all),rfl⟩
 have q:=dF d
 refine A4<|A1 (.eql rfl rfl)<|A8 rfl<|Ai rfl (λf=>?_) (λf=>?_)
 have s:=dT f
 refine As<|BZ rfl f<|A4<|A8 rfl<|AY ?_
 exact ⟨Cu (by rw [hR];simp_all),rfl⟩
 have s:=dF f
 refine A4<|A1 (.eql rfl rfl)<|A8 rfl<|Ai rfl (λg=>?_) (λg=>?_)
 have t:=dT g
 refine As<|BZ rfl g<|A4<|A8 rfl<|AY ?_
 exact ⟨Cu (by rw [hR];simp_all),rfl⟩
 have t:=dF g
 refine A4<|A1 (.eql rfl rfl)<|A8 rfl<|Ai rfl (λh=>?_) (λh=>?_)
 have u:=dT h
 refine As<|BZ rfl h<|A4<|A8 rfl<|AY ?_
 exact ⟨Cu (by rw [hR];simp_all),rfl⟩
 have u:=dF h
 refine A4<|A1 (.eql rfl rfl)<|A8 rfl<|Ai rfl (λi=>?_) (λi=>?_)
 have v:=dT i
 refine As<|BZ rfl i<|A4<|A8 rfl<|AY ?_
 exact ⟨Cu (by rw [hR];simp_all),rfl⟩
 have v:=dF i
 refine A4<|A1 (.eql rfl rfl)<|A8 rfl<|Ai rfl (λj=>?_) (λj=>?_)
 have x:=dT j
 refine As<|BZ rfl j<|A4<|A8 rfl<|AY ?_
 exact ⟨Cu (by rw [hR];simp_all),rfl⟩
 have x:=dF j
 refine A4<|A1 (.eql rfl rfl)<|A8 rfl<|Ai rfl (λk=>?_) (λk=>?_)
 have y:=dT k
 refine As<|BZ rfl k<|A4<|A8 rfl<|AY ?_
 exact ⟨Cu (by rw [hR];simp_all),rfl⟩
 have y:=dF k
 refine A4<|A1 (.eql rfl rfl)<|A8 rfl<|Ai rfl (λl=>?_) (λl=>?_)
 have A:=dT l
 refine As<|BZ rfl l<|A4<|A8 rfl<|AY ?_
 exact ⟨Cu (by rw [hR];simp_all),rfl⟩
 have A:=dF l
 refine An<|A1 (.eql rfl rfl)<|A8 rfl<|Ai rfl (λa=>?_) (λa=>?_)
 have m:=dT a
 refine A4<|A8 rfl<|AY ?_
 exact ⟨Cu (by rw [hR];simp_all),rfl⟩
 have m:=dF a
 refine As<|A4<|A8 rfl<|AY ?_
 exact ⟨Cu (by rw [hR];simp_all),rfl⟩
theorem FD (q:UInt8->Bool) (l:l8_) (t:Nat) (h:t<l.length):(l.drop t).takeWhile q=if q l[t] then l[t]::(l.drop (t+1)).takeWhile q else []:=by
 rw [Aw h,List.takeWhile_cons]
def Bq (l:l8_) (t:Nat):Nat:=t+((l.drop t).takeWhile D1).length
theorem EV (l:l8_) (t:Nat) (h:t<=l.length):t<=Bq l t/\Bq l t<=l.length:=by
 have a:=(List.takeWhile_sublist D1 (l:=l.drop t)).length_le
 rw [Aq] at a
 unfold Bq;omega
def AW (m:Bool) (l:l8_) (t:Nat):Nat:=l.length-(DA m (l.drop t)).length
theorem E3 (m:Bool) (l:l8_) (t:Nat):AW m l t<=l.length:=Nat.sub_le _ _
theorem H0 (m:Bool) (l:l8_) (t:Nat):l.drop (AW m l t)=DA m (l.drop t):=by
 obtain ⟨k,a,b⟩:=Gr (l.drop t) m
 unfold AW
 rw [b,DU,Aq]
 rw [Aq] at a
 by_cases h:t+k<=l.length
 · congr 1;omega
 · rw [Bv oO,Bv oO]
theorem OM (l:l8_) (t:Nat) (h:t<l.length):AW false l t=if l[t]=37 then AW true l (t+1) else if CJ l[t] then AW false l (t+1) else t:=by
 unfold AW
 rw [Aw h]
 simp only [DA]
 split
 · rfl
 ·
  split
  · rfl
  · simp;omega
theorem JS (l:l8_) (t:Nat) (h:t<l.length):AW true l t=if NX l[t] then AW false l (t+1) else AW true l (t+1):=by
 unfold AW
 rw [Aw h]
 simp only [DA]
 split <;> rfl
theorem Jg (m:Bool) (l:l8_) (t:Nat) (h:l.length<=t):AW m l t=l.length:=by
 unfold AW
 rw [Bv h];cases m <;> simp [DA]
theorem U6 (l:l8_) (t:Nat) (h:t<l.length->NX l[t]! = true):AW true l t=AW false l t:=by
 by_cases ht:t<l.length
 ·
  have he:=h ht
  rw [getElem!_pos l t ht] at he
  rw [JS l t ht,A5 he,OM l t ht,A5 (V7 he),A2 (by rintro e;rw [e] at he;cases he)]
 · rw [Jg true l t oO,Jg false l t oO]
def Qn (l:l8_) (t:Nat):Bool:=decide (t<l.length) && !(decide (((l[t]!).toNat:Int)=10) || decide (((l[t]!).toNat:Int)=12) || decide (((l[t]!).toNat:Int)=13))
theorem On (l:l8_) (t:Nat):Qn l t=(decide (t<l.length) && !NX l[t]!):=by
 unfold Qn NX
 rw [<- Gn _ 10,<- Gn _ 12,<- Gn _ 13];rfl
theorem Zv  {t:Nat} (h:Qn l t=true):∃ ht:t<l.length,NX (l[t]'ht)=false:=by
 rw [On] at h
 simp only [AG,AI,BE] at h
 obtain ⟨a,b⟩:=h
 rw [getElem!_pos l t a] at b
 exact ⟨a,b⟩
theorem Zw  {t:Nat} (h:Qn l t=false):AW true l t=AW false l t/\(∀ ht:t<l.length,(l[t]'ht)≠37):=by
 rw [On] at h
 have a:t<l.length->NX l[t]! = true:=λht=>by simpa [ht] using h
 refine ⟨U6 l t a,λht e=>?_⟩
 have:=a ht
 rw [getElem!_pos l t ht,e] at this
 cases this
end
section
theorem Id:(Tryz.prog.info? 5).map (λi=>(i.zero,i.size,i.bytes))=some (some (.int .u8 0),1,1):=by kernel_rfl
structure NR where
 k:Int
 n:Int
 s:l8_
 at':Int
 e:Int
abbrev NR.tok (r:NR):Value:=.agg #[Ag r.k,Ag r.n,.string (bs r.s)]
abbrev NR.val (r:NR):Value:=.tuple #[r.tok,Ag r.at',Ag r.e]
def X4 (l:l8_):TI->NR
 | .ok (t,r)=>⟨t.kind,t.n,t.text,(l.length-r.length:Nat),0⟩
 | .error k=>⟨0,0,[],0,k⟩
theorem AQ {a b:Value} (h:a=b):Ending.returned a=.returned b:=by rw [h]
def A4F (w:World) (B:Nat) (l:l8_) (o:Option (l8_ × l8_)) (v:Value) (at' err:Int):Prop :=
 match o with
 | none=>err=14
 | some (s,r)=>err=0/\CF 5 B w v (AN s)/\s.length<=l.length/\∃ k:Nat,at'=k/\k<=l.length/\r=l.drop k
def V1 (h:Option Nat):Int:=match h with | none=>-1 | some x=>x
theorem Xc (h:Option Nat) (o:l8_) (l:l8_) (t:Nat) (ht:t<l.length):Kb h o (l.drop t) =
  if CJ l[t] then Kb h o (l.drop (t+1))
  else if l[t]=62 then some (match h with | none=>o | some x=>o++[ch (x * 16:Nat)],l.drop (t+1))
  else if 15<DQ l[t] then none else match h with
   | none=>Kb (some (DQ l[t])) o (l.drop (t+1))
   | some x=>Kb none (o++[ch (x * 16+DQ l[t]:Nat)]) (l.drop (t+1)):=by
 rw [Aw ht]
 simp only [Kb]
 split
 · rfl
 ·
  split
  · cases h <;> rfl
  ·
   unfold YZ
   by_cases h16:DQ l[t]<16
   · rw [A5 h16,A2 oO] <;> cases h <;> rfl
   · rw [A2 h16,A5 oO]
theorem Ih (x:Int) (h0:0<=x) (h:x<256):((ch x).toNat:Int)=x:=by
 unfold ch
 rw [UInt8.toNat_ofNat'];omega
theorem bF {b:Bool} (h:b=false):¬ b=true:=by rw [h];simp
end
section
def lfB (l:l8_) (t:Nat):Bool:=decide (t<l.length) && decide (((l[t]!).toNat:Int)=10)
theorem A3k  {t:Nat} (h:lfB l t=true):t<l.length/\Hs (l.drop t)=l.drop (t+1):=by
 unfold lfB at h
 simp only [AG,AI] at h
 obtain ⟨a,b⟩:=h
 rw [getElem!_pos l t a] at b
 have c:l[t]=10:=Cf b
 refine ⟨a,?_⟩
 rw [Aw a]
 simp [Hs,c]
theorem A3l  {t:Nat} (h:lfB l t=false):Hs (l.drop t)=l.drop t:=by
 by_cases h1:t<l.length
 ·
  unfold lfB at h
  rw [AR h1,DV,getElem!_pos l t h1] at h
  have a:l[t]≠10:=D6 (dF h)
  rw [Aw h1]
  simp [Hs,a]
 · rw [Bv oO];rfl
def RI (l:l8_) (k t:Nat):Bool:=decide (k<2) && (decide (t<l.length) && (decide (48<=((l[t]!).toNat:Int)) && decide (((l[t]!).toNat:Int)<=55)))
theorem A2q  {k t:Nat} (h:RI l k t=true):k<2/\∃ ht:t<l.length,48<=(l[t]'ht).toNat/\(l[t]'ht).toNat<=55/\∀ n,Lt (2-k) n (l.drop t)=Lt (2-(k+1)) (8 * n+((l[t]'ht).toNat-48)) (l.drop (t+1)):=by
 unfold RI at h
 simp only [AG,AI] at h
 obtain ⟨b,a,c,d⟩:=h
 rw [getElem!_pos l t a] at c d
 refine ⟨b,a,oO,oO,λn=>?_⟩
 rw [Aw a,show 2-k=(2-(k+1))+1 by omega]
 have:NU l[t]=true:=by simp [NU];omega
 simp only [Lt]
 rw [A5 this]
theorem A2r  {k t:Nat} (h:RI l k t=false) (n:Nat):Lt (2-k) n (l.drop t)=(n,l.drop t):=by
  by_cases h0:k<2
  · rw [show 2 - k = (2 - (k + 1)) + 1 by omega]
    by_cases h1:t<l.length
    · rw [Aw h1]
      unfold RI at h
      rw [AR h0,DV,AR h1,DV,getElem!_pos l t h1] at h
      have:NU l[t]=false:=by
        unfold NU
        rw [<- h];congr 1 <;> exact GW.2 oO
      simp only [Lt]
      rw [A2 (by rw [this];simp)]
    · rw [Bv oO];rfl
  · rw [show 2-k=0 by omega];rfl
theorem Wx (d:Nat) (o l:l8_) (s:Nat) (h:s<l.length):D0 d o (l.drop s) =
  if l[s]=40 then D0 (d+1) (o++[l[s]]) (l.drop (s+1))
  else if l[s]=41 then (if d=1 then some (o,l.drop (s+1)) else D0 (d-1) (o++[l[s]]) (l.drop (s+1)))
  else if l[s]=92 then
   match l.drop (s+1) with
   | []=>none
   | e::r'=>D0 d (o++(Hf e r').1) (Hf e r').2
  else if l[s]=13 then D0 d (o++[10]) (Hs (l.drop (s+1)))
  else D0 d (o++[l[s]]) (l.drop (s+1)):=by
 rw [Aw h]
 exact D0.eq_def d o (l[s]::l.drop (s+1))
theorem Zl (r:l8_):Hf 110 r=([10],r):=rfl
theorem Zk (r:l8_):Hf 114 r=([13],r):=rfl
theorem Zj (r:l8_):Hf 116 r=([9],r):=rfl
theorem A1U (r:l8_):Hf 98 r=([8],r):=rfl
theorem Zm (r:l8_):Hf 102 r=([12],r):=rfl
theorem A1W (r:l8_):Hf 10 r=([],r):=rfl
theorem A1V (r:l8_):Hf 13 r=([],Hs r):=rfl
theorem S3 {y:UInt8} (r:l8_) (h1:48<=(y.toNat:Int)) (h2:(y.toNat:Int)<=55):Hf y r=([ch ((Lt 2 (y.toNat-48) r).1 % 256:Nat)],(Lt 2 (y.toNat-48) r).2):=by
 have ne:∀ c:UInt8,(c.toNat<48\/55<c.toNat)->y≠c:=λc hc e=>by subst e;omega
 unfold Hf
 rw [A2 (ne 110 dD),A2 (ne 114 dD),A2 (ne 116 dD),A2 (ne 98 dD),A2 (ne 102 dD),A2 (ne 10 dD),A2 (ne 13 dD),
  A5 (by simp only [NU,AG,AI];omega)]
theorem Mu {y:UInt8} (r:l8_) (h1:¬ (y.toNat:Int)=110) (h2:¬ (y.toNat:Int)=114) (h3:¬ (y.toNat:Int)=116) (h4:¬ (y.toNat:Int)=98) (h5:¬ (y.toNat:Int)=102) (h6:¬ (y.toNat:Int)=10) (h7:¬ (y.toNat:Int)=13)
  (h8:¬ (48<=(y.toNat:Int)/\(y.toNat:Int)<=55)):Hf y r=([y],r):=by
 unfold Hf
 rw [A2 (D6 (d:=110) h1),A2 (D6 (d:=114) h2),A2 (D6 (d:=116) h3),A2 (D6 (d:=98) h4),A2 (D6 (d:=102) h5),A2 (D6 (d:=10) h6),A2 (D6 (d:=13) h7),
  A2 (by simp only [NU,AG,AI];omega)]
end
section
def KO (c:UInt8) (r:l8_):TI :=
 if c=40 then Gp (D0 1 [] r)
 else if c=41 then .error 14
 else if c=60\/c=62 then Ki c r
 else if c=123 then .ok (⟨7,0,[]⟩,r)
 else if c=125 then .ok (⟨8,0,[]⟩,r)
 else if c=91\/c=93 then .ok (⟨3,0,[c]⟩,r)
 else if c=47 then Ll r
 else Sl (c::r)
theorem XW  {n s:Nat} (h:l.drop s=DA false (l.drop n)) (hs:l.length<=s):Lk (l.drop n)=.ok (⟨0,0,[]⟩,[]):=by
 unfold Lk
 rw [<- h,Bv hs]
theorem A0w  {n s:Nat} (h:l.drop s=DA false (l.drop n)) (hs:s<l.length):Lk (l.drop n)=KO l[s] (l.drop (s+1)):=by
 unfold Lk
 rw [<- h,Aw hs];rfl
theorem ZM  {s:Nat} {c d:UInt8} (hc:c≠0) (hd:d=(l[s]?).getD 0):Ki c (l.drop s)=if d=c then .ok (⟨3,0,[c,c]⟩,l.drop (s+1)) else if c=60 then Gp (Kb none [] (l.drop s)) else .error 14:=by
  by_cases h:s<l.length
  · rw [Aw h]
    rw [Ak h] at hd
    obtain rfl:d=l[s]:=hd
    rfl
  · rw [Bv oO]
    rw [AZ oO] at hd
    obtain rfl:d=0:=hd
    rw [A2 (λe=>hc e.symm)];rfl
theorem Y7  {s:Nat} {d:UInt8} (hd:d=(l[s]?).getD 0):Ll (l.drop s)=if d=47 then HG 5 (l.drop (s+1)) else HG 4 (l.drop s):=by
  by_cases h:s<l.length
  · rw [Aw h]
    rw [Ak h] at hd
    obtain rfl:d=l[s]:=hd
    rfl
  · rw [Bv oO]
    rw [AZ oO] at hd
    obtain rfl:d=0:=hd
    rw [A2 dD];rfl
theorem Wm {c:UInt8} (r:l8_) (h1:¬ (c.toNat:Int)=40) (h2:¬ (c.toNat:Int)=41) (h3:¬ (c.toNat:Int)=60) (h4:¬ (c.toNat:Int)=62) (h5:¬ (c.toNat:Int)=123) (h6:¬ (c.toNat:Int)=125) (h7:¬ (c.toNat:Int)=91)
  (h8:¬ (c.toNat:Int)=93) (h9:¬ (c.toNat:Int)=47):KO c r=Sl (c::r):=by
 unfold KO
 rw [A2 (D6 (d:=40) h1),A2 (D6 (d:=41) h2),A2 (not_or.2 ⟨D6 (d:=60) h3,D6 (d:=62) h4⟩),A2 (D6 (d:=123) h5),A2 (D6 (d:=125) h6),A2 (not_or.2 ⟨D6 (d:=91) h7,D6 (d:=93) h8⟩),A2 (D6 (d:=47) h9)]
theorem Qt (l:l8_) (s:Nat):(l.drop s).take (Bq l s-s)=(l.drop s).takeWhile D1:=by
 unfold Bq
 rw [Nat.add_sub_cancel_left]
 conv=>lhs;arg 2;rw [<- List.takeWhile_append_dropWhile (p:=D1) (l:=l.drop s)]
 rw [List.take_left'];rfl
theorem Kn (l:l8_) (s:Nat):(l.drop s).dropWhile D1=l.drop (Bq l s):=by
 unfold Bq
 rw [<- DU]
 conv=>rhs;arg 2;rw [<- List.takeWhile_append_dropWhile (p:=D1) (l:=l.drop s)]
 rw [List.drop_left'];rfl
theorem N5 (l:l8_) (t:JB) (k:Nat) (hk:k<=l.length):X4 l (.ok (t,l.drop k))=⟨t.kind,t.n,t.text,k,0⟩:=by
 simp only [X4,Aq]
 rw [show l.length-(l.length-k)=k by omega]
theorem Y1 (r:l8_):KO 40 r=Gp (D0 1 [] r):=rfl
theorem A2e (r:l8_):KO 41 r=.error 14:=rfl
theorem XZ (r:l8_):KO 60 r=Ki 60 r:=rfl
theorem XY (r:l8_):KO 62 r=Ki 62 r:=rfl
theorem A0z (r:l8_):KO 123 r=.ok (⟨7,0,[]⟩,r):=rfl
theorem A0y (r:l8_):KO 125 r=.ok (⟨8,0,[]⟩,r):=rfl
theorem A2d (r:l8_):KO 91 r=.ok (⟨3,0,[91]⟩,r):=rfl
theorem A2c (r:l8_):KO 93 r=.ok (⟨3,0,[93]⟩,r):=rfl
theorem Y0 (r:l8_):KO 47 r=Ll r:=rfl
def FQ (l:l8_) (a:Int):NR:=if a<0\/(l.length:Int)<a then ⟨0,0,[],0,21⟩ else X4 l (Lk (l.drop a.toNat))
end
section
theorem R0:∀ c:UInt8,decide (0<=Lib.indexByte [0,9,10,12,13,32] c)=CJ c:=by
 intro c
 have key:∀ n:Fin 256,decide (0<=Lib.indexByte [0,9,10,12,13,32] (UInt8.ofNat n.1))=CJ (UInt8.ofNat n.1):=by decide +kernel
 have:=key ⟨c.toNat,C7 c⟩
 simpa using this
theorem QZ:∀ c:UInt8,decide (Lib.indexByte [40,41,60,62,91,93,123,125,47,37] c<0)=!GP c:=by
 intro c
 have key:∀ n:Fin 256,decide (Lib.indexByte [40,41,60,62,91,93,123,125,47,37] (UInt8.ofNat n.1)<0)=!GP (UInt8.ofNat n.1):=by decide +kernel
 have:=key ⟨c.toNat,C7 c⟩
 simpa using this
theorem A1a:∀ c:UInt8,decide (Lib.indexByte [10,12,13] c<0)=!NX c:=by
 intro c
 have key:∀ n:Fin 256,decide (Lib.indexByte [10,12,13] (UInt8.ofNat n.1)<0)=!NX (UInt8.ofNat n.1):=by decide +kernel
 have:=key ⟨c.toNat,C7 c⟩
 simpa using this
theorem K6 (l:l8_) (c:UInt8) (w:World):Calls Tryz.prog 49 #[.string (bs l),.int .u8 (c.toNat:Int)] w λe w'=>e=.returned (Ag (Lib.indexByte l c))/\w=w':=by
 refine (Tryz.strings_IndexByte (bs l) (c.toNat:Int) w).mono λe w' h=>⟨?_,h.2.symm⟩
 rw [h.1]
 have:(bs l).data.toList=l:=by simp [bs]
 rw [this]
 have:((c.toNat:Int).toNat).toUInt8=c:=by rw [Int.toNat_natCast];exact UInt8.ofNat_toNat
 rw [this]
theorem Ln (c:UInt8) (w:World) :
  Calls Tryz.prog 195 #[.int .u8 (c.toNat:Int)] w λe w'=>e=.returned (.bool (CJ c))/\w=w':=by
 refine AF func195 rfl ntmps195<|A4<|A8 rfl<|A4<|A3 rfl<|Au (K6 [0,9,10,12,13,32] c _) (λb a=>?_)
 obtain rfl:=a
 refine A1 (.bis (CJ c) (.geq rfl rfl) (by exact R0 c))<|A8 rfl<|AY ?_
 exact ⟨rfl,rfl⟩
theorem Rs (c:UInt8) (w:World) :
  Calls Tryz.prog 201 #[.int .u8 (c.toNat:Int)] w λe w'=>e=.returned (.bool (D1 c))/\w=w':=by
 refine AF func201 rfl ntmps201<|A4<|A8 rfl<|A4<|A3 rfl<|Au (Ln c _) (λg b=>?_)
 obtain rfl:=b
 refine A1 (.not rfl)<|A3 rfl<|Cc rfl rfl rfl (λa=>?_) (λa=>?_)
 have d:=(nT a)
 refine A3 rfl<|Ik rfl rfl rfl (by rw [(nT a)] <;> rfl)<|Au (K6 [40,41,60,62,91,93,123,125,47,37] c _) (λh f=>?_)
 obtain rfl:=f
 refine Ik rfl rfl rfl (by rw [(nT a)] <;> rfl)<|A1 (.bis (!GP c) (.lss rfl rfl) (by exact QZ c))<|A1 (.pkT rfl (by rw [(nT a)] <;> rfl) rfl)<|A8 rfl<|AY ?_
 exact ⟨Cu (by unfold D1;simp_all),rfl⟩
 have d:=(nF a)
 refine Jc rfl rfl rfl (by rw [(nF a)] <;> rfl)<|Jc rfl rfl rfl (by rw [(nF a)] <;> rfl)<|A1 (.pkF rfl (by rw [(nF a)] <;> rfl) rfl)<|A8 rfl<|AY ?_
 exact ⟨Cu (by unfold D1;simp_all),rfl⟩
def HO (w:World) (r:Nat) (p:Option Addr) (l:l8_) (c t:Nat):Prop:=B4 w r #[.slice p l.length c,Ag (t:Int)] 222/\Af w p l
theorem Ks (r:Nat) (p:Option Addr) (l:l8_) (c t:Nat) (w:World) (h:HO w r p l c t) :
  Calls Tryz.prog 173 #[ptV r] w λe w'=>e=.returned (.bool (decide (t<l.length)))/\Cn w w':=by
 have hr:=h.1
 refine AF func173 rfl ntmps173<|A4<|A8 rfl<|Ad<|DE BS kR<|WQ.p (.mv rfl) rfl<|WQ.p (.nck rfl) rfl<|WQ.p (.fa Df rfl BI dD rfl) rfl<|D2 (λm=>Ae (C5 _) rfl hr rfl) rfl<|WQ.p (.mv rfl) rfl<|WQ.p (.nck rfl) rfl<|WQ.p (.fa Df rfl CZ dD rfl) rfl<|D2 (λm=>Ae (g22_ _) rfl hr rfl) rfl<|WQ.p (.lenS B1 rfl) rfl<|WQ.p (.lss rfl rfl) rfl<|WQ.p (.as rfl) rfl<|CO (λb a=>?_)
 refine AY ?_
 exact ⟨Cu (by (apply B3.2;(try simp only [AG,CD,BE,AI,Bg,BV,Dj,false_iff,iff_false,true_iff,iff_true]);omega)),aS⟩
theorem RP (r:Nat) (p:Option Addr) (l:l8_) (c t:Nat) (w:World) (h:HO w r p l c t) (m:Nat) :
  Calls Tryz.prog 173 #[ptV r] (w.drewN m) λe w'=>e=.returned (.bool (decide (t<l.length)))/\∃ k,w'=w.drewN k :=
 (Ks r p l c t (w.drewN m) ⟨h.1,h.2.drewN m⟩).mono λe w' h=>⟨h.1,Cn.trans ⟨m,rfl⟩ h.2⟩
def OG (l:l8_) (t:Nat):Except Int UInt8:=match l[t]? with | some x=>.ok x | none=>.error 14
theorem Kq (r:Nat) (p:Option Addr) (l:l8_) (c t:Nat) (w:World) (h:HO w r p l c t) (hne:0<l.length->(pA p).block≠r) (hl:l.length<=100000000) :
  Calls Tryz.prog 196 #[ptV r] w (Ce 35 (OG l t) (λx=>.int .u8 (x.toNat:Int)) (λ_ w'=>HO w' r p l c (t+1)/\B8 w.heap.size r w w') (λw'=>B8 w.heap.size r w w')):=by
 have hr:=h.1
 have hb:=h.2
 refine AF func196 rfl ntmps196 ?_
 have u:=B8.refl (w.heap.size) r w
 refine A4<|A8 rfl<|Ad<|A4<|A3 rfl<|Au (Ks r p l c t _ ⟨hr,hb⟩) (λD d=>?_)
 have g:=hr.drew d
 have v:=hb.drew d
 have i:=Bs u (KU d)
 refine A1 (.not rfl)<|A0<|Ai rfl (λk=>?_) (λk=>?_)
 have y:=(nT k)
 refine An<|A1 (.mkI MM rfl)<|G4 rfl (Bx ?_)
 exact BB 14 (by unfold OG;rw [AZ (by simp_all)]) i
 have y:=(nF k)
 have j:t<l.length:=by simp_all
 refine As<|A4<|A3 rfl<|A1 (.nck rfl)<|A1 (.fa Df rfl BI dD rfl)<|Aj (Ae (C5 _) rfl g rfl)<|A1 (.iis (((t+1:Nat):Int)) (.add rfl rfl (Bb oO)) oO)<|A1 (.nck rfl)<|A1 (.fa Df rfl BI dD rfl)<|BA BI rfl rfl rfl g (by exact Nat.le_of_ble_eq_true rfl) (λB a b C=>?_)
 have a:B4 B r _ _:=a
 have b:CP r _ _:=b
 have e:=Af.upd v b hne
 have A:=Bs i (Bk b)
 refine A0<|Ad<|DE BS kR<|WQ.p (.mv rfl) rfl<|WQ.p (.nck rfl) rfl<|WQ.p (.fa Df rfl CZ dD rfl) rfl<|D2 (λm=>Ae (g22_ _) rfl a rfl) rfl<|WQ.p (.mv rfl) rfl<|WQ.p (.nck rfl) rfl<|WQ.p (.fa Df rfl BI dD rfl) rfl<|D2 (λm=>Ae (C5 _) rfl a rfl) rfl<|WQ.p (.iis ((t:Int)) (.sub rfl rfl (Bb oO)) oO) rfl<|WQ.p (.ixb B1 EC rfl rfl (e.isp oO) (t) oO oO) rfl<|D2 (λm=>BG (IU _) rfl ((e.drewN m).cells (t) oO)) rfl<|WQ.p (.as rfl) rfl<|CO (λE f=>?_)
 have o:=a.drew f
 have q:=e.drew f
 have s:=Bs A (KU f)
 refine AY ?_
 exact Ce.ok (l[t]'j) (by unfold OG;rw [Ak j]) rfl ⟨⟨o,q⟩,s⟩
def Gh (l:l8_) (t:Nat) (x:UInt8):Bool:=decide (t<l.length) && decide (((l[t]!).toNat:Int)=(x.toNat:Int))
theorem Of  {t:Nat} {x:UInt8} (h:Gh l t x=true):∃ ht:t<l.length,l[t]'ht=x:=by
 unfold Gh at h
 simp only [AG,AI] at h
 obtain ⟨a,b⟩:=h
 rw [getElem!_pos l t a] at b
 exact ⟨a,Cf b⟩
theorem RN  {t:Nat} {x:UInt8} (h:Gh l t x=false) (ht:t<l.length):l[t]≠x:=by
 unfold Gh at h
 rw [AR ht,DV,getElem!_pos l t ht] at h
 exact D6 (dF h)
theorem Kr (r:Nat) (p:Option Addr) (l:l8_) (c t:Nat) (x:UInt8) (w:World) (h:HO w r p l c t) (hne:0<l.length->(pA p).block≠r) (hl:l.length<=100000000) (ht:t<=l.length) :
  Calls Tryz.prog 198 #[ptV r,.int .u8 (x.toNat:Int)] w λe w'=>e=.returned (.bool (Gh l t x))/\HO w' r p l c (if Gh l t x then t+1 else t)/\B8 w.heap.size r w w':=by
 have hr:=h.1
 have hb:=h.2
 refine AF func198 rfl ntmps198 ?_
 have q:=B8.refl (w.heap.size) r w
 refine A4<|A8 rfl<|Ad<|IE 20 (Gh l t x) ?_ (λC g=>?_)
 refine DE BS kR<|WQ.p (.mv rfl) rfl<|IC BQ rfl rfl (λm=>(RP r p l c t _ ⟨hr,hb⟩ m))<|WQ.p (.mv rfl) rfl<|JJ rfl rfl rfl (λa=>?_) (λa=>?_)
 have s:=dT a
 refine WQ.p (.mv rfl) rfl<|BP rfl rfl rfl a<|WQ.p (.nck rfl) rfl<|BP rfl rfl rfl a<|WQ.p (.fa Df rfl CZ dD rfl) rfl<|BP rfl rfl rfl a<|D2 (λm=>Ae (g22_ _) rfl hr rfl) rfl<|BP rfl rfl rfl a<|WQ.p (.mv rfl) rfl<|BP rfl rfl rfl a<|WQ.p (.nck rfl) rfl<|BP rfl rfl rfl a<|WQ.p (.fa Df rfl BI dD rfl) rfl<|BP rfl rfl rfl a<|D2 (λm=>Ae (C5 _) rfl hr rfl) rfl<|BP rfl rfl rfl a<|WQ.p (.ixb B1 EC rfl rfl (hb.isp oO) (t) oO oO) rfl<|BP rfl rfl rfl a<|D2 (λm=>BG (IU _) rfl ((hb.drewN m).cells (t) oO)) rfl<|BP rfl rfl rfl a<|WQ.p (.mv rfl) rfl<|BP rfl rfl rfl a<|WQ.p (.eql rfl rfl) rfl<|WQ.p (.pkT rfl a rfl) rfl<|CO (λD u=>?_)
 exact ⟨GC (DI rfl (by (by_cases hq:t<l.length) <;> (unfold Gh;first | (exfalso;simp_all;done) | (rw [getElem!_pos l t hq];simp_all;done) | (rw [AH hq];simp_all;done)))),u⟩
 have s:=dF a
 refine Bc rfl rfl rfl a<|Bc rfl rfl rfl a<|Bc rfl rfl rfl a<|Bc rfl rfl rfl a<|Bc rfl rfl rfl a<|Bc rfl rfl rfl a<|Bc rfl rfl rfl a<|Bc rfl rfl rfl a<|Bc rfl rfl rfl a<|Bc rfl rfl rfl a<|Bc rfl rfl rfl a<|WQ.p (.pkF rfl a rfl) rfl<|CO (λE v=>?_)
 exact ⟨GC (DI rfl (by (by_cases hq:t<l.length) <;> (unfold Gh;first | (exfalso;simp_all;done) | (rw [getElem!_pos l t hq];simp_all;done) | (rw [AH hq];simp_all;done)))),v⟩
 have f:=hr.drew g
 have i:=hb.drew g
 have j:=Bs q (KU g)
 refine Ai rfl (λy=>?_) (λy=>?_)
 refine A4<|A3 rfl<|A1 (.nck rfl)<|A1 (.fa Df rfl BI dD rfl)<|Aj (Ae (C5 _) rfl f rfl)<|A1 (.iis (((t+1:Nat):Int)) (.add rfl rfl (Bb oO)) oO)<|A1 (.nck rfl)<|A1 (.fa Df rfl BI dD rfl)<|BA BI rfl rfl rfl f (by exact Nat.le_of_ble_eq_true rfl) (λA d b B=>?_)
 have d:B4 A r _ _:=d
 have b:CP r _ _:=b
 have k:=Af.upd i b hne
 have o:=Bs j (Bk b)
 refine A0<|A4<|A8 rfl<|AY ?_
 exact ⟨Cu (by simp_all),by rw [A5 aS];exact ⟨d,k⟩,o⟩
 refine As<|A4<|A8 rfl<|AY ?_
 exact ⟨Cu (by simp_all),by rw [A2 (bF aS)];exact ⟨f,i⟩,j⟩
theorem A4e (l:l8_) (c:UInt8) (w:World) (m:Nat):Calls Tryz.prog 49 #[.string (bs l),.int .u8 (c.toNat:Int)] (w.drewN m) λe w'=>e=.returned (Ag (Lib.indexByte l c))/\∃ k,w'=w.drewN k :=
 (K6 l c (w.drewN m)).mono λe w' h=>⟨h.1,m,h.2.symm⟩
theorem Wt (r:Nat) (p:Option Addr) (l:l8_) (c a:Nat) (w:World) (h:HO w r p l c a) (hne:0<l.length->(pA p).block≠r) (hl:l.length<=100000000) (ha:a<=l.length) :
  Calls Tryz.prog 172 #[ptV r] w λe w'=>e=.returned (.tuple #[])/\HO w' r p l c (AW false l a)/\B8 w.heap.size r w w':=by
 obtain ⟨R,hR⟩:=eX (AW false l a)
 rw [<- hR]
 refine AF func172 rfl ntmps172<|AT<|BO (α:=Nat) (λt=>[(0,ptV r)]) (λt w'=>HO w' r p l c t/\B8 w.heap.size r w w'/\t<=l.length/\AW false l t=R) (λt=>l.length-t) (a) ⟨rfl,tT⟩ (⟨h,B8.refl _ _ _,ha,hR.symm⟩) (λt w1 hR=>?_)
 obtain ⟨q,hT,ht,hw⟩:=hR
 obtain ⟨s,rfl⟩:=eX t
 refine Ad<|A4<|A3 rfl<|Au (Ks r p l c s _ ⟨q.1,q.2⟩) (λw1 y=>?_)
 have u:=q.1.drew y
 have v:=q.2.drew y
 have H:=Bs hT (KU y)
 refine A0<|Ai rfl (λK=>?_) (λK=>?_)
 have a0:=dT K
 have hs:=OM l s oO
 refine As<|AT<|Ad<|DE BS kR<|WQ.p (.mv rfl) rfl<|WQ.p (.nck rfl) rfl<|WQ.p (.fa Df rfl CZ dD rfl) rfl<|D2 (λm=>Ae (g22_ _) rfl u rfl) rfl<|WQ.p (.mv rfl) rfl<|WQ.p (.nck rfl) rfl<|WQ.p (.fa Df rfl BI dD rfl) rfl<|D2 (λm=>Ae (C5 _) rfl u rfl) rfl<|WQ.p (.ixb B1 EC rfl rfl (v.isp oO) (s) oO oO) rfl<|D2 (λm=>BG (IU _) rfl ((v.drewN m).cells (s) oO)) rfl<|WQ.p (.as rfl) rfl<|CO (λw6 A=>?_)
 have x:=u.drew A
 have B:=v.drew A
 have C:=Bs H (KU A)
 refine AT<|A4<|A3 rfl<|Au (Ln _ _) (λaa L=>?_)
 obtain rfl:=L
 refine A8 rfl<|Ai rfl (λa1=>?_) (λa1=>?_)
 refine An<|A3 rfl<|A1 (.nck rfl)<|A1 (.fa Df rfl BI dD rfl)<|Aj (Ae (C5 _) rfl x rfl)<|A1 (.iis (((s+1:Nat):Int)) (.add rfl rfl (Bb oO)) oO)<|A1 (.nck rfl)<|A1 (.fa Df rfl BI dD rfl)<|BA BI rfl rfl rfl x (by exact Nat.le_of_ble_eq_true rfl) (λa2 i f a8=>?_)
 have i:B4 a2 r _ _:=i
 have f:CP r _ _:=f
 have N:=Af.upd B f hne
 have P:=Bs C (Bk f)
 refine A0<|?_
 exact ⟨s+1,⟨rfl,tT⟩,⟨⟨i,N⟩,P,oO,by rw [<- hw,hs,A2 (λe=>Dp (show CJ (l[s]'oO)=true by assumption) (by rw [e];decide)),A5 aS]⟩,oO⟩
 refine A4<|A3 rfl<|A1 (.eql rfl rfl)<|A8 rfl<|Ai rfl (λD=>?_) (λD=>?_)
 have Q:=dT D
 refine AT<|BO (α:=Nat) (λt=>[(0,ptV r)]) (λt w'=>HO w' r p l c t/\B8 w.heap.size r w w'/\s<=t/\t<=l.length/\AW true l t=R/\(t=s->l[s]'oO=37)) (λt=>l.length-t) (s) ⟨rfl,tT⟩ (⟨⟨x,B⟩,C,oO,oO,by rw [JS l s oO,A2 (by rw [show l[s]=37 from Cf aS];decide),<- hw,hs,A5 (Cf aS)],λ_=>Cf aS⟩) (λt w1 hR=>?_)
 obtain ⟨d,a3,ab,ac,a4,a5⟩:=hR
 refine Ad<|IE 43 (Qn l t) ?_ (λad k=>?_)
 refine DE BS kR<|WQ.p (.mv rfl) rfl<|IC BQ rfl rfl (λm=>(RP r p l c t _ ⟨d.1,d.2⟩ m))<|WQ.p (.mv rfl) rfl<|JJ rfl rfl rfl (λb=>?_) (λb=>?_)
 have T:=dT b
 refine WQ.p (.mv rfl) rfl<|BP rfl rfl rfl b<|WQ.p (.nck rfl) rfl<|BP rfl rfl rfl b<|WQ.p (.fa Df rfl CZ dD rfl) rfl<|BP rfl rfl rfl b<|D2 (λm=>Ae (g22_ _) rfl d.1 rfl) rfl<|BP rfl rfl rfl b<|WQ.p (.mv rfl) rfl<|BP rfl rfl rfl b<|WQ.p (.nck rfl) rfl<|BP rfl rfl rfl b<|WQ.p (.fa Df rfl BI dD rfl) rfl<|BP rfl rfl rfl b<|D2 (λm=>Ae (C5 _) rfl d.1 rfl) rfl<|BP rfl rfl rfl b<|WQ.p (.ixb B1 EC rfl rfl (d.2.isp oO) (t) oO oO) rfl<|BP rfl rfl rfl b<|D2 (λm=>BG (IU _) rfl ((d.2.drewN m).cells (t) oO)) rfl<|BP rfl rfl rfl b<|IC BQ rfl rfl (λm=>(A4e [10,12,13] _ _ m))<|BP rfl rfl rfl b<|WQ.p (.bis (!NX (l[t]'oO)) (.lss rfl rfl) (by exact A1a _)) rfl<|WQ.p (.pkT rfl b rfl) rfl<|CO (λae U=>?_)
 exact ⟨GC (DI rfl (by rw [On];(by_cases hq:t<l.length) <;> (first | (exfalso;omega) | (rw [getElem!_pos l t hq,AR hq];rfl) | (rw [AH hq];simp_all;done)))),U⟩
 have T:=dF b
 refine Bc rfl rfl rfl b<|Bc rfl rfl rfl b<|Bc rfl rfl rfl b<|Bc rfl rfl rfl b<|Bc rfl rfl rfl b<|Bc rfl rfl rfl b<|Bc rfl rfl rfl b<|Bc rfl rfl rfl b<|Bc rfl rfl rfl b<|Bc rfl rfl rfl b<|Bc rfl rfl rfl b<|WQ.p (.pkF rfl b rfl) rfl<|CO (λaf V=>?_)
 exact ⟨GC (DI rfl (by rw [On];(by_cases hq:t<l.length) <;> (first | (exfalso;omega) | (rw [getElem!_pos l t hq,AR hq];rfl) | (rw [AH hq];simp_all;done)))),V⟩
 have o:=d.1.drew k
 have E:=d.2.drew k
 have F:=Bs a3 (KU k)
 refine Ai rfl (λa6=>?_) (λa6=>?_)
 obtain ⟨J,G⟩:=Zv aS
 rw [JS l t J,G,A2 (by simp)] at a4
 refine As<|AT<|An<|A3 rfl<|A1 (.nck rfl)<|A1 (.fa Df rfl BI dD rfl)<|Aj (Ae (C5 _) rfl o rfl)<|A1 (.iis (((t+1:Nat):Int)) (.add rfl rfl (Bb oO)) oO)<|A1 (.nck rfl)<|A1 (.fa Df rfl BI dD rfl)<|BA BI rfl rfl rfl o (by exact Nat.le_of_ble_eq_true rfl) (λa7 j g a9=>?_)
 have j:B4 a7 r _ _:=j
 have g:CP r _ _:=g
 have X:=Af.upd E g hne
 have Y:=Bs F (Bk g)
 refine A0<|?_
 exact ⟨t+1,⟨rfl,tT⟩,⟨⟨j,X⟩,Y,oO,oO,oO,λh=>by omega⟩,oO⟩
 obtain ⟨J,G⟩:=Zw aS
 have ag:t≠s:=λe=>by subst e;exact G oO (a5 rfl)
 refine BL ?_
 exact ⟨t,⟨rfl,tT⟩,⟨⟨o,E⟩,F,oO,oO⟩,oO⟩
 have Q:=dF D
 refine AU (CU rfl  ?_)
 exact ⟨rfl,⟨by rw [<- hw,hs,A2 (D6 aS),A2 (bF aS)];exact x,B⟩,C⟩
 have a0:=dF K
 refine BL<|D9 (CU rfl ?_)
 exact ⟨rfl,⟨by rw [show R=s by rw [<- hw,Jg false l s oO];omega];exact u,v⟩,H⟩
end
section
theorem Jj (c:UInt8) (w:World) :
  Calls Tryz.prog 74 #[.int .u8 (c.toNat:Int)] w λe w'=>e=.returned (.bool (CJ c))/\w=w':=by
 refine AF func74 rfl ntmps74<|A4<|A8 rfl<|A4<|A3 rfl<|Au (K6 [0,9,10,12,13,32] c _) (λb a=>?_)
 obtain rfl:=a
 refine A1 (.bis (CJ c) (.geq rfl rfl) (by exact R0 c))<|A8 rfl<|AY ?_
 exact ⟨rfl,rfl⟩
theorem Me (c:UInt8) (w:World) :
  Calls Tryz.prog 72 #[.int .u8 (c.toNat:Int)] w λe w'=>e=.returned (.bool (D1 c))/\w=w':=by
 refine AF func72 rfl ntmps72<|A4<|A8 rfl<|A4<|A3 rfl<|Au (Jj c _) (λg b=>?_)
 obtain rfl:=b
 refine A1 (.not rfl)<|A3 rfl<|Cc rfl rfl rfl (λa=>?_) (λa=>?_)
 have d:=(nT a)
 refine A3 rfl<|Ik rfl rfl rfl (by rw [(nT a)] <;> rfl)<|Au (K6 [40,41,60,62,91,93,123,125,47,37] c _) (λh f=>?_)
 obtain rfl:=f
 refine Ik rfl rfl rfl (by rw [(nT a)] <;> rfl)<|A1 (.bis (!GP c) (.lss rfl rfl) (by exact QZ c))<|A1 (.pkT rfl (by rw [(nT a)] <;> rfl) rfl)<|A8 rfl<|AY ?_
 exact ⟨Cu (by unfold D1;simp_all),rfl⟩
 have d:=(nF a)
 refine Jc rfl rfl rfl (by rw [(nF a)] <;> rfl)<|Jc rfl rfl rfl (by rw [(nF a)] <;> rfl)<|A1 (.pkF rfl (by rw [(nF a)] <;> rfl) rfl)<|A8 rfl<|AY ?_
 exact ⟨Cu (by unfold D1;simp_all),rfl⟩
def Iq (l:l8_) (a:Int):Nat:=if a<0\/(l.length:Int)<a then l.length else a.toNat
theorem VQ (l:l8_) (a:Int):Iq l a<=l.length:=by unfold Iq;split <;> omega
theorem K8 (l:l8_) (a:Nat) (h:a<=l.length):Iq l a=a:=by unfold Iq;rw [A2 oO];omega
theorem NE (p:Option Addr) (l:l8_) (c:Nat) (a:Int) (w:World) :
  Calls Tryz.prog 71 #[.slice p l.length c,Ag a] w λe w'=>e=.returned (Ag (Iq l a:Int))/\w=w':=by
 refine AF func71 rfl ntmps71<|A4<|A8 rfl<|Ad<|FG 12 (decide (a<0\/(l.length:Int)<a)) ?_ ?_
 refine An<|A3 rfl<|A1 (.lss rfl rfl)<|A3 rfl<|Cc rfl rfl rfl (λb=>?_) (λb=>?_)
 have f:=dF b
 refine A3 rfl<|AE b<|A3 rfl<|AE b<|A1 (.lenS B1 rfl)<|AE b<|A1 (.gtr rfl rfl)<|A1 (.pkF rfl b rfl)<|A0<|?_
 exact ⟨GC (DI rfl (by (apply B3.2;(try simp) <;> omega))),rfl⟩
 have f:=dT b
 refine B6 b<|B6 b<|B6 b<|A1 (.pkT rfl b rfl)<|A0<|?_
 exact ⟨GC (DI rfl (by (apply B3.2;(try simp) <;> omega))),rfl⟩
 refine Ai rfl (λd=>?_) (λd=>?_)
 have g:=dT d
 refine A4<|A3 rfl<|A1 (.lenS B1 rfl)<|A8 rfl<|AY ?_
 exact ⟨DL (by unfold Iq;rw [A5 aS]),rfl⟩
 have g:=dF d
 refine As<|A4<|A3 rfl<|A8 rfl<|AY ?_
 exact ⟨DL (by unfold Iq;rw [A2 aS];omega),rfl⟩
theorem J0 (p:Option Addr) (l:l8_) (c:Nat) (a:Int) (w:World) (hb:Af w p l) (hl:l.length<=100000000) :
  Calls Tryz.prog 53 #[.slice p l.length c,Ag a] w λe w'=>e=.returned (Ag (AW false l (Iq l a):Int))/\w=w':=by
 obtain ⟨R,hR⟩:=eX (AW false l (Iq l a))
 have ha:=VQ l a
 rw [<- hR]
 refine AF func53 rfl ntmps53<|A4<|A8 rfl<|A4<|A3 rfl<|A3 rfl<|Au (NE p l c a _) (λm o=>?_)
 obtain rfl:=o
 refine A8 rfl<|Ad<|AT<|BO (α:=Nat) (λt=>[(0,.slice p l.length c),(1,Ag (t:Int))]) (λt w'=>w=w'/\t<=l.length/\AW false l t=R) (λt=>l.length-t) (Iq l a) ⟨rfl,rfl,tT⟩ (⟨rfl,ha,hR.symm⟩) (λt m hR=>?_)
 obtain ⟨rfl,ht,hw⟩:=hR
 obtain ⟨s,rfl⟩:=eX t
 refine Ad<|A4<|A3 rfl<|A3 rfl<|A1 (.lenS B1 rfl)<|A1 (.lss rfl rfl)<|A0<|Ai rfl (λj=>?_) (λj=>?_)
 have q:=dT j
 refine As<|AT<|Ad<|An ?_
 have hs:=OM l s oO
 refine A3 rfl<|A3 rfl<|A1 (.ixb B1 EC rfl rfl (hb.isp oO) (s) (rfl) oO)<|Aj (BG (IU _) rfl (hb.cells (s) oO))<|A8 rfl<|AT<|A4<|A3 rfl<|Au (Jj _ _) (λJ u=>?_)
 obtain rfl:=u
 refine A8 rfl<|Ai rfl (λD=>?_) (λD=>?_)
 refine An<|A3 rfl<|A1 (.add rfl rfl (Bb oO))<|A8 rfl ?_
 exact ⟨s+1,⟨rfl,N8 rfl oO,tT⟩,⟨rfl,oO,by rw [<- hw,hs,A2 (by rintro e;simp_all [CJ]),A5 (by simp_all)]⟩,oO⟩
 refine A4<|A3 rfl<|A1 (.eql rfl rfl)<|A8 rfl<|Ai rfl (λk=>?_) (λk=>?_)
 have v:=dT k
 refine AT<|BO (α:=Nat) (λt=>[(0,.slice p l.length c),(1,Ag (t:Int))]) (λt w'=>w=w'/\s<=t/\t<=l.length/\AW true l t=R/\(t=s->l[s]'oO=37)) (λt=>l.length-t) (s) ⟨rfl,rfl,tT⟩ (⟨rfl,oO,oO,by rw [JS l s oO,A2 (by rw [show l[s]=37 from Cf aS];decide),<- hw,hs,A5 (Cf aS)],λ_=>Cf aS⟩) (λt m hR=>?_)
 obtain ⟨rfl,F,G,x,y⟩:=hR
 refine Ad<|FG 50 (Qn l t) ?_ ?_
 refine An<|A3 rfl<|A3 rfl<|A1 (.lenS B1 rfl)<|A1 (.lss rfl rfl)<|A3 rfl<|Cc rfl rfl rfl (λb=>?_) (λb=>?_)
 have A:=dT b
 refine A3 rfl<|AE b<|A3 rfl<|AE b<|A1 (.ixb B1 EC rfl rfl (hb.isp oO) (t) (rfl) oO)<|AE b<|Aj (BG (IU _) rfl (hb.cells (t) oO))<|AE b<|A1 (.neq rfl rfl)<|A1 (.pkT rfl b rfl)<|A3 rfl<|Cc rfl rfl rfl (λd=>?_) (λd=>?_)
 have B:=ndT d
 refine A3 rfl<|AE d<|A3 rfl<|AE d<|A1 (.ixb B1 EC rfl rfl (hb.isp oO) (t) (rfl) oO)<|AE d<|Aj (BG (IU _) rfl (hb.cells (t) oO))<|AE d<|A1 (.neq rfl rfl)<|A1 (.pkT rfl d rfl)<|A3 rfl<|Cc rfl rfl rfl (λf=>?_) (λf=>?_)
 have C:=ndT f
 refine A3 rfl<|AE f<|A3 rfl<|AE f<|A1 (.ixb B1 EC rfl rfl (hb.isp oO) (t) (rfl) oO)<|AE f<|Aj (BG (IU _) rfl (hb.cells (t) oO))<|AE f<|A1 (.neq rfl rfl)<|A1 (.pkT rfl f rfl)<|A0<|?_
 exact ⟨GC (DI rfl (by (by_cases hq:t<l.length) <;> (unfold Qn;first | (exfalso;omega) | (rw [getElem!_pos l t hq];simp_all;done) | (rw [AH hq];simp_all;done)))),rfl⟩
 have C:=ndF f
 refine B6 f<|B6 f<|B6 f<|B6 f<|A1 (.pkF rfl f rfl)<|A0<|?_
 exact ⟨GC (DI rfl (by (by_cases hq:t<l.length) <;> (unfold Qn;first | (exfalso;omega) | (rw [getElem!_pos l t hq];simp_all;done) | (rw [AH hq];simp_all;done)))),rfl⟩
 have B:=ndF d
 refine B6 d<|B6 d<|B6 d<|B6 d<|A1 (.pkF rfl d rfl)<|A3 rfl<|B6 rfl<|B6 rfl<|B6 rfl<|B6 rfl<|B6 rfl<|A1 (.pkF rfl rfl rfl)<|A0<|?_
 exact ⟨GC (DI rfl (by (by_cases hq:t<l.length) <;> (unfold Qn;first | (exfalso;omega) | (rw [getElem!_pos l t hq];simp_all;done) | (rw [AH hq];simp_all;done)))),rfl⟩
 have A:=dF b
 refine B6 b<|B6 b<|B6 b<|B6 b<|A1 (.pkF rfl b rfl)<|A3 rfl<|B6 rfl<|B6 rfl<|B6 rfl<|B6 rfl<|B6 rfl<|A1 (.pkF rfl rfl rfl)<|A3 rfl<|B6 rfl<|B6 rfl<|B6 rfl<|B6 rfl<|B6 rfl<|A1 (.pkF rfl rfl rfl)<|A0<|?_
 exact ⟨GC (DI rfl (by (by_cases hq:t<l.length) <;> (unfold Qn;first | (exfalso;omega) | (rw [getElem!_pos l t hq];simp_all;done) | (rw [AH hq];simp_all;done)))),rfl⟩
 refine Ai rfl (λE=>?_) (λE=>?_)
 obtain ⟨i,g⟩:=Zv aS
 rw [JS l t i,g,A2 (by simp)] at x
 refine As<|AT<|An<|A3 rfl<|A1 (.add rfl rfl (Bb oO))<|A8 rfl ?_
 exact ⟨t+1,⟨rfl,N8 rfl oO,tT⟩,⟨rfl,oO,oO,oO,λh=>by omega⟩,oO⟩
 obtain ⟨i,g⟩:=Zw aS
 have H:t≠s:=λe=>by subst e;exact g oO (y rfl)
 refine BL ?_
 exact ⟨t,⟨rfl,N8 rfl oO,tT⟩,⟨rfl,oO,oO⟩,oO⟩
 have v:=dF k
 refine A4<|A3 rfl<|A8 rfl<|AY ?_
 exact ⟨DL (by rw [<- hw,hs,A2 (D6 aS),A2 (by simp_all)]),rfl⟩
 have q:=dF j
 refine BL<|A4<|A3 rfl<|A8 rfl<|AY ?_
 exact ⟨DL (by rw [Jg false l s oO] at hw;omega),rfl⟩
def Dk (l:l8_) (a:Nat):l8_:=(l.drop a).take (Bq l a-a)
theorem Ow (l:l8_) (a:Nat):Dk l a=(l.drop a).takeWhile D1:=Qt l a
theorem QO (p:Option Addr) (l:l8_) (c:Nat) (a:Int) (w:World) (hb:Af w p l) (hc:l.length<=c) (hl:l.length<=100000000) :
  Calls Tryz.prog 50 #[.slice p l.length c,Ag a] w λe w'=>e=.returned (.tuple #[.string (bs (Dk l (Iq l a))),Ag (Bq l (Iq l a):Int)])/\w=w':=by
 obtain ⟨R,hR⟩:=eX (Bq l (Iq l a))
 have ha:=VQ l a
 have f:=EV l (Iq l a) ha
 unfold Dk
 rw [<- hR] at f ⊢
 refine AF func50 rfl ntmps50<|A4<|CL rfl<|A8 rfl<|A4<|A3 rfl<|A3 rfl<|Au (NE p l c a _) (λj g=>?_)
 obtain rfl:=g
 refine A8 rfl<|A4<|A3 rfl<|A8 rfl<|Ad<|AT<|BO (α:=Nat) (λt=>[(0,.slice p l.length c),(1,Ag (Iq l a:Int)),(5,Ag (t:Int))]) (λt w'=>w=w'/\t<=l.length/\Bq l t=R) (λt=>l.length-t) (Iq l a) ⟨rfl,rfl,rfl,tT⟩ (⟨rfl,ha,hR.symm⟩) (λt j hR=>?_)
 obtain ⟨rfl,ht,hw⟩:=hR
 refine Ad<|A4<|A3 rfl<|A3 rfl<|A1 (.lenS B1 rfl)<|A1 (.lss rfl rfl)<|A3 rfl<|Cc rfl rfl rfl (λb=>?_) (λb=>?_)
 have h:=dT b
 have hs:=FD D1 l t oO
 refine A3 rfl<|AE b<|A3 rfl<|AE b<|A1 (.ixb B1 EC rfl rfl (hb.isp oO) (t) (rfl) oO)<|AE b<|Aj (BG (IU _) rfl (hb.cells (t) oO))<|AE b<|Au (Me _ _) (λm i=>?_)
 obtain rfl:=i
 refine A1 (.pkT rfl b rfl)<|A0<|Ai rfl (λk=>?_) (λk=>?_)
 refine As<|AT<|An<|A3 rfl<|A1 (.add rfl rfl (Bb oO))<|A8 rfl ?_
 exact ⟨t+1,⟨rfl,rfl,N8 rfl oO,tT⟩,⟨rfl,oO,by unfold Bq at hw ⊢;rw [hs,A5 aS,Aa] at hw;omega⟩,oO⟩
 refine BL<|Ad ?_
 have d:t=R:=by
  by_cases hq:t<l.length;have hs:=FD D1 l t hq;unfold Bq at hw;rw [hs,A2 (by simp_all),Am] at hw;omega;unfold Bq at hw;rw [Bv oO] at hw;simp at hw;omega
 refine An<|A3 rfl<|A3 rfl<|A3 rfl<|A1 (.slb B1 EC rfl rfl rfl  (Iq l a) (R) (rfl) oO oO oO)<|Aj (Il B1 Ga FV rfl rfl hb oO oO oO)<|A3 rfl<|CL rfl<|A8 rfl<|AU (Du rfl rfl rfl ?_)
 exact ⟨AQ (by subst d;rfl),rfl⟩
 have h:=dF b
 refine B6 b<|B6 b<|B6 b<|B6 b<|A1 (.pkF rfl b rfl)<|A0<|Ay rfl rfl<|BL<|Ad ?_
 have d:t=R:=by
  by_cases hq:t<l.length;have hs:=FD D1 l t hq;unfold Bq at hw;rw [hs,A2 (by simp_all),Am] at hw;omega;unfold Bq at hw;rw [Bv oO] at hw;simp at hw;omega
 refine An<|A3 rfl<|A3 rfl<|A3 rfl<|A1 (.slb B1 EC rfl rfl rfl  (Iq l a) (R) (rfl) oO oO oO)<|Aj (Il B1 Ga FV rfl rfl hb oO oO oO)<|A3 rfl<|CL rfl<|A8 rfl<|AU (Du rfl rfl rfl ?_)
 exact ⟨AQ (by subst d;rfl),rfl⟩
theorem Mj (l cs:l8_) (w:World) (hl:l.length<=100000000) (hc:cs.length<=1000) (ha:∀ b∈cs,b.toNat<128) :
  Cl 73 #[.string (bs l),.string (bs cs)] w (.string (bs (Lib.trimS l cs))):=by
 refine (Any.strings_Trim_laid Tryz.lays160 kR (bs l) (bs cs) w (by rw [BM];omega) (by rw [BM];omega) ?_).mono λe w' h=>⟨?_,h.2⟩
 ·
  intro j b hb
  have:(bs cs).data.toList=cs:=by simp [bs]
  rw [this] at hb
  exact ha b (List.mem_of_getElem? hb)
 ·
  rw [h.1]
  have a:(bs l).data.toList=l:=by simp [bs]
  have c:(bs cs).data.toList=cs:=by simp [bs]
  rw [a,c];rfl
theorem OD (l:l8_):(decide (Lib.trimS l [48,49,50,51,52,53,54,55,56,57]=[]))=l.all BN:=by
 have:(λx=>([48,49,50,51,52,53,54,55,56,57]:l8_).contains x)=BN:=funext Lf
 rw [B3,AI,II,this]
def Fv (s:l8_):Bool:=!decide (s=[]) && decide (s.length<=10) && s.all BN
def Fn (s:l8_) (most:Int):Int × Bool:=if Fv s then ((Ck s:Int),decide ((Ck s:Int)<=most)) else (0,false)
theorem UE (s:l8_) (most:Int) (w:World) (hl:s.length<=100000000) :
  Cl 158 #[.string (bs s),Ag most] w (.tuple #[Ag (Fn s most).1,.bool (Fn s most).2]):=by
 refine AF func158 rfl ntmps158 ?_
 have f:=Dh w
 refine A4<|CL rfl<|A8 rfl<|Ad<|Mz (α:=Unit) (λt=>[(0,.string (bs s)),(1,Ag most),(4,Ag 0),(5,.bool false),(20,.bool (!Fv s))]) (λt w'=>AL w w') ?_ (λt E hR=>?_)
 refine An<|A3 rfl<|A1 (.eqs rfl rfl)<|A3 rfl<|Cc rfl rfl rfl (λa=>?_) (λa=>?_)
 have q:=dF a
 refine A3 rfl<|AE a<|A1 (.len FV rfl)<|AE a<|A1 (.gtr rfl rfl)<|A1 (.pkF rfl a rfl)<|A3 rfl<|Cc rfl rfl rfl (λb=>?_) (λb=>?_)
 have u:=dF b
 refine A3 rfl<|AE b<|Au (Mj s [48,49,50,51,52,53,54,55,56,57] _ hl dD dD) (λT v=>?_)
 have x:=Ci f v
 refine AE b<|A1 (.bis (!s.all BN) (.nes rfl rfl) (by rw [OD]))<|A1 (.pkF rfl b rfl)<|A0<|?_
 exact ⟨(),⟨rfl,rfl,rfl,rfl,DI rfl (by unfold Fv;first | (simp_all;done) | (simp_all;omega)),tT⟩,x⟩
 have u:=dT b
 refine B6 b<|B6 b<|A1 (.pkT rfl b rfl)<|A0<|?_
 exact ⟨(),⟨rfl,rfl,rfl,rfl,DI rfl (by unfold Fv;first | (simp_all;done) | (simp_all;omega)),tT⟩,f⟩
 have q:=dT a
 refine B6 a<|B6 a<|A1 (.pkT rfl a rfl)<|A3 rfl<|B6 rfl<|B6 rfl<|B6 rfl<|A1 (.pkT rfl rfl rfl)<|A0<|?_
 exact ⟨(),⟨rfl,rfl,rfl,rfl,DI rfl (by unfold Fv;first | (simp_all;done) | (simp_all;omega)),tT⟩,f⟩
 have g:=hR
 refine Ai rfl (λF=>?_) (λF=>?_)
 have k:Fv s=false:=by simp_all
 refine A4<|CL rfl<|A8 rfl<|AU (Du rfl rfl rfl ?_)
 exact ⟨Ye (by unfold Fn;rw [k];rfl) (by unfold Fn;rw [k];rfl),g⟩
 have h:Fv s=true:=by simp_all
 have d:=h
 unfold Fv at d
 simp only [AG,AI,BE,Bg] at d
 have j:=AP.1 d.2
 refine As<|A4<|A8 rfl<|Ad<|A4<|A3 rfl<|Vf FV B1 Ga rfl rfl (λG y cz l hz J m H=>?_)
 have B:=uB g l m
 have D:=CW l g.size
 refine A1 (.lenS B1 rfl)<|A3 rfl<|A0<|AT<|BO (α:=Nat) (λt=>[(0,.string (bs s)),(1,Ag most),(6,Ag (Ck (s.take t):Int)),(22,.slice (some ⟨G,0,none⟩) s.length cz),(23,Ag (s.length:Int)),(24,Ag (t:Int))]) (λt w'=>y=w'/\t<=s.length) (λt=>s.length-t) (0) ⟨rfl,rfl,rfl,rfl,rfl,rfl,tT⟩ (⟨rfl,FN _⟩) (λt E hR=>?_)
 obtain ⟨i,rfl⟩:=eX t
 obtain ⟨rfl,hi⟩:=hR
 refine A4<|A1 (.lss rfl rfl)<|A0<|Ad<|Ai rfl (λo=>?_) (λo=>?_)
 have C:=dT o
 refine As<|Ad<|AT<|A4<|A1 (.ixb B1 EC rfl rfl (hz.isp oO) (i) (rfl) oO)<|Aj (BG (IU _) rfl (hz.cells (i) oO))<|A8 rfl ?_
 have K:=GO s i oO
 have L:=Ek (j _ (Ar (show i<s.length by omega)))
 have P:=H9 (s.take i) (λc hc=>j c (EA hc))
 have Q:10 ^ (s.take i).length<=10 ^ 9:=Nat.pow_le_pow_right oO (by rw [Ap];omega)
 refine An<|A3 rfl<|A1 (.mul rfl rfl (Bb oO))<|A3 rfl<|A1 (.sub rfl rfl (PO oO))<|A1 (.cvt Ga ML rfl (Bb oO))<|A1 (.iis ((Ck (s.take (i+1)):Int)) (.add rfl rfl (Bb oO)) oO)<|A8 rfl<|An<|A1 (.iis (((i+1:Nat):Int)) (.add rfl rfl (Bb oO)) oO)<|A3 rfl<|A0<|?_
 exact ⟨i+1,⟨rfl,rfl,rfl,rfl,rfl,rfl,tT⟩,⟨rfl,oM⟩,oM⟩
 have C:=dF o
 refine BL<|Ad ?_
 obtain rfl:i=s.length:=by omega
 rw [D7]
 refine An<|A3 rfl<|A3 rfl<|A3 rfl<|A1 (.leq rfl rfl)<|CL rfl<|A8 rfl<|AU (Du rfl rfl rfl ?_)
 exact ⟨Ye (by unfold Fn;rw [h];rfl) (by unfold Fn;rw [h];rfl),B⟩
end
section
def Jk (l:l8_):Int × Bool:=if 64<l.length then (0,false) else JY l
theorem Xq (l:l8_) (w:World) :
  Cl 159 #[.string (bs l)] w (.tuple #[Ag (Jk l).1,.bool (Jk l).2]):=by
 unfold Jk
 split
 · exact (Pu l w aS).mono λe w' h=>⟨h.1,h.2▸Fl _ _⟩
 · exact O2 l w oO
end
section
def Q6 (k n:Int) (s:l8_):List Value:=[Ag k,Ag n,.string (bs s),.slice none 0 0,.slice none 0 0,.slice none 0 0]
def NC (c:UInt8):Bool:=BN c || c == 43 || c == 45
theorem A0s (l:l8_):(decide (Lib.trimS l [43,45,48,49,50,51,52,53,54,55,56,57]=[]))=l.all NC:=by
 have:(λx=>([43,45,48,49,50,51,52,53,54,55,56,57]:l8_).contains x)=NC:=by
  funext x
  have key:∀ n:Fin 256,([43,45,48,49,50,51,52,53,54,55,56,57]:l8_).contains (UInt8.ofNat n.1)=NC (UInt8.ofNat n.1):=by decide +kernel
  have:=key ⟨x.toNat,C7 x⟩
  simpa using this
 rw [B3,AI,II,this]
theorem A1b (l:l8_):decide (0<=Lib.indexByte l 46)=l.contains 46:=by
 exact (Lib.contains_iff_indexByte l 46).symm
def Mi (s:l8_):Int × Int × Bool :=
 if s.contains 46 then (3,(Jk s).1,(Jk s).2)
 else if (FC s).ok && decide ((FC s).e=0) && decide ((FC s).kind=1) && s.all NC then (2,(FC s).n,true) else (0,0,false)
theorem SP (s:l8_) (w:World) (hl:s.length<=100000000) :
  Cl 136 #[.string (bs s)] w (.tuple #[.agg (Q6 (Mi s).1 (Mi s).2.1 []).toArray,.bool (Mi s).2.2]):=by
 obtain ⟨T,hT⟩:=eX (FC s)
 have d:∀ w,Cl 160 #[.string (bs s)] w T.val:=λw=>by rw [hT];exact Rc _ w
 obtain ⟨D,hD⟩:=eX (s.contains 46)
 have hN:Mi s=if D then (3,(Jk s).1,(Jk s).2) else if T.ok && decide (T.e=0) && decide (T.kind=1) && s.all NC then (2,T.n,true) else (0,0,false):=by rw [hT,hD];rfl
 refine AF func136 rfl ntmps136 ?_
 have ag:=Dh w
 refine A4<|Bm CA rfl (λb1 aA ah l a0 ax=>?_)
 have V:=uB ag ah a0
 refine A8 rfl<|Ad<|A4<|A3 rfl<|Au (K6 s 46 _) (λw3 ai=>?_)
 obtain rfl:=ai
 refine A1 (.bis (D) (.geq rfl rfl) (by rw [hD];exact A1b s))<|A0<|Ai rfl (λh4=>?_) (λh4=>?_)
 refine A4<|A3 rfl<|Au (Xq s _) (λw5 X=>?_)
 have aj:=l.bl X
 have ak:=Ci V X
 refine A3 rfl<|A1 (.ext rfl rfl)<|A1 (.ext rfl rfl)<|CL rfl<|A8 rfl<|A4<|A3 rfl<|?_
 refine A1 (.buildL (ps:=_) Ec rfl rfl rfl pS) ?_
 refine A3 rfl<|Az rfl rfl aj Ah rfl rfl (λw8 a1 a2 ay=>?_)
 have am:=BR ak oO a2
 refine A8 rfl<|AU (Ed rfl rfl (Ba a1 Av rfl Ah) rfl ?_)
 exact ⟨AQ (by rw [hN,A5 aS];rfl),am⟩
 refine As<|A4<|A3 rfl<|Au (d _) (λaB m=>?_)
 have o:=l.bl m
 have a3:=Ci V m
 refine A3 rfl<|A1 (.ext rfl rfl)<|A1 (.ext rfl rfl)<|A1 (.ext rfl rfl)<|Bm GY rfl (λaC az q C i ao=>?_)
 have a4:=Bt q o.lt
 have a5:=o.un i a4
 have a6:=uB a3 q i
 refine Az rfl rfl C BC rfl rfl (λaD j k ap=>?_)
 have f:=a5.up k
 have g:=BR a6 oO k
 refine CL rfl<|A8 rfl<|Ad<|A4<|A3 rfl<|A1 (.not rfl)<|A3 rfl<|Cc rfl rfl rfl (λc=>?_) (λc=>?_)
 have a7:=(nF c)
 refine A3 rfl<|Ik rfl rfl rfl (by rw [(nF c)] <;> rfl)<|A1 (.neq rfl rfl)<|A1 (.pkF rfl (by rw [(nF c)] <;> rfl) rfl)<|A3 rfl<|Cc rfl rfl rfl (λa=>?_) (λa=>?_)
 have a8:=ndF a
 refine A1 (.fa DP rfl BI dD rfl)<|AE a<|Aj (Ae (C5 _) rfl j rfl)<|AE a<|A1 (.neq rfl rfl)<|A1 (.pkF rfl a rfl)<|A3 rfl<|Cc rfl rfl rfl (λb=>?_) (λb=>?_)
 have a9:=ndF b
 refine A3 rfl<|AE b<|Au (Mj s [43,45,48,49,50,51,52,53,54,55,56,57] _ hl dD dD) (λaE h=>?_)
 have t:=f.bl h
 have aa:=j.bl h
 have u:=Ci g h
 refine AE b<|A1 (.bis (!s.all NC) (.nes rfl rfl) (by rw [A0s]))<|A1 (.pkF rfl b rfl)<|A0<|Ai rfl (λan=>?_) (λan=>?_)
 refine A4<|A1 (.buildL (ps:=_) Ec rfl rfl rfl pZ) ?_
 refine Az rfl rfl t Ah rfl rfl (λaF E F aq=>?_)
 have ab:=BR u oO F
 refine A8 rfl<|AU (Ed rfl rfl (Ba E Av rfl Ah) rfl ?_)
 exact ⟨AQ (by rw [hN,A2 (bF aS),A2 (by intro hx;simp only [AG,AI] at hx;obtain ⟨⟨⟨v,x⟩,y⟩,B⟩:=hx;clear hN hT d;simp_all)];rfl),ab⟩
 refine As<|A4<|A1 (.fa DP rfl BI dD rfl)<|Aj (Ae (C5 _) rfl aa rfl)<|?_
 refine A1 (.buildL (ps:=_) Ec rfl rfl rfl pS) ?_
 refine Az rfl rfl t Ah rfl rfl (λaG G H ar=>?_)
 have ac:=BR u oO H
 refine A8 rfl<|AU (Ed rfl rfl (Ba G Av rfl Ah) rfl ?_)
 exact ⟨AQ (by rw [hN,A2 (bF aS),A5 (by simp only [AG,AI];clear hN hT d;simp_all)];rfl),ac⟩
 have a9:=ndT b
 refine B6 b<|B6 b<|A1 (.pkT rfl b rfl)<|A0<|BZ rfl rfl ?_
 refine A4<|A1 (.buildL (ps:=_) Ec rfl rfl rfl pZ) ?_
 refine Az rfl rfl f Ah rfl rfl (λaH J K au=>?_)
 have ad:=BR g oO K
 refine A8 rfl<|AU (Ed rfl rfl (Ba J Av rfl Ah) rfl ?_)
 exact ⟨AQ (by rw [hN,A2 (bF aS),A2 (by intro hx;simp only [AG,AI] at hx;obtain ⟨⟨⟨v,x⟩,y⟩,B⟩:=hx;clear hN hT d;simp_all)];rfl),ad⟩
 have a8:=ndT a
 refine B6 a<|B6 a<|A1 (.pkT rfl a rfl)<|A3 rfl<|B6 rfl<|B6 rfl<|B6 rfl<|A1 (.pkT rfl rfl rfl)<|A0<|BZ rfl rfl ?_
 refine A4<|A1 (.buildL (ps:=_) Ec rfl rfl rfl pZ) ?_
 refine Az rfl rfl f Ah rfl rfl (λaI L P av=>?_)
 have ae:=BR g oO P
 refine A8 rfl<|AU (Ed rfl rfl (Ba L Av rfl Ah) rfl ?_)
 exact ⟨AQ (by rw [hN,A2 (bF aS),A2 (by intro hx;simp only [AG,AI] at hx;obtain ⟨⟨⟨v,x⟩,y⟩,B⟩:=hx;clear hN hT d;simp_all)];rfl),ae⟩
 have a7:=(nT c)
 refine Jc rfl rfl rfl (by rw [(nT c)] <;> rfl)<|A1 (.pkT rfl (by rw [(nT c)] <;> rfl) rfl)<|A3 rfl<|B6 rfl<|B6 rfl<|B6 rfl<|A1 (.pkT rfl rfl rfl)<|A3 rfl<|B6 rfl<|B6 rfl<|B6 rfl<|A1 (.pkT rfl rfl rfl)<|A0<|BZ rfl rfl ?_
 refine A4<|A1 (.buildL (ps:=_) Ec rfl rfl rfl pZ) ?_
 refine Az rfl rfl f Ah rfl rfl (λaJ Q U aw=>?_)
 have af:=BR g oO U
 refine A8 rfl<|AU (Ed rfl rfl (Ba Q Av rfl Ah) rfl ?_)
 exact ⟨AQ (by rw [hN,A2 (bF aS),A2 (by intro hx;simp only [AG,AI] at hx;obtain ⟨⟨⟨v,x⟩,y⟩,B⟩:=hx;clear hN hT d;simp_all)];rfl),af⟩
def O5 (w:World) (r:Nat) (p:Option Addr) (l:l8_) (c t:Nat) (refs:Bool):Prop:=B4 w r #[.slice p l.length c,Ag (t:Int),.bool refs] 133/\Af w p l
theorem Y8 (p:Option Addr) (l:l8_) (c a:Nat) (w:World) (hb:Af w p l) (ha:a<=l.length) (hl:l.length<=100000000) (d:Nat) (hd:d=AW false l a) (m:Nat) :
  Calls Tryz.prog 53 #[.slice p l.length c,Ag (a:Int)] (w.drewN m) λe w'=>e=.returned (Ag (d:Int))/\∃ k,w'=w.drewN k :=
 (J0 p l c a (w.drewN m) (hb.drewN m) hl).mono λe w' h=>⟨by rw [h.1,K8 l a ha,hd],m,h.2.symm⟩
theorem Rk (p:Option Addr) (l:l8_) (c a:Nat) (w:World) (hb:Af w p l) (hc:l.length<=c) (ha:a<=l.length) (hl:l.length<=100000000) (m:Nat) :
  Calls Tryz.prog 50 #[.slice p l.length c,Ag (a:Int)] (w.drewN m) λe w'=>e=.returned (.tuple #[.string (bs (Dk l a)),Ag (Bq l a:Int)])/\∃ k,w'=w.drewN k :=
 (QO p l c a (w.drewN m) (hb.drewN m) hc hl).mono λe w' h=>⟨by rw [h.1,K8 l a ha],m,h.2.symm⟩
def IJ (refs:Bool) (l:l8_) (s:l8_) (t:Nat):Option (Int × Nat) :=
 if refs && (Fn s 4096).2 && decide (1<=(Fn s 4096).1) then
  (if Dk l (AW false l t) = [48] then
   (if Dk l (AW false l (Bq l (AW false l t)))=[82] then some ((Fn s 4096).1,Bq l (AW false l (Bq l (AW false l t)))) else none)
  else none)
 else none
def Ym (o:Option (Int × Nat)):Int × Int:=match o with | some (n,_)=>(8,n) | none=>(0,0)
def A4b (o:Option (Int × Nat)):Value:=.tuple #[.agg (Q6 (Ym o).1 (Ym o).2 []).toArray,.bool o.isSome]
def Uq (o:Option (Int × Nat)) (t:Nat):Nat:=match o with | some (_,b)=>b | none=>t
theorem Yu (r:Nat) (p:Option Addr) (l:l8_) (c t:Nat) (refs:Bool) (s:l8_) (w:World) (h:O5 w r p l c t refs) (hne:0<l.length->(pA p).block≠r) (hc:l.length<=c) (hl:l.length<=100000000) (ht:t<=l.length) (hs:s.length<=100000000) :
  Calls Tryz.prog 135 #[ptV r,.string (bs s)] w λe w'=>e=.returned (A4b (IJ refs l s t))/\O5 w' r p l c (Uq (IJ refs l s t) t) refs/\B8 w.heap.size r w w':=by
 have hr:=h.1
 have hb:=h.2
 obtain ⟨a,ha⟩:=eX (AW false l t)
 obtain ⟨b,G⟩:=eX (AW false l (Bq l a))
 have a4:a<=l.length:=by rw [ha];exact E3 _ _ _
 have aw:b<=l.length:=by rw [G];exact E3 _ _ _
 have ax:=EV l a a4
 have hR:IJ refs l s t=if refs && (Fn s 4096).2 && decide (1<=(Fn s 4096).1) then (if Dk l a=[48] then (if Dk l b=[82] then some ((Fn s 4096).1,Bq l b) else none) else none) else none:=by rw [G,ha];rfl
 obtain ⟨N,hN⟩:=eX (Fn s 4096)
 have hW:∀ w,Cl 158 #[.string (bs s),Ag 4096] w (.tuple #[Ag N.1,.bool N.2]):=λw=>by rw [hN];exact UE s 4096 w hs
 rw [<- hN] at hR
 generalize IJ refs l s t=R at hR ⊢
 refine AF func135 rfl ntmps135 ?_
 have a5:=B8.refl (w.heap.size) r w
 refine A4<|Bm CA rfl (λb1 aI H a9 E aH=>?_)
 have ay:=Bt H hr.lt
 have az:=hr.un E ay
 have f:=λh0=>H▸hb.lt h0
 have a6:=Cy hb E f
 have Y:=CW H a5.size
 have a7:=Bs a5 (DC E Y)
 refine A8 rfl<|A4<|A3 rfl<|Au (hW _) (λw7 F=>?_)
 have j:=az.bl F
 have a8:=a9.bl F
 have k:=Fh a6 F (λh0=>a6.lt h0)
 have J:=Bs a7 (EN (Fb F) a7.size)
 refine A3 rfl<|A1 (.ext rfl rfl)<|A1 (.ext rfl rfl)<|CL rfl<|A8 rfl<|Ad<|FG 28 (!(refs && N.2 && decide (1<=N.1))) ?_ ?_
 refine An<|A3 rfl<|A1 (.nck rfl)<|A1 (.fa Cq rfl sizeOf4 dD rfl)<|Aj (Ae (isAgg4 _) rfl j rfl)<|A1 (.not rfl)<|A3 rfl<|Cc rfl rfl rfl (λg=>?_) (λg=>?_)
 have aa:=(nF g)
 refine A3 rfl<|Ik rfl rfl rfl (by rw [(nF g)] <;> rfl)<|A1 (.not rfl)<|A1 (.pkF rfl (by rw [(nF g)] <;> rfl) rfl)<|A3 rfl<|Cc rfl rfl rfl (λi=>?_) (λi=>?_)
 have ab:=(nF i)
 refine A3 rfl<|Ik rfl rfl rfl (by rw [(nF i)] <;> rfl)<|A1 (.lss rfl rfl)<|A1 (.pkF rfl (by rw [(nF i)] <;> rfl) rfl)<|A0<|?_
 exact ⟨GC (DI rfl (by cases refs <;> cases h2:N.2 <;> by_cases h3:1<=N.1 <;> simp_all <;> omega)),rfl⟩
 have ab:=(nT i)
 refine Jc rfl rfl rfl (by rw [(nT i)] <;> rfl)<|A1 (.pkT rfl (by rw [(nT i)] <;> rfl) rfl)<|A0<|?_
 exact ⟨GC (DI rfl (by cases refs <;> cases h2:N.2 <;> by_cases h3:1<=N.1 <;> simp_all <;> omega)),rfl⟩
 have aa:=(nT g)
 refine Jc rfl rfl rfl (by rw [(nT g)] <;> rfl)<|A1 (.pkT rfl (by rw [(nT g)] <;> rfl) rfl)<|A3 rfl<|B6 rfl<|B6 rfl<|A1 (.pkT rfl rfl rfl)<|A0<|?_
 exact ⟨GC (DI rfl (by cases refs <;> cases h2:N.2 <;> by_cases h3:1<=N.1 <;> simp_all <;> omega)),rfl⟩
 refine Ai rfl (λaA=>?_) (λaA=>?_)
 refine A4<|A1 (.buildL (ps:=_) Ec rfl rfl rfl pZ) ?_
 refine Az rfl rfl a8 Ah rfl rfl (λaJ a0 o aC=>?_)
 have ac:=j.up o
 have ad:=Cy k o f
 have ae:=Bs J (DC o oO)
 refine A8 rfl<|AU (Ed rfl rfl (Ba a0 Av rfl Ah) rfl ?_)
 exact ⟨AQ (by rw [hR,A2 (bF (nT aS))];rfl),by rw [hR,A2 (bF (nT aS))];exact ⟨ac,ad⟩,ae⟩
 refine As<|Ad<|DE BS kR<|WQ.p (.mv rfl) rfl<|WQ.p (.nck rfl) rfl<|WQ.p (.fa Cq rfl CZ dD rfl) rfl<|D2 (λm=>Ae (g22_ _) rfl j rfl) rfl<|WQ.p (.mv rfl) rfl<|WQ.p (.nck rfl) rfl<|WQ.p (.fa Cq rfl CZ dD rfl) rfl<|D2 (λm=>Ae (g22_ _) rfl j rfl) rfl<|WQ.p (.mv rfl) rfl<|WQ.p (.nck rfl) rfl<|WQ.p (.fa Cq rfl BI dD rfl) rfl<|D2 (λm=>Ae (C5 _) rfl j rfl) rfl<|IC BQ rfl rfl (λm=>(Y8 p l c t _ k ht hl a ha m))<|IC BQ rfl rfl (λm=>(Rk p l c a _ k hc a4 hl m))<|WQ.p (.mv rfl) rfl<|WQ.p (.ext rfl rfl) rfl<|WQ.p (.ext rfl rfl) rfl<|WQ.p (.as rfl) rfl<|WQ.p (.as rfl) rfl<|CO (λaK q=>?_)
 have u:=j.drew q
 have K:=a8.drew q
 have v:=k.drew q
 have L:=Bs J (KU q)
 refine Ad<|A4<|A3 rfl<|A1 (.nes rfl rfl)<|A0<|Ai rfl (λP=>?_) (λP=>?_)
 have af:=ndT P
 refine A4<|A1 (.buildL (ps:=_) Ec rfl rfl rfl pZ) ?_
 refine Az rfl rfl K Ah rfl rfl (λaL a1 x aD=>?_)
 have ag:=u.up x
 have ah:=Cy v x f
 have ai:=Bs L (DC x oO)
 refine A8 rfl<|AU (Ed rfl rfl (Ba a1 Av rfl Ah) rfl ?_)
 exact ⟨AQ (by rw [hR,A5 (nF aS),A2 aS];rfl),by rw [hR,A5 (nF aS),A2 aS];exact ⟨ag,ah⟩,ai⟩
 have af:=ndF P
 refine As<|Ad<|DE BS kR<|WQ.p (.mv rfl) rfl<|WQ.p (.nck rfl) rfl<|WQ.p (.fa Cq rfl CZ dD rfl) rfl<|D2 (λm=>Ae (g22_ _) rfl u rfl) rfl<|WQ.p (.mv rfl) rfl<|WQ.p (.nck rfl) rfl<|WQ.p (.fa Cq rfl CZ dD rfl) rfl<|D2 (λm=>Ae (g22_ _) rfl u rfl) rfl<|WQ.p (.mv rfl) rfl<|IC BQ rfl rfl (λm=>(Y8 p l c (Bq l a) _ v ax.2 hl b G m))<|IC BQ rfl rfl (λm=>(Rk p l c b _ v hc aw hl m))<|WQ.p (.mv rfl) rfl<|WQ.p (.ext rfl rfl) rfl<|WQ.p (.ext rfl rfl) rfl<|WQ.p (.as rfl) rfl<|WQ.p (.as rfl) rfl<|CO (λaM y=>?_)
 have Q:=u.drew y
 have T:=K.drew y
 have U:=v.drew y
 have V:=Bs L (KU y)
 refine Ad<|A4<|A3 rfl<|A1 (.nes rfl rfl)<|A0<|Ai rfl (λX=>?_) (λX=>?_)
 have aj:=ndT X
 refine A4<|A1 (.buildL (ps:=_) Ec rfl rfl rfl pZ) ?_
 refine Az rfl rfl T Ah rfl rfl (λaN a2 B aE=>?_)
 have ak:=Q.up B
 have am:=Cy U B f
 have an:=Bs V (DC B oO)
 refine A8 rfl<|AU (Ed rfl rfl (Ba a2 Av rfl Ah) rfl ?_)
 exact ⟨AQ (by rw [hR,A5 (nF aS),A5 aS,A2 aS];rfl),by rw [hR,A5 (nF aS),A5 aS,A2 aS];exact ⟨ak,am⟩,an⟩
 have aj:=ndF X
 refine As<|A4<|A3 rfl<|A1 (.iis ((Bq l b:Int)) (.mv rfl) (by rfl))<|A1 (.nck rfl)<|A1 (.fa Cq rfl BI dD rfl)<|BA BI rfl rfl rfl Q (by exact Nat.le_of_ble_eq_true rfl) (λaB C d aF=>?_)
 have C:B4 aB r _ _:=C
 have d:CP r _ _:=d
 have ao:=T.up d
 have ap:=Af.upd U d hne
 have aq:=Bs V (Bk d)
 refine A0<|A4<|A3 rfl<|?_
 refine A1 (.buildL (ps:=_) Ec rfl rfl rfl pS) ?_
 refine Az rfl rfl ao Ah rfl rfl (λaO a3 D aG=>?_)
 have ar:=C.up D
 have au:=Cy ap D f
 have av:=Bs aq (DC D oO)
 refine A8 rfl<|AU (Ed rfl rfl (Ba a3 Av rfl Ah) rfl ?_)
 exact ⟨AQ (by rw [hR,A5 (nF aS),A5 aS,A5 aS];rfl),by rw [hR,A5 (nF aS),A5 aS,A5 aS];exact ⟨ar,au⟩,av⟩
structure WR where
 kind:Int
 n:Int
 word:l8_
 ok:Bool
 np:Nat
def EP (refs:Bool) (l:l8_) (t:Nat):WR :=
 if Dk l t=[110,117,108,108] then ⟨0,0,Dk l t,true,Bq l t⟩
 else if Dk l t=[116,114,117,101] then ⟨1,1,Dk l t,true,Bq l t⟩
 else if Dk l t=[102,97,108,115,101] then ⟨1,0,Dk l t,true,Bq l t⟩
 else if (IJ refs l (Dk l t) (Bq l t)).isSome then ⟨(Ym (IJ refs l (Dk l t) (Bq l t))).1,(Ym (IJ refs l (Dk l t) (Bq l t))).2,Dk l t,true,Uq (IJ refs l (Dk l t) (Bq l t)) (Bq l t)⟩
 else if (Mi (Dk l t)).2.2 then ⟨(Mi (Dk l t)).1,(Mi (Dk l t)).2.1,Dk l t,true,Bq l t⟩
 else ⟨0,0,Dk l t,false,Bq l t⟩
def WR.val (x:WR):Value:=.tuple #[.agg (Q6 x.kind x.n []).toArray,.string (bs x.word),.bool x.ok]
theorem Qu (l:l8_) (t:Nat):(Dk l t).length<=l.length:=by unfold Dk;rw [Ap,Aq];omega
theorem QH {o:Option (Int × Nat)} {t:Nat} (h:o.isSome=false):Uq o t=t:=by cases o with | none=>rfl | some x=>cases h
theorem QL (r:Nat) (p:Option Addr) (l:l8_) (c t:Nat) (refs:Bool) (w:World) (h:O5 w r p l c t refs) (hne:0<l.length->(pA p).block≠r) (hc:l.length<=c) (hl:l.length<=100000000) (ht:t<=l.length) :
  Calls Tryz.prog 110 #[ptV r] w λe w'=>e=.returned (EP refs l t).val/\O5 w' r p l c (EP refs l t).np refs/\B8 w.heap.size r w w':=by
 have hr:=h.1
 have hb:=h.2
 have hX:=eX (EP refs l t)
 obtain ⟨X,hX⟩:=hX
 rw [<- hX]
 unfold EP at hX
 have bi:=EV l t ht
 have bj:=Qu l t
 have Y:∀ w1,Af w1 p l->∀ m,Calls Tryz.prog 50 #[.slice p l.length c,Ag (t:Int)] (w1.drewN m) λe w'=>e=.returned (.tuple #[.string (bs (Dk l t)),Ag (Bq l t:Int)])/\∃ k,w'=w1.drewN k:=λw1 h1 m=>Rk p l c t w1 h1 hc ht hl m
 generalize Dk l t=s at hX bj Y
 generalize Bq l t=t1 at hX bi Y
 refine AF func110 rfl ntmps110 ?_
 have aA:=B8.refl (w.heap.size) r w
 refine A4<|Bm CA rfl (λb1 bL a0 aC L bI=>?_)
 have bk:=Bt a0 hr.lt
 have a1:=hr.un L bk
 have b:=λN=>a0▸hb.lt N
 have aB:=Cy hb L b
 have an:=CW a0 aA.size
 have bm:=Bs aA (DC L an)
 refine CL rfl<|A8 rfl<|Ad<|DE BS kR<|WQ.p (.mv rfl) rfl<|WQ.p (.nck rfl) rfl<|WQ.p (.fa Cq rfl CZ dD rfl) rfl<|D2 (λm=>Ae (g22_ _) rfl a1 rfl) rfl<|WQ.p (.mv rfl) rfl<|WQ.p (.nck rfl) rfl<|WQ.p (.fa Cq rfl BI dD rfl) rfl<|D2 (λm=>Ae (C5 _) rfl a1 rfl) rfl<|IC BQ rfl rfl (λm=>(Y _ aB m))<|WQ.p (.mv rfl) rfl<|WQ.p (.ext rfl rfl) rfl<|WQ.p (.ext rfl rfl) rfl<|WQ.p (.as rfl) rfl<|WQ.p (.as rfl) rfl<|CO (λw7 T=>?_)
 have bn:=a1.drew T
 have bo:=aC.drew T
 have aD:=aB.drew T
 have aE:=Bs bm (KU T)
 refine A4<|A3 rfl<|A3 rfl<|A1 (.nck rfl)<|A1 (.fa Cq rfl BI dD rfl)<|BA BI rfl rfl rfl bn (by exact Nat.le_of_ble_eq_true rfl) (λbp a d bt=>?_)
 have a:B4 bp r _ _:=a
 have d:CP r _ _:=d
 have q:=bo.up d
 have v:=Af.upd aD d hne
 have u:=Bs aE (Bk d)
 refine A0<|Ad<|A4<|A3 rfl<|A0<|AT<|A4<|A1 (.eqs rfl rfl)<|A8 rfl<|Ai rfl (λa2=>?_) (λa2=>?_)
 have aF:=dT a2
 refine A4<|A1 (.buildL (ps:=_) Ec rfl rfl rfl pZ) ?_
 refine A3 rfl<|Az rfl rfl q Ah rfl rfl (λbM ao x bu=>?_)
 have aG:=a.up x
 have aH:=Cy v x b
 have aI:=Bs u (DC x oO)
 refine CL rfl<|A8 rfl<|AU (KN rfl rfl (Ba ao Av rfl Ah) rfl rfl ?_)
 (rw [A5 aS] at hX;subst hX;exact ⟨rfl,⟨aG,aH⟩,aI⟩)
 have aF:=dF a2
 refine A4<|A1 (.eqs rfl rfl)<|A8 rfl<|Ai rfl (λa3=>?_) (λa3=>?_)
 have aJ:=dT a3
 refine A4<|A1 (.buildL (ps:=_) Ec rfl rfl rfl pS) ?_
 refine A3 rfl<|Az rfl rfl q Ah rfl rfl (λbN ap y bv=>?_)
 have aK:=a.up y
 have aL:=Cy v y b
 have aM:=Bs u (DC y oO)
 refine CL rfl<|A8 rfl<|AU (KN rfl rfl (Ba ap Av rfl Ah) rfl rfl ?_)
 (rw [A2 aS,A5 aS] at hX;subst hX;exact ⟨rfl,⟨aK,aL⟩,aM⟩)
 have aJ:=dF a3
 refine A4<|A1 (.eqs rfl rfl)<|A8 rfl<|Ai rfl (λa4=>?_) (λa4=>?_)
 have aN:=dT a4
 refine A4<|A1 (.buildL (ps:=_) Ec rfl rfl rfl pS) ?_
 refine A3 rfl<|Az rfl rfl q Ah rfl rfl (λbO aq B bw=>?_)
 have aO:=a.up B
 have aP:=Cy v B b
 have aQ:=Bs u (DC B oO)
 refine CL rfl<|A8 rfl<|AU (KN rfl rfl (Ba aq Av rfl Ah) rfl rfl ?_)
 (rw [A2 aS,A2 aS,A5 aS] at hX;subst hX;exact ⟨rfl,⟨aO,aP⟩,aQ⟩)
 have aN:=dF a4
 refine As<|Ad<|A4<|A3 rfl<|A3 rfl<|Au (Yu r p l c t1 refs s _ ⟨a,v⟩ hne hc hl oO oO) (λbP C=>?_)
 have a5:=C.1.1
 have a6:=Gd q C.2 q.lt oO
 have a7:=C.1.2
 have a8:=Bs u (EN C.2 u.size)
 refine A3 rfl<|A1 (.ext rfl rfl)<|A1 (.ext rfl rfl)<|Bm CA rfl (λbQ bJ D ar f bz=>?_)
 have aR:=Bt D a5.lt
 have aT:=a5.un f aR
 have aU:=Bt D a6.lt
 have aV:=a6.un f aU
 have U:=λN=>D▸a7.lt N
 have aW:=Cy a7 f U
 have a9:=CW D a8.size
 have aX:=Bs a8 (DC f a9)
 refine Az rfl rfl ar Ah rfl rfl (λbR au g bA=>?_)
 have aa:=aT.up g
 have ab:=aV.up g
 have P:=Cy aW g U
 have Q:=Bs aX (DC g oO)
 refine A8 rfl<|A4<|A3 rfl<|A0<|Ai rfl (λbq=>?_) (λbq=>?_)
 refine A4<|Aj (Bd rfl au Av rfl Ah)<|A3 rfl<|Az rfl rfl ab Ah rfl rfl (λbS av E bB=>?_)
 have aY:=aa.up E
 have aZ:=Cy P E b
 have a':=Bs Q (DC E oO)
 refine CL rfl<|A8 rfl<|AU (KN rfl rfl (Ba av Av rfl Ah) rfl rfl ?_)
 (rw [A2 aS,A2 aS,A2 aS,A5 aS] at hX;subst hX;exact ⟨rfl,⟨aY,aZ⟩,a'⟩)
 refine As<|A4<|A3 rfl<|Au (SP s _ oO) (λbT F=>?_)
 have ac:=aa.bl F
 have ad:=ab.bl F
 have ae:=Fh P F (λN=>P.lt N)
 have af:=Bs Q (EN (Fb F) Q.size)
 refine A3 rfl<|A1 (.ext rfl rfl)<|A1 (.ext rfl rfl)<|Bm CA rfl (λbU bK G aw i bC=>?_)
 have b0:=Bt G ac.lt
 have b2:=ac.un i b0
 have b3:=Bt G ad.lt
 have b4:=ad.un i b3
 have H:=λN=>G▸ae.lt N
 have b5:=Cy ae i H
 have ag:=CW G af.size
 have b6:=Bs af (DC i ag)
 refine Az rfl rfl aw Ah rfl rfl (λbV V j bD=>?_)
 have ah:=b2.up j
 have ai:=b4.up j
 have aj:=Cy b5 j H
 have ak:=Bs b6 (DC j oO)
 refine A8 rfl<|Ad<|A4<|A3 rfl<|A1 (.not rfl)<|A0<|Ai rfl (λam=>?_) (λam=>?_)
 have b7:=(nT am)
 refine An<|A1 (.buildL (ps:=_) Ec rfl rfl rfl pZ) ?_
 refine Az rfl rfl V Ah rfl rfl (λbW ax o bE=>?_)
 have b8:=ah.up o
 have b9:=ai.up o
 have ba:=Cy aj o H
 have bb:=Bs ak (DC o oO)
 refine A0<|A4<|Aj (Bd rfl ax Av rfl Ah)<|A3 rfl<|A3 rfl<|Az rfl rfl b9 Ah rfl rfl (λbX ay J bG=>?_)
 have bc:=b8.up J
 have bd:=Cy ba J b
 have be:=Bs bb (DC J oO)
 refine CL rfl<|A8 rfl<|AU (KN rfl rfl (Ba ay Av rfl Ah) rfl rfl ?_)
 (rw [A2 aS,A2 aS,A2 aS,A2 (bF aS),A2 (bF aS)] at hX;subst hX;exact ⟨AQ (by rw [show (Mi s).2.2=false by assumption];rfl),⟨by rw [<- QH (t:=t1) (show (IJ refs l s t1).isSome=false by assumption)];exact bc,bd⟩,be⟩)
 have b7:=(nF am)
 refine As<|A4<|Aj (Bd rfl V Av rfl Ah)<|A3 rfl<|A3 rfl<|Az rfl rfl ai Ah rfl rfl (λbY az K bH=>?_)
 have bf:=ah.up K
 have bg:=Cy aj K b
 have bh:=Bs ak (DC K oO)
 refine CL rfl<|A8 rfl<|AU (KN rfl rfl (Ba az Av rfl Ah) rfl rfl ?_)
 (rw [A2 aS,A2 aS,A2 aS,A2 (bF aS),A5 aS] at hX;subst hX;exact ⟨AQ (by rw [show (Mi s).2.2=true by assumption];rfl),⟨by rw [<- QH (t:=t1) (show (IJ refs l s t1).isSome=false by assumption)];exact bf,bg⟩,bh⟩)
end
section
section
variable {P:Program} {n:Sh} {fn:Func} {R:Ending->World->Prop} {f:Fr} {w:World}
def A23 (f:Fr) (tmps:Array Value):Prop:=∀ i u,look f i=some u->tmps.getD i undef=u
def CX (P:Program) (fn:Func) (R:Ending->World->Prop) (D:List Deferred):Exit->Fr->World->Prop
 | .normal,f,w | .ret,f,w=>∀ tmps,A23 f tmps->Leaves P fn tmps R D .returning w
 | .panic chain,f,w=>∀ tmps,A23 f tmps->Leaves P fn tmps R D (.panicking chain) w
 | .outgrown,_,w=>R .outgrown w
 | _,_,_=>False
def WD (P:Program) (n:Sh) (fn:Func) (R:Ending->World->Prop) (c:Code) (f:Fr) (w:World):Prop:=∀ a,NO n f a->c.wp P (bodyPostD P fn R) a w
theorem IZ {e:Exit} {a:Act} (h:Io n (CX P fn R n.D) e a w):bodyPostD P fn R e a w:=by
 obtain ⟨f,hr,hQ⟩:=h
 cases e with
 | normal=>have:=hQ a.tmps hr.2.2;rw [<- hr.1] at this;exact this
 | ret=>have:=hQ a.tmps hr.2.2;rw [<- hr.1] at this;exact this
 | panic ch=>have:=hQ a.tmps hr.2.2;rw [<- hr.1] at this;exact this
 | outgrown=>exact hQ
 | exit i=>exact hQ.elim
 | goto l=>exact hQ.elim
theorem NN {c:Code} (h:W P n c (CX P fn R n.D) f w):WD P n fn R c f w:=by
 unfold W at h
 exact λa ha=>wp_mono (h a ha) λ_ _ _=>IZ
theorem WD.seq {x y:Code} (h:W P n x (nx (λf w=>WD P n fn R y f w) (CX P fn R n.D)) f w):WD P n fn R (.seq x y) f w:=by
 unfold W at h
 intro a ha
 refine wp_seq (wp_mono (h a ha) ?_)
 rintro e a' w' ⟨f',hr,hQ⟩
 cases e with
 | normal=>exact hQ a' hr
 | exit i=>exact IZ (P:=P) (fn:=fn) (R:=R) (n:=n) (w:=w') (e:=.exit i) ⟨f',hr,hQ⟩
 | goto l=>exact IZ (P:=P) (fn:=fn) (R:=R) (n:=n) (w:=w') (e:=.goto l) ⟨f',hr,hQ⟩
 | ret=>exact IZ (P:=P) (fn:=fn) (R:=R) (n:=n) (w:=w') (e:=.ret) ⟨f',hr,hQ⟩
 | panic ch=>exact IZ (P:=P) (fn:=fn) (R:=R) (n:=n) (w:=w') (e:=.panic ch) ⟨f',hr,hQ⟩
 | outgrown=>exact IZ (P:=P) (fn:=fn) (R:=R) (n:=n) (w:=w') (e:=.outgrown) ⟨f',hr,hQ⟩
theorem WD.defer {y:Code} {d ty ty2:Nat} {pos2:String} {aft2:Array Edge} {caps:List Operand} (hcap:Qh f caps=some vs) (hd:Nat.blt d n.n=true)
  (h:WD P ⟨n.n,⟨.fn (.func F) vs.toArray,#[]⟩::n.D⟩ fn R y ((d,.func (.func F) #[] vs.toArray)::f) w) :
  WD P n fn R (.seq (.region id [⟨some d,.makeFunc (.func F) #[] caps.toArray,ty,pos,aft,none⟩,⟨none,.defer ⟨.value (.tmp d),#[],#[]⟩,ty2,pos2,aft2,none⟩].toArray false) y) f w:=by
 intro a ha
 refine wp_seq (wp_region_lit ?_)
 have c:(Instr.makeFunc (.func F) #[] (vs.toArray)).run P w=.ok (.func (.func F) #[] vs.toArray) w:=rfl
 have e:caps.toArray.map a.eval=vs.toArray:=by rw [List.map_toArray,Jr ha.agr _ _ hcap]
 have b:=ha.put hd (.func (.func F) #[] vs.toArray)
 have g:(a.put (some d) (.func (.func F) #[] vs.toArray)).eval (.tmp d)=.func (.func F) #[] vs.toArray:=b.agr _ _ (by simp [CE,look,Nat.beq_refl])
 unfold wpList
 rw [A5 (by simp [Region.wanted])]
 refine Or.inl ?_
 unfold Oper.wp execOp
 simp only [e,Cd,c,BW,D4,List.map_toArray,Fz]
 rw [Oper.upon_value]
 unfold wpList
 rw [A5 (by simp [Region.wanted])]
 refine Or.inl ?_
 unfold Oper.wp execOp
 simp only [resolve,Deferred.ofValue,g,Cd,D4,BW,Array.append_empty,List.map_toArray,Fz]
 rw [Oper.upon_defer]
 exact wpList_nil (h _ ⟨by show _::_=_::_;rw [b.1],b.2.1,b.2.2⟩)
theorem Hk  {c:Code} (hf:P.funcs[F]?=some fn) (hb:fn.body=some c)
  {k:Nat} (hn:fn.ntmps=k) (hl:args.size<=k) (h:WD P ⟨k,[]⟩ fn R c (K2 0 args.toList) w):Calls P F args w R:=by
 refine calls_of_wp_defers hf hb (h _ ⟨rfl,by simp [hn];omega,?_⟩)
 intro i v hv
 obtain ⟨j,e,hj⟩:=K0 _ _ _ _ hv
 obtain rfl:i=j:=by omega
 have a:i<args.size:=by
  rcases By i args.size with h | h
  · exact h
  · rw [AZ (by simpa using h)] at hj;cases hj
 have hj':args[i]?=some v:=by rw [<- DT];exact hj
 simp only [AD]
 rw [Array.getElem?_append_left a,hj'];rfl
theorem Iu  {g:Func} (h1:P.funcs[F]?=some g) (h2:g.body≠none) (h3:g.name≠"runtime.NumGoroutine") (args:Array Value) (w:World):(callFunc F args).run P w=.ok (.enter F args) w:=by
 cases hb:g.body with
 | none=>exact Dp hb h2
 | some c=>simp [callFunc,h1,h3,hb]
theorem FI  (hv:CK P fn f w v) (h:R (.returned v) w):CX P fn R [] .ret f w:=λtmps ht=>⟨v,hv tmps ht,h⟩
theorem CX.ret  (hb:Dc P F) (S:World->Prop)
  (hc:CallsD P F vs.toArray .returning w λe u' w'=>u'=.returning/\(∃ v,e=.returned v)/\S w')
  (hr:∀ w',S w'->∃ v,CK P fn f w' v/\R (.returned v) w'):CX P fn R [⟨.fn (.func F) vs.toArray,#[]⟩] .ret f w:=by
 intro tmps ht
 obtain ⟨g,a,b,c⟩:=hb
 refine leaves_cons (f:=F) (args:=vs.toArray) (by simp) ?_ (hc.mono ?_)
 ·
  simp only [invoke,Array.empty_append]
  exact Iu a b c _ _
 ·
  rintro e u' w' ⟨rfl,⟨v,rfl⟩,hS⟩
  obtain ⟨v,hv,hR⟩:=hr w' hS
  exact ⟨v,hv tmps ht,hR⟩
theorem HQ  {v0:Value} (hb:Dc P F) (S:World->Prop)
  (hc:CallsD P F vs.toArray (.panicking [{ v:=v0,recovered:=false }]) w λe u' w'=>u'=.panicking [{ v:=v0,recovered:=true }]/\(∃ v,e=.returned v)/\S w')
  (hr:∀ w',S w'->∃ v,CK P fn f w' v/\R (.returned v) w'):CX P fn R [⟨.fn (.func F) vs.toArray,#[]⟩] (.panic [{ v:=v0,recovered:=false }]) f w:=by
 intro tmps ht
 obtain ⟨g,a,b,c⟩:=hb
 refine leaves_cons (f:=F) (args:=vs.toArray) (by simp) ?_ (hc.mono ?_)
 ·
  simp only [invoke,Array.empty_append]
  exact Iu a b c _ _
 ·
  rintro e u' w' ⟨rfl,⟨v,rfl⟩,hS⟩
  obtain ⟨v,hv,hR⟩:=hr w' hS
  exact ⟨v,hv tmps ht,hR⟩
def MY:FrameMode->Value × FrameMode
 | .panicking ({ v,recovered:=false,goexit:=false }::older)=>(v,.panicking ({ v,recovered:=true }::older))
 | m=>(.nilIface,m)
theorem PY (c₀:Frame) (cs:List Frame):recoverD (c₀::cs)=some ((MY c₀.mode).1,{ c₀ with mode:=(MY c₀.mode).2 }::cs)\/recoverD (c₀::cs)=none/\MY c₀.mode=(.nilIface,c₀.mode):=by
 unfold recoverD MY
 simp only
 split
 · next h=>rw [h];exact Or.inl rfl
 ·
  next h =>
  refine Or.inr ⟨rfl,?_⟩
  split
  · next h2=>exact Dp h2 (h _ _)
  · rfl
theorem Ou  {d ty:Nat} {l:List Oper} {Q:Exit->Act->List Frame->World->Prop} {a:Act} {c₀:Frame} {cs:List Frame} {Q0:Exit->Act->World->Prop}
  (h:wpList P (⟨some d,.call ⟨.builtin .recover,#[],ats⟩,ty,pos,aft,none⟩::l).toArray Q0 l (a.put (some d) (MY c₀.mode).1) w)
  (hmono:∀ e a w,Q0 e a w->Q e a ({ c₀ with mode:=(MY c₀.mode).2 }::cs) w) :
  (Code.region id (⟨some d,.call ⟨.builtin .recover,#[],ats⟩,ty,pos,aft,none⟩::l).toArray false).wpS P Q a (c₀::cs) w:=by
 intro b k hb t
 generalize ho:(⟨some d,.call ⟨.builtin .recover,#[],ats⟩,ty,pos,aft,none⟩:Oper)=o at h ⊢
 have h':wpOps P (o::l).toArray Q0 (List.range' 1 l.length) (a.put (some d) (MY c₀.mode).1) w:=by
  rw [wpOps_eq_wpList l 1 (λj=>by simp [Nat.add_comm 1 j])];exact h
 obtain ⟨e,a',w',hq,q⟩:=wp_ops _ _ _ h' b k ({ c₀ with mode:=(MY c₀.mode).2 }::cs)
 refine ⟨e,a',_,w',hmono _ _ _ hq,.of_steps (.head step_region (.one (step_lone_go ?_))) q⟩
 have g:List.range (o::l).toArray.size=0::List.range' 1 l.length:=by
  rw [List.range_eq_range'];simp [List.range'_succ]
 rw [g]
 have hg:=stepG_op (P:=P) (b:=b) (k:=k) (cs:=c₀::cs) (w:=w) (a:=a) (ops:=(o::l).toArray) (i:=0) (rest:=List.range' 1 l.length) (o:=o) (by simp) (by subst ho;simp [Region.wanted])
 have s:∀ v,(b.at a (.inRegion (o::l).toArray (0::List.range' 1 l.length)::k)).finish v=b.at (a.put (some d) v) (.inRegion (o::l).toArray (List.range' 1 l.length)::k):=by
  intro v;rw [Frame.finish_at];subst ho;rfl
 have hk:(b.at a (.inRegion (o::l).toArray (0::List.range' 1 l.length)::k)).kind=.deferred:=hb
 have c:=tryRecover_deferred hk (c₀::cs)
 have m:(execOp a.eval o).run P w=.ok .recover w:=by
  subst ho;simp [execOp,resolve,invoke,builtin]
 rw [hg,<- s]
 rcases PY c₀ cs with f | ⟨f,hm⟩
 ·
  rw [f] at c
  simp only [Frame.at] at c ⊢
  simp [stepG.apply,m,c]
 ·
  rw [f] at c
  rw [hm]
  simp only [Frame.at] at c ⊢
  simp [stepG.apply,m,c]
theorem Et  {d ty k:Nat} {l:List Oper} {y:Code} {u:FrameMode} {R:Ending->World->Prop} (hf:P.funcs[F]?=some fn)
  (hb:fn.body=some (.seq (.region id (⟨some d,.call ⟨.builtin .recover,#[],ats⟩,ty,pos,aft,none⟩::l).toArray false) y)) (hn:fn.ntmps=k) (hl:args.size<=k) (hd:Nat.blt d k=true)
  (h:WL P ⟨k,[]⟩ (⟨some d,.call ⟨.builtin .recover,#[],ats⟩,ty,pos,aft,none⟩::l).toArray (nx (λf w=>W P ⟨k,[]⟩ y (HR P fn R) f w) (HR P fn R)) l ((d,(MY u).1)::K2 0 args.toList) w) :
  CallsD P F args u w λe u' w'=>u'=(MY u).2/\R e w':=by
 refine callsD_of_wpS hf hb λc₀ cs hu=>wpS_seq ?_
 have c:NO ⟨k,[]⟩ (K2 0 args.toList) { tmps:=args++Array.replicate (fn.ntmps-args.size) undef,defers:=[] }:=by
  refine ⟨rfl,by simp [hn];omega,λi v hv=>?_⟩
  obtain ⟨j,e,hj⟩:=K0 _ _ _ _ hv
  obtain rfl:i=j:=by omega
  have o:i<args.size:=by
   rcases By i args.size with h | h
   · exact h
   · rw [AZ (by simpa using h)] at hj;cases hj
  have hj':args[i]?=some v:=by rw [<- DT];exact hj
  simp only [AD]
  rw [Array.getElem?_append_left o,hj'];rfl
 subst hu
 have b:∀ e a w,Io ⟨k,[]⟩ (HR P fn R) e a w->bodyPostS P fn c₀ cs (λe u' w'=>u'=(MY c₀.mode).2/\R e w') e a ({ c₀ with mode:=(MY c₀.mode).2 }::cs) w:=by
  rintro e a w ⟨f,hr,hQ⟩
  unfold HR at hQ
  cases e with
  | normal=>obtain ⟨v,g,m⟩:=hQ;exact ⟨hr.1,_,rfl,v,g _ hr.2.2,rfl,m⟩
  | ret=>obtain ⟨v,g,m⟩:=hQ;exact ⟨hr.1,_,rfl,v,g _ hr.2.2,rfl,m⟩
  | panic ch=>exact ⟨hr.1,_,rfl,rfl,hQ⟩
  | outgrown=>exact ⟨_,rfl,hQ⟩
  | exit i=>exact hQ.elim
  | goto l=>exact hQ.elim
 unfold WL at h
 have:=h _ (c.put hd (MY c₀.mode).1)
 refine Ou this ?_
 rintro e a w ⟨f,hr,hQ⟩
 cases e with
 | normal =>
  have hQ':W P ⟨k,[]⟩ y (HR P fn R) f w:=hQ
  unfold W at hQ'
  exact wpS_of_wp (wp_mono (hQ' a hr) λe a w hh=>b e a w hh)
 | _=>exact b _ _ _ ⟨f,hr,hQ⟩
def noPn (Q:Exit->Fr->World->Prop):Exit->Fr->World->Prop
 | .panic _,_,_=>False
 | e,f,w=>Q e f w
theorem LN {c:Code} {Q:Exit->Fr->World->Prop} (h:W P n c (noPn Q) f w):W P n c Q f w:=h.mono λe f w h=>by
 cases e with
 | panic ch=>exact h.elim
 | normal=>exact h
 | ret=>exact h
 | exit i=>exact h
 | goto l=>exact h
 | outgrown=>exact h
theorem Bz.neNil  {u:TypeId} (ht:P.underlying tx=some (.interface (P.methodsAt tx))) (hx:CE f x=some (.iface u v)):Bz P (.binOp .neq tx x (.const .nilIface) ty) f (.bool true):=λρ hρ d ty' pos aft g w=>by
 have h4:ρ (.const .nilIface)=.nilIface:=hρ _ _ rfl
 simp [execOp,hρ _ _ hx,h4,eqGuard,run_neq_held_nil w tx u v ht]
theorem Bz.neNil0  (ht:P.underlying tx=some (.interface (P.methodsAt tx))) (hx:CE f x=some .nilIface):Bz P (.binOp .neq tx x (.const .nilIface) ty) f (.bool false):=λρ hρ d ty' pos aft g w=>by
 have h4:ρ (.const .nilIface)=.nilIface:=hρ _ _ rfl
 simp [execOp,hρ _ _ hx,h4,eqGuard_nil_constR,run_neq_nil_nil w tx ht]
theorem Bz.tas  {t:TypeId} {k:IntKind} (hu:P.underlying t=some (.int k)) (hx:CE f x=some (.iface t v)):Bz P (.typeAssert x tx t true) f (.tuple #[v,.bool true]):=λρ hρ d ty' pos aft g w=>by
 simp [execOp,hρ _ _ hx,Instr.typeAssert,Bp hu]
theorem B2  {t:TypeId} {b o:Nat} (hb:B4 w b cs tb) (ha:(isAgg t).run P w=.ok false w) (hv:cs[o]?=some v):(loadVar t ⟨b,o,none⟩).run P w=.ok v w:=by
 have hc:=(hb.cell o).trans hv
 simp [loadVar,ha,hc]
theorem CM {a b c:Tmp} {tc:TypeId} {pc:Addr} {x y:Value} (hr:fn.results=#[.cell a ta,.cell b tb,.cell c tc]) (ha:look f a=some (.pointer (some pa))) (hb:look f b=some (.pointer (some pb))) (hc:look f c=some (.pointer (some pc)))
  (hx:(loadVar ta pa).run P w=.ok x w) (hy:(loadVar tb pb).run P w=.ok y w) (hz:(loadVar tc pc).run P w=.ok z w):CK P fn f w (.tuple #[x,y,z]):=λtmps hh=>by
 have e1:=hh _ _ ha;have e2:=hh _ _ hb;have e3:=hh _ _ hc
 simp only [AD] at e1 e2 e3
 simp [results,hr,e1,e2,e3,asAddr,hx,hy,hz]
end
end
section
def Hl {α:Type} (E:TypeId) (res:Except Int α) (S:α->Value->World->Prop) (S':World->Prop) (e:Ending) (w:World):Prop :=
 match res with
 | .ok a=>∃ v,e=.returned v/\S a v w
 | .error k=>e=.panicked [{ v:=.iface E (Ag k),recovered:=false }]/\S' w
theorem Hl.ok {α:Type} {E:TypeId} {res:Except Int α} {S:α->Value->World->Prop} {S':World->Prop} {e:Ending} {w:World} (a:α) (v:Value) (h:res=.ok a) (he:e=.returned v) (hs:S a v w):Hl E res S S' e w:=by
 unfold Hl;rw [h];exact ⟨v,he,hs⟩
abbrev LH:=@Hl.ok
theorem XD {α:Type} {E:TypeId} {res:Except Int α} {S:α->Value->World->Prop} {S':World->Prop} {w:World} (k:Int) (h:res=.error k) (hs:S' w):Hl E res S S' (.panicked [{ v:=.iface E (Ag k),recovered:=false }]) w:=by
 unfold Hl;rw [h];exact ⟨rfl,hs⟩
abbrev Ho:=@XD
section
variable {P:Program} {n:Sh} {f:Fr}
theorem EE  {rest:List Oper} {d ty:Nat} {xs:List Operand}
 {res:Except Int α} {S:α->Value->World->Prop} (hb:Dc P F) (hx:Qh f xs=some vs) (hd:Nat.blt d n.n=true)
  (hc:Calls P F vs.toArray w (Hl E res S S')) (herr:∀ k w',res=.error k->S' w'->Q (.panic [{ v:=.iface E (Ag k),recovered:=false }]) f w')
  (hok:∀ a v w',res=.ok a->S a v w'->WL P n ops Q rest ((d,v)::f) w'):WL P n ops Q (⟨some d,.call ⟨.value (.func F),xs.toArray,ats⟩,ty,pos,aft,none⟩::rest) f w:=by
 cases hres:res with
 | ok a=>exact Bf (V:=λv:Value=>v) hb hx hd (hc.mono λe w' h=>by rw [hres] at h;exact h) λv w' h=>hok a v w' hres h
 | error k=>exact F5 hb hx (hc.mono λe w' h=>by rw [hres] at h;exact h) λw' h=>herr k w' hres h
end
theorem DK  {L:FK α} {r:Nat} {l:List α} (h:AO L e B w v l) (hT:B8 w.heap.size r w w1) (hr:r<B):AO L e B w1 v l :=
 h.same λg hg=>hT.block g (h.lt g hg).2 (by have:=(h.lt g hg).1;omega)
section
variable {P:Program} {f:Fr}
theorem Bz.eqNil  {u:TypeId} (ht:P.underlying tx=some (.interface (P.methodsAt tx))) (hx:CE f x=some (.iface u v)):Bz P (.binOp .eql tx x (.const .nilIface) ty) f (.bool false):=λρ hρ d ty' pos aft g w=>by
 have h4:ρ (.const .nilIface)=.nilIface:=hρ _ _ rfl
 simp [execOp,hρ _ _ hx,h4,eqGuard,run_eql_held_nil w tx u v ht]
theorem Bz.eqNil0  (ht:P.underlying tx=some (.interface (P.methodsAt tx))) (hx:CE f x=some .nilIface):Bz P (.binOp .eql tx x (.const .nilIface) ty) f (.bool true):=λρ hρ d ty' pos aft g w=>by
 have h4:ρ (.const .nilIface)=.nilIface:=hρ _ _ rfl
 simp [execOp,hρ _ _ hx,h4,eqGuard_nil_constR,run_eql_nil_nil w tx ht]
end
end
section
theorem CG (k:Int) (w:World):Calls Tryz.prog 106 #[Ag k] w λe w'=>e=.panicked [{ v:=.iface 35 (Ag k),recovered:=false }]/\w=w':=by
 refine AF func106 rfl ntmps106<|An<|A3 rfl<|A1 (.mkI MM rfl)<|G4 rfl (Bx ?_)
 exact ⟨rfl,rfl⟩
theorem R3 (b:Nat) (w:World):Calls Tryz.prog 78 #[.nilIface,ptV b] w λe w'=>e=.returned (.tuple #[])/\w=w':=by
 refine AF func78 rfl ntmps78<|Ad<|A4<|A3 rfl<|A1 (.eqNil0 kR rfl)<|A0<|BZ rfl rfl<|AU (CU rfl  ?_)
 exact ⟨rfl,rfl⟩
theorem R4 (b B:Nat) (j k:Int) (w:World) (h:B4 w b #[Ag j] 35) (hB:B<=b):Calls Tryz.prog 78 #[.iface 35 (Ag k),ptV b] w λe w'=>e=.returned (.tuple #[])/\B4 w' b #[Ag k] 35/\CP b w w':=by
 refine AF func78 rfl ntmps78<|Ad<|A4<|A3 rfl<|A1 (.eqNil kR rfl)<|A0<|Ay rfl rfl<|As<|A4<|A3 rfl<|A1 (.tas MM rfl)<|A3 rfl<|A1 (.ext rfl rfl)<|A1 (.ext rfl rfl)<|CL rfl<|A8 rfl<|Ad<|A4<|A3 rfl<|A1 (.not rfl)<|A0<|Ay rfl rfl<|As<|An<|A3 rfl<|A3 rfl<|A1 (.nck rfl)<|BA Fd rfl rfl rfl h (by exact Nat.le_of_ble_eq_true rfl) (λd a c f=>?_)
 have a:B4 d b _ _:=a
 have c:CP b _ _:=c
 refine A0<|D9 (CU rfl ?_)
 exact ⟨rfl,a,aS⟩
theorem I8 (b1 b2 b5:Nat) (w:World) (h:B4 w b5 #[Ag 0] 35) :
  CallsD Tryz.prog 77 #[ptV b5,ptV b1,ptV b2] .returning w λe u' w'=>u'=.returning/\(∃ v,e=.returned v)/\w'=w:=by
 refine Et func77 rfl ntmps77 bL rfl<|Au (R3 _ _) (λb a=>?_)
 obtain rfl:=a
 refine A0<|A4<|Aj (Ae (Eh _) rfl h rfl)<|A1 (.neq rfl rfl)<|A0<|Ay rfl rfl<|As<|D9 (CU rfl ?_)
 exact ⟨⟨_,rfl⟩,rfl⟩
theorem SQ (b1 b2 b5 B:Nat) (c0 c1 c2 c3 c4 c5:Value) (i j k:Int) (w:World) (h1:B4 w b1 [c0,c1,c2,c3,c4,c5].toArray 27) (h2:B4 w b2 #[Ag i] 3) (h5:B4 w b5 #[Ag j] 35) (hB1:B<=b1) (h12:b1<b2) (h25:b2<b5) (hk:k≠0) :
  CallsD Tryz.prog 77 #[ptV b5,ptV b1,ptV b2] (.panicking [{ v:=.iface 35 (Ag k),recovered:=false }]) w
   λe u' w'=>u'=.panicking [{ v:=.iface 35 (Ag k),recovered:=true }]/\(∃ v,e=.returned v) /\
    B4 w' b1 (Q6 0 0 []).toArray 27/\B4 w' b2 #[Ag 0] 3/\B4 w' b5 #[Ag k] 35/\Below B w w':=by
 refine Et func77 rfl ntmps77 bL rfl ?_
 have h:=Fl (B) w
 refine Cs BQ rfl rfl ((R4 b5 B _ k _ h5 oO)) (λD l=>?_)
 obtain ⟨f,d⟩:=l
 have hb1:=(h1).upd d oO
 have hb2:=(h2).upd d oO
 have m:=BR h oO d
 refine A0<|A4<|Aj (Ae (Eh _) rfl f rfl)<|A1 (.bis (true) (.neq rfl rfl) (by simp [hk]))<|A0<|BZ rfl rfl ?_
 refine An<|A1 (.buildL (ps:=_) Ec rfl rfl rfl pZ) ?_
 refine Az rfl rfl hb1 Ah rfl rfl (λE g b y=>?_)
 have o:=f.upd b oM
 have q:=hb2.upd b oM
 have s:=BR m oO b
 refine BA BI rfl rfl rfl q (by exact Nat.le_of_ble_eq_true rfl) (λA c a C=>?_)
 have c:B4 A b2 _ _:=c
 have a:CP b2 _ _:=a
 have t:=o.up a
 have u:=g.up a
 have x:=BR s oO a
 refine A0<|D9 (CU rfl ?_)
 exact ⟨⟨_,rfl⟩,u,c,t,x⟩
end
section
inductive PV where
 | mk (kind n:Int) (text:l8_) (keys:List (l8_)) (list:List PV)
structure PC where
 kind:Int
 n:Int
 text:l8_
 kp:Option Addr
 kl:Nat
 kc:Nat
 lp:Option Addr
 ll:Nat
 lc:Nat
def VF (x:PC):List Value:=[Ag x.kind,Ag x.n,.string (bs x.text),.slice x.kp x.kl x.kc,.slice x.lp x.ll x.lc,.slice none 0 0]
def Q7:FK PC:=⟨6,VF,dD,λ_=>rfl,λx u hu=>AP.1 (show (VF x).all Value.oneCell'=true from rfl) u hu⟩
def DR (k n:Int) (s:l8_):PC:=⟨k,n,s,none,0,0,none,0,0⟩
def IL (k n:Int) (s:l8_):PV:=.mk k n s [] []
def GZ:FK (l8_):=⟨1,λs=>[.string (bs s)],dD,λ_=>rfl,λx u hu=>by simp only [Bl] at hu;subst hu;rfl⟩
theorem AA.lit  {V:FK α} {b:Nat} {t:TypeId} {l:List α} (h:B4 w b cs t) (e:cs=(V.flat l).toArray):AA V w (some ⟨b,0,none⟩) l:=by
 subst e
 refine HM (λ_=>rfl) λk v hk=>?_
 show w.cell? ((⟨b,0,none⟩:Addr).add k)=_
 rw [GU,D5,h.cell k]
 simpa using hk
theorem AA.strs {w:World} {p:Option Addr} {l:List (l8_)} (h:AA GZ w p l):AM F4 w p l:=⟨h.isp,λj hj=>by
 have:=h.cells j hj 0 dD
 rw [show j * GZ.m+0=j by show j * 1+0=j;omega] at this
 exact this⟩
def DY (S:Nat->Prop) (w:World) (v:Value) (l:List (l8_)):Prop:=AO GZ 9 0 w v l/\∀ g,v.ownBlock=some g->S g
def Rj (S:Nat->Prop) (w:World) (v:Value) (cs:List PC):Prop:=AO Q7 27 0 w v cs/\∀ g,v.ownBlock=some g->S g
inductive BJ (w:World) (S:Nat->Prop):PC->PV->Prop
 | mk (x:PC) (keys:List (l8_)) (list:List PV) (cs:List PC) (hk:DY S w (.slice x.kp x.kl x.kc) keys) (hr:Rj S w (.slice x.lp x.ll x.lc) cs) (hlen:cs.length=list.length)
   (hsub:∀ i (h:i<cs.length) (h2:i<list.length),BJ w S cs[i] list[i]):BJ w S x (.mk x.kind x.n x.text keys list)
theorem BJ.zero (w:World) (S:Nat->Prop) (k n:Int) (s:l8_):BJ w S (DR k n s) (IL k n s) :=
 BJ.mk (DR k n s) [] [] [] ⟨AO.nil _ _ _ _,λg h=>by cases h⟩ ⟨AO.nil _ _ _ _,λg h=>by cases h⟩ rfl λi h=>by simp at h
theorem DY.same  {l:List (l8_)} (h:DY S w v l) (hb:∀ k,S k->k<w.heap.size->w1.heap[k]?=w.heap[k]?):DY S w1 v l :=
 ⟨h.1.same λg hg=>hb g (h.2 g hg) (h.1.lt g hg).2,h.2⟩
theorem Rj.same  {l:List PC} (h:Rj S w v l) (hb:∀ k,S k->k<w.heap.size->w1.heap[k]?=w.heap[k]?):Rj S w1 v l :=
 ⟨h.1.same λg hg=>hb g (h.2 g hg) (h.1.lt g hg).2,h.2⟩
theorem BJ.same  {x:PC} {o:PV} (h:BJ w S x o) (hb:∀ k,S k->k<w.heap.size->w1.heap[k]?=w.heap[k]?):BJ w1 S x o:=by
 induction h with
 | mk x keys list cs hk hr hlen _ ih=>exact .mk x keys list cs (hk.same hb) (hr.same hb) hlen ih
theorem BJ.mono  {x:PC} {o:PV} (h:BJ w S x o) (hST:∀ k,S k->k<w.heap.size->T k):BJ w T x o:=by
 induction h with
 | mk x keys list cs hk hr hlen _ ih=>exact .mk x keys list cs ⟨hk.1,λg hg=>hST g (hk.2 g hg) (hk.1.lt g hg).2⟩ ⟨hr.1,λg hg=>hST g (hr.2 g hg) (hr.1.lt g hg).2⟩ hlen ih
end
section
def Lc (n:Int):Int × Int:=if n < -32768\/32767<n then (0,11) else (n * 65536,0)
structure Wc where
 list:List Vi
 start:JD
 now:JD
def XG:JD:=⟨0,0⟩
def ST:Wc:=⟨[],XG,XG⟩
def Ox (b:Bool):Except Int Unit:=if b=true then .ok () else .error 22
def Py (n:Int):Km:=⟨n,0,0,0,0⟩
structure Nr where
 name:l8_
 font:Int
end
section
def WP (m:Int) (v:Value) (s n:JD):Array Value:=#[Ag m,v,Ag s.fX,Ag s.fY,Ag n.fX,Ag n.fY]
theorem Em  {L:FK α} {t:TypeId} {b:Nat} {l:List α} (h:AO L e B w v l) (hb:B4 w b cs t) (he:e≠t):∀ g,v.ownBlock=some g->g≠b:=λg hg hgb=>by
 rcases h with ⟨rfl,-⟩ | ⟨g1,cap,cur,rfl,-,h1,-⟩
 · cases hg
 ·
  cases hg
  have hgb:g1=b:=hgb
  rw [hgb,show w.heap[b]?=_ from hb] at h1
  simp only [BK,Obj.cells.injEq] at h1
  exact he h1.2.1.symm
def vb (v:Value) (b:Nat):Nat:=v.ownBlock.getD b
structure TL (B:Nat) (w:World) (bp:Nat) (m:Int) (P:Wc) (v:Value):Prop where
 blk:B4 w bp (WP m v P.start P.now) 232
 own:AO Ua 176 B w v P.list
 len:(P.list.length:Int)<=m/\m<=1000000
 base:B<=w.heap.size
def A4O (w:World) (v v':Value):Prop:=∀ g,v'.ownBlock=some g->v.ownBlock=some g\/w.heap.size<=g
theorem A2D:(Tryz.prog.info? 176).map (λi=>(i.zero,i.size,i.bytes))=some (some (.agg (A2f ⟨0,XG,XG,XG⟩).toArray),7,56):=by kernel_rfl
end
section
theorem RS (p:Option Addr) (l:List Vi) (c:Nat) (w:World) (h:AA Ua w p l) (hl:l.length<=1000000) :
    Calls Tryz.prog 250 #[.slice p l.length c] w λe w'=>∃ x:Option Addr × Nat,e=.returned (.slice x.1 l.length x.2)/\AL w w'/\AO Ua 176 w.heap.size w' (.slice x.1 l.length x.2) l:=by
  refine AF func250 rfl ntmps250 ?_;have i:=Dh w;refine A4<|A8 rfl<|Ad<|A4<|A3 rfl<|A1 (.eqSN XQ rfl)<|A0<|Ai rfl (λH=>?_) (λH=>?_);have hp:p=none:=by cases p with | none=>rfl | some a=>exact Dp (show (some a).isNone=true by assumption) (by simp)
  have t:l=[]:=by
    cases l with
    | nil=>rfl
    | cons x r=>have:=h.isp (by simp);rw [hp] at this;cases this
  refine A4<|A8 rfl<|AY ?_;exact ⟨(none,0),by rw [t];rfl,i,by rw [t];exact AO.nil _ _ _ _⟩;have A:p≠none:=λe=>by (have q:p.isNone=false:=by assumption);rw [e] at q;cases q
  refine As<|A4<|ID XQ sizeOf176 rfl (λB D f b j J=>?_);have u:=λv=>f▸h.lt v
  have E:=AA.upd h j (λv=>CV (u v));have F:=uB i f j;have o:=CW f i.size;have b:=GV (L:=Ua) (l:=[]) (b B (DS _));have s:B<=D.heap.size:=by omega
  refine A3 rfl<|Cb XQ A2D rfl rfl rfl b rfl E (by simp only [Am];omega) (s) rfl (λ_=>.inr A) (λP Q k y K N=>?_);have G:=Ex F (y.mono (o));refine A8 rfl<|AY ?_
  (have m := (k).base (C := w.heap.size) (fun g hg => CT (Nat.le_of_eq f.symm) ((k).lt g hg).1)
   simp only [BT] at m;obtain ⟨q,d,rfl,-⟩:=m.row;exact ⟨(q,d),rfl,G,m⟩)
theorem RB (B bp:Nat) (m:Int) (v:Value) (P:Wc) (w:World) (h:TL B w bp m P v) :
  Calls Tryz.prog 249 #[ptV bp] w λe w'=>∃ x:Option Addr × Nat,e=.returned (.slice x.1 P.list.length x.2)/\AL w w'/\AO Ua 176 w.heap.size w' (.slice x.1 P.list.length x.2) P.list:=by
 obtain ⟨c,b,i,j⟩:=h
 obtain ⟨p,cc,rfl,d,-,-,-⟩:=b.row
 refine AF func249 rfl ntmps249 ?_
 have f:=Dh w
 refine A4<|A8 rfl<|Ad<|A4<|A3 rfl<|A1 (.bis (false) (.eqP underlying211 rfl) (by rfl))<|A0<|Ay rfl rfl<|As<|A4<|A3 rfl<|A1 (.nck rfl)<|A1 (.fa underlying232 rfl sizeOf47 dD rfl)<|Aj (Ae (isAgg47 _) rfl c rfl)<|Bf BQ rfl rfl ((RS p P.list cc _ d oO)) (λx k a=>?_)
 have g:=Ci f a.1
 have hx:=a.2
 refine A8 rfl<|AY ?_
 exact ⟨x,rfl,g,hx⟩
theorem WO (B bp:Nat) (m:Int) (v:Value) (P:Wc) (w:World) (h:TL B w bp m P v) :
  Calls Tryz.prog 253 #[ptV bp] w λe w'=>e=.returned (.tuple #[])/\B9 w.heap.size [bp] w w'/\TL B w' bp m ST (.slice none 0 0):=by
 obtain ⟨l,t,b,c⟩:=h
 refine AF func253 rfl ntmps253 ?_
 have o:=B9.refl w.heap.size ([bp]) w
 refine A4<|A3 rfl<|A1 (.bis (true) (.neP underlying211 rfl) (by rfl))<|A0<|BZ rfl rfl<|An<|A3 rfl<|A3 rfl<|A3 rfl<|?_
 refine A1 (.buildL (ps:=_) ZF rfl rfl rfl pZ) ?_
 refine A1 (.buildL (ps:=_) ZF rfl rfl rfl pZ) ?_
 refine A1 (.nck rfl)<|A1 (.fa underlying232 rfl sizeOf47 dD rfl)<|W7 1 ((WP m (.slice none 0 0) P.start P.now)) l sizeOf47 (λA d f u=>?_)
 have q:=E7 o (by exact Qc f (by simp))
 refine A1 (.nck rfl)<|A1 (.fa underlying232 rfl sizeOf173 dD rfl)<|W8 2 ((WP m (.slice none 0 0) XG P.now)) d YV (λC g i x=>?_)
 have s:=E7 q (by exact Qc i (by simp))
 refine A1 (.nck rfl)<|A1 (.fa underlying232 rfl sizeOf173 dD rfl)<|W8 4 ((WP m (.slice none 0 0) XG XG)) g YV (λD j k y=>?_)
 have a:=E7 s (by exact Qc k (by simp))
 refine A0<|D9 (CU rfl ?_)
 exact ⟨rfl,a,⟨j,AO.nil _ _ _ _,⟨by show (0:Int)<=m;omega,b.2⟩,CT c a.size⟩⟩
theorem blP:Tryz.prog.built 232=λparts=>Instr.fill (([(0,1),(1,1),(2,2),(4,2)]:List (Nat × Nat)).toArray[·]?) #[Ag 0,.slice none 0 0,Ag 0,Ag 0,Ag 0,Ag 0] parts:=by kernel_rfl
theorem A0Q (m:Int) (w:World) (hm:0<=m/\m<=1000000) :
  Calls Tryz.prog 147 #[Ag m] w λe w'=>∃ bp:Nat,e=.returned (ptV bp)/\AL w w'/\w.heap.size<=bp/\TL w.heap.size w' bp m ST (.slice none 0 0):=by
 refine AF func147 rfl ntmps147 ?_
 have d:=Dh w
 refine A4<|A8 rfl<|A4<|A3 rfl<|?_
 refine A1 (.build (cs:=WP m (.slice none 0 0) XG XG) rfl (by rw [blP];rfl)) ?_
 refine WL.box rfl rfl (λg i f b c h=>?_)
 have a:=uB d f c
 refine A8 rfl<|AY ?_
 exact ⟨g,rfl,a,oO,⟨b,AO.nil _ _ _ _,⟨hm.1,hm.2⟩,a.size⟩⟩
end
section
theorem GI:∀ (n:Nat) (d:Nat) (o l:l8_) (s r:l8_),l.length<=n->D0 d o l=some (s,r)->r.length<=l.length
 | n,d,o,[],s,r,_,h=>by rw [D0.eq_def] at h;cases h
 | 0,d,o,c::t,s,r,hn,h=>by simp at hn
 | n+1,d,o,c::t,s,r,hn,h=>by
  simp only [Aa] at hn ⊢
  rw [D0.eq_def] at h
  simp only at h
  split at h
  · have:=GI n _ _ t s r oO h;omega
  ·
   split at h
   ·
    split at h
    · simp only [BK,Co] at h;rw [h.2];omega
    · have:=GI n _ _ t s r oO h;omega
   ·
    split at h
    ·
     split at h
     · cases h
     ·
      next e r' =>
      have h2:=Ts e r'
      simp only [Aa] at hn
      have:=GI n _ _ _ s r oO h
      simp only [Aa];omega
    ·
     split at h
     ·
      have h2:=LI t
      have:=GI n _ _ _ s r oO h;omega
     · have:=GI n _ _ t s r oO h;omega
theorem Ka:∀ (l:l8_) (h:Option Nat) (o:l8_) (s r:l8_),Kb h o l=some (s,r)->r.length<=l.length
 | [],h,o,s,r,e=>by simp [Kb] at e
 | c::t,h,o,s,r,e=>by
  simp only [Aa]
  unfold Kb at e
  split at e
  · have:=Ka t _ _ s r e;omega
  ·
   split at e
   · simp only [BK,Co] at e;rw [<- e.2];omega
   ·
    split at e
    · cases e
    ·
     split at e
     · have:=Ka t _ _ s r e;omega
     · have:=Ka t _ _ s r e;omega
theorem MO {o:Option (l8_ × l8_)} {t:JB} {r:l8_} (h:Gp o=.ok (t,r)):∃ s,o=some (s,r)/\t=⟨6,0,s⟩/\s.length<=65535:=by
 unfold Gp at h
 split at h
 · cases h
 ·
  next s r' =>
  split at h
  · cases h
  ·
   simp only [Except.ok.injEq,Co] at h
   obtain ⟨rfl,rfl⟩:=h
   exact ⟨s,rfl,rfl,oO⟩
theorem KD {k:Int} {t:JB} {r:l8_} (h:HG k l=.ok (t,r)):r=l.dropWhile D1/\t=⟨k,0,l.takeWhile D1⟩/\(l.takeWhile D1).length<=127:=by
 unfold HG at h
 split at h
 · cases h
 ·
  simp only [Except.ok.injEq,Co] at h
  exact ⟨h.2.symm,h.1.symm,oO⟩
theorem GT (l:l8_):(l.dropWhile D1).length<=l.length:=(List.dropWhile_sublist D1).length_le
theorem PZ (o:Option (Nat × Bool)):(FX o).ok=true->(FX o).e=0->(FX o).kind=1\/(FX o).kind=2:=by
 unfold FX
 split
 · simp [Cm]
 · split <;> simp [FW,GF]
theorem SI (l:l8_):(EI l).ok=true->(EI l).e=0->(EI l).kind=1\/(EI l).kind=2:=by
 unfold EI
 split
 ·
  unfold JW
  repeat' split
  all_goals first | exact PZ _ | simp [Cm]
 · simp [Cm]
theorem Sq (l:l8_) (h:(FC l).ok=true) (he:(FC l).e=0):(FC l).kind=1\/(FC l).kind=2:=by
 have hf:∀ a b c,(Nc a b c).ok=true->(Nc a b c).e=0->(Nc a b c).kind=1\/(Nc a b c).kind=2:=by
  intro a b c;unfold Nc;repeat' split
  all_goals simp [Cm,FW,GF,Kp]
 revert h he
 unfold FC
 split
 · simp [Cm]
 ·
  split
  · exact SI l
  ·
   split
   · simp [GF]
   ·
    unfold OU
    split
    ·
     split
     · exact hf _ _ _
     · simp [Cm]
    · exact hf _ _ _
theorem SE {c:UInt8} (h1:CJ c=false) (h2:c≠37) (h40:c≠40) (h41:c≠41) (h60:¬ (c=60\/c=62)) (h123:c≠123) (h125:c≠125) (h91:¬ (c=91\/c=93)) (h47:c≠47):D1 c=true:=by
 unfold D1 GP
 rw [h1]
 simp only [not_or] at h60 h91
 simp [h2,h40,h41,h60.1,h60.2,h123,h125,h91.1,h91.2,h47]
theorem XX {c:UInt8} {r:l8_} (h1:CJ c=false) (h2:c≠37) {t:JB} (h:KO c r=.ok (t,s)):s.length<=r.length/\t.kind≠0:=by
  unfold KO at h
  split at h
  · obtain ⟨s', ho, rfl, -⟩ := MO h
    exact ⟨GI _ _ _ _ _ _ (DS _) ho,by simp⟩
  · split at h
    · cases h
    · split at h
      · unfold Ki at h
        split at h
        · split at h
          · simp only [Except.ok.injEq, Co] at h
            obtain ⟨rfl,rfl⟩:=h
            exact ⟨by simp,by simp⟩
          · split at h
            · obtain ⟨s', ho, rfl, -⟩ := MO h
              exact ⟨Ka _ _ _ _ _ ho,by simp⟩
            · cases h
        · split at h
          · obtain ⟨s', ho, rfl, -⟩ := MO h
            exact ⟨Ka _ _ _ _ _ ho,by simp⟩
          · cases h
      · split at h
        · simp only [Except.ok.injEq, Co] at h
          obtain ⟨rfl,rfl⟩:=h
          exact ⟨DS _,by simp⟩
        · split at h
          · simp only [Except.ok.injEq, Co] at h
            obtain ⟨rfl,rfl⟩:=h
            exact ⟨DS _,by simp⟩
          · split at h
            · simp only [Except.ok.injEq, Co] at h
              obtain ⟨rfl,rfl⟩:=h
              exact ⟨DS _,by simp⟩
            · split at h
              · unfold Ll at h
                split at h
                · split at h
                  · next d r' _ =>
                    obtain ⟨rfl,rfl,-⟩:=KD h
                    have:=GT r'
                    exact ⟨by simp only [Aa];omega,by simp⟩
                  · obtain ⟨rfl, rfl, -⟩ := KD h
                    exact ⟨GT _,by simp⟩
                · obtain ⟨rfl, rfl, -⟩ := KD h
                  exact ⟨GT _,by simp⟩
              · have e := SE h1 h2 aS aS aS aS aS aS aS
                have a:(c::r).dropWhile D1=r.dropWhile D1:=by simp [List.dropWhile_cons,e]
                have b:=GT r
                unfold Sl at h
                simp only at h
                split at h
                · cases h
                · next he =>
                  split at h
                  · next hk =>
                    simp only [Except.ok.injEq,Co] at h
                    obtain ⟨rfl,rfl⟩:=h
                    rw [a]
                    refine ⟨b,?_⟩
                    have:=Sq _ hk (by simpa using he)
                    intro f
                    simp only at f
                    omega
                  · obtain ⟨rfl, rfl, -⟩ := KD h
                    rw [a]
                    exact ⟨b,by simp⟩
theorem I5:∀ (l:l8_) (m:Bool) {c:UInt8} {r:l8_},DA m l=c::r->CJ c=false/\c≠37
 | [],m,c,r,h=>by cases m <;> simp [DA] at h
 | x::t,false,c,r,h=>by
  unfold DA at h
  split at h
  · exact I5 t true h
  ·
   split at h
   · exact I5 t false h
   ·
    simp only [A0n] at h
    obtain ⟨rfl,rfl⟩:=h
    exact ⟨by simp_all,aS⟩
 | x::t,true,c,r,h=>by
  unfold DA at h
  split at h
  · exact I5 t false h
  · exact I5 t true h
theorem Wk  {t:JB} (h:Lk l=.ok (t,s)):(t.kind=0/\s=[])\/(t.kind≠0/\s.length<l.length):=by
 unfold Lk at h
 split at h
 ·
  simp only [Except.ok.injEq,Co] at h
  obtain ⟨rfl,rfl⟩:=h
  exact Or.inl ⟨rfl,rfl⟩
 ·
  next c r hs =>
  have hh:=I5 l false hs
  obtain ⟨d,b⟩:=XX (t:=t) (s:=s) hh.1 hh.2 h
  have a:=HT l false
  rw [hs] at a
  simp only [Aa] at a
  exact Or.inr ⟨b,oO⟩
theorem U3 {o:Option (l8_ × l8_)} {k:Int} (h:Gp o=.error k):k=14\/k=9:=by
 unfold Gp at h
 split at h
 · cases h;exact Or.inl rfl
 ·
  split at h
  · cases h;exact Or.inr rfl
  · cases h
theorem UR {i:Int} {k:Int} (h:HG i l=.error k):k=9:=by
 unfold HG at h
 split at h
 · cases h;rfl
 · cases h
theorem Wn {c:UInt8} {r:l8_} {k:Int} (h:KO c r=.error k):k≠0:=by
 have ht:∀ {o:Option (l8_ × l8_)},Gp o=.error k->k≠0:=λh=>by rcases U3 h with rfl | rfl <;> decide
 have hn:∀ {i:Int} {l:l8_},HG i l=.error k->k≠0:=λh=>by rw [UR h];decide
 unfold KO at h
 split at h
 · exact ht h
 ·
  split at h
  · cases h;decide
  ·
   split at h
   ·
    unfold Ki at h
    split at h
    ·
     split at h
     · cases h
     ·
      split at h
      · exact ht h
      · cases h;decide
    ·
     split at h
     · exact ht h
     · cases h;decide
   ·
    split at h
    · cases h
    ·
     split at h
     · cases h
     ·
      split at h
      · cases h
      ·
       split at h
       ·
        unfold Ll at h
        split at h
        ·
         split at h
         · exact hn h
         · exact hn h
        · exact hn h
       ·
        unfold Sl at h
        simp only at h
        split at h
        · next he=>cases h;exact he
        ·
         split at h
         · cases h
         · exact hn h
theorem Wl  (h:Lk l=.error 0):False:=by
 unfold Lk at h
 split at h
 · cases h
 · exact Wn (k:=0) h rfl
theorem P9 (l:l8_) (a:Nat) (ha:a<=l.length):(FQ l a).e≠0\/((FQ l a).k=0/\(FQ l a).at'=l.length)\/((FQ l a).k≠0/\(a:Int)<(FQ l a).at'/\(FQ l a).at'<=l.length):=by
 have e:FQ l a=X4 l (Lk (l.drop a)):=by unfold FQ;rw [A2 oO];rfl
 rw [e]
 cases h:Lk (l.drop a) with
 | error k =>
  by_cases hk:k=0
  · exfalso;subst hk;exact Wl h
  · exact Or.inl hk
 | ok p =>
  obtain ⟨t,s⟩:=p
  right
  simp only [X4]
  rcases Wk h with ⟨b,rfl⟩ | ⟨b,c⟩
  · exact Or.inl ⟨b,by simp⟩
  ·
   rw [Aq] at c
   exact Or.inr ⟨b,oO,oO⟩
end
section
def KQ:l8_->Option (l8_)
 | []=>some []
 | [c]=>if c=35 then none else some [c]
 | [c,a]=>if c=35 then none else (KQ [a]).map (c::·)
 | c::a::b::r =>
  if c=35 then (if DQ a<16/\DQ b<16 then (KQ r).map (ch ((16 * DQ a+DQ b:Nat):Int)::·) else none)
  else (KQ (a::b::r)).map (c::·)
def Iz (l:l8_) (t:Nat):Except Int (l8_ × Nat) :=
 match KQ (Dk l t) with
 | none=>.error 23
 | some out=>if out=[]\/0∈out then .error 23 else if 127<out.length then .error 25 else .ok (out,Bq l t)
def HE (c:UInt8):Bool:=c != 62 && (CJ c || decide (DQ c<16))
def NG (l:l8_) (t:Nat):Bool:=if l[t]?=some 60 then (l.drop (t+1)).all HE else true
def JP (l:l8_) (t:Nat):Except Int (l8_ × Nat) :=
 if (FQ l t).e=14/\NG l t=true then .error 24
 else if (FQ l t).e=9 then .error 25
 else if (FQ l t).e≠0\/(FQ l t).k≠6 then .error 23
 else .ok ((FQ l t).s,(FQ l t).at'.toNat)
abbrev MA:=Except Int (PV × Nat)
def Ic (obj:Nat->MA) (l:l8_):Nat->List PV->Nat->Except Int (List PV × Nat)
 | 0,_,_=>.error 24
 | f+1,acc,t =>
  match l[AW false l t]? with
  | none=>.error 24
  | some c =>
   if c=93 then .ok (acc,AW false l t+1)
   else if 65535<=acc.length then .error 25
   else match obj (AW false l t) with
    | .error k=>.error k
    | .ok (o,t')=>Ic obj l f (acc++[o]) t'
def Gb (obj:Nat->MA) (l:l8_):Nat->List (l8_)->List PV->Nat->Except Int (List (l8_) × List PV × Nat)
 | 0,_,_,_=>.error 24
 | f+1,ks,os,t =>
  match l[AW false l t]? with
  | none=>.error 24
  | some c =>
   if c=62/\l.length<=AW false l t+1 then .error 24
   else if c=62/\l[AW false l t+1]?=some 62 then .ok (ks,os,AW false l t+2)
   else if c≠47 then .error 23
   else match Iz l (AW false l t+1) with
    | .error k=>.error k
    | .ok (k,t1) =>
     if k∈ks then .error 23
     else if 65535<=os.length then .error 25
     else match l[AW false l t1]? with
      | none=>.error 24
      | some _=>match obj (AW false l t1) with
       | .error k=>.error k
       | .ok (o,t')=>Gb obj l f (ks++[k]) (os++[o]) t'
def I4 (l:l8_) (t:Nat):MA:=match JP l t with | .error k=>.error k | .ok (s,t')=>.ok (IL 5 0 s,t')
def La (l:l8_) (t:Nat):MA:=match Iz l t with | .error k=>.error k | .ok (s,t')=>.ok (IL 4 0 s,t')
def Ph (r:Except Int (List PV × Nat)):MA:=match r with | .error k=>.error k | .ok (os,t')=>.ok (.mk 6 0 [] [] os,t')
def Ls (r:Except Int (List (l8_) × List PV × Nat)):MA:=match r with | .error k=>.error k | .ok (ks,os,t')=>.ok (.mk 7 0 [] ks os,t')
def FT (X:WR):MA:=if X.ok then .ok (IL X.kind X.n [],X.np) else .error 23
def EJ (refs:Bool) (l:l8_):Nat->Nat->MA
 | 0,t =>
  match l[t]? with
  | none=>.error 24
  | some c =>
   if c=47 then La l (t+1)
   else if c=91 then .error 25
   else if c=40 then I4 l t
   else if c=60 then (if l.length<=t+1 then .error 24 else if l[t+1]?≠some 60 then I4 l t else .error 25)
   else FT (EP refs l t)
 | d+1,t =>
  match l[t]? with
  | none=>.error 24
  | some c =>
   if c=47 then La l (t+1)
   else if c=91 then Ph (Ic (EJ refs l d) l (l.length+1) [] (t+1))
   else if c=40 then I4 l t
   else if c=60 then (if l.length<=t+1 then .error 24 else if l[t+1]?≠some 60 then I4 l t else Ls (Gb (EJ refs l d) l (l.length+1) [] [] (t+2)))
   else FT (EP refs l t)
end
section
def LJ (c:UInt8):Int:=match YZ c with | some d=>(d:Int) | none=>-1
theorem If (c:UInt8):LJ c=-1/\15<DQ c\/LJ c=DQ c/\DQ c<16:=by
 unfold LJ YZ
 by_cases h:DQ c<16
 · rw [A5 h];exact Or.inr ⟨rfl,h⟩
 · rw [A2 h];exact Or.inl ⟨rfl,oO⟩
theorem Ue (c:UInt8) (w:World) :
  Calls Tryz.prog 227 #[.int .u8 (c.toNat:Int)] w λe w'=>e=.returned (Ag (LJ c))/\w=w':=by
 obtain ⟨R,hR⟩:=eX (LJ c)
 rw [<- hR]
 have hR':R=if 48<=c.toNat/\c.toNat<=57 then (c.toNat:Int)-48 else if 97<=c.toNat/\c.toNat<=102 then (c.toNat:Int)-87 else if 65<=c.toNat/\c.toNat<=70 then (c.toNat:Int)-55 else -1:=by
  rw [hR];unfold LJ YZ
  by_cases h1:48<=c.toNat/\c.toNat<=57;rw [show DQ c=c.toNat-48 by unfold DQ;rw [A5 h1],A5 oO,A5 h1];show ((c.toNat-48:Nat):Int)=_;omega
  rw [A2 h1]
  by_cases j:97<=c.toNat/\c.toNat<=102;rw [show DQ c=c.toNat-87 by unfold DQ;rw [A2 h1,A5 oO],A5 oO,A5 j];show ((c.toNat-87:Nat):Int)=_;omega
  rw [A2 j]
  by_cases h3:65<=c.toNat/\c.toNat<=70;rw [show DQ c=c.toNat-55 by unfold DQ;rw [A2 h1,A2 oO,A5 oO],A5 oO,A5 h3];show ((c.toNat-55:Nat):Int)=_;omega
  rw [A2 h3,A2];unfold DQ;rw [A2 h1]
  split
  omega
  split <;> omega
 refine AF func227 rfl ntmps227<|A4<|A8 rfl<|Ad<|AT<|A4<|A3 rfl<|A1 (.geq rfl rfl)<|A3 rfl<|Cc rfl rfl rfl (λd=>?_) (λd=>?_)
 have A:=dT d
 refine A3 rfl<|AE d<|A1 (.leq rfl rfl)<|A1 (.pkT rfl d rfl)<|A8 rfl<|Ai rfl (λj=>?_) (λj=>?_)
 have B:=dT j
 refine A4<|A3 rfl<|A1 (.sub rfl rfl (PO oO))<|A1 (.cvt Ga ML rfl (Bb oO))<|A8 rfl<|AY ?_
 exact ⟨DL (by rw [hR'];(repeat' split) <;> omega),rfl⟩
 have B:=dF j
 refine A4<|A3 rfl<|A1 (.geq rfl rfl)<|A3 rfl<|Cc rfl rfl rfl (λf=>?_) (λf=>?_)
 have C:=dT f
 refine A3 rfl<|AE f<|A1 (.leq rfl rfl)<|A1 (.pkT rfl f rfl)<|A8 rfl<|Ai rfl (λo=>?_) (λo=>?_)
 have D:=dT o
 refine A4<|A3 rfl<|A1 (.sub rfl rfl (PO oO))<|A1 (.cvt Ga ML rfl (Bb oO))<|A1 (.add rfl rfl (Bb oO))<|A8 rfl<|AY ?_
 exact ⟨DL (by rw [hR'];(repeat' split) <;> omega),rfl⟩
 have D:=dF o
 refine A4<|A3 rfl<|A1 (.geq rfl rfl)<|A3 rfl<|Cc rfl rfl rfl (λg=>?_) (λg=>?_)
 have E:=dT g
 refine A3 rfl<|AE g<|A1 (.leq rfl rfl)<|A1 (.pkT rfl g rfl)<|A8 rfl<|Ai rfl (λq=>?_) (λq=>?_)
 have F:=dT q
 refine A4<|A3 rfl<|A1 (.sub rfl rfl (PO oO))<|A1 (.cvt Ga ML rfl (Bb oO))<|A1 (.add rfl rfl (Bb oO))<|A8 rfl<|AY ?_
 exact ⟨DL (by rw [hR'];(repeat' split) <;> omega),rfl⟩
 have F:=dF q
 refine As<|A4<|A8 rfl<|AY ?_
 exact ⟨DL (by rw [hR'];(repeat' split) <;> omega),rfl⟩
 have E:=dF g
 refine B6 g<|A1 (.pkF rfl g rfl)<|A8 rfl<|Ay rfl rfl<|As<|A4<|A8 rfl<|AY ?_
 exact ⟨DL (by rw [hR'];(repeat' split) <;> omega),rfl⟩
 have C:=dF f
 refine B6 f<|A1 (.pkF rfl f rfl)<|A8 rfl<|Ay rfl rfl<|A4<|A3 rfl<|A1 (.geq rfl rfl)<|A3 rfl<|Cc rfl rfl rfl (λh=>?_) (λh=>?_)
 have G:=dT h
 refine A3 rfl<|AE h<|A1 (.leq rfl rfl)<|A1 (.pkT rfl h rfl)<|A8 rfl<|Ai rfl (λs=>?_) (λs=>?_)
 have H:=dT s
 refine A4<|A3 rfl<|A1 (.sub rfl rfl (PO oO))<|A1 (.cvt Ga ML rfl (Bb oO))<|A1 (.add rfl rfl (Bb oO))<|A8 rfl<|AY ?_
 exact ⟨DL (by rw [hR'];(repeat' split) <;> omega),rfl⟩
 have H:=dF s
 refine As<|A4<|A8 rfl<|AY ?_
 exact ⟨DL (by rw [hR'];(repeat' split) <;> omega),rfl⟩
 have G:=dF h
 refine B6 h<|A1 (.pkF rfl h rfl)<|A8 rfl<|Ay rfl rfl<|As<|A4<|A8 rfl<|AY ?_
 exact ⟨DL (by rw [hR'];(repeat' split) <;> omega),rfl⟩
 have A:=dF d
 refine B6 d<|A1 (.pkF rfl d rfl)<|A8 rfl<|Ay rfl rfl<|A4<|A3 rfl<|A1 (.geq rfl rfl)<|A3 rfl<|Cc rfl rfl rfl (λi=>?_) (λi=>?_)
 have J:=dT i
 refine A3 rfl<|AE i<|A1 (.leq rfl rfl)<|A1 (.pkT rfl i rfl)<|A8 rfl<|Ai rfl (λk=>?_) (λk=>?_)
 have t:=dT k
 refine A4<|A3 rfl<|A1 (.sub rfl rfl (PO oO))<|A1 (.cvt Ga ML rfl (Bb oO))<|A1 (.add rfl rfl (Bb oO))<|A8 rfl<|AY ?_
 exact ⟨DL (by rw [hR'];(repeat' split) <;> omega),rfl⟩
 have t:=dF k
 refine A4<|A3 rfl<|A1 (.geq rfl rfl)<|A3 rfl<|Cc rfl rfl rfl (λa=>?_) (λa=>?_)
 have u:=dT a
 refine A3 rfl<|AE a<|A1 (.leq rfl rfl)<|A1 (.pkT rfl a rfl)<|A8 rfl<|Ai rfl (λl=>?_) (λl=>?_)
 have v:=dT l
 refine A4<|A3 rfl<|A1 (.sub rfl rfl (PO oO))<|A1 (.cvt Ga ML rfl (Bb oO))<|A1 (.add rfl rfl (Bb oO))<|A8 rfl<|AY ?_
 exact ⟨DL (by rw [hR'];(repeat' split) <;> omega),rfl⟩
 have v:=dF l
 refine As<|A4<|A8 rfl<|AY ?_
 exact ⟨DL (by rw [hR'];(repeat' split) <;> omega),rfl⟩
 have u:=dF a
 refine B6 a<|A1 (.pkF rfl a rfl)<|A8 rfl<|Ay rfl rfl<|As<|A4<|A8 rfl<|AY ?_
 exact ⟨DL (by rw [hR'];(repeat' split) <;> omega),rfl⟩
 have J:=dF i
 refine B6 i<|A1 (.pkF rfl i rfl)<|A8 rfl<|Ay rfl rfl<|A4<|A3 rfl<|A1 (.geq rfl rfl)<|A3 rfl<|Cc rfl rfl rfl (λb=>?_) (λb=>?_)
 have x:=dT b
 refine A3 rfl<|AE b<|A1 (.leq rfl rfl)<|A1 (.pkT rfl b rfl)<|A8 rfl<|Ai rfl (λm=>?_) (λm=>?_)
 have y:=dT m
 refine A4<|A3 rfl<|A1 (.sub rfl rfl (PO oO))<|A1 (.cvt Ga ML rfl (Bb oO))<|A1 (.add rfl rfl (Bb oO))<|A8 rfl<|AY ?_
 exact ⟨DL (by rw [hR'];(repeat' split) <;> omega),rfl⟩
 have y:=dF m
 refine As<|A4<|A8 rfl<|AY ?_
 exact ⟨DL (by rw [hR'];(repeat' split) <;> omega),rfl⟩
 have x:=dF b
 refine B6 b<|A1 (.pkF rfl b rfl)<|A8 rfl<|Ay rfl rfl<|As<|A4<|A8 rfl<|AY ?_
 exact ⟨DL (by rw [hR'];(repeat' split) <;> omega),rfl⟩
theorem MT (k:Int) (s:l8_) (w:World) (hs:s.length<=100000000) :
  Calls Tryz.prog 178 #[Ag k,.string (bs s)] w (Ce 35 (if 127<s.length then .error 9 else .ok (⟨k,0,s⟩:JB)) JB.val (λ_ w'=>AL w w') (λw'=>AL w w')):=by
 refine AF func178 rfl ntmps178 ?_
 have g:=Dh w
 refine A4<|Bm GY rfl (λq o h b c l=>?_)
 have a:=uB g h c
 refine A0<|Ad<|A4<|A3 rfl<|A1 (.len FV rfl)<|A1 (.gtr rfl rfl)<|A0<|Ai rfl (λd=>?_) (λd=>?_)
 have i:=dT d
 refine An<|A1 (.mkI MM rfl)<|G4 rfl (Bx ?_)
 exact BB 9 (by rw [A5 oO]) a
 have i:=dF d
 refine As<|A4<|A3 rfl<|A3 rfl<|?_
 refine A1 (.buildL (ps:=_) Hy rfl rfl rfl pS) ?_
 refine Az rfl rfl b BC rfl rfl (λt e f m=>?_)
 have j:=BR a oO f
 refine A0<|AU (BD rfl rfl (Ba e DP rfl BC)  ?_)
 exact Ce.ok ⟨k,0,s⟩ (by rw [A2 oO]) rfl j
theorem HV (p:Option Addr) (s:l8_) (c:Nat) (w:World) (hb:Af w p s) (hs:s.length<=100000000) :
  Calls Tryz.prog 199 #[.slice p s.length c] w (Ce 35 (if 65535<s.length then .error 9 else .ok (⟨6,0,s⟩:JB)) JB.val (λ_ w'=>AL w w') (λw'=>AL w w')):=by
 refine AF func199 rfl ntmps199 ?_
 have j:=Dh w
 refine A4<|Bm GY rfl (λx v b e a q=>?_)
 have f:=λt=>b▸hb.lt t
 have k:=Cy hb a f
 have d:=uB j b a
 refine A0<|Ad<|A4<|A3 rfl<|A1 (.lenS B1 rfl)<|A1 (.gtr rfl rfl)<|A0<|Ai rfl (λg=>?_) (λg=>?_)
 have m:=dT g
 refine An<|A1 (.mkI MM rfl)<|G4 rfl (Bx ?_)
 exact BB 9 (by rw [A5 oO]) d
 have m:=dF g
 refine As<|A4<|A3 rfl<|Aj (Fa (l:=s) B1 Ga FV rfl (k))<|?_
 refine A1 (.buildL (ps:=_) Hy rfl rfl rfl pS) ?_
 refine Az rfl rfl e BC rfl rfl (λy h i u=>?_)
 have o:=BR d oO i
 refine A0<|AU (BD rfl rfl (Ba h DP rfl BC)  ?_)
 exact Ce.ok ⟨6,0,s⟩ (by rw [A2 oO]) rfl o
def Uo (l:l8_) (t:Nat):Bool:=decide (t<l.length) && D1 l[t]!
theorem A2k  {t:Nat} (h:Uo l t=true):t<l.length/\Bq l t=Bq l (t+1):=by
 unfold Uo at h
 simp only [AG,AI] at h
 obtain ⟨a,b⟩:=h
 rw [getElem!_pos l t a] at b
 refine ⟨a,?_⟩
 unfold Bq
 rw [FD D1 l t a,A5 b,Aa];omega
theorem A2l  {t:Nat} (h:Uo l t=false):Bq l t=t:=by
 unfold Bq
 by_cases h1:t<l.length
 ·
  unfold Uo at h
  rw [AR h1,DV,getElem!_pos l t h1] at h
  rw [FD D1 l t h1,A2 (bF h)];rfl
 · rw [Bv oO];rfl
theorem Wz (x:UInt8) (w:World) (m:Nat):Calls Tryz.prog 201 #[.int .u8 (x.toNat:Int)] (w.drewN m) λe w'=>e=.returned (.bool (D1 x))/\∃ k,w'=w.drewN k :=
 (Rs x (w.drewN m)).mono λe w' h=>⟨h.1,m,h.2.symm⟩
theorem MS (r:Nat) (p:Option Addr) (l:l8_) (c a:Nat) (w:World) (h:HO w r p l c a) (hne:0<l.length->(pA p).block≠r) (hc:l.length<=c) (hl:l.length<=100000000) (ha:a<=l.length) :
  Calls Tryz.prog 177 #[ptV r] w λe w'=>e=.returned (.string (bs ((l.drop a).takeWhile D1)))/\HO w' r p l c (Bq l a)/\B8 w.heap.size r w w':=by
 have hr:=h.1
 refine AF func177 rfl ntmps177<|A4<|A8 rfl<|A4<|A3 rfl<|A1 (.nck rfl)<|A1 (.fa Df rfl BI dD rfl)<|Aj (Ae (C5 _) rfl hr rfl)<|A8 rfl<|Ad<|AT<|BO (α:=Nat) (λt=>[(0,ptV r),(3,Ag (a:Int))]) (λt w'=>HO w' r p l c t/\B8 w.heap.size r w w'/\a<=t/\t<=l.length/\Bq l t=Bq l a) (λt=>l.length-t) (a) ⟨rfl,rfl,tT⟩ (⟨h,B8.refl _ _ _,DS _,ha,rfl⟩) (λt J hR=>?_)
 obtain ⟨d,hT,u,ht,hw⟩:=hR
 refine Ad<|IE 22 (Uo l t) ?_ (λJ o=>?_)
 refine DE BS kR<|WQ.p (.mv rfl) rfl<|IC BQ rfl rfl (λm=>(RP r p l c t _ ⟨d.1,d.2⟩ m))<|WQ.p (.mv rfl) rfl<|JJ rfl rfl rfl (λb=>?_) (λb=>?_)
 have C:=dT b
 refine WQ.p (.mv rfl) rfl<|BP rfl rfl rfl b<|WQ.p (.nck rfl) rfl<|BP rfl rfl rfl b<|WQ.p (.fa Df rfl CZ dD rfl) rfl<|BP rfl rfl rfl b<|D2 (λm=>Ae (g22_ _) rfl d.1 rfl) rfl<|BP rfl rfl rfl b<|WQ.p (.mv rfl) rfl<|BP rfl rfl rfl b<|WQ.p (.nck rfl) rfl<|BP rfl rfl rfl b<|WQ.p (.fa Df rfl BI dD rfl) rfl<|BP rfl rfl rfl b<|D2 (λm=>Ae (C5 _) rfl d.1 rfl) rfl<|BP rfl rfl rfl b<|WQ.p (.ixb B1 EC rfl rfl (d.2.isp oO) (t) oO oO) rfl<|BP rfl rfl rfl b<|D2 (λm=>BG (IU _) rfl ((d.2.drewN m).cells (t) oO)) rfl<|BP rfl rfl rfl b<|IC BQ rfl rfl (λm=>(Wz _ _ m))<|WQ.p (.pkT rfl b rfl) rfl<|CO (λN D=>?_)
 exact ⟨GC (DI rfl (by (by_cases hq:t<l.length) <;> (unfold Uo;first | (exfalso;omega) | (rw [getElem!_pos l t hq,AR hq];rfl) | (rw [AH hq];simp_all;done)))),D⟩
 have C:=dF b
 refine Bc rfl rfl rfl b<|Bc rfl rfl rfl b<|Bc rfl rfl rfl b<|Bc rfl rfl rfl b<|Bc rfl rfl rfl b<|Bc rfl rfl rfl b<|Bc rfl rfl rfl b<|Bc rfl rfl rfl b<|Bc rfl rfl rfl b<|Bc rfl rfl rfl b<|WQ.p (.pkF rfl b rfl) rfl<|CO (λP E=>?_)
 exact ⟨GC (DI rfl (by (by_cases hq:t<l.length) <;> (unfold Uo;first | (exfalso;omega) | (rw [getElem!_pos l t hq,AR hq];rfl) | (rw [AH hq];simp_all;done)))),E⟩
 have g:=d.1.drew o
 have j:=d.2.drew o
 have q:=Bs hT (KU o)
 refine Ai rfl (λF=>?_) (λF=>?_)
 obtain ⟨s,K⟩:=A2k aS
 refine As<|AT<|An<|A3 rfl<|A1 (.nck rfl)<|A1 (.fa Df rfl BI dD rfl)<|Aj (Ae (C5 _) rfl g rfl)<|A1 (.iis (((t+1:Nat):Int)) (.add rfl rfl (Bb oO)) oO)<|A1 (.nck rfl)<|A1 (.fa Df rfl BI dD rfl)<|BA BI rfl rfl rfl g (by exact Nat.le_of_ble_eq_true rfl) (λG i f H=>?_)
 have i:B4 G r _ _:=i
 have f:CP r _ _:=f
 have v:=Af.upd j f hne
 have x:=Bs q (Bk f)
 refine A0<|?_
 exact ⟨t+1,⟨rfl,rfl,tT⟩,⟨⟨i,v⟩,x,oO,oO,oO⟩,oO⟩
 have s:=A2l aS
 refine BL<|Ad<|DE BS kR<|WQ.p (.mv rfl) rfl<|WQ.p (.nck rfl) rfl<|WQ.p (.fa Df rfl CZ dD rfl) rfl<|D2 (λm=>Ae (g22_ _) rfl g rfl) rfl<|WQ.p (.mv rfl) rfl<|WQ.p (.mv rfl) rfl<|WQ.p (.nck rfl) rfl<|WQ.p (.fa Df rfl BI dD rfl) rfl<|D2 (λm=>Ae (C5 _) rfl g rfl) rfl<|WQ.p (.slb B1 EC rfl rfl rfl  (a) (t) (rfl) (rfl) (u) oO) rfl<|D2 (λm=>Il B1 Ga FV rfl rfl (j.drewN m) u ht hc) rfl<|WQ.p (.as rfl) rfl<|CO (λL k=>?_)
 have y:=g.drew k
 have A:=j.drew k
 have B:=Bs q (KU k)
 refine AY ?_
 exact ⟨AQ (by rw [<- Qt,<- hw,s]),⟨by rw [<- hw,s];exact y,A⟩,B⟩
theorem N7 {k e:Int} (h:(if 127<(l.takeWhile D1).length then (.error 9:Except Int JB) else .ok ⟨k,0,l.takeWhile D1⟩)=.error e):HG k l=.error e:=by
 unfold HG
 split at h
 · next h1=>rw [A5 h1];cases h;rfl
 · cases h
theorem Pe {k:Int} {a:JB} (h:(if 127<(l.takeWhile D1).length then (.error 9:Except Int JB) else .ok ⟨k,0,l.takeWhile D1⟩)=.ok a):HG k l=.ok (a,l.dropWhile D1):=by
 unfold HG
 split at h
 · cases h
 · next h1=>rw [A2 h1];cases h;rfl
theorem Ov (l:l8_) (t:Nat):((l.drop t).takeWhile D1).length<=l.length:=by
 have:=(List.takeWhile_sublist D1 (l:=l.drop t)).length_le
 rw [Aq] at this;omega
def ZX (w0:World) (r:Nat) (p:Option Addr) (l:l8_) (c:Nat) (a:JB × l8_) (w':World):Prop:=∃ k,a.2=l.drop k/\k<=l.length/\HO w' r p l c k/\B8 w0.heap.size r w0 w'
theorem Uc (r:Nat) (p:Option Addr) (l:l8_) (c t:Nat) (w:World) (h:HO w r p l c t) (hne:0<l.length->(pA p).block≠r) (hc:l.length<=c) (hl:l.length<=100000000) (ht:t<=l.length) :
  Calls Tryz.prog 176 #[ptV r] w (Ce 35 (Ll (l.drop t)) (λa=>a.1.val) (ZX w r p l c) (λw'=>B8 w.heap.size r w w')):=by
 have hr:=h.1
 have hb:=h.2
 have hy:=Y7 (l:=l) (s:=t) (d:=(l[t]?).getD 0) rfl
 refine AF func176 rfl ntmps176 ?_
 have R:=B8.refl (w.heap.size) r w
 refine A4<|Bm GY rfl (λb1 ax D E v aw=>?_)
 have ae:=Bt D hr.lt
 have af:=hr.un v ae
 have y:=λF=>D▸hb.lt F
 have ag:=Cy hb v y
 have O:=CW D R.size
 have T:=Bs R (DC v O)
 refine A0<|Ad<|A4<|A3 rfl<|Au (Kr r p l c t 47 _ ⟨af,ag⟩ hne hl ht) (λw7 A=>?_)
 have B:=A.1.1
 have C:=Gd E A.2 E.lt oO
 have G:=A.1.2
 have f:=Bs T (EN A.2 T.size)
 refine A0<|Ai rfl (λah=>?_) (λah=>?_)
 obtain ⟨ai,aj⟩:=Of (x:=47) aS
 rw [A5 aS] at B
 rw [A5 (by rw [Ak ai,aj];rfl)] at hy
 refine A4<|A3 rfl<|Au (MS r p l c (t+1) _ ⟨B,G⟩ hne hc hl oO) (λay g=>?_)
 have U:=g.1.1
 have V:=Gd C g.2 C.lt oO
 have H:=g.1.2
 have i:=Bs f (EN g.2 f.size)
 refine Ch BQ rfl rfl ((MT 5 _ _ (by have:=Ov l (t+1);omega))) (λak am j b=>?_) (λan am j b=>?_)
 have J:=Bs i (EN (Fb b) i.size)
 exact Bx (BB ak (by rw [hy];exact N7 j) J)
 have X:=U.bl b
 have Y:=V.bl b
 have Z:=Fh H b (λF=>H.lt F)
 have a1:=Bs i (EN (Fb b) i.size)
 obtain ⟨a0,ao⟩:=eX an
 have K:=j
 refine Az rfl rfl Y BC rfl rfl (λaz P k au=>?_)
 have a2:=X.up k
 have a3:=Cy Z k y
 have a4:=Bs a1 (DC k oO)
 refine A0<|AU (BD rfl rfl (Ba P DP rfl BC)  ?_)
 exact Ce.ok (_,l.drop (Bq l (t+1))) (by rw [hy,Pe K,Kn]) rfl ⟨_,rfl,(EV l (t+1) oO).2,⟨a2,a3⟩,a4⟩
 rw [A2 (bF aS)] at B
 rw [A2 (by
  by_cases hq:t<l.length;rw [Ak hq];exact RN (x:=47) aS hq;rw [AZ oO];decide)] at hy
 refine As<|A4<|A3 rfl<|Au (MS r p l c t _ ⟨B,G⟩ hne hc hl oO) (λaA m=>?_)
 have a5:=m.1.1
 have a6:=Gd C m.2 C.lt oO
 have L:=m.1.2
 have o:=Bs f (EN m.2 f.size)
 refine Ch BQ rfl rfl ((MT 4 _ _ (by have:=Ov l t;omega))) (λap aq q e=>?_) (λar aq q e=>?_)
 have N:=Bs o (EN (Fb e) o.size)
 exact Bx (BB ap (by rw [hy];exact N7 q) N)
 have a7:=a5.bl e
 have a8:=a6.bl e
 have a9:=Fh L e (λF=>L.lt F)
 have aa:=Bs o (EN (Fb e) o.size)
 obtain ⟨a0,ao⟩:=eX ar
 have K:=q
 refine Az rfl rfl a8 BC rfl rfl (λaB Q u av=>?_)
 have ab:=a7.up u
 have ac:=Cy a9 u y
 have ad:=Bs aa (DC u oO)
 refine A0<|AU (BD rfl rfl (Ba Q DP rfl BC)  ?_)
 exact Ce.ok (_,l.drop (Bq l t)) (by rw [hy,Pe K,Kn]) rfl ⟨_,rfl,(EV l t oO).2,⟨ab,ac⟩,ad⟩
end
section
theorem A1M (h d:Nat) (hh:h<16) (hd:d<16):bits .or .i64 ((h:Int) * 16) (d:Int)=(h:Int) * 16+d:=by
 have key:∀ h d:Fin 16,bits .or .i64 ((h.1:Int) * 16) (d.1:Int)=(h.1:Int) * 16+d.1:=by decide +kernel
 exact key ⟨h,hh⟩ ⟨d,hd⟩
theorem Bz.shl4  (hx:CE f x=some (Ag a)) (r:Int) (hr:IntKind.i64.wrap (a * 16)=r):Bz P (.binOp .shl tx x (.const (.int .u64 4)) ty) f (Ag r):=λρ hρ d ty' pos aft g w=>by
 have h4:ρ (.const (.int .u64 4))=.int .u64 4:=hρ _ _ rfl
 simp [execOp,hρ _ _ hx,h4,eqGuard,binOp,shift_shl_i64,hr]
theorem Bz.or  {k:IntKind} {b r:Int} (hx:CE f x=some (.int k a)) (hy:CE f y=some (.int k b)) (hr:bits .or k a b=r):Bz P (.binOp .or tx x y ty) f (.int k r):=λρ hρ d ty' pos aft g w=>by
 simp [execOp,hρ _ _ hx,hρ _ _ hy,eqGuard,binOp,intBits_or,hr]
theorem GH  {t:Nat} {k:Int} (h:OG l t=.error k):l.length<=t/\k=14:=by
 unfold OG at h
 split at h
 · cases h
 · next h1=>cases h;exact ⟨List.getElem?_eq_none_iff.1 h1,rfl⟩
theorem LU  {t:Nat} {x:UInt8} (h:OG l t=.ok x):∃ ht:t<l.length,x=l[t]'ht:=by
 unfold OG at h
 split at h
 · next h1=>cases h;obtain ⟨a,b⟩:=C1.1 h1;exact ⟨a,b.symm⟩
 · cases h
theorem MP {e:Int} {r:l8_} (h:(if 65535<s.length then (.error 9:Except Int JB) else .ok ⟨6,0,s⟩)=.error e):Gp (some (s,r))=.error e:=by
 simp only [Gp]
 split at h
 · next h1=>rw [A5 h1];cases h;rfl
 · cases h
theorem OF  {r:l8_} {a:JB} (h:(if 65535<s.length then (.error 9:Except Int JB) else .ok ⟨6,0,s⟩)=.ok a):Gp (some (s,r))=.ok (a,r):=by
 simp only [Gp]
 split at h
 · cases h
 · next h1=>rw [A2 h1];cases h;rfl
theorem Yb (r:Nat) (p:Option Addr) (l:l8_) (c t:Nat) (w:World) (h:HO w r p l c t) (hne:0<l.length->(pA p).block≠r) (hc:l.length<=c) (hl:l.length<=100000000) (ht:t<=l.length) :
  Calls Tryz.prog 200 #[ptV r] w (Ce 35 (Gp (Kb none [] (l.drop t))) (λa=>a.1.val) (ZX w r p l c) (λw'=>B8 w.heap.size r w w')):=by
 have hr:=h.1
 have hb:=h.2
 obtain ⟨R,hR⟩:=eX (Kb none [] (l.drop t))
 rw [<- hR]
 obtain ⟨a,rfl⟩:=eX t
 refine AF func200 rfl ntmps200 ?_
 have ar:=B8.refl (w.heap.size) r w
 refine A4<|Bm GY rfl (λb1 bI V av T bE=>?_)
 have bb:=Bt V hr.lt
 have bc:=hr.un T bb
 have U:=λC=>V▸hb.lt C
 have bd:=Cy hb T U
 have ag:=CW V ar.size
 have be:=Bs ar (DC T ag)
 refine A0<|Ad ?_
 have au:0<l.length->(pA p).block<b1+1:=λC=>by have:=hb.lt C;omega
 refine An<|A8 rfl<|A4<|A8 rfl<|Ad<|AT<|BO (α:=Value × l8_ × Option Nat × Nat) (λt=>[(0,ptV r),(2,ptV b1),(3,t.1),(4,Ag (V1 t.2.2.1))]) (λt w'=>HO w' r p l c t.2.2.2/\B8 w.heap.size r w w'/\B4 w' b1 #[Ag 0,Ag 0,.string ⟨#[]⟩] 196/\CF 5 (b1+1) w' t.1 (AN t.2.1)/\Kb t.2.2.1 t.2.1 (l.drop t.2.2.2)=R/\(∀ x,t.2.2.1=some x->x<16)/\t.2.1.length<=t.2.2.2/\t.2.2.2<=l.length) (λt=>l.length-t.2.2.2) ((.slice none 0 0,[],none,a)) ⟨rfl,rfl,rfl,rfl,tT⟩ (⟨⟨bc,bd⟩,be,av,CF.nil _ _ _,hR.symm,λx hx=>(by cases hx),FN _,ht⟩) (λt w1 hR=>?_)
 obtain ⟨v,o,h,s⟩:=t
 obtain ⟨X,hT,Y,a1,hw,H,bf,hs⟩:=hR
 simp only at X hT Y a1 hw H bf hs ⊢
 refine AT<|A4<|A3 rfl<|Ch BQ rfl rfl ((Kq r p l c s _ ⟨X.1,X.2⟩ hne hl)) (λk9 w7 J D=>?_) (λa8 w7 J D=>?_)
 have ah:=Bs hT (EN D hT.size)
 exact Bx (BB k9 (by rw [(GH J).2,<- hw,Bv (GH J).1];(first | done | rfl)) ah)
 have E:=GQ a1 D.2 oO
 have f:=D.1.1
 have g:=Gd Y D.2 Y.lt oO
 have e:=D.1.2
 have b:=Bs hT (EN D.2 hT.size)
 obtain ⟨bg,hx⟩:=LU J
 obtain ⟨x,bh⟩:=eX a8
 rw [<- bh] at hx ⊢
 have i:=Xc h o l s bg
 rw [<- hx] at i
 refine A8 rfl<|Ad<|A4<|A3 rfl<|Au (Ln x _) (λbJ aw=>?_)
 obtain rfl:=aw
 refine A0<|Ai rfl (λbi=>?_) (λbi=>?_)
 refine BL ?_
 exact ⟨(_,o,h,s+1),⟨rfl,rfl,rfl,rfl,tT⟩,⟨⟨f,e⟩,b,g,E,(by rw [<- hw,i,A5 aS]),H,oM,oM⟩,oM⟩
 refine As<|Ad<|A4<|A3 rfl<|A1 (.eql rfl rfl)<|A0<|Ai rfl (λa2=>?_) (λa2=>?_)
 have ax:=dT a2
 refine BL<|Ad<|A4<|A3 rfl<|A1 (.geq rfl rfl)<|A0<|Ai rfl (λa3=>?_) (λa3=>?_)
 have ay:=dT a3
 obtain ⟨y,rfl⟩:∃ y,h=some y:=by cases h with | none=>exfalso;have:V1 none=-1:=rfl;omega | some y=>exact ⟨y,rfl⟩
 have hy:=H y rfl
 have bj:V1 (some y)=(y:Int):=rfl
 refine An<|A3 rfl<|A3 rfl<|A1 (.iis ((y:Int) * 16) (.shl4 rfl _ (Bb oO)) oO)<|A1 (.cvt ML Ga rfl (PO oO))<|CC (ps:=_) B1 EC Li rfl rfl rfl rfl rfl pR rfl (λbK bG F ai j bw=>?_)
 have az:=Dw E F j
 have aA:=Bt F f.lt
 have aB:=f.un j aA
 have aC:=Bt F g.lt
 have a4:=g.un j aC
 have aj:=λC=>F▸e.lt C
 have aD:=Cy e j aj
 have a5:=CW F b.size
 have aE:=Bs b (DC j a5)
 refine En B1 Id rfl rfl rfl az rfl ai rfl (by rw [Ca];omega) (a4.lt) rfl (λbL bM ak A bz=>?_)
 have aF:=aB.below A oO
 have aG:=a4.below A oO
 have a6:=Fh aD A au
 have K:=Bs aE (Fb (A.mono oO))
 have aH:=E1 ak (ch ((y * 16:Nat):Int)) (by rw [Ih _ oO oO];omega)
 refine A8 rfl<|Ad ?_
 obtain ⟨q,cq,rfl,a7,bk⟩:=CF.bytes aH
 refine An<|A3 rfl<|Ch BQ rfl rfl ((HV q _ cq _ a7 (by (simp only [A9,Aa,Am];omega)))) (λbm bn L m=>?_) (λbo bn L m=>?_)
 have a9:=Bs K (EN (Fb m) K.size)
 exact Bx (BB bm (by rw [<- hw,i,A2 (bF aS),A5 (Cf (d:=62) aS)];exact MP L) a9)
 have aI:=aF.bl m
 have aJ:=aG.bl m
 have aK:=Fh a6 m (λC=>a6.lt C)
 have aL:=Bs K (EN (Fb m) K.size)
 obtain ⟨a0,bp⟩:=eX bo
 have aa:=L
 refine Az rfl rfl aJ BC rfl rfl (λbN am N bA=>?_)
 have aM:=aI.up N
 have aN:=Cy aK N U
 have aO:=Bs aL (DC N oO)
 refine A0<|AU (BD rfl rfl (Ba am DP rfl BC)  ?_)
 exact Ce.ok (_,l.drop (s+1)) (by rw [<- hw,i,A2 (bF aS),A5 (Cf (d:=62) aS)];exact OF aa) rfl ⟨_,rfl,oO,⟨aM,aN⟩,aO⟩
 have ay:=dF a3
 obtain rfl:h=none:=by cases h with | none=>rfl | some y=>exfalso;have:V1 (some y)=(y:Int):=rfl;omega
 refine As<|Ad ?_
 obtain ⟨q,cq,rfl,a7,bk⟩:=CF.bytes E
 refine An<|A3 rfl<|Ch BQ rfl rfl ((HV q _ cq _ a7 oO)) (λbq bt P u=>?_) (λbu bt P u=>?_)
 have ab:=Bs b (EN (Fb u) b.size)
 exact Bx (BB bq (by rw [<- hw,i,A2 (bF aS),A5 (Cf (d:=62) aS)];exact MP P) ab)
 have aP:=f.bl u
 have aQ:=g.bl u
 have aR:=Fh e u (λC=>e.lt C)
 have aT:=Bs b (EN (Fb u) b.size)
 obtain ⟨a0,bp⟩:=eX bu
 have aa:=P
 refine Az rfl rfl aQ BC rfl rfl (λbO an Q bB=>?_)
 have aU:=aP.up Q
 have aV:=Cy aR Q U
 have aW:=Bs aT (DC Q oO)
 refine A0<|AU (BD rfl rfl (Ba an DP rfl BC)  ?_)
 exact Ce.ok (_,l.drop (s+1)) (by rw [<- hw,i,A2 (bF aS),A5 (Cf (d:=62) aS)];exact OF aa) rfl ⟨_,rfl,oO,⟨aU,aV⟩,aW⟩
 have ax:=dF a2
 refine As<|A4<|A3 rfl<|Au (Ue x _) (λbP aX=>?_)
 obtain rfl:=aX
 have bv:=If x
 refine A8 rfl<|AT<|A4<|A3 rfl<|A1 (.lss rfl rfl)<|A8 rfl<|Ai rfl (λac=>?_) (λac=>?_)
 have aY:=dT ac
 refine An<|A1 (.mkI MM rfl)<|G4 rfl (Bx ?_)
 exact BB 14 (by rw [<- hw,i,A2 (bF aS),A2 (D6 (d:=62) aS),A5 oO];(first | done | rfl)) b
 have aY:=dF ac
 refine A4<|A3 rfl<|A1 (.lss rfl rfl)<|A8 rfl<|Ai rfl (λad=>?_) (λad=>?_)
 have aZ:=dT ad
 obtain rfl:h=none:=by cases h with | none=>rfl | some y=>exfalso;have:V1 (some y)=(y:Int):=rfl;omega
 refine An<|A3 rfl<|A8 rfl ?_
 exact ⟨(_,o,some (DQ x),s+1),⟨rfl,rfl,rfl,N8 rfl (by show LJ x=(DQ x:Int);omega),tT⟩,⟨⟨f,e⟩,b,g,E,(by rw [<- hw,i,A2 (bF aS),A2 (D6 (d:=62) aS),A2 oO]),λz hz=>(by obtain rfl:=Bi hz;omega),oM,oM⟩,oM⟩
 have aZ:=dF ad
 obtain ⟨y,rfl⟩:∃ y,h=some y:=by cases h with | none=>exfalso;have:V1 none=-1:=rfl;omega | some y=>exact ⟨y,rfl⟩
 have hy:=H y rfl
 have bj:V1 (some y)=(y:Int):=rfl
 refine A4<|A3 rfl<|A3 rfl<|A1 (.iis ((y:Int) * 16) (.shl4 rfl _ (Bb oO)) oO)<|A3 rfl<|A1 (.or rfl rfl (show bits .or .i64 ((y:Int) * 16) (LJ x)=(y:Int) * 16+(DQ x:Int) by rw [(bv.resolve_left (λh=>by have:=h.1;omega)).1];exact A1M _ _ hy oO))<|A1 (.cvt ML Ga rfl (PO oO))<|CC (ps:=_) B1 EC Li rfl rfl rfl rfl rfl pR rfl (λbQ bH G ao k bC=>?_)
 have a':=Dw E G k
 have b0:=Bt G f.lt
 have b2:=f.un k b0
 have b3:=Bt G g.lt
 have ae:=g.un k b3
 have ap:=λC=>G▸e.lt C
 have b4:=Cy e k ap
 have af:=CW G b.size
 have b5:=Bs b (DC k af)
 refine En B1 Id rfl rfl rfl a' rfl ao rfl (by rw [Ca];omega) (ae.lt) rfl (λbR bS aq B bD=>?_)
 have b6:=b2.below B oO
 have b7:=ae.below B oO
 have b8:=Fh b4 B au
 have b9:=Bs b5 (Fb (B.mono oO))
 have ba:=E1 aq (ch ((y * 16+DQ x:Nat):Int)) (by rw [Ih _ oO oO];omega)
 refine A8 rfl<|An<|A8 rfl ?_
 exact ⟨(_,o++[_],none,s+1),⟨rfl,rfl,rfl,rfl,tT⟩,⟨⟨b6,b8⟩,b9,b7,ba,(by rw [<- hw,i,A2 (bF aS),A2 (D6 (d:=62) aS),A2 oO]),λz hz=>(by cases hz),oF,oM⟩,oM⟩
theorem TM  {b:Nat} {c d:UInt8} {t:TypeId} (h:B4 w b #[.int .u8 (c.toNat:Int),.int .u8 (d.toNat:Int)] t):Af w (some ⟨b,0,none⟩) [c,d] :=
 ⟨λ_=>rfl,λj hj=>by
  have e1:(pA (some ⟨b,0,none⟩)).add j=⟨b,j,none⟩:=by
   show (⟨b,0,none⟩:Addr).add j=_
   unfold Addr.add;split
   · next h=>subst h;rfl
   · simp
  rw [e1,h.cell j]
  match j,hj with
  | 0,_=>rfl
  | 1,_=>rfl⟩
theorem ON (r:Nat) (p:Option Addr) (l:l8_) (c t:Nat) (x:UInt8) (w:World) (h:HO w r p l c t) (hne:0<l.length->(pA p).block≠r) (hc:l.length<=c) (hl:l.length<=100000000) (ht:t<=l.length) (hx:x≠0) :
  Calls Tryz.prog 175 #[ptV r,.int .u8 (x.toNat:Int)] w (Ce 35 (Ki x (l.drop t)) (λa=>a.1.val) (ZX w r p l c) (λw'=>B8 w.heap.size r w w')):=by
 have hr:=h.1
 have hb:=h.2
 have hy:=ZM (l:=l) (s:=t) (c:=x) (d:=(l[t]?).getD 0) hx rfl
 refine AF func175 rfl ntmps175 ?_
 have N:=B8.refl (w.heap.size) r w
 refine A4<|Bm GY rfl (λb1 ax B C q av=>?_)
 have ad:=Bt B hr.lt
 have ae:=hr.un q ad
 have u:=λQ=>B▸hb.lt Q
 have af:=Cy hb q u
 have G:=CW B N.size
 have P:=Bs N (DC q G)
 refine A0<|Ad<|AT<|A4<|A3 rfl<|A3 rfl<|Au (Kr r p l c t x _ ⟨ae,af⟩ hne hl ht) (λw7 y=>?_)
 have o:=y.1.1
 have A:=Gd C y.2 C.lt oO
 have v:=y.1.2
 have f:=Bs P (EN y.2 P.size)
 refine A8 rfl<|Ai rfl (λag=>?_) (λag=>?_)
 obtain ⟨ah,ai⟩:=Of (x:=x) aS
 rw [A5 aS] at o
 rw [A5 (by rw [Ak ah,ai];rfl)] at hy
 refine A4<|A3 rfl<|A3 rfl<|CC (ps:=_) B1 EC Li rfl rfl rfl rfl rfl pR rfl (λay aw i H g aq=>?_)
 have T:=Bt i o.lt
 have U:=o.un g T
 have V:=Bt i A.lt
 have X:=A.un g V
 have J:=λQ=>i▸v.lt Q
 have Y:=Cy v g J
 have D:=CW i f.size
 have a1:=Bs f (DC g D)
 refine Aj (Fa (l:=[x,x]) B1 Ga FV rfl (TM H))<|?_
 refine A1 (.buildL (ps:=_) Hy rfl rfl rfl pS) ?_
 refine Az rfl rfl X BC rfl rfl (λaz K j ar=>?_)
 have a2:=U.up j
 have a3:=Cy Y j u
 have a4:=Bs a1 (DC j oO)
 refine A0<|AU (BD rfl rfl (Ba K DP rfl BC)  ?_)
 exact Ce.ok (⟨3,0,[x,x]⟩,l.drop (t+1)) hy rfl ⟨_,rfl,oO,⟨a2,a3⟩,a4⟩
 rw [A2 (bF aS)] at o
 rw [A2 (by
  by_cases hq:t<l.length;rw [Ak hq];exact RN (x:=x) aS hq;rw [AZ oO];exact λe=>hx e.symm)] at hy
 refine A4<|A3 rfl<|A1 (.eql rfl rfl)<|A8 rfl<|Ai rfl (λE=>?_) (λE=>?_)
 have a5:=dT E
 refine A4<|A3 rfl<|Ch BQ rfl rfl ((Yb r p l c t _ ⟨o,v⟩ hne hc hl ht)) (λaj ak k b=>?_) (λam ak k b=>?_)
 have F:=Bs f (EN b f.size)
 exact Bx (BB aj (by rw [hy,A5 (Cf aS)];exact k) F)
 obtain ⟨kr,an,ao,b⟩:=b
 have a6:=b.1.1
 have a7:=Gd A b.2 A.lt oO
 have a8:=b.1.2
 have a9:=Bs f (EN b.2 f.size)
 have ap:=k
 obtain ⟨a0,aA⟩:=eX am
 refine Az rfl rfl a7 BC rfl rfl (λaB L m au=>?_)
 have aa:=a6.up m
 have ab:=Cy a8 m u
 have ac:=Bs a9 (DC m oO)
 refine A0<|AU (BD rfl rfl (Ba L DP rfl BC)  ?_)
 exact Ce.ok _ (by rw [hy,A5 (Cf aS)];exact ap) rfl ⟨_,an,ao,⟨aa,ab⟩,ac⟩
 have a5:=dF E
 refine As<|An<|A1 (.mkI MM rfl)<|G4 rfl (Bx ?_)
 exact BB 14 (by rw [hy,A2 (D6 (d:=60) aS)]) f
end
section
theorem Oe (l:l8_) (t:Nat) (ht:t<=l.length):t<=(if Gh l t 10 then t+1 else t)/\(if Gh l t 10 then t+1 else t)<=l.length/\l.drop (if Gh l t 10 then t+1 else t)=Hs (l.drop t):=by
 have e:Gh l t 10=lfB l t:=rfl
 rw [e]
 cases hb:lfB l t with
 | true=>have:=A3k hb;rw [A5 rfl];exact ⟨oO,oO,this.2.symm⟩
 | false=>rw [A2 (by simp)];exact ⟨DS _,ht,(A3l hb).symm⟩
theorem Sx (B r:Nat) (p:Option Addr) (l:l8_) (c t:Nat) (x:UInt8) (v:Value) (o:l8_) (w:World) (h:HO w r p l c t) (hne:0<l.length->(pA p).block≠r) (hl:l.length<=100000000) (ht:t<=l.length)
  (hrB:r<B) (hBw:B<=w.heap.size) (hpB:0<l.length->(pA p).block<B) (hown:CF 5 B w v (AN o)) (hol:o.length<=500000000) :
  Calls Tryz.prog 197 #[ptV r,v,.int .u8 (x.toNat:Int)] w λe w'=>∃ v',e=.returned v'/\∃ k,HO w' r p l c k/\B8 B r w w'/\CF 5 B w' v' (AN (o++(Hf x (l.drop t)).1))/\t<=k/\k<=l.length/\l.drop k=(Hf x (l.drop t)).2:=by
 have hr:=h.1
 have hb:=h.2
 refine AF func197 rfl ntmps197 ?_
 have d:=B8.refl (B) r w
 refine A4<|A8 rfl<|Ad<|A4<|A3 rfl<|A0<|AT<|A4<|A1 (.eql rfl rfl)<|A8 rfl<|Ai rfl (λh1=>?_) (λh1=>?_)
 have cG:=dT h1
 refine A4<|A3 rfl<|CC (ps:=_) B1 EC Li rfl rfl rfl rfl rfl pR rfl (λb2 dm ab bw R d2=>?_)
 have cH:=Dw hown ab R
 have cI:=Bt ab hr.lt
 have cJ:=hr.un R cI
 have bz:=λg=>ab▸hb.lt g
 have cK:=Cy hb R bz
 have aK:=CW ab d.size
 have bp:=Bs d (DC R (CT hBw aK))
 refine En B1 Id rfl rfl rfl cH rfl bw rfl (by rw [Ca];omega) ((CT hBw bp.size)) rfl (λv9 dn aL T cQ=>?_)
 have bA:=cJ.below T oO
 have bB:=Fh cK T hpB
 have bC:=Bs bp (Fb (T.mono (DS _)))
 have bD:=E1 aL (10) (rfl)
 refine A8 rfl<|AY ?_
 exact ⟨_,rfl,t,⟨bA,bB⟩,bC,(by rw [show x=110 from Cf aS,Zl];exact bD),DS _,ht,(by rw [show x=110 from Cf aS,Zl])⟩
 have cG:=dF h1
 refine A4<|A1 (.eql rfl rfl)<|A8 rfl<|Ai rfl (λai=>?_) (λai=>?_)
 have bE:=dT ai
 refine A4<|A3 rfl<|CC (ps:=_) B1 EC Li rfl rfl rfl rfl rfl pR rfl (λdp d3 U aM s cR=>?_)
 have bG:=Dw hown U s
 have bH:=Bt U hr.lt
 have bI:=hr.un s bH
 have aN:=λg=>U▸hb.lt g
 have bJ:=Cy hb s aN
 have aj:=CW U d.size
 have ak:=Bs d (DC s (CT hBw aj))
 refine En B1 Id rfl rfl rfl bG rfl aM rfl (by rw [Ca];omega) ((CT hBw ak.size)) rfl (λdq dr aO V cS=>?_)
 have bK:=bI.below V oO
 have bL:=Fh bJ V hpB
 have bM:=Bs ak (Fb (V.mono (DS _)))
 have bN:=E1 aO (13) (rfl)
 refine A8 rfl<|AY ?_
 exact ⟨_,rfl,t,⟨bK,bL⟩,bM,(by rw [show x=114 from Cf aS,Zk];exact bN),DS _,ht,(by rw [show x=114 from Cf aS,Zk])⟩
 have bE:=dF ai
 refine A4<|A1 (.eql rfl rfl)<|A8 rfl<|Ai rfl (λal=>?_) (λal=>?_)
 have bO:=dT al
 refine A4<|A3 rfl<|CC (ps:=_) B1 EC Li rfl rfl rfl rfl rfl pR rfl (λds d4 X aP y cT=>?_)
 have bP:=Dw hown X y
 have bQ:=Bt X hr.lt
 have bR:=hr.un y bQ
 have aQ:=λg=>X▸hb.lt g
 have bS:=Cy hb y aQ
 have am:=CW X d.size
 have an:=Bs d (DC y (CT hBw am))
 refine En B1 Id rfl rfl rfl bP rfl aP rfl (by rw [Ca];omega) ((CT hBw an.size)) rfl (λdt du aR a0 cU=>?_)
 have bT:=bR.below a0 oO
 have bU:=Fh bS a0 hpB
 have bV:=Bs an (Fb (a0.mono (DS _)))
 have bW:=E1 aR (9) (rfl)
 refine A8 rfl<|AY ?_
 exact ⟨_,rfl,t,⟨bT,bU⟩,bV,(by rw [show x=116 from Cf aS,Zj];exact bW),DS _,ht,(by rw [show x=116 from Cf aS,Zj])⟩
 have bO:=dF al
 refine A4<|A1 (.eql rfl rfl)<|A8 rfl<|Ai rfl (λao=>?_) (λao=>?_)
 have bX:=dT ao
 refine A4<|A3 rfl<|CC (ps:=_) B1 EC Li rfl rfl rfl rfl rfl pR rfl (λdv d5 a1 aT A cV=>?_)
 have bY:=Dw hown a1 A
 have bZ:=Bt a1 hr.lt
 have b':=hr.un A bZ
 have aU:=λg=>a1▸hb.lt g
 have c0:=Cy hb A aU
 have ap:=CW a1 d.size
 have aq:=Bs d (DC A (CT hBw ap))
 refine En B1 Id rfl rfl rfl bY rfl aT rfl (by rw [Ca];omega) ((CT hBw aq.size)) rfl (λdw dx aV a2 cW=>?_)
 have c2:=b'.below a2 oO
 have c3:=Fh c0 a2 hpB
 have c4:=Bs aq (Fb (a2.mono (DS _)))
 have c5:=E1 aV (8) (rfl)
 refine A8 rfl<|AY ?_
 exact ⟨_,rfl,t,⟨c2,c3⟩,c4,(by rw [show x=98 from Cf aS,A1U];exact c5),DS _,ht,(by rw [show x=98 from Cf aS,A1U])⟩
 have bX:=dF ao
 refine A4<|A1 (.eql rfl rfl)<|A8 rfl<|Ai rfl (λar=>?_) (λar=>?_)
 have c6:=dT ar
 refine A4<|A3 rfl<|CC (ps:=_) B1 EC Li rfl rfl rfl rfl rfl pR rfl (λdy d6 a3 aW C cX=>?_)
 have c7:=Dw hown a3 C
 have c8:=Bt a3 hr.lt
 have c9:=hr.un C c8
 have aX:=λg=>a3▸hb.lt g
 have ca:=Cy hb C aX
 have au:=CW a3 d.size
 have av:=Bs d (DC C (CT hBw au))
 refine En B1 Id rfl rfl rfl c7 rfl aW rfl (by rw [Ca];omega) ((CT hBw av.size)) rfl (λdz dA aY a4 cY=>?_)
 have cb:=c9.below a4 oO
 have cc:=Fh ca a4 hpB
 have cd:=Bs av (Fb (a4.mono (DS _)))
 have cf:=E1 aY (12) (rfl)
 refine A8 rfl<|AY ?_
 exact ⟨_,rfl,t,⟨cb,cc⟩,cd,(by rw [show x=102 from Cf aS,Zm];exact cf),DS _,ht,(by rw [show x=102 from Cf aS,Zm])⟩
 have c6:=dF ar
 refine A4<|A1 (.eql rfl rfl)<|A8 rfl<|Ai rfl (λaw=>?_) (λaw=>?_)
 have cg:=dT aw
 refine A4<|A3 rfl<|A8 rfl<|AY ?_
 exact ⟨_,rfl,t,⟨hr,hb⟩,d,(by rw [show x=10 from Cf aS,A1W,Fu];exact hown),DS _,ht,(by rw [show x=10 from Cf aS,A1W])⟩
 have cg:=dF aw
 refine A4<|A1 (.eql rfl rfl)<|A8 rfl<|Ai rfl (λax=>?_) (λax=>?_)
 have ci:=dT ax
 have ay:x=13:=Cf aS
 refine A4<|A3 rfl<|Au (Kr r p l c t 10 _ ⟨hr,hb⟩ hne hl ht) (λdB a5=>?_)
 have cj:=GQ hown a5.2 oO
 have ck:=a5.1.1
 have cl:=a5.1.2
 have cm:=Bs d (EN a5.2 (CT hBw d.size))
 refine A0<|A4<|A3 rfl<|A8 rfl<|AY ?_
 exact ⟨_,rfl,_,⟨ck,cl⟩,cm,(by rw [ay,A1V,Fu];exact cj),(Oe l t ht).1,(Oe l t ht).2.1,(by rw [ay,A1V];exact (Oe l t ht).2.2)⟩
 have ci:=dF ax
 refine As<|Ad<|A4<|A3 rfl<|A1 (.lss rfl rfl)<|A3 rfl<|Cc rfl rfl rfl (λH=>?_) (λH=>?_)
 have cn:=dF H
 refine A3 rfl<|AE H<|A1 (.gtr rfl rfl)<|A1 (.pkF rfl H rfl)<|A0<|Ai rfl (λaz=>?_) (λaz=>?_)
 have co:=dT az
 refine A4<|A3 rfl<|A3 rfl<|CC (ps:=_) B1 EC Li rfl rfl rfl rfl rfl pR rfl (λdC d7 a6 aZ D cZ=>?_)
 have cq:=Dw hown a6 D
 have cr:=Bt a6 hr.lt
 have ct:=hr.un D cr
 have a':=λg=>a6▸hb.lt g
 have cu:=Cy hb D a'
 have aA:=CW a6 d.size
 have aB:=Bs d (DC D (CT hBw aA))
 refine En B1 Id rfl rfl rfl cq rfl aZ rfl (by rw [Ca];omega) ((CT hBw aB.size)) rfl (λdE dG b0 a7 c'=>?_)
 have cv:=ct.below a7 oO
 have cw:=Fh cu a7 hpB
 have cy:=Bs aB (Fb (a7.mono (DS _)))
 have cz:=E1 b0 (x) (rfl)
 refine A8 rfl<|AY ?_
 exact ⟨_,rfl,t,⟨cv,cw⟩,cy,(by rw [Mu _ oO oO oO oO oO oO oO oO];exact cz),DS _,ht,(by rw [Mu _ oO oO oO oO oO oO oO oO])⟩
 have co:=dF az
 refine As<|A4<|A3 rfl<|A1 (.sub rfl rfl (PO oO))<|A1 (.cvt Ga ML rfl (Bb oO))<|A8 rfl<|Ad<|A4<|A8 rfl<|AT ?_
 obtain ⟨tt,aC⟩:=eX t
 have bq:48<=(x.toNat:Int):=by omega
 have bt:(x.toNat:Int)<=55:=by omega
 refine BO (α:=Nat × Nat × Nat) (λt=>[(0,ptV r),(1,v),(7,Ag (t.1:Int)),(8,Ag (t.2.1:Int))]) (λt w'=>HO w' r p l c t.2.2/\B8 B r w w'/\CF 5 B w' v (AN o)/\tt<=t.2.2/\t.2.2<=l.length/\(t.2.1=0/\t.1<=7\/t.2.1=1/\t.1<=63\/t.2.1=2/\t.1<=511)/\Lt (2-t.2.1) t.1 (l.drop t.2.2)=Lt 2 (x.toNat-48) (l.drop tt)) (λt=>2-t.2.1) ((x.toNat-48,0,tt)) ⟨rfl,rfl,N8 rfl oM,rfl,tT⟩ (⟨⟨by rw [aC];exact hr,hb⟩,d,hown,DS _,by rw [aC];exact ht,Or.inl ⟨rfl,oM⟩,rfl⟩) (λt w1 hR=>?_)
 subst aC
 obtain ⟨m,k,u⟩:=t
 obtain ⟨f,hT,ac,bu,bv,hm,aD⟩:=hR
 simp only at f hT ac bu bv hm aD ⊢
 refine Ad<|IE 87 (RI l k u) ?_ (λdH a8=>?_)
 refine DE BS kR<|WQ.p (.mv rfl) rfl<|WQ.p (.lss rfl rfl) rfl<|WQ.p (.mv rfl) rfl<|JJ rfl rfl rfl (λJ=>?_) (λJ=>?_)
 have cA:=dT J
 refine WQ.p (.mv rfl) rfl<|BP rfl rfl rfl J<|IC BQ rfl rfl (λm=>(RP r p l c u _ ⟨f.1,f.2⟩ m))<|WQ.p (.pkT rfl J rfl) rfl<|WQ.p (.mv rfl) rfl<|JJ rfl rfl rfl (λa=>?_) (λa=>?_)
 have cB:=dT a
 refine WQ.p (.mv rfl) rfl<|BP rfl rfl rfl a<|WQ.p (.nck rfl) rfl<|BP rfl rfl rfl a<|WQ.p (.fa Df rfl CZ dD rfl) rfl<|BP rfl rfl rfl a<|D2 (λm=>Ae (g22_ _) rfl f.1 rfl) rfl<|BP rfl rfl rfl a<|WQ.p (.mv rfl) rfl<|BP rfl rfl rfl a<|WQ.p (.nck rfl) rfl<|BP rfl rfl rfl a<|WQ.p (.fa Df rfl BI dD rfl) rfl<|BP rfl rfl rfl a<|D2 (λm=>Ae (C5 _) rfl f.1 rfl) rfl<|BP rfl rfl rfl a<|WQ.p (.ixb B1 EC rfl rfl (f.2.isp oO) (u) oO oO) rfl<|BP rfl rfl rfl a<|D2 (λm=>BG (IU _) rfl ((f.2.drewN m).cells (u) oO)) rfl<|BP rfl rfl rfl a<|WQ.p (.geq rfl rfl) rfl<|WQ.p (.pkT rfl a rfl) rfl<|WQ.p (.mv rfl) rfl<|JJ rfl rfl rfl (λb=>?_) (λb=>?_)
 have cC:=dT b
 refine WQ.p (.mv rfl) rfl<|BP rfl rfl rfl b<|WQ.p (.nck rfl) rfl<|BP rfl rfl rfl b<|WQ.p (.fa Df rfl CZ dD rfl) rfl<|BP rfl rfl rfl b<|D2 (λm=>Ae (g22_ _) rfl f.1 rfl) rfl<|BP rfl rfl rfl b<|WQ.p (.mv rfl) rfl<|BP rfl rfl rfl b<|WQ.p (.nck rfl) rfl<|BP rfl rfl rfl b<|WQ.p (.fa Df rfl BI dD rfl) rfl<|BP rfl rfl rfl b<|D2 (λm=>Ae (C5 _) rfl f.1 rfl) rfl<|BP rfl rfl rfl b<|WQ.p (.ixb B1 EC rfl rfl (f.2.isp oO) (u) oO oO) rfl<|BP rfl rfl rfl b<|D2 (λm=>BG (IU _) rfl ((f.2.drewN m).cells (u) oO)) rfl<|BP rfl rfl rfl b<|WQ.p (.leq rfl rfl) rfl<|WQ.p (.pkT rfl b rfl) rfl<|CO (λdI cD=>?_)
 exact ⟨GC (DI rfl (by (by_cases hq:u<l.length) <;> (unfold RI;first | (exfalso;omega) | (rw [getElem!_pos l u hq];(apply B3.2;(try simp only [AG,CD,BE,AI,Bg,BV,Dj,false_iff,iff_false,true_iff,iff_true]);omega)) | (apply B3.2;(try simp only [AG,CD,BE,AI,Bg,BV,Dj,false_iff,iff_false,true_iff,iff_true]);omega)))),cD⟩
 have cC:=dF b
 refine Bc rfl rfl rfl b<|Bc rfl rfl rfl b<|Bc rfl rfl rfl b<|Bc rfl rfl rfl b<|Bc rfl rfl rfl b<|Bc rfl rfl rfl b<|Bc rfl rfl rfl b<|Bc rfl rfl rfl b<|Bc rfl rfl rfl b<|Bc rfl rfl rfl b<|WQ.p (.pkF rfl b rfl) rfl<|CO (λd8 b1=>?_)
 exact ⟨GC (DI rfl (by (by_cases hq:u<l.length) <;> (unfold RI;first | (exfalso;omega) | (rw [getElem!_pos l u hq];(apply B3.2;(try simp only [AG,CD,BE,AI,Bg,BV,Dj,false_iff,iff_false,true_iff,iff_true]);omega)) | (apply B3.2;(try simp only [AG,CD,BE,AI,Bg,BV,Dj,false_iff,iff_false,true_iff,iff_true]);omega)))),b1⟩
 have cB:=dF a
 refine Bc rfl rfl rfl a<|Bc rfl rfl rfl a<|Bc rfl rfl rfl a<|Bc rfl rfl rfl a<|Bc rfl rfl rfl a<|Bc rfl rfl rfl a<|Bc rfl rfl rfl a<|Bc rfl rfl rfl a<|Bc rfl rfl rfl a<|Bc rfl rfl rfl a<|WQ.p (.pkF rfl a rfl) rfl<|WQ.p (.mv rfl) rfl<|Bc rfl rfl rfl rfl<|Bc rfl rfl rfl rfl<|Bc rfl rfl rfl rfl<|Bc rfl rfl rfl rfl<|Bc rfl rfl rfl rfl<|Bc rfl rfl rfl rfl<|Bc rfl rfl rfl rfl<|Bc rfl rfl rfl rfl<|Bc rfl rfl rfl rfl<|Bc rfl rfl rfl rfl<|Bc rfl rfl rfl rfl<|WQ.p (.pkF rfl rfl rfl) rfl<|CO (λd9 b3=>?_)
 exact ⟨GC (DI rfl (by (by_cases hq:u<l.length) <;> (unfold RI;first | (exfalso;omega) | (rw [getElem!_pos l u hq];(apply B3.2;(try simp only [AG,CD,BE,AI,Bg,BV,Dj,false_iff,iff_false,true_iff,iff_true]);omega)) | (apply B3.2;(try simp only [AG,CD,BE,AI,Bg,BV,Dj,false_iff,iff_false,true_iff,iff_true]);omega)))),b3⟩
 have cA:=dF J
 refine Bc rfl rfl rfl J<|WQ.p (.pkF rfl J rfl) rfl<|WQ.p (.mv rfl) rfl<|Bc rfl rfl rfl rfl<|Bc rfl rfl rfl rfl<|Bc rfl rfl rfl rfl<|Bc rfl rfl rfl rfl<|Bc rfl rfl rfl rfl<|Bc rfl rfl rfl rfl<|Bc rfl rfl rfl rfl<|Bc rfl rfl rfl rfl<|Bc rfl rfl rfl rfl<|Bc rfl rfl rfl rfl<|Bc rfl rfl rfl rfl<|WQ.p (.pkF rfl rfl rfl) rfl<|WQ.p (.mv rfl) rfl<|Bc rfl rfl rfl rfl<|Bc rfl rfl rfl rfl<|Bc rfl rfl rfl rfl<|Bc rfl rfl rfl rfl<|Bc rfl rfl rfl rfl<|Bc rfl rfl rfl rfl<|Bc rfl rfl rfl rfl<|Bc rfl rfl rfl rfl<|Bc rfl rfl rfl rfl<|Bc rfl rfl rfl rfl<|Bc rfl rfl rfl rfl<|WQ.p (.pkF rfl rfl rfl) rfl<|CO (λda b4=>?_)
 exact ⟨GC (DI rfl (by (by_cases hq:u<l.length) <;> (unfold RI;first | (exfalso;omega) | (rw [getElem!_pos l u hq];(apply B3.2;(try simp only [AG,CD,BE,AI,Bg,BV,Dj,false_iff,iff_false,true_iff,iff_true]);omega)) | (apply B3.2;(try simp only [AG,CD,BE,AI,Bg,BV,Dj,false_iff,iff_false,true_iff,iff_true]);omega)))),b4⟩
 have ad:=CF.drew ac a8
 have a9:=f.1.drew a8
 have aa:=f.2.drew a8
 have E:=Bs hT (KU a8)
 refine Ai rfl (λcE=>?_) (λcE=>?_)
 obtain ⟨db,cL,dc,dd,K⟩:=A2q aS
 refine As<|Ad<|AT<|An<|A3 rfl<|A1 (.mul rfl rfl (Bb oO))<|A3 rfl<|Ch BQ rfl rfl ((Kq r p l c u _ ⟨a9,aa⟩ hne hl)) (λde cF L i=>?_) (λdf cF L i=>?_)
 exact Dp (GH L).1 oO
 have b5:=GQ ad i.2 oO
 have b6:=i.1.1
 have b7:=i.1.2
 have b8:=Bs E (EN i.2 (CT hBw E.size))
 obtain ⟨dJ,hx⟩:=LU L
 rw [hx]
 refine A1 (.sub rfl rfl (PO oO))<|A1 (.cvt Ga ML rfl (Bb oO))<|A1 (.add rfl rfl (Bb oO))<|A8 rfl<|An<|A3 rfl<|A1 (.add rfl rfl (Bb oO))<|A8 rfl ?_
 exact ⟨(8 * m+((l[u]'cL).toNat-48),k+1,u+1),⟨rfl,rfl,N8 rfl oM,N8 rfl oM,tT⟩,⟨⟨b6,b7⟩,b8,b5,oM,oM,oM,by rw [<- aD,K m]⟩,oM⟩
 have K:=A2r aS m
 rw [aD] at K
 refine BL<|A4<|A3 rfl<|A3 rfl<|A1 (.cvt ML Ga rfl (show IntKind.u8.wrap (m:Int)=((m % 256:Nat):Int) by rw [IntKind.wrap_u8'];(first | done | rfl)))<|CC (ps:=_) B1 EC Li rfl rfl rfl rfl rfl pR rfl (λdg d0 F aE j cM=>?_)
 have b9:=Dw ad F j
 have ba:=Bt F a9.lt
 have bb:=a9.un j ba
 have aF:=λg=>F▸aa.lt g
 have bc:=Cy aa j aF
 have ag:=CW F E.size
 have ae:=Bs E (DC j (CT hBw ag))
 refine En B1 Id rfl rfl rfl b9 rfl aE rfl (by rw [Ca];omega) ((CT hBw ae.size)) rfl (λdh di aG P cN=>?_)
 have bd:=bb.below P oO
 have be:=Fh bc P hpB
 have bf:=Bs ae (Fb (P.mono (DS _)))
 have bg:=E1 aG (ch ((m % 256:Nat):Int)) (by rw [Ih _ oO oO])
 refine A8 rfl<|AY ?_
 exact ⟨_,rfl,u,⟨bd,be⟩,bf,(by rw [S3 _ bq bt,K];exact bg),bu,bv,(by rw [S3 _ bq bt,K])⟩
 have cn:=dT H
 refine B6 H<|A1 (.pkT rfl H rfl)<|A0<|BZ rfl rfl<|A4<|A3 rfl<|A3 rfl<|CC (ps:=_) B1 EC Li rfl rfl rfl rfl rfl pR rfl (λdj d1 G aH q cO=>?_)
 have bh:=Dw hown G q
 have bi:=Bt G hr.lt
 have bj:=hr.un q bi
 have aI:=λg=>G▸hb.lt g
 have bk:=Cy hb q aI
 have ah:=CW G d.size
 have af:=Bs d (DC q (CT hBw ah))
 refine En B1 Id rfl rfl rfl bh rfl aH rfl (by rw [Ca];omega) ((CT hBw af.size)) rfl (λdk dl aJ Q cP=>?_)
 have bl:=bj.below Q oO
 have bm:=Fh bk Q hpB
 have bn:=Bs af (Fb (Q.mono (DS _)))
 have bo:=E1 aJ (x) (rfl)
 refine A8 rfl<|AY ?_
 exact ⟨_,rfl,t,⟨bl,bm⟩,bn,(by rw [Mu _ oO oO oO oO oO oO oO oO];exact bo),DS _,ht,(by rw [Mu _ oO oO oO oO oO oO oO oO])⟩
theorem Zi (x:UInt8) (r:l8_):(Hf x r).1.length<=1:=by
 unfold Hf
 repeat' split
 all_goals simp
theorem Ud (r:Nat) (p:Option Addr) (l:l8_) (c t:Nat) (w:World) (h:HO w r p l c t) (hne:0<l.length->(pA p).block≠r) (hc:l.length<=c) (hl:l.length<=100000000) (ht:t<=l.length) :
  Calls Tryz.prog 174 #[ptV r] w (Ce 35 (Gp (D0 1 [] (l.drop t))) (λa=>a.1.val) (ZX w r p l c) (λw'=>B8 w.heap.size r w w')):=by
 have hr:=h.1
 have hb:=h.2
 obtain ⟨R,hR⟩:=eX (D0 1 [] (l.drop t))
 rw [<- hR]
 obtain ⟨a,rfl⟩:=eX t
 refine AF func174 rfl ntmps174 ?_
 have bv:=B8.refl (w.heap.size) r w
 refine A4<|Bm GY rfl (λb1 dl af bB a3 d6=>?_)
 have ct:=Bt af hr.lt
 have cu:=hr.un a3 ct
 have ag:=λG=>af▸hb.lt G
 have cv:=Cy hb a3 ag
 have aT:=CW af bv.size
 have cw:=Bs bv (DC a3 aT)
 refine A0<|Ad ?_
 have a1:0<l.length->(pA p).block<b1+1:=λG=>by have:=hb.lt G;omega
 refine An<|A8 rfl<|A4<|A8 rfl<|AT<|BO (α:=Value × l8_ × Nat × Nat) (λt=>[(0,ptV r),(2,ptV b1),(3,t.1),(4,Ag (t.2.2.1:Int))]) (λt w'=>HO w' r p l c t.2.2.2/\B8 w.heap.size r w w'/\B4 w' b1 #[Ag 0,Ag 0,.string ⟨#[]⟩] 196/\CF 5 (b1+1) w' t.1 (AN t.2.1)/\D0 t.2.2.1 t.2.1 (l.drop t.2.2.2)=R/\1<=t.2.2.1/\t.2.2.1<=t.2.2.2+1/\t.2.1.length<=t.2.2.2/\t.2.2.2<=l.length) (λt=>l.length-t.2.2.2) ((.slice none 0 0,[],1,a)) ⟨rfl,rfl,rfl,rfl,tT⟩ (⟨⟨cu,cv⟩,cw,bB,CF.nil _ _ _,hR.symm,DS _,oM,FN _,ht⟩) (λt w1 hR=>?_)
 obtain ⟨v,o,d,s⟩:=t
 obtain ⟨ah,hT,ai,aj,hw,bw,cy,cz,hs⟩:=hR
 simp only at ah hT ai aj hw bw cy cz hs ⊢
 refine AT<|A4<|A3 rfl<|Ch BQ rfl rfl ((Kq r p l c s _ ⟨ah.1,ah.2⟩ hne hl)) (λk9 w7 V N=>?_) (λa8 w7 V N=>?_)
 have aU:=Bs hT (EN N hT.size)
 exact Bx (BB k9 (by rw [(GH V).2,<- hw,Bv (GH V).1,D0.eq_def];(first | done | rfl)) aU)
 have i:=GQ aj N.2 oO
 have g:=N.1.1
 have e:=Gd ai N.2 ai.lt oO
 have f:=N.1.2
 have b:=Bs hT (EN N.2 hT.size)
 obtain ⟨cA,hx⟩:=LU V
 obtain ⟨x,cB⟩:=eX a8
 rw [<- cB] at hx ⊢
 have u:=Wx d o l s cA
 rw [<- hx] at u
 refine A8 rfl<|Ad<|A4<|A3 rfl<|A0<|AT<|A4<|A1 (.eql rfl rfl)<|A8 rfl<|Ai rfl (λak=>?_) (λak=>?_)
 have bC:=dT ak
 refine An<|A3 rfl<|A1 (.iis (((d+1:Nat):Int)) (.add rfl rfl (Bb oO)) oO)<|A8 rfl<|Ad<|A4<|A3 rfl<|A1 (.eql rfl rfl)<|A0<|Ai rfl (λam=>?_) (λam=>?_)
 have bD:=dT am
 refine Ad ?_
 obtain ⟨q,cq,rfl,P,an⟩:=CF.bytes i
 refine An<|A3 rfl<|Ch BQ rfl rfl ((HV q _ cq _ P oO)) (λdm cC a6 ao=>?_) (λcD cC a6 ao=>?_)
 (exfalso;omega)
 have bE:=e.bl ao
 obtain ⟨a0,ap⟩:=eX cD
 have a7:=a6
 refine Az rfl rfl bE BC rfl rfl (λdn aV cY cZ=>?_)
 refine A0<|AU (BD rfl rfl (Ba aV DP rfl BC)  ?_)
 (exfalso;omega)
 have bD:=dF am
 refine As<|An<|A3 rfl<|A3 rfl<|CC (ps:=_) B1 EC Li rfl rfl rfl rfl rfl pR rfl (λdp d7 Q aW A c'=>?_)
 have bG:=Dw i Q A
 have bH:=Bt Q g.lt
 have bI:=g.un A bH
 have bJ:=Bt Q e.lt
 have aq:=e.un A bJ
 have aX:=λG=>Q▸f.lt G
 have bK:=Cy f A aX
 have ar:=CW Q b.size
 have bL:=Bs b (DC A ar)
 refine En B1 Id rfl rfl rfl bG rfl aW rfl (by rw [Ca];omega) (aq.lt) rfl (λdq dr aY J d0=>?_)
 have bM:=bI.below J oO
 have bN:=aq.below J oO
 have bO:=Fh bK J a1
 have bP:=Bs bL (Fb (J.mono oO))
 have bQ:=E1 aY (x) (rfl)
 refine A8 rfl ?_
 exact ⟨(_,o++[_],d+1,s+1),⟨rfl,rfl,rfl,rfl,tT⟩,⟨⟨bM,bO⟩,bP,bN,bQ,(by rw [<- hw,u,show x=40 from Cf aS,A5 rfl]),oM,oM,oF,oM⟩,oM⟩
 have bC:=dF ak
 refine A4<|A1 (.eql rfl rfl)<|A8 rfl<|Ai rfl (λau=>?_) (λau=>?_)
 have bR:=dT au
 refine An<|A3 rfl<|A1 (.iis (((d-1:Nat):Int)) (.sub rfl rfl (Bb oO)) oO)<|A8 rfl<|Ad<|A4<|A3 rfl<|A1 (.eql rfl rfl)<|A0<|Ai rfl (λav=>?_) (λav=>?_)
 have bS:=dT av
 refine Ad ?_
 obtain ⟨q,cq,rfl,P,an⟩:=CF.bytes i
 refine An<|A3 rfl<|Ch BQ rfl rfl ((HV q _ cq _ P oO)) (λcE cF X H=>?_) (λcG cF X H=>?_)
 have aw:=Bs b (EN (Fb H) b.size)
 exact Bx (BB cE (by rw [<- hw,u,show x=41 from Cf aS,A2 dD,A5 rfl,A5 oO];exact MP X) aw)
 have bT:=g.bl H
 have bU:=e.bl H
 have bV:=Fh f H (λG=>f.lt G)
 have bW:=Bs b (EN (Fb H) b.size)
 obtain ⟨a0,ap⟩:=eX cG
 have a7:=X
 refine Az rfl rfl bU BC rfl rfl (λds aZ Y d1=>?_)
 have bX:=bT.up Y
 have bY:=Cy bV Y ag
 have bZ:=Bs bW (DC Y oO)
 refine A0<|AU (BD rfl rfl (Ba aZ DP rfl BC)  ?_)
 exact Ce.ok (_,l.drop (s+1)) (by rw [<- hw,u,show x=41 from Cf aS,A2 dD,A5 rfl,A5 oO];exact OF a7) rfl ⟨_,rfl,oO,⟨bX,bY⟩,bZ⟩
 have bS:=dF av
 refine As<|An<|A3 rfl<|A3 rfl<|CC (ps:=_) B1 EC Li rfl rfl rfl rfl rfl pR rfl (λdt d8 T a' B d2=>?_)
 have b':=Dw i T B
 have c0:=Bt T g.lt
 have c2:=g.un B c0
 have c3:=Bt T e.lt
 have ax:=e.un B c3
 have b0:=λG=>T▸f.lt G
 have c4:=Cy f B b0
 have ay:=CW T b.size
 have c5:=Bs b (DC B ay)
 refine En B1 Id rfl rfl rfl b' rfl a' rfl (by rw [Ca];omega) (ax.lt) rfl (λdu dv b2 K d3=>?_)
 have c6:=c2.below K oO
 have c7:=ax.below K oO
 have c8:=Fh c4 K a1
 have c9:=Bs c5 (Fb (K.mono oO))
 have ca:=E1 b2 (x) (rfl)
 refine A8 rfl ?_
 exact ⟨(_,o++[_],d-1,s+1),⟨rfl,rfl,rfl,rfl,tT⟩,⟨⟨c6,c8⟩,c9,c7,ca,(by rw [<- hw,u,show x=41 from Cf aS,A2 dD,A5 rfl,A2 oO]),oM,oM,oF,oM⟩,oM⟩
 have bR:=dF au
 refine A4<|A1 (.eql rfl rfl)<|A8 rfl<|Ai rfl (λaz=>?_) (λaz=>?_)
 have cb:=dT az
 refine A4<|A3 rfl<|A3 rfl<|A3 rfl<|Ch BQ rfl rfl ((Kq r p l c (s+1) _ ⟨g,f⟩ hne hl)) (λcH cI L m=>?_) (λcJ cI L m=>?_)
 have aA:=Bs b (EN m b.size)
 exact Bx (BB cH (by rw [(GH L).2,<- hw,u,show x=92 from Cf aS,A2 dD,A2 dD,A5 rfl,Bv (GH L).1];(first | done | rfl)) aA)
 have cc:=GQ i m.2 oO
 have cd:=m.1.1
 have aB:=Gd e m.2 e.lt oO
 have cf:=m.1.2
 have cg:=Bs b (EN m.2 b.size)
 obtain ⟨ci,bz⟩:=LU L
 obtain ⟨y,cK⟩:=eX cJ
 rw [<- cK] at bz ⊢
 refine Bf BQ rfl rfl ((Sx (b1+1) r p l c (s+1+1) y v o _ ⟨cd,cf⟩ hne hl oO oO (aB).lt a1 cc oO)) (λv2 dw cj=>?_)
 obtain ⟨k2,aC,bA,cL,d9,da,ck⟩:=cj
 have cl:=Gd aB bA oO oO
 have cM:=Bs cg (bA.mono oO)
 have db:=Zi y (l.drop (s+1+1))
 refine A8 rfl<|BL ?_
 exact ⟨(v2,o++(Hf y (l.drop (s+1+1))).1,d,k2),⟨rfl,rfl,rfl,rfl,tT⟩,⟨⟨aC.1,aC.2⟩,cM,cl,cL,(by rw [ck,<- hw,u,show x=92 from Cf aS,A2 dD,A2 dD,A5 rfl,Aw ci,<- bz]),bw,oM,oF,oM⟩,oM⟩
 have cb:=dF az
 refine A4<|A1 (.eql rfl rfl)<|A8 rfl<|Ai rfl (λaD=>?_) (λaD=>?_)
 have cm:=dT aD
 refine A4<|A3 rfl<|Au (Kr r p l c (s+1) 10 _ ⟨g,f⟩ hne hl oO) (λdx U=>?_)
 have aE:=GQ i U.2 oO
 have aF:=U.1.1
 have a4:=Gd e U.2 e.lt oO
 have aG:=U.1.2
 have aH:=Bs b (EN U.2 b.size)
 have cN:=Oe l (s+1) oO
 refine A0<|An<|A8 rfl<|Ad<|A4<|A3 rfl<|A1 (.eql rfl rfl)<|A0<|Ai rfl (λaI=>?_) (λaI=>?_)
 have cn:=dT aI
 refine Ad ?_
 obtain ⟨q,cq,rfl,P,an⟩:=CF.bytes aE
 refine An<|A3 rfl<|Ch BQ rfl rfl ((HV q _ cq _ P oO)) (λdy cO a9 aJ=>?_) (λcP cO a9 aJ=>?_)
 (exfalso;omega)
 have b3:=a4.bl aJ
 obtain ⟨a0,ap⟩:=eX cP
 have a7:=a9
 refine Az rfl rfl b3 BC rfl rfl (λdc aK cQ cR=>?_)
 refine A0<|AU (BD rfl rfl (Ba aK DP rfl BC)  ?_)
 (exfalso;omega)
 have cn:=dF aI
 refine As<|An<|A3 rfl<|A3 rfl<|CC (ps:=_) B1 EC Li rfl rfl rfl rfl rfl pR rfl (λdd d4 C aL j cS=>?_)
 have b4:=Dw aE C j
 have b5:=Bt C aF.lt
 have b6:=aF.un j b5
 have b7:=Bt C a4.lt
 have aa:=a4.un j b7
 have aM:=λG=>C▸aG.lt G
 have b8:=Cy aG j aM
 have ad:=CW C aH.size
 have b9:=Bs aH (DC j ad)
 refine En B1 Id rfl rfl rfl b4 rfl aL rfl (by rw [Ca];omega) (aa.lt) rfl (λde df aN D cT=>?_)
 have ba:=b6.below D oO
 have bb:=aa.below D oO
 have bc:=Fh b8 D a1
 have bd:=Bs b9 (Fb (D.mono oO))
 have be:=E1 aN (10) (rfl)
 refine A8 rfl ?_
 exact ⟨(_,o++[_],d,(if Gh l (s+1) 10 then s+1+1 else s+1)),⟨rfl,rfl,rfl,rfl,tT⟩,⟨⟨ba,bc⟩,bd,bb,be,(by show D0 d (o++[10]) (l.drop (if Gh l (s+1) 10 then s+1+1 else s+1))=R;rw [cN.2.2,<- hw,u,show x=13 from Cf aS,A2 dD,A2 dD,A2 dD,A5 rfl]),oM,oM,oF,oM⟩,oM⟩
 have cm:=dF aD
 refine As<|Ad<|A4<|A3 rfl<|A1 (.eql rfl rfl)<|A0<|Ai rfl (λa5=>?_) (λa5=>?_)
 have bf:=dT a5
 refine Ad ?_
 obtain ⟨q,cq,rfl,P,an⟩:=CF.bytes i
 refine An<|A3 rfl<|Ch BQ rfl rfl ((HV q _ cq _ P oO)) (λdg co a2 ab=>?_) (λcr co a2 ab=>?_)
 (exfalso;omega)
 have bg:=e.bl ab
 obtain ⟨a0,ap⟩:=eX cr
 have a7:=a2
 refine Az rfl rfl bg BC rfl rfl (λdh aO cU cV=>?_)
 refine A0<|AU (BD rfl rfl (Ba aO DP rfl BC)  ?_)
 (exfalso;omega)
 have bf:=dF a5
 refine As<|An<|A3 rfl<|A3 rfl<|CC (ps:=_) B1 EC Li rfl rfl rfl rfl rfl pR rfl (λdi d5 E aP k cW=>?_)
 have bh:=Dw i E k
 have bi:=Bt E g.lt
 have bj:=g.un k bi
 have bk:=Bt E e.lt
 have ac:=e.un k bk
 have aQ:=λG=>E▸f.lt G
 have bm:=Cy f k aQ
 have ae:=CW E b.size
 have bn:=Bs b (DC k ae)
 refine En B1 Id rfl rfl rfl bh rfl aP rfl (by rw [Ca];omega) (ac.lt) rfl (λdj dk aR F cX=>?_)
 have bo:=bj.below F oO
 have bp:=ac.below F oO
 have bq:=Fh bm F a1
 have bt:=Bs bn (Fb (F.mono oO))
 have bu:=E1 aR (x) (rfl)
 refine A8 rfl ?_
 exact ⟨(_,o++[_],d,s+1),⟨rfl,rfl,rfl,rfl,tT⟩,⟨⟨bo,bq⟩,bt,bp,bu,(by rw [<- hw,u,A2 (D6 (d:=40) aS),A2 (D6 (d:=41) aS),A2 (D6 (d:=92) aS),A2 (D6 (d:=13) aS)]),oM,oM,oF,oM⟩,oM⟩
end
section
theorem Ub (r:Nat) (p:Option Addr) (l:l8_) (c n:Nat) (w:World) (h:HO w r p l c n) (hne:0<l.length->(pA p).block≠r) (hc:l.length<=c) (hl:l.length<=100000000) (ht:n<=l.length) :
  Calls Tryz.prog 157 #[ptV r] w (Ce 35 (Lk (l.drop n)) (λa=>a.1.val) (ZX w r p l c) (λw'=>B8 w.heap.size r w w')):=by
 have hr:=h.1
 have hb:=h.2
 refine AF func157 rfl ntmps157 ?_
 have cM:=B8.refl (w.heap.size) r w
 refine A4<|Bm GY rfl (λb1 eN b7 b8 aE ez=>?_)
 have dM:=Bt b7 hr.lt
 have dN:=hr.un aE dM
 have d:=λh0=>b7▸hb.lt h0
 have dO:=Cy hb aE d
 have bK:=CW b7 cM.size
 have cN:=Bs cM (DC aE bK)
 refine A0<|A4<|A3 rfl<|Au (Wt r p l c n _ ⟨dN,dO⟩ hne hl ht) (λw7 aI=>?_)
 have cO:=aI.1.1
 have dP:=Gd b8 aI.2 b8.lt oO
 have b9:=aI.1.2
 have cS:=Bs cN (EN aI.2 cN.size)
 have cP:=H0 false l n
 have eO:=E3 false l n
 generalize AW false l n=s at *
 refine A0<|Ad<|A4<|A3 rfl<|Au (Ks r p l c s _ ⟨cO,b9⟩) (λeP ae=>?_)
 have af:=cO.drew ae
 have ba:=dP.drew ae
 have ag:=b9.drew ae
 have bb:=Bs cS (KU ae)
 refine A1 (.not rfl)<|A0<|Ai rfl (λbc=>?_) (λbc=>?_)
 have cT:=(nT bc)
 refine A4<|A1 (.buildL (ps:=_) Hy rfl rfl rfl pZ) ?_
 refine Az rfl rfl ba BC rfl rfl (λeQ bL ah ei=>?_)
 have cU:=af.up ah
 have cV:=Cy ag ah d
 have cW:=Bs bb (DC ah oO)
 refine A0<|AU (BD rfl rfl (Ba bL DP rfl BC)  ?_)
 exact Ce.ok (⟨0,0,[]⟩,[]) (XW cP (by simp_all)) rfl ⟨s,by rw [Bv (by simp_all)],oO,⟨cU,cV⟩,cW⟩
 have cT:=(nF bc)
 have bd:s<l.length:=by simp_all
 have hT:=A0w cP bd
 obtain ⟨x,hx⟩:=eX (l[s]'bd)
 rw [<- hx] at hT
 have cQ:=EV l s oO
 refine As<|Ad<|Ad<|DE BS kR<|WQ.p (.mv rfl) rfl<|WQ.p (.nck rfl) rfl<|WQ.p (.fa Df rfl CZ dD rfl) rfl<|D2 (λm=>Ae (g22_ _) rfl af rfl) rfl<|WQ.p (.mv rfl) rfl<|WQ.p (.nck rfl) rfl<|WQ.p (.fa Df rfl BI dD rfl) rfl<|D2 (λm=>Ae (C5 _) rfl af rfl) rfl<|WQ.p (.ixb B1 EC rfl rfl (ag.isp oO) (s) oO oO) rfl<|D2 (λm=>Rd.iis ((x.toNat:Int)) (BG (IU _) rfl ((ag.drewN m).cells (s) oO)) (by rw [hx])) rfl<|WQ.p (.as rfl) rfl<|CO (λeR ai=>?_)
 have b:=af.drew ai
 have i:=ba.drew ai
 have j:=ag.drew ai
 have f:=Bs bb (KU ai)
 refine A4<|A3 rfl<|A0<|AT<|A4<|A1 (.eql rfl rfl)<|A8 rfl<|Ai rfl (λbe=>?_) (λbe=>?_)
 have cX:=dT be
 refine A4<|A3 rfl<|A1 (.nck rfl)<|A1 (.fa Df rfl BI dD rfl)<|Aj (Ae (C5 _) rfl b rfl)<|A1 (.iis (((s+1:Nat):Int)) (.add rfl rfl (Bb oO)) oO)<|A1 (.nck rfl)<|A1 (.fa Df rfl BI dD rfl)<|BA BI rfl rfl rfl b (by exact Nat.le_of_ble_eq_true rfl) (λdQ aj C ej=>?_)
 have aj:B4 dQ r _ _:=aj
 have C:CP r _ _:=C
 have bf:=i.up C
 have cY:=Af.upd j C hne
 have ak:=Bs f (Bk C)
 refine A0<|A4<|A3 rfl<|Ch BQ rfl rfl ((Ud r p l c (s+1) _ ⟨aj,cY⟩ hne hc hl oO)) (λdR dS am k=>?_) (λdU dS am k=>?_)
 have bg:=Bs ak (EN k ak.size)
 exact Bx (BB dR (by rw [hT,show x=40 from Cf aS,Y1];exact am) bg)
 obtain ⟨kr,a3,a4,k⟩:=k
 have cZ:=k.1.1
 have c':=Gd bf k.2 bf.lt oO
 have d0:=k.1.2
 have d1:=Bs ak (EN k.2 ak.size)
 have D:=am
 obtain ⟨a0,aJ⟩:=eX dU
 refine Az rfl rfl c' BC rfl rfl (λeS bM an ek=>?_)
 have d2:=cZ.up an
 have d3:=Cy d0 an d
 have d4:=Bs d1 (DC an oO)
 refine A0<|AU (BD rfl rfl (Ba bM DP rfl BC)  ?_)
 exact Ce.ok _ (by rw [hT,show x=40 from Cf aS,Y1];exact D) rfl ⟨_,a3,a4,⟨d2,d3⟩,d4⟩
 have cX:=dF be
 refine A4<|A1 (.eql rfl rfl)<|A8 rfl<|Ai rfl (λbh=>?_) (λbh=>?_)
 have d5:=dT bh
 refine An<|A1 (.mkI MM rfl)<|G4 rfl (Bx ?_)
 exact BB 14 (by rw [hT,show x=41 from Cf aS,A2e]) f
 have d5:=dF bh
 refine Ad<|A4<|A1 (.eql rfl rfl)<|A8 rfl<|Ai rfl (λaK=>?_) (λaK=>?_)
 have d6:=dT aK
 refine As<|BZ rfl aK<|A4<|A3 rfl<|A1 (.nck rfl)<|A1 (.fa Df rfl BI dD rfl)<|Aj (Ae (C5 _) rfl b rfl)<|A1 (.iis (((s+1:Nat):Int)) (.add rfl rfl (Bb oO)) oO)<|A1 (.nck rfl)<|A1 (.fa Df rfl BI dD rfl)<|BA BI rfl rfl rfl b (by exact Nat.le_of_ble_eq_true rfl) (λdV ao E el=>?_)
 have ao:B4 dV r _ _:=ao
 have E:CP r _ _:=E
 have bi:=i.up E
 have d7:=Af.upd j E hne
 have ap:=Bs f (Bk E)
 refine A0<|A4<|A3 rfl<|A3 rfl<|Ch BQ rfl rfl ((ON r p l c (s+1) x _ ⟨ao,d7⟩ hne hc hl oO (by rintro rfl;first | exact Dp (show (0:Int)=60 by assumption) dD | exact Dp (show (0:Int)=62 by assumption) dD))) (λdW dX aq o=>?_) (λdY dX aq o=>?_)
 have bj:=Bs ap (EN o ap.size)
 exact Bx (BB dW (by rw [hT,show x=60 from Cf aS,XZ,<- show x=60 from Cf aS];exact aq) bj)
 obtain ⟨kr,a3,a4,o⟩:=o
 have d8:=o.1.1
 have d9:=Gd bi o.2 bi.lt oO
 have da:=o.1.2
 have db:=Bs ap (EN o.2 ap.size)
 have D:=aq
 obtain ⟨a0,aJ⟩:=eX dY
 refine Az rfl rfl d9 BC rfl rfl (λeT bN ar em=>?_)
 have dc:=d8.up ar
 have dd:=Cy da ar d
 have de:=Bs db (DC ar oO)
 refine A0<|AU (BD rfl rfl (Ba bN DP rfl BC)  ?_)
 exact Ce.ok _ (by rw [hT,show x=60 from Cf aS,XZ,<- show x=60 from Cf aS];exact D) rfl ⟨_,a3,a4,⟨dc,dd⟩,de⟩
 have d6:=dF aK
 refine An<|A1 (.eql rfl rfl)<|A8 rfl<|Ai rfl (λbk=>?_) (λbk=>?_)
 have df:=dT bk
 refine A4<|A3 rfl<|A1 (.nck rfl)<|A1 (.fa Df rfl BI dD rfl)<|Aj (Ae (C5 _) rfl b rfl)<|A1 (.iis (((s+1:Nat):Int)) (.add rfl rfl (Bb oO)) oO)<|A1 (.nck rfl)<|A1 (.fa Df rfl BI dD rfl)<|BA BI rfl rfl rfl b (by exact Nat.le_of_ble_eq_true rfl) (λdZ au F en=>?_)
 have au:B4 dZ r _ _:=au
 have F:CP r _ _:=F
 have bm:=i.up F
 have dg:=Af.upd j F hne
 have av:=Bs f (Bk F)
 refine A0<|A4<|A3 rfl<|A3 rfl<|Ch BQ rfl rfl ((ON r p l c (s+1) x _ ⟨au,dg⟩ hne hc hl oO (by rintro rfl;first | exact Dp (show (0:Int)=60 by assumption) dD | exact Dp (show (0:Int)=62 by assumption) dD))) (λd' e0 aw q=>?_) (λe1 e0 aw q=>?_)
 have bn:=Bs av (EN q av.size)
 exact Bx (BB d' (by rw [hT,show x=62 from Cf aS,XY,<- show x=62 from Cf aS];exact aw) bn)
 obtain ⟨kr,a3,a4,q⟩:=q
 have dh:=q.1.1
 have di:=Gd bm q.2 bm.lt oO
 have dj:=q.1.2
 have dk:=Bs av (EN q.2 av.size)
 have D:=aw
 obtain ⟨a0,aJ⟩:=eX e1
 refine Az rfl rfl di BC rfl rfl (λeU bO ax eo=>?_)
 have dl:=dh.up ax
 have dm:=Cy dj ax d
 have dn:=Bs dk (DC ax oO)
 refine A0<|AU (BD rfl rfl (Ba bO DP rfl BC)  ?_)
 exact Ce.ok _ (by rw [hT,show x=62 from Cf aS,XY,<- show x=62 from Cf aS];exact D) rfl ⟨_,a3,a4,⟨dl,dm⟩,dn⟩
 have df:=dF bk
 refine Ad<|A4<|A1 (.eql rfl rfl)<|A8 rfl<|Ai rfl (λaL=>?_) (λaL=>?_)
 have dp:=dT aL
 refine As<|BZ rfl aL<|A4<|A3 rfl<|A1 (.nck rfl)<|A1 (.fa Df rfl BI dD rfl)<|Aj (Ae (C5 _) rfl b rfl)<|A1 (.iis (((s+1:Nat):Int)) (.add rfl rfl (Bb oO)) oO)<|A1 (.nck rfl)<|A1 (.fa Df rfl BI dD rfl)<|BA BI rfl rfl rfl b (by exact Nat.le_of_ble_eq_true rfl) (λe2 ay G ep=>?_)
 have ay:B4 e2 r _ _:=ay
 have G:CP r _ _:=G
 have bo:=i.up G
 have dq:=Af.upd j G hne
 have dr:=Bs f (Bk G)
 refine A0<|Ad<|A4<|A3 rfl<|A1 (.eql rfl rfl)<|A0<|Ai rfl (λbp=>?_) (λbp=>?_)
 have ds:=dT bp
 refine A4<|A1 (.buildL (ps:=_) Hy rfl rfl rfl pS) ?_
 refine Az rfl rfl bo BC rfl rfl (λeV bP az eq=>?_)
 have dt:=ay.up az
 have du:=Cy dq az d
 have dv:=Bs dr (DC az oO)
 refine A0<|AU (BD rfl rfl (Ba bP DP rfl BC)  ?_)
 exact Ce.ok (⟨7,0,[]⟩,l.drop (s+1)) (by rw [hT,show x=123 from Cf aS,A0z]) rfl ⟨_,rfl,oO,⟨dt,du⟩,dv⟩
 have ds:=dF bp
 refine As<|A4<|A1 (.buildL (ps:=_) Hy rfl rfl rfl pS) ?_
 refine Az rfl rfl bo BC rfl rfl (λeW bQ er es=>?_)
 refine A0<|AU (BD rfl rfl (Ba bQ DP rfl BC)  ?_)
 (exfalso;omega)
 have dp:=dF aL
 refine An<|A1 (.eql rfl rfl)<|A8 rfl<|Ai rfl (λbq=>?_) (λbq=>?_)
 have dw:=dT bq
 refine A4<|A3 rfl<|A1 (.nck rfl)<|A1 (.fa Df rfl BI dD rfl)<|Aj (Ae (C5 _) rfl b rfl)<|A1 (.iis (((s+1:Nat):Int)) (.add rfl rfl (Bb oO)) oO)<|A1 (.nck rfl)<|A1 (.fa Df rfl BI dD rfl)<|BA BI rfl rfl rfl b (by exact Nat.le_of_ble_eq_true rfl) (λe3 aA H et=>?_)
 have aA:B4 e3 r _ _:=aA
 have H:CP r _ _:=H
 have bt:=i.up H
 have dx:=Af.upd j H hne
 have dy:=Bs f (Bk H)
 refine A0<|Ad<|A4<|A3 rfl<|A1 (.eql rfl rfl)<|A0<|Ai rfl (λbu=>?_) (λbu=>?_)
 have dz:=dT bu
 refine A4<|A1 (.buildL (ps:=_) Hy rfl rfl rfl pS) ?_
 refine Az rfl rfl bt BC rfl rfl (λeY bR eu ev=>?_)
 refine A0<|AU (BD rfl rfl (Ba bR DP rfl BC)  ?_)
 (exfalso;omega)
 have dz:=dF bu
 refine As<|A4<|A1 (.buildL (ps:=_) Hy rfl rfl rfl pS) ?_
 refine Az rfl rfl bt BC rfl rfl (λeA bv a5 e4=>?_)
 have bS:=aA.up a5
 have bT:=Cy dx a5 d
 have bU:=Bs dy (DC a5 oO)
 refine A0<|AU (BD rfl rfl (Ba bv DP rfl BC)  ?_)
 exact Ce.ok (⟨8,0,[]⟩,l.drop (s+1)) (by rw [hT,show x=125 from Cf aS,A0y]) rfl ⟨_,rfl,oO,⟨bS,bT⟩,bU⟩
 have dw:=dF bq
 refine Ad<|A4<|A1 (.eql rfl rfl)<|A8 rfl<|Ai rfl (λaB=>?_) (λaB=>?_)
 have bV:=dT aB
 refine As<|BZ rfl aB<|A4<|A3 rfl<|A1 (.nck rfl)<|A1 (.fa Df rfl BI dD rfl)<|Aj (Ae (C5 _) rfl b rfl)<|A1 (.iis (((s+1:Nat):Int)) (.add rfl rfl (Bb oO)) oO)<|A1 (.nck rfl)<|A1 (.fa Df rfl BI dD rfl)<|BA BI rfl rfl rfl b (by exact Nat.le_of_ble_eq_true rfl) (λdA J t e5=>?_)
 have J:B4 dA r _ _:=J
 have t:CP r _ _:=t
 have aM:=i.up t
 have aN:=Af.upd j t hne
 have aO:=Bs f (Bk t)
 refine A0<|A4<|A3 rfl<|CC (ps:=_) B1 EC Li rfl rfl rfl rfl rfl pR rfl (λeB ew U bw K e6=>?_)
 have bW:=Bt U J.lt
 have bX:=J.un K bW
 have bY:=Bt U aM.lt
 have bZ:=aM.un K bY
 have bz:=λh0=>U▸aN.lt h0
 have b':=Cy aN K bz
 have b2:=CW U aO.size
 have c0:=Bs aO (DC K b2)
 refine Aj (Fa (l:=[x]) B1 Ga FV rfl (Af.one bw rfl))<|?_
 refine A1 (.buildL (ps:=_) Hy rfl rfl rfl pS) ?_
 refine Az rfl rfl bZ BC rfl rfl (λeC bA a6 e7=>?_)
 have c2:=bX.up a6
 have c3:=Cy b' a6 d
 have c4:=Bs c0 (DC a6 oO)
 refine A0<|AU (BD rfl rfl (Ba bA DP rfl BC)  ?_)
 exact Ce.ok (⟨3,0,[x]⟩,l.drop (s+1)) (by rw [hT,show x=91 from Cf aS,A2d]) rfl ⟨_,rfl,oO,⟨c2,c3⟩,c4⟩
 have bV:=dF aB
 refine An<|A1 (.eql rfl rfl)<|A8 rfl<|Ai rfl (λaF=>?_) (λaF=>?_)
 have c5:=dT aF
 refine A4<|A3 rfl<|A1 (.nck rfl)<|A1 (.fa Df rfl BI dD rfl)<|Aj (Ae (C5 _) rfl b rfl)<|A1 (.iis (((s+1:Nat):Int)) (.add rfl rfl (Bb oO)) oO)<|A1 (.nck rfl)<|A1 (.fa Df rfl BI dD rfl)<|BA BI rfl rfl rfl b (by exact Nat.le_of_ble_eq_true rfl) (λdB L u e8=>?_)
 have L:B4 dB r _ _:=L
 have u:CP r _ _:=u
 have aP:=i.up u
 have aQ:=Af.upd j u hne
 have aR:=Bs f (Bk u)
 refine A0<|A4<|A3 rfl<|CC (ps:=_) B1 EC Li rfl rfl rfl rfl rfl pR rfl (λeD ex V bB N e9=>?_)
 have c6:=Bt V L.lt
 have c7:=L.un N c6
 have c8:=Bt V aP.lt
 have c9:=aP.un N c8
 have bC:=λh0=>V▸aQ.lt h0
 have ca:=Cy aQ N bC
 have b3:=CW V aR.size
 have cb:=Bs aR (DC N b3)
 refine Aj (Fa (l:=[x]) B1 Ga FV rfl (Af.one bB rfl))<|?_
 refine A1 (.buildL (ps:=_) Hy rfl rfl rfl pS) ?_
 refine Az rfl rfl c9 BC rfl rfl (λeF bD a7 ea=>?_)
 have cc:=c7.up a7
 have cd:=Cy ca a7 d
 have cf:=Bs cb (DC a7 oO)
 refine A0<|AU (BD rfl rfl (Ba bD DP rfl BC)  ?_)
 exact Ce.ok (⟨3,0,[x]⟩,l.drop (s+1)) (by rw [hT,show x=93 from Cf aS,A2c]) rfl ⟨_,rfl,oO,⟨cc,cd⟩,cf⟩
 have c5:=dF aF
 refine A4<|A1 (.eql rfl rfl)<|A8 rfl<|Ai rfl (λaG=>?_) (λaG=>?_)
 have cg:=dT aG
 refine A4<|A3 rfl<|A1 (.nck rfl)<|A1 (.fa Df rfl BI dD rfl)<|Aj (Ae (C5 _) rfl b rfl)<|A1 (.iis (((s+1:Nat):Int)) (.add rfl rfl (Bb oO)) oO)<|A1 (.nck rfl)<|A1 (.fa Df rfl BI dD rfl)<|BA BI rfl rfl rfl b (by exact Nat.le_of_ble_eq_true rfl) (λdC a8 v eb=>?_)
 have a8:B4 dC r _ _:=a8
 have v:CP r _ _:=v
 have aT:=i.up v
 have ci:=Af.upd j v hne
 have X:=Bs f (Bk v)
 refine A0<|A4<|A3 rfl<|Ch BQ rfl rfl ((Uc r p l c (s+1) _ ⟨a8,ci⟩ hne hc hl oO)) (λdE dG a9 g=>?_) (λdH dG a9 g=>?_)
 have b4:=Bs X (EN g X.size)
 exact Bx (BB dE (by rw [hT,show x=47 from Cf aS,Y0];exact a9) b4)
 obtain ⟨kr,a3,a4,g⟩:=g
 have cj:=g.1.1
 have ck:=Gd aT g.2 aT.lt oO
 have cl:=g.1.2
 have cm:=Bs X (EN g.2 X.size)
 have D:=a9
 obtain ⟨a0,aJ⟩:=eX dH
 refine Az rfl rfl ck BC rfl rfl (λeG bE aa ec=>?_)
 have cn:=cj.up aa
 have co:=Cy cl aa d
 have cq:=Bs cm (DC aa oO)
 refine A0<|AU (BD rfl rfl (Ba bE DP rfl BC)  ?_)
 exact Ce.ok _ (by rw [hT,show x=47 from Cf aS,Y0];exact D) rfl ⟨_,a3,a4,⟨cn,co⟩,cq⟩
 have cg:=dF aG
 refine As<|A4<|A3 rfl<|Au (MS r p l c s _ ⟨b,j⟩ hne hc hl oO) (λeH Y=>?_)
 have cr:=Y.1.1
 have ct:=Gd i Y.2 i.lt oO
 have aU:=Y.1.2
 have aV:=Bs f (EN Y.2 f.size)
 refine A8 rfl<|Ad ?_
 obtain ⟨T,cR⟩:=eX (FC ((l.drop s).takeWhile D1))
 have hX:Lk (l.drop n)=if T.e≠0 then .error T.e else if T.ok then .ok (⟨T.kind,T.n,[]⟩,l.drop (Bq l s)) else HG 3 (l.drop s):=by rw [hT,Wm _ oO oO oO oO oO oO oO oO oO,hx,<- Aw bd,<- Kn,cR];rfl
 have ed:∀ w,Cl 160 #[.string (bs ((l.drop s).takeWhile D1))] w T.val:=λw=>by rw [cR];exact Rc _ w
 refine An<|A3 rfl<|Au (ed _) (λeI a1=>?_)
 have aW:=cr.bl a1
 have aX:=ct.bl a1
 have aY:=Fh aU a1 (λh0=>aU.lt h0)
 have aZ:=Bs aV (EN (Fb a1) aV.size)
 refine A3 rfl<|A1 (.ext rfl rfl)<|A1 (.ext rfl rfl)<|A1 (.ext rfl rfl)<|Bm GY rfl (λeJ ey a2 bG P ee=>?_)
 have cu:=Bt a2 aW.lt
 have cv:=aW.un P cu
 have cw:=Bt a2 aX.lt
 have cy:=aX.un P cw
 have aD:=λh0=>a2▸aY.lt h0
 have cz:=Cy aY P aD
 have b5:=CW a2 aZ.size
 have cA:=Bs aZ (DC P b5)
 refine Az rfl rfl bG BC rfl rfl (λeK bH Q ef=>?_)
 have a':=cv.up Q
 have b0:=cy.up Q
 have aC:=Cy cz Q aD
 have y:=Bs cA (DC Q oO)
 refine CL rfl<|A8 rfl<|Ad<|AT<|A4<|A3 rfl<|A1 (.neq rfl rfl)<|A8 rfl<|Ai rfl (λaH=>?_) (λaH=>?_)
 have cB:=ndT aH
 refine An<|A3 rfl<|A1 (.mkI MM rfl)<|G4 rfl (Bx ?_)
 exact BB T.e (by rw [hX,A5 aS]) y
 have cB:=ndF aH
 refine A4<|A3 rfl<|A8 rfl<|Ai rfl (λdI=>?_) (λdI=>?_)
 refine A4<|Aj (Bd rfl bH DP rfl BC)<|Az rfl rfl b0 BC rfl rfl (λeL bI ab eg=>?_)
 have cC:=a'.up ab
 have cD:=Cy aC ab d
 have cE:=Bs y (DC ab oO)
 refine A0<|AU (BD rfl rfl (Ba bI DP rfl BC)  ?_)
 exact Ce.ok (⟨T.kind,T.n,[]⟩,l.drop (Bq l s)) (by rw [hX,A2 (λh=>h aS),A5 aS]) rfl ⟨_,rfl,cQ.2,⟨cC,cD⟩,cE⟩
 refine As<|A4<|A3 rfl<|Ch BQ rfl rfl ((MT 3 _ _ (by have:=Ov l s;omega))) (λdJ dK ac B=>?_) (λdL dK ac B=>?_)
 have b6:=Bs y (EN (Fb B) y.size)
 exact Bx (BB dJ (by rw [hX,A2 (λh=>h aS),A2 (bF aS)];exact N7 ac) b6)
 have cF:=a'.bl B
 have cG:=b0.bl B
 have cH:=Fh aC B (λh0=>aC.lt h0)
 have cI:=Bs y (EN (Fb B) y.size)
 obtain ⟨a0,aJ⟩:=eX dL
 have D:=ac
 refine Az rfl rfl cG BC rfl rfl (λeM bJ ad eh=>?_)
 have cJ:=cF.up ad
 have cK:=Cy cH ad d
 have cL:=Bs cI (DC ad oO)
 refine A0<|AU (BD rfl rfl (Ba bJ DP rfl BC)  ?_)
 exact Ce.ok (_,l.drop (Bq l s)) (by rw [hX,A2 (λh=>h aS),A2 (bF aS),Pe D,Kn]) rfl ⟨_,rfl,cQ.2,⟨cJ,cK⟩,cL⟩
end
section
set_option maxRecDepth 4000
theorem Lm (b1 b2 b5:Nat) (w:World) :
  CallsD Tryz.prog 156 #[ptV b1,ptV b2,ptV b5] .returning w λe u' w'=>u'=.returning/\(∃ v,e=.returned v)/\w'=w:=by
 refine Et func156 rfl ntmps156 bL rfl<|A8 rfl<|A4<|A3 rfl<|A1 (.neNil0 kR rfl)<|A0<|Ay rfl rfl<|As<|D9 (CU rfl ?_)
 exact ⟨⟨_,rfl⟩,rfl⟩
theorem Sy (b1 b2 b5 B:Nat) (x y:Int) (z:ByteArray) (i j k:Int) (w:World) (h1:B4 w b1 #[Ag x,Ag y,.string z] 196) (h2:B4 w b2 #[Ag i] 3) (h5:B4 w b5 #[Ag j] 35) (hB1:B<=b1) (h12:b1<b2) (h25:b2<b5) :
  CallsD Tryz.prog 156 #[ptV b1,ptV b2,ptV b5] (.panicking [{ v:=.iface 35 (Ag k),recovered:=false }]) w
   λe u' w'=>u'=.panicking [{ v:=.iface 35 (Ag k),recovered:=true }]/\(∃ v,e=.returned v) /\
    B4 w' b1 #[Ag 0,Ag 0,.string ⟨#[]⟩] 196/\B4 w' b2 #[Ag 0] 3/\B4 w' b5 #[Ag k] 35/\Below B w w':=by
 refine Et func156 rfl ntmps156 bL rfl ?_
 have o:=Fl (B) w
 refine A8 rfl<|A4<|A3 rfl<|A1 (.neNil kR rfl)<|A0<|BZ rfl rfl<|A4<|A3 rfl<|A1 (.tas MM rfl)<|A3 rfl<|A1 (.ext rfl rfl)<|A1 (.ext rfl rfl)<|CL rfl<|A8 rfl<|Ad<|A4<|A3 rfl<|A1 (.not rfl)<|A0<|Ay rfl rfl ?_
 refine As<|An<|A1 (.buildL (ps:=_) Hy rfl rfl rfl pZ) ?_
 refine A3 rfl<|Az rfl rfl h1 BC rfl rfl (λK g c E=>?_)
 have q:=h2.upd c oM
 have s:=h5.upd c oM
 have t:=BR o oO c
 refine BA BI rfl rfl rfl q (by exact Nat.le_of_ble_eq_true rfl) (λF d a G=>?_)
 have d:B4 F b2 _ _:=d
 have a:CP b2 _ _:=a
 have u:=g.up a
 have C:=s.up a
 have D:=BR t oO a
 refine BA Fd rfl rfl rfl C (by exact Nat.le_of_ble_eq_true rfl) (λH f b J=>?_)
 have f:B4 H b5 _ _:=f
 have b:CP b5 _ _:=b
 have h:=u.up b
 have l:=d.up b
 have m:=BR D oO b
 refine A0<|D9 (CU rfl ?_)
 exact ⟨⟨_,rfl⟩,h,l,f,m⟩
theorem Wu (a:Int) (p:Option Addr) (l:l8_) (c:Nat) (w:World) (hb:Af w p l) (hc:l.length<=c) (hl:l.length<=100000000) :
    Calls Tryz.prog 132 #[.slice p l.length c,Ag a] w λe w'=>e=.returned (FQ l a).val/\AL w w':=by
  refine Hk func132 rfl ntmps132 bL ?_;refine WD.seq<|An<|Bm GY rfl (λb1 b9 ar a2 a3 b0=>?_);have ax:=λt=>ar▸hb.lt t
  have au:=Cy hb a3 ax;refine Bm z3_ rfl (λb5 ba a4 a5 P b2=>?_);have aG:=Bt a4 a2.lt;have av:=a2.un P aG;have ay:=λt=>a4▸au.lt t
  have aw:=Cy au P ay;refine Bm Sk rfl (λa1 b3 u v g aP=>?_);have az:=Bt u av.lt;have Q:=av.un g az;have aA:=Bt u a5.lt;have T:=a5.un g aA;have ad:=λt=>u▸aw.lt t
  have a6:=Cy aw g ad;have a7:=uB (uB (uB (Dh w) ar a3) a4 P) u g;refine A0<|WD.seq<|FG 15 (decide (a<0\/(l.length:Int)<a)) ?_ ?_;refine An<|A3 rfl<|A1 (.lss rfl rfl)<|A3 rfl<|Cc rfl rfl rfl (λd=>?_) (λd=>?_)
  · have aB := dF d
    refine A3 rfl<|AE d<|A3 rfl<|AE d<|A1 (.lenS B1 rfl)<|AE d<|A1 (.gtr rfl rfl)<|A1 (.pkF rfl d rfl)<|A0<|?_;exact ⟨GC (DI rfl (by (apply B3.2;(try simp only [AG,CD,BE,AI,Bg,BV,Dj,false_iff,iff_false,true_iff,iff_true]);omega))),rfl⟩
  have aB:=dT d;refine B6 d<|B6 d<|B6 d<|A1 (.pkT rfl d rfl)<|A0<|?_;exact ⟨GC (DI rfl (by (apply B3.2;(try simp only [AG,CD,BE,AI,Bg,BV,Dj,false_iff,iff_false,true_iff,iff_true]);omega))),rfl⟩;refine TG rfl (λaC=>?_) (λaC=>?_)
  · skip
    refine A4<|A1 (.buildL (ps:=_) Hy rfl rfl rfl pZ) ?_;refine Az rfl rfl Q BC rfl rfl (λbb ae x aQ=>?_);refine C2 (T.up x) BI (λbc af y aR=>?_);refine C2 ((v.up x).up y) Fd (λbd ag A aS=>?_);refine A0<|AU ?_;exact FI (CM rfl rfl rfl rfl (Ba ((ae.up y).up A) DP rfl BC) (B2 (af.up A) (C5 _) rfl) (B2 ag (Eh _) rfl)) ⟨AQ (by unfold FQ;rw [A5 oO];(first | done | rfl)),(BR (BR (BR a7 oO x) oO y) oO A)⟩
  obtain ⟨n,rfl⟩:=Int.eq_ofNat_of_zero_le (a:=a) oO;have hN:FQ l (n:Int)=X4 l (Lk (l.drop n)):=by unfold FQ;rw [A2 oO];rfl
  refine As<|WD.defer rfl rfl<|NN<|A4<|A3 rfl<|A3 rfl<|?_;refine A1 (.buildL (ps:=_) A2Q rfl rfl rfl pS) ?_;refine WL.box rfl rfl (λaH b4 j ah f aT=>?_);have aD:=Bt j Q.lt;have B:=Q.un f aD;have aE:=Bt j T.lt;have C:=T.un f aE;have aF:=Bt j v.lt;have D:=v.un f aF;have ai:=λt=>j▸a6.lt t
  have E:=uB a7 j f;refine A8 rfl<|A4<|A3 rfl<|Ch BQ rfl rfl ((Ub aH p l c n _ ⟨ah,(Cy a6 f ai)⟩ (λt=>by have:=hb.lt t;omega) hc hl oO)) (λaI aJ F b=>?_) (λaK aJ F b=>?_);exact HQ VR (λw'=>_) (Sy b1 b5 a1 w.heap.size _ _ _ _ _ aI _ (Gd B b B.lt oO) (Gd C b C.lt oO) (Gd D b D.lt oO) oO oO oO)
    (λw' hS=>⟨_,CM rfl rfl rfl rfl (Ba hS.1 DP rfl BC) (B2 hS.2.1 (C5 _) rfl) (B2 hS.2.2.1 (Eh _) rfl),AQ (by rw [hN,F];(first | done | rfl)),(Ex E (B8.below b E.size oO)).trans hS.2.2.2⟩)
  obtain ⟨kr,aL,a8,b⟩:=b;have a9:=F;obtain ⟨t0,rest⟩:=aK;obtain rfl:rest=l.drop kr:=aL;refine Az rfl rfl (Gd B b.2 B.lt oO) BC rfl rfl (λbe aj h aU=>?_);refine A0<|Ad<|LN<|F2 8 rfl BS (λbf k=>?_);have m:=aj.drew k;have U:=((Gd C b.2 C.lt oO).up h).drew k;have V:=((Gd D b.2 D.lt oO).up h).drew k;have X:=(b.1.1.up h).drew k;have a0:=Cn.below (BR (Ex E (B8.below b.2 E.size oO)) oO h) k;refine AB 1 rfl (.mv rfl) rfl<|AB 2 rfl (.nck rfl) rfl<|AB 3 rfl (.fa Df rfl BI dD rfl) rfl<|Ct 0 rfl 4 rfl ?_ ?_;refine Aj (Bd rfl m DP rfl BC)<|A0<|Ct 4 rfl 5 rfl ?_ ?_;refine Aj (Ae (C5 _) rfl X rfl)<|A0<|Ao 5 rfl<|Az rfl rfl m BC rfl rfl (λbg ak G aV=>?_);refine A0<|Ao 6 rfl<|C2 (U.up G) BI (λbh am H aW=>?_);refine A0<|Ao 7 rfl<|C2 ((V.up G).up H) Fd (λbi an J aX=>?_);refine A0<|Be kR<|AU ?_;exact CX.ret VR (λw'=>_) (Lm b1 b5 a1 _)
    (λw' hS=>by subst hS;exact ⟨_,CM rfl rfl rfl rfl (Ba ((ak.up H).up J) DP rfl BC) (B2 (am.up J) (C5 _) rfl) (B2 an (Eh _) rfl),AQ (by rw [hN,a9,N5 _ _ _ a8];(first | done | rfl)),(BR (BR (BR a0 oO G) oO H) oO J)⟩)
  refine Az rfl rfl m BC rfl rfl (λbj ao i aY=>?_);refine A0<|Ao 4 rfl<|Aj (Ae (C5 _) rfl (X.up i) rfl)<|A0<|Ao 6 rfl<|C2 (U.up i) BI (λbk ap K aZ=>?_);refine A0<|Ao 7 rfl<|C2 ((V.up i).up K) Fd (λbl aq L a'=>?_);refine A0<|Be kR<|AU ?_;exact CX.ret VR (λw'=>_) (Lm b1 b5 a1 _)
    (λw' hS=>by subst hS;exact ⟨_,CM rfl rfl rfl rfl (Ba ((ao.up K).up L) DP rfl BC) (B2 (ap.up L) (C5 _) rfl) (B2 aq (Eh _) rfl),AQ (by rw [hN,a9,N5 _ _ _ a8];(first | done | rfl)),(BR (BR (BR a0 oO i) oO K) oO L)⟩)
  refine Aj (Ae (C5 _) rfl X rfl)<|A0<|Ao 0 rfl<|Aj (Bd rfl m DP rfl BC)<|A0<|Ao 5 rfl<|Az rfl rfl m BC rfl rfl (λb6 aa o aM=>?_);refine A0<|Ao 6 rfl<|C2 (U.up o) BI (λb7 ab q aN=>?_);refine A0<|Ao 7 rfl<|C2 ((V.up o).up q) Fd (λb8 ac s aO=>?_);refine A0<|Be kR<|AU ?_;exact CX.ret VR (λw'=>_) (Lm b1 b5 a1 _)
    (λw' hS=>by subst hS;exact ⟨_,CM rfl rfl rfl rfl (Ba ((aa.up q).up s) DP rfl BC) (B2 (ab.up s) (C5 _) rfl) (B2 ac (Eh _) rfl),AQ (by rw [hN,a9,N5 _ _ _ a8];(first | done | rfl)),(BR (BR (BR a0 oO o) oO q) oO s)⟩)
end
end Go.Proofs.YtiddobdioipidaaGreatDoor
