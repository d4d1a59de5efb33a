/-
  What the claim leans on, part 2: pruned and joined by my own tool out of the texts that stand in wip/ as templates.
-/
import Derived.Test.YtiddobdioipidaaGreatDoorTi1
set_option maxHeartbeats 6400000
set_option maxRecDepth 100000
namespace Go.Proofs.YtiddobdioipidaaGreatDoor
open Go.RowKit
open Go.Proofs.Tryz
variable {pa pb:Addr} {aft:Array Edge} {ops:Array Oper} {ats:Array TypeId} {args cs:Array Value} {st:Bool} {Q:Exit->Fr->World->Prop} {f:Fr} {F:FuncId} {D a:Int} {ks:List (List UInt8)} {ns:List Int} {A d l s:List UInt8} {vs xs:List Value} {B M N bf c i id j wk:Nat} {S T:Nat->Prop} {x y:Operand} {dp kp lp p:Option Addr} {P:Program} {pos:String} {α ι:Type} {E e ta tb tx ty:TypeId} {u v z:Value} {w w' w1:World} {S':World->Prop}
section
theorem Of (minus:Bool) (whole rest:l8_) (w:World) (h2:rest.length<=3000) (h3:∀ c∈whole,BW c=true) (h4:∀ c∈rest,BW c=true) :
    Cb 181 #[.bool minus,.string (bs whole),.string (bs rest)] w (.tuple #[Af (Fy minus whole rest).1,.bool (Fy minus whole rest).2]):=by
  by_cases hb:5<(whole.dropWhile (· == 48)).length
  · have hv : Fy minus whole rest = (0, false) := by unfold Fy Wb; rw [A7 hb]
    rw [hv]
    exact Rz minus whole rest w hb
  · exact Ry minus whole rest w oO h2 h3 h4
def KF (l:l8_):Int × Bool :=
 if GK (B6 l).2 then
  (if (Fy (B6 l).1 (Ch (B6 l).2).1 (Ch (B6 l).2).2.1).2 then ((Fy (B6 l).1 (Ch (B6 l).2).1 (Ch (B6 l).2).2.1).1,true) else (0,false))
 else (0,false)
theorem HO (l:l8_):(B6 l).2.length<=l.length:=by
 cases l with
 | nil=>simp [B6]
 | cons c r =>
  simp only [B6]
  split
  · simp
  · split <;> simp
theorem Jn (l:l8_) (h:GK l=true):(∀ c∈(Ch l).1,BW c=true)/\(∀ c∈(Ch l).2.1,BW c=true):=by
 simp only [GK,AE,AN] at h
 exact ⟨h.1.1,h.1.2⟩
theorem QD (l:l8_) (w:World) (hl:64<l.length) :
  Calls Tryz.prog 159 #[.string (bs l)] w λe w'=>e=.returned (.tuple #[Af 0,.bool false])/\w=w':=by
 have hs:=BV l
 go_enter func159,ntmps159
 go_wp2_with fail
 go_ret2
 exact ⟨rfl,rfl⟩
theorem OZ (l:l8_) (w:World) (hl:l.length<=64) :
  Cb 159 #[.string (bs l)] w (.tuple #[Af (KF l).1,.bool (KF l).2]):=by
 have hs:=BV l
 have hS:=λw=>IR l w oO
 have b:=HO l
 have hP:KF l=(if GK (B6 l).2 then (if (Fy (B6 l).1 (Ch (B6 l).2).1 (Ch (B6 l).2).2.1).2 then ((Fy (B6 l).1 (Ch (B6 l).2).1 (Ch (B6 l).2).2.1).1,true) else (0,false)) else (0,false)):=rfl
 generalize B6 l=sr at *
 obtain ⟨m,r⟩:=sr
 simp only at hP hS b
 have hM:=λw=>K2 r w oO
 have c:=K4 r
 have a:=Jn r
 generalize GK r=ok at *
 generalize Ch r=p at *
 obtain ⟨A,B,f⟩:=p
 simp only at hP hM a c
 cases ok with
 | false =>
  rw [A2 dD] at hP
  have HP:=Eb hP;clear hP a
  go_enter func159,ntmps159
  go_wp2_with first | (go_at_call 179;go_must (refine (hS _).mono ?_);rintro e d ⟨rfl,hb1⟩) | (go_at_call 180;go_must (refine (hM _).mono ?_);rintro e g ⟨rfl,hb2⟩)
  go_ret2
  exact ⟨by rw [HP.out];rfl,Ci hb1 hb2⟩
 | true =>
  rw [A7 rfl] at hP
  obtain ⟨hA,hB⟩:=a rfl
  have hV:=λw=>Of m A B w oO hA hB
  have HA:=Eb hA;have HB:=Eb hB;clear a hA hB
  generalize Fy m A B=v at *
  obtain ⟨n,fit⟩:=v
  simp only at hP hV
  have HP:=Eb hP;clear hP
  cases fit
  all_goals
   go_enter func159,ntmps159
   go_wp2_with first | (go_at_call 179;go_must (refine (hS _).mono ?_);rintro e d ⟨rfl,hb1⟩) | (go_at_call 180;go_must (refine (hM _).mono ?_);rintro e g ⟨rfl,hb2⟩) | (go_at_call 181;go_must (refine (hV _).mono ?_);rintro e h ⟨rfl,hb3⟩)
   go_ret2
   exact ⟨by rw [HP.out];rfl,Ci (Ci hb1 hb2) hb3⟩
theorem Mc (digits:l8_) (p:Int) (h:∀ c∈digits,BW c=true):∀ c∈Gj digits p,BW c=true:=by
 intro c hc
 rw [Gj,B9] at hc
 rcases hc with hc | hc
 · exact h c (Eh hc)
 · rw [List.mem_replicate] at hc;rw [hc.2];rfl
theorem Nc (digits:l8_) (p:Int) (h:∀ c∈digits,BW c=true):∀ c∈HQ digits p,BW c=true:=by
 intro c hc
 rw [HQ,B9] at hc
 rcases hc with hc | hc
 · rw [List.mem_replicate] at hc;rw [hc.2];rfl
 · exact h c (H0 hc)
def VO (m:Bool) (o:Option Int):Int × Bool :=
 match o with
 | none=>(0,false)
 | some n=>if Cy (if m then -n else n) then (if m then -n else n,true) else (0,false)
theorem Z0 (l:l8_):KF l=if GK (B6 l).2 then VO (B6 l).1 (Wb (Ch (B6 l).2).1 (Ch (B6 l).2).2.1) else (0,false):=by
 unfold KF
 split
 ·
  unfold Fy VO
  cases Wb (Ch (B6 l).2).1 (Ch (B6 l).2).2.1 with
  | none=>rfl
  | some n =>
   simp only
 · rfl
end
section
def DY (c:UInt8):Nat :=
 if 48<=c.toNat/\c.toNat<=57 then c.toNat-48 else if 97<=c.toNat/\c.toNat<=122 then c.toNat-87 else if 65<=c.toNat/\c.toNat<=90 then c.toNat-55 else 99
theorem A3t (c:UInt8):DY c<=99:=by unfold DY;split <;> (try split) <;> (try split) <;> omega
theorem DS {k:IntKind} {b:Int} (h:a=b):Ending.returned (.int k a)=.returned (.int k b):=by rw [h]
theorem Zt (c:UInt8) (w:World) :
    Calls Tryz.prog 206 #[.int .u8 (c.toNat:Int)] w λe w'=>e=.returned (Af (DY c))/\w=w':=by
  have hc:c.toNat<256:=Cg c
  have hh:DY c=if 48<=c.toNat/\c.toNat<=57 then c.toNat-48 else if 97<=c.toNat/\c.toNat<=122 then c.toNat-87 else if 65<=c.toNat/\c.toNat<=90 then c.toNat-55 else 99:=rfl
  have Hh:=Eb hh;clear hh
  generalize c.toNat=n at *
  by_cases h1:48<=n/\n<=57
  · obtain ⟨b, d⟩ := h1
    go_enter func206,ntmps206
    go_wp2
    go_ret
    exact ⟨DS (by rw [Hh.out,A7 ⟨b,d⟩];omega),rfl⟩
  · have a : n < 48 ∨ 57 < n := by omega
    by_cases h2:97<=n/\n<=122
    · obtain ⟨f, g⟩ := h2
      have H1:=Eb h1;clear h1 a
      go_enter func206,ntmps206
      go_wp2
      go_ret
      exact ⟨DS (by rw [Hh.out,A2 H1.out,A7 ⟨f,g⟩];omega),rfl⟩
    · have h : n < 97 ∨ 122 < n := by omega
      by_cases h3:65<=n/\n<=90
      · obtain ⟨i, j⟩ := h3
        have H1:=Eb h1;have H2:=Eb h2;clear h1 a h2 h
        go_enter func206,ntmps206
        go_wp2
        go_ret
        exact ⟨DS (by rw [Hh.out,A2 H1.out,A2 H2.out,A7 ⟨i,j⟩];omega),rfl⟩
      · have k : n < 65 ∨ 90 < n := by omega
        have H1:=Eb h1;have H2:=Eb h2;have H3:=Eb h3;clear h1 h2 h3
        go_enter func206,ntmps206
        go_wp2
        all_goals
          go_ret
          exact ⟨DS (by rw [Hh.out,A2 H1.out,A2 H2.out,A2 H3.out];rfl),rfl⟩
def J0 (l:l8_):Nat:=l.foldl (λn c=>min (10 * n+(c.toNat-48)) 1099511627776) 0
def FM (l:l8_):Int × Bool :=
 if (B6 l).2.isEmpty || !(B6 l).2.all BW then (0,false)
 else let n:Int:=if (B6 l).1 then -(J0 (B6 l).2:Int) else J0 (B6 l).2
  (n,decide (-2147483648<=n) && decide (n<=2147483647))
def Hf (l:l8_):Int × Bool :=
 if (B6 l).2.isEmpty || decide (3<(B6 l).2.length) || !(B6 l).2.all BW then (0,false)
 else (if (B6 l).1 then -(Cv (B6 l).2:Int) else Cv (B6 l).2,true)
theorem VX (l:l8_) (c:UInt8):J0 (l++[c])=min (10 * J0 l+(c.toNat-48)) 1099511627776:=by simp [J0]
theorem VW (l:l8_) (k:Nat) (h:k<l.length):J0 (l.take (k+1))=min (10 * J0 (l.take k)+(l[k].toNat-48)) 1099511627776:=by
 rw [Bg h,VX]
theorem VY (l:l8_):∀ n,n<=1099511627776->l.foldl (λn c=>min (10 * n+(c.toNat-48)) 1099511627776) n=min (l.foldl (λn c=>10 * n+(c.toNat-48)) n) 1099511627776:=by
 induction l with
 | nil=>intro n h;simp;omega
 | cons c r ih =>
  intro n h
  rw [EO,EO,ih _ oO]
  by_cases hb:10 * n+(c.toNat-48)<=1099511627776
  · rw [Nat.min_eq_left hb]
  ·
   have a:=Qh r (min (10 * n+(c.toNat-48)) 1099511627776)
   have d:=Qh r (10 * n+(c.toNat-48))
   have b:1<=10 ^ r.length:=Nat.one_le_pow _ _ dD
   have e:min (10 * n+(c.toNat-48)) 1099511627776=1099511627776:=by omega
   rw [e] at a ⊢
   have f:1099511627776 * 1<=1099511627776 * 10 ^ r.length:=Nat.mul_le_mul_left _ b
   have g:1099511627776 * 10 ^ r.length<=(10 * n+(c.toNat-48)) * 10 ^ r.length:=D4 _ oO
   omega
theorem U4 (l:l8_):J0 l=min (Cv l) 1099511627776:=VY l 0 oO
theorem A2U  {b:Int} {c d:Bool} (h:a=b) (h':c=d):Ending.returned (.tuple #[Af a,.bool c])=Ending.returned (.tuple #[Af b,.bool d]):=by rw [h,h']
theorem Oe (l : l8_) (w : World) (hl : l.length ≤ 1000) :
    Cb 183 #[.string (bs l)] w (.tuple #[Af (FM l).1,.bool (FM l).2]):=by
  have hS:=λw=>IR l w oO
  have g:=HO l
  have hW:FM l=(if (B6 l).2.isEmpty || !(B6 l).2.all BW then (0,false) else let n:Int:=if (B6 l).1 then -(J0 (B6 l).2:Int) else J0 (B6 l).2
    (n,decide (-2147483648<=n) && decide (n<=2147483647))):=rfl
  generalize B6 l=sr at *
  obtain ⟨m,r⟩:=sr
  simp only at hW hS g
  have hs:=BV r
  have hT:=Fw
  cases r with
  | nil =>
    have HW:=Eb hW;clear hW
    go_enter func183,ntmps183
    go_wp2_with (go_at_call 179;go_must (refine (hS _).mono ?_);rintro e h ⟨rfl,hb1⟩)
    go_ret2
    exact ⟨by rw [HW.out];rfl,hb1⟩
  | cons c0 r0 =>
    have s:=A1O c0 r0
    have hI:(c0::r0).isEmpty=false:=rfl
    rw [hI,Bool.false_or] at hW
    clear hI hT
    have a:=λw=>FZ (c0::r0) w oO
    generalize c0::r0=r at *
    cases hall:r.all BW with
    | false =>
      rw [hall,A7 dD] at hW
      rw [hall] at a
      have HW:=Eb hW;clear hW hall
      go_enter func183,ntmps183
      go_wp2_with first | (go_at_call 179;go_must (refine (hS _).mono ?_);rintro e h ⟨rfl,hb1⟩) | (go_at_call 203;go_must (refine (a _).mono ?_);rintro e o ⟨rfl,hb2⟩)
      go_ret2
      exact ⟨by rw [HW.out];rfl,Ci hb1 hb2⟩
    | true =>
      rw [hall,A2 dD] at hW
      rw [hall] at a
      have d:∀ c∈r,BW c=true:=AN.1 hall
      have HW:=Eb hW;have Hdig:=Eb d;clear hW d hall
      go_enter func183,ntmps183
      go_wp2_with first | (go_at_call 179;go_must (refine (hS _).mono ?_);rintro e h ⟨rfl,hb1⟩) | (go_at_call 203;go_must (refine (a _).mono ?_);rintro e o ⟨rfl,hb2⟩) | (refine El rfl _ _ _ _ rfl Gk B1 FK _ rfl ?_;intro cap u q f hg t)
      have hb3:=Ci (Ci hb1 hb2) (Fa hg)
      have Hrow:=Eb f;clear f hg hb1 hb2 hS a
      go_loop [5,23] (λn i=>∃ k:Nat,k<=r.length/\i=Af k/\n=Af (J0 (r.take k):Int)) (λ_ i=>r.length-(intOf i).toNat)
      case atStart=>exact ⟨0,FI _,rfl,rfl⟩
      case round =>
        obtain ⟨k,hk,rfl,rfl⟩:=hrel
        have j:J0 (r.take k)<=1099511627776:=by rw [U4];omega
        by_cases hkl:k<r.length
        · have b := VW r k hkl
          have hd:=Et (Hdig.out r[k] (by simp))
          have hc:=(Hrow.out k _ (I1 r k hkl)).1
          have Hstep:=Eb b;clear b
          generalize J0 (r.take k)=N at *
          generalize r[k].toNat=c at *
          go_wp2
          go_round
          case rel=>exact ⟨k+1,oO,by go_num,by rw [Hstep.out];go_num⟩
          case measure=>simp [intOf];omega
        · obtain rfl : k = r.length := by omega
          rw [Dc] at j ⊢
          clear Hrow
          generalize J0 r=N at *
          cases m
          all_goals
            go_wp2
            all_goals
              go_ret2
              refine ⟨?_,hb3⟩
              rw [HW.out]
              refine A2U rfl ?_
              rw [AY]
              simp
              try omega
theorem Zs (l : l8_) (w : World) (hl : l.length ≤ 1000) :
    Cb 185 #[.string (bs l)] w (.tuple #[Af (Hf l).1,.bool (Hf l).2]):=by
  have hS:=λw=>IR l w oO
  have h:=HO l
  have hW:Hf l=(if (B6 l).2.isEmpty || decide (3<(B6 l).2.length) || !(B6 l).2.all BW then (0,false) else (if (B6 l).1 then -(Cv (B6 l).2:Int) else Cv (B6 l).2,true)):=rfl
  generalize B6 l=sr at *
  obtain ⟨m,r⟩:=sr
  simp only at hW hS h
  have hs:=BV r
  have hT:=Fw
  cases r with
  | nil =>
    have HW:=Eb hW;clear hW
    go_enter func185,ntmps185
    go_wp2_with (go_at_call 179;go_must (refine (hS _).mono ?_);rintro e j ⟨rfl,hb1⟩)
    go_ret2
    exact ⟨by rw [HW.out];rfl,hb1⟩
  | cons c0 r0 =>
    have t:=A1O c0 r0
    have hI:(c0::r0).isEmpty=false:=rfl
    rw [hI,Bool.false_or] at hW
    clear hI hT
    have a:=λw=>FZ (c0::r0) w oO
    generalize c0::r0=r at *
    by_cases h3:3<r.length
    · rw [AP h3, Bool.true_or, A7 rfl] at hW
      have HW:=Eb hW;clear hW
      go_enter func185,ntmps185
      go_wp2_with first | (go_at_call 179;go_must (refine (hS _).mono ?_);rintro e j ⟨rfl,hb1⟩) | (go_at_call 203;go_must (refine (a _).mono ?_);rintro e o ⟨rfl,hb2⟩)
      go_ret2
      exact ⟨by rw [HW.out];rfl,hb1⟩
    · rw [AJ h3, Bool.false_or] at hW
      cases hall:r.all BW with
      | false =>
        rw [hall,A7 dD] at hW
        rw [hall] at a
        have HW:=Eb hW;clear hW hall
        go_enter func185,ntmps185
        go_wp2_with first | (go_at_call 179;go_must (refine (hS _).mono ?_);rintro e j ⟨rfl,hb1⟩) | (go_at_call 203;go_must (refine (a _).mono ?_);rintro e o ⟨rfl,hb2⟩)
        go_ret2
        exact ⟨by rw [HW.out];rfl,Ci hb1 hb2⟩
      | true =>
        rw [hall,A2 dD] at hW
        rw [hall] at a
        have d:∀ c∈r,BW c=true:=AN.1 hall
        have HW:=Eb hW;have Hdig:=Eb d;clear hW d hall
        go_enter func185,ntmps185
        go_wp2_with first | (go_at_call 179;go_must (refine (hS _).mono ?_);rintro e j ⟨rfl,hb1⟩) | (go_at_call 203;go_must (refine (a _).mono ?_);rintro e o ⟨rfl,hb2⟩) | (refine El rfl _ _ _ _ rfl Gk B1 FK _ rfl ?_;intro cap v s f hg u)
        have hb3:=Ci (Ci hb1 hb2) (Fa hg)
        have Hrow:=Eb f;clear f hg hb1 hb2 hS a
        have g:∀ k,Cv (r.take k)<1000:=by
          intro k
          have x:=Mk r k
          have y:=HU r Hdig.out
          have A:10 ^ r.length<=10 ^ 3:=Nat.pow_le_pow_right dD oO
          omega
        have Hnat:=Eb g;clear g
        go_loop [5,28] (λn i=>∃ k:Nat,k<=r.length/\i=Af k/\n=Af (Cv (r.take k):Int)) (λ_ i=>r.length-(intOf i).toNat)
        case atStart=>exact ⟨0,FI _,rfl,rfl⟩
        case round =>
          obtain ⟨k,hk,rfl,rfl⟩:=hrel
          have q:=Hnat.out k
          by_cases hkl:k<r.length
          · have b := Ho r k hkl
            have hd:=Et (Hdig.out r[k] (by simp))
            have hc:=(Hrow.out k _ (I1 r k hkl)).1
            have Hstep:=Eb b;clear b
            generalize Cv (r.take k)=N at *
            generalize r[k].toNat=c at *
            go_wp2
            go_round
            case rel=>exact ⟨k+1,oO,by go_num,by rw [Hstep.out];go_num⟩
            case measure=>simp [intOf];omega
          · obtain rfl : k = r.length := by omega
            rw [Dc] at q ⊢
            clear Hrow Hnat
            generalize Cv r=N at *
            cases m
            all_goals
              go_wp2
              go_ret2
              exact ⟨by rw [HW.out];rfl,hb3⟩
theorem W4 (c:UInt8) (k:Nat):Lib.repeatL [c] k=List.replicate k c:=by
 induction k with
 | zero=>rfl
 | succ k ih=>rw [Lib.repeatL,ih];rfl
theorem A43 (k:Nat) (w:World) (hk:k<=100000) :
  Cb 208 #[.string ⟨#[48]⟩,Af k] w (.string (bs (List.replicate k 48))):=by
 rw [<- W4]
 exact Tryz.strings_Repeat ⟨#[48]⟩ k w oO (by show 1 * k<=_;omega)
theorem W2 {a b a' b':ByteArray} (h1:a=a') (h2:b=b'):Ending.returned (.tuple #[.string a,.string b])=Ending.returned (.tuple #[.string a',.string b']):=by
 rw [h1,h2]
theorem SC (A B:l8_) (k:Int) (w:World) (hA:A.length+B.length<=1000) (hk:-2000<=k) (hk2:k<=2000) :
    Calls Tryz.prog 186 #[.string (bs A),.string (bs B),Af k] w λe w'=>e=.returned (.tuple #[.string (bs (Gj (A++B) (A.length+k))),.string (bs (HQ (A++B) (A.length+k)))])/\AL w w':=by
  have sA:=BV A
  have sB:=BV B
  have j:=EB A B
  have o:(bs (A++B)).size=A.length+B.length:=by rw [BV];simp
  have a:(A++B).length=A.length+B.length:=by simp
  by_cases h1:(A.length:Int)+k<0
  · have hZ := fun w => A43 (-((A.length : Int) + k)).toNat w oO
    have h:(((-((A.length:Int)+k)).toNat:Nat):Int)=-((A.length:Int)+k):=by omega
    rw [h] at hZ
    have eW:Gj (A++B) (A.length+k)=[]:=by
      unfold Gj
      have:((A.length:Int)+k).toNat=0:=by omega
      rw [this];simp
    have eR:HQ (A++B) (A.length+k)=List.replicate (-((A.length:Int)+k)).toNat 48++(A++B):=by
      unfold HQ
      have:((A.length:Int)+k).toNat=0:=by omega
      rw [this];rfl
    have d:=BV (List.replicate (-((A.length:Int)+k)).toNat (48:UInt8))
    rw [CT] at d
    have l:(bs (List.replicate (-((A.length:Int)+k)).toNat (48:UInt8))).size<=3000:=by rw [d];omega
    have EW:=Eb eW;have ER:=Eb eR;clear eW eR h d
    generalize List.replicate (-((A.length:Int)+k)).toNat (48:UInt8)=Z at *
    have c:=EB Z (A++B)
    have Hcat2:=Eb c;clear c a
    generalize A++B=C at *
    go_enter func186,ntmps186
    go_wp2_with (go_at_call 208;go_must (refine (hZ _).mono ?_);rintro e m ⟨rfl,hb1⟩)
    go_ret2
    exact ⟨W2 (by rw [EW.out];rfl) (by rw [ER.out];exact Hcat2.out),hb1⟩
  · by_cases h2 : (A.length : Int) + (B.length : Int) < (A.length : Int) + k
    · have hZ := fun w => A43 (((A.length : Int) + k) - ((A.length : Int) + (B.length : Int))).toNat w oO
      have h:(((((A.length:Int)+k)-((A.length:Int)+(B.length:Int))).toNat:Nat):Int)=((A.length:Int)+k)-((A.length:Int)+(B.length:Int)):=by omega
      rw [h] at hZ
      have b:(A++B++List.replicate (((A.length:Int)+k)-((A.length:Int)+(B.length:Int))).toNat (48:UInt8)).length=((A.length:Int)+k).toNat:=by
        simp;omega
      have eW:Gj (A++B) (A.length+k)=A++B++List.replicate (((A.length:Int)+k)-((A.length:Int)+(B.length:Int))).toNat 48:=by
        unfold Gj
        rw [An (by rw [a];omega)]
        congr 2;rw [a];omega
      have eR:HQ (A++B) (A.length+k)=[]:=by
        unfold HQ
        have:(-((A.length:Int)+k)).toNat=0:=by omega
        rw [this,Bv (by rw [a];omega)];rfl
      have d:(bs (List.replicate (((A.length:Int)+k)-((A.length:Int)+(B.length:Int))).toNat (48:UInt8))).size<=3000:=by rw [BV];simp;omega
      have EW:=Eb eW;have ER:=Eb eR;clear eW eR
      generalize List.replicate (((A.length:Int)+k)-((A.length:Int)+(B.length:Int))).toNat (48:UInt8)=Z at *
      have c:=EB (A++B) Z
      have i:=BV (A++B++Z)
      have f:=Qy (A++B++Z) ((A.length:Int)+k).toNat
      have g:=Qz (A++B++Z) ((A.length:Int)+k).toNat ((A.length:Int)+k).toNat b.symm
      rw [<- b,Dc,b] at f
      rw [<- b,JJ,b] at g
      rw [b] at i
      clear h a
      have q:((((A.length:Int)+k).toNat:Nat):Int)=(A.length:Int)+k:=by omega
      generalize A++B=C at *
      generalize C++Z=D at *
      clear b
      go_enter func186,ntmps186
      go_wp2_with (go_at_call 208;go_must (refine (hZ _).mono ?_);rintro e m ⟨rfl,hb1⟩)
      have X1:=Eb f;have X2:=Eb g;clear f g
      go_quiet (fail)
      go_wp2
      go_ret2
      exact ⟨W2 (by rw [EW.out];exact X1.out) (by rw [ER.out];rfl),hb1.trans (Oj _ _ |>.mono hb1.size)⟩
    · have eW : Gj (A ++ B) (A.length + k) = (A ++ B).take ((A.length : Int) + k).toNat := by
        unfold Gj
        rw [show ((A.length:Int)+k).toNat-(A++B).length=0 from by rw [a];omega];simp
      have eR:HQ (A++B) (A.length+k)=(A++B).drop ((A.length:Int)+k).toNat:=by
        unfold HQ
        have:(-((A.length:Int)+k)).toNat=0:=by omega
        rw [this];rfl
      have f:=Qy (A++B) ((A.length:Int)+k).toNat
      have g:=Qz (A++B) ((A.length:Int)+k).toNat (A.length+B.length) a.symm
      have EW:=Eb eW;have ER:=Eb eR;have X1:=Eb f;have X2:=Eb g;clear eW eR f g a
      generalize A++B=C at *
      go_enter func186,ntmps186
      go_wp2_with fail
      go_quiet (fail)
      go_wp2
      go_ret2
      exact ⟨W2 (by rw [EW.out];exact X1.out) (by rw [ER.out];exact X2.out),Oj _ _⟩
end
section
theorem Ny  {W:World} (hb:AL W w1):(∀ b o,b<W.heap.size->w1.cell? ⟨b,o,none⟩=W.cell? ⟨b,o,none⟩)/\(∀ b o,b<W.heap.size->w1.frozen? ⟨b,o,none⟩=W.frozen? ⟨b,o,none⟩) :=
 ⟨λb o h=>hb.cell (p:=⟨b,o,none⟩) h,λb o h=>hb.frozen (p:=⟨b,o,none⟩) h⟩
theorem Fb  {o:Obj} (hb:Below (w.alloc o).heap.size (w.alloc o) w1):AL w w1 :=
 ((Gb _ _).alloc (DP _) o).trans (hb.mono (by simp))
theorem GO {w w1:World} (hb:AL w w1) (a b c:Value):AL w (((w1.setCell ⟨w.heap.size,0,none⟩ a).setCell ⟨w.heap.size,1,none⟩ b).setCell ⟨w.heap.size,2,none⟩ c) :=
 ((hb.setCell (p:=⟨w.heap.size,0,none⟩) (DP _) _).setCell (p:=⟨w.heap.size,1,none⟩) (DP _) _).setCell (p:=⟨w.heap.size,2,none⟩) (DP _) _
def I0 (x:UInt8):l8_->l8_ × l8_ × Bool
 | []=>([],[],false)
 | c::r=>if c=x then ([],r,true) else (c::(I0 x r).1,(I0 x r).2)
theorem Vb (x:UInt8) (B:l8_):∀ A:l8_,x ∉ A->I0 x (A++x::B)=(A,B,true)
 | [],_=>by simp [I0]
 | c::A,h=>by
  simp only [A6,not_or] at h
  have ih:=Vb x B A h.2
  simp [I0,ih,Ne.symm h.1]
theorem TC (x:UInt8):∀ l:l8_,x ∉ l->I0 x l=(l,[],false)
 | [],_=>rfl
 | c::l,h=>by
  simp only [A6,not_or] at h
  have ih:=TC x l h.2
  simp [I0,ih,Ne.symm h.1]
theorem Vc (x:UInt8) (l:l8_):(I0 x l).1.length+(I0 x l).2.1.length<=l.length:=by
 induction l with
 | nil=>simp [I0]
 | cons c r ih=>unfold I0;split <;> simp;omega
theorem XH (x:UInt8) (l:l8_) (w:World) (hl:l.length<=100000000) :
  Cb 202 #[.string (bs l),.string ⟨#[x]⟩] w (.tuple #[.string (bs (I0 x l).1),.string (bs (I0 x l).2.1),.bool (I0 x l).2.2]):=by
 by_cases h:x∈l
 ·
  obtain ⟨A,B,rfl,hA⟩:=PE x l h
  rw [Vb x B A hA];exact Vd A B x w hl hA
 · rw [TC x l h];exact Y6 l x w h
structure FU where
 kind:Int
 n:Int
 ok:Bool
 e:Int
def FU.val (t:FU):Value:=.tuple #[.agg #[Af t.kind,Af t.n,.string ⟨#[]⟩],.bool t.ok,Af t.e]
def Cw:FU:=⟨0,0,false,0⟩
def Gc:FU:=⟨0,0,true,9⟩
def H8 (n:Int):FU:=⟨1,n,true,0⟩
def Lk (n:Int):FU:=⟨2,n,true,0⟩
def F7 (base:Nat):l8_->Nat->Bool->Option (Nat × Bool)
 | [],n,over=>some (n,over)
 | c::r,n,over=>if base<=DY c then none else if 4294967296<=n * base+DY c then F7 base r 0 true else F7 base r (n * base+DY c) over
def Ge:Option (Nat × Bool)->FU
 | none=>Cw
 | some (n,over)=>if over then Gc else H8 (if 2147483648<=n then (n:Int)-4294967296 else n)
def J5 (l:l8_):Bool:=(I0 35 l).2.2 && !(I0 35 l).1.isEmpty && decide ((I0 35 l).1.length<=2) && (I0 35 l).1.all BW && !(I0 35 l).2.1.isEmpty
theorem RB (l:l8_) (w:World) (hl:l.length<=1000) (hno:J5 l=false) :
    Cb 182 #[.string (bs l)] w Cw.val:=by
  have hC:=λw=>XH 35 l w oO
  have k:=Vc 35 l
  unfold J5 at hno
  generalize I0 35 l=p at *
  obtain ⟨A,B,f⟩:=p
  simp only at hno hC k
  have sA:=BV A
  cases f with
  | false =>
    clear hno
    go_enter func182,ntmps182
    go_wp2_with (go_at_call 202;go_must (refine (hC _).mono ?_);rintro e i ⟨rfl,hb1⟩;obtain ⟨b,d⟩:=Ny hb1;have a:=hb1.size;simp at a;replace a:=D5 a)
    exact Cu (v:=Cw.val) (by simp [results,Tryz.results182,go_sem,b,FU.val,Cw]) rfl ⟨rfl,GO (Fb hb1) _ _ _⟩
  | true =>
    simp only [E3] at hno
    have sB:=BV B
    have hT:=Fw
    by_cases hA0:A.isEmpty=true
    · obtain rfl : A = [] := by simpa using hA0
      clear hno hA0
      go_enter func182,ntmps182
      go_wp2_with (go_at_call 202;go_must (refine (hC _).mono ?_);rintro e i ⟨rfl,hb1⟩;obtain ⟨b,d⟩:=Ny hb1;have a:=hb1.size;simp at a;replace a:=D5 a)
      exact Cu (v:=Cw.val) (by simp [results,Tryz.results182,go_sem,b,FU.val,Cw]) rfl ⟨rfl,GO (Fb hb1) _ _ _⟩
    · have c : A.isEmpty = false := by simpa using hA0
      have s:(bs A).toList.isEmpty=false:=by rw [Fw];exact c
      rw [c] at hno
      by_cases hA2:2<A.length
      · clear hno hA0 c hT
        go_enter func182,ntmps182
        go_wp2_with (go_at_call 202;go_must (refine (hC _).mono ?_);rintro e i ⟨rfl,hb1⟩;obtain ⟨b,d⟩:=Ny hb1;have a:=hb1.size;simp at a;replace a:=D5 a)
        exact Cu (v:=Cw.val) (by simp [results,Tryz.results182,go_sem,b,FU.val,Cw]) rfl ⟨rfl,GO (Fb hb1) _ _ _⟩
      · have g := fun w => FZ A w oO
        cases hall:A.all BW with
        | false =>
          rw [hall] at g
          clear hno hA0 c hall hT
          go_enter func182,ntmps182
          go_wp2_with first | (go_at_call 202;go_must (refine (hC _).mono ?_);rintro e i ⟨rfl,hb1⟩;obtain ⟨b,d⟩:=Ny hb1;have a:=hb1.size;simp at a;replace a:=D5 a) | (go_at_call 203;go_must (refine (g _).mono ?_);rintro e q ⟨rfl,hb2⟩;obtain ⟨h,m⟩:=Ny hb2;have o:=hb2.size)
          exact Cu (v:=Cw.val) (by simp [results,Tryz.results182,go_sem,b,h,a,FU.val,Cw]) rfl ⟨rfl,GO (Ci (Fb hb1) hb2) _ _ _⟩
        | true =>
          rw [hall] at g hno
          have j:decide (A.length<=2)=true:=by simp;omega
          rw [j] at hno
          obtain rfl:B=[]:=by simpa using hno
          have t:(bs []).toList.isEmpty=true:=by rw [Fw];rfl
          clear hno hA0 c hall j hT
          go_enter func182,ntmps182
          go_wp2_with first | (go_at_call 202;go_must (refine (hC _).mono ?_);rintro e i ⟨rfl,hb1⟩;obtain ⟨b,d⟩:=Ny hb1;have a:=hb1.size;simp at a;replace a:=D5 a) | (go_at_call 203;go_must (refine (g _).mono ?_);rintro e q ⟨rfl,hb2⟩;obtain ⟨h,m⟩:=Ny hb2;have o:=hb2.size)
          exact Cu (v:=Cw.val) (by simp [results,Tryz.results182,go_sem,b,h,a,FU.val,Cw]) rfl ⟨rfl,GO (Ci (Fb hb1) hb2) _ _ _⟩
theorem Cj  {a b c:Value} {t:TypeId} (hb:Below (w.alloc (.cells #[a,b,c] t)).heap.size (w.alloc (.cells #[a,b,c] t)) w') :
  w'.cell? ⟨w.heap.size,0,none⟩=some a/\w'.cell? ⟨w.heap.size,1,none⟩=some b/\w'.cell? ⟨w.heap.size,2,none⟩=some c /\
  w'.frozen? ⟨w.heap.size,0,none⟩=false/\w'.frozen? ⟨w.heap.size,1,none⟩=false/\w'.frozen? ⟨w.heap.size,2,none⟩=false:=by
 have d:w.heap.size<(w.alloc (.cells #[a,b,c] t)).heap.size:=by simp
 rw [hb.cell (p:=⟨w.heap.size,0,none⟩) d,hb.cell (p:=⟨w.heap.size,1,none⟩) d,hb.cell (p:=⟨w.heap.size,2,none⟩) d,hb.frozen (p:=⟨w.heap.size,0,none⟩) d,hb.frozen (p:=⟨w.heap.size,1,none⟩) d,hb.frozen (p:=⟨w.heap.size,2,none⟩) d]
 refine ⟨?_,?_,?_,?_,?_,?_⟩ <;> go_simp
theorem PS (base:Nat) (B:l8_) (k n:Nat) (over:Bool) (h:k<B.length) :
  F7 base (B.drop k) n over=if base<=DY B[k] then none else if 4294967296<=n * base+DY B[k] then F7 base (B.drop (k+1)) 0 true else F7 base (B.drop (k+1)) (n * base+DY B[k]) over:=by
 rw [Aw h];rfl
def KC (A B:l8_):FU:=if Cv A<2\/36<Cv A then Cw else Ge (F7 (Cv A) B 0 false)
theorem RA (l A B : l8_) (w : World) (hl : l.length ≤ 1000) (hcut : I0 35 l = (A, B, true)) (hA0 : A ≠ []) (hA2 : A.length ≤ 2) (hall : A.all BW = true) (hB0 : B ≠ []) :
    Calls Tryz.prog 182 #[.string (bs l)] w λe w'=>e=.returned (KC A B).val/\AL w w':=by
  have hC:=λw=>XH 35 l w oO
  have F:=Vc 35 l
  rw [hcut] at hC F
  simp only at hC F
  clear hcut
  have sA:=BV A
  have sB:=BV B
  have M:(bs A).toList.isEmpty=false:=by rw [Fw];cases A <;> simp at *
  have O:(bs B).toList.isEmpty=false:=by rw [Fw];cases B <;> simp at *
  have x:=λw=>FZ A w oO
  rw [hall] at x
  have q:∀ c∈A,BW c=true:=AN.1 hall
  have y:∀ k,Cv (A.take k)<100:=by
    intro k
    have h1:=Mk A k
    have h2:=HU A q
    have h4:10 ^ A.length<=10 ^ 2:=Nat.pow_le_pow_right dD hA2
    omega
  have Hdig:=Eb q;have Hnat:=Eb y
  clear hA0 hB0 hall q y
  go_enter func182,ntmps182
  go_wp2_with first | (go_at_call 202;go_must (refine (hC _).mono ?_);rintro e w1 ⟨rfl,hb1⟩;obtain ⟨Q,R⟩:=Ny hb1;have s:=hb1.size;simp at s;replace s:=D5 s) | (go_at_call 203;go_must (refine (x _).mono ?_);rintro e w2 ⟨rfl,hb2⟩;obtain ⟨T,U⟩:=Ny hb2;have V:=hb2.size) | (refine El rfl _ _ _ _ rfl Gk B1 FK _ rfl ?_;intro cap w3 J g hg X)
  have m:Below (w.alloc (Obj.cells #[Value.int .i64 0,Value.int .i64 0,Value.string ⟨#[]⟩] 196)).heap.size (w.alloc (Obj.cells #[Value.int .i64 0,Value.int .i64 0,Value.string ⟨#[]⟩] 196)) w3:=Ci (Ci hb1 hb2) (Fa hg)
  have Hrow:=Eb g
  clear Q R T U hb1 hb2 V g hg hC x M O J X s
  go_loop [8,46] (λn i=>∃ k:Nat,k<=A.length/\i=Af k/\n=Af (Cv (A.take k):Int)) (λ_ i=>A.length-(intOf i).toNat)
  case atStart=>exact ⟨0,FI _,rfl,rfl⟩
  case round =>
    obtain ⟨k,hk,rfl,rfl⟩:=hrel
    have Y:=Hnat.out k
    by_cases hkl:k<A.length
    · have b := Ho A k hkl
      have hd:=Et (Hdig.out A[k] (by simp))
      have hc:=(Hrow.out k _ (I1 A k hkl)).1
      have Hstep:=Eb b;clear b
      generalize Cv (A.take k)=N at *
      generalize A[k].toNat=c at *
      go_wp2
      go_round
      case rel=>exact ⟨k+1,oO,by go_num,by rw [Hstep.out];go_num⟩
      case measure=>simp [intOf];omega
    · obtain rfl : k = A.length := by omega
      rw [Dc] at Y ⊢
      clear Hrow Hnat hkl
      generalize hgN:Cv A=N at *
      have HgN:=Eb hgN;clear hgN
      by_cases hbad:N<2\/36<N
      · have Hbad := Eb hbad
        obtain ⟨t,c1,u,f0,f1,f2⟩:=Cj m
        go_wp2
        all_goals exact Cu (v:=Cw.val) (by simp [results,Tryz.results182,go_sem,t,c1,u,FU.val,Cw]) rfl ⟨by rw [KC,HgN.out,A7 Hbad.out],GO (Fb m) _ _ _⟩
      · have hb2 : 2 ≤ N := by omega
        have A6o:N<=36:=by omega
        have Hbad:=Eb hbad;clear hbad
        go_wp2_with (refine El rfl _ _ _ _ rfl Gk B1 FK _ rfl ?_;intro a1 w4 E g hg K)
        have j:=m.trans ((Fa hg).mono m.size)
        obtain ⟨t,c1,u,f0,f1,f2⟩:=Cj j
        have Hrow:=Eb g
        clear g hg E K m
        have C:(if N<2\/36<N then Cw else Ge (F7 N B 0 false))=Ge (F7 N B 0 false):=A2 Hbad.out
        have Hfin:=Eb C;clear C
        go_loop [11,12,67] (λn o i=>∃ (k:Nat) (f:Nat) (ov:Bool),k<=B.length/\i=Af k/\n=Af f/\o=.bool ov/\f<4294967296/\F7 N (B.drop k) f ov=F7 N B 0 false) (λ_ _ i=>B.length-(intOf i).toNat)
        case atStart=>exact ⟨0,0,false,FI _,rfl,rfl,rfl,oO,rfl⟩
        case round =>
          obtain ⟨k,f,ov,hk,rfl,rfl,rfl,a2,G⟩:=hrel
          have Hrr:=Eb G;clear G
          by_cases hkl:k<B.length
          · have b := PS N B k f ov hkl
            have hc:=(Hrow.out k _ (I1 B k hkl)).1
            have hx:=A3t B[k]
            have hD:=λw=>Zt B[k] w
            generalize DY B[k]=d at *
            generalize B[k]=c at *
            obtain ⟨P,hP⟩:=eX (f * N)
            have a3:(f:Int) * (N:Int)=(P:Int):=by rw [hP,Int.natCast_mul]
            have a4:P<=154618822656:=by
              have h:=Nat.mul_le_mul (show f<=4294967296 by omega) A6o
              rw [<- hP] at h;omega
            rw [<- hP] at b
            have Hstep:=Eb b;clear b hP
            by_cases hdN:N<=d
            · go_wp2_with (go_at_call 206; go_must (refine (hD _).mono ?_); rintro e Z ⟨rfl, rfl⟩)
              refine Cu (v:=Cw.val) (by simp [results,Tryz.results182,go_sem,t,c1,u,FU.val,Cw]) rfl ⟨?_,GO (Fb j) _ _ _⟩
              rw [KC,HgN.out,Hfin.out,<- Hrr.out,Hstep.out,A7 hdN];rfl
            · by_cases hov : 4294967296 ≤ P + d
              · have L : (4294967296 : Int) ≤ (P : Int) + (d : Int) := by omega
                have Hov:=Eb hov;clear hov
                go_wp2_with (go_at_call 206;go_must (refine (hD _).mono ?_);rintro e Z ⟨rfl,rfl⟩)
                go_round
                case rel=>exact ⟨k+1,0,true,oO,by go_num,rfl,rfl,oO,by rw [<- Hrr.out,Hstep.out,A2 hdN,A7 Hov.out]⟩
                case measure=>simp [intOf];omega
              · have L : decide ((4294967296 : Int) ≤ (P : Int) + (d : Int)) = false := AJ oO
                have H:P+d<4294967296:=by omega
                have Hov:=Eb hov;have HPd:=Eb H;clear hov H
                go_wp2_with (go_at_call 206;go_must (refine (hD _).mono ?_);rintro e Z ⟨rfl,rfl⟩)
                go_round
                case rel=>exact ⟨k+1,P+d,ov,oO,by go_num,by go_num,rfl,HPd.out,by rw [<- Hrr.out,Hstep.out,A2 hdN,A2 Hov.out]⟩
                case measure=>simp [intOf];omega
          · obtain rfl : k = B.length := by omega
            have D:F7 N B 0 false=some (f,ov):=by
              rw [<- Hrr.out,JJ];rfl
            have Hend:=Eb D;clear D Hrow hkl
            cases ov with
            | true =>
              go_wp2
              refine Cu (v:=Gc.val) (by simp [results,Tryz.results182,go_sem,t,c1,u,FU.val,Gc]) rfl ⟨?_,GO (Fb j) _ _ _⟩
              rw [KC,HgN.out,Hfin.out,Hend.out];rfl
            | false =>
              by_cases a:2147483648<=f
              · have a0 : decide ((2147483648 : Int) ≤ (f : Int)) = true := AP oO
                have Hbig:=Eb a;clear a
                go_wp2
                have a:=Hbig.out
                refine Cu (v:=(H8 ((f:Int)-4294967296)).val) (by simp [results,Tryz.results182,go_sem,t,c1,u,FU.val,H8]) rfl ⟨?_,GO (Fb j) _ _ _⟩
                rw [KC,HgN.out,Hfin.out,Hend.out]
                rw [Ge];simp only [C5,if_false,a];rfl
              · have a0 : decide ((2147483648 : Int) ≤ (f : Int)) = false := AJ oO
                have Hbig:=Eb a;clear a
                go_wp2
                have a:=Hbig.out
                refine Cu (v:=(H8 (f:Int)).val) (by simp [results,Tryz.results182,go_sem,t,c1,u,FU.val,H8]) rfl ⟨?_,GO (Fb j) _ _ _⟩
                rw [KC,HgN.out,Hfin.out,Hend.out]
                rw [Ge];simp only [C5,if_false,a]
def EQ (l:l8_):FU:=if J5 l then KC (I0 35 l).1 (I0 35 l).2.1 else Cw
theorem LL (l:l8_) (w:World) (hl:l.length<=1000) :
  Calls Tryz.prog 182 #[.string (bs l)] w λe w'=>e=.returned (EQ l).val/\AL w w':=by
 unfold EQ
 cases hok:J5 l with
 | false=>exact RB l w hl hok
 | true =>
  unfold J5 at hok
  simp only [AE,AF,BO,List.isEmpty_eq_false_iff] at hok
  obtain ⟨⟨⟨⟨a,b⟩,c⟩,d⟩,f⟩:=hok
  have hc:I0 35 l=((I0 35 l).1,(I0 35 l).2.1,true):=by rw [<- a]
  exact RA l _ _ w hl hc b c d f
end
section
def eE:ByteArray:=⟨#[101,69]⟩
theorem LK:eE.size=2:=rfl
theorem A7k (h:1<eE.size):eE[1]'h=69:=rfl
theorem A3H:eE.extract 2 2=bs []:=rfl
theorem A5l:∀ i (h:i<eE.size),(eE[i]'h).toNat<128:=by
 intro i h
 have a:i<2:=h
 obtain rfl | rfl:i=0\/i=1:=by omega
 · show (101:UInt8).toNat<128;decide
 · show (69:UInt8).toNat<128;decide
def isE (c:UInt8):Bool:=c == 101 || c == 69
theorem WX (r:Nat) (h:128<=r) (h2:r<2048):Utf8.encode (r:Int)=⟨#[UInt8.ofNat (192+r / 64),UInt8.ofNat (128+r % 64)]⟩:=by
 have hv:Utf8.valid (r:Int)=true:=by simp [Utf8.valid];omega
 unfold Utf8.encode
 simp only [hv,if_true,Int.toNat_natCast]
 rw [A2 oO,A7 oO]
theorem V4 (r:Nat) (h2:2048<=r) (h3:Utf8.valid (r:Int)=true):3<=(Utf8.encode (r:Int)).size/\(Utf8.encode (r:Int)).size<=4:=by
 unfold Utf8.encode
 simp only [h3,if_true,Int.toNat_natCast]
 rw [A2 oO,A2 oO]
 split <;> simp [ByteArray.size]
theorem PU  {f:FuncId} {a n:Nat}
  (h:Calls P f args (w.drewN (a+n)) λe w'=>e=.returned v/\w'=w.drewN (a+n)) :
  Calls P f args (w.drewN (a+n)) λe w''=>e=.returned v/\∃ m,w''=w.drewN (a+m) :=
 h.mono λ_ _ ⟨he,hm⟩=>⟨he,n,hm⟩
theorem Rx (c:Int) (w:World) :
  Calls Tryz.prog 49 #[.string ByteArray.empty,.int .u8 c] w λe w'=>e=.returned (Af (-1))/\w'=w :=
 Tryz.strings_IndexByte ByteArray.empty c w
theorem Rv (r:Nat) (w:World) (h:128<=r) (h2:r<2048) :
  Cb 153 #[.string eE,.int .i32 (r:Int)] w (Af (-1)):=by
 have hV:=λw=>(Tryz.utf8_ValidRune (r:Int) w)
 have f:Lib.validRune (r:Int)=true:=by simp [Lib.validRune];omega
 rw [f] at hV
 have a:=WX r h h2
 have hs:(Utf8.encode (r:Int)).size=2:=by rw [a];rfl
 obtain ⟨c,hc⟩:=eX (UInt8.ofNat (128+r % 64))
 have g:c.toNat=128+r % 64:=by rw [hc,UInt8.toNat_ofNat'];omega
 have b:∀ h,(Utf8.encode (r:Int))[1]'h=c:=by rw [a,hc];intro _;rfl
 have l:((69:Int) != (c.toNat:Int))=true:=by rw [bne_iff_ne];omega
 have q:=LK
 have t:=A7k
 have u:=A3H
 have i:((r:Int) == 65533)=false:=by rw [Dw];omega
 have m:decide ((r:Int)<128)=false:=AJ oO
 have j:¬ ((r:Int)<128):=by omega
 have d:(Utf8.encode (r:Int))[1]'(by rw [hs];omega)=c:=b _
 have Hget:=Eb d
 clear hc g a f b d
 generalize eE=s at *
 go_enter func153,ntmps153
 go_wp2_with (go_at_call 169;go_must (refine (hV _).mono ?_);rintro e k ⟨rfl,rfl⟩)
 go_step3
 go_wp2_with fail
 go_loopw [9] (λv wr=>v=Af 1/\wr=k) (λ_ _=>0)
 case atStart=>exact ⟨rfl,rfl⟩
 case round =>
  obtain ⟨rfl,rfl⟩:=hrel
  go_wp2
  go_step3
  go_wp2_with fail
  have b:=Hget.out
  go_quiet (fail)
  go_wp2_with fail
  have o:IntKind.i64.wrap 2=2:=rfl
  go_quiet ((go_at_call 49;exact PU (Rx _ _)))
  go_wp2_with fail
  rw [Exit.noGoto_ret]
  simp (config:={zetaDelta:=true}) only [Exit.inBlock,Exit.then,Exit.noGoto]
  go_ret
  exact ⟨rfl,by simpa using Oj _ _⟩
theorem Qq (r:Nat) (w:World) (h2:2048<=r) (hv:Utf8.valid (r:Int)=true) (h3:r≠65533) :
  Cb 153 #[.string eE,.int .i32 (r:Int)] w (Af (-1)):=by
 have hV:=λw=>(Tryz.utf8_ValidRune (r:Int) w)
 have a:Lib.validRune (r:Int)=true:=by rw [<- hv,AY];simp [Lib.validRune,Utf8.valid];omega
 rw [a] at hV
 have h:r<1114112:=by simp [Utf8.valid] at hv;omega
 obtain ⟨b,c⟩:=V4 r h2 hv
 obtain ⟨z,hz⟩:∃ z:Nat,(Utf8.encode (r:Int)).size=z:=⟨_,rfl⟩
 have l:=LK
 have d:((r:Int) == 65533)=false:=by rw [Dw];omega
 have i:decide ((r:Int)<128)=false:=AJ oO
 have f:¬ ((r:Int)<128):=by omega
 rw [hz] at b c
 clear a hv
 generalize eE=s at *
 go_enter func153,ntmps153
 go_wp2_with (go_at_call 169;go_must (refine (hV _).mono ?_);rintro e g ⟨rfl,rfl⟩)
 go_step3
 go_wp2_with fail
 go_loopw [9] (λv wr=>v=Af ((z:Int)-1)/\wr=g) (λ_ _=>0)
 case atStart=>exact ⟨rfl,rfl⟩
 case round =>
  obtain ⟨rfl,rfl⟩:=hrel
  have j:decide ((z:Int)-1<2)=false:=AJ oO
  have k:¬ ((z:Int)-1<2):=by omega
  go_wp2
  go_ret
  exact ⟨rfl,Gb _ _⟩
theorem Rw (w:World) :
  Cb 153 #[.string eE,.int .i32 65533] w (Af (-1)):=by
 have j:=LK
 have a:=A5l
 have Hasc:=Eb a;clear a
 generalize eE=s at *
 go_enter func153,ntmps153
 go_wp2
 go_loopg [5,6] 2 (λg _ _ wx=>∃ i:Nat,i+g=2/\wx=w.iter s i)
 case atStart=>exact ⟨0,oO,rfl⟩
 case round =>
  obtain ⟨i,f,rfl⟩:=hrel
  cases gk with
  | zero =>
   obtain rfl:i=2:=by omega
   have d:=run_next_end (P:=Tryz.prog) w s 2
   go_wp2
   go_ret
   exact ⟨rfl,by simpa [World.iter] using (Gb w.heap.size w).alloc (DP _) _⟩
  | succ g =>
   have hi:i<s.size:=by omega
   have b:=Hasc.out i hi
   have d:=λty=>run_next_ascii (P:=Tryz.prog) w s i ty hi b
   generalize s[i].toNat=c at *
   have h:((c:Int) == 65533)=false:=by rw [Dw];omega
   go_wp2
   go_roundg g
   case measure=>omega
   case rel=>exact ⟨i+1,oO,rfl⟩
theorem Va (s:ByteArray) (pos:Nat) (h:pos<s.size) (ha:128<=(s[pos]'h).toNat) :
  128<=(Utf8.decode s pos).1/\Utf8.valid ((Utf8.decode s pos).1:Int)=true/\1<=(Utf8.decode s pos).2/\pos+(Utf8.decode s pos).2<=s.size/\∀ j,pos<j->j<pos+(Utf8.decode s pos).2->∀ hj:j<s.size,128<=(s[j]'hj).toNat:=by
 have hn:¬ (s[pos]'h).toNat<128:=by omega
 have hb:=(s[pos]'h).toNat_lt
 have hg:∀ k (hk:pos+k<s.size),s.get! (pos+k)=s[pos+k]'hk:=λk hk=>get_at s (pos+k) hk
 have one:∀ j,pos<j->j<pos+1->∀ hj:j<s.size,128<=(s[j]'hj).toNat:=λj _ _ _=>by omega
 have b:Utf8.valid ((Utf8.runeError:Nat):Int)=true:=by decide
 have a:128<=Utf8.runeError:=by decide
 simp only [Utf8.decode,get_at s pos h,hn,if_false]
 split
 ·
  rename_i h2
  simp only [AE,AF,beq_iff_eq] at h2
  obtain ⟨e,f,c⟩:=h2
  split
  ·
   rename_i h3
   refine ⟨h3,?_,oO,oO,?_⟩
   · simp [Utf8.valid];omega
   ·
    intro j g i hj
    obtain rfl:j=pos+1:=by omega
    rw [hg 1 hj] at c;omega
  · exact ⟨a,b,oO,oO,one⟩
 ·
  split
  ·
   rename_i h2
   simp only [AE,AF,beq_iff_eq] at h2
   obtain ⟨⟨e,f,c⟩,l,d⟩:=h2
   split
   ·
    rename_i h3
    simp only [ge_iff_le,AE,AF] at h3
    refine ⟨oO,h3.2,oO,oO,?_⟩
    intro j g i hj
    obtain rfl | rfl:j=pos+1\/j=pos+2:=by omega
    · rw [hg 1 hj] at c;omega
    · rw [hg 2 hj] at d;omega
   · exact ⟨a,b,oO,oO,one⟩
  ·
   split
   ·
    rename_i h2
    simp only [AE,AF,beq_iff_eq] at h2
    obtain ⟨⟨⟨e,f,c⟩,l,d⟩,o,m⟩:=h2
    split
    ·
     rename_i h3
     simp only [ge_iff_le,AE,AF] at h3
     refine ⟨oO,h3.2,oO,oO,?_⟩
     intro j g i hj
     obtain rfl | rfl | rfl:j=pos+1\/j=pos+2\/j=pos+3:=by omega
     · rw [hg 1 hj] at c;omega
     · rw [hg 2 hj] at d;omega
     · rw [hg 3 hj] at m;omega
    · exact ⟨a,b,oO,oO,one⟩
   · exact ⟨a,b,oO,oO,one⟩
theorem Qr (r:Nat) (w:World) (h:128<=r) (hv:Utf8.valid (r:Int)=true) :
  Cb 153 #[.string eE,.int .i32 (r:Int)] w (Af (-1)):=by
 by_cases h2:r<2048
 · exact Rv r w h h2
 ·
  by_cases h3:r=65533
  · subst h3;exact Rw w
  · exact Qq r w oO hv h3
def Ep:l8_->l8_ × l8_ × Bool
 | []=>([],[],false)
 | c::r=>if isE c then ([],r,true) else (c::(Ep r).1,(Ep r).2)
theorem A1I (l:l8_):(Ep l).1.length+(Ep l).2.1.length<=l.length:=by
 induction l with
 | nil=>simp [Ep]
 | cons c r ih=>unfold Ep;split <;> simp;omega
theorem RC (l:l8_) (h:(Ep l).2.2=true):∃ c,isE c=true/\l=(Ep l).1++c::(Ep l).2.1:=by
 induction l with
 | nil=>simp [Ep] at h
 | cons c r ih =>
  unfold Ep at h ⊢
  by_cases hc:isE c=true
  · simp only [hc,if_true];exact ⟨c,hc,rfl⟩
  ·
   simp only [hc] at h ⊢
   obtain ⟨d,hd,e⟩:=ih h
   refine ⟨d,hd,?_⟩
   show c::r=c::((Ep r).1++d::(Ep r).2.1)
   rw [<- e]
theorem TB (l:l8_) (h:(Ep l).2.2=false):(Ep l).1=l/\(Ep l).2.1=[]:=by
 induction l with
 | nil=>simp [Ep]
 | cons c r ih =>
  unfold Ep at h ⊢
  by_cases hc:isE c=true
  · simp [hc] at h
  ·
   simp only [hc] at h ⊢
   obtain ⟨a,b⟩:=ih h
   exact ⟨by show c::(Ep r).1=c::r;rw [a],b⟩
def A1b (l:l8_):Int:=if (Ep l).2.2 then ((Ep l).1.length:Int) else -1
theorem A1a (l:l8_):Lib.indexAny l eE.data.toList=A1b l:=by
 induction l with
 | nil=>rfl
 | cons c r ih =>
  have a:eE.data.toList.contains c=isE c:=by
   show List.contains [101,69] c=(c == 101 || c == 69)
   by_cases h1:c=101
   · subst h1;rfl
   ·
    by_cases h2:c=69
    · subst h2;rfl
    ·
     rw [beq_false_of_ne h1,beq_false_of_ne h2,List.contains,List.elem,beq_false_of_ne h1]
     show List.elem c [69]=_
     rw [List.elem,beq_false_of_ne h2];rfl
  rw [Lib.indexAny,a,ih]
  unfold A1b
  rw [Ep]
  by_cases hc:isE c=true
  · simp [hc]
  ·
   simp only [hc]
   by_cases h2:(Ep r).2.2=true
   ·
    simp [h2]
    try omega
   · simp [h2]
theorem V6:∀ x:UInt8,128<=x.toNat->eE.data.toList.contains x=false:=by
 intro x hx
 show List.contains [101,69] x=false
 have a:x≠101:=by rintro rfl;exact De hx dD
 have b:x≠69:=by rintro rfl;exact De hx dD
 rw [List.contains,List.elem,beq_false_of_ne a]
 show List.elem x [69]=_
 rw [List.elem,beq_false_of_ne b];rfl
theorem MK (s : ByteArray) (w : World) (h8 : s.size ≤ 8) :
    Cb 184 #[.string s,.string eE] w (Af (Lib.indexAny s.data.toList eE.data.toList)):=by
  have J:eE.toList.isEmpty=false:=by rw [show eE=bs [101,69] from rfl,Fw];rfl
  have Q:=LK
  have E:decide ((8:Int)<(s.size:Int))=false:=AJ oO
  have hU:=λn w=>Tryz.strings_shouldUseASCIISet n w
  have hR:=λc (hc:c<128) w=>Tryz.strings_IndexRune_ascii eE (c:Nat) w oO oO
  have hH:=λr w h hv=>Qr r w h hv
  have m:=λx=>Lib.contains_iff_indexByte eE.data.toList x
  have HC:=Eb V6
  generalize eE=ch at *
  go_enter func184,ntmps184
  go_wp2_with (go_at_call 207;go_must (refine (hU _ _).mono ?_);rintro e f ⟨rfl,rfl⟩;rw [E])
  obtain ⟨B,hB⟩:∃ B,f.heap.size=B:=⟨_,rfl⟩
  have a:(f.iter s 0).heap[B]?=some (.stringIter s 0):=by rw [<- hB];exact World.iter_heap _ _ _
  have F:Below B f (f.iter s 0):=by rw [<- hB];exact (Gb f.heap.size f).alloc (DP _) _
  generalize f.iter s 0=wi at *
  rw [hB]
  have HB:=Eb (show f.heap.size<=B by omega)
  clear hB
  go_loopg [9,10] s.size (λg _ _ wx=>∃ i:Nat,i+g=s.size/\wx.heap[B]?=some (.stringIter s i)/\Below B f wx/\Lib.NoAny s.data.toList ch.data.toList i)
  case atStart=>exact ⟨0,oO,a,F,Lib.NoAny.zero _ _⟩
  case round =>
    obtain ⟨i,K,a,o,v⟩:=hrel
    have HN:=Eb v
    clear v
    cases gk with
    | zero =>
      obtain rfl:i=s.size:=by omega
      have q:=λty=>Lib.run_next_end_at (P:=Tryz.prog) wr B s s.size ty a oO
      go_wp2
      go_ret
      exact ⟨by rw [Lib.indexAny_none (by rw [<- Lib.size_eq];exact HN.out)];rfl,o.mono HB.out⟩
    | succ g =>
      have hi:i<s.size:=by omega
      obtain ⟨x,hx⟩:∃ x:UInt8,s[i]'hi=x:=⟨_,rfl⟩
      have t:s.data.toList[i]?=some x:=by rw [<- hx];exact Lib.data_getElem? s i hi
      by_cases hx128:x.toNat<128
      · have q := fun ty => Lib.run_next_ascii_at (P := Tryz.prog) wr B s i ty a hi (by rw [hx]; exact hx128)
        rw [hx] at q
        have Hx:=Eb t
        have Hit:=Eb (Lib.iterAt_heap wr B s i (i+1) a)
        have Hb2:=Eb (Lib.below_iterAt o (DP B) s (i+1))
        clear t hx a
        have d:=m x
        have l:((x.toNat:Int)).toNat.toUInt8=x:=by simp
        have k:=λw=>hR x.toNat hx128 w
        rw [l] at k
        clear l hR hH m hU
        cases hin:ch.data.toList.contains x
        · rw [hin] at d
          have L:¬ ((0:Int)<=Lib.indexByte ch.data.toList x):=dF d.symm
          clear d
          go_wp2_with (go_at_call 153;go_must (refine (k _).mono ?_);rintro e G ⟨rfl,rfl⟩)
          go_roundg g
          case measure=>omega
          case rel=>exact ⟨i+1,oO,Hit.out,Hb2.out,HN.out.succ Hx.out hin⟩
        · rw [hin] at d
          have M:(0:Int)<=Lib.indexByte ch.data.toList x:=dT d.symm
          clear d
          go_wp2_with (go_at_call 153;go_must (refine (k _).mono ?_);rintro e G ⟨rfl,rfl⟩)
          go_ret
          exact ⟨by rw [Lib.indexAny_hit HN.out Hx.out hin];rfl,Hb2.out.mono HB.out⟩
      · obtain ⟨H, y, N, O, A⟩ := Va s i hi (by rw [hx]; omega)
        have q:=λty=>Lib.run_next_any_at (P:=Tryz.prog) wr B s i ty a hi
        have u:Lib.NoAny s.data.toList ch.data.toList (i+(Utf8.decode s i).2):=by
          intro j b hj hb
          by_cases hji:j<i
          · exact HN.out j b hji hb
          · have C : j < s.size := by omega
            rw [Lib.data_getElem? s j C] at hb
            have hb2:s[j]=b:=C3 hb
            have D:128<=b.toNat:=by
              by_cases hje:j=i
              · subst hje;rw [<- hb2,hx];omega
              · rw [<- hb2];exact A j oO hj C
            exact HC.out b D
        have Hno2:=Eb u
        clear u A t hx hR m hU
        have k:=λw=>hH _ w H y
        generalize (Utf8.decode s i).1=r at *
        generalize (Utf8.decode s i).2=n at *
        have Hit:=Eb (Lib.iterAt_heap wr B s i (i+n) a)
        have Hb2:=Eb (Lib.below_iterAt o (DP B) s (i+n))
        clear a hH y
        go_wp2_with (go_at_call 153;go_must (refine (k _).mono ?_);rintro e G ⟨rfl,hb3⟩)
        go_roundg (s.size-(i+n))
        case measure=>omega
        case rel=>exact ⟨i+n,oO,(hb3.block B (Bd.1 Hit.out).1).trans Hit.out,Hb2.out.trans (hb3.mono (Jg (Bd.1 Hit.out).1)),Hno2.out⟩
theorem Nm (l:l8_) (w:World) (hl:l.length<=1000) :
    Cb 184 #[.string (bs l),.string eE] w (Af (A1b l)):=by
  have hd:(bs l).data.toList=l:=by rw [<- Lib.toList_data,Fw]
  rw [<- A1a]
  by_cases h8:l.length<=8
  · have h := MK (bs l) w (by rw [BV]; exact h8)
    rw [hd] at h;exact h
  · have hz := zero_of_info (P := Tryz.prog) (t := 155) (v := .agg (Array.replicate 256 (.bool false))) (n := 256) kR
    have h:=Tryz.strings_IndexAny_long hz.1 (bs l) eE w (by rw [LK];omega) (by rw [BV];omega) (by rw [BV];omega) (by rw [LK];omega) (by
      intro j b hj
      have a:eE.data.toList=[101,69]:=rfl
      rw [a] at hj
      have hm:=List.mem_of_getElem? hj
      simp only [A6,A5,As] at hm
      rcases hm with rfl | rfl <;> decide)
    rw [hd] at h
    refine h.mono λe w' ⟨c,d⟩=>⟨c,?_⟩
    rw [d]
    exact ((Gb w.heap.size w).alloc (DP _) _).alloc (by simp) _
end
section
def O9 (m:Bool) (p:l8_) (k:Int):FU :=
 if GK p then
  (if (Fy m (Gj ((Ch p).1 ++ (Ch p).2.1) ((Ch p).1.length + k)) (HQ ((Ch p).1 ++ (Ch p).2.1) ((Ch p).1.length + k))).2 then
   Lk (Fy m (Gj ((Ch p).1++(Ch p).2.1) ((Ch p).1.length+k)) (HQ ((Ch p).1++(Ch p).2.1) ((Ch p).1.length+k))).1
  else Gc)
 else Cw
def PR (l:l8_):FU :=
 if (Ep (B6 l).2).2.2 then
  (if (Hf (Ep (B6 l).2).2.1).2 then O9 (B6 l).1 (Ep (B6 l).2).1 (Hf (Ep (B6 l).2).2.1).1 else Cw)
 else O9 (B6 l).1 (B6 l).2 0
def FO (l:l8_):FU :=
 if 64<l.length then Cw
 else if (EQ l).ok then EQ l
 else if (FM l).2 then H8 (FM l).1
 else PR l
theorem Zy  {w0 w2:World} (hb1:AL w0 w1) {o:Obj}
  (hb2:Below (w1.alloc o).heap.size (w1.alloc o) w2):AL w0 w2:=by
 have h:AL w0 (w1.alloc o):=hb1.alloc hb1.size o
 exact h.trans (hb2.mono h.size)
theorem QC (l:l8_) (w:World) (hl:64<l.length) :
  Cb 160 #[.string (bs l)] w Cw.val:=by
 have hs:=BV l
 go_enter func160,ntmps160
 go_wp2_with fail
 exact Cu (v:=Cw.val) (by simp [results,Tryz.results160,go_sem,FU.val,Cw]) rfl ⟨rfl,Fb (Gb _ _)⟩
theorem OW (l:l8_) (w:World) (hl:l.length<=64) (h:(EQ l).ok=true) :
  Calls Tryz.prog 160 #[.string (bs l)] w λe w'=>e=.returned (EQ l).val/\AL w w':=by
 have hs:=BV l
 have hR:=λw=>LL l w oO
 generalize EQ l=R at *
 obtain ⟨k,n,ok,er⟩:=R
 simp only at h
 subst h
 simp only [FU.val] at hR ⊢
 go_enter func160,ntmps160
 go_wp2_with (go_at_call 182;go_must (refine (hR _).mono ?_);rintro e d ⟨rfl,hb1⟩;obtain ⟨b,c1,c,f0,f1,f2⟩:=Cj hb1;have a:=hb1.size;simp at a;replace a:=D5 a)
 refine Cu (v:=.tuple #[.agg #[Af k,Af n,.string ⟨#[]⟩],.bool true,Af er]) (by simp [results,Tryz.results160,go_sem,b,c1,c,a]) rfl ⟨rfl,(GO (Fb hb1) _ _ _).alloc (by simp;omega) _⟩
theorem OV (l:l8_) (w:World) (hl:l.length<=64) (h:(EQ l).ok=false) (h2:(FM l).2=true) :
  Calls Tryz.prog 160 #[.string (bs l)] w λe w'=>e=.returned (H8 (FM l).1).val/\AL w w':=by
 have hs:=BV l
 have hR:=λw=>LL l w oO
 have hW:=λw=>Oe l w oO
 generalize EQ l=R at *
 generalize FM l=V at *
 obtain ⟨k,n,ok,er⟩:=R
 obtain ⟨v,vok⟩:=V
 simp only at h h2
 subst h h2
 simp only [FU.val,H8] at hR hW ⊢
 go_enter func160,ntmps160
 go_wp2_with first | (go_at_call 182;go_must (refine (hR _).mono ?_);rintro e d ⟨rfl,hb1⟩;obtain ⟨b,c1,c,f0,f1,f2⟩:=Cj hb1;have a:=hb1.size;simp at a;replace a:=D5 a) | (go_at_call 183;go_must (refine (hW _).mono ?_);rintro e f ⟨rfl,hb2⟩;replace hb2:=Zy hb1 hb2;clear b c1 c f0 f1 f2;obtain ⟨b,c1,c,f0,f1,f2⟩:=Cj hb2)
 refine Cu (v:=.tuple #[.agg #[Af 1,Af v,.string ⟨#[]⟩],.bool true,Af 0]) (by simp [results,Tryz.results160,go_sem,b,c1,c]) rfl ⟨rfl,GO (Fb hb2) _ _ _⟩
theorem T7 (l:l8_):-1000<=(Hf l).1/\(Hf l).1<=1000:=by
 unfold Hf
 split
 · simp
 ·
  next h =>
  simp only [CO,AF,BO,not_or,Bool.not_eq_false] at h
  obtain ⟨⟨b,c⟩,a⟩:=h
  have d:=HU (B6 l).2 (AN.1 a)
  have e:10 ^ (B6 l).2.length<=10 ^ 3:=Nat.pow_le_pow_right dD oO
  generalize Cv (B6 l).2=N at *
  split
  · simp only;omega
  · simp only;omega
theorem OY (l:l8_) (w:World) (hl:l.length<=64) (h:(EQ l).ok=false) (h2:(FM l).2=false) (h3:(Ep (B6 l).2).2.2=false) :
  Calls Tryz.prog 160 #[.string (bs l)] w λe w'=>e=.returned (O9 (B6 l).1 (B6 l).2 0).val/\AL w w':=by
 have hs:=BV l
 have hR:=λw=>LL l w oO
 have hW:=λw=>Oe l w oO
 have hS:=λw=>IR l w oO
 have j:=HO l
 generalize EQ l=R at *
 generalize FM l=V at *
 generalize B6 l=sr at *
 obtain ⟨k,n,ok,er⟩:=R
 obtain ⟨v,vok⟩:=V
 obtain ⟨m,r⟩:=sr
 simp only at h h2 h3 j hS ⊢
 subst h h2
 simp only [FU.val] at hR hW
 have hI:∀ w,Cb 184 #[.string (bs r),.string ⟨#[101,69]⟩] w (Af (-1)):=λw=>by
  have h:=Nm r w oO
  unfold A1b at h
  rw [h3] at h
  exact h
 have hM:=λw=>K2 r w oO
 have o:=K4 r
 have g:=Jn r
 unfold O9
 generalize GK r=ok at *
 generalize Ch r=pq at *
 obtain ⟨A,B,f⟩:=pq
 simp only at hM g o
 clear h3
 cases ok with
 | false =>
  clear g
  go_enter func160,ntmps160
  go_wp2_with first | (go_at_call 182;go_must (refine (hR _).mono ?_);rintro e s ⟨rfl,hb1⟩;obtain ⟨a,c1,b,f0,f1,f2⟩:=Cj hb1;have d:=hb1.size;simp at d;replace d:=D5 d) | (go_at_call 183;go_must (refine (hW _).mono ?_);rintro e t ⟨rfl,hb2⟩;replace hb2:=Zy hb1 hb2;clear a c1 b f0 f1 f2;obtain ⟨a,c1,b,f0,f1,f2⟩:=Cj hb2) | (go_at_call 179;go_must (refine (hS _).mono ?_);rintro e u ⟨rfl,hb3⟩;replace hb3:=Ci hb2 hb3;clear a c1 b f0 f1 f2;obtain ⟨a,c1,b,f0,f1,f2⟩:=Cj hb3) | (go_at_call 184;go_must (refine (hI _).mono ?_);rintro e x ⟨rfl,hb4⟩;replace hb4:=Ci hb3 hb4;clear a c1 b f0 f1 f2;obtain ⟨a,c1,b,f0,f1,f2⟩:=Cj hb4) | (go_at_call 180;go_must (refine (hM _).mono ?_);rintro e y ⟨rfl,hb5⟩;replace hb5:=Ci hb4 hb5;clear a c1 b f0 f1 f2;obtain ⟨a,c1,b,f0,f1,f2⟩:=Cj hb5)
  exact Cu (v:=Cw.val) (by simp [results,Tryz.results160,go_sem,a,c1,b,FU.val,Cw]) rfl ⟨rfl,GO (Fb hb5) _ _ _⟩
 | true =>
  obtain ⟨hA,hB⟩:=g rfl
  rw [A7 rfl]
  have i:∀ c∈A++B,BW c=true:=by
   intro c hc
   rcases B9.1 hc with h | h
   · exact hA c h
   · exact hB c h
  have q:=λw=>SC A B 0 w oO oO oO
  have hV:=λw=>Of m (Gj (A++B) (A.length+0)) (HQ (A++B) (A.length+0)) w (by simp [HQ];omega) (Mc _ _ i) (Nc _ _ i)
  clear g hA hB i
  simp only
  generalize Gj (A++B) (A.length+0)=W at *
  generalize HQ (A++B) (A.length+0)=D at *
  generalize Fy m W D=vv at *
  obtain ⟨C,fit⟩:=vv
  simp only at hV
  cases fit
  all_goals
   go_enter func160,ntmps160
   go_wp2_with first | (go_at_call 182;go_must (refine (hR _).mono ?_);rintro e s ⟨rfl,hb1⟩;obtain ⟨a,c1,b,f0,f1,f2⟩:=Cj hb1;have d:=hb1.size;simp at d;replace d:=D5 d) | (go_at_call 183;go_must (refine (hW _).mono ?_);rintro e t ⟨rfl,hb2⟩;replace hb2:=Zy hb1 hb2;clear a c1 b f0 f1 f2;obtain ⟨a,c1,b,f0,f1,f2⟩:=Cj hb2) | (go_at_call 179;go_must (refine (hS _).mono ?_);rintro e u ⟨rfl,hb3⟩;replace hb3:=Ci hb2 hb3;clear a c1 b f0 f1 f2;obtain ⟨a,c1,b,f0,f1,f2⟩:=Cj hb3) | (go_at_call 184;go_must (refine (hI _).mono ?_);rintro e x ⟨rfl,hb4⟩;replace hb4:=Ci hb3 hb4;clear a c1 b f0 f1 f2;obtain ⟨a,c1,b,f0,f1,f2⟩:=Cj hb4) | (go_at_call 180;go_must (refine (hM _).mono ?_);rintro e y ⟨rfl,hb5⟩;replace hb5:=Ci hb4 hb5;clear a c1 b f0 f1 f2;obtain ⟨a,c1,b,f0,f1,f2⟩:=Cj hb5) | (go_at_call 186;go_must (refine (q _).mono ?_);rintro e E ⟨rfl,WP⟩;replace WP:=Ci hb5 WP;clear a c1 b f0 f1 f2;obtain ⟨a,c1,b,f0,f1,f2⟩:=Cj WP) | (go_at_call 181;go_must (refine (hV _).mono ?_);rintro e F ⟨rfl,hb7⟩;replace hb7:=Ci WP hb7;clear a c1 b f0 f1 f2;obtain ⟨a,c1,b,f0,f1,f2⟩:=Cj hb7)
  · exact Cu (v:=Gc.val) (by simp [results,Tryz.results160,go_sem,a,c1,b,FU.val,Gc]) rfl ⟨rfl,GO (Fb hb7) _ _ _⟩
  · exact Cu (v:=(Lk C).val) (by simp [results,Tryz.results160,go_sem,a,c1,b,FU.val,Lk]) rfl ⟨rfl,GO (Fb hb7) _ _ _⟩
theorem OX (l:l8_) (w:World) (hl:l.length<=64) (h:(EQ l).ok=false) (h2:(FM l).2=false) (h3:(Ep (B6 l).2).2.2=true) :
  Calls Tryz.prog 160 #[.string (bs l)] w λe w'=>e=.returned (if (Hf (Ep (B6 l).2).2.1).2 then O9 (B6 l).1 (Ep (B6 l).2).1 (Hf (Ep (B6 l).2).2.1).1 else Cw).val/\AL w w':=by
 have hs:=BV l
 have hR:=λw=>LL l w oO
 have hW:=λw=>Oe l w oO
 have hS:=λw=>IR l w oO
 have j:=HO l
 generalize EQ l=R at *
 generalize FM l=V at *
 generalize B6 l=sr at *
 obtain ⟨k,n,ok,er⟩:=R
 obtain ⟨v,vok⟩:=V
 obtain ⟨m,r⟩:=sr
 simp only at h h2 h3 j hS ⊢
 subst h h2
 simp only [FU.val] at hR hW
 have hI:=λw=>Nm r w oO
 obtain ⟨x,-,g⟩:=RC r h3
 have s:=A1I r
 unfold A1b at hI
 generalize Ep r=cc at *
 obtain ⟨p,q,fd⟩:=cc
 simp only at h3 g hI s ⊢
 subst h3
 rw [A7 rfl] at hI
 change ∀ w,Calls Tryz.prog 184 #[.string (bs r),.string ⟨#[101,69]⟩] w _ at hI
 have y:(bs r).size=p.length+(q.length+1):=by rw [BV,g];simp
 have N:(bs r).extract (p.length+1) (p.length+(q.length+1))=bs q:=by
  rw [<- y,Qz _ _ _ (BV r),g,List.append_cons,List.drop_left' (by simp)]
 have O:(bs r).extract 0 p.length=bs p:=by
  rw [Qy,g];simp
 have hP:=λw=>Zs q w oO
 obtain ⟨t,u⟩:=T7 q
 have P:p.length+(q.length+1)<=64:=by have h:=BV r;omega
 have hM:=λw=>K2 p w oO
 have C:=K4 p
 have i:=Jn p
 generalize Hf q=pw at *
 obtain ⟨by',pok⟩:=pw
 unfold O9
 simp only at hP t u ⊢
 clear g j s
 cases pok with
 | false =>
  clear i
  go_enter func160,ntmps160
  go_wp2_with first | (go_at_call 182;go_must (refine (hR _).mono ?_);rintro e E ⟨rfl,hb1⟩;obtain ⟨a,c1,b,f0,f1,f2⟩:=Cj hb1;have d:=hb1.size;simp at d;replace d:=D5 d) | (go_at_call 183;go_must (refine (hW _).mono ?_);rintro e F ⟨rfl,hb2⟩;replace hb2:=Zy hb1 hb2;clear a c1 b f0 f1 f2;obtain ⟨a,c1,b,f0,f1,f2⟩:=Cj hb2) | (go_at_call 179;go_must (refine (hS _).mono ?_);rintro e G ⟨rfl,hb3⟩;replace hb3:=Ci hb2 hb3;clear a c1 b f0 f1 f2;obtain ⟨a,c1,b,f0,f1,f2⟩:=Cj hb3) | (go_at_call 184;go_must (refine (hI _).mono ?_);rintro e H ⟨rfl,hb4⟩;replace hb4:=Ci hb3 hb4;clear a c1 b f0 f1 f2;obtain ⟨a,c1,b,f0,f1,f2⟩:=Cj hb4) | (go_at_call 185;go_must (refine (hP _).mono ?_);rintro e J ⟨rfl,hb5⟩;replace hb5:=Ci hb4 hb5;clear a c1 b f0 f1 f2;obtain ⟨a,c1,b,f0,f1,f2⟩:=Cj hb5)
  exact Cu (v:=Cw.val) (by simp [results,Tryz.results160,go_sem,a,c1,b,FU.val,Cw]) rfl ⟨rfl,GO (Fb hb5) _ _ _⟩
 | true =>
  rw [A7 rfl]
  generalize GK p=ok at *
  generalize Ch p=pq at *
  obtain ⟨A,B,f⟩:=pq
  simp only at hM i C
  cases ok with
  | false =>
   clear i
   go_enter func160,ntmps160
   go_wp2_with first | (go_at_call 182;go_must (refine (hR _).mono ?_);rintro e E ⟨rfl,hb1⟩;obtain ⟨a,c1,b,f0,f1,f2⟩:=Cj hb1;have d:=hb1.size;simp at d;replace d:=D5 d) | (go_at_call 183;go_must (refine (hW _).mono ?_);rintro e F ⟨rfl,hb2⟩;replace hb2:=Zy hb1 hb2;clear a c1 b f0 f1 f2;obtain ⟨a,c1,b,f0,f1,f2⟩:=Cj hb2) | (go_at_call 179;go_must (refine (hS _).mono ?_);rintro e G ⟨rfl,hb3⟩;replace hb3:=Ci hb2 hb3;clear a c1 b f0 f1 f2;obtain ⟨a,c1,b,f0,f1,f2⟩:=Cj hb3) | (go_at_call 184;go_must (refine (hI _).mono ?_);rintro e H ⟨rfl,hb4⟩;replace hb4:=Ci hb3 hb4;clear a c1 b f0 f1 f2;obtain ⟨a,c1,b,f0,f1,f2⟩:=Cj hb4) | (go_at_call 185;go_must (refine (hP _).mono ?_);rintro e J ⟨rfl,hb5⟩;replace hb5:=Ci hb4 hb5;clear a c1 b f0 f1 f2;obtain ⟨a,c1,b,f0,f1,f2⟩:=Cj hb5) | (go_at_call 180;go_must (refine (hM _).mono ?_);rintro e L ⟨rfl,WP⟩;replace WP:=Ci hb5 WP;clear a c1 b f0 f1 f2;obtain ⟨a,c1,b,f0,f1,f2⟩:=Cj WP)
   exact Cu (v:=Cw.val) (by simp [results,Tryz.results160,go_sem,a,c1,b,FU.val,Cw]) rfl ⟨rfl,GO (Fb WP) _ _ _⟩
  | true =>
   obtain ⟨hA,hB⟩:=i rfl
   rw [A7 rfl]
   have o:∀ c∈A++B,BW c=true:=by
    intro c hc
    rcases B9.1 hc with h | h
    · exact hA c h
    · exact hB c h
   have K:=λw=>SC A B by' w oO oO oO
   have hV:=λw=>Of m (Gj (A++B) (A.length+by')) (HQ (A++B) (A.length+by')) w (by simp [HQ];omega) (Mc _ _ o) (Nc _ _ o)
   clear i hA hB o
   simp only
   generalize Gj (A++B) (A.length+by')=W at *
   generalize HQ (A++B) (A.length+by')=D at *
   generalize Fy m W D=vv at *
   obtain ⟨M,fit⟩:=vv
   simp only at hV
   cases fit
   all_goals
    go_enter func160,ntmps160
    go_wp2_with first | (go_at_call 182;go_must (refine (hR _).mono ?_);rintro e E ⟨rfl,hb1⟩;obtain ⟨a,c1,b,f0,f1,f2⟩:=Cj hb1;have d:=hb1.size;simp at d;replace d:=D5 d) | (go_at_call 183;go_must (refine (hW _).mono ?_);rintro e F ⟨rfl,hb2⟩;replace hb2:=Zy hb1 hb2;clear a c1 b f0 f1 f2;obtain ⟨a,c1,b,f0,f1,f2⟩:=Cj hb2) | (go_at_call 179;go_must (refine (hS _).mono ?_);rintro e G ⟨rfl,hb3⟩;replace hb3:=Ci hb2 hb3;clear a c1 b f0 f1 f2;obtain ⟨a,c1,b,f0,f1,f2⟩:=Cj hb3) | (go_at_call 184;go_must (refine (hI _).mono ?_);rintro e H ⟨rfl,hb4⟩;replace hb4:=Ci hb3 hb4;clear a c1 b f0 f1 f2;obtain ⟨a,c1,b,f0,f1,f2⟩:=Cj hb4) | (go_at_call 185;go_must (refine (hP _).mono ?_);rintro e J ⟨rfl,hb5⟩;replace hb5:=Ci hb4 hb5;clear a c1 b f0 f1 f2;obtain ⟨a,c1,b,f0,f1,f2⟩:=Cj hb5) | (go_at_call 180;go_must (refine (hM _).mono ?_);rintro e L ⟨rfl,WP⟩;replace WP:=Ci hb5 WP;clear a c1 b f0 f1 f2;obtain ⟨a,c1,b,f0,f1,f2⟩:=Cj WP) | (go_at_call 186;go_must (refine (K _).mono ?_);rintro e Q ⟨rfl,hb7⟩;replace hb7:=Ci WP hb7;clear a c1 b f0 f1 f2;obtain ⟨a,c1,b,f0,f1,f2⟩:=Cj hb7) | (go_at_call 181;go_must (refine (hV _).mono ?_);rintro e T ⟨rfl,hb8⟩;replace hb8:=Ci hb7 hb8;clear a c1 b f0 f1 f2;obtain ⟨a,c1,b,f0,f1,f2⟩:=Cj hb8)
   · exact Cu (v:=Gc.val) (by simp [results,Tryz.results160,go_sem,a,c1,b,FU.val,Gc]) rfl ⟨rfl,GO (Fb hb8) _ _ _⟩
   · exact Cu (v:=(Lk M).val) (by simp [results,Tryz.results160,go_sem,a,c1,b,FU.val,Lk]) rfl ⟨rfl,GO (Fb hb8) _ _ _⟩
theorem SD (l:l8_) (w:World) :
  Calls Tryz.prog 160 #[.string (bs l)] w λe w'=>e=.returned (FO l).val/\AL w w':=by
 unfold FO
 by_cases hl:64<l.length
 · rw [A7 hl];exact QC l w hl
 ·
  rw [A2 hl]
  have hl':l.length<=64:=by omega
  cases h:(EQ l).ok with
  | true=>rw [A7 rfl];exact OW l w hl' h
  | false =>
   rw [A2 dD]
   cases h2:(FM l).2 with
   | true=>rw [A7 rfl];exact OV l w hl' h h2
   | false =>
    rw [A2 dD]
    unfold PR
    cases h3:(Ep (B6 l).2).2.2 with
    | true=>rw [A7 rfl];exact OX l w hl' h h2 h3
    | false=>rw [A2 dD];exact OY l w hl' h h2 h3
end
section
def A0t (l:l8_):FU :=
 if (Ep l).2.2 then
  (if (Hf (Ep l).2.1).2 then O9 (B6 (Ep l).1).1 (B6 (Ep l).1).2 (Hf (Ep l).2.1).1 else Cw)
 else O9 (B6 (Ep l).1).1 (B6 (Ep l).1).2 0
theorem U0 (l:l8_):B6 (Ep l).1=((B6 l).1,(Ep (B6 l).2).1)/\(Ep l).2=(Ep (B6 l).2).2:=by
  cases l with
  | nil=>exact ⟨rfl,rfl⟩
  | cons c r =>
    by_cases hE:isE c=true
    · have a : c ≠ 45 := by rintro rfl; exact De hE dD
      have b:c≠43:=by rintro rfl;exact De hE dD
      simp [B6,Ep,hE,a,b]
    · have hE' : isE c = false := by simpa using hE
      by_cases a:c=45
      · subst a;simp [B6,Ep,hE']
      · by_cases b : c = 43
        · subst b;simp [B6,Ep,hE']
        · simp [B6,Ep,hE',a,b]
theorem A0s (l:l8_):A0t l=PR l:=by
 obtain ⟨a,b⟩:=U0 l
 unfold A0t PR
 rw [a,b]
 cases hf:(Ep (B6 l).2).2.2 with
 | true=>rfl
 | false =>
  simp only [C5,if_false]
  rw [(TB _ hf).1]
theorem U1 (c:UInt8) (r:l8_) (h:BW c=true):B6 (c::r)=(false,c::r):=by
 have a:c≠45:=by rintro rfl;exact De h dD
 have b:c≠43:=by rintro rfl;exact De h dD
 simp [B6,a,b]
theorem SU (l:l8_) (hl:l.length<=64) (h:J5 l=false):FO l=if (FM l).2 then H8 (FM l).1 else A0t l:=by
 have hr:(EQ l).ok=false:=by unfold EQ;rw [h];rfl
 unfold FO
 rw [A2 oO,hr,A0s]
 rfl
end
section
def CV (c:UInt8):Bool:=c == 0 || c == 9 || c == 10 || c == 12 || c == 13 || c == 32
def OU (c:UInt8):Bool:=c == 10 || c == 12 || c == 13
def Hs (c:UInt8):Bool:=c == 40 || c == 41 || c == 60 || c == 62 || c == 91 || c == 93 || c == 123 || c == 125 || c == 47 || c == 37
def Da (c:UInt8):Bool:=!CV c && !Hs c
theorem WW {c:UInt8} (h:OU c=true):CV c=true:=by
 simp only [OU,CO,beq_iff_eq] at h
 rcases h with (rfl | rfl) | rfl <;> rfl
def DG:Bool->l8_->l8_
 | _,[]=>[]
 | false,c::r=>if c=37 then DG true r else if CV c then DG false r else c::r
 | true,c::r=>if OU c then DG false (r) else DG true r
theorem Iu:∀ (l:l8_) (m:Bool),(DG m l).length<=l.length
 | [],m=>by cases m <;> simp [DG]
 | c::r,false=>by
  have h1:=Iu r true;have h2:=Iu r false
  simp only [DG];split
  · simp;omega
  · split <;> simp <;> omega
 | c::r,true=>by
  have h1:=Iu r true;have h2:=Iu r false
  simp only [DG];split <;> simp <;> omega
theorem GE:∀ (l:l8_) (m:Bool),∃ k,k<=l.length/\DG m l=l.drop k
 | [],m=>⟨0,DP _,by cases m <;> rfl⟩
 | c::r,false=>by
  obtain ⟨k1,a1,b1⟩:=GE r true;obtain ⟨k2,a2,b2⟩:=GE r false
  simp only [DG];split
  · exact ⟨k1+1,by simp;omega,by rw [b1];rfl⟩
  ·
   split
   · exact ⟨k2+1,by simp;omega,by rw [b2];rfl⟩
   · exact ⟨0,FI _,rfl⟩
 | c::r,true=>by
  obtain ⟨k1,a1,b1⟩:=GE r true;obtain ⟨k2,a2,b2⟩:=GE r false
  simp only [DG];split
  · exact ⟨k2+1,by simp;omega,by rw [b2];rfl⟩
  · exact ⟨k1+1,by simp;omega,by rw [b1];rfl⟩
def I4:l8_->l8_
 | c::r=>if c=10 then r else c::r
 | []=>[]
theorem MQ (l:l8_):(I4 l).length<=l.length:=by
 cases l with
 | nil=>simp [I4]
 | cons c r=>simp only [I4];split <;> simp
def OP (c:UInt8):Bool:=decide (48<=c.toNat) && decide (c.toNat<=55)
def MF:Nat->Nat->l8_->Nat × l8_
 | 0,n,l=>(n,l)
 | _+1,n,[]=>(n,[])
 | k+1,n,c::r=>if OP c then MF k (8 * n+(c.toNat-48)) r else (n,c::r)
theorem Uu:∀ (k n:Nat) (l:l8_),(MF k n l).2.length<=l.length
 | 0,n,l=>DP _
 | _+1,n,[]=>DP _
 | k+1,n,c::r=>by
  have:=Uu k (8 * n+(c.toNat-48)) r
  simp only [MF];split <;> simp <;> omega
def HZ (c:UInt8) (r:l8_):l8_ × l8_ :=
 if c=110 then ([10],r) else if c=114 then ([13],r) else if c=116 then ([9],r) else if c=98 then ([8],r) else if c=102 then ([12],r)
 else if c=10 then ([],r) else if c=13 then ([],I4 r)
 else if OP c then ([ch ((MF 2 (c.toNat-48) r).1 % 256:Nat)],(MF 2 (c.toNat-48) r).2) else ([c],r)
theorem V3 (c:UInt8) (r:l8_):(HZ c r).2.length<=r.length:=by
 have a:=MQ r
 have b:=Uu 2 (c.toNat-48) r
 unfold HZ
 repeat' split
 all_goals first | exact DP _ | assumption
def D9 (d:Nat) (o:l8_) (l:l8_):Option (l8_ × l8_) :=
 match l with
 | []=>none
 | c::r =>
  if c=40 then D9 (d+1) (o++[c]) r
  else if c=41 then (if d=1 then some (o,r) else D9 (d-1) (o++[c]) r)
  else if c=92 then
   match r with
   | []=>none
   | e::r'=>D9 d (o++(HZ e r').1) (HZ e r').2
  else if c=13 then D9 d (o++[10]) (I4 r)
  else D9 d (o++[c]) r
termination_by l.length
decreasing_by
 all_goals simp_wf
 · have:=V3 e r';omega
 · have:=MQ r;omega
def A1c (c:UInt8):Option Nat:=if DY c<16 then some (DY c) else none
def KU:Option Nat->l8_->l8_->Option (l8_ × l8_)
 | _,_,[]=>none
 | h,o,c::r =>
  if CV c then KU h o r
  else if c=62 then some (match h with | none=>o | some x=>o++[ch (x * 16:Nat)],r)
  else match A1c c with
   | none=>none
   | some d=>match h with
    | none=>KU (some d) o r
    | some x=>KU none (o++[ch (x * 16+d:Nat)]) r
structure Kc where
 kind:Int
 n:Int
 text:l8_
def Kc.val (t:Kc):Value:=.agg #[Af t.kind,Af t.n,.string (bs t.text)]
abbrev Vl:=Except Int (Kc × l8_)
def GC (o:Option (l8_ × l8_)):Vl :=
 match o with
 | none=>.error 14
 | some (s,r)=>if 65535<s.length then .error 9 else .ok (⟨6,0,s⟩,r)
def Id (k:Int) (l:l8_):Vl :=
 if 127<(l.takeWhile Da).length then .error 9 else .ok (⟨k,0,l.takeWhile Da⟩,l.dropWhile Da)
def L9 (c:UInt8) (r:l8_):Vl :=
 match r with
 | d::r'=>if d=c then .ok (⟨3,0,[c,c]⟩,r') else if c=60 then GC (KU none [] (d::r')) else .error 14
 | []=>if c=60 then GC (KU none [] []) else .error 14
def Mw (r:l8_):Vl :=
 match r with
 | d::r'=>if d=47 then Id 5 r' else Id 4 (d::r')
 | []=>Id 4 []
def TO (l:l8_):Vl :=
 let t:=FO (l.takeWhile Da)
 if t.e≠0 then .error t.e else if t.ok then .ok (⟨t.kind,t.n,[]⟩,l.dropWhile Da) else Id 3 l
def Mv (l:l8_):Vl :=
 match DG false l with
 | []=>.ok (⟨0,0,[]⟩,[])
 | c::r =>
  if c=40 then GC (D9 1 [] r)
  else if c=41 then .error 14
  else if c=60\/c=62 then L9 c r
  else if c=123 then .ok (⟨7,0,[]⟩,r)
  else if c=125 then .ok (⟨8,0,[]⟩,r)
  else if c=91\/c=93 then .ok (⟨3,0,[c]⟩,r)
  else if c=47 then Mw r
  else TO (c::r)
end
section
def Kf (n:Int):l8_:=if n<0 then [45] else []
def H6 (n:Int):l8_:=B7 (n.natAbs / 65536)
def Jq (n:Int):l8_:=HX (n.natAbs % 65536)
def norm (n:Int):Int:=if Cy n then n else 0
end
section
theorem XC (n:Int):-2147483648<=norm n:=by unfold norm Cy;split <;> simp at * <;> omega
theorem XD (n:Int):norm n<=2147483647:=by unfold norm Cy;split <;> simp at * <;> omega
theorem VN (n:Int):(bs (Kf n)).size<=1:=by rw [BV];unfold Kf;split <;> simp
theorem Om (n:Int) (h:-2147483648<=n) (h':n<=2147483647):(bs (H6 n)).size<=20:=Io _ oO
theorem W3 (n:Int):(bs (Jq n)).size<=16:=by rw [BV];exact Jy _
def GH (n:Int):l8_:=Kf n++H6 n++(if Jq n=[] then [] else 46::Jq n)
def HR (n:Int):l8_:=Kf n++H6 n++46::(if Jq n=[] then [48] else Jq n)
theorem Nb {a b:ByteArray} (h:a=b):Ending.returned (.string a)=Ending.returned (.string b):=by rw [h]
theorem US (f:Nat) (h:0<f) (h':f<65536):HX f≠[]:=by rw [MN f h h'];simp
theorem NQ (n:Int):Jq n=[]↔n.natAbs % 65536=0:=by
 unfold Jq
 constructor
 ·
  intro h
  by_cases h0:n.natAbs % 65536=0
  · exact h0
  · exact De h (US _ oO oO)
 · intro h;rw [h,JX]
end
section
theorem Co {c d:UInt8} (h:(c.toNat:Int)=(d.toNat:Int)):c=d:=UInt8.toNat_inj.1 oO
theorem Df {c d:UInt8} (h:¬ (c.toNat:Int)=(d.toNat:Int)):c≠d:=λe=>h (by rw [e])
theorem GB (c d:UInt8):decide ((c.toNat:Int)=(d.toNat:Int))=(c == d):=by
 by_cases h:c=d
 · subst h;simp
 · rw [beq_false_of_ne h];exact AJ λe=>h (Co e)
theorem Rg (c:UInt8) (w:World) :
  Calls Tryz.prog 67 #[.int .u8 (c.toNat:Int)] w λe w'=>e=.returned (.bool (Hs c))/\w=w':=by
 obtain ⟨R,hR⟩:=eX (Hs c)
 rw [<- hR]
 unfold Hs at hR
 rw [<- GB c 40,<- GB c 41,<- GB c 60,<- GB c 62,<- GB c 91,<- GB c 93,<- GB c 123,<- GB c 125,<- GB c 47,<- GB c 37] at hR
 refine Ar func67 rfl ntmps67<|A4<|A9 rfl<|Ad<|A4<|A3 rfl<|A0<|AO<|Ad<|A4<|A1 (.eql rfl rfl)<|A9 rfl<|Ai rfl (λb=>?_) (λb=>?_)
 have o:=dT b
 refine Ap<|BQ rfl b<|A4<|A9 rfl<|AW ?_
 exact ⟨CH (by rw [hR];simp_all),rfl⟩
 have o:=dF b
 refine A4<|A1 (.eql rfl rfl)<|A9 rfl<|Ai rfl (λd=>?_) (λd=>?_)
 have q:=dT d
 refine Ap<|BQ rfl d<|A4<|A9 rfl<|AW ?_
 exact ⟨CH (by rw [hR];simp_all),rfl⟩
 have q:=dF d
 refine A4<|A1 (.eql rfl rfl)<|A9 rfl<|Ai rfl (λf=>?_) (λf=>?_)
 have s:=dT f
 refine Ap<|BQ rfl f<|A4<|A9 rfl<|AW ?_
 exact ⟨CH (by rw [hR];simp_all),rfl⟩
 have s:=dF f
 refine A4<|A1 (.eql rfl rfl)<|A9 rfl<|Ai rfl (λg=>?_) (λg=>?_)
 have t:=dT g
 refine Ap<|BQ rfl g<|A4<|A9 rfl<|AW ?_
 exact ⟨CH (by rw [hR];simp_all),rfl⟩
 have t:=dF g
 refine A4<|A1 (.eql rfl rfl)<|A9 rfl<|Ai rfl (λh=>?_) (λh=>?_)
 have u:=dT h
 refine Ap<|BQ rfl h<|A4<|A9 rfl<|AW ?_
 exact ⟨CH (by rw [hR];simp_all),rfl⟩
 have u:=dF h
 refine A4<|A1 (.eql rfl rfl)<|A9 rfl<|Ai rfl (λi=>?_) (λi=>?_)
 have v:=dT i
 refine Ap<|BQ rfl i<|A4<|A9 rfl<|AW ?_
 exact ⟨CH (by rw [hR];simp_all),rfl⟩
 have v:=dF i
 refine A4<|A1 (.eql rfl rfl)<|A9 rfl<|Ai rfl (λj=>?_) (λj=>?_)
 have x:=dT j
 refine Ap<|BQ rfl j<|A4<|A9 rfl<|AW ?_
 exact ⟨CH (by rw [hR];simp_all),rfl⟩
 have x:=dF j
 refine A4<|A1 (.eql rfl rfl)<|A9 rfl<|Ai rfl (λk=>?_) (λk=>?_)
 have y:=dT k
 refine Ap<|BQ rfl k<|A4<|A9 rfl<|AW ?_
 exact ⟨CH (by rw [hR];simp_all),rfl⟩
 have y:=dF k
 refine A4<|A1 (.eql rfl rfl)<|A9 rfl<|Ai rfl (λl=>?_) (λl=>?_)
 have A:=dT l
 refine Ap<|BQ rfl l<|A4<|A9 rfl<|AW ?_
 exact ⟨CH (by rw [hR];simp_all),rfl⟩
 have A:=dF l
 refine Am<|A1 (.eql rfl rfl)<|A9 rfl<|Ai rfl (λa=>?_) (λa=>?_)
 have m:=dT a
 refine A4<|A9 rfl<|AW ?_
 exact ⟨CH (by rw [hR];simp_all),rfl⟩
 have m:=dF a
 refine Ap<|A4<|A9 rfl<|AW ?_
 exact ⟨CH (by rw [hR];simp_all),rfl⟩
theorem FP (q:UInt8->Bool) (l:l8_) (t:Nat) (h:t<l.length):(l.drop t).takeWhile q=if q l[t] then l[t]::(l.drop (t+1)).takeWhile q else []:=by
 rw [Aw h,List.takeWhile_cons]
def BA (l:l8_) (t:Nat):Nat:=t+((l.drop t).takeWhile Da).length
theorem F6 (l:l8_) (t:Nat) (h:t<=l.length):t<=BA l t/\BA l t<=l.length:=by
 have a:=(List.takeWhile_sublist Da (l:=l.drop t)).length_le
 rw [Au] at a
 unfold BA;omega
def B4 (m:Bool) (l:l8_) (t:Nat):Nat:=l.length-(DG m (l.drop t)).length
theorem Ec (m:Bool) (l:l8_) (t:Nat):B4 m l t<=l.length:=Nat.sub_le _ _
theorem HM (m:Bool) (l:l8_) (t:Nat):l.drop (B4 m l t)=DG m (l.drop t):=by
 obtain ⟨k,a,b⟩:=GE (l.drop t) m
 unfold B4
 rw [b,E2,Au]
 rw [Au] at a
 by_cases h:t+k<=l.length
 · congr 1;omega
 · rw [Bv oO,Bv oO]
theorem PI (l:l8_) (t:Nat) (h:t<l.length):B4 false l t=if l[t]=37 then B4 true l (t+1) else if CV l[t] then B4 false l (t+1) else t:=by
 unfold B4
 rw [Aw h]
 simp only [DG]
 split
 · rfl
 ·
  split
  · rfl
  · simp;omega
theorem Kx (l:l8_) (t:Nat) (h:t<l.length):B4 true l t=if OU l[t] then B4 false l (t+1) else B4 true l (t+1):=by
 unfold B4
 rw [Aw h]
 simp only [DG]
 split <;> rfl
theorem JO (m:Bool) (l:l8_) (t:Nat) (h:l.length<=t):B4 m l t=l.length:=by
 unfold B4
 rw [Bv h];cases m <;> simp [DG]
theorem VM (l:l8_) (t:Nat) (h:t<l.length->OU l[t]! = true):B4 true l t=B4 false l t:=by
 by_cases ht:t<l.length
 ·
  have he:=h ht
  rw [getElem!_pos l t ht] at he
  rw [Kx l t ht,A7 he,PI l t ht,A7 (WW he),A2 (by rintro e;rw [e] at he;cases he)]
 · rw [JO true l t oO,JO false l t oO]
def RD (l:l8_) (t:Nat):Bool:=decide (t<l.length) && !(decide (((l[t]!).toNat:Int)=10) || decide (((l[t]!).toNat:Int)=12) || decide (((l[t]!).toNat:Int)=13))
theorem Pk (l:l8_) (t:Nat):RD l t=(decide (t<l.length) && !OU l[t]!):=by
 unfold RD OU
 rw [<- GB _ 10,<- GB _ 12,<- GB _ 13];rfl
theorem A1J  {t:Nat} (h:RD l t=true):∃ ht:t<l.length,OU (l[t]'ht)=false:=by
 rw [Pk] at h
 simp only [AE,AF,BO] at h
 obtain ⟨a,b⟩:=h
 rw [getElem!_pos l t a] at b
 exact ⟨a,b⟩
theorem A1K  {t:Nat} (h:RD l t=false):B4 true l t=B4 false l t/\(∀ ht:t<l.length,(l[t]'ht)≠37):=by
 rw [Pk] at h
 have a:t<l.length->OU l[t]! = true:=λht=>by simpa [ht] using h
 refine ⟨VM l t a,λht e=>?_⟩
 have:=a ht
 rw [getElem!_pos l t ht,e] at this
 cases this
end
section
theorem IN:(Tryz.prog.info? 5).map (λi=>(i.zero,i.size,i.bytes))=some (some (.int .u8 0),1,1):=by kernel_rfl
structure NR where
 k:Int
 n:Int
 s:l8_
 at':Int
 e:Int
abbrev NR.tok (r:NR):Value:=.agg #[Af r.k,Af r.n,.string (bs r.s)]
abbrev NR.val (r:NR):Value:=.tuple #[r.tok,Af r.at',Af r.e]
def Z3 (l:l8_):Vl->NR
 | .ok (t,r)=>⟨t.kind,t.n,t.text,(l.length-r.length:Nat),0⟩
 | .error k=>⟨0,0,[],0,k⟩
theorem AU {a b:Value} (h:a=b):Ending.returned a=.returned b:=by rw [h]
def A7G (w:World) (B:Nat) (l:l8_) (o:Option (l8_ × l8_)) (v:Value) (at' err:Int):Prop :=
 match o with
 | none=>err=14
 | some (s,r)=>err=0/\CP 5 B w v (AQ s)/\s.length<=l.length/\∃ k:Nat,at'=k/\k<=l.length/\r=l.drop k
def WM (h:Option Nat):Int:=match h with | none=>-1 | some x=>x
theorem Zf (h:Option Nat) (o:l8_) (l:l8_) (t:Nat) (ht:t<l.length):KU h o (l.drop t) =
  if CV l[t] then KU h o (l.drop (t+1))
  else if l[t]=62 then some (match h with | none=>o | some x=>o++[ch (x * 16:Nat)],l.drop (t+1))
  else if 15<DY l[t] then none else match h with
   | none=>KU (some (DY l[t])) o (l.drop (t+1))
   | some x=>KU none (o++[ch (x * 16+DY l[t]:Nat)]) (l.drop (t+1)):=by
 rw [Aw ht]
 simp only [KU]
 split
 · rfl
 ·
  split
  · cases h <;> rfl
  ·
   unfold A1c
   by_cases h16:DY l[t]<16
   · rw [A7 h16,A2 oO] <;> cases h <;> rfl
   · rw [A2 h16,A7 oO]
theorem IS (x:Int) (h0:0<=x) (h:x<256):((ch x).toNat:Int)=x:=by
 unfold ch
 rw [UInt8.toNat_ofNat'];omega
theorem bF {b:Bool} (h:b=false):¬ b=true:=by rw [h];simp
end
section
def lfB (l:l8_) (t:Nat):Bool:=decide (t<l.length) && decide (((l[t]!).toNat:Int)=10)
theorem A6h  {t:Nat} (h:lfB l t=true):t<l.length/\I4 (l.drop t)=l.drop (t+1):=by
 unfold lfB at h
 simp only [AE,AF] at h
 obtain ⟨a,b⟩:=h
 rw [getElem!_pos l t a] at b
 have c:l[t]=10:=Co b
 refine ⟨a,?_⟩
 rw [Aw a]
 simp [I4,c]
theorem A6i  {t:Nat} (h:lfB l t=false):I4 (l.drop t)=l.drop t:=by
 by_cases h1:t<l.length
 ·
  unfold lfB at h
  rw [AP h1,E3,getElem!_pos l t h1] at h
  have a:l[t]≠10:=Df (dF h)
  rw [Aw h1]
  simp [I4,a]
 · rw [Bv oO];rfl
def Ta (l:l8_) (k t:Nat):Bool:=decide (k<2) && (decide (t<l.length) && (decide (48<=((l[t]!).toNat:Int)) && decide (((l[t]!).toNat:Int)<=55)))
theorem A4X  {k t:Nat} (h:Ta l k t=true):k<2/\∃ ht:t<l.length,48<=(l[t]'ht).toNat/\(l[t]'ht).toNat<=55/\∀ n,MF (2-k) n (l.drop t)=MF (2-(k+1)) (8 * n+((l[t]'ht).toNat-48)) (l.drop (t+1)):=by
 unfold Ta at h
 simp only [AE,AF] at h
 obtain ⟨b,a,c,d⟩:=h
 rw [getElem!_pos l t a] at c d
 refine ⟨b,a,oO,oO,λn=>?_⟩
 rw [Aw a,show 2-k=(2-(k+1))+1 by omega]
 have:OP l[t]=true:=by simp [OP];omega
 simp only [MF]
 rw [A7 this]
theorem A4Y  {k t:Nat} (h:Ta l k t=false) (n:Nat):MF (2-k) n (l.drop t)=(n,l.drop t):=by
  by_cases h0:k<2
  · rw [show 2 - k = (2 - (k + 1)) + 1 by omega]
    by_cases h1:t<l.length
    · rw [Aw h1]
      unfold Ta at h
      rw [AP h0,E3,AP h1,E3,getElem!_pos l t h1] at h
      have:OP l[t]=false:=by
        unfold OP
        rw [<- h];congr 1 <;> exact HI.2 oO
      simp only [MF]
      rw [A2 (by rw [this];simp)]
    · rw [Bv oO];rfl
  · rw [show 2-k=0 by omega];rfl
theorem YF (d:Nat) (o l:l8_) (s:Nat) (h:s<l.length):D9 d o (l.drop s) =
  if l[s]=40 then D9 (d+1) (o++[l[s]]) (l.drop (s+1))
  else if l[s]=41 then (if d=1 then some (o,l.drop (s+1)) else D9 (d-1) (o++[l[s]]) (l.drop (s+1)))
  else if l[s]=92 then
   match l.drop (s+1) with
   | []=>none
   | e::r'=>D9 d (o++(HZ e r').1) (HZ e r').2
  else if l[s]=13 then D9 d (o++[10]) (I4 (l.drop (s+1)))
  else D9 d (o++[l[s]]) (l.drop (s+1)):=by
 rw [Aw h]
 exact D9.eq_def d o (l[s]::l.drop (s+1))
theorem A1B (r:l8_):HZ 110 r=([10],r):=rfl
theorem A1A (r:l8_):HZ 114 r=([13],r):=rfl
theorem A1z (r:l8_):HZ 116 r=([9],r):=rfl
theorem A4l (r:l8_):HZ 98 r=([8],r):=rfl
theorem A1C (r:l8_):HZ 102 r=([12],r):=rfl
theorem A4n (r:l8_):HZ 10 r=([],r):=rfl
theorem A4m (r:l8_):HZ 13 r=([],I4 r):=rfl
theorem Tx {y:UInt8} (r:l8_) (h1:48<=(y.toNat:Int)) (h2:(y.toNat:Int)<=55):HZ y r=([ch ((MF 2 (y.toNat-48) r).1 % 256:Nat)],(MF 2 (y.toNat-48) r).2):=by
 have ne:∀ c:UInt8,(c.toNat<48\/55<c.toNat)->y≠c:=λc hc e=>by subst e;omega
 unfold HZ
 rw [A2 (ne 110 dD),A2 (ne 114 dD),A2 (ne 116 dD),A2 (ne 98 dD),A2 (ne 102 dD),A2 (ne 10 dD),A2 (ne 13 dD),
  A7 (by simp only [OP,AE,AF];omega)]
theorem Nv {y:UInt8} (r:l8_) (h1:¬ (y.toNat:Int)=110) (h2:¬ (y.toNat:Int)=114) (h3:¬ (y.toNat:Int)=116) (h4:¬ (y.toNat:Int)=98) (h5:¬ (y.toNat:Int)=102) (h6:¬ (y.toNat:Int)=10) (h7:¬ (y.toNat:Int)=13)
  (h8:¬ (48<=(y.toNat:Int)/\(y.toNat:Int)<=55)):HZ y r=([y],r):=by
 unfold HZ
 rw [A2 (Df (d:=110) h1),A2 (Df (d:=114) h2),A2 (Df (d:=116) h3),A2 (Df (d:=98) h4),A2 (Df (d:=102) h5),A2 (Df (d:=10) h6),A2 (Df (d:=13) h7),
  A2 (by simp only [OP,AE,AF];omega)]
end
section
def LS (c:UInt8) (r:l8_):Vl :=
 if c=40 then GC (D9 1 [] r)
 else if c=41 then .error 14
 else if c=60\/c=62 then L9 c r
 else if c=123 then .ok (⟨7,0,[]⟩,r)
 else if c=125 then .ok (⟨8,0,[]⟩,r)
 else if c=91\/c=93 then .ok (⟨3,0,[c]⟩,r)
 else if c=47 then Mw r
 else TO (c::r)
theorem A01  {n s:Nat} (h:l.drop s=DG false (l.drop n)) (hs:l.length<=s):Mv (l.drop n)=.ok (⟨0,0,[]⟩,[]):=by
 unfold Mv
 rw [<- h,Bv hs]
theorem A2J  {n s:Nat} (h:l.drop s=DG false (l.drop n)) (hs:s<l.length):Mv (l.drop n)=LS l[s] (l.drop (s+1)):=by
 unfold Mv
 rw [<- h,Aw hs];rfl
theorem A20  {s:Nat} {c d:UInt8} (hc:c≠0) (hd:d=(l[s]?).getD 0):L9 c (l.drop s)=if d=c then .ok (⟨3,0,[c,c]⟩,l.drop (s+1)) else if c=60 then GC (KU none [] (l.drop s)) else .error 14:=by
  by_cases h:s<l.length
  · rw [Aw h]
    rw [Aj h] at hd
    obtain rfl:d=l[s]:=hd
    rfl
  · rw [Bv oO]
    rw [AZ oO] at hd
    obtain rfl:d=0:=hd
    rw [A2 (λe=>hc e.symm)];rfl
theorem A0c  {s:Nat} {d:UInt8} (hd:d=(l[s]?).getD 0):Mw (l.drop s)=if d=47 then Id 5 (l.drop (s+1)) else Id 4 (l.drop s):=by
  by_cases h:s<l.length
  · rw [Aw h]
    rw [Aj h] at hd
    obtain rfl:d=l[s]:=hd
    rfl
  · rw [Bv oO]
    rw [AZ oO] at hd
    obtain rfl:d=0:=hd
    rw [A2 dD];rfl
theorem Yt {c:UInt8} (r:l8_) (h1:¬ (c.toNat:Int)=40) (h2:¬ (c.toNat:Int)=41) (h3:¬ (c.toNat:Int)=60) (h4:¬ (c.toNat:Int)=62) (h5:¬ (c.toNat:Int)=123) (h6:¬ (c.toNat:Int)=125) (h7:¬ (c.toNat:Int)=91)
  (h8:¬ (c.toNat:Int)=93) (h9:¬ (c.toNat:Int)=47):LS c r=TO (c::r):=by
 unfold LS
 rw [A2 (Df (d:=40) h1),A2 (Df (d:=41) h2),A2 (not_or.2 ⟨Df (d:=60) h3,Df (d:=62) h4⟩),A2 (Df (d:=123) h5),A2 (Df (d:=125) h6),A2 (not_or.2 ⟨Df (d:=91) h7,Df (d:=93) h8⟩),A2 (Df (d:=47) h9)]
theorem RN (l:l8_) (s:Nat):(l.drop s).take (BA l s-s)=(l.drop s).takeWhile Da:=by
 unfold BA
 rw [Nat.add_sub_cancel_left]
 conv=>lhs;arg 2;rw [<- List.takeWhile_append_dropWhile (p:=Da) (l:=l.drop s)]
 rw [List.take_left'];rfl
theorem Li (l:l8_) (s:Nat):(l.drop s).dropWhile Da=l.drop (BA l s):=by
 unfold BA
 rw [<- E2]
 conv=>rhs;arg 2;rw [<- List.takeWhile_append_dropWhile (p:=Da) (l:=l.drop s)]
 rw [List.drop_left'];rfl
theorem O0 (l:l8_) (t:Kc) (k:Nat) (hk:k<=l.length):Z3 l (.ok (t,l.drop k))=⟨t.kind,t.n,t.text,k,0⟩:=by
 simp only [Z3,Au]
 rw [show l.length-(l.length-k)=k by omega]
theorem A06 (r:l8_):LS 40 r=GC (D9 1 [] r):=rfl
theorem A4M (r:l8_):LS 41 r=.error 14:=rfl
theorem A04 (r:l8_):LS 60 r=L9 60 r:=rfl
theorem A03 (r:l8_):LS 62 r=L9 62 r:=rfl
theorem A2M (r:l8_):LS 123 r=.ok (⟨7,0,[]⟩,r):=rfl
theorem A2L (r:l8_):LS 125 r=.ok (⟨8,0,[]⟩,r):=rfl
theorem A4L (r:l8_):LS 91 r=.ok (⟨3,0,[91]⟩,r):=rfl
theorem A4K (r:l8_):LS 93 r=.ok (⟨3,0,[93]⟩,r):=rfl
theorem A05 (r:l8_):LS 47 r=Mw r:=rfl
def G0 (l:l8_) (a:Int):NR:=if a<0\/(l.length:Int)<a then ⟨0,0,[],0,21⟩ else Z3 l (Mv (l.drop a.toNat))
end
section
theorem Sr:∀ c:UInt8,decide (0<=Lib.indexByte [0,9,10,12,13,32] c)=CV c:=by
 intro c
 have key:∀ n:Fin 256,decide (0<=Lib.indexByte [0,9,10,12,13,32] (UInt8.ofNat n.1))=CV (UInt8.ofNat n.1):=by decide +kernel
 have:=key ⟨c.toNat,Cg c⟩
 simpa using this
theorem Sq:∀ c:UInt8,decide (Lib.indexByte [40,41,60,62,91,93,123,125,47,37] c<0)=!Hs c:=by
 intro c
 have key:∀ n:Fin 256,decide (Lib.indexByte [40,41,60,62,91,93,123,125,47,37] (UInt8.ofNat n.1)<0)=!Hs (UInt8.ofNat n.1):=by decide +kernel
 have:=key ⟨c.toNat,Cg c⟩
 simpa using this
theorem A3r:∀ c:UInt8,decide (Lib.indexByte [10,12,13] c<0)=!OU c:=by
 intro c
 have key:∀ n:Fin 256,decide (Lib.indexByte [10,12,13] (UInt8.ofNat n.1)<0)=!OU (UInt8.ofNat n.1):=by decide +kernel
 have:=key ⟨c.toNat,Cg c⟩
 simpa using this
theorem KO (l:l8_) (c:UInt8) (w:World):Calls Tryz.prog 49 #[.string (bs l),.int .u8 (c.toNat:Int)] w λe w'=>e=.returned (Af (Lib.indexByte l c))/\w=w':=by
 refine (Tryz.strings_IndexByte (bs l) (c.toNat:Int) w).mono λe w' h=>⟨?_,h.2.symm⟩
 rw [h.1]
 have:(bs l).data.toList=l:=by simp [bs]
 rw [this]
 have:((c.toNat:Int).toNat).toUInt8=c:=by rw [Int.toNat_natCast];exact UInt8.ofNat_toNat
 rw [this]
theorem My (c:UInt8) (w:World) :
  Calls Tryz.prog 195 #[.int .u8 (c.toNat:Int)] w λe w'=>e=.returned (.bool (CV c))/\w=w':=by
 refine Ar func195 rfl ntmps195<|A4<|A9 rfl<|A4<|A3 rfl<|Ao (KO [0,9,10,12,13,32] c _) (λb a=>?_)
 obtain rfl:=a
 refine A1 (.bis (CV c) (.geq rfl rfl) (by exact Sr c))<|A9 rfl<|AW ?_
 exact ⟨rfl,rfl⟩
theorem SV (c:UInt8) (w:World) :
  Calls Tryz.prog 201 #[.int .u8 (c.toNat:Int)] w λe w'=>e=.returned (.bool (Da c))/\w=w':=by
 refine Ar func201 rfl ntmps201<|A4<|A9 rfl<|A4<|A3 rfl<|Ao (My c _) (λg b=>?_)
 obtain rfl:=b
 refine A1 (.not rfl)<|A3 rfl<|Ck rfl rfl rfl (λa=>?_) (λa=>?_)
 have d:=(nT a)
 refine A3 rfl<|GX rfl rfl rfl (by rw [(nT a)] <;> rfl)<|Ao (KO [40,41,60,62,91,93,123,125,47,37] c _) (λh f=>?_)
 obtain rfl:=f
 refine GX rfl rfl rfl (by rw [(nT a)] <;> rfl)<|A1 (.bis (!Hs c) (.lss rfl rfl) (by exact Sq c))<|A1 (.pkT rfl (by rw [(nT a)] <;> rfl) rfl)<|A9 rfl<|AW ?_
 exact ⟨CH (by unfold Da;simp_all),rfl⟩
 have d:=(nF a)
 refine Ie rfl rfl rfl (by rw [(nF a)] <;> rfl)<|Ie rfl rfl rfl (by rw [(nF a)] <;> rfl)<|A1 (.pkF rfl (by rw [(nF a)] <;> rfl) rfl)<|A9 rfl<|AW ?_
 exact ⟨CH (by unfold Da;simp_all),rfl⟩
def Iq (w:World) (r:Nat) (p:Option Addr) (l:l8_) (c t:Nat):Prop:=B0 w r #[.slice p l.length c,Af (t:Int)] 222/\Ag w p l
theorem Ln (r:Nat) (p:Option Addr) (l:l8_) (c t:Nat) (w:World) (h:Iq w r p l c t) :
  Calls Tryz.prog 173 #[ptV r] w λe w'=>e=.returned (.bool (decide (t<l.length)))/\C6 w w':=by
 have hr:=h.1
 refine Ar func173 rfl ntmps173<|A4<|A9 rfl<|Ad<|DH BR kR<|WQ.p (.mv rfl) rfl<|WQ.p (.nck rfl) rfl<|WQ.p (.fa Dj rfl Bw dD rfl) rfl<|Db (λm=>Ae (BZ _) rfl hr rfl) rfl<|WQ.p (.mv rfl) rfl<|WQ.p (.nck rfl) rfl<|WQ.p (.fa Dj rfl D8 dD rfl) rfl<|Db (λm=>Ae (g22_ _) rfl hr rfl) rfl<|WQ.p (.lenS B1 rfl) rfl<|WQ.p (.lss rfl rfl) rfl<|WQ.p (.as rfl) rfl<|CX (λb a=>?_)
 refine AW ?_
 exact ⟨CH (by (apply AY.2;(try simp only [AE,CO,BO,AF,Bo,C5,Dp,false_iff,iff_false,true_iff,iff_true]);omega)),aS⟩
theorem Th (r:Nat) (p:Option Addr) (l:l8_) (c t:Nat) (w:World) (h:Iq w r p l c t) (m:Nat) :
  Calls Tryz.prog 173 #[ptV r] (w.drewN m) λe w'=>e=.returned (.bool (decide (t<l.length)))/\∃ k,w'=w.drewN k :=
 (Ln r p l c t (w.drewN m) ⟨h.1,h.2.drewN m⟩).mono λe w' h=>⟨h.1,C6.trans ⟨m,rfl⟩ h.2⟩
def Pz (l:l8_) (t:Nat):Except Int UInt8:=match l[t]? with | some x=>.ok x | none=>.error 14
theorem Ll (r:Nat) (p:Option Addr) (l:l8_) (c t:Nat) (w:World) (h:Iq w r p l c t) (hne:0<l.length->(pA p).block≠r) (hl:l.length<=100000000) :
  Calls Tryz.prog 196 #[ptV r] w (Cf 35 (Pz l t) (λx=>.int .u8 (x.toNat:Int)) (λ_ w'=>Iq w' r p l c (t+1)/\Bh w.heap.size r w w') (λw'=>Bh w.heap.size r w w')):=by
 have hr:=h.1
 have hb:=h.2
 refine Ar func196 rfl ntmps196 ?_
 have u:=Bh.refl (w.heap.size) r w
 refine A4<|A9 rfl<|Ad<|A4<|A3 rfl<|Ao (Ln r p l c t _ ⟨hr,hb⟩) (λD d=>?_)
 have g:=hr.drew d
 have v:=hb.drew d
 have i:=BC u (Mf d)
 refine A1 (.not rfl)<|A0<|Ai rfl (λk=>?_) (λk=>?_)
 have y:=(nT k)
 refine Am<|A1 (.mkI Kr rfl)<|Fd rfl (Bt ?_)
 exact BB 14 (by unfold Pz;rw [AZ (by simp_all)]) i
 have y:=(nF k)
 have j:t<l.length:=by simp_all
 refine Ap<|A4<|A3 rfl<|A1 (.nck rfl)<|A1 (.fa Dj rfl Bw dD rfl)<|Ah (Ae (BZ _) rfl g rfl)<|A1 (.iis (((t+1:Nat):Int)) (.add rfl rfl (Ba oO)) oO)<|A1 (.nck rfl)<|A1 (.fa Dj rfl Bw dD rfl)<|Br Bw rfl rfl rfl g (by exact Nat.le_of_ble_eq_true rfl) (λB a b C=>?_)
 have a:B0 B r _ _:=a
 have b:CK r _ _:=b
 have e:=Ag.upd v b hne
 have A:=BC i (Bp b)
 refine A0<|Ad<|DH BR kR<|WQ.p (.mv rfl) rfl<|WQ.p (.nck rfl) rfl<|WQ.p (.fa Dj rfl D8 dD rfl) rfl<|Db (λm=>Ae (g22_ _) rfl a rfl) rfl<|WQ.p (.mv rfl) rfl<|WQ.p (.nck rfl) rfl<|WQ.p (.fa Dj rfl Bw dD rfl) rfl<|Db (λm=>Ae (BZ _) rfl a rfl) rfl<|WQ.p (.iis ((t:Int)) (.sub rfl rfl (Ba oO)) oO) rfl<|WQ.p (.ixb B1 EA rfl rfl (e.isp oO) (t) oO oO) rfl<|Db (λm=>Bq (Iz _) rfl ((e.drewN m).cells (t) oO)) rfl<|WQ.p (.as rfl) rfl<|CX (λE f=>?_)
 have o:=a.drew f
 have q:=e.drew f
 have s:=BC A (Mf f)
 refine AW ?_
 exact Cf.ok (l[t]'j) (by unfold Pz;rw [Aj j]) rfl ⟨⟨o,q⟩,s⟩
def Gt (l:l8_) (t:Nat) (x:UInt8):Bool:=decide (t<l.length) && decide (((l[t]!).toNat:Int)=(x.toNat:Int))
theorem Pb  {t:Nat} {x:UInt8} (h:Gt l t x=true):∃ ht:t<l.length,l[t]'ht=x:=by
 unfold Gt at h
 simp only [AE,AF] at h
 obtain ⟨a,b⟩:=h
 rw [getElem!_pos l t a] at b
 exact ⟨a,Co b⟩
theorem Te  {t:Nat} {x:UInt8} (h:Gt l t x=false) (ht:t<l.length):l[t]≠x:=by
 unfold Gt at h
 rw [AP ht,E3,getElem!_pos l t ht] at h
 exact Df (dF h)
theorem Lm (r:Nat) (p:Option Addr) (l:l8_) (c t:Nat) (x:UInt8) (w:World) (h:Iq w r p l c t) (hne:0<l.length->(pA p).block≠r) (hl:l.length<=100000000) (ht:t<=l.length) :
  Calls Tryz.prog 198 #[ptV r,.int .u8 (x.toNat:Int)] w λe w'=>e=.returned (.bool (Gt l t x))/\Iq w' r p l c (if Gt l t x then t+1 else t)/\Bh w.heap.size r w w':=by
 have hr:=h.1
 have hb:=h.2
 refine Ar func198 rfl ntmps198 ?_
 have q:=Bh.refl (w.heap.size) r w
 refine A4<|A9 rfl<|Ad<|Je 20 (Gt l t x) ?_ (λC g=>?_)
 refine DH BR kR<|WQ.p (.mv rfl) rfl<|Jc BK rfl rfl (λm=>(Th r p l c t _ ⟨hr,hb⟩ m))<|WQ.p (.mv rfl) rfl<|Kj rfl rfl rfl (λa=>?_) (λa=>?_)
 have s:=dT a
 refine WQ.p (.mv rfl) rfl<|C0 rfl rfl rfl a<|WQ.p (.nck rfl) rfl<|C0 rfl rfl rfl a<|WQ.p (.fa Dj rfl D8 dD rfl) rfl<|C0 rfl rfl rfl a<|Db (λm=>Ae (g22_ _) rfl hr rfl) rfl<|C0 rfl rfl rfl a<|WQ.p (.mv rfl) rfl<|C0 rfl rfl rfl a<|WQ.p (.nck rfl) rfl<|C0 rfl rfl rfl a<|WQ.p (.fa Dj rfl Bw dD rfl) rfl<|C0 rfl rfl rfl a<|Db (λm=>Ae (BZ _) rfl hr rfl) rfl<|C0 rfl rfl rfl a<|WQ.p (.ixb B1 EA rfl rfl (hb.isp oO) (t) oO oO) rfl<|C0 rfl rfl rfl a<|Db (λm=>Bq (Iz _) rfl ((hb.drewN m).cells (t) oO)) rfl<|C0 rfl rfl rfl a<|WQ.p (.mv rfl) rfl<|C0 rfl rfl rfl a<|WQ.p (.eql rfl rfl) rfl<|WQ.p (.pkT rfl a rfl) rfl<|CX (λD u=>?_)
 exact ⟨Gy (DM rfl (by (by_cases hq:t<l.length) <;> (unfold Gt;first | (exfalso;simp_all;done) | (rw [getElem!_pos l t hq];simp_all;done) | (rw [AJ hq];simp_all;done)))),u⟩
 have s:=dF a
 refine Bm rfl rfl rfl a<|Bm rfl rfl rfl a<|Bm rfl rfl rfl a<|Bm rfl rfl rfl a<|Bm rfl rfl rfl a<|Bm rfl rfl rfl a<|Bm rfl rfl rfl a<|Bm rfl rfl rfl a<|Bm rfl rfl rfl a<|Bm rfl rfl rfl a<|Bm rfl rfl rfl a<|WQ.p (.pkF rfl a rfl) rfl<|CX (λE v=>?_)
 exact ⟨Gy (DM rfl (by (by_cases hq:t<l.length) <;> (unfold Gt;first | (exfalso;simp_all;done) | (rw [getElem!_pos l t hq];simp_all;done) | (rw [AJ hq];simp_all;done)))),v⟩
 have f:=hr.drew g
 have i:=hb.drew g
 have j:=BC q (Mf g)
 refine Ai rfl (λy=>?_) (λy=>?_)
 refine A4<|A3 rfl<|A1 (.nck rfl)<|A1 (.fa Dj rfl Bw dD rfl)<|Ah (Ae (BZ _) rfl f rfl)<|A1 (.iis (((t+1:Nat):Int)) (.add rfl rfl (Ba oO)) oO)<|A1 (.nck rfl)<|A1 (.fa Dj rfl Bw dD rfl)<|Br Bw rfl rfl rfl f (by exact Nat.le_of_ble_eq_true rfl) (λA d b B=>?_)
 have d:B0 A r _ _:=d
 have b:CK r _ _:=b
 have k:=Ag.upd i b hne
 have o:=BC j (Bp b)
 refine A0<|A4<|A9 rfl<|AW ?_
 exact ⟨CH (by simp_all),by rw [A7 aS];exact ⟨d,k⟩,o⟩
 refine Ap<|A4<|A9 rfl<|AW ?_
 exact ⟨CH (by simp_all),by rw [A2 (bF aS)];exact ⟨f,i⟩,j⟩
theorem A7g (l:l8_) (c:UInt8) (w:World) (m:Nat):Calls Tryz.prog 49 #[.string (bs l),.int .u8 (c.toNat:Int)] (w.drewN m) λe w'=>e=.returned (Af (Lib.indexByte l c))/\∃ k,w'=w.drewN k :=
 (KO l c (w.drewN m)).mono λe w' h=>⟨h.1,m,h.2.symm⟩
theorem YB (r:Nat) (p:Option Addr) (l:l8_) (c a:Nat) (w:World) (h:Iq w r p l c a) (hne:0<l.length->(pA p).block≠r) (hl:l.length<=100000000) (ha:a<=l.length) :
  Calls Tryz.prog 172 #[ptV r] w λe w'=>e=.returned (.tuple #[])/\Iq w' r p l c (B4 false l a)/\Bh w.heap.size r w w':=by
 obtain ⟨R,hR⟩:=eX (B4 false l a)
 rw [<- hR]
 refine Ar func172 rfl ntmps172<|AO<|BM (α:=Nat) (λt=>[(0,ptV r)]) (λt w'=>Iq w' r p l c t/\Bh w.heap.size r w w'/\t<=l.length/\B4 false l t=R) (λt=>l.length-t) (a) ⟨rfl,tT⟩ (⟨h,Bh.refl _ _ _,ha,hR.symm⟩) (λt w1 hR=>?_)
 obtain ⟨q,hT,ht,hw⟩:=hR
 obtain ⟨s,rfl⟩:=eX t
 refine Ad<|A4<|A3 rfl<|Ao (Ln r p l c s _ ⟨q.1,q.2⟩) (λw1 y=>?_)
 have u:=q.1.drew y
 have v:=q.2.drew y
 have H:=BC hT (Mf y)
 refine A0<|Ai rfl (λK=>?_) (λK=>?_)
 have a0:=dT K
 have hs:=PI l s oO
 refine Ap<|AO<|Ad<|DH BR kR<|WQ.p (.mv rfl) rfl<|WQ.p (.nck rfl) rfl<|WQ.p (.fa Dj rfl D8 dD rfl) rfl<|Db (λm=>Ae (g22_ _) rfl u rfl) rfl<|WQ.p (.mv rfl) rfl<|WQ.p (.nck rfl) rfl<|WQ.p (.fa Dj rfl Bw dD rfl) rfl<|Db (λm=>Ae (BZ _) rfl u rfl) rfl<|WQ.p (.ixb B1 EA rfl rfl (v.isp oO) (s) oO oO) rfl<|Db (λm=>Bq (Iz _) rfl ((v.drewN m).cells (s) oO)) rfl<|WQ.p (.as rfl) rfl<|CX (λw6 A=>?_)
 have x:=u.drew A
 have B:=v.drew A
 have C:=BC H (Mf A)
 refine AO<|A4<|A3 rfl<|Ao (My _ _) (λaa L=>?_)
 obtain rfl:=L
 refine A9 rfl<|Ai rfl (λa1=>?_) (λa1=>?_)
 refine Am<|A3 rfl<|A1 (.nck rfl)<|A1 (.fa Dj rfl Bw dD rfl)<|Ah (Ae (BZ _) rfl x rfl)<|A1 (.iis (((s+1:Nat):Int)) (.add rfl rfl (Ba oO)) oO)<|A1 (.nck rfl)<|A1 (.fa Dj rfl Bw dD rfl)<|Br Bw rfl rfl rfl x (by exact Nat.le_of_ble_eq_true rfl) (λa2 i f a8=>?_)
 have i:B0 a2 r _ _:=i
 have f:CK r _ _:=f
 have N:=Ag.upd B f hne
 have P:=BC C (Bp f)
 refine A0<|?_
 exact ⟨s+1,⟨rfl,tT⟩,⟨⟨i,N⟩,P,oO,by rw [<- hw,hs,A2 (λe=>De (show CV (l[s]'oO)=true by assumption) (by rw [e];decide)),A7 aS]⟩,oO⟩
 refine A4<|A3 rfl<|A1 (.eql rfl rfl)<|A9 rfl<|Ai rfl (λD=>?_) (λD=>?_)
 have Q:=dT D
 refine AO<|BM (α:=Nat) (λt=>[(0,ptV r)]) (λt w'=>Iq w' r p l c t/\Bh w.heap.size r w w'/\s<=t/\t<=l.length/\B4 true l t=R/\(t=s->l[s]'oO=37)) (λt=>l.length-t) (s) ⟨rfl,tT⟩ (⟨⟨x,B⟩,C,oO,oO,by rw [Kx l s oO,A2 (by rw [show l[s]=37 from Co aS];decide),<- hw,hs,A7 (Co aS)],λ_=>Co aS⟩) (λt w1 hR=>?_)
 obtain ⟨d,a3,ab,ac,a4,a5⟩:=hR
 refine Ad<|Je 43 (RD l t) ?_ (λad k=>?_)
 refine DH BR kR<|WQ.p (.mv rfl) rfl<|Jc BK rfl rfl (λm=>(Th r p l c t _ ⟨d.1,d.2⟩ m))<|WQ.p (.mv rfl) rfl<|Kj rfl rfl rfl (λb=>?_) (λb=>?_)
 have T:=dT b
 refine WQ.p (.mv rfl) rfl<|C0 rfl rfl rfl b<|WQ.p (.nck rfl) rfl<|C0 rfl rfl rfl b<|WQ.p (.fa Dj rfl D8 dD rfl) rfl<|C0 rfl rfl rfl b<|Db (λm=>Ae (g22_ _) rfl d.1 rfl) rfl<|C0 rfl rfl rfl b<|WQ.p (.mv rfl) rfl<|C0 rfl rfl rfl b<|WQ.p (.nck rfl) rfl<|C0 rfl rfl rfl b<|WQ.p (.fa Dj rfl Bw dD rfl) rfl<|C0 rfl rfl rfl b<|Db (λm=>Ae (BZ _) rfl d.1 rfl) rfl<|C0 rfl rfl rfl b<|WQ.p (.ixb B1 EA rfl rfl (d.2.isp oO) (t) oO oO) rfl<|C0 rfl rfl rfl b<|Db (λm=>Bq (Iz _) rfl ((d.2.drewN m).cells (t) oO)) rfl<|C0 rfl rfl rfl b<|Jc BK rfl rfl (λm=>(A7g [10,12,13] _ _ m))<|C0 rfl rfl rfl b<|WQ.p (.bis (!OU (l[t]'oO)) (.lss rfl rfl) (by exact A3r _)) rfl<|WQ.p (.pkT rfl b rfl) rfl<|CX (λae U=>?_)
 exact ⟨Gy (DM rfl (by rw [Pk];(by_cases hq:t<l.length) <;> (first | (exfalso;omega) | (rw [getElem!_pos l t hq,AP hq];rfl) | (rw [AJ hq];simp_all;done)))),U⟩
 have T:=dF b
 refine Bm rfl rfl rfl b<|Bm rfl rfl rfl b<|Bm rfl rfl rfl b<|Bm rfl rfl rfl b<|Bm rfl rfl rfl b<|Bm rfl rfl rfl b<|Bm rfl rfl rfl b<|Bm rfl rfl rfl b<|Bm rfl rfl rfl b<|Bm rfl rfl rfl b<|Bm rfl rfl rfl b<|WQ.p (.pkF rfl b rfl) rfl<|CX (λaf V=>?_)
 exact ⟨Gy (DM rfl (by rw [Pk];(by_cases hq:t<l.length) <;> (first | (exfalso;omega) | (rw [getElem!_pos l t hq,AP hq];rfl) | (rw [AJ hq];simp_all;done)))),V⟩
 have o:=d.1.drew k
 have E:=d.2.drew k
 have F:=BC a3 (Mf k)
 refine Ai rfl (λa6=>?_) (λa6=>?_)
 obtain ⟨J,G⟩:=A1J aS
 rw [Kx l t J,G,A2 (by simp)] at a4
 refine Ap<|AO<|Am<|A3 rfl<|A1 (.nck rfl)<|A1 (.fa Dj rfl Bw dD rfl)<|Ah (Ae (BZ _) rfl o rfl)<|A1 (.iis (((t+1:Nat):Int)) (.add rfl rfl (Ba oO)) oO)<|A1 (.nck rfl)<|A1 (.fa Dj rfl Bw dD rfl)<|Br Bw rfl rfl rfl o (by exact Nat.le_of_ble_eq_true rfl) (λa7 j g a9=>?_)
 have j:B0 a7 r _ _:=j
 have g:CK r _ _:=g
 have X:=Ag.upd E g hne
 have Y:=BC F (Bp g)
 refine A0<|?_
 exact ⟨t+1,⟨rfl,tT⟩,⟨⟨j,X⟩,Y,oO,oO,oO,λh=>by omega⟩,oO⟩
 obtain ⟨J,G⟩:=A1K aS
 have ag:t≠s:=λe=>by subst e;exact G oO (a5 rfl)
 refine BF ?_
 exact ⟨t,⟨rfl,tT⟩,⟨⟨o,E⟩,F,oO,oO⟩,oO⟩
 have Q:=dF D
 refine AT (Cd rfl  ?_)
 exact ⟨rfl,⟨by rw [<- hw,hs,A2 (Df aS),A2 (bF aS)];exact x,B⟩,C⟩
 have a0:=dF K
 refine BF<|Cx (Cd rfl ?_)
 exact ⟨rfl,⟨by rw [show R=s by rw [<- hw,JO false l s oO];omega];exact u,v⟩,H⟩
end
section
theorem JR (c:UInt8) (w:World) :
  Calls Tryz.prog 74 #[.int .u8 (c.toNat:Int)] w λe w'=>e=.returned (.bool (CV c))/\w=w':=by
 refine Ar func74 rfl ntmps74<|A4<|A9 rfl<|A4<|A3 rfl<|Ao (KO [0,9,10,12,13,32] c _) (λb a=>?_)
 obtain rfl:=a
 refine A1 (.bis (CV c) (.geq rfl rfl) (by exact Sr c))<|A9 rfl<|AW ?_
 exact ⟨rfl,rfl⟩
theorem Ng (c:UInt8) (w:World) :
  Calls Tryz.prog 72 #[.int .u8 (c.toNat:Int)] w λe w'=>e=.returned (.bool (Da c))/\w=w':=by
 refine Ar func72 rfl ntmps72<|A4<|A9 rfl<|A4<|A3 rfl<|Ao (JR c _) (λg b=>?_)
 obtain rfl:=b
 refine A1 (.not rfl)<|A3 rfl<|Ck rfl rfl rfl (λa=>?_) (λa=>?_)
 have d:=(nT a)
 refine A3 rfl<|GX rfl rfl rfl (by rw [(nT a)] <;> rfl)<|Ao (KO [40,41,60,62,91,93,123,125,47,37] c _) (λh f=>?_)
 obtain rfl:=f
 refine GX rfl rfl rfl (by rw [(nT a)] <;> rfl)<|A1 (.bis (!Hs c) (.lss rfl rfl) (by exact Sq c))<|A1 (.pkT rfl (by rw [(nT a)] <;> rfl) rfl)<|A9 rfl<|AW ?_
 exact ⟨CH (by unfold Da;simp_all),rfl⟩
 have d:=(nF a)
 refine Ie rfl rfl rfl (by rw [(nF a)] <;> rfl)<|Ie rfl rfl rfl (by rw [(nF a)] <;> rfl)<|A1 (.pkF rfl (by rw [(nF a)] <;> rfl) rfl)<|A9 rfl<|AW ?_
 exact ⟨CH (by unfold Da;simp_all),rfl⟩
def IZ (l:l8_) (a:Int):Nat:=if a<0\/(l.length:Int)<a then l.length else a.toNat
theorem XN (l:l8_) (a:Int):IZ l a<=l.length:=by unfold IZ;split <;> omega
theorem KR (l:l8_) (a:Nat) (h:a<=l.length):IZ l a=a:=by unfold IZ;rw [A2 oO];omega
theorem Oz (p:Option Addr) (l:l8_) (c:Nat) (a:Int) (w:World) :
  Calls Tryz.prog 71 #[.slice p l.length c,Af a] w λe w'=>e=.returned (Af (IZ l a:Int))/\w=w':=by
 refine Ar func71 rfl ntmps71<|A4<|A9 rfl<|Ad<|FT 12 (decide (a<0\/(l.length:Int)<a)) ?_ ?_
 refine Am<|A3 rfl<|A1 (.lss rfl rfl)<|A3 rfl<|Ck rfl rfl rfl (λb=>?_) (λb=>?_)
 have f:=dF b
 refine A3 rfl<|Az b<|A3 rfl<|Az b<|A1 (.lenS B1 rfl)<|Az b<|A1 (.gtr rfl rfl)<|A1 (.pkF rfl b rfl)<|A0<|?_
 exact ⟨Gy (DM rfl (by (apply AY.2;(try simp) <;> omega))),rfl⟩
 have f:=dT b
 refine Bc b<|Bc b<|Bc b<|A1 (.pkT rfl b rfl)<|A0<|?_
 exact ⟨Gy (DM rfl (by (apply AY.2;(try simp) <;> omega))),rfl⟩
 refine Ai rfl (λd=>?_) (λd=>?_)
 have g:=dT d
 refine A4<|A3 rfl<|A1 (.lenS B1 rfl)<|A9 rfl<|AW ?_
 exact ⟨DS (by unfold IZ;rw [A7 aS]),rfl⟩
 have g:=dF d
 refine Ap<|A4<|A3 rfl<|A9 rfl<|AW ?_
 exact ⟨DS (by unfold IZ;rw [A2 aS];omega),rfl⟩
theorem Ju (p:Option Addr) (l:l8_) (c:Nat) (a:Int) (w:World) (hb:Ag w p l) (hl:l.length<=100000000) :
  Calls Tryz.prog 53 #[.slice p l.length c,Af a] w λe w'=>e=.returned (Af (B4 false l (IZ l a):Int))/\w=w':=by
 obtain ⟨R,hR⟩:=eX (B4 false l (IZ l a))
 have ha:=XN l a
 rw [<- hR]
 refine Ar func53 rfl ntmps53<|A4<|A9 rfl<|A4<|A3 rfl<|A3 rfl<|Ao (Oz p l c a _) (λm o=>?_)
 obtain rfl:=o
 refine A9 rfl<|Ad<|AO<|BM (α:=Nat) (λt=>[(0,.slice p l.length c),(1,Af (t:Int))]) (λt w'=>w=w'/\t<=l.length/\B4 false l t=R) (λt=>l.length-t) (IZ l a) ⟨rfl,rfl,tT⟩ (⟨rfl,ha,hR.symm⟩) (λt m hR=>?_)
 obtain ⟨rfl,ht,hw⟩:=hR
 obtain ⟨s,rfl⟩:=eX t
 refine Ad<|A4<|A3 rfl<|A3 rfl<|A1 (.lenS B1 rfl)<|A1 (.lss rfl rfl)<|A0<|Ai rfl (λj=>?_) (λj=>?_)
 have q:=dT j
 refine Ap<|AO<|Ad<|Am ?_
 have hs:=PI l s oO
 refine A3 rfl<|A3 rfl<|A1 (.ixb B1 EA rfl rfl (hb.isp oO) (s) (rfl) oO)<|Ah (Bq (Iz _) rfl (hb.cells (s) oO))<|A9 rfl<|AO<|A4<|A3 rfl<|Ao (JR _ _) (λJ u=>?_)
 obtain rfl:=u
 refine A9 rfl<|Ai rfl (λD=>?_) (λD=>?_)
 refine Am<|A3 rfl<|A1 (.add rfl rfl (Ba oO))<|A9 rfl ?_
 exact ⟨s+1,⟨rfl,O4 rfl oO,tT⟩,⟨rfl,oO,by rw [<- hw,hs,A2 (by rintro e;simp_all [CV]),A7 (by simp_all)]⟩,oO⟩
 refine A4<|A3 rfl<|A1 (.eql rfl rfl)<|A9 rfl<|Ai rfl (λk=>?_) (λk=>?_)
 have v:=dT k
 refine AO<|BM (α:=Nat) (λt=>[(0,.slice p l.length c),(1,Af (t:Int))]) (λt w'=>w=w'/\s<=t/\t<=l.length/\B4 true l t=R/\(t=s->l[s]'oO=37)) (λt=>l.length-t) (s) ⟨rfl,rfl,tT⟩ (⟨rfl,oO,oO,by rw [Kx l s oO,A2 (by rw [show l[s]=37 from Co aS];decide),<- hw,hs,A7 (Co aS)],λ_=>Co aS⟩) (λt m hR=>?_)
 obtain ⟨rfl,F,G,x,y⟩:=hR
 refine Ad<|FT 50 (RD l t) ?_ ?_
 refine Am<|A3 rfl<|A3 rfl<|A1 (.lenS B1 rfl)<|A1 (.lss rfl rfl)<|A3 rfl<|Ck rfl rfl rfl (λb=>?_) (λb=>?_)
 have A:=dT b
 refine A3 rfl<|Az b<|A3 rfl<|Az b<|A1 (.ixb B1 EA rfl rfl (hb.isp oO) (t) (rfl) oO)<|Az b<|Ah (Bq (Iz _) rfl (hb.cells (t) oO))<|Az b<|A1 (.neq rfl rfl)<|A1 (.pkT rfl b rfl)<|A3 rfl<|Ck rfl rfl rfl (λd=>?_) (λd=>?_)
 have B:=ndT d
 refine A3 rfl<|Az d<|A3 rfl<|Az d<|A1 (.ixb B1 EA rfl rfl (hb.isp oO) (t) (rfl) oO)<|Az d<|Ah (Bq (Iz _) rfl (hb.cells (t) oO))<|Az d<|A1 (.neq rfl rfl)<|A1 (.pkT rfl d rfl)<|A3 rfl<|Ck rfl rfl rfl (λf=>?_) (λf=>?_)
 have C:=ndT f
 refine A3 rfl<|Az f<|A3 rfl<|Az f<|A1 (.ixb B1 EA rfl rfl (hb.isp oO) (t) (rfl) oO)<|Az f<|Ah (Bq (Iz _) rfl (hb.cells (t) oO))<|Az f<|A1 (.neq rfl rfl)<|A1 (.pkT rfl f rfl)<|A0<|?_
 exact ⟨Gy (DM rfl (by (by_cases hq:t<l.length) <;> (unfold RD;first | (exfalso;omega) | (rw [getElem!_pos l t hq];simp_all;done) | (rw [AJ hq];simp_all;done)))),rfl⟩
 have C:=ndF f
 refine Bc f<|Bc f<|Bc f<|Bc f<|A1 (.pkF rfl f rfl)<|A0<|?_
 exact ⟨Gy (DM rfl (by (by_cases hq:t<l.length) <;> (unfold RD;first | (exfalso;omega) | (rw [getElem!_pos l t hq];simp_all;done) | (rw [AJ hq];simp_all;done)))),rfl⟩
 have B:=ndF d
 refine Bc d<|Bc d<|Bc d<|Bc d<|A1 (.pkF rfl d rfl)<|A3 rfl<|Bc rfl<|Bc rfl<|Bc rfl<|Bc rfl<|Bc rfl<|A1 (.pkF rfl rfl rfl)<|A0<|?_
 exact ⟨Gy (DM rfl (by (by_cases hq:t<l.length) <;> (unfold RD;first | (exfalso;omega) | (rw [getElem!_pos l t hq];simp_all;done) | (rw [AJ hq];simp_all;done)))),rfl⟩
 have A:=dF b
 refine Bc b<|Bc b<|Bc b<|Bc b<|A1 (.pkF rfl b rfl)<|A3 rfl<|Bc rfl<|Bc rfl<|Bc rfl<|Bc rfl<|Bc rfl<|A1 (.pkF rfl rfl rfl)<|A3 rfl<|Bc rfl<|Bc rfl<|Bc rfl<|Bc rfl<|Bc rfl<|A1 (.pkF rfl rfl rfl)<|A0<|?_
 exact ⟨Gy (DM rfl (by (by_cases hq:t<l.length) <;> (unfold RD;first | (exfalso;omega) | (rw [getElem!_pos l t hq];simp_all;done) | (rw [AJ hq];simp_all;done)))),rfl⟩
 refine Ai rfl (λE=>?_) (λE=>?_)
 obtain ⟨i,g⟩:=A1J aS
 rw [Kx l t i,g,A2 (by simp)] at x
 refine Ap<|AO<|Am<|A3 rfl<|A1 (.add rfl rfl (Ba oO))<|A9 rfl ?_
 exact ⟨t+1,⟨rfl,O4 rfl oO,tT⟩,⟨rfl,oO,oO,oO,λh=>by omega⟩,oO⟩
 obtain ⟨i,g⟩:=A1K aS
 have H:t≠s:=λe=>by subst e;exact g oO (y rfl)
 refine BF ?_
 exact ⟨t,⟨rfl,O4 rfl oO,tT⟩,⟨rfl,oO,oO⟩,oO⟩
 have v:=dF k
 refine A4<|A3 rfl<|A9 rfl<|AW ?_
 exact ⟨DS (by rw [<- hw,hs,A2 (Df aS),A2 (by simp_all)]),rfl⟩
 have q:=dF j
 refine BF<|A4<|A3 rfl<|A9 rfl<|AW ?_
 exact ⟨DS (by rw [JO false l s oO] at hw;omega),rfl⟩
def Dr (l:l8_) (a:Nat):l8_:=(l.drop a).take (BA l a-a)
theorem Pp (l:l8_) (a:Nat):Dr l a=(l.drop a).takeWhile Da:=RN l a
theorem S9 (p:Option Addr) (l:l8_) (c:Nat) (a:Int) (w:World) (hb:Ag w p l) (hc:l.length<=c) (hl:l.length<=100000000) :
  Calls Tryz.prog 50 #[.slice p l.length c,Af a] w λe w'=>e=.returned (.tuple #[.string (bs (Dr l (IZ l a))),Af (BA l (IZ l a):Int)])/\w=w':=by
 obtain ⟨R,hR⟩:=eX (BA l (IZ l a))
 have ha:=XN l a
 have f:=F6 l (IZ l a) ha
 unfold Dr
 rw [<- hR] at f ⊢
 refine Ar func50 rfl ntmps50<|A4<|Ct rfl<|A9 rfl<|A4<|A3 rfl<|A3 rfl<|Ao (Oz p l c a _) (λj g=>?_)
 obtain rfl:=g
 refine A9 rfl<|A4<|A3 rfl<|A9 rfl<|Ad<|AO<|BM (α:=Nat) (λt=>[(0,.slice p l.length c),(1,Af (IZ l a:Int)),(5,Af (t:Int))]) (λt w'=>w=w'/\t<=l.length/\BA l t=R) (λt=>l.length-t) (IZ l a) ⟨rfl,rfl,rfl,tT⟩ (⟨rfl,ha,hR.symm⟩) (λt j hR=>?_)
 obtain ⟨rfl,ht,hw⟩:=hR
 refine Ad<|A4<|A3 rfl<|A3 rfl<|A1 (.lenS B1 rfl)<|A1 (.lss rfl rfl)<|A3 rfl<|Ck rfl rfl rfl (λb=>?_) (λb=>?_)
 have h:=dT b
 have hs:=FP Da l t oO
 refine A3 rfl<|Az b<|A3 rfl<|Az b<|A1 (.ixb B1 EA rfl rfl (hb.isp oO) (t) (rfl) oO)<|Az b<|Ah (Bq (Iz _) rfl (hb.cells (t) oO))<|Az b<|Ao (Ng _ _) (λm i=>?_)
 obtain rfl:=i
 refine A1 (.pkT rfl b rfl)<|A0<|Ai rfl (λk=>?_) (λk=>?_)
 refine Ap<|AO<|Am<|A3 rfl<|A1 (.add rfl rfl (Ba oO))<|A9 rfl ?_
 exact ⟨t+1,⟨rfl,rfl,O4 rfl oO,tT⟩,⟨rfl,oO,by unfold BA at hw ⊢;rw [hs,A7 aS,Aa] at hw;omega⟩,oO⟩
 refine BF<|Ad ?_
 have d:t=R:=by
  by_cases hq:t<l.length;have hs:=FP Da l t hq;unfold BA at hw;rw [hs,A2 (by simp_all),Ak] at hw;omega;unfold BA at hw;rw [Bv oO] at hw;simp at hw;omega
 refine Am<|A3 rfl<|A3 rfl<|A3 rfl<|A1 (.slb B1 EA rfl rfl rfl  (IZ l a) (R) (rfl) oO oO oO)<|Ah (IV B1 FK Gk rfl rfl hb oO oO oO)<|A3 rfl<|Ct rfl<|A9 rfl<|AT (D0 rfl rfl rfl ?_)
 exact ⟨AU (by subst d;rfl),rfl⟩
 have h:=dF b
 refine Bc b<|Bc b<|Bc b<|Bc b<|A1 (.pkF rfl b rfl)<|A0<|Aq rfl rfl<|BF<|Ad ?_
 have d:t=R:=by
  by_cases hq:t<l.length;have hs:=FP Da l t hq;unfold BA at hw;rw [hs,A2 (by simp_all),Ak] at hw;omega;unfold BA at hw;rw [Bv oO] at hw;simp at hw;omega
 refine Am<|A3 rfl<|A3 rfl<|A3 rfl<|A1 (.slb B1 EA rfl rfl rfl  (IZ l a) (R) (rfl) oO oO oO)<|Ah (IV B1 FK Gk rfl rfl hb oO oO oO)<|A3 rfl<|Ct rfl<|A9 rfl<|AT (D0 rfl rfl rfl ?_)
 exact ⟨AU (by subst d;rfl),rfl⟩
theorem Nl (l cs:l8_) (w:World) (hl:l.length<=100000000) (hc:cs.length<=1000) (ha:∀ b∈cs,b.toNat<128) :
  Cb 73 #[.string (bs l),.string (bs cs)] w (.string (bs (Lib.trimS l cs))):=by
 refine (Any.strings_Trim_laid Tryz.lays160 kR (bs l) (bs cs) w (by rw [BV];omega) (by rw [BV];omega) ?_).mono λe w' h=>⟨?_,h.2⟩
 ·
  intro j b hb
  have:(bs cs).data.toList=cs:=by simp [bs]
  rw [this] at hb
  exact ha b (List.mem_of_getElem? hb)
 ·
  rw [h.1]
  have a:(bs l).data.toList=l:=by simp [bs]
  have c:(bs cs).data.toList=cs:=by simp [bs]
  rw [a,c];rfl
theorem Px (l:l8_):(decide (Lib.trimS l [48,49,50,51,52,53,54,55,56,57]=[]))=l.all BW:=by
 have:(λx=>([48,49,50,51,52,53,54,55,56,57]:l8_).contains x)=BW:=funext Mq
 rw [AY,AF,Ji,this]
def FC (s:l8_):Bool:=!decide (s=[]) && decide (s.length<=10) && s.all BW
def Fx (s:l8_) (most:Int):Int × Bool:=if FC s then ((Cv s:Int),decide ((Cv s:Int)<=most)) else (0,false)
theorem Wm (s:l8_) (most:Int) (w:World) (hl:s.length<=100000000) :
  Cb 158 #[.string (bs s),Af most] w (.tuple #[Af (Fx s most).1,.bool (Fx s most).2]):=by
 refine Ar func158 rfl ntmps158 ?_
 have f:=CN w
 refine A4<|Ct rfl<|A9 rfl<|Ad<|If (α:=Unit) (λt=>[(0,.string (bs s)),(1,Af most),(4,Af 0),(5,.bool false),(20,.bool (!FC s))]) (λt w'=>AL w w') ?_ (λt E hR=>?_)
 refine Am<|A3 rfl<|A1 (.eqs rfl rfl)<|A3 rfl<|Ck rfl rfl rfl (λa=>?_) (λa=>?_)
 have q:=dF a
 refine A3 rfl<|Az a<|A1 (.len Gk rfl)<|Az a<|A1 (.gtr rfl rfl)<|A1 (.pkF rfl a rfl)<|A3 rfl<|Ck rfl rfl rfl (λb=>?_) (λb=>?_)
 have u:=dF b
 refine A3 rfl<|Az b<|Ao (Nl s [48,49,50,51,52,53,54,55,56,57] _ hl dD dD) (λT v=>?_)
 have x:=Ci f v
 refine Az b<|A1 (.bis (!s.all BW) (.nes rfl rfl) (by rw [Px]))<|A1 (.pkF rfl b rfl)<|A0<|?_
 exact ⟨(),⟨rfl,rfl,rfl,rfl,DM rfl (by unfold FC;first | (simp_all;done) | (simp_all;omega)),tT⟩,x⟩
 have u:=dT b
 refine Bc b<|Bc b<|A1 (.pkT rfl b rfl)<|A0<|?_
 exact ⟨(),⟨rfl,rfl,rfl,rfl,DM rfl (by unfold FC;first | (simp_all;done) | (simp_all;omega)),tT⟩,f⟩
 have q:=dT a
 refine Bc a<|Bc a<|A1 (.pkT rfl a rfl)<|A3 rfl<|Bc rfl<|Bc rfl<|Bc rfl<|A1 (.pkT rfl rfl rfl)<|A0<|?_
 exact ⟨(),⟨rfl,rfl,rfl,rfl,DM rfl (by unfold FC;first | (simp_all;done) | (simp_all;omega)),tT⟩,f⟩
 have g:=hR
 refine Ai rfl (λF=>?_) (λF=>?_)
 have k:FC s=false:=by simp_all
 refine A4<|Ct rfl<|A9 rfl<|AT (D0 rfl rfl rfl ?_)
 exact ⟨A0j (by unfold Fx;rw [k];rfl) (by unfold Fx;rw [k];rfl),g⟩
 have h:FC s=true:=by simp_all
 have d:=h
 unfold FC at d
 simp only [AE,AF,BO,Bo] at d
 have j:=AN.1 d.2
 refine Ap<|A4<|A9 rfl<|Ad<|A4<|A3 rfl<|TG Gk B1 FK rfl rfl (λG y cz l hz J m H=>?_)
 have B:=uB g l m
 have D:=CF l g.size
 refine A1 (.lenS B1 rfl)<|A3 rfl<|A0<|AO<|BM (α:=Nat) (λt=>[(0,.string (bs s)),(1,Af most),(6,Af (Cv (s.take t):Int)),(22,.slice (some ⟨G,0,none⟩) s.length cz),(23,Af (s.length:Int)),(24,Af (t:Int))]) (λt w'=>y=w'/\t<=s.length) (λt=>s.length-t) (0) ⟨rfl,rfl,rfl,rfl,rfl,rfl,tT⟩ (⟨rfl,FI _⟩) (λt E hR=>?_)
 obtain ⟨i,rfl⟩:=eX t
 obtain ⟨rfl,hi⟩:=hR
 refine A4<|A1 (.lss rfl rfl)<|A0<|Ad<|Ai rfl (λo=>?_) (λo=>?_)
 have C:=dT o
 refine Ap<|Ad<|AO<|A4<|A1 (.ixb B1 EA rfl rfl (hz.isp oO) (i) (rfl) oO)<|Ah (Bq (Iz _) rfl (hz.cells (i) oO))<|A9 rfl ?_
 have K:=Ho s i oO
 have L:=Et (j _ (AA (show i<s.length by omega)))
 have P:=HU (s.take i) (λc hc=>j c (Eh hc))
 have Q:10 ^ (s.take i).length<=10 ^ 9:=Nat.pow_le_pow_right oO (by rw [At];omega)
 refine Am<|A3 rfl<|A1 (.mul rfl rfl (Ba oO))<|A3 rfl<|A1 (.sub rfl rfl (Pu oO))<|A1 (.cvt FK Mu rfl (Ba oO))<|A1 (.iis ((Cv (s.take (i+1)):Int)) (.add rfl rfl (Ba oO)) oO)<|A9 rfl<|Am<|A1 (.iis (((i+1:Nat):Int)) (.add rfl rfl (Ba oO)) oO)<|A3 rfl<|A0<|?_
 exact ⟨i+1,⟨rfl,rfl,rfl,rfl,rfl,rfl,tT⟩,⟨rfl,oM⟩,oM⟩
 have C:=dF o
 refine BF<|Ad ?_
 obtain rfl:i=s.length:=by omega
 rw [Dc]
 refine Am<|A3 rfl<|A3 rfl<|A3 rfl<|A1 (.leq rfl rfl)<|Ct rfl<|A9 rfl<|AT (D0 rfl rfl rfl ?_)
 exact ⟨A0j (by unfold Fx;rw [h];rfl) (by unfold Fx;rw [h];rfl),B⟩
end
section
def JS (l:l8_):Int × Bool:=if 64<l.length then (0,false) else KF l
theorem Zu (l:l8_) (w:World) :
  Cb 159 #[.string (bs l)] w (.tuple #[Af (JS l).1,.bool (JS l).2]):=by
 unfold JS
 split
 · exact (QD l w aS).mono λe w' h=>⟨h.1,h.2▸Gb _ _⟩
 · exact OZ l w oO
end
section
def Rn (k n:Int) (s:l8_):List Value:=[Af k,Af n,.string (bs s),.slice none 0 0,.slice none 0 0,.slice none 0 0]
def Ox (c:UInt8):Bool:=BW c || c == 43 || c == 45
theorem A2F (l:l8_):(decide (Lib.trimS l [43,45,48,49,50,51,52,53,54,55,56,57]=[]))=l.all Ox:=by
 have:(λx=>([43,45,48,49,50,51,52,53,54,55,56,57]:l8_).contains x)=Ox:=by
  funext x
  have key:∀ n:Fin 256,([43,45,48,49,50,51,52,53,54,55,56,57]:l8_).contains (UInt8.ofNat n.1)=Ox (UInt8.ofNat n.1):=by decide +kernel
  have:=key ⟨x.toNat,Cg x⟩
  simpa using this
 rw [AY,AF,Ji,this]
theorem A3s (l:l8_):decide (0<=Lib.indexByte l 46)=l.contains 46:=by
 exact (Lib.contains_iff_indexByte l 46).symm
def Nj (s:l8_):Int × Int × Bool :=
 if s.contains 46 then (3,(JS s).1,(JS s).2)
 else if (FO s).ok && decide ((FO s).e=0) && decide ((FO s).kind=1) && s.all Ox then (2,(FO s).n,true) else (0,0,false)
theorem Um (s:l8_) (w:World) (hl:s.length<=100000000) :
  Cb 136 #[.string (bs s)] w (.tuple #[.agg (Rn (Nj s).1 (Nj s).2.1 []).toArray,.bool (Nj s).2.2]):=by
 obtain ⟨T,hT⟩:=eX (FO s)
 have d:∀ w,Cb 160 #[.string (bs s)] w T.val:=λw=>by rw [hT];exact SD _ w
 obtain ⟨D,hD⟩:=eX (s.contains 46)
 have hN:Nj s=if D then (3,(JS s).1,(JS s).2) else if T.ok && decide (T.e=0) && decide (T.kind=1) && s.all Ox then (2,T.n,true) else (0,0,false):=by rw [hT,hD];rfl
 refine Ar func136 rfl ntmps136 ?_
 have ag:=CN w
 refine A4<|Bj Cz rfl (λb1 aA ah l a0 ax=>?_)
 have V:=uB ag ah a0
 refine A9 rfl<|Ad<|A4<|A3 rfl<|Ao (KO s 46 _) (λw3 ai=>?_)
 obtain rfl:=ai
 refine A1 (.bis (D) (.geq rfl rfl) (by rw [hD];exact A3s s))<|A0<|Ai rfl (λh4=>?_) (λh4=>?_)
 refine A4<|A3 rfl<|Ao (Zu s _) (λw5 X=>?_)
 have aj:=l.bl X
 have ak:=Ci V X
 refine A3 rfl<|A1 (.ext rfl rfl)<|A1 (.ext rfl rfl)<|Ct rfl<|A9 rfl<|A4<|A3 rfl<|?_
 refine A1 (.buildL (ps:=_) Er rfl rfl rfl pS) ?_
 refine A3 rfl<|Ax rfl rfl aj Al rfl rfl (λw8 a1 a2 ay=>?_)
 have am:=BU ak oO a2
 refine A9 rfl<|AT (Dn rfl rfl (Be a1 Ay rfl Al) rfl ?_)
 exact ⟨AU (by rw [hN,A7 aS];rfl),am⟩
 refine Ap<|A4<|A3 rfl<|Ao (d _) (λaB m=>?_)
 have o:=l.bl m
 have a3:=Ci V m
 refine A3 rfl<|A1 (.ext rfl rfl)<|A1 (.ext rfl rfl)<|A1 (.ext rfl rfl)<|Bj HJ rfl (λaC az q C i ao=>?_)
 have a4:=Bl q o.lt
 have a5:=o.un i a4
 have a6:=uB a3 q i
 refine Ax rfl rfl C BL rfl rfl (λaD j k ap=>?_)
 have f:=a5.up k
 have g:=BU a6 oO k
 refine Ct rfl<|A9 rfl<|Ad<|A4<|A3 rfl<|A1 (.not rfl)<|A3 rfl<|Ck rfl rfl rfl (λc=>?_) (λc=>?_)
 have a7:=(nF c)
 refine A3 rfl<|GX rfl rfl rfl (by rw [(nF c)] <;> rfl)<|A1 (.neq rfl rfl)<|A1 (.pkF rfl (by rw [(nF c)] <;> rfl) rfl)<|A3 rfl<|Ck rfl rfl rfl (λa=>?_) (λa=>?_)
 have a8:=ndF a
 refine A1 (.fa DX rfl Bw dD rfl)<|Az a<|Ah (Ae (BZ _) rfl j rfl)<|Az a<|A1 (.neq rfl rfl)<|A1 (.pkF rfl a rfl)<|A3 rfl<|Ck rfl rfl rfl (λb=>?_) (λb=>?_)
 have a9:=ndF b
 refine A3 rfl<|Az b<|Ao (Nl s [43,45,48,49,50,51,52,53,54,55,56,57] _ hl dD dD) (λaE h=>?_)
 have t:=f.bl h
 have aa:=j.bl h
 have u:=Ci g h
 refine Az b<|A1 (.bis (!s.all Ox) (.nes rfl rfl) (by rw [A2F]))<|A1 (.pkF rfl b rfl)<|A0<|Ai rfl (λan=>?_) (λan=>?_)
 refine A4<|A1 (.buildL (ps:=_) Er rfl rfl rfl pZ) ?_
 refine Ax rfl rfl t Al rfl rfl (λaF E F aq=>?_)
 have ab:=BU u oO F
 refine A9 rfl<|AT (Dn rfl rfl (Be E Ay rfl Al) rfl ?_)
 exact ⟨AU (by rw [hN,A2 (bF aS),A2 (by intro hx;simp only [AE,AF] at hx;obtain ⟨⟨⟨v,x⟩,y⟩,B⟩:=hx;clear hN hT d;simp_all)];rfl),ab⟩
 refine Ap<|A4<|A1 (.fa DX rfl Bw dD rfl)<|Ah (Ae (BZ _) rfl aa rfl)<|?_
 refine A1 (.buildL (ps:=_) Er rfl rfl rfl pS) ?_
 refine Ax rfl rfl t Al rfl rfl (λaG G H ar=>?_)
 have ac:=BU u oO H
 refine A9 rfl<|AT (Dn rfl rfl (Be G Ay rfl Al) rfl ?_)
 exact ⟨AU (by rw [hN,A2 (bF aS),A7 (by simp only [AE,AF];clear hN hT d;simp_all)];rfl),ac⟩
 have a9:=ndT b
 refine Bc b<|Bc b<|A1 (.pkT rfl b rfl)<|A0<|BQ rfl rfl ?_
 refine A4<|A1 (.buildL (ps:=_) Er rfl rfl rfl pZ) ?_
 refine Ax rfl rfl f Al rfl rfl (λaH J K au=>?_)
 have ad:=BU g oO K
 refine A9 rfl<|AT (Dn rfl rfl (Be J Ay rfl Al) rfl ?_)
 exact ⟨AU (by rw [hN,A2 (bF aS),A2 (by intro hx;simp only [AE,AF] at hx;obtain ⟨⟨⟨v,x⟩,y⟩,B⟩:=hx;clear hN hT d;simp_all)];rfl),ad⟩
 have a8:=ndT a
 refine Bc a<|Bc a<|A1 (.pkT rfl a rfl)<|A3 rfl<|Bc rfl<|Bc rfl<|Bc rfl<|A1 (.pkT rfl rfl rfl)<|A0<|BQ rfl rfl ?_
 refine A4<|A1 (.buildL (ps:=_) Er rfl rfl rfl pZ) ?_
 refine Ax rfl rfl f Al rfl rfl (λaI L P av=>?_)
 have ae:=BU g oO P
 refine A9 rfl<|AT (Dn rfl rfl (Be L Ay rfl Al) rfl ?_)
 exact ⟨AU (by rw [hN,A2 (bF aS),A2 (by intro hx;simp only [AE,AF] at hx;obtain ⟨⟨⟨v,x⟩,y⟩,B⟩:=hx;clear hN hT d;simp_all)];rfl),ae⟩
 have a7:=(nT c)
 refine Ie rfl rfl rfl (by rw [(nT c)] <;> rfl)<|A1 (.pkT rfl (by rw [(nT c)] <;> rfl) rfl)<|A3 rfl<|Bc rfl<|Bc rfl<|Bc rfl<|A1 (.pkT rfl rfl rfl)<|A3 rfl<|Bc rfl<|Bc rfl<|Bc rfl<|A1 (.pkT rfl rfl rfl)<|A0<|BQ rfl rfl ?_
 refine A4<|A1 (.buildL (ps:=_) Er rfl rfl rfl pZ) ?_
 refine Ax rfl rfl f Al rfl rfl (λaJ Q U aw=>?_)
 have af:=BU g oO U
 refine A9 rfl<|AT (Dn rfl rfl (Be Q Ay rfl Al) rfl ?_)
 exact ⟨AU (by rw [hN,A2 (bF aS),A2 (by intro hx;simp only [AE,AF] at hx;obtain ⟨⟨⟨v,x⟩,y⟩,B⟩:=hx;clear hN hT d;simp_all)];rfl),af⟩
def P2 (w:World) (r:Nat) (p:Option Addr) (l:l8_) (c t:Nat) (refs:Bool):Prop:=B0 w r #[.slice p l.length c,Af (t:Int),.bool refs] 133/\Ag w p l
theorem A0d (p:Option Addr) (l:l8_) (c a:Nat) (w:World) (hb:Ag w p l) (ha:a<=l.length) (hl:l.length<=100000000) (d:Nat) (hd:d=B4 false l a) (m:Nat) :
  Calls Tryz.prog 53 #[.slice p l.length c,Af (a:Int)] (w.drewN m) λe w'=>e=.returned (Af (d:Int))/\∃ k,w'=w.drewN k :=
 (Ju p l c a (w.drewN m) (hb.drewN m) hl).mono λe w' h=>⟨by rw [h.1,KR l a ha,hd],m,h.2.symm⟩
theorem SO (p:Option Addr) (l:l8_) (c a:Nat) (w:World) (hb:Ag w p l) (hc:l.length<=c) (ha:a<=l.length) (hl:l.length<=100000000) (m:Nat) :
  Calls Tryz.prog 50 #[.slice p l.length c,Af (a:Int)] (w.drewN m) λe w'=>e=.returned (.tuple #[.string (bs (Dr l a)),Af (BA l a:Int)])/\∃ k,w'=w.drewN k :=
 (S9 p l c a (w.drewN m) (hb.drewN m) hc hl).mono λe w' h=>⟨by rw [h.1,KR l a ha],m,h.2.symm⟩
def Jk (refs:Bool) (l:l8_) (s:l8_) (t:Nat):Option (Int × Nat) :=
 if refs && (Fx s 4096).2 && decide (1<=(Fx s 4096).1) then
  (if Dr l (B4 false l t) = [48] then
   (if Dr l (B4 false l (BA l (B4 false l t)))=[82] then some ((Fx s 4096).1,BA l (B4 false l (BA l (B4 false l t)))) else none)
  else none)
 else none
def A0r (o:Option (Int × Nat)):Int × Int:=match o with | some (n,_)=>(8,n) | none=>(0,0)
def A79 (o:Option (Int × Nat)):Value:=.tuple #[.agg (Rn (A0r o).1 (A0r o).2 []).toArray,.bool o.isSome]
def W7 (o:Option (Int × Nat)) (t:Nat):Nat:=match o with | some (_,b)=>b | none=>t
theorem A0B (r:Nat) (p:Option Addr) (l:l8_) (c t:Nat) (refs:Bool) (s:l8_) (w:World) (h:P2 w r p l c t refs) (hne:0<l.length->(pA p).block≠r) (hc:l.length<=c) (hl:l.length<=100000000) (ht:t<=l.length) (hs:s.length<=100000000) :
  Calls Tryz.prog 135 #[ptV r,.string (bs s)] w λe w'=>e=.returned (A79 (Jk refs l s t))/\P2 w' r p l c (W7 (Jk refs l s t) t) refs/\Bh w.heap.size r w w':=by
 have hr:=h.1
 have hb:=h.2
 obtain ⟨a,ha⟩:=eX (B4 false l t)
 obtain ⟨b,G⟩:=eX (B4 false l (BA l a))
 have a4:a<=l.length:=by rw [ha];exact Ec _ _ _
 have aw:b<=l.length:=by rw [G];exact Ec _ _ _
 have ax:=F6 l a a4
 have hR:Jk refs l s t=if refs && (Fx s 4096).2 && decide (1<=(Fx s 4096).1) then (if Dr l a=[48] then (if Dr l b=[82] then some ((Fx s 4096).1,BA l b) else none) else none) else none:=by rw [G,ha];rfl
 obtain ⟨N,hN⟩:=eX (Fx s 4096)
 have hW:∀ w,Cb 158 #[.string (bs s),Af 4096] w (.tuple #[Af N.1,.bool N.2]):=λw=>by rw [hN];exact Wm s 4096 w hs
 rw [<- hN] at hR
 generalize Jk refs l s t=R at hR ⊢
 refine Ar func135 rfl ntmps135 ?_
 have a5:=Bh.refl (w.heap.size) r w
 refine A4<|Bj Cz rfl (λb1 aI H a9 E aH=>?_)
 have ay:=Bl H hr.lt
 have az:=hr.un E ay
 have f:=λh0=>H▸hb.lt h0
 have a6:=Ce hb E f
 have Y:=CF H a5.size
 have a7:=BC a5 (DJ E Y)
 refine A9 rfl<|A4<|A3 rfl<|Ao (hW _) (λw7 F=>?_)
 have j:=az.bl F
 have a8:=a9.bl F
 have k:=DL a6 F (λh0=>a6.lt h0)
 have J:=BC a7 (EX (Fo F) a7.size)
 refine A3 rfl<|A1 (.ext rfl rfl)<|A1 (.ext rfl rfl)<|Ct rfl<|A9 rfl<|Ad<|FT 28 (!(refs && N.2 && decide (1<=N.1))) ?_ ?_
 refine Am<|A3 rfl<|A1 (.nck rfl)<|A1 (.fa CC rfl RX dD rfl)<|Ah (Ae (g4_ _) rfl j rfl)<|A1 (.not rfl)<|A3 rfl<|Ck rfl rfl rfl (λg=>?_) (λg=>?_)
 have aa:=(nF g)
 refine A3 rfl<|GX rfl rfl rfl (by rw [(nF g)] <;> rfl)<|A1 (.not rfl)<|A1 (.pkF rfl (by rw [(nF g)] <;> rfl) rfl)<|A3 rfl<|Ck rfl rfl rfl (λi=>?_) (λi=>?_)
 have ab:=(nF i)
 refine A3 rfl<|GX rfl rfl rfl (by rw [(nF i)] <;> rfl)<|A1 (.lss rfl rfl)<|A1 (.pkF rfl (by rw [(nF i)] <;> rfl) rfl)<|A0<|?_
 exact ⟨Gy (DM rfl (by cases refs <;> cases h2:N.2 <;> by_cases h3:1<=N.1 <;> simp_all <;> omega)),rfl⟩
 have ab:=(nT i)
 refine Ie rfl rfl rfl (by rw [(nT i)] <;> rfl)<|A1 (.pkT rfl (by rw [(nT i)] <;> rfl) rfl)<|A0<|?_
 exact ⟨Gy (DM rfl (by cases refs <;> cases h2:N.2 <;> by_cases h3:1<=N.1 <;> simp_all <;> omega)),rfl⟩
 have aa:=(nT g)
 refine Ie rfl rfl rfl (by rw [(nT g)] <;> rfl)<|A1 (.pkT rfl (by rw [(nT g)] <;> rfl) rfl)<|A3 rfl<|Bc rfl<|Bc rfl<|A1 (.pkT rfl rfl rfl)<|A0<|?_
 exact ⟨Gy (DM rfl (by cases refs <;> cases h2:N.2 <;> by_cases h3:1<=N.1 <;> simp_all <;> omega)),rfl⟩
 refine Ai rfl (λaA=>?_) (λaA=>?_)
 refine A4<|A1 (.buildL (ps:=_) Er rfl rfl rfl pZ) ?_
 refine Ax rfl rfl a8 Al rfl rfl (λaJ a0 o aC=>?_)
 have ac:=j.up o
 have ad:=Ce k o f
 have ae:=BC J (DJ o oO)
 refine A9 rfl<|AT (Dn rfl rfl (Be a0 Ay rfl Al) rfl ?_)
 exact ⟨AU (by rw [hR,A2 (bF (nT aS))];rfl),by rw [hR,A2 (bF (nT aS))];exact ⟨ac,ad⟩,ae⟩
 refine Ap<|Ad<|DH BR kR<|WQ.p (.mv rfl) rfl<|WQ.p (.nck rfl) rfl<|WQ.p (.fa CC rfl D8 dD rfl) rfl<|Db (λm=>Ae (g22_ _) rfl j rfl) rfl<|WQ.p (.mv rfl) rfl<|WQ.p (.nck rfl) rfl<|WQ.p (.fa CC rfl D8 dD rfl) rfl<|Db (λm=>Ae (g22_ _) rfl j rfl) rfl<|WQ.p (.mv rfl) rfl<|WQ.p (.nck rfl) rfl<|WQ.p (.fa CC rfl Bw dD rfl) rfl<|Db (λm=>Ae (BZ _) rfl j rfl) rfl<|Jc BK rfl rfl (λm=>(A0d p l c t _ k ht hl a ha m))<|Jc BK rfl rfl (λm=>(SO p l c a _ k hc a4 hl m))<|WQ.p (.mv rfl) rfl<|WQ.p (.ext rfl rfl) rfl<|WQ.p (.ext rfl rfl) rfl<|WQ.p (.as rfl) rfl<|WQ.p (.as rfl) rfl<|CX (λaK q=>?_)
 have u:=j.drew q
 have K:=a8.drew q
 have v:=k.drew q
 have L:=BC J (Mf q)
 refine Ad<|A4<|A3 rfl<|A1 (.nes rfl rfl)<|A0<|Ai rfl (λP=>?_) (λP=>?_)
 have af:=ndT P
 refine A4<|A1 (.buildL (ps:=_) Er rfl rfl rfl pZ) ?_
 refine Ax rfl rfl K Al rfl rfl (λaL a1 x aD=>?_)
 have ag:=u.up x
 have ah:=Ce v x f
 have ai:=BC L (DJ x oO)
 refine A9 rfl<|AT (Dn rfl rfl (Be a1 Ay rfl Al) rfl ?_)
 exact ⟨AU (by rw [hR,A7 (nF aS),A2 aS];rfl),by rw [hR,A7 (nF aS),A2 aS];exact ⟨ag,ah⟩,ai⟩
 have af:=ndF P
 refine Ap<|Ad<|DH BR kR<|WQ.p (.mv rfl) rfl<|WQ.p (.nck rfl) rfl<|WQ.p (.fa CC rfl D8 dD rfl) rfl<|Db (λm=>Ae (g22_ _) rfl u rfl) rfl<|WQ.p (.mv rfl) rfl<|WQ.p (.nck rfl) rfl<|WQ.p (.fa CC rfl D8 dD rfl) rfl<|Db (λm=>Ae (g22_ _) rfl u rfl) rfl<|WQ.p (.mv rfl) rfl<|Jc BK rfl rfl (λm=>(A0d p l c (BA l a) _ v ax.2 hl b G m))<|Jc BK rfl rfl (λm=>(SO p l c b _ v hc aw hl m))<|WQ.p (.mv rfl) rfl<|WQ.p (.ext rfl rfl) rfl<|WQ.p (.ext rfl rfl) rfl<|WQ.p (.as rfl) rfl<|WQ.p (.as rfl) rfl<|CX (λaM y=>?_)
 have Q:=u.drew y
 have T:=K.drew y
 have U:=v.drew y
 have V:=BC L (Mf y)
 refine Ad<|A4<|A3 rfl<|A1 (.nes rfl rfl)<|A0<|Ai rfl (λX=>?_) (λX=>?_)
 have aj:=ndT X
 refine A4<|A1 (.buildL (ps:=_) Er rfl rfl rfl pZ) ?_
 refine Ax rfl rfl T Al rfl rfl (λaN a2 B aE=>?_)
 have ak:=Q.up B
 have am:=Ce U B f
 have an:=BC V (DJ B oO)
 refine A9 rfl<|AT (Dn rfl rfl (Be a2 Ay rfl Al) rfl ?_)
 exact ⟨AU (by rw [hR,A7 (nF aS),A7 aS,A2 aS];rfl),by rw [hR,A7 (nF aS),A7 aS,A2 aS];exact ⟨ak,am⟩,an⟩
 have aj:=ndF X
 refine Ap<|A4<|A3 rfl<|A1 (.iis ((BA l b:Int)) (.mv rfl) (by rfl))<|A1 (.nck rfl)<|A1 (.fa CC rfl Bw dD rfl)<|Br Bw rfl rfl rfl Q (by exact Nat.le_of_ble_eq_true rfl) (λaB C d aF=>?_)
 have C:B0 aB r _ _:=C
 have d:CK r _ _:=d
 have ao:=T.up d
 have ap:=Ag.upd U d hne
 have aq:=BC V (Bp d)
 refine A0<|A4<|A3 rfl<|?_
 refine A1 (.buildL (ps:=_) Er rfl rfl rfl pS) ?_
 refine Ax rfl rfl ao Al rfl rfl (λaO a3 D aG=>?_)
 have ar:=C.up D
 have au:=Ce ap D f
 have av:=BC aq (DJ D oO)
 refine A9 rfl<|AT (Dn rfl rfl (Be a3 Ay rfl Al) rfl ?_)
 exact ⟨AU (by rw [hR,A7 (nF aS),A7 aS,A7 aS];rfl),by rw [hR,A7 (nF aS),A7 aS,A7 aS];exact ⟨ar,au⟩,av⟩
structure WR where
 kind:Int
 n:Int
 word:l8_
 ok:Bool
 np:Nat
def EY (refs:Bool) (l:l8_) (t:Nat):WR :=
 if Dr l t=[110,117,108,108] then ⟨0,0,Dr l t,true,BA l t⟩
 else if Dr l t=[116,114,117,101] then ⟨1,1,Dr l t,true,BA l t⟩
 else if Dr l t=[102,97,108,115,101] then ⟨1,0,Dr l t,true,BA l t⟩
 else if (Jk refs l (Dr l t) (BA l t)).isSome then ⟨(A0r (Jk refs l (Dr l t) (BA l t))).1,(A0r (Jk refs l (Dr l t) (BA l t))).2,Dr l t,true,W7 (Jk refs l (Dr l t) (BA l t)) (BA l t)⟩
 else if (Nj (Dr l t)).2.2 then ⟨(Nj (Dr l t)).1,(Nj (Dr l t)).2.1,Dr l t,true,BA l t⟩
 else ⟨0,0,Dr l t,false,BA l t⟩
def WR.val (x:WR):Value:=.tuple #[.agg (Rn x.kind x.n []).toArray,.string (bs x.word),.bool x.ok]
theorem RO (l:l8_) (t:Nat):(Dr l t).length<=l.length:=by unfold Dr;rw [At,Au];omega
theorem S2 {o:Option (Int × Nat)} {t:Nat} (h:o.isSome=false):W7 o t=t:=by cases o with | none=>rfl | some x=>cases h
theorem S6 (r:Nat) (p:Option Addr) (l:l8_) (c t:Nat) (refs:Bool) (w:World) (h:P2 w r p l c t refs) (hne:0<l.length->(pA p).block≠r) (hc:l.length<=c) (hl:l.length<=100000000) (ht:t<=l.length) :
  Calls Tryz.prog 110 #[ptV r] w λe w'=>e=.returned (EY refs l t).val/\P2 w' r p l c (EY refs l t).np refs/\Bh w.heap.size r w w':=by
 have hr:=h.1
 have hb:=h.2
 have hX:=eX (EY refs l t)
 obtain ⟨X,hX⟩:=hX
 rw [<- hX]
 unfold EY at hX
 have bi:=F6 l t ht
 have bj:=RO l t
 have Y:∀ w1,Ag w1 p l->∀ m,Calls Tryz.prog 50 #[.slice p l.length c,Af (t:Int)] (w1.drewN m) λe w'=>e=.returned (.tuple #[.string (bs (Dr l t)),Af (BA l t:Int)])/\∃ k,w'=w1.drewN k:=λw1 h1 m=>SO p l c t w1 h1 hc ht hl m
 generalize Dr l t=s at hX bj Y
 generalize BA l t=t1 at hX bi Y
 refine Ar func110 rfl ntmps110 ?_
 have aA:=Bh.refl (w.heap.size) r w
 refine A4<|Bj Cz rfl (λb1 bL a0 aC L bI=>?_)
 have bk:=Bl a0 hr.lt
 have a1:=hr.un L bk
 have b:=λN=>a0▸hb.lt N
 have aB:=Ce hb L b
 have an:=CF a0 aA.size
 have bm:=BC aA (DJ L an)
 refine Ct rfl<|A9 rfl<|Ad<|DH BR kR<|WQ.p (.mv rfl) rfl<|WQ.p (.nck rfl) rfl<|WQ.p (.fa CC rfl D8 dD rfl) rfl<|Db (λm=>Ae (g22_ _) rfl a1 rfl) rfl<|WQ.p (.mv rfl) rfl<|WQ.p (.nck rfl) rfl<|WQ.p (.fa CC rfl Bw dD rfl) rfl<|Db (λm=>Ae (BZ _) rfl a1 rfl) rfl<|Jc BK rfl rfl (λm=>(Y _ aB m))<|WQ.p (.mv rfl) rfl<|WQ.p (.ext rfl rfl) rfl<|WQ.p (.ext rfl rfl) rfl<|WQ.p (.as rfl) rfl<|WQ.p (.as rfl) rfl<|CX (λw7 T=>?_)
 have bn:=a1.drew T
 have bo:=aC.drew T
 have aD:=aB.drew T
 have aE:=BC bm (Mf T)
 refine A4<|A3 rfl<|A3 rfl<|A1 (.nck rfl)<|A1 (.fa CC rfl Bw dD rfl)<|Br Bw rfl rfl rfl bn (by exact Nat.le_of_ble_eq_true rfl) (λbp a d bt=>?_)
 have a:B0 bp r _ _:=a
 have d:CK r _ _:=d
 have q:=bo.up d
 have v:=Ag.upd aD d hne
 have u:=BC aE (Bp d)
 refine A0<|Ad<|A4<|A3 rfl<|A0<|AO<|A4<|A1 (.eqs rfl rfl)<|A9 rfl<|Ai rfl (λa2=>?_) (λa2=>?_)
 have aF:=dT a2
 refine A4<|A1 (.buildL (ps:=_) Er rfl rfl rfl pZ) ?_
 refine A3 rfl<|Ax rfl rfl q Al rfl rfl (λbM ao x bu=>?_)
 have aG:=a.up x
 have aH:=Ce v x b
 have aI:=BC u (DJ x oO)
 refine Ct rfl<|A9 rfl<|AT (LQ rfl rfl (Be ao Ay rfl Al) rfl rfl ?_)
 (rw [A7 aS] at hX;subst hX;exact ⟨rfl,⟨aG,aH⟩,aI⟩)
 have aF:=dF a2
 refine A4<|A1 (.eqs rfl rfl)<|A9 rfl<|Ai rfl (λa3=>?_) (λa3=>?_)
 have aJ:=dT a3
 refine A4<|A1 (.buildL (ps:=_) Er rfl rfl rfl pS) ?_
 refine A3 rfl<|Ax rfl rfl q Al rfl rfl (λbN ap y bv=>?_)
 have aK:=a.up y
 have aL:=Ce v y b
 have aM:=BC u (DJ y oO)
 refine Ct rfl<|A9 rfl<|AT (LQ rfl rfl (Be ap Ay rfl Al) rfl rfl ?_)
 (rw [A2 aS,A7 aS] at hX;subst hX;exact ⟨rfl,⟨aK,aL⟩,aM⟩)
 have aJ:=dF a3
 refine A4<|A1 (.eqs rfl rfl)<|A9 rfl<|Ai rfl (λa4=>?_) (λa4=>?_)
 have aN:=dT a4
 refine A4<|A1 (.buildL (ps:=_) Er rfl rfl rfl pS) ?_
 refine A3 rfl<|Ax rfl rfl q Al rfl rfl (λbO aq B bw=>?_)
 have aO:=a.up B
 have aP:=Ce v B b
 have aQ:=BC u (DJ B oO)
 refine Ct rfl<|A9 rfl<|AT (LQ rfl rfl (Be aq Ay rfl Al) rfl rfl ?_)
 (rw [A2 aS,A2 aS,A7 aS] at hX;subst hX;exact ⟨rfl,⟨aO,aP⟩,aQ⟩)
 have aN:=dF a4
 refine Ap<|Ad<|A4<|A3 rfl<|A3 rfl<|Ao (A0B r p l c t1 refs s _ ⟨a,v⟩ hne hc hl oO oO) (λbP C=>?_)
 have a5:=C.1.1
 have a6:=Gn q C.2 q.lt oO
 have a7:=C.1.2
 have a8:=BC u (EX C.2 u.size)
 refine A3 rfl<|A1 (.ext rfl rfl)<|A1 (.ext rfl rfl)<|Bj Cz rfl (λbQ bJ D ar f bz=>?_)
 have aR:=Bl D a5.lt
 have aT:=a5.un f aR
 have aU:=Bl D a6.lt
 have aV:=a6.un f aU
 have U:=λN=>D▸a7.lt N
 have aW:=Ce a7 f U
 have a9:=CF D a8.size
 have aX:=BC a8 (DJ f a9)
 refine Ax rfl rfl ar Al rfl rfl (λbR au g bA=>?_)
 have aa:=aT.up g
 have ab:=aV.up g
 have P:=Ce aW g U
 have Q:=BC aX (DJ g oO)
 refine A9 rfl<|A4<|A3 rfl<|A0<|Ai rfl (λbq=>?_) (λbq=>?_)
 refine A4<|Ah (Bk rfl au Ay rfl Al)<|A3 rfl<|Ax rfl rfl ab Al rfl rfl (λbS av E bB=>?_)
 have aY:=aa.up E
 have aZ:=Ce P E b
 have a':=BC Q (DJ E oO)
 refine Ct rfl<|A9 rfl<|AT (LQ rfl rfl (Be av Ay rfl Al) rfl rfl ?_)
 (rw [A2 aS,A2 aS,A2 aS,A7 aS] at hX;subst hX;exact ⟨rfl,⟨aY,aZ⟩,a'⟩)
 refine Ap<|A4<|A3 rfl<|Ao (Um s _ oO) (λbT F=>?_)
 have ac:=aa.bl F
 have ad:=ab.bl F
 have ae:=DL P F (λN=>P.lt N)
 have af:=BC Q (EX (Fo F) Q.size)
 refine A3 rfl<|A1 (.ext rfl rfl)<|A1 (.ext rfl rfl)<|Bj Cz rfl (λbU bK G aw i bC=>?_)
 have b0:=Bl G ac.lt
 have b2:=ac.un i b0
 have b3:=Bl G ad.lt
 have b4:=ad.un i b3
 have H:=λN=>G▸ae.lt N
 have b5:=Ce ae i H
 have ag:=CF G af.size
 have b6:=BC af (DJ i ag)
 refine Ax rfl rfl aw Al rfl rfl (λbV V j bD=>?_)
 have ah:=b2.up j
 have ai:=b4.up j
 have aj:=Ce b5 j H
 have ak:=BC b6 (DJ j oO)
 refine A9 rfl<|Ad<|A4<|A3 rfl<|A1 (.not rfl)<|A0<|Ai rfl (λam=>?_) (λam=>?_)
 have b7:=(nT am)
 refine Am<|A1 (.buildL (ps:=_) Er rfl rfl rfl pZ) ?_
 refine Ax rfl rfl V Al rfl rfl (λbW ax o bE=>?_)
 have b8:=ah.up o
 have b9:=ai.up o
 have ba:=Ce aj o H
 have bb:=BC ak (DJ o oO)
 refine A0<|A4<|Ah (Bk rfl ax Ay rfl Al)<|A3 rfl<|A3 rfl<|Ax rfl rfl b9 Al rfl rfl (λbX ay J bG=>?_)
 have bc:=b8.up J
 have bd:=Ce ba J b
 have be:=BC bb (DJ J oO)
 refine Ct rfl<|A9 rfl<|AT (LQ rfl rfl (Be ay Ay rfl Al) rfl rfl ?_)
 (rw [A2 aS,A2 aS,A2 aS,A2 (bF aS),A2 (bF aS)] at hX;subst hX;exact ⟨AU (by rw [show (Nj s).2.2=false by assumption];rfl),⟨by rw [<- S2 (t:=t1) (show (Jk refs l s t1).isSome=false by assumption)];exact bc,bd⟩,be⟩)
 have b7:=(nF am)
 refine Ap<|A4<|Ah (Bk rfl V Ay rfl Al)<|A3 rfl<|A3 rfl<|Ax rfl rfl ai Al rfl rfl (λbY az K bH=>?_)
 have bf:=ah.up K
 have bg:=Ce aj K b
 have bh:=BC ak (DJ K oO)
 refine Ct rfl<|A9 rfl<|AT (LQ rfl rfl (Be az Ay rfl Al) rfl rfl ?_)
 (rw [A2 aS,A2 aS,A2 aS,A2 (bF aS),A7 aS] at hX;subst hX;exact ⟨AU (by rw [show (Nj s).2.2=true by assumption];rfl),⟨by rw [<- S2 (t:=t1) (show (Jk refs l s t1).isSome=false by assumption)];exact bf,bg⟩,bh⟩)
end
section
section
variable {P:Program} {n:Sh} {fn:Func} {R:Ending->World->Prop} {f:Fr} {w:World}
def A4x (f:Fr) (tmps:Array Value):Prop:=∀ i u,look f i=some u->tmps.getD i undef=u
def D1 (P:Program) (fn:Func) (R:Ending->World->Prop) (D:List Deferred):Exit->Fr->World->Prop
 | .normal,f,w | .ret,f,w=>∀ tmps,A4x f tmps->Leaves P fn tmps R D .returning w
 | .panic SG,f,w=>∀ tmps,A4x f tmps->Leaves P fn tmps R D (.panicking SG) w
 | .outgrown,_,w=>R .outgrown w
 | _,_,_=>False
def WD (P:Program) (n:Sh) (fn:Func) (R:Ending->World->Prop) (c:Code) (f:Fr) (w:World):Prop:=∀ a,OM n f a->c.wp P (bodyPostD P fn R) a w
theorem Jt {e:Exit} {a:Act} (h:IY n (D1 P fn R n.D) e a w):bodyPostD P fn R e a w:=by
 obtain ⟨f,hr,hQ⟩:=h
 cases e with
 | normal=>have:=hQ a.tmps hr.2.2;rw [<- hr.1] at this;exact this
 | ret=>have:=hQ a.tmps hr.2.2;rw [<- hr.1] at this;exact this
 | panic ch=>have:=hQ a.tmps hr.2.2;rw [<- hr.1] at this;exact this
 | outgrown=>exact hQ
 | exit i=>exact hQ.elim
 | goto l=>exact hQ.elim
theorem Nz {c:Code} (h:W P n c (D1 P fn R n.D) f w):WD P n fn R c f w:=by
 unfold W at h
 exact λa ha=>wp_mono (h a ha) λ_ _ _=>Jt
theorem WD.seq {x y:Code} (h:W P n x (nx (λf w=>WD P n fn R y f w) (D1 P fn R n.D)) f w):WD P n fn R (.seq x y) f w:=by
 unfold W at h
 intro a ha
 refine wp_seq (wp_mono (h a ha) ?_)
 rintro e a' w' ⟨f',hr,hQ⟩
 cases e with
 | normal=>exact hQ a' hr
 | exit i=>exact Jt (P:=P) (fn:=fn) (R:=R) (n:=n) (w:=w') (e:=.exit i) ⟨f',hr,hQ⟩
 | goto l=>exact Jt (P:=P) (fn:=fn) (R:=R) (n:=n) (w:=w') (e:=.goto l) ⟨f',hr,hQ⟩
 | ret=>exact Jt (P:=P) (fn:=fn) (R:=R) (n:=n) (w:=w') (e:=.ret) ⟨f',hr,hQ⟩
 | panic ch=>exact Jt (P:=P) (fn:=fn) (R:=R) (n:=n) (w:=w') (e:=.panic ch) ⟨f',hr,hQ⟩
 | outgrown=>exact Jt (P:=P) (fn:=fn) (R:=R) (n:=n) (w:=w') (e:=.outgrown) ⟨f',hr,hQ⟩
theorem WD.defer {y:Code} {d ty ty2:Nat} {pos2:String} {aft2:Array Edge} {caps:List Operand} (hcap:R0 f caps=some vs) (hd:Nat.blt d n.n=true)
  (h:WD P ⟨n.n,⟨.fn (.func F) vs.toArray,#[]⟩::n.D⟩ fn R y ((d,.func (.func F) #[] vs.toArray)::f) w) :
  WD P n fn R (.seq (.region id [⟨some d,.makeFunc (.func F) #[] caps.toArray,ty,pos,aft,none⟩,⟨none,.defer ⟨.value (.tmp d),#[],#[]⟩,ty2,pos2,aft2,none⟩].toArray false) y) f w:=by
 intro a ha
 refine wp_seq (wp_region_lit ?_)
 have c:(Instr.makeFunc (.func F) #[] (vs.toArray)).run P w=.ok (.func (.func F) #[] vs.toArray) w:=rfl
 have e:caps.toArray.map a.eval=vs.toArray:=by rw [List.map_toArray,J9 ha.agr _ _ hcap]
 have b:=ha.put hd (.func (.func F) #[] vs.toArray)
 have g:(a.put (some d) (.func (.func F) #[] vs.toArray)).eval (.tmp d)=.func (.func F) #[] vs.toArray:=b.agr _ _ (by simp [CM,look,Nat.beq_refl])
 unfold wpList
 rw [A7 (by simp [Region.wanted])]
 refine Or.inl ?_
 unfold Oper.wp execOp
 simp only [e,Ca,c,BT,D3,List.map_toArray,F4]
 rw [Oper.upon_value]
 unfold wpList
 rw [A7 (by simp [Region.wanted])]
 refine Or.inl ?_
 unfold Oper.wp execOp
 simp only [resolve,Deferred.ofValue,g,Ca,D3,BT,Array.append_empty,List.map_toArray,F4]
 rw [Oper.upon_defer]
 exact wpList_nil (h _ ⟨by show _::_=_::_;rw [b.1],b.2.1,b.2.2⟩)
theorem GQ  {c:Code} (hf:P.funcs[F]?=some fn) (hb:fn.body=some c)
  {k:Nat} (hn:fn.ntmps=k) (hl:args.size<=k) (h:WD P ⟨k,[]⟩ fn R c (KI 0 args.toList) w):Calls P F args w R:=by
 refine calls_of_wp_defers hf hb (h _ ⟨rfl,by simp [hn];omega,?_⟩)
 intro i v hv
 obtain ⟨j,e,hj⟩:=KH _ _ _ _ hv
 obtain rfl:i=j:=by omega
 have a:i<args.size:=by
  rcases Bu i args.size with h | h
  · exact h
  · rw [AZ (by simpa using h)] at hj;cases hj
 have hj':args[i]?=some v:=by rw [<- E1];exact hj
 simp only [AK]
 rw [Array.getElem?_append_left a,hj'];rfl
theorem J4  {g:Func} (h1:P.funcs[F]?=some g) (h2:g.body≠none) (h3:g.name≠"runtime.NumGoroutine") (args:Array Value) (w:World):(callFunc F args).run P w=.ok (.enter F args) w:=by
 cases hb:g.body with
 | none=>exact De hb h2
 | some c=>simp [callFunc,h1,h3,hb]
theorem FV  (hv:CQ P fn f w v) (h:R (.returned v) w):D1 P fn R [] .ret f w:=λtmps ht=>⟨v,hv tmps ht,h⟩
theorem D1.ret  (hb:D2 P F) (S:World->Prop)
  (hc:CallsD P F vs.toArray .returning w λe u' w'=>u'=.returning/\(∃ v,e=.returned v)/\S w')
  (hr:∀ w',S w'->∃ v,CQ P fn f w' v/\R (.returned v) w'):D1 P fn R [⟨.fn (.func F) vs.toArray,#[]⟩] .ret f w:=by
 intro tmps ht
 obtain ⟨g,a,b,c⟩:=hb
 refine leaves_cons (f:=F) (args:=vs.toArray) (by simp) ?_ (hc.mono ?_)
 ·
  simp only [invoke,Array.empty_append]
  exact J4 a b c _ _
 ·
  rintro e u' w' ⟨rfl,⟨v,rfl⟩,hS⟩
  obtain ⟨v,hv,hR⟩:=hr w' hS
  exact ⟨v,hv tmps ht,hR⟩
theorem GR  {v0:Value} (hb:D2 P F) (S:World->Prop)
  (hc:CallsD P F vs.toArray (.panicking [{ v:=v0,recovered:=false }]) w λe u' w'=>u'=.panicking [{ v:=v0,recovered:=true }]/\(∃ v,e=.returned v)/\S w')
  (hr:∀ w',S w'->∃ v,CQ P fn f w' v/\R (.returned v) w'):D1 P fn R [⟨.fn (.func F) vs.toArray,#[]⟩] (.panic [{ v:=v0,recovered:=false }]) f w:=by
 intro tmps ht
 obtain ⟨g,a,b,c⟩:=hb
 refine leaves_cons (f:=F) (args:=vs.toArray) (by simp) ?_ (hc.mono ?_)
 ·
  simp only [invoke,Array.empty_append]
  exact J4 a b c _ _
 ·
  rintro e u' w' ⟨rfl,⟨v,rfl⟩,hS⟩
  obtain ⟨v,hv,hR⟩:=hr w' hS
  exact ⟨v,hv tmps ht,hR⟩
def NT:FrameMode->Value × FrameMode
 | .panicking ({ v,recovered:=false,goexit:=false }::older)=>(v,.panicking ({ v,recovered:=true }::older))
 | m=>(.nilIface,m)
theorem Rh (c₀:Frame) (cs:List Frame):recoverD (c₀::cs)=some ((NT c₀.mode).1,{ c₀ with mode:=(NT c₀.mode).2 }::cs)\/recoverD (c₀::cs)=none/\NT c₀.mode=(.nilIface,c₀.mode):=by
 unfold recoverD NT
 simp only
 split
 · next h=>rw [h];exact Or.inl rfl
 ·
  next h =>
  refine Or.inr ⟨rfl,?_⟩
  split
  · next h2=>exact De h2 (h _ _)
  · rfl
theorem Pn  {d ty:Nat} {l:List Oper} {Q:Exit->Act->List Frame->World->Prop} {a:Act} {c₀:Frame} {cs:List Frame} {Q0:Exit->Act->World->Prop}
  (h:wpList P (⟨some d,.call ⟨.builtin .recover,#[],ats⟩,ty,pos,aft,none⟩::l).toArray Q0 l (a.put (some d) (NT c₀.mode).1) w)
  (hmono:∀ e a w,Q0 e a w->Q e a ({ c₀ with mode:=(NT c₀.mode).2 }::cs) w) :
  (Code.region id (⟨some d,.call ⟨.builtin .recover,#[],ats⟩,ty,pos,aft,none⟩::l).toArray false).wpS P Q a (c₀::cs) w:=by
 intro b k hb t
 generalize ho:(⟨some d,.call ⟨.builtin .recover,#[],ats⟩,ty,pos,aft,none⟩:Oper)=o at h ⊢
 have h':wpOps P (o::l).toArray Q0 (List.range' 1 l.length) (a.put (some d) (NT c₀.mode).1) w:=by
  rw [wpOps_eq_wpList l 1 (λj=>by simp [Nat.add_comm 1 j])];exact h
 obtain ⟨e,a',w',hq,q⟩:=wp_ops _ _ _ h' b k ({ c₀ with mode:=(NT c₀.mode).2 }::cs)
 refine ⟨e,a',_,w',hmono _ _ _ hq,.of_steps (.head step_region (.one (step_lone_go ?_))) q⟩
 have g:List.range (o::l).toArray.size=0::List.range' 1 l.length:=by
  rw [List.range_eq_range'];simp [List.range'_succ]
 rw [g]
 have hg:=stepG_op (P:=P) (b:=b) (k:=k) (cs:=c₀::cs) (w:=w) (a:=a) (ops:=(o::l).toArray) (i:=0) (rest:=List.range' 1 l.length) (o:=o) (by simp) (by subst ho;simp [Region.wanted])
 have s:∀ v,(b.at a (.inRegion (o::l).toArray (0::List.range' 1 l.length)::k)).finish v=b.at (a.put (some d) v) (.inRegion (o::l).toArray (List.range' 1 l.length)::k):=by
  intro v;rw [Frame.finish_at];subst ho;rfl
 have hk:(b.at a (.inRegion (o::l).toArray (0::List.range' 1 l.length)::k)).kind=.deferred:=hb
 have c:=tryRecover_deferred hk (c₀::cs)
 have m:(execOp a.eval o).run P w=.ok .recover w:=by
  subst ho;simp [execOp,resolve,invoke,builtin]
 rw [hg,<- s]
 rcases Rh c₀ cs with f | ⟨f,hm⟩
 ·
  rw [f] at c
  simp only [Frame.at] at c ⊢
  simp [stepG.apply,m,c]
 ·
  rw [f] at c
  rw [hm]
  simp only [Frame.at] at c ⊢
  simp [stepG.apply,m,c]
theorem Eo  {d ty k:Nat} {l:List Oper} {y:Code} {u:FrameMode} {R:Ending->World->Prop} (hf:P.funcs[F]?=some fn)
  (hb:fn.body=some (.seq (.region id (⟨some d,.call ⟨.builtin .recover,#[],ats⟩,ty,pos,aft,none⟩::l).toArray false) y)) (hn:fn.ntmps=k) (hl:args.size<=k) (hd:Nat.blt d k=true)
  (h:WL P ⟨k,[]⟩ (⟨some d,.call ⟨.builtin .recover,#[],ats⟩,ty,pos,aft,none⟩::l).toArray (nx (λf w=>W P ⟨k,[]⟩ y (Ir P fn R) f w) (Ir P fn R)) l ((d,(NT u).1)::KI 0 args.toList) w) :
  CallsD P F args u w λe u' w'=>u'=(NT u).2/\R e w':=by
 refine callsD_of_wpS hf hb λc₀ cs hu=>wpS_seq ?_
 have c:OM ⟨k,[]⟩ (KI 0 args.toList) { tmps:=args++Array.replicate (fn.ntmps-args.size) undef,defers:=[] }:=by
  refine ⟨rfl,by simp [hn];omega,λi v hv=>?_⟩
  obtain ⟨j,e,hj⟩:=KH _ _ _ _ hv
  obtain rfl:i=j:=by omega
  have o:i<args.size:=by
   rcases Bu i args.size with h | h
   · exact h
   · rw [AZ (by simpa using h)] at hj;cases hj
  have hj':args[i]?=some v:=by rw [<- E1];exact hj
  simp only [AK]
  rw [Array.getElem?_append_left o,hj'];rfl
 subst hu
 have b:∀ e a w,IY ⟨k,[]⟩ (Ir P fn R) e a w->bodyPostS P fn c₀ cs (λe u' w'=>u'=(NT c₀.mode).2/\R e w') e a ({ c₀ with mode:=(NT c₀.mode).2 }::cs) w:=by
  rintro e a w ⟨f,hr,hQ⟩
  unfold Ir at hQ
  cases e with
  | normal=>obtain ⟨v,g,m⟩:=hQ;exact ⟨hr.1,_,rfl,v,g _ hr.2.2,rfl,m⟩
  | ret=>obtain ⟨v,g,m⟩:=hQ;exact ⟨hr.1,_,rfl,v,g _ hr.2.2,rfl,m⟩
  | panic ch=>exact ⟨hr.1,_,rfl,rfl,hQ⟩
  | outgrown=>exact ⟨_,rfl,hQ⟩
  | exit i=>exact hQ.elim
  | goto l=>exact hQ.elim
 unfold WL at h
 have:=h _ (c.put hd (NT c₀.mode).1)
 refine Pn this ?_
 rintro e a w ⟨f,hr,hQ⟩
 cases e with
 | normal =>
  have hQ':W P ⟨k,[]⟩ y (Ir P fn R) f w:=hQ
  unfold W at hQ'
  exact wpS_of_wp (wp_mono (hQ' a hr) λe a w hh=>b e a w hh)
 | _=>exact b _ _ _ ⟨f,hr,hQ⟩
def noPn (Q:Exit->Fr->World->Prop):Exit->Fr->World->Prop
 | .panic _,_,_=>False
 | e,f,w=>Q e f w
theorem Lb {c:Code} {Q:Exit->Fr->World->Prop} (h:W P n c (noPn Q) f w):W P n c Q f w:=h.mono λe f w h=>by
 cases e with
 | panic ch=>exact h.elim
 | normal=>exact h
 | ret=>exact h
 | exit i=>exact h
 | goto l=>exact h
 | outgrown=>exact h
theorem BG.neNil  {u:TypeId} (ht:P.underlying tx=some (.interface (P.methodsAt tx))) (hx:CM f x=some (.iface u v)):BG P (.binOp .neq tx x (.const .nilIface) ty) f (.bool true):=λρ hρ d ty' pos aft g w=>by
 have h4:ρ (.const .nilIface)=.nilIface:=hρ _ _ rfl
 simp [execOp,hρ _ _ hx,h4,eqGuard,run_neq_held_nil w tx u v ht]
theorem BG.neNil0  (ht:P.underlying tx=some (.interface (P.methodsAt tx))) (hx:CM f x=some .nilIface):BG P (.binOp .neq tx x (.const .nilIface) ty) f (.bool false):=λρ hρ d ty' pos aft g w=>by
 have h4:ρ (.const .nilIface)=.nilIface:=hρ _ _ rfl
 simp [execOp,hρ _ _ hx,h4,eqGuard_nil_constR,run_neq_nil_nil w tx ht]
theorem BG.tas  {t:TypeId} {k:IntKind} (hu:P.underlying t=some (.int k)) (hx:CM f x=some (.iface t v)):BG P (.typeAssert x tx t true) f (.tuple #[v,.bool true]):=λρ hρ d ty' pos aft g w=>by
 simp [execOp,hρ _ _ hx,Instr.typeAssert,Bz hu]
theorem B5  {t:TypeId} {b o:Nat} (hb:B0 w b cs tb) (ha:(isAgg t).run P w=.ok false w) (hv:cs[o]?=some v):(loadVar t ⟨b,o,none⟩).run P w=.ok v w:=by
 have hc:=(hb.cell o).trans hv
 simp [loadVar,ha,hc]
theorem CY {a b c:Tmp} {tc:TypeId} {pc:Addr} {x y:Value} (hr:fn.results=#[.cell a ta,.cell b tb,.cell c tc]) (ha:look f a=some (.pointer (some pa))) (hb:look f b=some (.pointer (some pb))) (hc:look f c=some (.pointer (some pc)))
  (hx:(loadVar ta pa).run P w=.ok x w) (hy:(loadVar tb pb).run P w=.ok y w) (hz:(loadVar tc pc).run P w=.ok z w):CQ P fn f w (.tuple #[x,y,z]):=λtmps hh=>by
 have e1:=hh _ _ ha;have e2:=hh _ _ hb;have e3:=hh _ _ hc
 simp only [AK] at e1 e2 e3
 simp [results,hr,e1,e2,e3,asAddr,hx,hy,hz]
end
end
section
def GZ {α:Type} (E:TypeId) (res:Except Int α) (S:α->Value->World->Prop) (S':World->Prop) (e:Ending) (w:World):Prop :=
 match res with
 | .ok a=>∃ v,e=.returned v/\S a v w
 | .error k=>e=.panicked [{ v:=.iface E (Af k),recovered:=false }]/\S' w
theorem GZ.ok {α:Type} {E:TypeId} {res:Except Int α} {S:α->Value->World->Prop} {S':World->Prop} {e:Ending} {w:World} (a:α) (v:Value) (h:res=.ok a) (he:e=.returned v) (hs:S a v w):GZ E res S S' e w:=by
 unfold GZ;rw [h];exact ⟨v,he,hs⟩
abbrev JC:=@GZ.ok
theorem ZI {α:Type} {E:TypeId} {res:Except Int α} {S:α->Value->World->Prop} {S':World->Prop} {w:World} (k:Int) (h:res=.error k) (hs:S' w):GZ E res S S' (.panicked [{ v:=.iface E (Af k),recovered:=false }]) w:=by
 unfold GZ;rw [h];exact ⟨rfl,hs⟩
abbrev GN:=@ZI
section
variable {P:Program} {n:Sh} {f:Fr}
theorem Eg  {rest:List Oper} {d ty:Nat} {xs:List Operand}
 {res:Except Int α} {S:α->Value->World->Prop} (hb:D2 P F) (hx:R0 f xs=some vs) (hd:Nat.blt d n.n=true)
  (hc:Calls P F vs.toArray w (GZ E res S S')) (herr:∀ k w',res=.error k->S' w'->Q (.panic [{ v:=.iface E (Af k),recovered:=false }]) f w')
  (hok:∀ a v w',res=.ok a->S a v w'->WL P n ops Q rest ((d,v)::f) w'):WL P n ops Q (⟨some d,.call ⟨.value (.func F),xs.toArray,ats⟩,ty,pos,aft,none⟩::rest) f w:=by
 cases hres:res with
 | ok a=>exact Bf (V:=λv:Value=>v) hb hx hd (hc.mono λe w' h=>by rw [hres] at h;exact h) λv w' h=>hok a v w' hres h
 | error k=>exact Fh hb hx (hc.mono λe w' h=>by rw [hres] at h;exact h) λw' h=>herr k w' hres h
end
theorem DR  {L:FW α} {r:Nat} {l:List α} (h:AD L e B w v l) (hT:Bh w.heap.size r w w1) (hr:r<B):AD L e B w1 v l :=
 h.same λg hg=>hT.block g (h.lt g hg).2 (by have:=(h.lt g hg).1;omega)
section
variable {P:Program} {f:Fr}
theorem BG.eqNil  {u:TypeId} (ht:P.underlying tx=some (.interface (P.methodsAt tx))) (hx:CM f x=some (.iface u v)):BG P (.binOp .eql tx x (.const .nilIface) ty) f (.bool false):=λρ hρ d ty' pos aft g w=>by
 have h4:ρ (.const .nilIface)=.nilIface:=hρ _ _ rfl
 simp [execOp,hρ _ _ hx,h4,eqGuard,run_eql_held_nil w tx u v ht]
theorem BG.eqNil0  (ht:P.underlying tx=some (.interface (P.methodsAt tx))) (hx:CM f x=some .nilIface):BG P (.binOp .eql tx x (.const .nilIface) ty) f (.bool true):=λρ hρ d ty' pos aft g w=>by
 have h4:ρ (.const .nilIface)=.nilIface:=hρ _ _ rfl
 simp [execOp,hρ _ _ hx,h4,eqGuard_nil_constR,run_eql_nil_nil w tx ht]
end
end
section
theorem CS (k:Int) (w:World):Calls Tryz.prog 106 #[Af k] w λe w'=>e=.panicked [{ v:=.iface 35 (Af k),recovered:=false }]/\w=w':=by
 refine Ar func106 rfl ntmps106<|Am<|A3 rfl<|A1 (.mkI Kr rfl)<|Fd rfl (Bt ?_)
 exact ⟨rfl,rfl⟩
theorem Su (b:Nat) (w:World):Calls Tryz.prog 78 #[.nilIface,ptV b] w λe w'=>e=.returned (.tuple #[])/\w=w':=by
 refine Ar func78 rfl ntmps78<|Ad<|A4<|A3 rfl<|A1 (.eqNil0 kR rfl)<|A0<|BQ rfl rfl<|AT (Cd rfl  ?_)
 exact ⟨rfl,rfl⟩
theorem Sv (b B:Nat) (j k:Int) (w:World) (h:B0 w b #[Af j] 35) (hB:B<=b):Calls Tryz.prog 78 #[.iface 35 (Af k),ptV b] w λe w'=>e=.returned (.tuple #[])/\B0 w' b #[Af k] 35/\CK b w w':=by
 refine Ar func78 rfl ntmps78<|Ad<|A4<|A3 rfl<|A1 (.eqNil kR rfl)<|A0<|Aq rfl rfl<|Ap<|A4<|A3 rfl<|A1 (.tas Kr rfl)<|A3 rfl<|A1 (.ext rfl rfl)<|A1 (.ext rfl rfl)<|Ct rfl<|A9 rfl<|Ad<|A4<|A3 rfl<|A1 (.not rfl)<|A0<|Aq rfl rfl<|Ap<|Am<|A3 rfl<|A3 rfl<|A1 (.nck rfl)<|Br EJ rfl rfl rfl h (by exact Nat.le_of_ble_eq_true rfl) (λd a c f=>?_)
 have a:B0 d b _ _:=a
 have c:CK b _ _:=c
 refine A0<|Cx (Cd rfl ?_)
 exact ⟨rfl,a,aS⟩
theorem II (b1 b2 b5:Nat) (w:World) (h:B0 w b5 #[Af 0] 35) :
  CallsD Tryz.prog 77 #[ptV b5,ptV b1,ptV b2] .returning w λe u' w'=>u'=.returning/\(∃ v,e=.returned v)/\w'=w:=by
 refine Eo func77 rfl ntmps77 bL rfl<|Ao (Su _ _) (λb a=>?_)
 obtain rfl:=a
 refine A0<|A4<|Ah (Ae (Ed _) rfl h rfl)<|A1 (.neq rfl rfl)<|A0<|Aq rfl rfl<|Ap<|Cx (Cd rfl ?_)
 exact ⟨⟨_,rfl⟩,rfl⟩
theorem Un (b1 b2 b5 B:Nat) (c0 c1 c2 c3 c4 c5:Value) (i j k:Int) (w:World) (h1:B0 w b1 [c0,c1,c2,c3,c4,c5].toArray 27) (h2:B0 w b2 #[Af i] 3) (h5:B0 w b5 #[Af j] 35) (hB1:B<=b1) (h12:b1<b2) (h25:b2<b5) (hk:k≠0) :
  CallsD Tryz.prog 77 #[ptV b5,ptV b1,ptV b2] (.panicking [{ v:=.iface 35 (Af k),recovered:=false }]) w
   λe u' w'=>u'=.panicking [{ v:=.iface 35 (Af k),recovered:=true }]/\(∃ v,e=.returned v) /\
    B0 w' b1 (Rn 0 0 []).toArray 27/\B0 w' b2 #[Af 0] 3/\B0 w' b5 #[Af k] 35/\Below B w w':=by
 refine Eo func77 rfl ntmps77 bL rfl ?_
 have h:=Gb (B) w
 refine Cm BK rfl rfl ((Sv b5 B _ k _ h5 oO)) (λD l=>?_)
 obtain ⟨f,d⟩:=l
 have hb1:=(h1).upd d oO
 have hb2:=(h2).upd d oO
 have m:=BU h oO d
 refine A0<|A4<|Ah (Ae (Ed _) rfl f rfl)<|A1 (.bis (true) (.neq rfl rfl) (by simp [hk]))<|A0<|BQ rfl rfl ?_
 refine Am<|A1 (.buildL (ps:=_) Er rfl rfl rfl pZ) ?_
 refine Ax rfl rfl hb1 Al rfl rfl (λE g b y=>?_)
 have o:=f.upd b oM
 have q:=hb2.upd b oM
 have s:=BU m oO b
 refine Br Bw rfl rfl rfl q (by exact Nat.le_of_ble_eq_true rfl) (λA c a C=>?_)
 have c:B0 A b2 _ _:=c
 have a:CK b2 _ _:=a
 have t:=o.up a
 have u:=g.up a
 have x:=BU s oO a
 refine A0<|Cx (Cd rfl ?_)
 exact ⟨⟨_,rfl⟩,u,c,t,x⟩
end
section
inductive PV where
 | mk (kind n:Int) (text:l8_) (keys:List (l8_)) (list:List PV)
structure PC where
 kind:Int
 n:Int
 text:l8_
 kp:Option Addr
 kl:Nat
 kc:Nat
 lp:Option Addr
 ll:Nat
 lc:Nat
def Wo (x:PC):List Value:=[Af x.kind,Af x.n,.string (bs x.text),.slice x.kp x.kl x.kc,.slice x.lp x.ll x.lc,.slice none 0 0]
def KE:FW PC:=⟨6,Wo,dD,λ_=>rfl,λx u hu=>AN.1 (show (Wo x).all Value.oneCell'=true from rfl) u hu⟩
def DK (k n:Int) (s:l8_):PC:=⟨k,n,s,none,0,0,none,0,0⟩
def Jm (k n:Int) (s:l8_):PV:=.mk k n s [] []
def G8:FW (l8_):=⟨1,λs=>[.string (bs s)],dD,λ_=>rfl,λx u hu=>by simp only [B8] at hu;subst hu;rfl⟩
theorem AG.lit  {V:FW α} {b:Nat} {t:TypeId} {l:List α} (h:B0 w b cs t) (e:cs=(V.flat l).toArray):AG V w (some ⟨b,0,none⟩) l:=by
 subst e
 refine Ip (λ_=>rfl) λk v hk=>?_
 show w.cell? ((⟨b,0,none⟩:Addr).add k)=_
 rw [HG,Do,h.cell k]
 simpa using hk
theorem AG.strs {w:World} {p:Option Addr} {l:List (l8_)} (h:AG G8 w p l):B3 G7 w p l:=⟨h.isp,λj hj=>by
 have:=h.cells j hj 0 dD
 rw [show j * G8.m+0=j by show j * 1+0=j;omega] at this
 exact this⟩
def E5 (S:Nat->Prop) (w:World) (v:Value) (l:List (l8_)):Prop:=AD G8 9 0 w v l/\∀ g,v.ownBlock=some g->S g
def SL (S:Nat->Prop) (w:World) (v:Value) (cs:List PC):Prop:=AD KE 27 0 w v cs/\∀ g,v.ownBlock=some g->S g
inductive BP (w:World) (S:Nat->Prop):PC->PV->Prop
 | mk (x:PC) (keys:List (l8_)) (list:List PV) (cs:List PC) (hk:E5 S w (.slice x.kp x.kl x.kc) keys) (hr:SL S w (.slice x.lp x.ll x.lc) cs) (hlen:cs.length=list.length)
   (hsub:∀ i (h:i<cs.length) (h2:i<list.length),BP w S cs[i] list[i]):BP w S x (.mk x.kind x.n x.text keys list)
theorem BP.zero (w:World) (S:Nat->Prop) (k n:Int) (s:l8_):BP w S (DK k n s) (Jm k n s) :=
 BP.mk (DK k n s) [] [] [] ⟨AD.nil _ _ _ _,λg h=>by cases h⟩ ⟨AD.nil _ _ _ _,λg h=>by cases h⟩ rfl λi h=>by simp at h
theorem E5.same  {l:List (l8_)} (h:E5 S w v l) (hb:∀ k,S k->k<w.heap.size->w1.heap[k]?=w.heap[k]?):E5 S w1 v l :=
 ⟨h.1.same λg hg=>hb g (h.2 g hg) (h.1.lt g hg).2,h.2⟩
theorem SL.same  {l:List PC} (h:SL S w v l) (hb:∀ k,S k->k<w.heap.size->w1.heap[k]?=w.heap[k]?):SL S w1 v l :=
 ⟨h.1.same λg hg=>hb g (h.2 g hg) (h.1.lt g hg).2,h.2⟩
theorem BP.same  {x:PC} {o:PV} (h:BP w S x o) (hb:∀ k,S k->k<w.heap.size->w1.heap[k]?=w.heap[k]?):BP w1 S x o:=by
 induction h with
 | mk x keys list cs hk hr hlen _ ih=>exact .mk x keys list cs (hk.same hb) (hr.same hb) hlen ih
theorem BP.mono  {x:PC} {o:PV} (h:BP w S x o) (hST:∀ k,S k->k<w.heap.size->T k):BP w T x o:=by
 induction h with
 | mk x keys list cs hk hr hlen _ ih=>exact .mk x keys list cs ⟨hk.1,λg hg=>hST g (hk.2 g hg) (hk.1.lt g hg).2⟩ ⟨hr.1,λg hg=>hST g (hr.2 g hg) (hr.1.lt g hg).2⟩ hlen ih
end
section
def pvK:PV->Int | .mk k _ _ _ _=>k
def pvN:PV->Int | .mk _ n _ _ _=>n
def pvT:PV->l8_ | .mk _ _ t _ _=>t
def Mo (n:Int):Int × Int:=if n < -32768\/32767<n then (0,11) else (n * 65536,0)
structure Yg where
 list:List Xc
 start:Ke
 now:Ke
def ZM:Ke:=⟨0,0⟩
def Uq:Yg:=⟨[],ZM,ZM⟩
def Qk (e:Int):Except Int Unit:=if e=0 then .ok () else .error 22
def Pq (b:Bool):Except Int Unit:=if b=true then .ok () else .error 22
def U7 (b:Bool):Except Int Unit:=if b=true then .ok () else .error 25
def A3K (a b:M6):Except Int M6:=if (LM a b).2=0 then .ok (LM a b).1 else .error 22
def A69:ZD:=⟨0,0,0,0,none,[],0,0⟩
def JG (n:Int):Lh:=⟨n,0,0,0,0⟩
structure Jf where
 name:l8_
 font:Int
end
section
def m6R (r:M6 × Int):Value:=.tuple #[.agg (Mm r.1).toArray,Af r.2]
theorem Ql (m k:M6) (w:World) :
  Cb 237 #[.agg (Mm m).toArray,.agg (Mm k).toArray] w (m6R (LM m k)):=by
 obtain ⟨a,b,c,d,e,f⟩:=m
 obtain ⟨u,hu⟩:=eX (QB k a b)
 obtain ⟨v,hv⟩:=eX (QB k c d)
 obtain ⟨t,ht⟩:=eX (X7 k e f)
 have bc:LM ⟨a,b,c,d,e,f⟩ k=if u.2≠0 then (Wy,u.2) else if v.2≠0 then (Wy,v.2) else if t.2≠0 then (Wy,t.2) else (⟨u.1.1,u.1.2,v.1.1,v.1.2,t.1.1,t.1.2⟩,0):=by rw [hu,hv,ht];rfl
 rw [bc]
 obtain ⟨⟨u1,u2⟩,ue⟩:=u
 obtain ⟨⟨v1,v2⟩,ve⟩:=v
 obtain ⟨⟨t1,t2⟩,te⟩:=t
 simp only
 obtain ⟨ka,kb,kc,kd,ke,kf⟩:=k
 simp only [Mm]
 refine Ar func237 rfl ntmps237 ?_
 have bd:=CN w
 refine A4<|WL.box rfl rfl (λb1 bG be F ay bw=>?_)
 have bf:=uB bd be ay
 refine WL.box rfl rfl (λb3 bH aw G H bz=>?_)
 have bg:=Bl aw F.lt
 have ax:=F.un H bg
 have bh:=uB bf aw H
 refine Bj R3 rfl (λb7 bI J az C bA=>?_)
 have bi:=Bl J ax.lt
 have K:=ax.un C bi
 have aA:=Bl J G.lt
 have L:=G.un C aA
 have aB:=uB bh J C
 refine A9 rfl<|A4<|Ah (Bk rfl L FN rfl Ef)<|A1 (.ixr1 FN Bw rfl rfl 0 rfl oO)<|Ah (Ae (BZ _) rfl K rfl)<|A1 (.ixr1 FN Bw rfl rfl 1 rfl oO)<|Ah (Ae (BZ _) rfl K rfl)<|?_
 refine A1 (.buildL (ps:=_) MU rfl rfl rfl pS) ?_
 refine Ao (Sl ⟨ka,kb,kc,kd,ke,kf⟩ a b _) (λbJ x=>?_)
 have N:=K.bl x
 have P:=L.bl x
 have Q:=az.bl x
 have aC:=Ci aB x
 rw [<- hu]
 simp only [ptR]
 refine A3 rfl<|A1 (.ext rfl rfl)<|A1 (.ext rfl rfl)<|Bj RM rfl (λbK bB y ah i bk=>?_)
 have aD:=Bl y N.lt
 have aE:=N.un i aD
 have aF:=Bl y P.lt
 have aG:=P.un i aF
 have aH:=Bl y Q.lt
 have aI:=Q.un i aH
 have aJ:=uB aC y i
 refine Ax rfl rfl ah Hq rfl rfl (λbL ai j bm=>?_)
 have D:=aE.up j
 have T:=aG.up j
 have U:=aI.up j
 have V:=BU aJ oO j
 refine A9 rfl<|Ad<|A4<|A3 rfl<|A1 (.neq rfl rfl)<|A0<|Ai rfl (λX=>?_) (λX=>?_)
 have aK:=ndT X
 refine A4<|A1 (.build (cs:=(Mm Wy).toArray) rfl (by rw [QL];rfl)) ?_
 refine A3 rfl<|Ax rfl rfl U Ef rfl rfl (λbM aj ak bn=>?_)
 have aL:=BU V oO ak
 refine A9 rfl<|AT (Dn rfl rfl (Be aj FN rfl Ef) rfl ?_)
 exact ⟨DO (by rw [A7 oO];rfl),aL⟩
 have aK:=ndF X
 refine Ap<|A4<|Ah (Bk rfl T FN rfl Ef)<|A1 (.ixr1 FN Bw rfl rfl 2 rfl oO)<|Ah (Ae (BZ _) rfl D rfl)<|A1 (.ixr1 FN Bw rfl rfl 3 rfl oO)<|Ah (Ae (BZ _) rfl D rfl)<|?_
 refine A1 (.buildL (ps:=_) MU rfl rfl rfl pS) ?_
 refine Ao (Sl ⟨ka,kb,kc,kd,ke,kf⟩ c d _) (λbN q=>?_)
 have Y:=D.bl q
 have a0:=T.bl q
 have a1:=U.bl q
 have a2:=ai.bl q
 have aM:=Ci V q
 rw [<- hv]
 simp only [ptR]
 refine A3 rfl<|A1 (.ext rfl rfl)<|A1 (.ext rfl rfl)<|Bj RM rfl (λbO bC s am g bo=>?_)
 have aN:=Bl s Y.lt
 have aO:=Y.un g aN
 have aP:=Bl s a0.lt
 have aQ:=a0.un g aP
 have aR:=Bl s a1.lt
 have aS:=a1.un g aR
 have aT:=Bl s a2.lt
 have aU:=a2.un g aT
 have aV:=uB aM s g
 refine Ax rfl rfl am Hq rfl rfl (λbP an h bp=>?_)
 have a3:=aO.up h
 have aW:=aQ.up h
 have a4:=aS.up h
 have aX:=aU.up h
 have a5:=BU aV oO h
 refine A9 rfl<|Ad<|A4<|A3 rfl<|A1 (.neq rfl rfl)<|A0<|Ai rfl (λa6=>?_) (λa6=>?_)
 have aY:=ndT a6
 refine A4<|A1 (.build (cs:=(Mm Wy).toArray) rfl (by rw [QL];rfl)) ?_
 refine A3 rfl<|Ax rfl rfl a4 Ef rfl rfl (λbQ ao ap bq=>?_)
 have aZ:=BU a5 oO ap
 refine A9 rfl<|AT (Dn rfl rfl (Be ao FN rfl Ef) rfl ?_)
 exact ⟨DO (by rw [A2 oO,A7 oO];rfl),aZ⟩
 have aY:=ndF a6
 refine Ap<|A4<|Ah (Bk rfl aW FN rfl Ef)<|A1 (.ixr1 FN Bw rfl rfl 4 rfl oO)<|Ah (Ae (BZ _) rfl a3 rfl)<|A1 (.ixr1 FN Bw rfl rfl 5 rfl oO)<|Ah (Ae (BZ _) rfl a3 rfl)<|?_
 refine A1 (.buildL (ps:=_) MU rfl rfl rfl pS) ?_
 refine Ao (Z6 ⟨ka,kb,kc,kd,ke,kf⟩ e f _) (λbR A=>?_)
 have a7:=a4.bl A
 have a8:=aX.bl A
 have a9:=an.bl A
 have a':=Ci a5 A
 rw [<- ht]
 simp only [ptR]
 refine A3 rfl<|A1 (.ext rfl rfl)<|A1 (.ext rfl rfl)<|Bj RM rfl (λbS bD B aq l bt=>?_)
 have b0:=Bl B a7.lt
 have b2:=a7.un l b0
 have b4:=Bl B a8.lt
 have b5:=a8.un l b4
 have b6:=Bl B a9.lt
 have b8:=a9.un l b6
 have b9:=uB a' B l
 refine Ax rfl rfl aq Hq rfl rfl (λbT E o bu=>?_)
 have aa:=b2.up o
 have ab:=b5.up o
 have ac:=b8.up o
 have ad:=BU b9 oO o
 refine A9 rfl<|Ad<|A4<|A3 rfl<|A1 (.neq rfl rfl)<|A0<|Ai rfl (λae=>?_) (λae=>?_)
 have ba:=ndT ae
 refine A4<|A1 (.build (cs:=(Mm Wy).toArray) rfl (by rw [QL];rfl)) ?_
 refine A3 rfl<|Ax rfl rfl aa Ef rfl rfl (λbU ar au bv=>?_)
 have bb:=BU ad oO au
 refine A9 rfl<|AT (Dn rfl rfl (Be ar FN rfl Ef) rfl ?_)
 exact ⟨DO (by rw [A2 oO,A2 oO,A7 oO];rfl),bb⟩
 have ba:=ndF ae
 refine Ap<|A4<|A1 (.fa GU rfl Bw dD rfl)<|Ah (Ae (BZ _) rfl ab rfl)<|A1 (.fa GU rfl Bw dD rfl)<|Ah (Ae (BZ _) rfl ab rfl)<|A1 (.fa GU rfl Bw dD rfl)<|Ah (Ae (BZ _) rfl ac rfl)<|A1 (.fa GU rfl Bw dD rfl)<|Ah (Ae (BZ _) rfl ac rfl)<|A1 (.fa GU rfl Bw dD rfl)<|Ah (Ae (BZ _) rfl E rfl)<|A1 (.fa GU rfl Bw dD rfl)<|Ah (Ae (BZ _) rfl E rfl)<|?_
 refine A1 (.build (cs:=(Mm ⟨u1,u2,v1,v2,t1,t2⟩).toArray) rfl (by rw [QL];rfl)) ?_
 refine Ax rfl rfl aa Ef rfl rfl (λbE af ag bj=>?_)
 have av:=BU ad oO ag
 refine A9 rfl<|AT (Dn rfl rfl (Be af FN rfl Ef) rfl ?_)
 exact ⟨DO (by rw [A2 oO,A2 oO,A2 oO];rfl),av⟩
end
section
def YU (m:Int) (v:Value) (s n:Ke):Array Value:=#[Af m,v,Af s.fX,Af s.fY,Af n.fX,Af n.fY]
theorem Ev  {L:FW α} {t:TypeId} {b:Nat} {l:List α} (h:AD L e B w v l) (hb:B0 w b cs t) (he:e≠t):∀ g,v.ownBlock=some g->g≠b:=λg hg hgb=>by
 rcases h with ⟨rfl,-⟩ | ⟨g1,cap,cur,rfl,-,h1,-⟩
 · cases hg
 ·
  cases hg
  have hgb:g1=b:=hgb
  rw [hgb,show w.heap[b]?=_ from hb] at h1
  simp only [BN,Obj.cells.injEq] at h1
  exact he h1.2.1.symm
def vb (v:Value) (b:Nat):Nat:=v.ownBlock.getD b
structure Vn (B:Nat) (w:World) (bp:Nat) (m:Int) (P:Yg) (v:Value):Prop where
 blk:B0 w bp (YU m v P.start P.now) 232
 own:AD VQ 176 B w v P.list
 len:(P.list.length:Int)<=m/\m<=1000000
 base:B<=w.heap.size
def A7T (w:World) (v v':Value):Prop:=∀ g,v'.ownBlock=some g->v.ownBlock=some g\/w.heap.size<=g
end
section
theorem blP:Tryz.prog.built 232=λparts=>Instr.fill (([(0,1),(1,1),(2,2),(4,2)]:List (Nat × Nat)).toArray[·]?) #[Af 0,.slice none 0 0,Af 0,Af 0,Af 0,Af 0] parts:=by kernel_rfl
theorem Xv (m:Int) (w:World) (hm:0<=m/\m<=1000000) :
  Calls Tryz.prog 147 #[Af m] w λe w'=>∃ bp:Nat,e=.returned (ptV bp)/\AL w w'/\w.heap.size<=bp/\Vn w.heap.size w' bp m Uq (.slice none 0 0):=by
 refine Ar func147 rfl ntmps147 ?_
 have d:=CN w
 refine A4<|A9 rfl<|A4<|A3 rfl<|?_
 refine A1 (.build (cs:=YU m (.slice none 0 0) ZM ZM) rfl (by rw [blP];rfl)) ?_
 refine WL.box rfl rfl (λg i f b c h=>?_)
 have a:=uB d f c
 refine A9 rfl<|AW ?_
 exact ⟨g,rfl,a,oO,⟨b,AD.nil _ _ _ _,⟨hm.1,hm.2⟩,a.size⟩⟩
end
section
theorem He:∀ (n:Nat) (d:Nat) (o l:l8_) (s r:l8_),l.length<=n->D9 d o l=some (s,r)->r.length<=l.length
 | n,d,o,[],s,r,_,h=>by rw [D9.eq_def] at h;cases h
 | 0,d,o,c::t,s,r,hn,h=>by simp at hn
 | n+1,d,o,c::t,s,r,hn,h=>by
  simp only [Aa] at hn ⊢
  rw [D9.eq_def] at h
  simp only at h
  split at h
  · have:=He n _ _ t s r oO h;omega
  ·
   split at h
   ·
    split at h
    · simp only [BN,CA] at h;rw [h.2];omega
    · have:=He n _ _ t s r oO h;omega
   ·
    split at h
    ·
     split at h
     · cases h
     ·
      next e r' =>
      have h2:=V3 e r'
      simp only [Aa] at hn
      have:=He n _ _ _ s r oO h
      simp only [Aa];omega
    ·
     split at h
     ·
      have h2:=MQ t
      have:=He n _ _ _ s r oO h;omega
     · have:=He n _ _ t s r oO h;omega
theorem KT:∀ (l:l8_) (h:Option Nat) (o:l8_) (s r:l8_),KU h o l=some (s,r)->r.length<=l.length
 | [],h,o,s,r,e=>by simp [KU] at e
 | c::t,h,o,s,r,e=>by
  simp only [Aa]
  unfold KU at e
  split at e
  · have:=KT t _ _ s r e;omega
  ·
   split at e
   · simp only [BN,CA] at e;rw [<- e.2];omega
   ·
    split at e
    · cases e
    ·
     split at e
     · have:=KT t _ _ s r e;omega
     · have:=KT t _ _ s r e;omega
theorem NJ {o:Option (l8_ × l8_)} {t:Kc} {r:l8_} (h:GC o=.ok (t,r)):∃ s,o=some (s,r)/\t=⟨6,0,s⟩/\s.length<=65535:=by
 unfold GC at h
 split at h
 · cases h
 ·
  next s r' =>
  split at h
  · cases h
  ·
   simp only [Except.ok.injEq,CA] at h
   obtain ⟨rfl,rfl⟩:=h
   exact ⟨s,rfl,rfl,oO⟩
theorem Lz {k:Int} {t:Kc} {r:l8_} (h:Id k l=.ok (t,r)):r=l.dropWhile Da/\t=⟨k,0,l.takeWhile Da⟩/\(l.takeWhile Da).length<=127:=by
 unfold Id at h
 split at h
 · cases h
 ·
  simp only [Except.ok.injEq,CA] at h
  exact ⟨h.2.symm,h.1.symm,oO⟩
theorem HD (l:l8_):(l.dropWhile Da).length<=l.length:=(List.dropWhile_sublist Da).length_le
theorem Ri (o:Option (Nat × Bool)):(Ge o).ok=true->(Ge o).e=0->(Ge o).kind=1\/(Ge o).kind=2:=by
 unfold Ge
 split
 · simp [Cw]
 · split <;> simp [Gc,H8]
theorem Ue (l:l8_):(EQ l).ok=true->(EQ l).e=0->(EQ l).kind=1\/(EQ l).kind=2:=by
 unfold EQ
 split
 ·
  unfold KC
  repeat' split
  all_goals first | exact Ri _ | simp [Cw]
 · simp [Cw]
theorem TV (l:l8_) (h:(FO l).ok=true) (he:(FO l).e=0):(FO l).kind=1\/(FO l).kind=2:=by
 have hf:∀ a b c,(O9 a b c).ok=true->(O9 a b c).e=0->(O9 a b c).kind=1\/(O9 a b c).kind=2:=by
  intro a b c;unfold O9;repeat' split
  all_goals simp [Cw,Gc,H8,Lk]
 revert h he
 unfold FO
 split
 · simp [Cw]
 ·
  split
  · exact Ue l
  ·
   split
   · simp [H8]
   ·
    unfold PR
    split
    ·
     split
     · exact hf _ _ _
     · simp [Cw]
    · exact hf _ _ _
theorem Ua {c:UInt8} (h1:CV c=false) (h2:c≠37) (h40:c≠40) (h41:c≠41) (h60:¬ (c=60\/c=62)) (h123:c≠123) (h125:c≠125) (h91:¬ (c=91\/c=93)) (h47:c≠47):Da c=true:=by
 unfold Da Hs
 rw [h1]
 simp only [not_or] at h60 h91
 simp [h2,h40,h41,h60.1,h60.2,h123,h125,h91.1,h91.2,h47]
theorem A02 {c:UInt8} {r:l8_} (h1:CV c=false) (h2:c≠37) {t:Kc} (h:LS c r=.ok (t,s)):s.length<=r.length/\t.kind≠0:=by
  unfold LS at h
  split at h
  · obtain ⟨s', ho, rfl, -⟩ := NJ h
    exact ⟨He _ _ _ _ _ _ (DP _) ho,by simp⟩
  · split at h
    · cases h
    · split at h
      · unfold L9 at h
        split at h
        · split at h
          · simp only [Except.ok.injEq, CA] at h
            obtain ⟨rfl,rfl⟩:=h
            exact ⟨by simp,by simp⟩
          · split at h
            · obtain ⟨s', ho, rfl, -⟩ := NJ h
              exact ⟨KT _ _ _ _ _ ho,by simp⟩
            · cases h
        · split at h
          · obtain ⟨s', ho, rfl, -⟩ := NJ h
            exact ⟨KT _ _ _ _ _ ho,by simp⟩
          · cases h
      · split at h
        · simp only [Except.ok.injEq, CA] at h
          obtain ⟨rfl,rfl⟩:=h
          exact ⟨DP _,by simp⟩
        · split at h
          · simp only [Except.ok.injEq, CA] at h
            obtain ⟨rfl,rfl⟩:=h
            exact ⟨DP _,by simp⟩
          · split at h
            · simp only [Except.ok.injEq, CA] at h
              obtain ⟨rfl,rfl⟩:=h
              exact ⟨DP _,by simp⟩
            · split at h
              · unfold Mw at h
                split at h
                · split at h
                  · next d r' _ =>
                    obtain ⟨rfl,rfl,-⟩:=Lz h
                    have:=HD r'
                    exact ⟨by simp only [Aa];omega,by simp⟩
                  · obtain ⟨rfl, rfl, -⟩ := Lz h
                    exact ⟨HD _,by simp⟩
                · obtain ⟨rfl, rfl, -⟩ := Lz h
                  exact ⟨HD _,by simp⟩
              · have e := Ua h1 h2 aS aS aS aS aS aS aS
                have a:(c::r).dropWhile Da=r.dropWhile Da:=by simp [List.dropWhile_cons,e]
                have b:=HD r
                unfold TO at h
                simp only at h
                split at h
                · cases h
                · next he =>
                  split at h
                  · next hk =>
                    simp only [Except.ok.injEq,CA] at h
                    obtain ⟨rfl,rfl⟩:=h
                    rw [a]
                    refine ⟨b,?_⟩
                    have:=TV _ hk (by simpa using he)
                    intro f
                    simp only at f
                    omega
                  · obtain ⟨rfl, rfl, -⟩ := Lz h
                    rw [a]
                    exact ⟨b,by simp⟩
theorem IE:∀ (l:l8_) (m:Bool) {c:UInt8} {r:l8_},DG m l=c::r->CV c=false/\c≠37
 | [],m,c,r,h=>by cases m <;> simp [DG] at h
 | x::t,false,c,r,h=>by
  unfold DG at h
  split at h
  · exact IE t true h
  ·
   split at h
   · exact IE t false h
   ·
    simp only [A2y] at h
    obtain ⟨rfl,rfl⟩:=h
    exact ⟨by simp_all,aS⟩
 | x::t,true,c,r,h=>by
  unfold DG at h
  split at h
  · exact IE t false h
  · exact IE t true h
theorem Yr  {t:Kc} (h:Mv l=.ok (t,s)):(t.kind=0/\s=[])\/(t.kind≠0/\s.length<l.length):=by
 unfold Mv at h
 split at h
 ·
  simp only [Except.ok.injEq,CA] at h
  obtain ⟨rfl,rfl⟩:=h
  exact Or.inl ⟨rfl,rfl⟩
 ·
  next c r hs =>
  have hh:=IE l false hs
  obtain ⟨d,b⟩:=A02 (t:=t) (s:=s) hh.1 hh.2 h
  have a:=Iu l false
  rw [hs] at a
  simp only [Aa] at a
  exact Or.inr ⟨b,oO⟩
theorem VI {o:Option (l8_ × l8_)} {k:Int} (h:GC o=.error k):k=14\/k=9:=by
 unfold GC at h
 split at h
 · cases h;exact Or.inl rfl
 ·
  split at h
  · cases h;exact Or.inr rfl
  · cases h
theorem Wx {i:Int} {k:Int} (h:Id i l=.error k):k=9:=by
 unfold Id at h
 split at h
 · cases h;rfl
 · cases h
theorem Yu {c:UInt8} {r:l8_} {k:Int} (h:LS c r=.error k):k≠0:=by
 have ht:∀ {o:Option (l8_ × l8_)},GC o=.error k->k≠0:=λh=>by rcases VI h with rfl | rfl <;> decide
 have hn:∀ {i:Int} {l:l8_},Id i l=.error k->k≠0:=λh=>by rw [Wx h];decide
 unfold LS at h
 split at h
 · exact ht h
 ·
  split at h
  · cases h;decide
  ·
   split at h
   ·
    unfold L9 at h
    split at h
    ·
     split at h
     · cases h
     ·
      split at h
      · exact ht h
      · cases h;decide
    ·
     split at h
     · exact ht h
     · cases h;decide
   ·
    split at h
    · cases h
    ·
     split at h
     · cases h
     ·
      split at h
      · cases h
      ·
       split at h
       ·
        unfold Mw at h
        split at h
        ·
         split at h
         · exact hn h
         · exact hn h
        · exact hn h
       ·
        unfold TO at h
        simp only at h
        split at h
        · next he=>cases h;exact he
        ·
         split at h
         · cases h
         · exact hn h
theorem Ys  (h:Mv l=.error 0):False:=by
 unfold Mv at h
 split at h
 · cases h
 · exact Yu (k:=0) h rfl
theorem Qd (l:l8_) (a:Nat) (ha:a<=l.length):(G0 l a).e≠0\/((G0 l a).k=0/\(G0 l a).at'=l.length)\/((G0 l a).k≠0/\(a:Int)<(G0 l a).at'/\(G0 l a).at'<=l.length):=by
 have e:G0 l a=Z3 l (Mv (l.drop a)):=by unfold G0;rw [A2 oO];rfl
 rw [e]
 cases h:Mv (l.drop a) with
 | error k =>
  by_cases hk:k=0
  · exfalso;subst hk;exact Ys h
  · exact Or.inl hk
 | ok p =>
  obtain ⟨t,s⟩:=p
  right
  simp only [Z3]
  rcases Yr h with ⟨b,rfl⟩ | ⟨b,c⟩
  · exact Or.inl ⟨b,by simp⟩
  ·
   rw [Au] at c
   exact Or.inr ⟨b,oO,oO⟩
end
section
def Mb:l8_->Option (l8_)
 | []=>some []
 | [c]=>if c=35 then none else some [c]
 | [c,a]=>if c=35 then none else (Mb [a]).map (c::·)
 | c::a::b::r =>
  if c=35 then (if DY a<16/\DY b<16 then (Mb r).map (ch ((16 * DY a+DY b:Nat):Int)::·) else none)
  else (Mb (a::b::r)).map (c::·)
def J8 (l:l8_) (t:Nat):Except Int (l8_ × Nat) :=
 match Mb (Dr l t) with
 | none=>.error 23
 | some out=>if out=[]\/0∈out then .error 23 else if 127<out.length then .error 25 else .ok (out,BA l t)
def Ia (c:UInt8):Bool:=c != 62 && (CV c || decide (DY c<16))
def OC (l:l8_) (t:Nat):Bool:=if l[t]?=some 60 then (l.drop (t+1)).all Ia else true
def Ku (l:l8_) (t:Nat):Except Int (l8_ × Nat) :=
 if (G0 l t).e=14/\OC l t=true then .error 24
 else if (G0 l t).e=9 then .error 25
 else if (G0 l t).e≠0\/(G0 l t).k≠6 then .error 23
 else .ok ((G0 l t).s,(G0 l t).at'.toNat)
abbrev NB:=Except Int (PV × Nat)
def IM (obj:Nat->NB) (l:l8_):Nat->List PV->Nat->Except Int (List PV × Nat)
 | 0,_,_=>.error 24
 | f+1,acc,t =>
  match l[B4 false l t]? with
  | none=>.error 24
  | some c =>
   if c=93 then .ok (acc,B4 false l t+1)
   else if 65535<=acc.length then .error 25
   else match obj (B4 false l t) with
    | .error k=>.error k
    | .ok (o,t')=>IM obj l f (acc++[o]) t'
def Gl (obj:Nat->NB) (l:l8_):Nat->List (l8_)->List PV->Nat->Except Int (List (l8_) × List PV × Nat)
 | 0,_,_,_=>.error 24
 | f+1,ks,os,t =>
  match l[B4 false l t]? with
  | none=>.error 24
  | some c =>
   if c=62/\l.length<=B4 false l t+1 then .error 24
   else if c=62/\l[B4 false l t+1]?=some 62 then .ok (ks,os,B4 false l t+2)
   else if c≠47 then .error 23
   else match J8 l (B4 false l t+1) with
    | .error k=>.error k
    | .ok (k,t1) =>
     if k∈ks then .error 23
     else if 65535<=os.length then .error 25
     else match l[B4 false l t1]? with
      | none=>.error 24
      | some _=>match obj (B4 false l t1) with
       | .error k=>.error k
       | .ok (o,t')=>Gl obj l f (ks++[k]) (os++[o]) t'
def ID (l:l8_) (t:Nat):NB:=match Ku l t with | .error k=>.error k | .ok (s,t')=>.ok (Jm 5 0 s,t')
def Ml (l:l8_) (t:Nat):NB:=match J8 l t with | .error k=>.error k | .ok (s,t')=>.ok (Jm 4 0 s,t')
def Qm (r:Except Int (List PV × Nat)):NB:=match r with | .error k=>.error k | .ok (os,t')=>.ok (.mk 6 0 [] [] os,t')
def ME (r:Except Int (List (l8_) × List PV × Nat)):NB:=match r with | .error k=>.error k | .ok (ks,os,t')=>.ok (.mk 7 0 [] ks os,t')
def Ga (X:WR):NB:=if X.ok then .ok (Jm X.kind X.n [],X.np) else .error 23
def ES (refs:Bool) (l:l8_):Nat->Nat->NB
 | 0,t =>
  match l[t]? with
  | none=>.error 24
  | some c =>
   if c=47 then Ml l (t+1)
   else if c=91 then .error 25
   else if c=40 then ID l t
   else if c=60 then (if l.length<=t+1 then .error 24 else if l[t+1]?≠some 60 then ID l t else .error 25)
   else Ga (EY refs l t)
 | d+1,t =>
  match l[t]? with
  | none=>.error 24
  | some c =>
   if c=47 then Ml l (t+1)
   else if c=91 then Qm (IM (ES refs l d) l (l.length+1) [] (t+1))
   else if c=40 then ID l t
   else if c=60 then (if l.length<=t+1 then .error 24 else if l[t+1]?≠some 60 then ID l t else ME (Gl (ES refs l d) l (l.length+1) [] [] (t+2)))
   else Ga (EY refs l t)
end
section
def MR (c:UInt8):Int:=match A1c c with | some d=>(d:Int) | none=>-1
theorem IQ (c:UInt8):MR c=-1/\15<DY c\/MR c=DY c/\DY c<16:=by
 unfold MR A1c
 by_cases h:DY c<16
 · rw [A7 h];exact Or.inr ⟨rfl,h⟩
 · rw [A2 h];exact Or.inl ⟨rfl,oO⟩
theorem VV (c:UInt8) (w:World) :
  Calls Tryz.prog 227 #[.int .u8 (c.toNat:Int)] w λe w'=>e=.returned (Af (MR c))/\w=w':=by
 obtain ⟨R,hR⟩:=eX (MR c)
 rw [<- hR]
 have hR':R=if 48<=c.toNat/\c.toNat<=57 then (c.toNat:Int)-48 else if 97<=c.toNat/\c.toNat<=102 then (c.toNat:Int)-87 else if 65<=c.toNat/\c.toNat<=70 then (c.toNat:Int)-55 else -1:=by
  rw [hR];unfold MR A1c
  by_cases h1:48<=c.toNat/\c.toNat<=57;rw [show DY c=c.toNat-48 by unfold DY;rw [A7 h1],A7 oO,A7 h1];show ((c.toNat-48:Nat):Int)=_;omega
  rw [A2 h1]
  by_cases j:97<=c.toNat/\c.toNat<=102;rw [show DY c=c.toNat-87 by unfold DY;rw [A2 h1,A7 oO],A7 oO,A7 j];show ((c.toNat-87:Nat):Int)=_;omega
  rw [A2 j]
  by_cases h3:65<=c.toNat/\c.toNat<=70;rw [show DY c=c.toNat-55 by unfold DY;rw [A2 h1,A2 oO,A7 oO],A7 oO,A7 h3];show ((c.toNat-55:Nat):Int)=_;omega
  rw [A2 h3,A2];unfold DY;rw [A2 h1]
  split
  omega
  split <;> omega
 refine Ar func227 rfl ntmps227<|A4<|A9 rfl<|Ad<|AO<|A4<|A3 rfl<|A1 (.geq rfl rfl)<|A3 rfl<|Ck rfl rfl rfl (λd=>?_) (λd=>?_)
 have A:=dT d
 refine A3 rfl<|Az d<|A1 (.leq rfl rfl)<|A1 (.pkT rfl d rfl)<|A9 rfl<|Ai rfl (λj=>?_) (λj=>?_)
 have B:=dT j
 refine A4<|A3 rfl<|A1 (.sub rfl rfl (Pu oO))<|A1 (.cvt FK Mu rfl (Ba oO))<|A9 rfl<|AW ?_
 exact ⟨DS (by rw [hR'];(repeat' split) <;> omega),rfl⟩
 have B:=dF j
 refine A4<|A3 rfl<|A1 (.geq rfl rfl)<|A3 rfl<|Ck rfl rfl rfl (λf=>?_) (λf=>?_)
 have C:=dT f
 refine A3 rfl<|Az f<|A1 (.leq rfl rfl)<|A1 (.pkT rfl f rfl)<|A9 rfl<|Ai rfl (λo=>?_) (λo=>?_)
 have D:=dT o
 refine A4<|A3 rfl<|A1 (.sub rfl rfl (Pu oO))<|A1 (.cvt FK Mu rfl (Ba oO))<|A1 (.add rfl rfl (Ba oO))<|A9 rfl<|AW ?_
 exact ⟨DS (by rw [hR'];(repeat' split) <;> omega),rfl⟩
 have D:=dF o
 refine A4<|A3 rfl<|A1 (.geq rfl rfl)<|A3 rfl<|Ck rfl rfl rfl (λg=>?_) (λg=>?_)
 have E:=dT g
 refine A3 rfl<|Az g<|A1 (.leq rfl rfl)<|A1 (.pkT rfl g rfl)<|A9 rfl<|Ai rfl (λq=>?_) (λq=>?_)
 have F:=dT q
 refine A4<|A3 rfl<|A1 (.sub rfl rfl (Pu oO))<|A1 (.cvt FK Mu rfl (Ba oO))<|A1 (.add rfl rfl (Ba oO))<|A9 rfl<|AW ?_
 exact ⟨DS (by rw [hR'];(repeat' split) <;> omega),rfl⟩
 have F:=dF q
 refine Ap<|A4<|A9 rfl<|AW ?_
 exact ⟨DS (by rw [hR'];(repeat' split) <;> omega),rfl⟩
 have E:=dF g
 refine Bc g<|A1 (.pkF rfl g rfl)<|A9 rfl<|Aq rfl rfl<|Ap<|A4<|A9 rfl<|AW ?_
 exact ⟨DS (by rw [hR'];(repeat' split) <;> omega),rfl⟩
 have C:=dF f
 refine Bc f<|A1 (.pkF rfl f rfl)<|A9 rfl<|Aq rfl rfl<|A4<|A3 rfl<|A1 (.geq rfl rfl)<|A3 rfl<|Ck rfl rfl rfl (λh=>?_) (λh=>?_)
 have G:=dT h
 refine A3 rfl<|Az h<|A1 (.leq rfl rfl)<|A1 (.pkT rfl h rfl)<|A9 rfl<|Ai rfl (λs=>?_) (λs=>?_)
 have H:=dT s
 refine A4<|A3 rfl<|A1 (.sub rfl rfl (Pu oO))<|A1 (.cvt FK Mu rfl (Ba oO))<|A1 (.add rfl rfl (Ba oO))<|A9 rfl<|AW ?_
 exact ⟨DS (by rw [hR'];(repeat' split) <;> omega),rfl⟩
 have H:=dF s
 refine Ap<|A4<|A9 rfl<|AW ?_
 exact ⟨DS (by rw [hR'];(repeat' split) <;> omega),rfl⟩
 have G:=dF h
 refine Bc h<|A1 (.pkF rfl h rfl)<|A9 rfl<|Aq rfl rfl<|Ap<|A4<|A9 rfl<|AW ?_
 exact ⟨DS (by rw [hR'];(repeat' split) <;> omega),rfl⟩
 have A:=dF d
 refine Bc d<|A1 (.pkF rfl d rfl)<|A9 rfl<|Aq rfl rfl<|A4<|A3 rfl<|A1 (.geq rfl rfl)<|A3 rfl<|Ck rfl rfl rfl (λi=>?_) (λi=>?_)
 have J:=dT i
 refine A3 rfl<|Az i<|A1 (.leq rfl rfl)<|A1 (.pkT rfl i rfl)<|A9 rfl<|Ai rfl (λk=>?_) (λk=>?_)
 have t:=dT k
 refine A4<|A3 rfl<|A1 (.sub rfl rfl (Pu oO))<|A1 (.cvt FK Mu rfl (Ba oO))<|A1 (.add rfl rfl (Ba oO))<|A9 rfl<|AW ?_
 exact ⟨DS (by rw [hR'];(repeat' split) <;> omega),rfl⟩
 have t:=dF k
 refine A4<|A3 rfl<|A1 (.geq rfl rfl)<|A3 rfl<|Ck rfl rfl rfl (λa=>?_) (λa=>?_)
 have u:=dT a
 refine A3 rfl<|Az a<|A1 (.leq rfl rfl)<|A1 (.pkT rfl a rfl)<|A9 rfl<|Ai rfl (λl=>?_) (λl=>?_)
 have v:=dT l
 refine A4<|A3 rfl<|A1 (.sub rfl rfl (Pu oO))<|A1 (.cvt FK Mu rfl (Ba oO))<|A1 (.add rfl rfl (Ba oO))<|A9 rfl<|AW ?_
 exact ⟨DS (by rw [hR'];(repeat' split) <;> omega),rfl⟩
 have v:=dF l
 refine Ap<|A4<|A9 rfl<|AW ?_
 exact ⟨DS (by rw [hR'];(repeat' split) <;> omega),rfl⟩
 have u:=dF a
 refine Bc a<|A1 (.pkF rfl a rfl)<|A9 rfl<|Aq rfl rfl<|Ap<|A4<|A9 rfl<|AW ?_
 exact ⟨DS (by rw [hR'];(repeat' split) <;> omega),rfl⟩
 have J:=dF i
 refine Bc i<|A1 (.pkF rfl i rfl)<|A9 rfl<|Aq rfl rfl<|A4<|A3 rfl<|A1 (.geq rfl rfl)<|A3 rfl<|Ck rfl rfl rfl (λb=>?_) (λb=>?_)
 have x:=dT b
 refine A3 rfl<|Az b<|A1 (.leq rfl rfl)<|A1 (.pkT rfl b rfl)<|A9 rfl<|Ai rfl (λm=>?_) (λm=>?_)
 have y:=dT m
 refine A4<|A3 rfl<|A1 (.sub rfl rfl (Pu oO))<|A1 (.cvt FK Mu rfl (Ba oO))<|A1 (.add rfl rfl (Ba oO))<|A9 rfl<|AW ?_
 exact ⟨DS (by rw [hR'];(repeat' split) <;> omega),rfl⟩
 have y:=dF m
 refine Ap<|A4<|A9 rfl<|AW ?_
 exact ⟨DS (by rw [hR'];(repeat' split) <;> omega),rfl⟩
 have x:=dF b
 refine Bc b<|A1 (.pkF rfl b rfl)<|A9 rfl<|Aq rfl rfl<|Ap<|A4<|A9 rfl<|AW ?_
 exact ⟨DS (by rw [hR'];(repeat' split) <;> omega),rfl⟩
theorem NO (k:Int) (s:l8_) (w:World) (hs:s.length<=100000000) :
  Calls Tryz.prog 178 #[Af k,.string (bs s)] w (Cf 35 (if 127<s.length then .error 9 else .ok (⟨k,0,s⟩:Kc)) Kc.val (λ_ w'=>AL w w') (λw'=>AL w w')):=by
 refine Ar func178 rfl ntmps178 ?_
 have g:=CN w
 refine A4<|Bj HJ rfl (λq o h b c l=>?_)
 have a:=uB g h c
 refine A0<|Ad<|A4<|A3 rfl<|A1 (.len Gk rfl)<|A1 (.gtr rfl rfl)<|A0<|Ai rfl (λd=>?_) (λd=>?_)
 have i:=dT d
 refine Am<|A1 (.mkI Kr rfl)<|Fd rfl (Bt ?_)
 exact BB 9 (by rw [A7 oO]) a
 have i:=dF d
 refine Ap<|A4<|A3 rfl<|A3 rfl<|?_
 refine A1 (.buildL (ps:=_) I6 rfl rfl rfl pS) ?_
 refine Ax rfl rfl b BL rfl rfl (λt e f m=>?_)
 have j:=BU a oO f
 refine A0<|AT (BI rfl rfl (Be e DX rfl BL)  ?_)
 exact Cf.ok ⟨k,0,s⟩ (by rw [A2 oO]) rfl j
theorem Iw (p:Option Addr) (s:l8_) (c:Nat) (w:World) (hb:Ag w p s) (hs:s.length<=100000000) :
  Calls Tryz.prog 199 #[.slice p s.length c] w (Cf 35 (if 65535<s.length then .error 9 else .ok (⟨6,0,s⟩:Kc)) Kc.val (λ_ w'=>AL w w') (λw'=>AL w w')):=by
 refine Ar func199 rfl ntmps199 ?_
 have j:=CN w
 refine A4<|Bj HJ rfl (λx v b e a q=>?_)
 have f:=λt=>b▸hb.lt t
 have k:=Ce hb a f
 have d:=uB j b a
 refine A0<|Ad<|A4<|A3 rfl<|A1 (.lenS B1 rfl)<|A1 (.gtr rfl rfl)<|A0<|Ai rfl (λg=>?_) (λg=>?_)
 have m:=dT g
 refine Am<|A1 (.mkI Kr rfl)<|Fd rfl (Bt ?_)
 exact BB 9 (by rw [A7 oO]) d
 have m:=dF g
 refine Ap<|A4<|A3 rfl<|Ah (Fm (l:=s) B1 FK Gk rfl (k))<|?_
 refine A1 (.buildL (ps:=_) I6 rfl rfl rfl pS) ?_
 refine Ax rfl rfl e BL rfl rfl (λy h i u=>?_)
 have o:=BU d oO i
 refine A0<|AT (BI rfl rfl (Be h DX rfl BL)  ?_)
 exact Cf.ok ⟨6,0,s⟩ (by rw [A2 oO]) rfl o
def W5 (l:l8_) (t:Nat):Bool:=decide (t<l.length) && Da l[t]!
theorem A4Q  {t:Nat} (h:W5 l t=true):t<l.length/\BA l t=BA l (t+1):=by
 unfold W5 at h
 simp only [AE,AF] at h
 obtain ⟨a,b⟩:=h
 rw [getElem!_pos l t a] at b
 refine ⟨a,?_⟩
 unfold BA
 rw [FP Da l t a,A7 b,Aa];omega
theorem A4R  {t:Nat} (h:W5 l t=false):BA l t=t:=by
 unfold BA
 by_cases h1:t<l.length
 ·
  unfold W5 at h
  rw [AP h1,E3,getElem!_pos l t h1] at h
  rw [FP Da l t h1,A2 (bF h)];rfl
 · rw [Bv oO];rfl
theorem YH (x:UInt8) (w:World) (m:Nat):Calls Tryz.prog 201 #[.int .u8 (x.toNat:Int)] (w.drewN m) λe w'=>e=.returned (.bool (Da x))/\∃ k,w'=w.drewN k :=
 (SV x (w.drewN m)).mono λe w' h=>⟨h.1,m,h.2.symm⟩
theorem NN (r:Nat) (p:Option Addr) (l:l8_) (c a:Nat) (w:World) (h:Iq w r p l c a) (hne:0<l.length->(pA p).block≠r) (hc:l.length<=c) (hl:l.length<=100000000) (ha:a<=l.length) :
  Calls Tryz.prog 177 #[ptV r] w λe w'=>e=.returned (.string (bs ((l.drop a).takeWhile Da)))/\Iq w' r p l c (BA l a)/\Bh w.heap.size r w w':=by
 have hr:=h.1
 refine Ar func177 rfl ntmps177<|A4<|A9 rfl<|A4<|A3 rfl<|A1 (.nck rfl)<|A1 (.fa Dj rfl Bw dD rfl)<|Ah (Ae (BZ _) rfl hr rfl)<|A9 rfl<|Ad<|AO<|BM (α:=Nat) (λt=>[(0,ptV r),(3,Af (a:Int))]) (λt w'=>Iq w' r p l c t/\Bh w.heap.size r w w'/\a<=t/\t<=l.length/\BA l t=BA l a) (λt=>l.length-t) (a) ⟨rfl,rfl,tT⟩ (⟨h,Bh.refl _ _ _,DP _,ha,rfl⟩) (λt J hR=>?_)
 obtain ⟨d,hT,u,ht,hw⟩:=hR
 refine Ad<|Je 22 (W5 l t) ?_ (λJ o=>?_)
 refine DH BR kR<|WQ.p (.mv rfl) rfl<|Jc BK rfl rfl (λm=>(Th r p l c t _ ⟨d.1,d.2⟩ m))<|WQ.p (.mv rfl) rfl<|Kj rfl rfl rfl (λb=>?_) (λb=>?_)
 have C:=dT b
 refine WQ.p (.mv rfl) rfl<|C0 rfl rfl rfl b<|WQ.p (.nck rfl) rfl<|C0 rfl rfl rfl b<|WQ.p (.fa Dj rfl D8 dD rfl) rfl<|C0 rfl rfl rfl b<|Db (λm=>Ae (g22_ _) rfl d.1 rfl) rfl<|C0 rfl rfl rfl b<|WQ.p (.mv rfl) rfl<|C0 rfl rfl rfl b<|WQ.p (.nck rfl) rfl<|C0 rfl rfl rfl b<|WQ.p (.fa Dj rfl Bw dD rfl) rfl<|C0 rfl rfl rfl b<|Db (λm=>Ae (BZ _) rfl d.1 rfl) rfl<|C0 rfl rfl rfl b<|WQ.p (.ixb B1 EA rfl rfl (d.2.isp oO) (t) oO oO) rfl<|C0 rfl rfl rfl b<|Db (λm=>Bq (Iz _) rfl ((d.2.drewN m).cells (t) oO)) rfl<|C0 rfl rfl rfl b<|Jc BK rfl rfl (λm=>(YH _ _ m))<|WQ.p (.pkT rfl b rfl) rfl<|CX (λN D=>?_)
 exact ⟨Gy (DM rfl (by (by_cases hq:t<l.length) <;> (unfold W5;first | (exfalso;omega) | (rw [getElem!_pos l t hq,AP hq];rfl) | (rw [AJ hq];simp_all;done)))),D⟩
 have C:=dF b
 refine Bm rfl rfl rfl b<|Bm rfl rfl rfl b<|Bm rfl rfl rfl b<|Bm rfl rfl rfl b<|Bm rfl rfl rfl b<|Bm rfl rfl rfl b<|Bm rfl rfl rfl b<|Bm rfl rfl rfl b<|Bm rfl rfl rfl b<|Bm rfl rfl rfl b<|WQ.p (.pkF rfl b rfl) rfl<|CX (λP E=>?_)
 exact ⟨Gy (DM rfl (by (by_cases hq:t<l.length) <;> (unfold W5;first | (exfalso;omega) | (rw [getElem!_pos l t hq,AP hq];rfl) | (rw [AJ hq];simp_all;done)))),E⟩
 have g:=d.1.drew o
 have j:=d.2.drew o
 have q:=BC hT (Mf o)
 refine Ai rfl (λF=>?_) (λF=>?_)
 obtain ⟨s,K⟩:=A4Q aS
 refine Ap<|AO<|Am<|A3 rfl<|A1 (.nck rfl)<|A1 (.fa Dj rfl Bw dD rfl)<|Ah (Ae (BZ _) rfl g rfl)<|A1 (.iis (((t+1:Nat):Int)) (.add rfl rfl (Ba oO)) oO)<|A1 (.nck rfl)<|A1 (.fa Dj rfl Bw dD rfl)<|Br Bw rfl rfl rfl g (by exact Nat.le_of_ble_eq_true rfl) (λG i f H=>?_)
 have i:B0 G r _ _:=i
 have f:CK r _ _:=f
 have v:=Ag.upd j f hne
 have x:=BC q (Bp f)
 refine A0<|?_
 exact ⟨t+1,⟨rfl,rfl,tT⟩,⟨⟨i,v⟩,x,oO,oO,oO⟩,oO⟩
 have s:=A4R aS
 refine BF<|Ad<|DH BR kR<|WQ.p (.mv rfl) rfl<|WQ.p (.nck rfl) rfl<|WQ.p (.fa Dj rfl D8 dD rfl) rfl<|Db (λm=>Ae (g22_ _) rfl g rfl) rfl<|WQ.p (.mv rfl) rfl<|WQ.p (.mv rfl) rfl<|WQ.p (.nck rfl) rfl<|WQ.p (.fa Dj rfl Bw dD rfl) rfl<|Db (λm=>Ae (BZ _) rfl g rfl) rfl<|WQ.p (.slb B1 EA rfl rfl rfl  (a) (t) (rfl) (rfl) (u) oO) rfl<|Db (λm=>IV B1 FK Gk rfl rfl (j.drewN m) u ht hc) rfl<|WQ.p (.as rfl) rfl<|CX (λL k=>?_)
 have y:=g.drew k
 have A:=j.drew k
 have B:=BC q (Mf k)
 refine AW ?_
 exact ⟨AU (by rw [<- RN,<- hw,s]),⟨by rw [<- hw,s];exact y,A⟩,B⟩
theorem O2 {k e:Int} (h:(if 127<(l.takeWhile Da).length then (.error 9:Except Int Kc) else .ok ⟨k,0,l.takeWhile Da⟩)=.error e):Id k l=.error e:=by
 unfold Id
 split at h
 · next h1=>rw [A7 h1];cases h;rfl
 · cases h
theorem Qi {k:Int} {a:Kc} (h:(if 127<(l.takeWhile Da).length then (.error 9:Except Int Kc) else .ok ⟨k,0,l.takeWhile Da⟩)=.ok a):Id k l=.ok (a,l.dropWhile Da):=by
 unfold Id
 split at h
 · cases h
 · next h1=>rw [A2 h1];cases h;rfl
theorem Po (l:l8_) (t:Nat):((l.drop t).takeWhile Da).length<=l.length:=by
 have:=(List.takeWhile_sublist Da (l:=l.drop t)).length_le
 rw [Au] at this;omega
def A2a (w0:World) (r:Nat) (p:Option Addr) (l:l8_) (c:Nat) (a:Kc × l8_) (w':World):Prop:=∃ k,a.2=l.drop k/\k<=l.length/\Iq w' r p l c k/\Bh w0.heap.size r w0 w'
theorem VT (r:Nat) (p:Option Addr) (l:l8_) (c t:Nat) (w:World) (h:Iq w r p l c t) (hne:0<l.length->(pA p).block≠r) (hc:l.length<=c) (hl:l.length<=100000000) (ht:t<=l.length) :
  Calls Tryz.prog 176 #[ptV r] w (Cf 35 (Mw (l.drop t)) (λa=>a.1.val) (A2a w r p l c) (λw'=>Bh w.heap.size r w w')):=by
 have hr:=h.1
 have hb:=h.2
 have hy:=A0c (l:=l) (s:=t) (d:=(l[t]?).getD 0) rfl
 refine Ar func176 rfl ntmps176 ?_
 have R:=Bh.refl (w.heap.size) r w
 refine A4<|Bj HJ rfl (λb1 ax D E v aw=>?_)
 have ae:=Bl D hr.lt
 have af:=hr.un v ae
 have y:=λF=>D▸hb.lt F
 have ag:=Ce hb v y
 have O:=CF D R.size
 have T:=BC R (DJ v O)
 refine A0<|Ad<|A4<|A3 rfl<|Ao (Lm r p l c t 47 _ ⟨af,ag⟩ hne hl ht) (λw7 A=>?_)
 have B:=A.1.1
 have C:=Gn E A.2 E.lt oO
 have G:=A.1.2
 have f:=BC T (EX A.2 T.size)
 refine A0<|Ai rfl (λah=>?_) (λah=>?_)
 obtain ⟨ai,aj⟩:=Pb (x:=47) aS
 rw [A7 aS] at B
 rw [A7 (by rw [Aj ai,aj];rfl)] at hy
 refine A4<|A3 rfl<|Ao (NN r p l c (t+1) _ ⟨B,G⟩ hne hc hl oO) (λay g=>?_)
 have U:=g.1.1
 have V:=Gn C g.2 C.lt oO
 have H:=g.1.2
 have i:=BC f (EX g.2 f.size)
 refine C1 BK rfl rfl ((NO 5 _ _ (by have:=Po l (t+1);omega))) (λak am j b=>?_) (λan am j b=>?_)
 have J:=BC i (EX (Fo b) i.size)
 exact Bt (BB ak (by rw [hy];exact O2 j) J)
 have X:=U.bl b
 have Y:=V.bl b
 have Z:=DL H b (λF=>H.lt F)
 have a1:=BC i (EX (Fo b) i.size)
 obtain ⟨a0,ao⟩:=eX an
 have K:=j
 refine Ax rfl rfl Y BL rfl rfl (λaz P k au=>?_)
 have a2:=X.up k
 have a3:=Ce Z k y
 have a4:=BC a1 (DJ k oO)
 refine A0<|AT (BI rfl rfl (Be P DX rfl BL)  ?_)
 exact Cf.ok (_,l.drop (BA l (t+1))) (by rw [hy,Qi K,Li]) rfl ⟨_,rfl,(F6 l (t+1) oO).2,⟨a2,a3⟩,a4⟩
 rw [A2 (bF aS)] at B
 rw [A2 (by
  by_cases hq:t<l.length;rw [Aj hq];exact Te (x:=47) aS hq;rw [AZ oO];decide)] at hy
 refine Ap<|A4<|A3 rfl<|Ao (NN r p l c t _ ⟨B,G⟩ hne hc hl oO) (λaA m=>?_)
 have a5:=m.1.1
 have a6:=Gn C m.2 C.lt oO
 have L:=m.1.2
 have o:=BC f (EX m.2 f.size)
 refine C1 BK rfl rfl ((NO 4 _ _ (by have:=Po l t;omega))) (λap aq q e=>?_) (λar aq q e=>?_)
 have N:=BC o (EX (Fo e) o.size)
 exact Bt (BB ap (by rw [hy];exact O2 q) N)
 have a7:=a5.bl e
 have a8:=a6.bl e
 have a9:=DL L e (λF=>L.lt F)
 have aa:=BC o (EX (Fo e) o.size)
 obtain ⟨a0,ao⟩:=eX ar
 have K:=q
 refine Ax rfl rfl a8 BL rfl rfl (λaB Q u av=>?_)
 have ab:=a7.up u
 have ac:=Ce a9 u y
 have ad:=BC aa (DJ u oO)
 refine A0<|AT (BI rfl rfl (Be Q DX rfl BL)  ?_)
 exact Cf.ok (_,l.drop (BA l t)) (by rw [hy,Qi K,Li]) rfl ⟨_,rfl,(F6 l t oO).2,⟨ab,ac⟩,ad⟩
end
section
theorem A4a (h d:Nat) (hh:h<16) (hd:d<16):bits .or .i64 ((h:Int) * 16) (d:Int)=(h:Int) * 16+d:=by
 have key:∀ h d:Fin 16,bits .or .i64 ((h.1:Int) * 16) (d.1:Int)=(h.1:Int) * 16+d.1:=by decide +kernel
 exact key ⟨h,hh⟩ ⟨d,hd⟩
theorem BG.shl4  (hx:CM f x=some (Af a)) (r:Int) (hr:IntKind.i64.wrap (a * 16)=r):BG P (.binOp .shl tx x (.const (.int .u64 4)) ty) f (Af r):=λρ hρ d ty' pos aft g w=>by
 have h4:ρ (.const (.int .u64 4))=.int .u64 4:=hρ _ _ rfl
 simp [execOp,hρ _ _ hx,h4,eqGuard,binOp,shift_shl_i64,hr]
theorem BG.or  {k:IntKind} {b r:Int} (hx:CM f x=some (.int k a)) (hy:CM f y=some (.int k b)) (hr:bits .or k a b=r):BG P (.binOp .or tx x y ty) f (.int k r):=λρ hρ d ty' pos aft g w=>by
 simp [execOp,hρ _ _ hx,hρ _ _ hy,eqGuard,binOp,intBits_or,hr]
theorem Hc  {t:Nat} {k:Int} (h:Pz l t=.error k):l.length<=t/\k=14:=by
 unfold Pz at h
 split at h
 · cases h
 · next h1=>cases h;exact ⟨List.getElem?_eq_none_iff.1 h1,rfl⟩
theorem N6  {t:Nat} {x:UInt8} (h:Pz l t=.ok x):∃ ht:t<l.length,x=l[t]'ht:=by
 unfold Pz at h
 split at h
 · next h1=>cases h;obtain ⟨a,b⟩:=C8.1 h1;exact ⟨a,b.symm⟩
 · cases h
theorem NK {e:Int} {r:l8_} (h:(if 65535<s.length then (.error 9:Except Int Kc) else .ok ⟨6,0,s⟩)=.error e):GC (some (s,r))=.error e:=by
 simp only [GC]
 split at h
 · next h1=>rw [A7 h1];cases h;rfl
 · cases h
theorem Py  {r:l8_} {a:Kc} (h:(if 65535<s.length then (.error 9:Except Int Kc) else .ok ⟨6,0,s⟩)=.ok a):GC (some (s,r))=.ok (a,r):=by
 simp only [GC]
 split at h
 · cases h
 · next h1=>rw [A2 h1];cases h;rfl
theorem A0g (r:Nat) (p:Option Addr) (l:l8_) (c t:Nat) (w:World) (h:Iq w r p l c t) (hne:0<l.length->(pA p).block≠r) (hc:l.length<=c) (hl:l.length<=100000000) (ht:t<=l.length) :
  Calls Tryz.prog 200 #[ptV r] w (Cf 35 (GC (KU none [] (l.drop t))) (λa=>a.1.val) (A2a w r p l c) (λw'=>Bh w.heap.size r w w')):=by
 have hr:=h.1
 have hb:=h.2
 obtain ⟨R,hR⟩:=eX (KU none [] (l.drop t))
 rw [<- hR]
 obtain ⟨a,rfl⟩:=eX t
 refine Ar func200 rfl ntmps200 ?_
 have ar:=Bh.refl (w.heap.size) r w
 refine A4<|Bj HJ rfl (λb1 bI V av T bE=>?_)
 have bb:=Bl V hr.lt
 have bc:=hr.un T bb
 have U:=λC=>V▸hb.lt C
 have bd:=Ce hb T U
 have ag:=CF V ar.size
 have be:=BC ar (DJ T ag)
 refine A0<|Ad ?_
 have au:0<l.length->(pA p).block<b1+1:=λC=>by have:=hb.lt C;omega
 refine Am<|A9 rfl<|A4<|A9 rfl<|Ad<|AO<|BM (α:=Value × l8_ × Option Nat × Nat) (λt=>[(0,ptV r),(2,ptV b1),(3,t.1),(4,Af (WM t.2.2.1))]) (λt w'=>Iq w' r p l c t.2.2.2/\Bh w.heap.size r w w'/\B0 w' b1 #[Af 0,Af 0,.string ⟨#[]⟩] 196/\CP 5 (b1+1) w' t.1 (AQ t.2.1)/\KU t.2.2.1 t.2.1 (l.drop t.2.2.2)=R/\(∀ x,t.2.2.1=some x->x<16)/\t.2.1.length<=t.2.2.2/\t.2.2.2<=l.length) (λt=>l.length-t.2.2.2) ((.slice none 0 0,[],none,a)) ⟨rfl,rfl,rfl,rfl,tT⟩ (⟨⟨bc,bd⟩,be,av,CP.nil _ _ _,hR.symm,λx hx=>(by cases hx),FI _,ht⟩) (λt w1 hR=>?_)
 obtain ⟨v,o,h,s⟩:=t
 obtain ⟨X,hT,Y,a1,hw,H,bf,hs⟩:=hR
 simp only at X hT Y a1 hw H bf hs ⊢
 refine AO<|A4<|A3 rfl<|C1 BK rfl rfl ((Ll r p l c s _ ⟨X.1,X.2⟩ hne hl)) (λk9 w7 J D=>?_) (λa8 w7 J D=>?_)
 have ah:=BC hT (EX D hT.size)
 exact Bt (BB k9 (by rw [(Hc J).2,<- hw,Bv (Hc J).1];(first | done | rfl)) ah)
 have E:=Hw a1 D.2 oO
 have f:=D.1.1
 have g:=Gn Y D.2 Y.lt oO
 have e:=D.1.2
 have b:=BC hT (EX D.2 hT.size)
 obtain ⟨bg,hx⟩:=N6 J
 obtain ⟨x,bh⟩:=eX a8
 rw [<- bh] at hx ⊢
 have i:=Zf h o l s bg
 rw [<- hx] at i
 refine A9 rfl<|Ad<|A4<|A3 rfl<|Ao (My x _) (λbJ aw=>?_)
 obtain rfl:=aw
 refine A0<|Ai rfl (λbi=>?_) (λbi=>?_)
 refine BF ?_
 exact ⟨(_,o,h,s+1),⟨rfl,rfl,rfl,rfl,tT⟩,⟨⟨f,e⟩,b,g,E,(by rw [<- hw,i,A7 aS]),H,oM,oM⟩,oM⟩
 refine Ap<|Ad<|A4<|A3 rfl<|A1 (.eql rfl rfl)<|A0<|Ai rfl (λa2=>?_) (λa2=>?_)
 have ax:=dT a2
 refine BF<|Ad<|A4<|A3 rfl<|A1 (.geq rfl rfl)<|A0<|Ai rfl (λa3=>?_) (λa3=>?_)
 have ay:=dT a3
 obtain ⟨y,rfl⟩:∃ y,h=some y:=by cases h with | none=>exfalso;have:WM none=-1:=rfl;omega | some y=>exact ⟨y,rfl⟩
 have hy:=H y rfl
 have bj:WM (some y)=(y:Int):=rfl
 refine Am<|A3 rfl<|A3 rfl<|A1 (.iis ((y:Int) * 16) (.shl4 rfl _ (Ba oO)) oO)<|A1 (.cvt Mu FK rfl (Pu oO))<|Cs (ps:=_) B1 EA Mt rfl rfl rfl rfl rfl pR rfl (λbK bG F ai j bw=>?_)
 have az:=DC E F j
 have aA:=Bl F f.lt
 have aB:=f.un j aA
 have aC:=Bl F g.lt
 have a4:=g.un j aC
 have aj:=λC=>F▸e.lt C
 have aD:=Ce e j aj
 have a5:=CF F b.size
 have aE:=BC b (DJ j a5)
 refine Ew B1 IN rfl rfl rfl az rfl ai rfl (by rw [Cl];omega) (a4.lt) rfl (λbL bM ak A bz=>?_)
 have aF:=aB.below A oO
 have aG:=a4.below A oO
 have a6:=DL aD A au
 have K:=BC aE (Fo (A.mono oO))
 have aH:=Ea ak (ch ((y * 16:Nat):Int)) (by rw [IS _ oO oO];omega)
 refine A9 rfl<|Ad ?_
 obtain ⟨q,cq,rfl,a7,bk⟩:=CP.bytes aH
 refine Am<|A3 rfl<|C1 BK rfl rfl ((Iw q _ cq _ a7 (by (simp only [A8,Aa,Ak];omega)))) (λbm bn L m=>?_) (λbo bn L m=>?_)
 have a9:=BC K (EX (Fo m) K.size)
 exact Bt (BB bm (by rw [<- hw,i,A2 (bF aS),A7 (Co (d:=62) aS)];exact NK L) a9)
 have aI:=aF.bl m
 have aJ:=aG.bl m
 have aK:=DL a6 m (λC=>a6.lt C)
 have aL:=BC K (EX (Fo m) K.size)
 obtain ⟨a0,bp⟩:=eX bo
 have aa:=L
 refine Ax rfl rfl aJ BL rfl rfl (λbN am N bA=>?_)
 have aM:=aI.up N
 have aN:=Ce aK N U
 have aO:=BC aL (DJ N oO)
 refine A0<|AT (BI rfl rfl (Be am DX rfl BL)  ?_)
 exact Cf.ok (_,l.drop (s+1)) (by rw [<- hw,i,A2 (bF aS),A7 (Co (d:=62) aS)];exact Py aa) rfl ⟨_,rfl,oO,⟨aM,aN⟩,aO⟩
 have ay:=dF a3
 obtain rfl:h=none:=by cases h with | none=>rfl | some y=>exfalso;have:WM (some y)=(y:Int):=rfl;omega
 refine Ap<|Ad ?_
 obtain ⟨q,cq,rfl,a7,bk⟩:=CP.bytes E
 refine Am<|A3 rfl<|C1 BK rfl rfl ((Iw q _ cq _ a7 oO)) (λbq bt P u=>?_) (λbu bt P u=>?_)
 have ab:=BC b (EX (Fo u) b.size)
 exact Bt (BB bq (by rw [<- hw,i,A2 (bF aS),A7 (Co (d:=62) aS)];exact NK P) ab)
 have aP:=f.bl u
 have aQ:=g.bl u
 have aR:=DL e u (λC=>e.lt C)
 have aT:=BC b (EX (Fo u) b.size)
 obtain ⟨a0,bp⟩:=eX bu
 have aa:=P
 refine Ax rfl rfl aQ BL rfl rfl (λbO an Q bB=>?_)
 have aU:=aP.up Q
 have aV:=Ce aR Q U
 have aW:=BC aT (DJ Q oO)
 refine A0<|AT (BI rfl rfl (Be an DX rfl BL)  ?_)
 exact Cf.ok (_,l.drop (s+1)) (by rw [<- hw,i,A2 (bF aS),A7 (Co (d:=62) aS)];exact Py aa) rfl ⟨_,rfl,oO,⟨aU,aV⟩,aW⟩
 have ax:=dF a2
 refine Ap<|A4<|A3 rfl<|Ao (VV x _) (λbP aX=>?_)
 obtain rfl:=aX
 have bv:=IQ x
 refine A9 rfl<|AO<|A4<|A3 rfl<|A1 (.lss rfl rfl)<|A9 rfl<|Ai rfl (λac=>?_) (λac=>?_)
 have aY:=dT ac
 refine Am<|A1 (.mkI Kr rfl)<|Fd rfl (Bt ?_)
 exact BB 14 (by rw [<- hw,i,A2 (bF aS),A2 (Df (d:=62) aS),A7 oO];(first | done | rfl)) b
 have aY:=dF ac
 refine A4<|A3 rfl<|A1 (.lss rfl rfl)<|A9 rfl<|Ai rfl (λad=>?_) (λad=>?_)
 have aZ:=dT ad
 obtain rfl:h=none:=by cases h with | none=>rfl | some y=>exfalso;have:WM (some y)=(y:Int):=rfl;omega
 refine Am<|A3 rfl<|A9 rfl ?_
 exact ⟨(_,o,some (DY x),s+1),⟨rfl,rfl,rfl,O4 rfl (by show MR x=(DY x:Int);omega),tT⟩,⟨⟨f,e⟩,b,g,E,(by rw [<- hw,i,A2 (bF aS),A2 (Df (d:=62) aS),A2 oO]),λz hz=>(by obtain rfl:=C3 hz;omega),oM,oM⟩,oM⟩
 have aZ:=dF ad
 obtain ⟨y,rfl⟩:∃ y,h=some y:=by cases h with | none=>exfalso;have:WM none=-1:=rfl;omega | some y=>exact ⟨y,rfl⟩
 have hy:=H y rfl
 have bj:WM (some y)=(y:Int):=rfl
 refine A4<|A3 rfl<|A3 rfl<|A1 (.iis ((y:Int) * 16) (.shl4 rfl _ (Ba oO)) oO)<|A3 rfl<|A1 (.or rfl rfl (show bits .or .i64 ((y:Int) * 16) (MR x)=(y:Int) * 16+(DY x:Int) by rw [(bv.resolve_left (λh=>by have:=h.1;omega)).1];exact A4a _ _ hy oO))<|A1 (.cvt Mu FK rfl (Pu oO))<|Cs (ps:=_) B1 EA Mt rfl rfl rfl rfl rfl pR rfl (λbQ bH G ao k bC=>?_)
 have a':=DC E G k
 have b0:=Bl G f.lt
 have b2:=f.un k b0
 have b3:=Bl G g.lt
 have ae:=g.un k b3
 have ap:=λC=>G▸e.lt C
 have b4:=Ce e k ap
 have af:=CF G b.size
 have b5:=BC b (DJ k af)
 refine Ew B1 IN rfl rfl rfl a' rfl ao rfl (by rw [Cl];omega) (ae.lt) rfl (λbR bS aq B bD=>?_)
 have b6:=b2.below B oO
 have b7:=ae.below B oO
 have b8:=DL b4 B au
 have b9:=BC b5 (Fo (B.mono oO))
 have ba:=Ea aq (ch ((y * 16+DY x:Nat):Int)) (by rw [IS _ oO oO];omega)
 refine A9 rfl<|Am<|A9 rfl ?_
 exact ⟨(_,o++[_],none,s+1),⟨rfl,rfl,rfl,rfl,tT⟩,⟨⟨b6,b8⟩,b9,b7,ba,(by rw [<- hw,i,A2 (bF aS),A2 (Df (d:=62) aS),A2 oO]),λz hz=>(by cases hz),oF,oM⟩,oM⟩
theorem Vo  {b:Nat} {c d:UInt8} {t:TypeId} (h:B0 w b #[.int .u8 (c.toNat:Int),.int .u8 (d.toNat:Int)] t):Ag w (some ⟨b,0,none⟩) [c,d] :=
 ⟨λ_=>rfl,λj hj=>by
  have e1:(pA (some ⟨b,0,none⟩)).add j=⟨b,j,none⟩:=by
   show (⟨b,0,none⟩:Addr).add j=_
   unfold Addr.add;split
   · next h=>subst h;rfl
   · simp
  rw [e1,h.cell j]
  match j,hj with
  | 0,_=>rfl
  | 1,_=>rfl⟩
theorem PJ (r:Nat) (p:Option Addr) (l:l8_) (c t:Nat) (x:UInt8) (w:World) (h:Iq w r p l c t) (hne:0<l.length->(pA p).block≠r) (hc:l.length<=c) (hl:l.length<=100000000) (ht:t<=l.length) (hx:x≠0) :
  Calls Tryz.prog 175 #[ptV r,.int .u8 (x.toNat:Int)] w (Cf 35 (L9 x (l.drop t)) (λa=>a.1.val) (A2a w r p l c) (λw'=>Bh w.heap.size r w w')):=by
 have hr:=h.1
 have hb:=h.2
 have hy:=A20 (l:=l) (s:=t) (c:=x) (d:=(l[t]?).getD 0) hx rfl
 refine Ar func175 rfl ntmps175 ?_
 have N:=Bh.refl (w.heap.size) r w
 refine A4<|Bj HJ rfl (λb1 ax B C q av=>?_)
 have ad:=Bl B hr.lt
 have ae:=hr.un q ad
 have u:=λQ=>B▸hb.lt Q
 have af:=Ce hb q u
 have G:=CF B N.size
 have P:=BC N (DJ q G)
 refine A0<|Ad<|AO<|A4<|A3 rfl<|A3 rfl<|Ao (Lm r p l c t x _ ⟨ae,af⟩ hne hl ht) (λw7 y=>?_)
 have o:=y.1.1
 have A:=Gn C y.2 C.lt oO
 have v:=y.1.2
 have f:=BC P (EX y.2 P.size)
 refine A9 rfl<|Ai rfl (λag=>?_) (λag=>?_)
 obtain ⟨ah,ai⟩:=Pb (x:=x) aS
 rw [A7 aS] at o
 rw [A7 (by rw [Aj ah,ai];rfl)] at hy
 refine A4<|A3 rfl<|A3 rfl<|Cs (ps:=_) B1 EA Mt rfl rfl rfl rfl rfl pR rfl (λay aw i H g aq=>?_)
 have T:=Bl i o.lt
 have U:=o.un g T
 have V:=Bl i A.lt
 have X:=A.un g V
 have J:=λQ=>i▸v.lt Q
 have Y:=Ce v g J
 have D:=CF i f.size
 have a1:=BC f (DJ g D)
 refine Ah (Fm (l:=[x,x]) B1 FK Gk rfl (Vo H))<|?_
 refine A1 (.buildL (ps:=_) I6 rfl rfl rfl pS) ?_
 refine Ax rfl rfl X BL rfl rfl (λaz K j ar=>?_)
 have a2:=U.up j
 have a3:=Ce Y j u
 have a4:=BC a1 (DJ j oO)
 refine A0<|AT (BI rfl rfl (Be K DX rfl BL)  ?_)
 exact Cf.ok (⟨3,0,[x,x]⟩,l.drop (t+1)) hy rfl ⟨_,rfl,oO,⟨a2,a3⟩,a4⟩
 rw [A2 (bF aS)] at o
 rw [A2 (by
  by_cases hq:t<l.length;rw [Aj hq];exact Te (x:=x) aS hq;rw [AZ oO];exact λe=>hx e.symm)] at hy
 refine A4<|A3 rfl<|A1 (.eql rfl rfl)<|A9 rfl<|Ai rfl (λE=>?_) (λE=>?_)
 have a5:=dT E
 refine A4<|A3 rfl<|C1 BK rfl rfl ((A0g r p l c t _ ⟨o,v⟩ hne hc hl ht)) (λaj ak k b=>?_) (λam ak k b=>?_)
 have F:=BC f (EX b f.size)
 exact Bt (BB aj (by rw [hy,A7 (Co aS)];exact k) F)
 obtain ⟨kr,an,ao,b⟩:=b
 have a6:=b.1.1
 have a7:=Gn A b.2 A.lt oO
 have a8:=b.1.2
 have a9:=BC f (EX b.2 f.size)
 have ap:=k
 obtain ⟨a0,aA⟩:=eX am
 refine Ax rfl rfl a7 BL rfl rfl (λaB L m au=>?_)
 have aa:=a6.up m
 have ab:=Ce a8 m u
 have ac:=BC a9 (DJ m oO)
 refine A0<|AT (BI rfl rfl (Be L DX rfl BL)  ?_)
 exact Cf.ok _ (by rw [hy,A7 (Co aS)];exact ap) rfl ⟨_,an,ao,⟨aa,ab⟩,ac⟩
 have a5:=dF E
 refine Ap<|Am<|A1 (.mkI Kr rfl)<|Fd rfl (Bt ?_)
 exact BB 14 (by rw [hy,A2 (Df (d:=60) aS)]) f
end
section
theorem Pa (l:l8_) (t:Nat) (ht:t<=l.length):t<=(if Gt l t 10 then t+1 else t)/\(if Gt l t 10 then t+1 else t)<=l.length/\l.drop (if Gt l t 10 then t+1 else t)=I4 (l.drop t):=by
 have e:Gt l t 10=lfB l t:=rfl
 rw [e]
 cases hb:lfB l t with
 | true=>have:=A6h hb;rw [A7 rfl];exact ⟨oO,oO,this.2.symm⟩
 | false=>rw [A2 (by simp)];exact ⟨DP _,ht,(A6i hb).symm⟩
theorem U2 (B r:Nat) (p:Option Addr) (l:l8_) (c t:Nat) (x:UInt8) (v:Value) (o:l8_) (w:World) (h:Iq w r p l c t) (hne:0<l.length->(pA p).block≠r) (hl:l.length<=100000000) (ht:t<=l.length)
  (hrB:r<B) (hBw:B<=w.heap.size) (hpB:0<l.length->(pA p).block<B) (hown:CP 5 B w v (AQ o)) (hol:o.length<=500000000) :
  Calls Tryz.prog 197 #[ptV r,v,.int .u8 (x.toNat:Int)] w λe w'=>∃ v',e=.returned v'/\∃ k,Iq w' r p l c k/\Bh B r w w'/\CP 5 B w' v' (AQ (o++(HZ x (l.drop t)).1))/\t<=k/\k<=l.length/\l.drop k=(HZ x (l.drop t)).2:=by
 have hr:=h.1
 have hb:=h.2
 refine Ar func197 rfl ntmps197 ?_
 have d:=Bh.refl (B) r w
 refine A4<|A9 rfl<|Ad<|A4<|A3 rfl<|A0<|AO<|A4<|A1 (.eql rfl rfl)<|A9 rfl<|Ai rfl (λh1=>?_) (λh1=>?_)
 have cG:=dT h1
 refine A4<|A3 rfl<|Cs (ps:=_) B1 EA Mt rfl rfl rfl rfl rfl pR rfl (λb2 dm ab bw R d2=>?_)
 have cH:=DC hown ab R
 have cI:=Bl ab hr.lt
 have cJ:=hr.un R cI
 have bz:=λg=>ab▸hb.lt g
 have cK:=Ce hb R bz
 have aK:=CF ab d.size
 have bp:=BC d (DJ R (C9 hBw aK))
 refine Ew B1 IN rfl rfl rfl cH rfl bw rfl (by rw [Cl];omega) ((C9 hBw bp.size)) rfl (λv9 dn aL T cQ=>?_)
 have bA:=cJ.below T oO
 have bB:=DL cK T hpB
 have bC:=BC bp (Fo (T.mono (DP _)))
 have bD:=Ea aL (10) (rfl)
 refine A9 rfl<|AW ?_
 exact ⟨_,rfl,t,⟨bA,bB⟩,bC,(by rw [show x=110 from Co aS,A1B];exact bD),DP _,ht,(by rw [show x=110 from Co aS,A1B])⟩
 have cG:=dF h1
 refine A4<|A1 (.eql rfl rfl)<|A9 rfl<|Ai rfl (λai=>?_) (λai=>?_)
 have bE:=dT ai
 refine A4<|A3 rfl<|Cs (ps:=_) B1 EA Mt rfl rfl rfl rfl rfl pR rfl (λdp d3 U aM s cR=>?_)
 have bG:=DC hown U s
 have bH:=Bl U hr.lt
 have bI:=hr.un s bH
 have aN:=λg=>U▸hb.lt g
 have bJ:=Ce hb s aN
 have aj:=CF U d.size
 have ak:=BC d (DJ s (C9 hBw aj))
 refine Ew B1 IN rfl rfl rfl bG rfl aM rfl (by rw [Cl];omega) ((C9 hBw ak.size)) rfl (λdq dr aO V cS=>?_)
 have bK:=bI.below V oO
 have bL:=DL bJ V hpB
 have bM:=BC ak (Fo (V.mono (DP _)))
 have bN:=Ea aO (13) (rfl)
 refine A9 rfl<|AW ?_
 exact ⟨_,rfl,t,⟨bK,bL⟩,bM,(by rw [show x=114 from Co aS,A1A];exact bN),DP _,ht,(by rw [show x=114 from Co aS,A1A])⟩
 have bE:=dF ai
 refine A4<|A1 (.eql rfl rfl)<|A9 rfl<|Ai rfl (λal=>?_) (λal=>?_)
 have bO:=dT al
 refine A4<|A3 rfl<|Cs (ps:=_) B1 EA Mt rfl rfl rfl rfl rfl pR rfl (λds d4 X aP y cT=>?_)
 have bP:=DC hown X y
 have bQ:=Bl X hr.lt
 have bR:=hr.un y bQ
 have aQ:=λg=>X▸hb.lt g
 have bS:=Ce hb y aQ
 have am:=CF X d.size
 have an:=BC d (DJ y (C9 hBw am))
 refine Ew B1 IN rfl rfl rfl bP rfl aP rfl (by rw [Cl];omega) ((C9 hBw an.size)) rfl (λdt du aR a0 cU=>?_)
 have bT:=bR.below a0 oO
 have bU:=DL bS a0 hpB
 have bV:=BC an (Fo (a0.mono (DP _)))
 have bW:=Ea aR (9) (rfl)
 refine A9 rfl<|AW ?_
 exact ⟨_,rfl,t,⟨bT,bU⟩,bV,(by rw [show x=116 from Co aS,A1z];exact bW),DP _,ht,(by rw [show x=116 from Co aS,A1z])⟩
 have bO:=dF al
 refine A4<|A1 (.eql rfl rfl)<|A9 rfl<|Ai rfl (λao=>?_) (λao=>?_)
 have bX:=dT ao
 refine A4<|A3 rfl<|Cs (ps:=_) B1 EA Mt rfl rfl rfl rfl rfl pR rfl (λdv d5 a1 aT A cV=>?_)
 have bY:=DC hown a1 A
 have bZ:=Bl a1 hr.lt
 have b':=hr.un A bZ
 have aU:=λg=>a1▸hb.lt g
 have c0:=Ce hb A aU
 have ap:=CF a1 d.size
 have aq:=BC d (DJ A (C9 hBw ap))
 refine Ew B1 IN rfl rfl rfl bY rfl aT rfl (by rw [Cl];omega) ((C9 hBw aq.size)) rfl (λdw dx aV a2 cW=>?_)
 have c2:=b'.below a2 oO
 have c3:=DL c0 a2 hpB
 have c4:=BC aq (Fo (a2.mono (DP _)))
 have c5:=Ea aV (8) (rfl)
 refine A9 rfl<|AW ?_
 exact ⟨_,rfl,t,⟨c2,c3⟩,c4,(by rw [show x=98 from Co aS,A4l];exact c5),DP _,ht,(by rw [show x=98 from Co aS,A4l])⟩
 have bX:=dF ao
 refine A4<|A1 (.eql rfl rfl)<|A9 rfl<|Ai rfl (λar=>?_) (λar=>?_)
 have c6:=dT ar
 refine A4<|A3 rfl<|Cs (ps:=_) B1 EA Mt rfl rfl rfl rfl rfl pR rfl (λdy d6 a3 aW C cX=>?_)
 have c7:=DC hown a3 C
 have c8:=Bl a3 hr.lt
 have c9:=hr.un C c8
 have aX:=λg=>a3▸hb.lt g
 have ca:=Ce hb C aX
 have au:=CF a3 d.size
 have av:=BC d (DJ C (C9 hBw au))
 refine Ew B1 IN rfl rfl rfl c7 rfl aW rfl (by rw [Cl];omega) ((C9 hBw av.size)) rfl (λdz dA aY a4 cY=>?_)
 have cb:=c9.below a4 oO
 have cc:=DL ca a4 hpB
 have cd:=BC av (Fo (a4.mono (DP _)))
 have cf:=Ea aY (12) (rfl)
 refine A9 rfl<|AW ?_
 exact ⟨_,rfl,t,⟨cb,cc⟩,cd,(by rw [show x=102 from Co aS,A1C];exact cf),DP _,ht,(by rw [show x=102 from Co aS,A1C])⟩
 have c6:=dF ar
 refine A4<|A1 (.eql rfl rfl)<|A9 rfl<|Ai rfl (λaw=>?_) (λaw=>?_)
 have cg:=dT aw
 refine A4<|A3 rfl<|A9 rfl<|AW ?_
 exact ⟨_,rfl,t,⟨hr,hb⟩,d,(by rw [show x=10 from Co aS,A4n,FB];exact hown),DP _,ht,(by rw [show x=10 from Co aS,A4n])⟩
 have cg:=dF aw
 refine A4<|A1 (.eql rfl rfl)<|A9 rfl<|Ai rfl (λax=>?_) (λax=>?_)
 have ci:=dT ax
 have ay:x=13:=Co aS
 refine A4<|A3 rfl<|Ao (Lm r p l c t 10 _ ⟨hr,hb⟩ hne hl ht) (λdB a5=>?_)
 have cj:=Hw hown a5.2 oO
 have ck:=a5.1.1
 have cl:=a5.1.2
 have cm:=BC d (EX a5.2 (C9 hBw d.size))
 refine A0<|A4<|A3 rfl<|A9 rfl<|AW ?_
 exact ⟨_,rfl,_,⟨ck,cl⟩,cm,(by rw [ay,A4m,FB];exact cj),(Pa l t ht).1,(Pa l t ht).2.1,(by rw [ay,A4m];exact (Pa l t ht).2.2)⟩
 have ci:=dF ax
 refine Ap<|Ad<|A4<|A3 rfl<|A1 (.lss rfl rfl)<|A3 rfl<|Ck rfl rfl rfl (λH=>?_) (λH=>?_)
 have cn:=dF H
 refine A3 rfl<|Az H<|A1 (.gtr rfl rfl)<|A1 (.pkF rfl H rfl)<|A0<|Ai rfl (λaz=>?_) (λaz=>?_)
 have co:=dT az
 refine A4<|A3 rfl<|A3 rfl<|Cs (ps:=_) B1 EA Mt rfl rfl rfl rfl rfl pR rfl (λdC d7 a6 aZ D cZ=>?_)
 have cq:=DC hown a6 D
 have cr:=Bl a6 hr.lt
 have ct:=hr.un D cr
 have a':=λg=>a6▸hb.lt g
 have cu:=Ce hb D a'
 have aA:=CF a6 d.size
 have aB:=BC d (DJ D (C9 hBw aA))
 refine Ew B1 IN rfl rfl rfl cq rfl aZ rfl (by rw [Cl];omega) ((C9 hBw aB.size)) rfl (λdE dG b0 a7 c'=>?_)
 have cv:=ct.below a7 oO
 have cw:=DL cu a7 hpB
 have cy:=BC aB (Fo (a7.mono (DP _)))
 have cz:=Ea b0 (x) (rfl)
 refine A9 rfl<|AW ?_
 exact ⟨_,rfl,t,⟨cv,cw⟩,cy,(by rw [Nv _ oO oO oO oO oO oO oO oO];exact cz),DP _,ht,(by rw [Nv _ oO oO oO oO oO oO oO oO])⟩
 have co:=dF az
 refine Ap<|A4<|A3 rfl<|A1 (.sub rfl rfl (Pu oO))<|A1 (.cvt FK Mu rfl (Ba oO))<|A9 rfl<|Ad<|A4<|A9 rfl<|AO ?_
 obtain ⟨tt,aC⟩:=eX t
 have bq:48<=(x.toNat:Int):=by omega
 have bt:(x.toNat:Int)<=55:=by omega
 refine BM (α:=Nat × Nat × Nat) (λt=>[(0,ptV r),(1,v),(7,Af (t.1:Int)),(8,Af (t.2.1:Int))]) (λt w'=>Iq w' r p l c t.2.2/\Bh B r w w'/\CP 5 B w' v (AQ o)/\tt<=t.2.2/\t.2.2<=l.length/\(t.2.1=0/\t.1<=7\/t.2.1=1/\t.1<=63\/t.2.1=2/\t.1<=511)/\MF (2-t.2.1) t.1 (l.drop t.2.2)=MF 2 (x.toNat-48) (l.drop tt)) (λt=>2-t.2.1) ((x.toNat-48,0,tt)) ⟨rfl,rfl,O4 rfl oM,rfl,tT⟩ (⟨⟨by rw [aC];exact hr,hb⟩,d,hown,DP _,by rw [aC];exact ht,Or.inl ⟨rfl,oM⟩,rfl⟩) (λt w1 hR=>?_)
 subst aC
 obtain ⟨m,k,u⟩:=t
 obtain ⟨f,hT,ac,bu,bv,hm,aD⟩:=hR
 simp only at f hT ac bu bv hm aD ⊢
 refine Ad<|Je 87 (Ta l k u) ?_ (λdH a8=>?_)
 refine DH BR kR<|WQ.p (.mv rfl) rfl<|WQ.p (.lss rfl rfl) rfl<|WQ.p (.mv rfl) rfl<|Kj rfl rfl rfl (λJ=>?_) (λJ=>?_)
 have cA:=dT J
 refine WQ.p (.mv rfl) rfl<|C0 rfl rfl rfl J<|Jc BK rfl rfl (λm=>(Th r p l c u _ ⟨f.1,f.2⟩ m))<|WQ.p (.pkT rfl J rfl) rfl<|WQ.p (.mv rfl) rfl<|Kj rfl rfl rfl (λa=>?_) (λa=>?_)
 have cB:=dT a
 refine WQ.p (.mv rfl) rfl<|C0 rfl rfl rfl a<|WQ.p (.nck rfl) rfl<|C0 rfl rfl rfl a<|WQ.p (.fa Dj rfl D8 dD rfl) rfl<|C0 rfl rfl rfl a<|Db (λm=>Ae (g22_ _) rfl f.1 rfl) rfl<|C0 rfl rfl rfl a<|WQ.p (.mv rfl) rfl<|C0 rfl rfl rfl a<|WQ.p (.nck rfl) rfl<|C0 rfl rfl rfl a<|WQ.p (.fa Dj rfl Bw dD rfl) rfl<|C0 rfl rfl rfl a<|Db (λm=>Ae (BZ _) rfl f.1 rfl) rfl<|C0 rfl rfl rfl a<|WQ.p (.ixb B1 EA rfl rfl (f.2.isp oO) (u) oO oO) rfl<|C0 rfl rfl rfl a<|Db (λm=>Bq (Iz _) rfl ((f.2.drewN m).cells (u) oO)) rfl<|C0 rfl rfl rfl a<|WQ.p (.geq rfl rfl) rfl<|WQ.p (.pkT rfl a rfl) rfl<|WQ.p (.mv rfl) rfl<|Kj rfl rfl rfl (λb=>?_) (λb=>?_)
 have cC:=dT b
 refine WQ.p (.mv rfl) rfl<|C0 rfl rfl rfl b<|WQ.p (.nck rfl) rfl<|C0 rfl rfl rfl b<|WQ.p (.fa Dj rfl D8 dD rfl) rfl<|C0 rfl rfl rfl b<|Db (λm=>Ae (g22_ _) rfl f.1 rfl) rfl<|C0 rfl rfl rfl b<|WQ.p (.mv rfl) rfl<|C0 rfl rfl rfl b<|WQ.p (.nck rfl) rfl<|C0 rfl rfl rfl b<|WQ.p (.fa Dj rfl Bw dD rfl) rfl<|C0 rfl rfl rfl b<|Db (λm=>Ae (BZ _) rfl f.1 rfl) rfl<|C0 rfl rfl rfl b<|WQ.p (.ixb B1 EA rfl rfl (f.2.isp oO) (u) oO oO) rfl<|C0 rfl rfl rfl b<|Db (λm=>Bq (Iz _) rfl ((f.2.drewN m).cells (u) oO)) rfl<|C0 rfl rfl rfl b<|WQ.p (.leq rfl rfl) rfl<|WQ.p (.pkT rfl b rfl) rfl<|CX (λdI cD=>?_)
 exact ⟨Gy (DM rfl (by (by_cases hq:u<l.length) <;> (unfold Ta;first | (exfalso;omega) | (rw [getElem!_pos l u hq];(apply AY.2;(try simp only [AE,CO,BO,AF,Bo,C5,Dp,false_iff,iff_false,true_iff,iff_true]);omega)) | (apply AY.2;(try simp only [AE,CO,BO,AF,Bo,C5,Dp,false_iff,iff_false,true_iff,iff_true]);omega)))),cD⟩
 have cC:=dF b
 refine Bm rfl rfl rfl b<|Bm rfl rfl rfl b<|Bm rfl rfl rfl b<|Bm rfl rfl rfl b<|Bm rfl rfl rfl b<|Bm rfl rfl rfl b<|Bm rfl rfl rfl b<|Bm rfl rfl rfl b<|Bm rfl rfl rfl b<|Bm rfl rfl rfl b<|WQ.p (.pkF rfl b rfl) rfl<|CX (λd8 b1=>?_)
 exact ⟨Gy (DM rfl (by (by_cases hq:u<l.length) <;> (unfold Ta;first | (exfalso;omega) | (rw [getElem!_pos l u hq];(apply AY.2;(try simp only [AE,CO,BO,AF,Bo,C5,Dp,false_iff,iff_false,true_iff,iff_true]);omega)) | (apply AY.2;(try simp only [AE,CO,BO,AF,Bo,C5,Dp,false_iff,iff_false,true_iff,iff_true]);omega)))),b1⟩
 have cB:=dF a
 refine Bm rfl rfl rfl a<|Bm rfl rfl rfl a<|Bm rfl rfl rfl a<|Bm rfl rfl rfl a<|Bm rfl rfl rfl a<|Bm rfl rfl rfl a<|Bm rfl rfl rfl a<|Bm rfl rfl rfl a<|Bm rfl rfl rfl a<|Bm rfl rfl rfl a<|WQ.p (.pkF rfl a rfl) rfl<|WQ.p (.mv rfl) rfl<|Bm rfl rfl rfl rfl<|Bm rfl rfl rfl rfl<|Bm rfl rfl rfl rfl<|Bm rfl rfl rfl rfl<|Bm rfl rfl rfl rfl<|Bm rfl rfl rfl rfl<|Bm rfl rfl rfl rfl<|Bm rfl rfl rfl rfl<|Bm rfl rfl rfl rfl<|Bm rfl rfl rfl rfl<|Bm rfl rfl rfl rfl<|WQ.p (.pkF rfl rfl rfl) rfl<|CX (λd9 b3=>?_)
 exact ⟨Gy (DM rfl (by (by_cases hq:u<l.length) <;> (unfold Ta;first | (exfalso;omega) | (rw [getElem!_pos l u hq];(apply AY.2;(try simp only [AE,CO,BO,AF,Bo,C5,Dp,false_iff,iff_false,true_iff,iff_true]);omega)) | (apply AY.2;(try simp only [AE,CO,BO,AF,Bo,C5,Dp,false_iff,iff_false,true_iff,iff_true]);omega)))),b3⟩
 have cA:=dF J
 refine Bm rfl rfl rfl J<|WQ.p (.pkF rfl J rfl) rfl<|WQ.p (.mv rfl) rfl<|Bm rfl rfl rfl rfl<|Bm rfl rfl rfl rfl<|Bm rfl rfl rfl rfl<|Bm rfl rfl rfl rfl<|Bm rfl rfl rfl rfl<|Bm rfl rfl rfl rfl<|Bm rfl rfl rfl rfl<|Bm rfl rfl rfl rfl<|Bm rfl rfl rfl rfl<|Bm rfl rfl rfl rfl<|Bm rfl rfl rfl rfl<|WQ.p (.pkF rfl rfl rfl) rfl<|WQ.p (.mv rfl) rfl<|Bm rfl rfl rfl rfl<|Bm rfl rfl rfl rfl<|Bm rfl rfl rfl rfl<|Bm rfl rfl rfl rfl<|Bm rfl rfl rfl rfl<|Bm rfl rfl rfl rfl<|Bm rfl rfl rfl rfl<|Bm rfl rfl rfl rfl<|Bm rfl rfl rfl rfl<|Bm rfl rfl rfl rfl<|Bm rfl rfl rfl rfl<|WQ.p (.pkF rfl rfl rfl) rfl<|CX (λda b4=>?_)
 exact ⟨Gy (DM rfl (by (by_cases hq:u<l.length) <;> (unfold Ta;first | (exfalso;omega) | (rw [getElem!_pos l u hq];(apply AY.2;(try simp only [AE,CO,BO,AF,Bo,C5,Dp,false_iff,iff_false,true_iff,iff_true]);omega)) | (apply AY.2;(try simp only [AE,CO,BO,AF,Bo,C5,Dp,false_iff,iff_false,true_iff,iff_true]);omega)))),b4⟩
 have ad:=CP.drew ac a8
 have a9:=f.1.drew a8
 have aa:=f.2.drew a8
 have E:=BC hT (Mf a8)
 refine Ai rfl (λcE=>?_) (λcE=>?_)
 obtain ⟨db,cL,dc,dd,K⟩:=A4X aS
 refine Ap<|Ad<|AO<|Am<|A3 rfl<|A1 (.mul rfl rfl (Ba oO))<|A3 rfl<|C1 BK rfl rfl ((Ll r p l c u _ ⟨a9,aa⟩ hne hl)) (λde cF L i=>?_) (λdf cF L i=>?_)
 exact De (Hc L).1 oO
 have b5:=Hw ad i.2 oO
 have b6:=i.1.1
 have b7:=i.1.2
 have b8:=BC E (EX i.2 (C9 hBw E.size))
 obtain ⟨dJ,hx⟩:=N6 L
 rw [hx]
 refine A1 (.sub rfl rfl (Pu oO))<|A1 (.cvt FK Mu rfl (Ba oO))<|A1 (.add rfl rfl (Ba oO))<|A9 rfl<|Am<|A3 rfl<|A1 (.add rfl rfl (Ba oO))<|A9 rfl ?_
 exact ⟨(8 * m+((l[u]'cL).toNat-48),k+1,u+1),⟨rfl,rfl,O4 rfl oM,O4 rfl oM,tT⟩,⟨⟨b6,b7⟩,b8,b5,oM,oM,oM,by rw [<- aD,K m]⟩,oM⟩
 have K:=A4Y aS m
 rw [aD] at K
 refine BF<|A4<|A3 rfl<|A3 rfl<|A1 (.cvt Mu FK rfl (show IntKind.u8.wrap (m:Int)=((m % 256:Nat):Int) by rw [IntKind.wrap_u8'];(first | done | rfl)))<|Cs (ps:=_) B1 EA Mt rfl rfl rfl rfl rfl pR rfl (λdg d0 F aE j cM=>?_)
 have b9:=DC ad F j
 have ba:=Bl F a9.lt
 have bb:=a9.un j ba
 have aF:=λg=>F▸aa.lt g
 have bc:=Ce aa j aF
 have ag:=CF F E.size
 have ae:=BC E (DJ j (C9 hBw ag))
 refine Ew B1 IN rfl rfl rfl b9 rfl aE rfl (by rw [Cl];omega) ((C9 hBw ae.size)) rfl (λdh di aG P cN=>?_)
 have bd:=bb.below P oO
 have be:=DL bc P hpB
 have bf:=BC ae (Fo (P.mono (DP _)))
 have bg:=Ea aG (ch ((m % 256:Nat):Int)) (by rw [IS _ oO oO])
 refine A9 rfl<|AW ?_
 exact ⟨_,rfl,u,⟨bd,be⟩,bf,(by rw [Tx _ bq bt,K];exact bg),bu,bv,(by rw [Tx _ bq bt,K])⟩
 have cn:=dT H
 refine Bc H<|A1 (.pkT rfl H rfl)<|A0<|BQ rfl rfl<|A4<|A3 rfl<|A3 rfl<|Cs (ps:=_) B1 EA Mt rfl rfl rfl rfl rfl pR rfl (λdj d1 G aH q cO=>?_)
 have bh:=DC hown G q
 have bi:=Bl G hr.lt
 have bj:=hr.un q bi
 have aI:=λg=>G▸hb.lt g
 have bk:=Ce hb q aI
 have ah:=CF G d.size
 have af:=BC d (DJ q (C9 hBw ah))
 refine Ew B1 IN rfl rfl rfl bh rfl aH rfl (by rw [Cl];omega) ((C9 hBw af.size)) rfl (λdk dl aJ Q cP=>?_)
 have bl:=bj.below Q oO
 have bm:=DL bk Q hpB
 have bn:=BC af (Fo (Q.mono (DP _)))
 have bo:=Ea aJ (x) (rfl)
 refine A9 rfl<|AW ?_
 exact ⟨_,rfl,t,⟨bl,bm⟩,bn,(by rw [Nv _ oO oO oO oO oO oO oO oO];exact bo),DP _,ht,(by rw [Nv _ oO oO oO oO oO oO oO oO])⟩
theorem A1y (x:UInt8) (r:l8_):(HZ x r).1.length<=1:=by
 unfold HZ
 repeat' split
 all_goals simp
theorem VU (r:Nat) (p:Option Addr) (l:l8_) (c t:Nat) (w:World) (h:Iq w r p l c t) (hne:0<l.length->(pA p).block≠r) (hc:l.length<=c) (hl:l.length<=100000000) (ht:t<=l.length) :
  Calls Tryz.prog 174 #[ptV r] w (Cf 35 (GC (D9 1 [] (l.drop t))) (λa=>a.1.val) (A2a w r p l c) (λw'=>Bh w.heap.size r w w')):=by
 have hr:=h.1
 have hb:=h.2
 obtain ⟨R,hR⟩:=eX (D9 1 [] (l.drop t))
 rw [<- hR]
 obtain ⟨a,rfl⟩:=eX t
 refine Ar func174 rfl ntmps174 ?_
 have bv:=Bh.refl (w.heap.size) r w
 refine A4<|Bj HJ rfl (λb1 dl af bB a3 d6=>?_)
 have ct:=Bl af hr.lt
 have cu:=hr.un a3 ct
 have ag:=λG=>af▸hb.lt G
 have cv:=Ce hb a3 ag
 have aT:=CF af bv.size
 have cw:=BC bv (DJ a3 aT)
 refine A0<|Ad ?_
 have a1:0<l.length->(pA p).block<b1+1:=λG=>by have:=hb.lt G;omega
 refine Am<|A9 rfl<|A4<|A9 rfl<|AO<|BM (α:=Value × l8_ × Nat × Nat) (λt=>[(0,ptV r),(2,ptV b1),(3,t.1),(4,Af (t.2.2.1:Int))]) (λt w'=>Iq w' r p l c t.2.2.2/\Bh w.heap.size r w w'/\B0 w' b1 #[Af 0,Af 0,.string ⟨#[]⟩] 196/\CP 5 (b1+1) w' t.1 (AQ t.2.1)/\D9 t.2.2.1 t.2.1 (l.drop t.2.2.2)=R/\1<=t.2.2.1/\t.2.2.1<=t.2.2.2+1/\t.2.1.length<=t.2.2.2/\t.2.2.2<=l.length) (λt=>l.length-t.2.2.2) ((.slice none 0 0,[],1,a)) ⟨rfl,rfl,rfl,rfl,tT⟩ (⟨⟨cu,cv⟩,cw,bB,CP.nil _ _ _,hR.symm,DP _,oM,FI _,ht⟩) (λt w1 hR=>?_)
 obtain ⟨v,o,d,s⟩:=t
 obtain ⟨ah,hT,ai,aj,hw,bw,cy,cz,hs⟩:=hR
 simp only at ah hT ai aj hw bw cy cz hs ⊢
 refine AO<|A4<|A3 rfl<|C1 BK rfl rfl ((Ll r p l c s _ ⟨ah.1,ah.2⟩ hne hl)) (λk9 w7 V N=>?_) (λa8 w7 V N=>?_)
 have aU:=BC hT (EX N hT.size)
 exact Bt (BB k9 (by rw [(Hc V).2,<- hw,Bv (Hc V).1,D9.eq_def];(first | done | rfl)) aU)
 have i:=Hw aj N.2 oO
 have g:=N.1.1
 have e:=Gn ai N.2 ai.lt oO
 have f:=N.1.2
 have b:=BC hT (EX N.2 hT.size)
 obtain ⟨cA,hx⟩:=N6 V
 obtain ⟨x,cB⟩:=eX a8
 rw [<- cB] at hx ⊢
 have u:=YF d o l s cA
 rw [<- hx] at u
 refine A9 rfl<|Ad<|A4<|A3 rfl<|A0<|AO<|A4<|A1 (.eql rfl rfl)<|A9 rfl<|Ai rfl (λak=>?_) (λak=>?_)
 have bC:=dT ak
 refine Am<|A3 rfl<|A1 (.iis (((d+1:Nat):Int)) (.add rfl rfl (Ba oO)) oO)<|A9 rfl<|Ad<|A4<|A3 rfl<|A1 (.eql rfl rfl)<|A0<|Ai rfl (λam=>?_) (λam=>?_)
 have bD:=dT am
 refine Ad ?_
 obtain ⟨q,cq,rfl,P,an⟩:=CP.bytes i
 refine Am<|A3 rfl<|C1 BK rfl rfl ((Iw q _ cq _ P oO)) (λdm cC a6 ao=>?_) (λcD cC a6 ao=>?_)
 (exfalso;omega)
 have bE:=e.bl ao
 obtain ⟨a0,ap⟩:=eX cD
 have a7:=a6
 refine Ax rfl rfl bE BL rfl rfl (λdn aV cY cZ=>?_)
 refine A0<|AT (BI rfl rfl (Be aV DX rfl BL)  ?_)
 (exfalso;omega)
 have bD:=dF am
 refine Ap<|Am<|A3 rfl<|A3 rfl<|Cs (ps:=_) B1 EA Mt rfl rfl rfl rfl rfl pR rfl (λdp d7 Q aW A c'=>?_)
 have bG:=DC i Q A
 have bH:=Bl Q g.lt
 have bI:=g.un A bH
 have bJ:=Bl Q e.lt
 have aq:=e.un A bJ
 have aX:=λG=>Q▸f.lt G
 have bK:=Ce f A aX
 have ar:=CF Q b.size
 have bL:=BC b (DJ A ar)
 refine Ew B1 IN rfl rfl rfl bG rfl aW rfl (by rw [Cl];omega) (aq.lt) rfl (λdq dr aY J d0=>?_)
 have bM:=bI.below J oO
 have bN:=aq.below J oO
 have bO:=DL bK J a1
 have bP:=BC bL (Fo (J.mono oO))
 have bQ:=Ea aY (x) (rfl)
 refine A9 rfl ?_
 exact ⟨(_,o++[_],d+1,s+1),⟨rfl,rfl,rfl,rfl,tT⟩,⟨⟨bM,bO⟩,bP,bN,bQ,(by rw [<- hw,u,show x=40 from Co aS,A7 rfl]),oM,oM,oF,oM⟩,oM⟩
 have bC:=dF ak
 refine A4<|A1 (.eql rfl rfl)<|A9 rfl<|Ai rfl (λau=>?_) (λau=>?_)
 have bR:=dT au
 refine Am<|A3 rfl<|A1 (.iis (((d-1:Nat):Int)) (.sub rfl rfl (Ba oO)) oO)<|A9 rfl<|Ad<|A4<|A3 rfl<|A1 (.eql rfl rfl)<|A0<|Ai rfl (λav=>?_) (λav=>?_)
 have bS:=dT av
 refine Ad ?_
 obtain ⟨q,cq,rfl,P,an⟩:=CP.bytes i
 refine Am<|A3 rfl<|C1 BK rfl rfl ((Iw q _ cq _ P oO)) (λcE cF X H=>?_) (λcG cF X H=>?_)
 have aw:=BC b (EX (Fo H) b.size)
 exact Bt (BB cE (by rw [<- hw,u,show x=41 from Co aS,A2 dD,A7 rfl,A7 oO];exact NK X) aw)
 have bT:=g.bl H
 have bU:=e.bl H
 have bV:=DL f H (λG=>f.lt G)
 have bW:=BC b (EX (Fo H) b.size)
 obtain ⟨a0,ap⟩:=eX cG
 have a7:=X
 refine Ax rfl rfl bU BL rfl rfl (λds aZ Y d1=>?_)
 have bX:=bT.up Y
 have bY:=Ce bV Y ag
 have bZ:=BC bW (DJ Y oO)
 refine A0<|AT (BI rfl rfl (Be aZ DX rfl BL)  ?_)
 exact Cf.ok (_,l.drop (s+1)) (by rw [<- hw,u,show x=41 from Co aS,A2 dD,A7 rfl,A7 oO];exact Py a7) rfl ⟨_,rfl,oO,⟨bX,bY⟩,bZ⟩
 have bS:=dF av
 refine Ap<|Am<|A3 rfl<|A3 rfl<|Cs (ps:=_) B1 EA Mt rfl rfl rfl rfl rfl pR rfl (λdt d8 T a' B d2=>?_)
 have b':=DC i T B
 have c0:=Bl T g.lt
 have c2:=g.un B c0
 have c3:=Bl T e.lt
 have ax:=e.un B c3
 have b0:=λG=>T▸f.lt G
 have c4:=Ce f B b0
 have ay:=CF T b.size
 have c5:=BC b (DJ B ay)
 refine Ew B1 IN rfl rfl rfl b' rfl a' rfl (by rw [Cl];omega) (ax.lt) rfl (λdu dv b2 K d3=>?_)
 have c6:=c2.below K oO
 have c7:=ax.below K oO
 have c8:=DL c4 K a1
 have c9:=BC c5 (Fo (K.mono oO))
 have ca:=Ea b2 (x) (rfl)
 refine A9 rfl ?_
 exact ⟨(_,o++[_],d-1,s+1),⟨rfl,rfl,rfl,rfl,tT⟩,⟨⟨c6,c8⟩,c9,c7,ca,(by rw [<- hw,u,show x=41 from Co aS,A2 dD,A7 rfl,A2 oO]),oM,oM,oF,oM⟩,oM⟩
 have bR:=dF au
 refine A4<|A1 (.eql rfl rfl)<|A9 rfl<|Ai rfl (λaz=>?_) (λaz=>?_)
 have cb:=dT az
 refine A4<|A3 rfl<|A3 rfl<|A3 rfl<|C1 BK rfl rfl ((Ll r p l c (s+1) _ ⟨g,f⟩ hne hl)) (λcH cI L m=>?_) (λcJ cI L m=>?_)
 have aA:=BC b (EX m b.size)
 exact Bt (BB cH (by rw [(Hc L).2,<- hw,u,show x=92 from Co aS,A2 dD,A2 dD,A7 rfl,Bv (Hc L).1];(first | done | rfl)) aA)
 have cc:=Hw i m.2 oO
 have cd:=m.1.1
 have aB:=Gn e m.2 e.lt oO
 have cf:=m.1.2
 have cg:=BC b (EX m.2 b.size)
 obtain ⟨ci,bz⟩:=N6 L
 obtain ⟨y,cK⟩:=eX cJ
 rw [<- cK] at bz ⊢
 refine Bf BK rfl rfl ((U2 (b1+1) r p l c (s+1+1) y v o _ ⟨cd,cf⟩ hne hl oO oO (aB).lt a1 cc oO)) (λv2 dw cj=>?_)
 obtain ⟨k2,aC,bA,cL,d9,da,ck⟩:=cj
 have cl:=Gn aB bA oO oO
 have cM:=BC cg (bA.mono oO)
 have db:=A1y y (l.drop (s+1+1))
 refine A9 rfl<|BF ?_
 exact ⟨(v2,o++(HZ y (l.drop (s+1+1))).1,d,k2),⟨rfl,rfl,rfl,rfl,tT⟩,⟨⟨aC.1,aC.2⟩,cM,cl,cL,(by rw [ck,<- hw,u,show x=92 from Co aS,A2 dD,A2 dD,A7 rfl,Aw ci,<- bz]),bw,oM,oF,oM⟩,oM⟩
 have cb:=dF az
 refine A4<|A1 (.eql rfl rfl)<|A9 rfl<|Ai rfl (λaD=>?_) (λaD=>?_)
 have cm:=dT aD
 refine A4<|A3 rfl<|Ao (Lm r p l c (s+1) 10 _ ⟨g,f⟩ hne hl oO) (λdx U=>?_)
 have aE:=Hw i U.2 oO
 have aF:=U.1.1
 have a4:=Gn e U.2 e.lt oO
 have aG:=U.1.2
 have aH:=BC b (EX U.2 b.size)
 have cN:=Pa l (s+1) oO
 refine A0<|Am<|A9 rfl<|Ad<|A4<|A3 rfl<|A1 (.eql rfl rfl)<|A0<|Ai rfl (λaI=>?_) (λaI=>?_)
 have cn:=dT aI
 refine Ad ?_
 obtain ⟨q,cq,rfl,P,an⟩:=CP.bytes aE
 refine Am<|A3 rfl<|C1 BK rfl rfl ((Iw q _ cq _ P oO)) (λdy cO a9 aJ=>?_) (λcP cO a9 aJ=>?_)
 (exfalso;omega)
 have b3:=a4.bl aJ
 obtain ⟨a0,ap⟩:=eX cP
 have a7:=a9
 refine Ax rfl rfl b3 BL rfl rfl (λdc aK cQ cR=>?_)
 refine A0<|AT (BI rfl rfl (Be aK DX rfl BL)  ?_)
 (exfalso;omega)
 have cn:=dF aI
 refine Ap<|Am<|A3 rfl<|A3 rfl<|Cs (ps:=_) B1 EA Mt rfl rfl rfl rfl rfl pR rfl (λdd d4 C aL j cS=>?_)
 have b4:=DC aE C j
 have b5:=Bl C aF.lt
 have b6:=aF.un j b5
 have b7:=Bl C a4.lt
 have aa:=a4.un j b7
 have aM:=λG=>C▸aG.lt G
 have b8:=Ce aG j aM
 have ad:=CF C aH.size
 have b9:=BC aH (DJ j ad)
 refine Ew B1 IN rfl rfl rfl b4 rfl aL rfl (by rw [Cl];omega) (aa.lt) rfl (λde df aN D cT=>?_)
 have ba:=b6.below D oO
 have bb:=aa.below D oO
 have bc:=DL b8 D a1
 have bd:=BC b9 (Fo (D.mono oO))
 have be:=Ea aN (10) (rfl)
 refine A9 rfl ?_
 exact ⟨(_,o++[_],d,(if Gt l (s+1) 10 then s+1+1 else s+1)),⟨rfl,rfl,rfl,rfl,tT⟩,⟨⟨ba,bc⟩,bd,bb,be,(by show D9 d (o++[10]) (l.drop (if Gt l (s+1) 10 then s+1+1 else s+1))=R;rw [cN.2.2,<- hw,u,show x=13 from Co aS,A2 dD,A2 dD,A2 dD,A7 rfl]),oM,oM,oF,oM⟩,oM⟩
 have cm:=dF aD
 refine Ap<|Ad<|A4<|A3 rfl<|A1 (.eql rfl rfl)<|A0<|Ai rfl (λa5=>?_) (λa5=>?_)
 have bf:=dT a5
 refine Ad ?_
 obtain ⟨q,cq,rfl,P,an⟩:=CP.bytes i
 refine Am<|A3 rfl<|C1 BK rfl rfl ((Iw q _ cq _ P oO)) (λdg co a2 ab=>?_) (λcr co a2 ab=>?_)
 (exfalso;omega)
 have bg:=e.bl ab
 obtain ⟨a0,ap⟩:=eX cr
 have a7:=a2
 refine Ax rfl rfl bg BL rfl rfl (λdh aO cU cV=>?_)
 refine A0<|AT (BI rfl rfl (Be aO DX rfl BL)  ?_)
 (exfalso;omega)
 have bf:=dF a5
 refine Ap<|Am<|A3 rfl<|A3 rfl<|Cs (ps:=_) B1 EA Mt rfl rfl rfl rfl rfl pR rfl (λdi d5 E aP k cW=>?_)
 have bh:=DC i E k
 have bi:=Bl E g.lt
 have bj:=g.un k bi
 have bk:=Bl E e.lt
 have ac:=e.un k bk
 have aQ:=λG=>E▸f.lt G
 have bm:=Ce f k aQ
 have ae:=CF E b.size
 have bn:=BC b (DJ k ae)
 refine Ew B1 IN rfl rfl rfl bh rfl aP rfl (by rw [Cl];omega) (ac.lt) rfl (λdj dk aR F cX=>?_)
 have bo:=bj.below F oO
 have bp:=ac.below F oO
 have bq:=DL bm F a1
 have bt:=BC bn (Fo (F.mono oO))
 have bu:=Ea aR (x) (rfl)
 refine A9 rfl ?_
 exact ⟨(_,o++[_],d,s+1),⟨rfl,rfl,rfl,rfl,tT⟩,⟨⟨bo,bq⟩,bt,bp,bu,(by rw [<- hw,u,A2 (Df (d:=40) aS),A2 (Df (d:=41) aS),A2 (Df (d:=92) aS),A2 (Df (d:=13) aS)]),oM,oM,oF,oM⟩,oM⟩
end
end Go.Proofs.YtiddobdioipidaaGreatDoor
