/-
  What the claim leans on, part 1: pruned and joined by my own tool out of the texts that stand in wip/ as templates.
-/
import Derived.WalkKit
import Derived.WalkSpells
import Derived.WalkLawsBesides
import Derived.Test.YtiddobdioipidaaGreatDoorRows
import Derived.Deep.QuietTactic
import Derived.StillTail
import Derived.Laws.BytesString
import Derived.Laws.Slices
import Derived.Carry
import Derived.ChangeSlices
import Derived.Lib.ConvBytes
import Derived.Laws.AppendOwn
import Derived.Laws.CopyRow
import Derived.Deep.MidRow
import Derived.Lib.SliceRun
import Derived.Stop.BytesEq
import Derived.Lib.FrozenHead
import Derived.Lib.AppendStr
import Derived.Deep.Slices
import Derived.ProofKit
import Derived.OpenShut
import Derived.Lib.AppendZerosOnto
import Derived.Laws.OwnMore
import Derived.OrdersHeld
import Derived.Shelf.Strings.Builder1
import Derived.Shelf.Strings.Builder2
import Derived.Shelf.Strings.Trim
import Derived.Shelf.Small.Utf8
import Derived.Shelf.Small.Strs
import Derived.Shelf.Strings.BuilderF
import Derived.Shelf.Strings.BuilderK
import Derived.Shelf.Strings.Builder2Cap
import Derived.Shelf.Strings.Search1
import Derived.Shelf.Strings.Search2
import Derived.Shelf.Strings.Cut
import Derived.Shelf.LaysM
import Derived.Shelf.Strings.Shaped
import Derived.Shelf.Strings.Prefix
import Derived.Shelf.Unicode.Decode
import Derived.Shelf.Strings.Runes
import Derived.Shelf.Strings.IndexAny
import Derived.Shelf.Strings.AsciiSet
import Derived.Shelf.Strings.IndexAnyAll
import Derived.Shelf.Bits.Mul64
import Derived.Shelf.Strings.Repeat
import Derived.Shelf.Unicode.DecodeSlow
import Derived.Shelf.Unicode.DecodeAny
import Derived.Shelf.Unicode.DecodeLast
import Derived.Shelf.Strings.BuilderCap
import Derived.Test.YtiddobdioipidaaGreatDoorProg
import Derived.Shelf.Strings.SlTrimAscii
import Derived.BigQuiet
import Derived.Deep.DeepCutAuto
import Derived.Recover
import Derived.Laws.Entries
import Derived.RangeFuncIn
import Derived.RangeFuncLeaves
import Derived.RangeFuncOwn
import Derived.Maps.OwnSet
import Derived.Lib.LastIndexLaws
import Derived.Test.YtiddobdioipidaaGreatDoorCards
import Derived.Test.YtiddobdioipidaaGreatDoorTie
import Derived.Deep.DeepHandedRow
import Derived.Lib.LaidTab
set_option maxHeartbeats 6400000
set_option maxRecDepth 100000
namespace Go.Proofs.YtiddobdioipidaaGreatDoor
open Go.RowKit
open Go.Proofs.Tryz
abbrev l8_:=List UInt8
abbrev Bs:=@And.intro
abbrev AK:=@Array.getD_eq_getD_getElem?
abbrev Ey:=@Array.getElem?_eq_getElem
abbrev Dq:=@Array.getElem?_eq_none
abbrev Bd:=@Array.getElem?_eq_some_iff
abbrev E1:=@Array.getElem?_toList
abbrev AE:=@Bool.and_eq_true
abbrev AY:=@Bool.eq_iff_iff
abbrev C5:=@Bool.false_eq_true
abbrev Dp:=@Bool.not_eq_false'
abbrev BO:=@Bool.not_eq_true'
abbrev CO:=@Bool.or_eq_true
abbrev E3:=@Bool.true_and
abbrev AN:=@List.all_eq_true
abbrev AS:=@List.append_assoc
abbrev FB:=@List.append_nil
abbrev A2y:=@List.cons.injEq
abbrev Bb:=@List.cons_append
abbrev E2:=@List.drop_drop
abbrev Aw:=@List.drop_eq_getElem_cons
abbrev Bv:=@List.drop_eq_nil_of_le
abbrev JJ:=@List.drop_length
abbrev Ms:=@List.drop_zero
abbrev Dk:=@List.eq_nil_of_length_eq_zero
abbrev DD:=@List.flatMap_cons
abbrev EO:=@List.foldl_cons
abbrev BY:=@List.getD_eq_getElem?_getD
abbrev Ex:=@List.getElem?_append_left
abbrev H5:=@List.getElem?_append_right
abbrev Aj:=@List.getElem?_eq_getElem
abbrev AZ:=@List.getElem?_eq_none
abbrev C8:=@List.getElem?_eq_some_iff
abbrev D7:=@List.getElem_append_left
abbrev CB:=@List.getElem_append_right
abbrev Em:=@List.getElem_cons_succ
abbrev F5:=@List.getElem_cons_zero
abbrev Yi:=@List.getElem_drop
abbrev G5:=@List.getElem_map
abbrev AA:=@List.getElem_mem
abbrev Jh:=@List.getElem_take
abbrev A8:=@List.length_append
abbrev Aa:=@List.length_cons
abbrev Au:=@List.length_drop
abbrev EM:=@List.length_eq_zero_iff
abbrev By:=@List.length_map
abbrev Ak:=@List.length_nil
abbrev CT:=@List.length_replicate
abbrev Gz:=@List.length_singleton
abbrev At:=@List.length_take
abbrev E9:=@List.map_append
abbrev EF:=@List.map_cons
abbrev F4:=@List.map_nil
abbrev B9:=@List.mem_append
abbrev A6:=@List.mem_cons
abbrev E8:=@List.mem_map
abbrev H0:=@List.mem_of_mem_drop
abbrev Eh:=@List.mem_of_mem_take
abbrev B8:=@List.mem_singleton
abbrev C4:=@List.nil_append
abbrev A5:=@List.not_mem_nil
abbrev ZO:=@List.take_append
abbrev Dx:=@List.take_append_drop
abbrev Dc:=@List.take_length
abbrev An:=@List.take_of_length_le
abbrev Bg:=@List.take_succ_eq_append_getElem
abbrev A5Q:=@Nat.add_assoc
abbrev Gi:=@Nat.add_sub_cancel
abbrev BD:=@Nat.eq_of_beq_eq_true
abbrev IB:=@Nat.eq_zero_or_pos
abbrev Jg:=@Nat.le_of_lt
abbrev D5:=@Nat.lt_of_succ_le
abbrev Bu:=@Nat.lt_or_ge
abbrev Ig:=@Nat.lt_succ_iff_lt_or_eq
abbrev ON:=@Nat.lt_succ_self
abbrev D4:=@Nat.mul_le_mul_right
abbrev FG:=@Nat.sub_self
abbrev Do:=@Nat.zero_add
abbrev C3:=@Option.some.inj
abbrev BN:=@Option.some.injEq
abbrev CA:=@Prod.mk.injEq
abbrev BT:=@Result.andThen_ok
abbrev Ca:=@Sem.run_bind
abbrev D3:=@Sem.run_pure
abbrev Bi:=@True.intro
abbrev Cg:=@UInt8.toNat_lt
abbrev Dw:=@beq_eq_false_iff_ne
abbrev Cu:=@bodyPost_ret
abbrev BJ:=@congrArg
abbrev HI:=@decide_eq_decide
abbrev AJ:=@decide_eq_false
abbrev Bo:=@decide_eq_false_iff_not
abbrev AP:=@decide_eq_true
abbrev AF:=@decide_eq_true_eq
abbrev A2:=@if_neg
abbrev A7:=@if_pos
abbrev Ac:=@not_false_eq_true
abbrev As:=@or_false
abbrev Bz:=@run_underlying
abbrev ptV (b:Nat):Value:=.pointer (some ⟨b,0,none⟩)
abbrev Af (n:Int):Value:=.int .i64 n
theorem CN (w:World):Below w.heap.size w w:=Below.refl _ _
abbrev AL (w w1:World):Prop:=Below w.heap.size w w1
abbrev Cb (F:FuncId) (xs:Array Value) (w:World) (v:Value):Prop:=Calls Tryz.prog F xs w λe w'=>e=.returned v/\Below w.heap.size w w'
abbrev g22_:=@isAgg22
abbrev Fg:=@isAgg24
abbrev Dv:=@isAgg25
abbrev BZ:=@isAgg3
abbrev Ed:=@isAgg35
abbrev g4_:=@isAgg4
abbrev O8:=@isAgg44
abbrev Iz:=@isAgg5
abbrev FX:=@isAgg9
abbrev Mh:=@sizeOf115
abbrev Kz:=@sizeOf210
abbrev D8:=@sizeOf22
abbrev DU:=@sizeOf24
abbrev Cr:=@sizeOf25
abbrev CU:=@sizeOf27
abbrev Bw:=@sizeOf3
abbrev U5:=@sizeOf31
abbrev EJ:=@sizeOf35
abbrev RX:=@sizeOf4
abbrev PL:=@sizeOf41
abbrev Kl:=@sizeOf44
abbrev PK:=@sizeOf46
abbrev EA:=@sizeOf5
abbrev FH:=@sizeOf9
abbrev Gp:=@underlying117
abbrev CC:=@underlying133
abbrev I8:=@underlying150
abbrev Kt:=@underlying167
abbrev GU:=@underlying173
abbrev DX:=@underlying196
abbrev Ks:=@underlying210
abbrev CJ:=@underlying215
abbrev B1:=@underlying22
abbrev Dj:=@underlying222
abbrev Dy:=@underlying24
abbrev C2:=@underlying25
abbrev Ay:=@underlying27
abbrev Mu:=@underlying3
abbrev Kr:=@underlying35
abbrev ZX:=@underlying38
abbrev u4_:=@underlying4
abbrev Ih:=@underlying41
abbrev R7:=@underlying44
abbrev Kq:=@underlying46
abbrev N5:=@underlying48
abbrev FK:=@underlying5
abbrev Yo:=@underlying50
abbrev IX:=@underlying52
abbrev FN:=@underlying55
abbrev SP:=@underlying66
abbrev DE:=@underlying78
abbrev ZV:=@underlying80
abbrev R6:=@underlying82
abbrev OO:=@underlying86
abbrev Gk:=@underlying9
abbrev RM:=@zeroValue173
abbrev HJ:=@zeroValue196
abbrev Cz:=@zeroValue27
abbrev Yj:=@zeroValue3
abbrev Yk:=@zeroValue31
abbrev SN:=@zeroValue35
abbrev ZP:=@zeroValue46
abbrev Mt:=@zeroValue5
abbrev R3:=@zeroValue55
abbrev ZL:=@zeroValue9
section
theorem Eb {p:Prop} (h:p):Hid p:=h
def NF (w:World) (b:Nat) (l:List Value):Prop:=∀ j v,l[j]?=some v->w.cell? ⟨b,j,none⟩=some v/\w.frozen? ⟨b,j,none⟩=false
theorem NF.set {w:World} {b:Nat} {l:List Value} (h:NF w b l) (i:Nat) (v:Value) (hi:i<l.length):NF (w.setCell ⟨b,i,none⟩ v) b (l.set i v):=by
 intro j u hj
 rw [World.frozen?_setCell]
 by_cases e:i=j
 ·
  subst e
  rw [List.getElem?_set_self hi] at hj
  obtain rfl:v=u:=by simpa using hj
  obtain ⟨a,c⟩:=h i l[i] (by simp [hi])
  exact ⟨World.cell?_setCell_same _ _ _ a,c⟩
 ·
  rw [List.getElem?_set_ne e] at hj
  obtain ⟨a,c⟩:=h j u hj
  rw [World.cell?_setCell_other _ _ _ _ (by intro h;simp at h)]
  exact ⟨a,c⟩
def AQ (l:l8_):List Value:=l.map λ(c:UInt8)=>Value.int .u8 (c.toNat:Int)
theorem Ci {w w1 w2:World} (h:AL w w1) (k:AL w1 w2):AL w w2:=h.trans (k.mono h.size)
theorem Oj (w:World) (q:Nat):AL w (w.drewN q):=⟨rfl,rfl,rfl,Nat.le_refl _,λ_ _=>rfl⟩
section
variable {P:Program}
theorem RE (w:World) (s:ByteArray) (cap:Nat) (e:TypeId) (hc:s.size<=cap):NF (w.drew.alloc (.cells (bytesRow s cap) e ((bytesRow s cap).size,(bytesRow s cap).size+1))) w.heap.size (AQ s.data.toList):=by
 intro j v hj
 have hj':j<s.data.size:=by
  rcases Bu j s.data.size with h | h
  · exact h
  · rw [AZ (by simpa [AQ] using h)] at hj;cases hj
 have c:(bytesRow s cap).size=cap:=by
  unfold bytesRow
  have a:s.data.size=s.size:=rfl
  simp [a];omega
 constructor
 ·
  have b:=World.cell?_alloc_mark w.drew (bytesRow s cap) e ((bytesRow s cap).size,(bytesRow s cap).size+1) j
  have d:=bytesRow_at s cap j hj'
  have a:w.drew.heap.size=w.heap.size:=rfl
  rw [a] at b
  rw [b,d,<- hj]
  simp only [AQ,List.getElem?_map,E1]
  rw [Ey hj'];rfl
 ·
  have b:=World.frozen?_alloc_mark w.drew (bytesRow s cap) e (bytesRow s cap).size ((bytesRow s cap).size+1) j
  have a:w.drew.heap.size=w.heap.size:=rfl
  rw [a] at b
  have f:s.data.size=s.size:=rfl
  rw [b,c]
  simp;omega
theorem El {ops:Array Oper} {rest:List Oper} {o:Oper} {a:Act} {Q:Exit->Act->World->Prop} {w:World} (hg:o.guard=none) (x:Operand) (ts tb te:TypeId) (hop:o.op=.convert ts tb x)
  (h1:P.underlying ts=some .string) (h2:P.underlying tb=some (.slice te)) (h3:P.underlying te=some (.int .u8)) (s:ByteArray) (hx:a.eval x=.string s)
  (h : ∀ cap w', s.size ≤ cap → NF w' w.heap.size (AQ s.data.toList) → w.grownBy w' none → w'.heap.size = w.heap.size + 1 →
   wpList P ops Q rest (a.put o.dst (.slice (some ⟨w.heap.size,0,none⟩) s.size cap)) w'):wpList P ops Q (o::rest) a w:=by
 refine wpList_plain hg λK hK=>?_
 have hr:=run_bytes_of_string (P:=P) w ts tb te s h1 h2 h3
 unfold Oper.wp
 simp only [execOp,hop,hx,Ca,hr,Result.andThen,D3,Oper.upon]
 refine hK _ _ (h _ _ (grownCap_ge w s.size 0 te) ?_ ?_ ?_)
 · exact RE w s _ te (grownCap_ge w s.size 0 te)
 · exact ⟨rfl,rfl,rfl,by simp,λk hk _=>heap_alloc_old w.drew _ hk⟩
 · simp
theorem Fa {w w':World} (h:w.grownBy w' none):AL w w' :=
 (Below.refl _ _).grown h (Nat.le_refl _) (by intro k hk;cases hk)
end
end
section
def Cy (n:Int):Bool:=decide (-2147483648<=n) && decide (n<=2147483647)
theorem LG {n:Int} (h:-2147483648<=n) (h':n<=2147483647):Cy n=true:=by simp [Cy,h,h']
theorem Ns {n:Int} (h:n < -2147483648):Cy n=false:=by
 have:¬ (-2147483648<=n):=by omega
 simp [Cy,this]
theorem UX {n:Int} (h:2147483647<n):Cy n=false:=by
 have:¬ (n<=2147483647):=by omega
 simp [Cy,this]
theorem JB (n:Int) (w:World) :
  Calls Tryz.prog 162 #[Af n] w λe w'=>e=.returned (.bool (Cy n))/\w=w':=by
 go_enter func162,ntmps162
 go_wp2
 ·
  go_ret
  have h:-2147483648<=n:=by assumption
  exact ⟨by simp [Cy,h],rfl⟩
 ·
  go_ret
  have h:n < -2147483648:=by assumption
  exact ⟨by simp [Ns h],rfl⟩
theorem IH (n:Int) (w:World) :
  Calls Tryz.prog 64 #[Af n] w λe w'=>e=.returned (.bool (Cy n))/\w=w':=by
 go_enter func64,ntmps64
 go_wp2
 ·
  go_ret
  have h:-2147483648<=n:=by assumption
  exact ⟨by simp [Cy,h],rfl⟩
 ·
  go_ret
  have h:n < -2147483648:=by assumption
  exact ⟨by simp [Ns h],rfl⟩
def ch (n:Int):UInt8:=UInt8.ofNat n.toNat
def bs (l:l8_):ByteArray:=⟨l.toArray⟩
theorem EB (a b:l8_):bs a++bs b=bs (a++b):=by
 apply ByteArray.ext
 simp [bs]
theorem BV (l:l8_):(bs l).size=l.length:=by simp [bs,ByteArray.size]
def B7 (n:Nat):l8_ :=
 if n<10 then [ch (48+n)] else B7 (n / 10)++[ch (48+(n % 10:Nat))]
termination_by n
theorem En (n:Nat) (h:n<10):B7 n=[ch (48+n)]:=by rw [B7,A7 h]
theorem IP (n:Nat) (h:10<=n):B7 n=B7 (n / 10)++[ch (48+(n % 10:Nat))]:=by rw [B7,A2 (by omega)]
theorem DB (k:Nat):∀ n:Nat,n<10 ^ (k+1)->(B7 n).length<=k+1:=by
  induction k with
  | zero=>intro n h;rw [B7,A7 (by simpa using h)];simp
  | succ k ih =>
    intro n h
    rw [B7]
    split
    · simp
    · have := ih (n / 10) (by rw [Nat.pow_succ] at h; omega)
      simp;omega
theorem Io (n:Nat) (h:n<18446744073709551616):(bs (B7 n)).size<=20:=by
 rw [BV];exact DB 19 n (Nat.lt_trans h (by decide))
theorem A1L (w:World) (x:Int):(convert 22 9 (.slice (some ⟨w.heap.size,0,none⟩) 1 1)).run Tryz.prog (w.alloc (.cells #[.int .u8 x] 5)) =
    .ok (.string (bs [ch x])) (w.alloc (.cells #[.int .u8 x] 5)):=by
  have h:=run_convert_bytes_arg (P:=Tryz.prog) (w.alloc (.cells #[.int .u8 x] 5)) 22 5 B1 FK w.heap.size 0 1 1 [x] rfl
    (by intro i hi; obtain rfl : i = 0 := by omega
        go_simp) 9 Gk
  exact h
theorem A0n (n:Nat) (w:World) (hn:n<18446744073709551616):
    Cb 42 #[.int .u64 n] w (.string (bs (B7 n))):=by
  have b:=A1L
  go_enter func42,ntmps42
  go_wp2_with fail
  go_loopw [0,3] (λu s wr=>∃ (m:Nat) (t:l8_),m<18446744073709551616/\u=.int .u64 m/\s=.string (bs t)/\AL w wr/\t.length+(B7 m).length<=20/\B7 n=B7 m++t) (λu _ _=>(intOf u).toNat)
  case atStart=>exact ⟨n,[],hn,rfl,rfl,Below.refl _ _,by have:=Io n hn;rw [BV] at this;simpa using this,by simp⟩
  case round =>
    obtain ⟨m,t,hm,rfl,rfl,hb,hl,hd⟩:=hrel
    have Hd:=Eb hd;clear hd
    have hs:(bs t).size<=20:=by rw [BV];omega
    have c:(bs [ch (48+(m:Int) % 10)]).size<=1:=by rw [BV];simp
    have a:=hb.size
    by_cases h10:m<10
    · have hz : (((m : Int) / 10) == 0) = true := by rw [beq_iff_eq]; omega
      go_wp2
      go_ret
      have e:(m:Int) % 10=(m:Int):=by omega
      exact ⟨by rw [Hd.out,En m h10,<- EB,e];rfl,hb.alloc a _⟩
    · have hz : (((m : Int) / 10) == 0) = false := by rw [Dw]; omega
      have hg:=IP m (by omega)
      have Hg:=Eb hg;clear hg
      go_wp2
      refine ⟨⟨m / 10,ch (48+((m % 10:Nat):Int))::t,by omega,by go_num,by rw [EB];simp,hb.alloc a _,?_,?_⟩,by simp [intOf];omega⟩
      · have := BJ List.length Hg.out
        simp at this ⊢;omega
      · rw [Hd.out,Hg.out];simp
theorem RZ (n:Int) (w:World) (h0:0<=n) (hn:n<18446744073709551616):
  Cb 42 #[.int .u64 n] w (.string (bs (B7 n.toNat))):=by
 have h:=A0n n.toNat w (by omega)
 rw [Int.toNat_of_nonneg h0] at h
 exact h
def EK (n:Int):l8_:=if n<0 then 45::B7 n.natAbs else B7 n.natAbs
theorem Lo (n:Int) (w:World) (h:-9223372036854775808<=n) (h':n<=9223372036854775807) :
    Cb 21 #[Af n] w (.string (bs (EK n))):=by
  by_cases hn:n<0
  · have b := Io (-(n + 1) + 1).toNat (by omega)
    go_enter func21,ntmps21
    go_wp2_with (go_at_call 42;refine (RZ _ _ (by omega) (by omega)).mono ?_;rintro e w' ⟨rfl,hb⟩)
    go_ret
    have a:(-(n+1)+1).toNat=n.natAbs:=by omega
    refine ⟨?_,hb⟩
    rw [EK,A7 hn,<- a]
    show Ending.returned (.string (bs [45]++bs _))=_
    rw [EB];rfl
  · go_enter func21, ntmps21
    go_wp2_with (go_at_call 42;refine (RZ _ _ (by omega) (by omega)).mono ?_;rintro e w' ⟨rfl,hb⟩)
    go_ret
    have a:n.toNat=n.natAbs:=by omega
    refine ⟨?_,hb⟩
    rw [EK,A2 (by omega),<- a]
    rfl
theorem JF (n:Int) (h:-9223372036854775808<=n) (h':n<=9223372036854775807):(bs (EK n)).size<=21:=by
 have:=Io n.natAbs (by omega)
 rw [BV] at *
 unfold EK;split <;> simp <;> omega
end
section
def Ut (a b:Int):Int:=if 2 * a.tmod b ≥ b then a.tdiv b+1 else if -2 * a.tmod b ≥ b then a.tdiv b-1 else a.tdiv b
def TP (n:Int):Int × Int:=if Cy n=true then (n,0) else (0,18)
def RH (a b:Int):Int × Int:=if (Cy a && Cy b)=true then TP (a+b) else (0,11)
def OR (a b:Int):Int × Int:=if (Cy a && Cy b)=true then TP (Ut (a * b) 65536) else (0,11)
def R8:Int->List Int->Int × Int
 | t,[]=>(t,0)
 | t,n::r=>if (RH t n).2=0 then R8 (RH t n).1 r else (0,(RH t n).2)
def Me (e f:Int):Int:=if e=0 then f else e
structure M6 where
 a:Int
 b:Int
 c:Int
 d:Int
 e:Int
 f:Int
def Mm (m:M6):List Value:=[Af m.a,Af m.b,Af m.c,Af m.d,Af m.e,Af m.f]
def I2:M6:=⟨65536,0,0,65536,0,0⟩
def Wy:M6:=⟨0,0,0,0,0,0⟩
def m6T (x y:Int):M6:=⟨65536,0,0,65536,x,y⟩
def m6S (x y:Int):M6:=⟨x,0,0,y,0,0⟩
def Yp (e a x c y:Int) (more:List Int):Int × Int :=
 let s:=R8 0 ((OR a x).1::(OR c y).1::more)
 (s.1,Me (Me (Me e (OR a x).2) (OR c y).2) s.2)
def PZ (e x y:Int):(Int × Int) × Int:=if e≠0 then ((0,0),e) else ((x,y),0)
def X7 (m:M6) (x y:Int):(Int × Int) × Int :=
 let p:=Yp 0 m.a x m.c y [m.e]
 let q:=Yp p.2 m.b x m.d y [m.f]
 PZ q.2 p.1 q.1
def QB (m:M6) (x y:Int):(Int × Int) × Int :=
 let p:=Yp 0 m.a x m.c y []
 let q:=Yp p.2 m.b x m.d y []
 PZ q.2 p.1 q.1
def LM (a b:M6):M6 × Int :=
 let u:=QB b a.a a.b
 if u.2≠0 then (Wy,u.2) else
 let v:=QB b a.c a.d
 if v.2≠0 then (Wy,v.2) else
 let t:=X7 b a.e a.f
 if t.2≠0 then (Wy,t.2) else (⟨u.1.1,u.1.2,v.1.1,v.1.2,t.1.1,t.1.2⟩,0)
theorem XV {n:Int} (h:Cy n=true):-2147483648<=n/\n<=2147483647:=by unfold Cy at h;simpa using h
theorem Z5 {a b:Int} (ha:Cy a=true) (hb:Cy b=true):-4611686018427387904<=a * b/\a * b<=4611686018427387904:=by
 have d:=XV ha
 have e:=XV hb
 have c:a.natAbs * b.natAbs<=2147483648 * 2147483648:=Nat.mul_le_mul (by omega) (by omega)
 rw [<- Int.natAbs_mul] at c
 omega
end
section
abbrev Fr:=List (Nat × Value)
def look:Fr->Nat->Option Value
 | [],_=>none
 | (j,v)::r,i=>bif Nat.beq j i then some v else look r i
def CM (f:Fr):Operand->Option Value
 | .tmp t=>look f t
 | .const v=>some v
 | .global g=>some (ptV g)
 | .func k=>some (.func (.func k) #[] #[])
def FL:Fr->Fr->Prop
 | [],_=>True
 | (j,v)::g,f=>look f j=some v/\FL g f
theorem FL.look {g f:Fr} (h:FL g f) {i:Nat} {v:Value} (hv:look g i=some v):look f i=some v:=by
 induction g with
 | nil=>cases hv
 | cons p g ih =>
  obtain ⟨j,u⟩:=p
  unfold Go.Proofs.YtiddobdioipidaaGreatDoor.look at hv
  cases hb:Nat.beq j i with
  | true =>
   rw [hb] at hv
   obtain rfl:j=i:=BD hb
   rw [h.1];exact hv
  | false=>rw [hb] at hv;exact ih h.2 hv
structure Sh where
 n:Nat
 D:List Deferred
def OM (n:Sh) (f:Fr) (a:Act):Prop:=a.defers=n.D/\a.tmps.size=n.n/\∀ i v,look f i=some v->a.tmps.getD i undef=v
theorem OM.sub {n:Sh} {f g:Fr} {a:Act} (h:OM n f a) (hs:FL g f):OM n g a:=⟨h.1,h.2.1,λi v hv=>h.2.2 i v (hs.look hv)⟩
theorem OM.put {n:Sh} {f:Fr} {a:Act} (h:OM n f a) {d:Nat} (hd:Nat.blt d n.n=true) (v:Value):OM n ((d,v)::f) (a.put (some d) v):=by
 have b:d<n.n:=by simpa [Nat.blt_eq] using hd
 refine ⟨h.1,by simp [Act.put,h.2.1],λi u hu=>?_⟩
 show (a.tmps.setIfInBounds d v).getD i undef=u
 unfold look at hu
 cases hb:Nat.beq d i with
 | true =>
  obtain rfl:d=i:=BD hb
  simp only [hb,cond_true,BN] at hu
  subst hu
  simp [Array.getD,h.2.1,b]
 | false =>
  simp only [hb,cond_false] at hu
  have c:d≠i:=λe=>by rw [e,Nat.beq_refl] at hb;cases hb
  have:=h.2.2 i u hu
  simp only [AK] at this ⊢
  rw [Array.getElem?_setIfInBounds_ne c];exact this
def Agr (f:Fr) (ρ:Operand->Value):Prop:=∀ x v,CM f x=some v->ρ x=v
theorem OM.agr {n:Sh} {f:Fr} {a:Act} (h:OM n f a):Agr f a.eval:=by
 intro x v hx
 cases x with
 | tmp t=>exact h.2.2 t v hx
 | const u=>exact C3 hx
 | global g=>exact C3 hx
 | func k=>exact C3 hx
section
variable {P:Program} {n:Sh}
def IY (n:Sh) (Q:Exit->Fr->World->Prop):Exit->Act->World->Prop:=λe a w=>∃ f,OM n f a/\Q e f w
def W (P:Program) (n:Sh) (c:Code) (Q:Exit->Fr->World->Prop) (f:Fr) (w:World):Prop:=∀ a,OM n f a->c.wp P (IY n Q) a w
def WL (P:Program) (n:Sh) (ops:Array Oper) (Q:Exit->Fr->World->Prop) (l:List Oper) (f:Fr) (w:World):Prop:=∀ a,OM n f a->wpList P ops (IY n Q) l a w
def nx (K:Fr->World->Prop) (Q:Exit->Fr->World->Prop):Exit->Fr->World->Prop
 | .normal,f,w=>K f w
 | e,f,w=>Q e f w
def inb (id:Nat) (Q:Exit->Fr->World->Prop):Exit->Fr->World->Prop
 | .exit i,f,w=>bif Nat.beq i id then Q .normal f w else Q (.exit i) f w
 | e,f,w=>Q e f w
theorem W.weaken {c:Code} {Q:Exit->Fr->World->Prop} {f:Fr} {w:World} (g:Fr) (hs:FL g f) (h:W P n c Q g w):W P n c Q f w :=
 λa ha=>h a (ha.sub hs)
theorem W.mono {c:Code} {Q Q':Exit->Fr->World->Prop} {f:Fr} {w:World} (h:W P n c Q f w) (hq:∀ e f w,Q e f w->Q' e f w):W P n c Q' f w :=
 λa ha=>wp_mono (h a ha) λ_ _ _ ⟨f',hr,hQ⟩=>⟨f',hr,hq _ _ _ hQ⟩
theorem Ad {x y:Code} {Q:Exit->Fr->World->Prop} {f:Fr} {w:World} (h:W P n x (nx (λf w=>W P n y Q f w) Q) f w):W P n (.seq x y) Q f w:=by
 intro a ha
 refine wp_seq (wp_mono (h a ha) ?_)
 rintro e a' w' ⟨f',hr,hQ⟩
 cases e with
 | normal=>exact hQ a' hr
 | _=>exact ⟨f',hr,hQ⟩
theorem dT {p:Prop} [Decidable p] (h:decide p=true):p:=of_decide_eq_true h
theorem dF {p:Prop} [Decidable p] (h:decide p=false):¬p:=of_decide_eq_false h
theorem oO {p:Prop} (h:p:=by omega):p:=h
theorem oC {p:Prop} (h:p:=by first | omega | (simp only [Aa,Ak];omega)):p:=h
theorem oD {p:Prop} (h:p:=by first | omega | exact Nat.zero_lt_succ _):p:=h
theorem oE {p:Prop} (h:p:=by simp only [Aa,Ak];omega):p:=h
theorem oF {p:Prop} (h:p:=by simp only [A8,Aa,Ak];omega):p:=h
theorem rD {p:Prop} (h:p:=by first | rfl | decide):p:=h
theorem aS {p:Prop} (h:p:=by assumption):p:=h
theorem dD {p:Prop} (h:p:=by decide):p:=h
theorem kR {p:Prop} (h:p:=by kernel_rfl):p:=h
theorem oL {p:Prop} (h:p:=by simp only [A8,Aa,Ak,Au] at *;omega):p:=h
theorem oQ {p:Prop} (h:p:=by first | decide | exact Nat.le_of_ble_eq_true rfl):p:=h
theorem oM {p:Prop} (h:p:=by ((try simp only) <;> omega)):p:=h
abbrev Ej:=@Below.trans
abbrev C9:=@Nat.le_trans
abbrev DP:=@Nat.le_refl
abbrev nz_:=@Nat.zero_lt_succ
abbrev Gb:=@Below.refl
abbrev CR:=@Nat.ne_of_lt
abbrev Z8:=@List.cons_ne_nil
abbrev FI:=@Nat.zero_le
abbrev De:=@absurd
abbrev ot_:=@of_decide_eq_true
theorem tT:True:=trivial
theorem tU:True/\True:=⟨trivial,trivial⟩
theorem eX {α:Type} (t:α):∃ u,u=t:=⟨t,rfl⟩
abbrev eX0:=@eX
theorem If {α:Type} (R:α->Fr) (S:α->World->Prop) {x y:Code} {Q:Exit->Fr->World->Prop} {f:Fr} {w:World}
  (h1:W P n x (nx (λf' w'=>∃ t,FL (R t) f'/\S t w') Q) f w) (h2:∀ t w',S t w'->W P n y Q (R t) w'):W P n (.seq x y) Q f w:=by
 refine Ad (h1.mono ?_)
 intro e f' w' h
 cases e with
 | normal=>obtain ⟨t,hs,ht⟩:=h;exact (h2 t w' ht).weaken _ hs
 | _=>exact h
theorem A5y {Q:Exit->Fr->World->Prop} {f:Fr} {w:World} (h:Q .normal f w):W P n .skip Q f w:=λ_ ha=>wp_skip ⟨f,ha,h⟩
abbrev Ap:=@A5y
theorem BF {Q:Exit->Fr->World->Prop} {f:Fr} {w:World} {id:Nat} (h:Q (.exit id) f w):W P n (.exit id) Q f w:=λ_ ha=>wp_exit ⟨f,ha,h⟩
theorem AT {Q:Exit->Fr->World->Prop} {f:Fr} {w:World} (h:Q .ret f w):W P n .ret Q f w:=λ_ ha=>wp_ret ⟨f,ha,h⟩
theorem W.block {Q:Exit->Fr->World->Prop} {f:Fr} {w:World} {id:Nat} {c:Code} (h:W P n c (inb id Q) f w):W P n (.block id c) Q f w:=by
 intro a ha
 refine wp_block (wp_mono (h a ha) ?_)
 rintro e a' w' ⟨f',hr,hQ⟩
 cases e with
 | exit i =>
  simp only [Exit.inBlock]
  by_cases hi:i=id
  ·
   subst hi
   rw [A7 rfl]
   simp only [inb,Nat.beq_refl,cond_true] at hQ
   exact ⟨f',hr,hQ⟩
  ·
   rw [A2 hi]
   have hb:Nat.beq i id=false:=by
    cases h:Nat.beq i id with
    | false=>rfl
    | true=>exact De (BD h) hi
   simp only [inb,hb,cond_false] at hQ
   exact ⟨f',hr,hQ⟩
 | _=>exact ⟨f',hr,hQ⟩
abbrev AO:=@W.block
theorem Ai {Q:Exit->Fr->World->Prop} {f:Fr} {w:World} {c:Operand} {x y:Code} {t:Bool} (hc:CM f c=some (.bool t))
  (ht:t=true->W P n x Q f w) (hf:t=false->W P n y Q f w):W P n (.cond c x y) Q f w :=
 λa ha=>wp_cond_split (ha.agr _ _ hc) (λh=>ht h a ha) (λh=>hf h a ha)
theorem A28 {P:Program} {n:Sh} {Q:Exit->Fr->World->Prop} {f:Fr} {w:World} {c:Operand} {x y:Code} {p:Prop} [Decidable p] (hc:CM f c=some (.bool (decide p))) (ht:p->W P n x Q f w) (hf:¬p->W P n y Q f w):W P n (.cond c x y) Q f w:=Ai hc (λe=>ht (of_decide_eq_true e)) (λe=>hf (of_decide_eq_false e))
theorem BQ {Q:Exit->Fr->World->Prop} {f:Fr} {w:World} {c:Operand} {x y:Code} {t:Bool} (hc:CM f c=some (.bool t)) (e:t=true)
  (h:W P n x Q f w):W P n (.cond c x y) Q f w:=Ai hc (λ_=>h) (λh'=>by rw [e] at h';cases h')
theorem Aq {Q:Exit->Fr->World->Prop} {f:Fr} {w:World} {c:Operand} {x y:Code} {t:Bool} (hc:CM f c=some (.bool t)) (e:t=false)
  (h:W P n y Q f w):W P n (.cond c x y) Q f w:=Ai hc (λh'=>by rw [e] at h';cases h') (λ_=>h)
theorem BM {α:Type} (R:α->Fr) (S:α->World->Prop) (m:α->Nat) (t:α) {c:Code} {Q:Exit->Fr->World->Prop} {f:Fr} {w:World}
  (h0:FL (R t) f) (h1:S t w) (round:∀ t w,S t w->W P n c (nx (λf' w'=>∃ u,FL (R u) f'/\S u w'/\m u<m t) Q) (R t) w):W P n (.loop c) Q f w:=by
 intro a ha b k cs
 have key:∀ k' t a w,m t=k'->OM n (R t) a->S t w->∃ e a' w',IY n Q e a' w'/\Arrives P (lone (b.at a (.code c::.inLoop c::k)) cs w) b k cs e a' w':=by
  intro k'
  induction k' using Nat.strongRecOn with
  | _ k' ih =>
   intro t a w hm hr hS
   obtain ⟨e,h,i,⟨f1,g,hq⟩,d⟩:=round t w hS a hr b (.inLoop c::k) cs
   cases e with
   | normal =>
    obtain ⟨u,hs,o,q⟩:=hq
    obtain ⟨v,y,A,s,j⟩:=ih (m u) (hm▸q) u h i rfl (g.sub hs) o
    exact ⟨v,y,A,s,.of_steps (Steps.trans d (.one step_inLoop)) j⟩
   | exit id=>exact ⟨_,h,i,⟨f1,g,hq⟩,.pass (x:=.inLoop c) rfl (λ_ _=>.inl (by simp)) d⟩
   | goto l=>exact ⟨_,h,i,⟨f1,g,hq⟩,.pass (x:=.inLoop c) rfl (λ_ _=>.inl (by simp)) d⟩
   | ret=>exact ⟨_,h,i,⟨f1,g,hq⟩,.pass (x:=.inLoop c) rfl (λ_ _=>.inl (by simp)) d⟩
   | panic ch=>exact ⟨_,h,i,⟨f1,g,hq⟩,.pass (x:=.inLoop c) rfl (λ_ _=>.inl (by simp)) d⟩
   | outgrown=>exact ⟨_,h,i,⟨f1,g,hq⟩,.pass (x:=.inLoop c) rfl (λ_ _=>.inl (by simp)) d⟩
 obtain ⟨e,a',w',hq,d⟩:=key _ t a w rfl (ha.sub h0) h1
 exact ⟨e,a',w',hq,.of_steps (.one step_loop) d⟩
theorem Am {Q:Exit->Fr->World->Prop} {f:Fr} {w:World} {id:Nat} {l:List Oper} (h:WL P n l.toArray Q l f w):W P n (.region id l.toArray false) Q f w :=
 λa ha=>wp_region_lit (h a ha)
theorem A4 {P:Program} {n:Sh} {id:Nat} {l:List Oper} {y:Code} {Q:Exit->Fr->World->Prop} {f:Fr} {w:World} (h:WL P n l.toArray (nx (λf w=>W P n y Q f w) Q) l f w):W P n (.seq (.region id l.toArray false) y) Q f w:=Ad (Am h)
def KI:Nat->List Value->Fr
 | _,[]=>[]
 | k,v::r=>(k,v)::KI (k+1) r
theorem KH (l:List Value):∀ k i v,look (KI k l) i=some v->∃ j,i=k+j/\l[j]?=some v:=by
 induction l with
 | nil=>intro k i v h;cases h
 | cons u r ih =>
  intro k i v h
  unfold KI look at h
  cases hb:Nat.beq k i with
  | true =>
   simp only [hb,cond_true,BN] at h
   exact ⟨0,(BD hb).symm,by simp [h]⟩
  | false =>
   simp only [hb,cond_false] at h
   obtain ⟨j,e,hj⟩:=ih (k+1) i v h
   exact ⟨j+1,oO,by simpa using hj⟩
def CQ (P:Program) (fn:Func) (f:Fr) (w:World) (v:Value):Prop:=∀ tmps:Array Value,(∀ i u,look f i=some u->tmps.getD i undef=u)->(results fn tmps).run P w=.ok v w
def Ir (P:Program) (fn:Func) (R:Ending->World->Prop):Exit->Fr->World->Prop
 | .normal,f,w | .ret,f,w=>∃ v,CQ P fn f w v/\R (.returned v) w
 | .panic SG,_,w=>R (.panicked SG) w
 | .outgrown,_,w=>R .outgrown w
 | _,_,_=>False
theorem Ye {F:FuncId} {fn:Func} {c:Code} {args:Array Value} {w:World} {R:Ending->World->Prop} (hf:P.funcs[F]?=some fn) (hb:fn.body=some c)
  {k:Nat} (hn:fn.ntmps=k) (hl:args.size<=k) (h:W P ⟨k,[]⟩ c (Ir P fn R) (KI 0 args.toList) w):Calls P F args w R:=by
 refine calls_of_wp hf hb (wp_mono (h _ ⟨rfl,by simp [hn];omega,?_⟩) ?_)
 ·
  intro i v hv
  obtain ⟨j,e,hj⟩:=KH _ _ _ _ hv
  obtain rfl:i=j:=by omega
  have d:i<args.size:=by
   rcases Bu i args.size with h | h
   · exact h
   · rw [AZ (by simpa using h)] at hj;cases hj
  have hj':args[i]?=some v:=by rw [<- E1];exact hj
  simp only [AK]
  rw [Array.getElem?_append_left d,hj'];rfl
 ·
  rintro e a' w' ⟨f',hr,hQ⟩
  cases e with
  | normal=>obtain ⟨v,a,b⟩:=hQ;exact ⟨hr.1,v,a _ hr.2.2,b⟩
  | ret=>obtain ⟨v,a,b⟩:=hQ;exact ⟨hr.1,v,a _ hr.2.2,b⟩
  | panic ch=>exact ⟨hr.1,hQ⟩
  | outgrown=>exact hQ
  | exit i=>exact hQ.elim
  | goto l=>exact hQ.elim
abbrev A7s:=@Ye
theorem Cd {fn:Func} {R:Ending->World->Prop} {f:Fr} {w:World} (hr:fn.results=#[]) (h:R (.returned (.tuple #[])) w):Ir P fn R .ret f w :=
 ⟨_,λ_ _=>results_none hr _ _ _,h⟩
theorem A27 {fn:Func} {R:Ending->World->Prop} {f:Fr} {w:World} {t:Tmp} {v:Value} (hr:fn.results=#[.tmp t]) (hv:look f t=some v)
  (h:R (.returned v) w):Ir P fn R .ret f w :=
 ⟨v,λtmps ht=>by rw [results_tmp hr,ht _ _ hv],h⟩
abbrev A7F:=@A27
theorem AW {P:Program} {n:Sh} {fn:Func} {R:Ending->World->Prop} {Q:Exit->Fr->World->Prop} {f:Fr} {w:World} {t:Tmp} {v:Value} (h:R (.returned v) w) (hq:Ir P fn R .ret f w->Q .ret f w:=by exact id) (hr:fn.results=#[.tmp t]:=by rfl) (hv:look f t=some v:=by rfl):W P n .ret Q f w:=AT (hq (A27 hr hv h))
theorem D0 {fn:Func} {R:Ending->World->Prop} {f:Fr} {w:World} {t u:Tmp} {v x:Value} (hr:fn.results=#[.tmp t,.tmp u]) (hv:look f t=some v) (hx:look f u=some x)
  (h:R (.returned (.tuple #[v,x])) w):Ir P fn R .ret f w :=
 ⟨_,λtmps ht=>by rw [results_tmp2 hr,ht _ _ hv,ht _ _ hx],h⟩
theorem A5z {fn:Func} {R:Ending->World->Prop} {f:Fr} {w:World} {t u s:Tmp} {v x y:Value} (hr:fn.results=#[.tmp t,.tmp u,.tmp s]) (hv:look f t=some v) (hx:look f u=some x) (hy:look f s=some y)
  (h:R (.returned (.tuple #[v,x,y])) w):Ir P fn R .ret f w :=
 ⟨_,λtmps ht=>by rw [show (results fn tmps).run P w=.ok (.tuple #[tmps.getD t undef,tmps.getD u undef,tmps.getD s undef]) w by simp [results,hr],ht _ _ hv,ht _ _ hx,ht _ _ hy],h⟩
theorem LQ {fn:Func} {R:Ending->World->Prop} {f:Fr} {w:World} {t u s:Tmp} {ty:TypeId} {b:Addr} {v x y:Value} (hr:fn.results=#[.cell t ty,.tmp u,.tmp s])
  (ht:look f t=some (.pointer (some b))) (hv:(loadVar ty b).run P w=.ok v w) (hx:look f u=some x) (hy:look f s=some y)
  (h:R (.returned (.tuple #[v,x,y])) w):Ir P fn R .ret f w :=
 ⟨_,λtmps hh=>by
  have e1:=hh _ _ ht;have e2:=hh _ _ hx;have e3:=hh _ _ hy
  simp only [AK] at e1 e2 e3
  simp [results,hr,e1,e2,e3,asAddr,hv],h⟩
def BG (P:Program) (op:Op) (f:Fr) (v:Value):Prop:=∀ ρ,Agr f ρ->∀ d ty pos aft g w,(execOp ρ ⟨d,op,ty,pos,aft,g⟩).run P w=.ok (.value v) w
theorem X9 {ops:Array Oper} {Q:Exit->Fr->World->Prop} {f:Fr} {w:World} (h:Q .normal f w):WL P n ops Q [] f w:=λ_ ha=>wpList_nil ⟨f,ha,h⟩
abbrev A0:=@X9
theorem WL.run {ops:Array Oper} {Q:Exit->Fr->World->Prop} {f:Fr} {w w':World} {rest:List Oper} {d ty:Nat} {pos:String} {aft:Array Edge} {op:Op} {v:Value} (hd:Nat.blt d n.n=true)
  (h:∀ ρ,Agr f ρ->(execOp ρ ⟨some d,op,ty,pos,aft,none⟩).run P w=.ok (.value v) w') (k:WL P n ops Q rest ((d,v)::f) w'):WL P n ops Q (⟨some d,op,ty,pos,aft,none⟩::rest) f w:=by
 intro a ha
 refine wpList_plain rfl λK hK=>?_
 unfold Oper.wp
 rw [h _ ha.agr]
 exact hK _ _ (k _ (ha.put hd v))
theorem QP {ops:Array Oper} {Q:Exit->Fr->World->Prop} {f:Fr} {w w':World} {rest:List Oper} {ty:Nat} {pos:String} {aft:Array Edge} {op:Op}
  (h:∀ ρ,Agr f ρ->(execOp ρ ⟨none,op,ty,pos,aft,none⟩).run P w=.ok .skip w') (k:WL P n ops Q rest f w'):WL P n ops Q (⟨none,op,ty,pos,aft,none⟩::rest) f w:=by
 intro a ha
 refine wpList_plain rfl λK hK=>?_
 unfold Oper.wp
 rw [h _ ha.agr]
 exact hK _ _ (k _ ha)
theorem WL.p {ops:Array Oper} {Q:Exit->Fr->World->Prop} {f:Fr} {w:World} {rest:List Oper} {d ty:Nat} {pos:String} {aft:Array Edge} {op:Op} {v:Value}
  (h:BG P op f v) (hd:Nat.blt d n.n=true) (k:WL P n ops Q rest ((d,v)::f) w):WL P n ops Q (⟨some d,op,ty,pos,aft,none⟩::rest) f w :=
 WL.run hd (λρ hρ=>h ρ hρ _ _ _ _ _ _) k
theorem A1 {P:Program} {n:Sh} {ops:Array Oper} {Q:Exit->Fr->World->Prop} {f:Fr} {w:World} {rest:List Oper} {d ty:Nat} {pos:String} {aft:Array Edge} {op:Op} {v:Value} (h:BG P op f v) (k:WL P n ops Q rest ((d,v)::f) w) (hd:Nat.blt d n.n=true:=by rfl):WL P n ops Q (⟨some d,op,ty,pos,aft,none⟩::rest) f w:=WL.p h hd k
theorem Ck {ops:Array Oper} {Q:Exit->Fr->World->Prop} {f:Fr} {w:World} {rest:List Oper} {d ty:Nat} {pos:String} {aft:Array Edge} {op:Op} {j dj:Nat} {b t:Bool}
    (hj:(ops[j]?).bind (·.dst)=some dj) (ht:look f dj=some (.bool t)) (hd:Nat.blt d n.n=true)
    (hy:t=b->WL P n ops Q (⟨some d,op,ty,pos,aft,none⟩::rest) f w) (hn:t=!b->WL P n ops Q rest ((d,undef)::f) w) :
    WL P n ops Q (⟨some d,op,ty,pos,aft,some (j,b)⟩::rest) f w:=by
  intro a ha
  have c:=ha.2.2 _ _ ht
  have e:yielded ops a.tmps j=some t:=by
    unfold yielded
    cases ho:ops[j]? with
    | none=>rw [ho] at hj;cases hj
    | some o =>
      rw [ho] at hj
      simp only [Option.bind_some] at hj
      have g:a.tmps[dj]?=some (.bool t):=by
        cases h:a.tmps[dj]? with
        | none=>rw [AK,h] at c;cases c
        | some v=>rw [AK,h] at c;exact BJ some c
      simp [hj,g]
  by_cases hb:t=b
  · have := hy hb a ha
    unfold wpList at this ⊢
    simp only [Region.wanted,e,hb,beq_self_eq_true,if_true] at this ⊢
    exact this
  · have hb' : t = !b := by revert hb; cases t <;> cases b <;> decide
    have:=hn hb' _ (ha.put hd undef)
    unfold wpList
    have hw:(some t == some b)=false:=by revert hb;cases t <;> cases b <;> decide
    simp only [Region.wanted,e,hw]
    exact this
theorem A7r {P:Program} {n:Sh} {ops:Array Oper} {Q:Exit->Fr->World->Prop} {f:Fr} {w:World} {rest:List Oper} {d ty:Nat} {pos:String} {aft:Array Edge} {op:Op} {j dj:Nat} {b:Bool} {p:Prop} [Decidable p] (hj:(ops[j]?).bind (·.dst)=some dj) (ht:look f dj=some (.bool (decide p))) (hd:Nat.blt d n.n=true) (hy:(match b with | true=>p | false=>¬p)->WL P n ops Q (⟨some d,op,ty,pos,aft,none⟩::rest) f w) (hn:(match b with | true=>¬p | false=>p)->WL P n ops Q rest ((d,undef)::f) w):WL P n ops Q (⟨some d,op,ty,pos,aft,some (j,b)⟩::rest) f w:=Ck hj ht hd (λe=>hy (by cases b with | true=>exact of_decide_eq_true e | false=>exact of_decide_eq_false e)) (λe=>hn (by cases b with | true=>exact of_decide_eq_false e | false=>exact of_decide_eq_true e))
theorem GX {ops:Array Oper} {Q:Exit->Fr->World->Prop} {f:Fr} {w:World} {rest:List Oper} {d ty:Nat} {pos:String} {aft:Array Edge} {op:Op} {j dj:Nat} {b t:Bool}
  (hj:(ops[j]?).bind (·.dst)=some dj) (ht:look f dj=some (.bool t)) (hd:Nat.blt d n.n=true) (e:t=b)
  (hy:WL P n ops Q (⟨some d,op,ty,pos,aft,none⟩::rest) f w):WL P n ops Q (⟨some d,op,ty,pos,aft,some (j,b)⟩::rest) f w :=
 Ck hj ht hd (λ_=>hy) (λh=>by rw [e] at h;cases b <;> cases h)
theorem Az {P:Program} {n:Sh} {ops:Array Oper} {Q:Exit->Fr->World->Prop} {f:Fr} {w:World} {rest:List Oper} {d ty:Nat} {pos:String} {aft:Array Edge} {op:Op} {j dj:Nat} {b t:Bool} (e:t=b) (hn:WL P n ops Q (⟨some d,op,ty,pos,aft,none⟩::rest) f w) (hj:(ops[j]?).bind (·.dst)=some dj:=by rfl) (ht:look f dj=some (.bool t):=by rfl) (hd:Nat.blt d n.n=true:=by rfl):WL P n ops Q (⟨some d,op,ty,pos,aft,some (j,b)⟩::rest) f w:=GX hj ht hd e hn
theorem Ie {ops:Array Oper} {Q:Exit->Fr->World->Prop} {f:Fr} {w:World} {rest:List Oper} {d ty:Nat} {pos:String} {aft:Array Edge} {op:Op} {j dj:Nat} {b t:Bool}
  (hj:(ops[j]?).bind (·.dst)=some dj) (ht:look f dj=some (.bool t)) (hd:Nat.blt d n.n=true) (e:t=!b)
  (hn:WL P n ops Q rest ((d,undef)::f) w):WL P n ops Q (⟨some d,op,ty,pos,aft,some (j,b)⟩::rest) f w :=
 Ck hj ht hd (λh=>by rw [e] at h;cases b <;> cases h) (λ_=>hn)
theorem Bc {P:Program} {n:Sh} {ops:Array Oper} {Q:Exit->Fr->World->Prop} {f:Fr} {w:World} {rest:List Oper} {d ty:Nat} {pos:String} {aft:Array Edge} {op:Op} {j dj:Nat} {b t:Bool} (e:t=!b) (hn:WL P n ops Q rest ((d,undef)::f) w) (hj:(ops[j]?).bind (·.dst)=some dj:=by rfl) (ht:look f dj=some (.bool t):=by rfl) (hd:Nat.blt d n.n=true:=by rfl):WL P n ops Q (⟨some d,op,ty,pos,aft,some (j,b)⟩::rest) f w:=Ie hj ht hd e hn
theorem WL.V {P:Program} {n:Sh} {f:Fr} {ops:Array Oper} {Q:Exit->Fr->World->Prop} {w:World} {rest:List Oper} {d ty:Nat} {pos:String} {aft:Array Edge} {op:Op} {j dj:Nat} {b t:Bool} (hn:WL P n ops Q rest ((d,undef)::f) w) (hj:(ops[j]?).bind (·.dst)=some dj:=by rfl) (ht:look f dj=some (.bool t):=by rfl) (hd:Nat.blt d n.n=true:=by rfl) (e:t=!b:=by rfl):WL P n ops Q (⟨some d,op,ty,pos,aft,some (j,b)⟩::rest) f w:=Ie hj ht hd e hn
end
theorem MP (l:l8_):(bs l).toList=l:=by simp [bs]
theorem V2 (l:l8_) (a b:Nat):(bs l).extract a b=bs ((l.drop a).take (b-a)):=by
 apply ByteArray.ext
 simp [bs,List.extract_eq_take_drop]
theorem Ya (l m:l8_):(l == m)=decide (l=m):=by rw [AY];simp
theorem Ba {r:Int} (h:-9223372036854775808<=r/\r<=9223372036854775807):IntKind.i64.wrap r=r:=by rw [IntKind.wrap_i64];omega
theorem Pu {r:Int} (h:0<=r/\r<=255):IntKind.u8.wrap r=r:=by rw [IntKind.wrap_u8'];omega
theorem A2E {r:Int} (h:0<=r/\r<=4294967295):IntKind.u32.wrap r=r:=by rw [IntKind.wrap_u32'];omega
theorem A7h {a b:Int} (h0:0<=a) (h1:a<=9223372036854775807) (hb:1<=b):IntKind.i64.wrap (a.tdiv b)=a / b:=by
 rw [Int.tdiv_eq_ediv_of_nonneg h0]
 exact Ba ⟨by have:=Int.ediv_nonneg h0 (by omega:0<=b);omega,by have:=Int.ediv_le_self b h0;omega⟩
theorem u8q {a b:Int} (h0:0<=a) (h1:a<=255) (hb:1<=b):IntKind.u8.wrap (a.tdiv b)=a / b:=by
 rw [Int.tdiv_eq_ediv_of_nonneg h0]
 exact Pu ⟨Int.ediv_nonneg h0 (by omega:0<=b),by have:=Int.ediv_le_self b h0;omega⟩
section
variable {P:Program} {n:Sh} {f:Fr}
theorem BG.mv {x:Operand} {v:Value} (hx:CM f x=some v):BG P (.move x) f v:=λρ hρ d ty pos aft g w=>by
 simp [execOp,hρ _ _ hx]
theorem WL.m {P:Program} {n:Sh} {ops:Array Oper} {Q:Exit->Fr->World->Prop} {f:Fr} {w:World} {rest:List Oper} {d ty:Nat} {pos:String} {aft:Array Edge} {x:Operand} {v:Value} (h:CM f x=some v) (hd:Nat.blt d n.n=true) (k:WL P n ops Q rest ((d,v)::f) w):WL P n ops Q (⟨some d,.move x,ty,pos,aft,none⟩::rest) f w:=WL.p (.mv h) hd k
theorem A3 {P:Program} {n:Sh} {ops:Array Oper} {Q:Exit->Fr->World->Prop} {f:Fr} {w:World} {rest:List Oper} {d ty:Nat} {pos:String} {aft:Array Edge} {x:Operand} {v:Value} (h:CM f x=some v) (k:WL P n ops Q rest ((d,v)::f) w) (hd:Nat.blt d n.n=true:=by rfl):WL P n ops Q (⟨some d,.move x,ty,pos,aft,none⟩::rest) f w:=WL.p (.mv h) hd k
theorem BG.as {x:Operand} {v:Value} (hx:CM f x=some v):BG P (.assign x) f v:=λρ hρ d ty pos aft g w=>by
 simp [execOp,hρ _ _ hx]
theorem A6F {P:Program} {n:Sh} {ops:Array Oper} {Q:Exit->Fr->World->Prop} {f:Fr} {w:World} {d ty:Nat} {pos:String} {aft:Array Edge} {x:Operand} {v:Value} (h:CM f x=some v) (hd:Nat.blt d n.n=true) (k:Q .normal ((d,v)::f) w):WL P n ops Q [⟨some d,.assign x,ty,pos,aft,none⟩] f w:=WL.p (.as h) hd (X9 k)
theorem WL.a {P:Program} {n:Sh} {ops:Array Oper} {Q:Exit->Fr->World->Prop} {f:Fr} {w:World} {rest:List Oper} {d ty:Nat} {pos:String} {aft:Array Edge} {x:Operand} {v:Value} (h:CM f x=some v) (hd:Nat.blt d n.n=true) (k:WL P n ops Q rest ((d,v)::f) w):WL P n ops Q (⟨some d,.assign x,ty,pos,aft,none⟩::rest) f w:=WL.p (.as h) hd k
theorem Ct {P:Program} {n:Sh} {ops:Array Oper} {Q:Exit->Fr->World->Prop} {f:Fr} {w:World} {rest:List Oper} {d ty:Nat} {pos:String} {aft:Array Edge} {x:Operand} {v:Value} (h:CM f x=some v) (k:WL P n ops Q rest ((d,v)::f) w) (hd:Nat.blt d n.n=true:=by rfl):WL P n ops Q (⟨some d,.assign x,ty,pos,aft,none⟩::rest) f w:=WL.p (.as h) hd k
theorem A9 {P:Program} {n:Sh} {ops:Array Oper} {Q:Exit->Fr->World->Prop} {f:Fr} {w:World} {d ty:Nat} {pos:String} {aft:Array Edge} {x:Operand} {v:Value} (h:CM f x=some v) (k:Q .normal ((d,v)::f) w) (hd:Nat.blt d n.n=true:=by rfl):WL P n ops Q [⟨some d,.assign x,ty,pos,aft,none⟩] f w:=WL.p (.as h) hd (X9 k)
theorem BG.pick {c x y:Operand} {t:Bool} {v:Value} (hc:CM f c=some (.bool t)) (h1:t=true->CM f x=some v) (h2:t=false->CM f y=some v):BG P (.pick c x y) f v:=λρ hρ d ty pos aft g w=>by
 cases t
 · simp [execOp,hρ _ _ hc,asBool,hρ _ _ (h2 rfl)]
 · simp [execOp,hρ _ _ hc,asBool,hρ _ _ (h1 rfl)]
theorem BG.pkT {c x y:Operand} {t:Bool} {v:Value} (hc:CM f c=some (.bool t)) (e:t=true) (h1:CM f x=some v):BG P (.pick c x y) f v :=
 .pick hc (λ_=>h1) (λh=>by rw [e] at h;cases h)
theorem BG.pkF {c x y:Operand} {t:Bool} {v:Value} (hc:CM f c=some (.bool t)) (e:t=false) (h1:CM f y=some v):BG P (.pick c x y) f v :=
 .pick hc (λh=>by rw [e] at h;cases h) (λ_=>h1)
section ints
variable {x y:Operand} {k:IntKind} {a b r:Int} {tx ty:TypeId}
theorem BG.add (hx:CM f x=some (.int k a)) (hy:CM f y=some (.int k b)) (hr:k.wrap (a+b)=r):BG P (.binOp .add tx x y ty) f (.int k r):=λρ hρ d ty pos aft g w=>by
 simp [execOp,hρ _ _ hx,hρ _ _ hy,eqGuard,binOp,Op.intArith,hr]
theorem BG.sub (hx:CM f x=some (.int k a)) (hy:CM f y=some (.int k b)) (hr:k.wrap (a-b)=r):BG P (.binOp .sub tx x y ty) f (.int k r):=λρ hρ d ty pos aft g w=>by
 simp [execOp,hρ _ _ hx,hρ _ _ hy,eqGuard,binOp,Op.intArith,hr]
theorem BG.mul (hx:CM f x=some (.int k a)) (hy:CM f y=some (.int k b)) (hr:k.wrap (a * b)=r):BG P (.binOp .mul tx x y ty) f (.int k r):=λρ hρ d ty pos aft g w=>by
 simp [execOp,hρ _ _ hx,hρ _ _ hy,eqGuard,binOp,Op.intArith,hr]
theorem BG.quo (hx:CM f x=some (.int k a)) (hy:CM f y=some (.int k b)) (h0:b≠0) (hr:k.wrap (a.tdiv b)=r):BG P (.binOp .quo tx x y ty) f (.int k r):=λρ hρ d ty pos aft g w=>by
 simp [execOp,hρ _ _ hx,hρ _ _ hy,eqGuard,binOp,Op.intDiv,h0,hr]
theorem BG.rem (hx:CM f x=some (.int k a)) (hy:CM f y=some (.int k b)) (h0:b≠0) (hr:a.tmod b=r):BG P (.binOp .rem tx x y ty) f (.int k r):=λρ hρ d ty pos aft g w=>by
 simp [execOp,hρ _ _ hx,hρ _ _ hy,eqGuard,binOp,Op.intDiv,h0,hr]
theorem BG.lss (hx:CM f x=some (.int k a)) (hy:CM f y=some (.int k b)):BG P (.binOp .lss tx x y ty) f (.bool (decide (a<b))):=λρ hρ d ty pos aft g w=>by
 simp [execOp,hρ _ _ hx,hρ _ _ hy,eqGuard,binOp,Op.intCmp]
theorem BG.leq (hx:CM f x=some (.int k a)) (hy:CM f y=some (.int k b)):BG P (.binOp .leq tx x y ty) f (.bool (decide (a<=b))):=λρ hρ d ty pos aft g w=>by
 simp [execOp,hρ _ _ hx,hρ _ _ hy,eqGuard,binOp,Op.intCmp]
theorem BG.gtr (hx:CM f x=some (.int k a)) (hy:CM f y=some (.int k b)):BG P (.binOp .gtr tx x y ty) f (.bool (decide (b<a))):=λρ hρ d ty pos aft g w=>by
 simp [execOp,hρ _ _ hx,hρ _ _ hy,eqGuard,binOp,Op.intCmp]
theorem BG.geq (hx:CM f x=some (.int k a)) (hy:CM f y=some (.int k b)):BG P (.binOp .geq tx x y ty) f (.bool (decide (b<=a))):=λρ hρ d ty pos aft g w=>by
 simp [execOp,hρ _ _ hx,hρ _ _ hy,eqGuard,binOp,Op.intCmp]
theorem BG.eql (hx:CM f x=some (.int k a)) (hy:CM f y=some (.int k b)):BG P (.binOp .eql tx x y ty) f (.bool (decide (a=b))):=λρ hρ d ty pos aft g w=>by
 simp [execOp,hρ _ _ hx,hρ _ _ hy,eqGuard,binOp,Op.intCmp];rfl
theorem BG.neq (hx:CM f x=some (.int k a)) (hy:CM f y=some (.int k b)):BG P (.binOp .neq tx x y ty) f (.bool (!decide (a=b))):=λρ hρ d ty pos aft g w=>by
 simp [execOp,hρ _ _ hx,hρ _ _ hy,eqGuard,binOp,Op.intCmp];rfl
theorem BG.not {t:Bool} (hx:CM f x=some (.bool t)):BG P (.unOp .not tx x) f (.bool (!t)):=λρ hρ d ty pos aft g w=>by
 simp [execOp,hρ _ _ hx,Op.unary]
theorem BG.cvt {k' k0:IntKind} (hs:P.underlying tx=some (.int k0)) (ht:P.underlying ty=some (.int k')) (hx:CM f x=some (.int k a)) (hr:k'.wrap a=r):BG P (.convert tx ty x) f (.int k' r):=λρ hρ d ty' pos aft g w=>by
 simp [execOp,hρ _ _ hx,convert,Bz hs,Bz ht,Conv.intToInt,hr]
theorem BG.eqb {s t:Bool} (hu:P.underlying tx=some .bool) (hx:CM f x=some (.bool s)) (hy:CM f y=some (.bool t)):BG P (.binOp .eql tx x y ty) f (.bool (decide (s=t))):=λρ hρ d ty pos aft g w=>by
 have h:=run_eql_bool w tx s t hu
 simp only [execOp,hρ _ _ hx,hρ _ _ hy,Ca]
 have hg:(eqGuard .eql tx x y (.bool s) (.bool t)).run P w=.ok () w:=by simp [eqGuard]
 simp only [hg,BT,h]
 cases s <;> cases t <;> rfl
end ints
section strings
variable {x y:Operand} {l m:l8_} {tx ty:TypeId}
theorem BG.len {at':TypeId} (hu:P.underlying at'=some .string) (hx:CM f x=some (.string (bs l))):BG P (.call ⟨.builtin .len,#[x],#[at']⟩) f (Af (l.length:Int)):=λρ hρ d ty pos aft g w=>by
 simp [execOp,resolve,invoke,builtin,Builtin.len_,Bz hu,hρ _ _ hx,goInt,BV]
theorem BG.ix {i:Int} (hu:P.underlying tx=some .string) (hx:CM f x=some (.string (bs l))) (hi:CM f y=some (Af i)) (k:Nat) (e:i=k) (hk:k<l.length):BG P (.index tx x y) f (.int .u8 (l[k].toNat:Int)):=λρ hρ d ty pos aft g w=>by
 subst e
 have h1:(bs l)[k]?=some l[k]:=by
  have:k<(bs l).size:=by rw [BV];exact hk
  rw [getElem?_pos (bs l) k this];rfl
 simp [execOp,Instr.index,hρ _ _ hx,hρ _ _ hi,asIntOf,Bz hu,h1]
theorem BG.cat (hx:CM f x=some (.string (bs l))) (hy:CM f y=some (.string (bs m))) (hlen:l.length+m.length<=9223372036854775807):BG P (.binOp .add tx x y ty) f (.string (bs (l++m))):=λρ hρ d ty pos aft g w=>by
 have h:(l.length:Int)+(m.length:Int)<=9223372036854775807:=by omega
 simp [execOp,hρ _ _ hx,hρ _ _ hy,eqGuard,binOp,Op.stringOp,EB,BV,h]
theorem BG.eqs (hx:CM f x=some (.string (bs l))) (hy:CM f y=some (.string (bs m))):BG P (.binOp .eql tx x y ty) f (.bool (decide (l=m))):=λρ hρ d ty pos aft g w=>by
 simp [execOp,hρ _ _ hx,hρ _ _ hy,eqGuard,binOp,Op.stringOp,MP,Ya]
theorem BG.nes (hx:CM f x=some (.string (bs l))) (hy:CM f y=some (.string (bs m))):BG P (.binOp .neq tx x y ty) f (.bool (!decide (l=m))):=λρ hρ d ty pos aft g w=>by
 simp [execOp,hρ _ _ hx,hρ _ _ hy,eqGuard,binOp,Op.stringOp,MP,Ya]
theorem BG.ext {i:Nat} {vs:Array Value} {v:Value} (hx:CM f x=some (.tuple vs)) (hv:vs[i]?=some v):BG P (.extract x i) f v:=λρ hρ d ty pos aft g w=>by
 simp [execOp,hρ _ _ hx,Instr.extract,hv]
end strings
def D2 (P:Program) (F:FuncId):Prop:=∃ fn,P.funcs[F]?=some fn/\fn.body≠none/\fn.name≠"runtime.NumGoroutine"
theorem EL {F:FuncId} {fn:Func} (hf:P.funcs[F]?=some fn) (hb:(fn.body.isNone || fn.name == "runtime.NumGoroutine")=false):D2 P F:=by
 simp only [Bool.or_eq_false_iff] at hb
 exact ⟨fn,hf,λh=>by rw [h] at hb;exact De hb.1 dD,λh=>by rw [h] at hb;exact De hb.2 dD⟩
def R0 (f:Fr):List Operand->Option (List Value)
 | []=>some []
 | x::r=>match CM f x,R0 f r with
  | some v,some vs=>some (v::vs)
  | _,_=>none
theorem J9 {ρ:Operand->Value} (hρ:Agr f ρ):∀ (xs:List Operand) (vs:List Value),R0 f xs=some vs->xs.map ρ=vs
 | [],vs,h=>by simp only [R0,BN] at h;subst h;rfl
 | x::r,vs,h=>by
  unfold R0 at h
  cases hx:CM f x with
  | none=>rw [hx] at h;cases h
  | some v =>
   cases hr:R0 f r with
   | none=>rw [hx,hr] at h;cases h
   | some us =>
    rw [hx,hr] at h
    simp only [BN] at h
    subst h
    simp [hρ _ _ hx,J9 hρ r us hr]
theorem Mz {F:FuncId} (hb:D2 P F) {ρ:Operand->Value} (hρ:Agr f ρ) {xs:List Operand} {vs:List Value} (hx:R0 f xs=some vs) {ats:Array TypeId} (d:Option Tmp) (ty:TypeId) (pos:String) (aft:Array Edge) (g:Option (Nat × Bool)) (w:World) :
  (execOp ρ ⟨d,.call ⟨.value (.func F),xs.toArray,ats⟩,ty,pos,aft,g⟩).run P w=.ok (.enter F vs.toArray) w:=by
 obtain ⟨fn,c,h,i⟩:=hb
 have e:=J9 hρ _ _ hx
 have b:ρ (.func F)=.func (.func F) #[] #[]:=hρ _ _ rfl
 have a:xs.toArray.map ρ=vs.toArray:=by simp [e]
 unfold execOp
 simp only [resolve,a,b]
 simp [Deferred.ofValue,invoke,callFunc,run_program,c,h,i]
theorem Bf {ops:Array Oper} {Q:Exit->Fr->World->Prop} {w:World} {rest:List Oper} {d ty:Nat} {pos:String} {aft:Array Edge} {F:FuncId} {xs:List Operand} {ats:Array TypeId} {vs:List Value} {α:Sort _}
  {V:α->Value} {S:α->World->Prop} (hb:D2 P F) (hx:R0 f xs=some vs) (hd:Nat.blt d n.n=true)
  (hc:Calls P F vs.toArray w λe w'=>∃ t,e=.returned (V t)/\S t w') (k:∀ t w',S t w'->WL P n ops Q rest ((d,V t)::f) w') :
  WL P n ops Q (⟨some d,.call ⟨.value (.func F),xs.toArray,ats⟩,ty,pos,aft,none⟩::rest) f w:=by
 intro a ha
 refine wpList_plain rfl λK hK=>?_
 unfold Oper.wp
 rw [Mz hb ha.agr hx,Oper.upon_enter]
 refine hc.mono ?_
 rintro e w' ⟨t,rfl,hS⟩
 exact hK _ _ (k t w' hS _ (ha.put hd _))
theorem Fh {ops:Array Oper} {Q:Exit->Fr->World->Prop} {w:World} {rest:List Oper} {d:Option Tmp} {ty:Nat} {pos:String} {aft:Array Edge} {F:FuncId} {xs:List Operand} {ats:Array TypeId} {vs:List Value}
  {ch:List PanicEntry} {S:World->Prop} (hb:D2 P F) (hx:R0 f xs=some vs)
  (hc:Calls P F vs.toArray w λe w'=>e=.panicked ch/\S w') (k:∀ w',S w'->Q (.panic ch) f w') :
  WL P n ops Q (⟨d,.call ⟨.value (.func F),xs.toArray,ats⟩,ty,pos,aft,none⟩::rest) f w:=by
 intro a ha
 refine wpList_plain rfl λK hK=>?_
 unfold Oper.wp
 rw [Mz hb ha.agr hx,Oper.upon_enter]
 refine hc.mono ?_
 rintro e w' ⟨rfl,hS⟩
 exact ⟨f,ha,k w' hS⟩
theorem A6G {ops:Array Oper} {Q:Exit->Fr->World->Prop} {w:World} {rest:List Oper} {d:Option Tmp} {ty:Nat} {pos:String} {aft:Array Edge} {op:Op} {v:Value}
  (h:∀ ρ,Agr f ρ->(execOp ρ ⟨d,op,ty,pos,aft,none⟩).run P w=.halt (.panic v) w) (k:Q (.panic [{ v,recovered:=false }]) f w) :
  WL P n ops Q (⟨d,op,ty,pos,aft,none⟩::rest) f w:=by
 intro a ha
 refine wpList_plain rfl λK hK=>?_
 unfold Oper.wp
 rw [h _ ha.agr,Oper.upon_panic]
 exact ⟨f,ha,k⟩
theorem Cm {ops:Array Oper} {Q:Exit->Fr->World->Prop} {w:World} {rest:List Oper} {d ty:Nat} {pos:String} {aft:Array Edge} {F:FuncId} {xs:List Operand} {ats:Array TypeId} {vs:List Value}
  {V:Value} {S:World->Prop} (hb:D2 P F) (hx:R0 f xs=some vs) (hd:Nat.blt d n.n=true)
  (hc:Calls P F vs.toArray w λe w'=>e=.returned V/\S w') (k:∀ w',S w'->WL P n ops Q rest ((d,V)::f) w') :
  WL P n ops Q (⟨some d,.call ⟨.value (.func F),xs.toArray,ats⟩,ty,pos,aft,none⟩::rest) f w :=
 Bf (α:=Unit) (V:=λ_=>V) (S:=λ_=>S) hb hx hd (hc.mono λ_ _ h=>⟨(),h⟩) (λ_=>k)
def B0 (w:World) (b:Nat) (cs:Array Value) (t:TypeId):Prop:=w.heap[b]?=some (.cells cs t (0,0))
structure CK (b:Nat) (w w1:World):Prop where
 os:w1.os=w.os
 tape:w1.tape=w.tape
 output:w1.output=w.output
 size:w.heap.size<=w1.heap.size
 other:∀ k,k≠b->w1.heap[k]?=w.heap[k]?
theorem B0.lt {w:World} {b:Nat} {cs:Array Value} {t:TypeId} (h:B0 w b cs t):b<w.heap.size:=(Bd.1 h).1
theorem CK.below {B b:Nat} {w0 w w1:World} (hb:Below B w0 w) (hB:B<=b) (h:CK b w w1):Below B w0 w1 :=
 ⟨h.os.trans hb.os,h.tape.trans hb.tape,h.output.trans hb.output,C9 hb.size h.size,λk hk=>(h.other k oO).trans (hb.block k hk)⟩
theorem uB {b:Nat} {a w w1:World} (h:AL a w) (e:b=w.heap.size) (u:CK b w w1):AL a w1:=CK.below h (e▸h.size) u
abbrev BU:=@CK.below
theorem B0.upd {w w1:World} {b c:Nat} {cs:Array Value} {t:TypeId} (h:B0 w c cs t) (hu:CK b w w1) (hne:c≠b):B0 w1 c cs t:=(hu.other c hne).trans h
theorem B0.up {w w1:World} {b c:Nat} {cs:Array Value} {t:TypeId} (h:B0 w c cs t) (hu:CK b w w1) (hne:c≠b:=by ((try simp only) <;> omega)):B0 w1 c cs t:=h.upd hu hne
theorem CF {a b c:Nat} (e:b=c) (h:a<=c):a<=b:=e▸h
theorem Bl {a b c:Nat} (e:b=c) (h:a<c):a<b:=e▸h
theorem B0.un {w w1:World} {b c:Nat} {cs:Array Value} {t:TypeId} (h:B0 w c cs t) (hu:CK b w w1) (hl:c<b):B0 w1 c cs t:=h.upd hu (Nat.ne_of_lt hl)
theorem bL {a b:Nat} (h:Nat.ble a b=true:=by rfl):a<=b:=Nat.le_of_ble_eq_true h
theorem Ar {P:Program} {F:FuncId} {fn:Func} {c:Code} {args:Array Value} {w:World} {R:Ending->World->Prop} (hf:P.funcs[F]?=some fn) (hb:fn.body=some c) {k:Nat} (hn:fn.ntmps=k) (h:W P ⟨k,[]⟩ c (Ir P fn R) (KI 0 args.toList) w) (hl:Nat.ble args.size k=true:=by rfl):Calls P F args w R:=Ye hf hb hn (Nat.le_of_ble_eq_true hl) h
theorem B0.below {w w1:World} {B c:Nat} {cs:Array Value} {t:TypeId} (h:B0 w c cs t) (hb:Below B w w1) (hc:c<B):B0 w1 c cs t:=(hb.block c hc).trans h
theorem B0.bl {w w1:World} {c:Nat} {cs:Array Value} {t:TypeId} (h:B0 w c cs t) (hb:AL w w1):B0 w1 c cs t:=h.below hb h.lt
theorem CK.alloc (w:World) (o:Obj):CK w.heap.size w (w.alloc o):=⟨rfl,rfl,rfl,by simp,λk hk=>by
 show (w.heap.push o)[k]?=_
 rw [Array.getElem?_push,A2 hk]⟩
theorem CK.setRow (w:World) (b:Nat) (cs:Array Value):CK b w (w.setRow b cs):=⟨rfl,rfl,rfl,by simp [World.setRow],λk hk=>by
 simp only [World.setRow,Array.getElem?_modify]
 rw [A2 oO]⟩
theorem CK.setCell (w:World) (b o:Nat) (v:Value):CK b w (w.setCell ⟨b,o,none⟩ v):=⟨rfl,rfl,rfl,by simp [World.setCell],λk hk=>by
 simp only [World.setCell,Array.getElem?_modify]
 rw [A2 oO]⟩
theorem B0.alloc (w:World) (cs:Array Value) (t:TypeId):B0 (w.alloc (.cells cs t)) w.heap.size cs t:=by
 show (w.heap.push _)[w.heap.size]?=_
 simp
theorem B0.setCell {w:World} {b:Nat} {cs:Array Value} {t:TypeId} (h:B0 w b cs t) (o:Nat) (v:Value):B0 (w.setCell ⟨b,o,none⟩ v) b (cs.setIfInBounds o v) t:=by
 unfold B0 at *
 simp [World.setCell,Array.getElem?_modify,h]
theorem B0.cell {w:World} {b:Nat} {cs:Array Value} {t:TypeId} (h:B0 w b cs t) (o:Nat):w.cell? ⟨b,o,none⟩=cs[o]?:=cell_of_row w b o cs t (0,0) h
theorem B0.free {w:World} {b:Nat} {cs:Array Value} {t:TypeId} (h:B0 w b cs t) (o:Nat):w.frozen? ⟨b,o,none⟩=false:=by
 unfold B0 at h
 simp [World.frozen?,h]
section mem
variable {ops:Array Oper} {Q:Exit->Fr->World->Prop} {w:World} {rest:List Oper} {d ty:Nat} {pos:String} {aft:Array Edge}
theorem WL.alloc {t:TypeId} {z:Value} (hz:∀ w,(zeroValue t).run P w=.ok z w) (hd:Nat.blt d n.n=true)
  (k:∀ b w1,b=w.heap.size->B0 w1 b z.cells t->CK b w w1->w1.heap.size=b+1->WL P n ops Q rest ((d,ptV b)::f) w1) :
  WL P n ops Q (⟨some d,.alloc t,ty,pos,aft,none⟩::rest) f w :=
 WL.run hd (w':=w.alloc (.cells z.cells t)) (v:=ptV w.heap.size) (λρ hρ=>by
  simp [execOp,Instr.alloc,hz,newVar,newRow]) (k _ _ rfl (B0.alloc _ _ _) (CK.alloc _ _) (by simp))
abbrev Bj:=@WL.alloc
theorem WL.box {t:TypeId} {x:Operand} {v:Value} (hx:CM f x=some v) (hd:Nat.blt d n.n=true)
  (k:∀ b w1,b=w.heap.size->B0 w1 b v.cells t->CK b w w1->w1.heap.size=b+1->WL P n ops Q rest ((d,ptV b)::f) w1) :
  WL P n ops Q (⟨some d,.box t x,ty,pos,aft,none⟩::rest) f w :=
 WL.run hd (w':=w.alloc (.cells v.cells t)) (v:=ptV w.heap.size) (λρ hρ=>by
  simp [execOp,Instr.box,hρ _ _ hx,newVar,newRow]) (k _ _ rfl (B0.alloc _ _ _) (CK.alloc _ _) (by simp))
theorem A5w {t tb:TypeId} {x y:Operand} {b:Nat} {old cs:Array Value} (hx:CM f x=some (ptV b)) (hy:CM f y=some (.agg cs)) (hb:B0 w b old tb)
  (hi:(P.info? t).map (·.size)=some cs.size) (ho:old.size=cs.size) (h1:cs.all (·.oneCell')=true)
  (k:∀ w1,B0 w1 b cs tb->CK b w w1->w1.heap.size=w.heap.size->WL P n ops Q rest f w1) :
  WL P n ops Q (⟨none,.store t x y,ty,pos,aft,none⟩::rest) f w :=
 QP (w':=w.setRow b cs) (λρ hρ=>by
  unfold execOp
  simp only [hρ _ _ hx,hρ _ _ hy,Instr.storeAt,Instr.sureAddr,Ca,D3,BT,run_storeVar_row w b tb t old cs hb hi ho h1])
  (k _ (setRow_heap w b old cs tb (0,0) hb) (CK.setRow _ _ _) (by simp [World.setRow]))
theorem A7q {t tb:TypeId} {x:Operand} {b:Nat} {cs:Array Value} {dd:TypeDesc} (hx:CM f x=some (ptV b)) (hb:B0 w b cs tb)
  (hu:P.underlying t=some dd) (hdd:(match dd with | .struct _ | .array _ _=>true | _=>false)=true) (hi:(P.info? t).map (·.size)=some cs.size) (hd:Nat.blt d n.n=true)
  (k:WL P n ops Q rest ((d,.agg cs)::f) w):WL P n ops Q (⟨some d,.load t x,ty,pos,aft,none⟩::rest) f w :=
 WL.run hd (λρ hρ=>by
  unfold execOp
  simp only [hρ _ _ hx,Instr.loadAt,Instr.sureAddr,Ca,D3,BT,run_loadVar_row w b tb t cs (0,0) dd hb hu hdd hi]) k
theorem BG.build {t:TypeId} {ps:List (Nat × Operand)} {vs:List Value} {cs:Array Value} (hx:R0 f (ps.map (·.2))=some vs) (hb:P.built t ((ps.map (·.1)).zip vs)=some cs):BG P (.build t ps.toArray) f (.agg cs):=λρ hρ d ty pos aft g w=>by
 have e:=J9 hρ _ _ hx
 have e2:(ps.toArray.map λ(i,x)=>(i,ρ x)).toList=(ps.map (·.1)).zip vs:=by
  rw [<- e]
  simp only [List.map_map,Array.toList_map]
  clear hx hb e
  induction ps with
  | nil=>rfl
  | cons p r ih=>simpa using ih
 unfold execOp
 simp only [Ca,run_build w t _ cs (by rw [e2];exact hb),BT,D3]
end mem
end
section
variable {P:Program} {n:Sh} {f:Fr}
def Rd (P:Program) (op:Op) (f:Fr) (w:World) (v:Value):Prop:=∀ ρ,Agr f ρ->∀ d ty pos aft g,(execOp ρ ⟨d,op,ty,pos,aft,g⟩).run P w=.ok (.value v) w
theorem BG.rd {op:Op} {v:Value} {w:World} (h:BG P op f v):Rd P op f w v:=λρ hρ d ty pos aft g=>h ρ hρ d ty pos aft g w
theorem Ae {t tb:TypeId} {x:Operand} {b o:Nat} {cs:Array Value} {v:Value} {w:World} (ha:(isAgg t).run P w=.ok false w) (hx:CM f x=some (.pointer (some ⟨b,o,none⟩))) (hb:B0 w b cs tb) (hv:cs[o]?=some v) :
  Rd P (.load t x) f w v:=λρ hρ d ty pos aft g=>by
 have hc:=(hb.cell o).trans hv
 simp [execOp,hρ _ _ hx,Instr.loadAt,Instr.sureAddr,loadVar,ha,hc]
theorem Bq {t:TypeId} {x:Operand} {p:Addr} {v:Value} {w:World} (ha:(isAgg t).run P w=.ok false w) (hx:CM f x=some (.pointer (some p))) (hv:w.cell? p=some v) :
  Rd P (.load t x) f w v:=λρ hρ d ty pos aft g=>by
 simp [execOp,hρ _ _ hx,Instr.loadAt,Instr.sureAddr,loadVar,ha,hv]
theorem Bk {t tb:TypeId} {x:Operand} {b:Nat} {cs:Array Value} {dd:TypeDesc} {w:World} (hx:CM f x=some (ptV b)) (hb:B0 w b cs tb)
  (hu:P.underlying t=some dd) (hdd:(match dd with | .struct _ | .array _ _=>true | _=>false)=true) (hi:(P.info? t).map (·.size)=some cs.size):Rd P (.load t x) f w (.agg cs):=λρ hρ d ty pos aft g=>by
 unfold execOp
 simp only [hρ _ _ hx,Instr.loadAt,Instr.sureAddr,Ca,D3,BT,run_loadVar_row w b tb t cs (0,0) dd hb hu hdd hi]
theorem BG.lenS {at' e:TypeId} {x:Operand} {p:Option Addr} {l c:Nat} (hu:P.underlying at'=some (.slice e)) (hx:CM f x=some (.slice p l c)):BG P (.call ⟨.builtin .len,#[x],#[at']⟩) f (Af (l:Int)):=λρ hρ d ty pos aft g w=>by
 simp [execOp,resolve,invoke,builtin,Builtin.len_,Bz hu,hρ _ _ hx,goInt]
theorem Vm {tx e:TypeId} {x y:Operand} {p:Addr} {l c sz:Nat} {i:Int} {k:IntKind} (hu:P.underlying tx=some (.slice e)) (hs:∀ w,(sizeOf e).run P w=.ok sz w) (hx:CM f x=some (.slice (some p) l c))
  (hi:CM f y=some (.int k i)) (j:Nat) (e':i=j) (hj:j<l):BG P (.indexAddr tx x y) f (.pointer (some (p.add (j * sz)))):=λρ hρ d ty pos aft g w=>by
 subst e'
 simp [execOp,Instr.indexAt,hρ _ _ hx,hρ _ _ hi,asIntOf,Bz hu,hs,hj]
theorem BG.fa {s:TypeId} {x:Operand} {p:Addr} {i:Nat} {fs:Array Field} {fd:Field} {sz:Nat} (hu:P.underlying s=some (.struct fs)) (hf:fs[i]?=some fd) (hs:∀ w,(sizeOf fd.type).run P w=.ok sz w) (h0:sz≠0)
  (hx:CM f x=some (.pointer (some p))):BG P (.fieldAddr s x i) f (.pointer (some (p.add fd.offset))):=λρ hρ d ty pos aft g w=>by
 simp [execOp,Instr.fieldAt,hρ _ _ hx,Bz hu,hf,Instr.sureAddr,fieldPlace,hs,h0]
theorem BG.nck {x:Operand} {p:Addr} (hx:CM f x=some (.pointer (some p))):BG P (.nilCheck x) f (.pointer (some p)):=λρ hρ d ty pos aft g w=>by
 simp [execOp,hρ _ _ hx]
theorem BG.fld {s:TypeId} {x:Operand} {i:Nat} {fs:Array Field} {fd:Field} {cs:Array Value} {v:Value} (hu:P.underlying s=some (.struct fs)) (hf:fs[i]?=some fd) (ha:∀ w,(isAgg fd.type).run P w=.ok false w)
  (hx:CM f x=some (.agg cs)) (hv:cs[fd.offset]?=some v):BG P (.field s x i) f v:=λρ hρ d ty pos aft g w=>by
 simp [execOp,Instr.field,hρ _ _ hx,Bz hu,hf,asAgg,part,ha,hv]
theorem Zz {ops:Array Oper} {Q:Exit->Fr->World->Prop} {w:World} {rest:List Oper} {d ty:Nat} {pos:String} {aft:Array Edge} {op:Op} {v:Value}
  (h:Rd P op f w v) (hd:Nat.blt d n.n=true) (k:WL P n ops Q rest ((d,v)::f) w):WL P n ops Q (⟨some d,op,ty,pos,aft,none⟩::rest) f w :=
 WL.run hd (λρ hρ=>h ρ hρ _ _ _ _ _) k
theorem Ah {P:Program} {n:Sh} {ops:Array Oper} {Q:Exit->Fr->World->Prop} {f:Fr} {w:World} {rest:List Oper} {d ty:Nat} {pos:String} {aft:Array Edge} {op:Op} {v:Value} (h:Rd P op f w v) (k:WL P n ops Q rest ((d,v)::f) w) (hd:Nat.blt d n.n=true:=by rfl):WL P n ops Q (⟨some d,op,ty,pos,aft,none⟩::rest) f w:=Zz h hd k
theorem Br {ops:Array Oper} {Q:Exit->Fr->World->Prop} {w:World} {rest:List Oper} {ty:Nat} {pos:String} {aft:Array Edge} {t tb:TypeId} {x y:Operand} {b o:Nat} {cs:Array Value} {v:Value}
  (hs:∀ w,(sizeOf t).run P w=.ok 1 w) (hx:CM f x=some (.pointer (some ⟨b,o,none⟩))) (hy:CM f y=some v) (h1:v.oneCell'=true) (hb:B0 w b cs tb) (ho:o<cs.size)
  (k:∀ w1,B0 w1 b (cs.setIfInBounds o v) tb->CK b w w1->w1.heap.size=w.heap.size->WL P n ops Q rest f w1):WL P n ops Q (⟨none,.store t x y,ty,pos,aft,none⟩::rest) f w :=
 QP (w':=w.setCell ⟨b,o,none⟩ v) (λρ hρ=>by
  have hc:w.cell? ⟨b,o,none⟩=some cs[o]:=by rw [hb.cell o];simp [ho]
  have hf:=hb.free o
  have a:=run_store P w ⟨b,o,none⟩ v .plain h1
  have c:v.cells=#[v]:=by cases v <;> first | rfl | cases h1
  have d:(⟨b,o,none⟩:Addr).add 0=⟨b,o,none⟩:=by simp [Addr.add]
  simp [execOp,hρ _ _ hx,hρ _ _ hy,Instr.storeAt,Instr.sureAddr,storeVar,c,hs,storeCells,d,a,hc,hf])
  (k _ (hb.setCell o v) (CK.setCell w b o v) (by simp [World.setCell]))
theorem Cn {P:Program} {n:Sh} {f:Fr} {ops:Array Oper} {Q:Exit->Fr->World->Prop} {w:World} {rest:List Oper} {ty:Nat} {pos:String} {aft:Array Edge} {t tb:TypeId} {x y:Operand} {b o:Nat} {cs:Array Value} {v:Value} (hb:B0 w b cs tb) (hs:∀ w,(sizeOf t).run P w=.ok 1 w) (k:∀ w1,B0 w1 b (cs.setIfInBounds o v) tb->CK b w w1->w1.heap.size=w.heap.size->WL P n ops Q rest f w1) (hx:CM f x=some (.pointer (some ⟨b,o,none⟩)):=by rfl) (hy:CM f y=some v:=by rfl) (h1:v.oneCell'=true:=by rfl) (ho:o<cs.size:=by first | decide | exact Nat.le_of_ble_eq_true rfl):WL P n ops Q (⟨none,.store t x y,ty,pos,aft,none⟩::rest) f w:=Br hs hx hy h1 hb ho k
theorem R4 {a:Act} {ops:Array Oper} {j dj:Nat} (ha:OM n f a) (hj:(ops[j]?).bind (·.dst)=some dj) (ht:look f dj=some undef):yielded ops a.tmps j=none:=by
 have b:=ha.2.2 _ _ ht
 unfold yielded
 cases ho:ops[j]? with
 | none=>rw [ho] at hj;cases hj
 | some o =>
  rw [ho] at hj
  simp only [Option.bind_some] at hj
  cases h:a.tmps[dj]? with
  | none=>simp [hj,h]
  | some v =>
   rw [AK,h] at b
   simp only [Option.getD_some] at b
   subst b
   simp [hj,h,undef]
theorem A6H {ops:Array Oper} {Q:Exit->Fr->World->Prop} {w:World} {rest:List Oper} {d ty:Nat} {pos:String} {aft:Array Edge} {op:Op} {j dj:Nat} {b:Bool}
  (hj:(ops[j]?).bind (·.dst)=some dj) (ht:look f dj=some undef) (hd:Nat.blt d n.n=true)
  (hn:WL P n ops Q rest ((d,undef)::f) w):WL P n ops Q (⟨some d,op,ty,pos,aft,some (j,b)⟩::rest) f w:=by
 intro a ha
 have c:=R4 ha hj ht
 have:=hn _ (ha.put hd undef)
 unfold wpList
 simp only [Region.wanted,c]
 exact this
theorem RI {P:Program} {n:Sh} {ops:Array Oper} {Q:Exit->Fr->World->Prop} {f:Fr} {w:World} {rest:List Oper} {d ty:Nat} {pos:String} {aft:Array Edge} {op:Op} {j dj:Nat} {b:Bool} (hn:WL P n ops Q rest ((d,undef)::f) w) (hj:(ops[j]?).bind (·.dst)=some dj:=by rfl) (ht:look f dj=some undef:=by rfl) (hd:Nat.blt d n.n=true:=by rfl):WL P n ops Q (⟨some d,op,ty,pos,aft,some (j,b)⟩::rest) f w:=A6H hj ht hd hn
def Le (g f:Fr):Prop:=∀ i v,look g i=some v->look f i=some v
theorem Le.refl (f:Fr):Le f f:=λ_ _ h=>h
theorem Le.cons {g f:Fr} {d:Nat} {v:Value} (hd:look g d=none) (h:Le g f):Le g ((d,v)::f):=by
 intro i u hu
 unfold look
 cases hb:Nat.beq d i with
 | true =>
  obtain rfl:d=i:=BD hb
  rw [hd] at hu;cases hu
 | false=>exact h i u hu
theorem Le.put {g f:Fr} (h:Le g f) {d:Nat} {v:Value} (hd:look f d=some v):Le ((d,v)::g) f:=by
 intro i u hu
 unfold look at hu
 cases hb:Nat.beq d i with
 | true =>
  rw [hb] at hu
  obtain rfl:d=i:=BD hb
  rw [hd];exact hu
 | false=>rw [hb] at hu;exact h i u hu
theorem FT {x y:Code} {Q:Exit->Fr->World->Prop} {w:World} (c:Nat) (T:Bool)
  (h1:W P n x (nx (λf' w'=>(look f' c=some (.bool T)/\Le f f')/\w'=w) Q) f w) (h2:W P n y Q ((c,.bool T)::f) w):W P n (.seq x y) Q f w:=by
 refine Ad (h1.mono ?_)
 intro e f' w' h
 cases e with
 | normal =>
  obtain ⟨⟨hc,b⟩,rfl⟩:=h;exact λa ha=>h2 a ⟨ha.1,ha.2.1,λi v hv=>ha.2.2 i v (b.put hc i v hv)⟩
 | _=>exact h
theorem ndT {p:Prop} [Decidable p] (h:(!decide p)=true):¬ p:=by simpa using h
theorem ndF {p:Prop} [Decidable p] (h:(!decide p)=false):p:=by simpa using h
theorem nT {t:Bool} (h:(!t)=true):t=false:=by simpa using h
theorem nF {t:Bool} (h:(!t)=false):t=true:=by simpa using h
theorem DM {f:Fr} {i:Nat} {s t:Bool} (h:look f i=some (.bool s)) (e:s=t):look f i=some (.bool t):=by rw [h,e]
theorem leF {f g:Fr} {c:Nat} {s t:Bool} (h:look g c=some (.bool s)) (e:s=t:=by first | (simp;omega) | (exfalso;simp_all;omega) | (exfalso;omega)) (k:Le f g:=by repeat (first | exact Le.refl _ | refine Le.cons rfl ?_)):look g c=some (.bool t)/\Le f g:=⟨DM h e,k⟩
theorem Gy {f g:Fr} {c:Nat} {t:Bool} (h:look g c=some (.bool t)) (k:Le f g:=by repeat (first | exact Le.refl _ | refine Le.cons rfl ?_)):look g c=some (.bool t)/\Le f g:=⟨h,k⟩
theorem O4 {f:Fr} {i:Nat} {k:IntKind} {s t:Int} (h:look f i=some (.int k s)) (e:s=t):look f i=some (.int k t):=by rw [h,e]
theorem Km {f:Fr} {i:Nat} {s t:l8_} (h:look f i=some (.string (bs s))) (e:s=t):look f i=some (.string (bs t)):=by rw [h,e]
def C6 (w w1:World):Prop:=∃ m,w1=w.drewN m
theorem C6.refl (w:World):C6 w w:=⟨0,rfl⟩
theorem C6.trans {a b c:World} (h:C6 a b) (k:C6 b c):C6 a c:=by
 obtain ⟨m,rfl⟩:=h;obtain ⟨j,rfl⟩:=k;exact ⟨m+j,by rw [World.drewN_drewN]⟩
theorem C6.below {B:Nat} {w0 w w1:World} (h:Below B w0 w) (d:C6 w w1):Below B w0 w1:=by
 obtain ⟨m,rfl⟩:=d;exact ⟨h.os,h.tape,h.output,h.size,h.block⟩
theorem C6.size {w w1:World} (d:C6 w w1):w1.heap.size=w.heap.size:=by obtain ⟨m,rfl⟩:=d;rfl
theorem B0.drew {w w1:World} {b:Nat} {cs:Array Value} {t:TypeId} (h:B0 w b cs t) (d:C6 w w1):B0 w1 b cs t:=by obtain ⟨m,rfl⟩:=d;exact h
def WS (P:Program) (n:Sh) (ops:Array Oper) (Q:Exit->Fr->World->Prop) (tail:List Oper) (w:World) (l:List Oper) (f:Fr):Prop :=
 ∀ a,OM n f a->wpStill P ops w (λa'=>wpList P ops (IY n Q) tail a' w) l a
theorem Je {x y:Code} {Q:Exit->Fr->World->Prop} {w:World} (c:Nat) (T:Bool)
  (h1:W P n x (nx (λf' w'=>(look f' c=some (.bool T)/\Le f f')/\C6 w w') Q) f w) (h2:∀ w1,C6 w w1->W P n y Q ((c,.bool T)::f) w1):W P n (.seq x y) Q f w:=by
 refine Ad (h1.mono ?_)
 intro e f' w' h
 cases e with
 | normal =>
  obtain ⟨⟨hc,b⟩,d⟩:=h;exact λa ha=>h2 _ d a ⟨ha.1,ha.2.1,λi v hv=>ha.2.2 i v (b.put hc i v hv)⟩
 | _=>exact h
def WQ (P:Program) (n:Sh) (ops:Array Oper) (Q:Exit->Fr->World->Prop) (w:World) (l:List Oper) (f:Fr):Prop :=
 ∀ a,OM n f a->wpQuiet P ops (λw'=>∃ m,w'=w.drewN m) (λa'=>∀ w',(∃ m,w'=w.drewN m)->IY n Q .normal a' w') l a
theorem DH {Q:Exit->Fr->World->Prop} {w:World} {id:Nat} {l:List Oper} (hm:P.follows .mixedOrders=true) (hB:Region.lexB .any l.toArray=true) (h:WQ P n l.toArray Q w l f):W P n (.region id l.toArray true) Q f w :=
 λa ha=>wp_region_quiet_lit hm hB (h a ha)
section
variable {ops:Array Oper} {Q:Exit->Fr->World->Prop} {w:World} {rest:List Oper} {d ty:Nat} {pos:String} {aft:Array Edge} {op:Op} {v:Value}
theorem CX (h:∀ w1,C6 w w1->Q .normal f w1):WQ P n ops Q w [] f:=λ_ ha=>wpQuiet_nil λw' e=>⟨f,ha,h w' e⟩
theorem Db (h:∀ m,Rd P op f (w.drewN m) v) (hd:Nat.blt d n.n=true) (k:WQ P n ops Q w rest ((d,v)::f)):WQ P n ops Q w (⟨some d,op,ty,pos,aft,none⟩::rest) f:=by
 intro a ha
 unfold wpQuiet
 rw [A7 (by simp [Region.wanted])]
 refine ⟨v,?_,k _ (ha.put hd v)⟩
 rintro w' ⟨m,rfl⟩
 unfold Oper.quietAt
 rw [h m _ ha.agr]
 exact ⟨rfl,rfl⟩
theorem WQ.p (h:BG P op f v) (hd:Nat.blt d n.n=true) (k:WQ P n ops Q w rest ((d,v)::f)):WQ P n ops Q w (⟨some d,op,ty,pos,aft,none⟩::rest) f:=Db (λ_=>h.rd) hd k
theorem Kj {j dj:Nat} {b t:Bool} (hj:(ops[j]?).bind (·.dst)=some dj) (ht:look f dj=some (.bool t)) (hd:Nat.blt d n.n=true)
    (hy:t=b->WQ P n ops Q w (⟨some d,op,ty,pos,aft,none⟩::rest) f) (hn:t=!b->WQ P n ops Q w rest ((d,undef)::f)) :
    WQ P n ops Q w (⟨some d,op,ty,pos,aft,some (j,b)⟩::rest) f:=by
  intro a ha
  have c:=ha.2.2 _ _ ht
  have e:yielded ops a.tmps j=some t:=by
    unfold yielded
    cases ho:ops[j]? with
    | none=>rw [ho] at hj;cases hj
    | some o =>
      rw [ho] at hj
      simp only [Option.bind_some] at hj
      have g:a.tmps[dj]?=some (.bool t):=by
        cases h:a.tmps[dj]? with
        | none=>rw [AK,h] at c;cases c
        | some v=>rw [AK,h] at c;exact BJ some c
      simp [hj,g]
  by_cases hb:t=b
  · have := hy hb a ha
    unfold wpQuiet at this ⊢
    simp only [Region.wanted,e,hb,beq_self_eq_true,if_true] at this ⊢
    exact this
  · have hb' : t = !b := by revert hb; cases t <;> cases b <;> decide
    have:=hn hb' _ (ha.put hd undef)
    unfold wpQuiet
    have hw:(some t == some b)=false:=by revert hb;cases t <;> cases b <;> decide
    simp only [Region.wanted,e,hw]
    exact this
theorem C0 {j dj:Nat} {b t:Bool} (hj:(ops[j]?).bind (·.dst)=some dj) (ht:look f dj=some (.bool t)) (hd:Nat.blt d n.n=true) (e:t=b)
  (hy:WQ P n ops Q w (⟨some d,op,ty,pos,aft,none⟩::rest) f):WQ P n ops Q w (⟨some d,op,ty,pos,aft,some (j,b)⟩::rest) f :=
 Kj hj ht hd (λ_=>hy) (λh=>by rw [e] at h;cases b <;> cases h)
theorem Bm {j dj:Nat} {b t:Bool} (hj:(ops[j]?).bind (·.dst)=some dj) (ht:look f dj=some (.bool t)) (hd:Nat.blt d n.n=true) (e:t=!b)
  (hn:WQ P n ops Q w rest ((d,undef)::f)):WQ P n ops Q w (⟨some d,op,ty,pos,aft,some (j,b)⟩::rest) f :=
 Kj hj ht hd (λh=>by rw [e] at h;cases b <;> cases h) (λ_=>hn)
theorem Jc {F:FuncId} {xs:List Operand} {ats:Array TypeId} {vs:List Value} (hb:D2 P F) (hx:R0 f xs=some vs) (hd:Nat.blt d n.n=true)
  (hc:∀ m,Calls P F vs.toArray (w.drewN m) λe w'=>e=.returned v/\∃ k,w'=w.drewN k) (k:WQ P n ops Q w rest ((d,v)::f)) :
  WQ P n ops Q w (⟨some d,.call ⟨.value (.func F),xs.toArray,ats⟩,ty,pos,aft,none⟩::rest) f:=by
 intro a ha
 unfold wpQuiet
 rw [A7 (by simp [Region.wanted])]
 refine ⟨v,?_,k _ (ha.put hd v)⟩
 rintro w' ⟨m,rfl⟩
 unfold Oper.quietAt
 rw [Mz hb ha.agr hx]
 exact ⟨rfl,hc m⟩
end
end
theorem BG.bis {P:Program} {op:Op} {f:Fr} {s:Bool} (t:Bool) (h:BG P op f (.bool s)) (e:s=t):BG P op f (.bool t):=e▸h
theorem BG.iis {P:Program} {op:Op} {f:Fr} {k:IntKind} {s:Int} (t:Int) (h:BG P op f (.int k s)) (e:s=t):BG P op f (.int k t):=e▸h
theorem BG.sis {P:Program} {op:Op} {f:Fr} {s:l8_} (t:l8_) (h:BG P op f (.string (bs s))) (e:s=t):BG P op f (.string (bs t)):=e▸h
def Z1:List Value->Bool
 | []=>true
 | v::r=>v.oneCell' && Z1 r
theorem Q8:∀ {l:List Value},Z1 l=true->∀ v∈l,v.oneCell'=true
 | [],_,v,hv=>by cases hv
 | u::r,h,v,hv=>by
  simp only [Z1,AE] at h
  rcases A6.1 hv with rfl | hv
  · exact h.1
  · exact Q8 h.2 v hv
def Uf:List Value->List (Nat × Value)->List Value
 | z,[]=>z
 | z,(i,v)::r=>Uf (z.set i v) r
theorem pR {p:Prop} (h:p:=by simp only [Uf,List.map,List.zip,List.zipWith,List.set,List.replicate] <;> rfl):p:=h
theorem pS {p:Prop} (h:p:=by simp only [Uf,List.map,List.zip,List.zipWith,List.set] <;> rfl):p:=h
theorem pZ {p:Prop} (h:p:=by simp only [Uf,List.map,List.zip,List.zipWith] <;> rfl):p:=h
def KS:Nat->Nat->List (Nat × Nat)->Bool
 | _,0,l=>l.isEmpty
 | k,n+1,p::l=>Nat.beq p.1 k && Nat.beq p.2 1 && KS (k+1) n l
 | _,_+1,[]=>false
theorem OI:∀ (n k:Nat) (l:List (Nat × Nat)),KS k n l=true->∀ i,i<n->l[i]?=some (k+i,1)
 | 0,_,_,_,_,hi=>by omega
 | n+1,k,[],h,_,_=>by cases h
 | n+1,k,p::l,h,i,hi=>by
  simp only [KS,AE] at h
  obtain ⟨⟨h1,h2⟩,h3⟩:=h
  cases i with
  | zero =>
   have e1:=BD h1
   have e2:=BD h2
   simp;exact Prod.ext e1 e2
  | succ i =>
   have:=OI n (k+1) l h3 i oO
   rw [List.getElem?_cons_succ,this]
   congr 2;omega
theorem Q9 {v:Value} (h:v.oneCell'=true):v.cells=#[v]:=by cases v <;> first | rfl | cases h
def Qs (n:Nat):List (Nat × Value)->Bool
 | []=>true
 | (i,v)::r=>Nat.blt i n && v.oneCell' && Qs n r
theorem Sy {pl:List (Nat × Nat)} {n:Nat} (hp:KS 0 n pl=true):∀ (parts:List (Nat × Value)) (z:List Value),z.length=n->Qs n parts=true->Instr.fill (pl.toArray[·]?) z.toArray parts=some (Uf z parts).toArray
 | [],z,_,_=>rfl
 | (i,v)::r,z,hz,ho=>by
  simp only [Qs,AE] at ho
  obtain ⟨⟨h1,h2⟩,h3⟩:=ho
  have hi:i<n:=by simpa [Nat.blt_eq] using h1
  have a:=OI n 0 pl hp i hi
  have hc:=Q9 h2
  have ih:=Sy hp r (z.set i v) (by simpa using hz) h3
  simp only [Do] at a
  have b:pl.toArray[i]?=some (i,1):=by simpa using a
  have hf:(#[v].zipIdx.foldl (λcs (x:Value × Nat)=>cs.setIfInBounds (i+x.2) x.1) z.toArray)=(z.set i v).toArray:=by simp [Array.zipIdx]
  refine Eq.trans ?_ ih
  conv=>lhs;unfold Instr.fill
  simp only [b,hc]
  rw [A2 (by simp;omega)]
  exact BJ (λc=>Instr.fill (pl.toArray[·]?) c r) hf
theorem BG.buildL {P:Program} {f:Fr} {t:TypeId} {ps:List (Nat × Operand)} {vs zl l:List Value} {pl:List (Nat × Nat)} (hb:P.built t=λparts=>Instr.fill (pl.toArray[·]?) zl.toArray parts) (hp:KS 0 zl.length pl=true)
  (hx:R0 f (ps.map (·.2))=some vs) (ho:Qs zl.length ((ps.map (·.1)).zip vs)=true) (hl:Uf zl ((ps.map (·.1)).zip vs)=l):BG P (.build t ps.toArray) f (.agg l.toArray) :=
 BG.build hx (by rw [hb,<- hl];exact Sy hp _ _ rfl ho)
theorem Ax {P:Program} {n:Sh} {f:Fr} {ops:Array Oper} {Q:Exit->Fr->World->Prop} {w:World} {rest:List Oper} {ty:Nat} {pos:String} {aft:Array Edge} {t tb:TypeId} {x y:Operand} {b:Nat} {old l:List Value} (hx:CM f x=some (ptV b)) (hy:CM f y=some (.agg l.toArray)) (hb:B0 w b old.toArray tb)
  (hi:(P.info? t).map (·.size)=some l.length) (ho:old.length=l.length) (h1:Z1 l=true)
  (k:∀ w1,B0 w1 b l.toArray tb->CK b w w1->w1.heap.size=w.heap.size->WL P n ops Q rest f w1) :
  WL P n ops Q (⟨none,.store t x y,ty,pos,aft,none⟩::rest) f w :=
 A5w hx hy hb (by simpa using hi) (by simpa using ho) (by simpa using Q8 h1) k
theorem Be {P:Program} {w:World} {b:Nat} {cs:Array Value} {t tb:TypeId} {dd:TypeDesc} (hb:B0 w b cs tb) (hu:P.underlying t=some dd)
  (hd:(match dd with | .struct _ | .array _ _=>true | _=>false)=true) (hi:(P.info? t).map (·.size)=some cs.size):(loadVar t ⟨b,0,none⟩).run P w=.ok (.agg cs) w:=run_loadVar_row w b tb t cs (0,0) dd hb hu hd hi
theorem Bt {P:Program} {fn:Func} {R:Ending->World->Prop} {c:List PanicEntry} {f:Fr} {w:World} (h:R (.panicked c) w):Ir P fn R (.panic c) f w:=h
theorem Lr {P:Program} {fn:Func} {R:Ending->World->Prop} {c:List PanicEntry} {f g:Fr} {w:World} (h:Ir P fn R (.panic c) f w):Ir P fn R (.panic c) g w:=h
theorem NH {P:Program} {o:Oper} {a:Act} {w:World} {K:Act->World->Prop} {Q Q':Exit->Act->World->Prop} (h:o.wp P a w K Q) (hq:∀ e a w,e≠.normal->Q e a w->Q' e a w):o.wp P a w K Q':=by
 unfold Oper.wp at *
 generalize (execOp a.eval o).run P w=r at *
 cases r with
 | ok m w' =>
  cases m <;> simp only [Oper.upon] at h ⊢ <;>
   first
    | exact h
    | exact Calls.mono h (λe w'' he=>by
      cases e with
      | returned v=>exact he
      | panicked c=>exact hq _ _ _ (by simp) he
      | outgrown=>obtain ⟨a',b,d⟩:=he;exact ⟨a',b,hq _ _ _ (by simp) d⟩)
 | halt x w'=>cases x <;> simp only [Oper.upon] at h ⊢ <;> first | exact h | exact hq _ _ _ (by simp) h
def WY (P:Program) (n:Sh) (ops:Array Oper) (Q:Exit->Fr->World->Prop) (fuel:Nat) (listed:Array Bool) (f:Fr) (w:World):Prop:=∀ a,OM n f a->wpAny P .any ops (IY n Q) fuel listed a w
section
variable {P:Program} {n:Sh} {f:Fr} {ops:Array Oper} {Q:Exit->Fr->World->Prop} {w:World} {fuel:Nat} {listed:Array Bool}
theorem Fe {id:Nat} {l:List Oper} (N:Nat) (hN:l.length=N) (hm:P.follows .mixedOrders=true) (h:∀ w1,C6 w w1->WY P n l.toArray Q N (Array.replicate N false) f w1):W P n (.region id l.toArray true) Q f w :=
 λa ha=>wp_region_any hm (by
  subst hN
  have:=h (w.drewN 1) ⟨1,rfl⟩ a ha
  rw [show l.toArray.size=l.length by simp]
  exact this)
theorem WY.take (i:Nat) {d ty:Nat} {pos:String} {aft:Array Edge} {op:Op} {v:Value} (hi:ops[i]?=some ⟨some d,op,ty,pos,aft,none⟩) (hs:Region.noSelect ops=true) (hf:Region.free .any ops listed i=true)
  (hr:(Region.ready .any ops listed).contains i=true) (hQ:∀ c f w,Q (.panic c) f w->Q (.panic c) [] w) (hp:BG P op f v) (hd:Nat.blt d n.n=true)
  (k:WY P n ops Q fuel (listed.setIfInBounds i true) ((d,v)::f) w):WY P n ops Q (fuel+1) listed f w:=by
 intro a ha
 refine wpAny_take hi hs hf hr ?_ (.inl ⟨by simp [Region.wanted],λw=>hp _ ha.agr _ _ _ _ _ w⟩) (k _ (ha.put hd v))
 rintro c b w' ⟨g,hg,hq⟩
 have e:=hg.1
 have h:=hg.2.1
 refine ⟨[],⟨?_,?_,λi u hu=>by cases hu⟩,hQ c g w' hq⟩
 · exact e
 · simpa [Act.put] using h
def NE (P:Program) (n:Sh) (ops:Array Oper) (Q:Exit->Fr->World->Prop) (fuel:Nat) (listed:Array Bool) (f:Fr) (w:World):List Nat->Prop
 | []=>True
 | i::r=>(∃ o,ops[i]?=some o/\WL P n ops (nx (λf' w'=>WY P n ops Q fuel (listed.setIfInBounds i true) f' w') Q) [o] f w)/\NE P n ops Q fuel listed f w r
theorem NE.mem:∀ {rs:List Nat},NE P n ops Q fuel listed f w rs->∀ i∈rs,∃ o,ops[i]?=some o/\WL P n ops (nx (λf' w'=>WY P n ops Q fuel (listed.setIfInBounds i true) f' w') Q) [o] f w
 | [],_,_,h=>by cases h
 | j::r,h,i,hi=>by
  rcases A6.1 hi with rfl | hi
  · exact h.1
  · exact NE.mem h.2 i hi
theorem SK (rs:List Nat) (hr:Region.ready .any ops listed=rs) (hne:rs.isEmpty=false) (h:NE P n ops Q fuel listed f w rs):WY P n ops Q (fuel+1) listed f w:=by
 intro a ha
 refine wpAny_all hr (by cases rs with | nil=>cases hne | cons _ _=>simp) λi hi=>?_
 obtain ⟨o,ho,hw⟩:=h.mem i hi
 have:=hw a ha
 unfold wpOp
 simp only [ho]
 have conv:∀ (e:Exit) (a:Act) (w:World),IY n (nx (λf' w'=>WY P n ops Q fuel (listed.setIfInBounds i true) f' w') Q) e a w->Exit.then (wpAny P .any ops (IY n Q) fuel (listed.setIfInBounds i true)) (IY n Q) e a w:=by
  rintro e a w ⟨g,hg,hq⟩
  cases e with
  | normal=>exact hq a hg
  | _=>exact ⟨g,hg,hq⟩
 unfold wpList at this
 split
 ·
  next hwt =>
  rw [A7 hwt] at this
  refine this.imp (λh=>?_) λ⟨b,a',w',c⟩=>⟨b,a',w',conv _ _ _ c⟩
  have h':o.wp P a w (wpAny P .any ops (IY n Q) fuel (listed.setIfInBounds i true)) (IY n (nx (λf' w'=>WY P n ops Q fuel (listed.setIfInBounds i true) f' w') Q)) :=
   Oper.wp_mono (λa w h=>conv .normal a w h) h
  exact NH h' λe a w he h=>by
   cases e with
   | normal=>exact De rfl he
   | _=>exact conv _ a w h
 ·
  next hwt =>
  rw [A2 hwt] at this
  exact conv .normal _ _ this
theorem AI (i:Nat) {d ty:Nat} {pos:String} {aft:Array Edge} {op:Op} {v:Value} (hi:ops[i]?=some ⟨some d,op,ty,pos,aft,none⟩) (hp:BG P op f v) (hd:Nat.blt d n.n=true)
  (k:WY P n ops Q fuel (listed.setIfInBounds i true) ((d,v)::f) w) (hs:Region.noSelect ops=true:=by kernel_rfl) (hf:Region.free .any ops listed i=true:=by kernel_rfl)
  (hr:(Region.ready .any ops listed).contains i=true:=by kernel_rfl) (hQ:∀ c f w,Q (.panic c) f w->Q (.panic c) [] w:=by first | exact λc f w h=>Lr h | exact λc f w h=>h):WY P n ops Q (fuel+1) listed f w :=
 WY.take i hi hs hf hr hQ hp hd k
theorem Av (i:Nat) {o:Oper} (hi:ops[i]?=some o) (h:WL P n ops (nx (λf' w'=>WY P n ops Q fuel (listed.setIfInBounds i true) f' w') Q) [o] f w) (hr:Region.ready .any ops listed=[i]:=by kernel_rfl):WY P n ops Q (fuel+1) listed f w :=
 SK [i] hr rfl ⟨⟨_,hi,h⟩,tT⟩
theorem CG (i:Nat) {o:Oper} (hi:ops[i]?=some o) (j:Nat) {o2:Oper} (hj:ops[j]?=some o2) (h:WL P n ops (nx (λf' w'=>WY P n ops Q fuel (listed.setIfInBounds i true) f' w') Q) [o] f w)
  (h2:WL P n ops (nx (λf' w'=>WY P n ops Q fuel (listed.setIfInBounds j true) f' w') Q) [o2] f w) (hr:Region.ready .any ops listed=[i,j]:=by kernel_rfl):WY P n ops Q (fuel+1) listed f w :=
 SK [i,j] hr rfl ⟨⟨_,hi,h⟩,⟨_,hj,h2⟩,tT⟩
theorem Bn (hr:Region.ready .any ops listed=[]) (h:Q .normal f w):WY P n ops Q fuel listed f w:=λ_ ha=>wpAny_done hr ⟨f,ha,h⟩ fuel
end
attribute [irreducible] Ir W WL WQ WS WY
end
section
section
variable {P:Program} {n:Sh} {f:Fr}
def pA (p:Option Addr):Addr:=p.getD ⟨0,0,none⟩
structure Ag (w:World) (p:Option Addr) (l:l8_):Prop where
 isp:0<l.length->p=some (pA p)
 cells:∀ j (h:j<l.length),w.cell? ((pA p).add j)=some (.int .u8 (l[j].toNat:Int))
theorem Ag.nil (w:World):Ag w none []:=⟨λh=>by simp at h,λj h=>by simp at h⟩
theorem HE (a:Addr):a.add 0=a:=by unfold Addr.add;split <;> simp_all
theorem Ee (a:Addr) (k:Nat):(a.add k).block=a.block:=by unfold Addr.add;split <;> simp_all
theorem K9 (a:Addr) (j k:Nat):(a.add j).add k=a.add (j+k):=by
 unfold Addr.add
 split <;> simp_all <;> (try split) <;> simp_all <;> omega
theorem Ag.below {w w1:World} {B:Nat} {p:Option Addr} {l:l8_} (h:Ag w p l) (hb:Below B w w1) (hp:0<l.length->(pA p).block<B):Ag w1 p l :=
 ⟨h.isp,λj hj=>by rw [hb.cell (by rw [Ee];exact hp oO)];exact h.cells j hj⟩
abbrev DL:=@Ag.below
theorem Ag.upd {w w1:World} {b:Nat} {p:Option Addr} {l:l8_} (h:Ag w p l) (hu:CK b w w1) (hp:0<l.length->(pA p).block≠b):Ag w1 p l :=
 ⟨h.isp,λj hj=>by rw [World.cell?_of_block (w:=w) (hu.other _ (by rw [Ee];exact hp oO))];exact h.cells j hj⟩
theorem Ce {w w1:World} {b:Nat} {p:Option Addr} {l:l8_} (h:Ag w p l) (hu:CK b w w1) (hp:0<l.length->(pA p).block<b):Ag w1 p l:=Ag.upd h hu (λh0=>Nat.ne_of_lt (hp h0))
theorem Ag.drewN {w:World} {p:Option Addr} {l:l8_} (h:Ag w p l) (m:Nat):Ag (w.drewN m) p l:=⟨h.isp,h.cells⟩
theorem Ag.lt {w:World} {p:Option Addr} {l:l8_} (h:Ag w p l) (hl:0<l.length):(pA p).block<w.heap.size:=by
 have:=h.cells 0 hl
 unfold World.cell? at this
 rw [Ee] at this
 cases hb:w.heap[(pA p).block]? with
 | none=>rw [hb] at this;cases this
 | some o=>exact (Bd.1 hb).1
theorem BG.ixb {tx e:TypeId} {x y:Operand} {p:Option Addr} {l c:Nat} {i:Int} {k:IntKind} (hu:P.underlying tx=some (.slice e)) (hs:∀ w,(sizeOf e).run P w=.ok 1 w) (hx:CM f x=some (.slice p l c))
  (hi:CM f y=some (.int k i)) (hp:p=some (pA p)) (j:Nat) (e':i=j) (hj:j<l):BG P (.indexAddr tx x y) f (.pointer (some ((pA p).add j))):=by
 have h:=Vm (P:=P) (f:=f) (p:=pA p) (c:=c) hu hs (hx.trans (by rw [<- hp])) hi j e' hj
 rwa [Nat.mul_one] at h
theorem Wh (l:l8_):(l.map λb=>(b.toNat:Int)).foldl (λ(r:ByteArray) n=>r.push (UInt8.ofNat n.toNat)) ByteArray.empty=bs l:=by
 have key:∀ (l m:l8_),(l.map λb=>(b.toNat:Int)).foldl (λ(r:ByteArray) n=>r.push (UInt8.ofNat n.toNat)) (bs m)=bs (m++l):=by
  intro l
  induction l with
  | nil=>intro m;simp
  | cons c r ih =>
   intro m
   have e:(bs m).push (UInt8.ofNat ((c.toNat:Int)).toNat)=bs (m++[c]):=by
    rw [Int.toNat_natCast,UInt8.ofNat_toNat]
    apply ByteArray.ext
    simp [bs,ByteArray.push]
   rw [EF,EO,e,ih,AS];rfl
 have:=key l []
 rw [C4] at this
 exact this
theorem Fm {tx ty e:TypeId} {x:Operand} {p:Option Addr} {l:l8_} {c:Nat} {w:World} (hu:P.underlying tx=some (.slice e)) (he:P.underlying e=some (.int .u8)) (ht:P.underlying ty=some .string)
  (hx:CM f x=some (.slice p l.length c)) (hb:Ag w p l):Rd P (.convert tx ty x) f w (.string (bs l)):=λρ hρ d ty' pos aft g=>by
 have hv:=hρ _ _ hx
 have key:(convert tx ty (.slice p l.length c)).run P w=.ok (.string (bs l)) w:=by
  cases p with
  | none =>
   have h:l=[]:=by
    cases l with
    | nil=>rfl
    | cons a r=>have:=hb.isp (by simp);cases this
   subst h
   simp [convert,Bz hu,Bz he,Bz ht,Conv.bytesToString]
   rfl
  | some a =>
   have hl:(loadCells a l.length).run P w=.ok ((l.map λb=>(b.toNat:Int)).map (Value.int .u8)).toArray w:=by
    have:=run_loadCells_list (P:=P) w a ((l.map λb=>(b.toNat:Int)).map (Value.int .u8)) (λj v hj=>by
     simp only [List.getElem?_map,Option.map_eq_some_iff] at hj
     obtain ⟨z,⟨b,hb1,rfl⟩,rfl⟩:=hj
     obtain ⟨i,rfl⟩:=C8.1 hb1
     exact hb.cells j i)
    simpa using this
   rw [run_convert_bytes_string w tx ty e _ _ _ hu he ht,run_bytesToString w a l.length c _ hl,Wh]
 unfold execOp
 simp only [hv,Ca,key,BT,D3]
theorem Ag.one {w:World} {b:Nat} {x:Int} {t:TypeId} {c:UInt8} (h:B0 w b #[.int .u8 x] t) (e:x=(c.toNat:Int)):Ag w (some ⟨b,0,none⟩) [c] :=
 ⟨λ_=>rfl,λj hj=>by
  obtain rfl:j=0:=by simp at hj;omega
  show w.cell? ((⟨b,0,none⟩:Addr).add 0)=_
  rw [HE,h.cell 0,e];rfl⟩
theorem UY {n:Nat}:∀ (parts:List (Nat × Value)) (z:List Value),z.length=n->Qs n parts=true->Instr.fill (λi=>some (i * 1,1)) z.toArray parts=some (Uf z parts).toArray
 | [],z,_,_=>rfl
 | (i,v)::r,z,hz,ho=>by
  simp only [Qs,AE] at ho
  obtain ⟨⟨h1,h2⟩,h3⟩:=ho
  have hi:i<n:=by simpa [Nat.blt_eq] using h1
  have hc:=Q9 h2
  have ih:=UY r (z.set i v) (by simpa using hz) h3
  have hf:(#[v].zipIdx.foldl (λcs (x:Value × Nat)=>cs.setIfInBounds (i * 1+x.2) x.1) z.toArray)=(z.set i v).toArray:=by simp [Array.zipIdx]
  refine Eq.trans ?_ ih
  conv=>lhs;unfold Instr.fill
  simp only [hc]
  rw [A2 (by simp;omega)]
  exact BJ (λc=>Instr.fill (λi=>some (i * 1,1)) c r) hf
theorem Cs {ops:Array Oper} {Q:Exit->Fr->World->Prop} {w:World} {rest:List Oper} {d ty:Nat} {pos:String} {aft:Array Edge} {t e:TypeId} {len:Nat} {ps:List (Nat × Operand)} {vs l:List Value} {z:Value}
  (hu:P.underlying t=some (.slice e)) (hs:∀ w,(sizeOf e).run P w=.ok 1 w) (hz:∀ w,(zeroValue e).run P w=.ok z w) (hz1:z.oneCell'=true) (hl0:Nat.blt 0 len=true) (hl1:Nat.ble len 1000=true)
  (hx:R0 f (ps.map (·.2))=some vs) (ho:Qs len ((ps.map (·.1)).zip vs)=true) (hl:Uf (List.replicate len z) ((ps.map (·.1)).zip vs)=l) (hd:Nat.blt d n.n=true)
  (k:∀ b w1,b=w.heap.size->B0 w1 b l.toArray e->CK b w w1->w1.heap.size=b+1->WL P n ops Q rest ((d,.slice (some ⟨b,0,none⟩) len len)::f) w1) :
  WL P n ops Q (⟨some d,.buildSlice t len ps.toArray,ty,pos,aft,none⟩::rest) f w:=by
 have y:0<len:=by simpa [Nat.blt_eq] using hl0
 have q:len<=1000:=by simpa using hl1
 refine WL.run hd (w':=w.alloc (.cells l.toArray e)) (v:=.slice (some ⟨w.heap.size,0,none⟩) len len) (λρ hρ=>?_) (k _ _ rfl (B0.alloc _ _ _) (CK.alloc _ _) (by simp))
 have j:=J9 hρ _ _ hx
 have s:(ps.toArray.map λ(i,x)=>(i,ρ x)).toList=(ps.map (·.1)).zip vs:=by
  rw [<- j];simp only [List.map_map,Array.toList_map]
  clear hx ho hl j
  induction ps with
  | nil=>rfl
  | cons p r ih=>simpa using ih
 have m:=Q9 hz1
 have g:(Array.range (len * 1)).map (λx=>(#[z]:Array Value)[x % (#[z]:Array Value).size]!)=(List.replicate len z).toArray:=by
  apply Array.ext
  · simp
  · intro i q A;simp [Nat.mod_one]
 have a:=UY (n:=len) ((ps.map (·.1)).zip vs) (List.replicate len z) (by simp) ho
 rw [hl] at a
 have h:Instr.fill (λi=>some (i,1)) (List.replicate len z).toArray ((ps.map (·.1)).zip vs)=some l.toArray:=by simpa using a
 have c:(Array.range len).map (λx=>(#[z]:Array Value)[x % (#[z]:Array Value).size]!)=(List.replicate len z).toArray:=by simpa using g
 have o:len≠0:=by omega
 have u:¬ 16777216<len:=by omega
 unfold execOp
 simp only [Instr.buildSlice,Ca,Bz hu,hs,BT,s,Nat.mul_one]
 rw [A2 oO,A2 o]
 simp only [Ca,hz,m,D3,BT,c,h]
 simp [newRow]
end
end
section
structure Bh (B r:Nat) (w w1:World):Prop where
 os:w1.os=w.os
 tape:w1.tape=w.tape
 output:w1.output=w.output
 size:w.heap.size<=w1.heap.size
 block:∀ k,k<B->k≠r->w1.heap[k]?=w.heap[k]?
theorem Bh.refl (B r:Nat) (w:World):Bh B r w w:=⟨rfl,rfl,rfl,DP _,λ_ _ _=>rfl⟩
theorem Bh.trans {B r:Nat} {a b c:World} (h:Bh B r a b) (k:Bh B r b c):Bh B r a c :=
 ⟨k.os.trans h.os,k.tape.trans h.tape,k.output.trans h.output,C9 h.size k.size,λi hi hr=>(k.block i hi hr).trans (h.block i hi hr)⟩
abbrev BC:=@Bh.trans
theorem Bh.mono {B B' r:Nat} {a b:World} (h:Bh B r a b) (hB:B'<=B):Bh B' r a b:=⟨h.os,h.tape,h.output,h.size,λi hi hr=>h.block i oO hr⟩
abbrev EX:=@Bh.mono
theorem QR {B r:Nat} {a b:World} (h:Below B a b):Bh B r a b:=⟨h.os,h.tape,h.output,h.size,λi hi _=>h.block i hi⟩
abbrev Fo:=@QR
theorem RJ {B r:Nat} {a b:World} (h:C6 a b):Bh B r a b:=Fo (h.below (Gb _ _))
abbrev Mf:=@RJ
theorem Bp {B r:Nat} {a b:World} (h:CK r a b):Bh B r a b:=⟨h.os,h.tape,h.output,h.size,λi _ hr=>h.other i hr⟩
theorem TJ {B r c:Nat} {a b:World} (h:CK c a b) (hc:B<=c):Bh B r a b:=⟨h.os,h.tape,h.output,h.size,λi hi _=>h.other i oO⟩
abbrev DJ:=@TJ
theorem Bh.below {B B' r:Nat} {a b:World} (h:Bh B' r a b) (hB:B<=B') (hr:B<=r):Below B a b:=⟨h.os,h.tape,h.output,h.size,λi hi=>h.block i oO oO⟩
theorem ZK {B r c:Nat} {w w1:World} {cs:Array Value} {t:TypeId} (h:B0 w c cs t) (hT:Bh B r w w1) (hc:c<B) (hr:c≠r):B0 w1 c cs t:=(hT.block c hc hr).trans h
abbrev Gn:=@ZK
theorem Ag.drew {w w1:World} {p:Option Addr} {l:l8_} (h:Ag w p l) (d:C6 w w1):Ag w1 p l:=by obtain ⟨m,rfl⟩:=d;exact h.drewN m
section
variable {P:Program} {n:Sh} {f:Fr}
def CP (e:TypeId) (B:Nat) (w:World) (v:Value) (xs:List Value):Prop:=w.ownsRow B e 1 v xs.length xs
theorem CP.nil (e:TypeId) (B:Nat) (w:World):CP e B w (.slice none 0 0) []:=World.ownsRow_nil w B e 1
theorem A5N {e:TypeId} {B r:Nat} {w w1:World} {v:Value} {xs:List Value} (h:CP e B w v xs) (hu:CK r w w1) (hr:r<B):CP e B w1 v xs:=by
 obtain ⟨hl,h⟩:=h
 refine ⟨hl,h.imp id λ⟨g,cap,cur,a,b,c,d⟩=>⟨g,cap,cur,a,b,(hu.other g oO).trans c,d⟩⟩
theorem DC {e:TypeId} {B b:Nat} {w w1:World} {v:Value} {xs:List Value} (h:CP e B w v xs) (eb:b=w.heap.size) (hu:CK b w w1):CP e B w1 v xs:=by
 obtain ⟨hl,h⟩:=h
 refine ⟨hl,h.imp id λ⟨g,cap,cur,c,d,a,f⟩=>⟨g,cap,cur,c,d,(hu.other g (by have:=(Bd.1 a).1;omega)).trans a,f⟩⟩
theorem CP.below {e:TypeId} {B:Nat} {w w1:World} {v:Value} {xs:List Value} (h:CP e B w v xs) (hb:AL w w1):CP e B w1 v xs:=by
 obtain ⟨hl,h⟩:=h
 refine ⟨hl,h.imp id λ⟨g,cap,cur,b,c,a,d⟩=>⟨g,cap,cur,b,c,(hb.block g (Bd.1 a).1).trans a,d⟩⟩
theorem Hw {e:TypeId} {B r:Nat} {w w1:World} {v:Value} {xs:List Value} (h:CP e B w v xs) (hT:Bh w.heap.size r w w1) (hr:r<B):CP e B w1 v xs:=by
 obtain ⟨hl,h⟩:=h
 refine ⟨hl,h.imp id λ⟨g,cap,cur,b,c,a,d⟩=>⟨g,cap,cur,b,c,(hT.block g (Bd.1 a).1 oO).trans a,d⟩⟩
theorem CP.drew {e:TypeId} {B:Nat} {w w1:World} {v:Value} {xs:List Value} (h:CP e B w v xs) (d:C6 w w1):CP e B w1 v xs:=by obtain ⟨m,rfl⟩:=d;exact h
theorem CP.bytes {e:TypeId} {B:Nat} {w:World} {v:Value} {l:l8_} (h:CP e B w v (AQ l)):∃ p c,v=.slice p l.length c/\Ag w p l/\(0<l.length->B<=(pA p).block):=by
  have b:(AQ l).length=l.length:=by simp [AQ]
  obtain ⟨hl,h⟩:=h
  rcases h with ⟨rfl,d⟩ | ⟨g,cap,cur,rfl,hB,hg,f,m,o,a⟩
  · obtain rfl : l = [] := by rw [b] at d; exact EM.1 d
    exact ⟨none,0,rfl,Ag.nil w,λh=>by simp at h⟩
  · rw [b] at f a ⊢
    refine ⟨_,cap,rfl,⟨λ_=>rfl,λj hj=>?_⟩,λ_=>hB⟩
    have k:(pA (some ⟨g,0,none⟩)).add j=⟨g,j,none⟩:=by
      show (⟨g,0,none⟩:Addr).add j=_
      unfold Addr.add;split
      · next h=>subst h;rfl
      · simp
    have hc:=Lib.cell_of_heap hg j
    rw [k,hc,<- E1]
    have i:(cur.toList.take (l.length * 1))[j]?=(AQ l)[j]?:=by rw [a]
    rw [List.getElem?_take,A7 oO] at i
    rw [i]
    simp [AQ,hj]
theorem A3U {ops:Array Oper} {Q:Exit->Fr->World->Prop} {w:World} {rest:List Oper} {d ty:Nat} {pos:String} {aft:Array Edge} {s x:Operand} {t e:TypeId} {B:Nat} {i:TypeInfo} {z v u:Value} {xs:List Value} {b c by':Nat} {tb:TypeId}
    (ht:P.underlying t=some (.slice e)) (hi:P.info? e=some i) (hz:i.zero=some z) (hsize:i.size=1) (hby:i.bytes=by') (hby2:by'<=16) (hzs:z.cells.size=1)
    (hs:CM f s=some v) (hown:CP e B w v xs) (hx:CM f x=some (.slice (some ⟨b,0,none⟩) 1 c)) (hb:B0 w b #[u] tb) (h1:u.oneCell'=true)
    (hn:xs.length<=1000000000) (hB:B<=w.heap.size) (hd:Nat.blt d n.n=true)
    (k:∀ v' w',CP e B w' v' (xs++[u])->Below B w w'->w.grownBy w' v.ownBlock->WL P n ops Q rest ((d,v')::f) w') :
    WL P n ops Q (⟨some d,.call ⟨.builtin .append,#[s,x],#[t,t]⟩,ty,pos,aft,none⟩::rest) f w:=by
  obtain ⟨v',w',g,l,a,-⟩:=run_append_own (P:=P) (w:=w) B t ty e i z 1 by' ht hi hz hsize hby hzs dD v xs.length xs hown ⟨b,0,none⟩ 1 c [u] rfl
    (λj y hj=>by
      have m:j=0:=by
        rcases IB j with h | h
        · exact h
        · rw [AZ (by simp;omega)] at hj;cases hj
      subst m;simp only [List.getElem?_cons_zero,BN] at hj;subst hj;rw [HE,hb.cell 0];rfl) (by simpa using h1) (by unfold maxLen;omega) (by
      have:(xs.length+1) * by'<=(xs.length+1) * 16:=Nat.mul_le_mul_left _ hby2
      omega) hB
  refine WL.run hd (w':=w') (v:=v') (λρ hρ=>?_) (k v' w' ?_ ((Gb _ _).grown a hB λk hk=>(hown.lt k hk).1) a)
  · unfold execOp
    simp only [resolve,invoke,builtin,Ca,D3,BT,List.map_toArray,EF,F4,hρ _ _ hs,hρ _ _ hx,g]
  · have o : (xs ++ [u]).length = xs.length + 1 := by simp
    unfold CP;rw [o];exact l
theorem BG.mkI {tx:TypeId} {x:Operand} {k:IntKind} {v:Value} (hu:P.underlying tx=some (.int k)) (hx:CM f x=some v):BG P (.makeInterface tx x) f (.iface tx v):=λρ hρ d ty pos aft g w=>by
 simp [execOp,hρ _ _ hx,Instr.makeInterface,Bz hu]
theorem Fd {ops:Array Oper} {Q:Exit->Fr->World->Prop} {w:World} {rest:List Oper} {d:Option Tmp} {ty:Nat} {pos:String} {aft:Array Edge} {x:Operand} {t:TypeId} {v:Value}
  (hx:CM f x=some (.iface t v)) (k:Q (.panic [{ v:=.iface t v,recovered:=false }]) f w):WL P n ops Q (⟨d,.panic x,ty,pos,aft,none⟩::rest) f w :=
 A6G (λρ hρ=>by simp [execOp,hρ _ _ hx,Instr.panic]) k
def Cf {α:Type} (E:TypeId) (res:Except Int α) (V:α->Value) (S:α->World->Prop) (S':World->Prop) (e:Ending) (w:World):Prop :=
 match res with
 | .ok a=>e=.returned (V a)/\S a w
 | .error k=>e=.panicked [{ v:=.iface E (Af k),recovered:=false }]/\S' w
theorem C1 {ops:Array Oper} {Q:Exit->Fr->World->Prop} {w:World} {rest:List Oper} {d ty:Nat} {pos:String} {aft:Array Edge} {F:FuncId} {xs:List Operand} {ats:Array TypeId} {vs:List Value} {α:Type}
  {E:TypeId} {res:Except Int α} {V:α->Value} {S:α->World->Prop} {S':World->Prop} (hb:D2 P F) (hx:R0 f xs=some vs) (hd:Nat.blt d n.n=true)
  (hc:Calls P F vs.toArray w (Cf E res V S S')) (herr:∀ k w',res=.error k->S' w'->Q (.panic [{ v:=.iface E (Af k),recovered:=false }]) f w')
  (hok:∀ a w',res=.ok a->S a w'->WL P n ops Q rest ((d,V a)::f) w'):WL P n ops Q (⟨some d,.call ⟨.value (.func F),xs.toArray,ats⟩,ty,pos,aft,none⟩::rest) f w:=by
 cases hres:res with
 | ok a=>exact Cm hb hx hd (hc.mono λe w' h=>by rw [hres] at h;exact h) λw' h=>hok a w' hres h
 | error k=>exact Fh hb hx (hc.mono λe w' h=>by rw [hres] at h;exact h) λw' h=>herr k w' hres h
theorem Cf.ok {α:Type} {E:TypeId} {res:Except Int α} {V:α->Value} {S:α->World->Prop} {S':World->Prop} {e:Ending} {w:World} (a:α) (h:res=.ok a) (he:e=.returned (V a)) (hs:S a w):Cf E res V S S' e w:=by
 unfold Cf;rw [h];exact ⟨he,hs⟩
theorem BB {α:Type} {E:TypeId} {res:Except Int α} {V:α->Value} {S:α->World->Prop} {S':World->Prop} {w:World} (k:Int) (h:res=.error k) (hs:S' w):Cf E res V S S' (.panicked [{ v:=.iface E (Af k),recovered:=false }]) w:=by
 unfold Cf;rw [h];exact ⟨rfl,hs⟩
end
end
section
theorem Cx {P:Program} {fn:Func} {R:Ending->World->Prop} {f:Fr} {w:World} (h:Ir P fn R .ret f w):Ir P fn R .normal f w:=by unfold Ir at *;exact h
theorem BI {P:Program} {fn:Func} {R:Ending->World->Prop} {f:Fr} {w:World} {t:Tmp} {ty:TypeId} {b:Addr} {v:Value} (hr:fn.results=#[.cell t ty])
  (ht:look f t=some (.pointer (some b))) (hv:(loadVar ty b).run P w=.ok v w) (h:R (.returned v) w):Ir P fn R .ret f w:=by
 unfold Ir
 exact ⟨_,λtmps hh=>by
  have a:=hh _ _ ht
  simp only [AK] at a
  simp [results,hr,a,asAddr,hv],h⟩
section
variable {P:Program} {n:Sh} {f:Fr}
def DV (p:Option Addr) (c a:Nat):Option Addr:=if c=a then p else p.map (·.add a)
theorem BG.slb {tx e:TypeId} {x y z:Operand} {p:Option Addr} {m c:Nat} {i j:Int} (hu:P.underlying tx=some (.slice e)) (hs:∀ w,(sizeOf e).run P w=.ok 1 w) (hx:CM f x=some (.slice p m c))
  (hi:CM f y=some (Af i)) (hj:CM f z=some (Af j)) (a b:Nat) (ei:i=a) (ej:j=b) (hab:a<=b) (hbc:b<=c) :
  BG P (.slice tx x (some y) (some z) none) f (.slice (DV p c a) (b-a) (c-a)):=λρ hρ d ty pos aft g w=>by
 subst ei;subst ej
 have h1:(a:Int)<=(b:Int):=by omega
 simp [execOp,Instr.sliceAt,Instr.slice,Instr.sliceBounds,run_sliceBound,hρ _ _ hx,hρ _ _ hi,hρ _ _ hj,Bz hu,hs,hbc,hab,DV]
theorem BG.slbF {tx e:TypeId} {x y:Operand} {p:Option Addr} {m c:Nat} {i:Int} (hu:P.underlying tx=some (.slice e)) (hs:∀ w,(sizeOf e).run P w=.ok 1 w) (hx:CM f x=some (.slice p m c))
  (hi:CM f y=some (Af i)) (a:Nat) (ei:i=a) (ham:a<=m) :
  BG P (.slice tx x (some y) none none) f (.slice (DV p c a) (m-a) (c-a)):=λρ hρ d ty pos aft g w=>by
 subst ei
 simp [execOp,Instr.sliceAt,Instr.slice,Instr.sliceBounds,run_sliceBound,hρ _ _ hx,hρ _ _ hi,Bz hu,hs,ham,DV]
theorem BG.slbT {tx e:TypeId} {x z:Operand} {p:Option Addr} {m c:Nat} {j:Int} (hu:P.underlying tx=some (.slice e)) (hs:∀ w,(sizeOf e).run P w=.ok 1 w) (hx:CM f x=some (.slice p m c))
  (hj:CM f z=some (Af j)) (b:Nat) (ej:j=b) (hbc:b<=c) :
  BG P (.slice tx x none (some z) none) f (.slice (DV p c 0) b c):=λρ hρ d ty pos aft g w=>by
 subst ej
 simp [execOp,Instr.sliceAt,Instr.slice,Instr.sliceBounds,run_sliceBound,hρ _ _ hx,hρ _ _ hj,Bz hu,hs,hbc,DV]
theorem Ag.part {w:World} {p:Option Addr} {l:l8_} {c a b:Nat} (h:Ag w p l) (hab:a<=b) (hb:b<=l.length) (hc:l.length<=c):Ag w (DV p c a) ((l.drop a).take (b-a)):=by
  have d:((l.drop a).take (b-a)).length=b-a:=by rw [At,Au];omega
  by_cases h0:a=b
  · refine ⟨λh=>?_,λj hj=>?_⟩ <;> rw [d] at * <;> omega
  · have hp := h.isp oO
    have e:DV p c a=some ((pA p).add a):=by unfold DV;rw [A2 oO];rw [hp];rfl
    rw [e]
    refine ⟨λ_=>rfl,λj hj=>?_⟩
    rw [d] at hj
    show w.cell? (((pA p).add a).add j)=_
    rw [K9,h.cells (a+j) oO]
    simp
theorem A0F {l:l8_} {a b:Nat} (hb:b<=l.length):((l.drop a).take (b-a)).length=b-a:=by rw [At,Au];omega
theorem IV {tx ty e:TypeId} {x:Operand} {p:Option Addr} {l:l8_} {a b c c' m:Nat} {w:World} (hu:P.underlying tx=some (.slice e)) (he:P.underlying e=some (.int .u8)) (ht:P.underlying ty=some .string)
  (hx:CM f x=some (.slice (DV p c a) m c')) (hm:m=b-a) (hb:Ag w p l) (hab:a<=b) (hbl:b<=l.length) (hc:l.length<=c):Rd P (.convert tx ty x) f w (.string (bs ((l.drop a).take (b-a)))):=by
 subst hm
 refine Fm (c:=c') hu he ht ?_ (hb.part hab hbl hc)
 rw [A0F hbl];exact hx
theorem Rd.iis {op:Op} {w:World} {k:IntKind} {s:Int} (t:Int) (h:Rd P op f w (.int k s)) (e:s=t):Rd P op f w (.int k t):=e▸h
theorem Ew {ops:Array Oper} {Q:Exit->Fr->World->Prop} {w:World} {rest:List Oper} {d ty:Nat} {pos:String} {aft:Array Edge} {s x:Operand} {t e:TypeId} {B:Nat} {z v u:Value} {xs:List Value} {b c by':Nat} {tb:TypeId}
  (ht:P.underlying t=some (.slice e)) (hi:(P.info? e).map (λi=>(i.zero,i.size,i.bytes))=some (some z,1,by')) (hby2:Nat.ble by' 16=true) (hzs:z.cells.size=1)
  (hs:CM f s=some v) (hown:CP e B w v xs) (hx:CM f x=some (.slice (some ⟨b,0,none⟩) 1 c)) (hb:B0 w b #[u] tb) (h1:u.oneCell'=true)
  (hn:xs.length<=1000000000) (hB:B<=w.heap.size) (hd:Nat.blt d n.n=true)
  (k:∀ v' w',CP e B w' v' (xs++[u])->Below B w w'->w.grownBy w' v.ownBlock->WL P n ops Q rest ((d,v')::f) w') :
  WL P n ops Q (⟨some d,.call ⟨.builtin .append,#[s,x],#[t,t]⟩,ty,pos,aft,none⟩::rest) f w:=by
 cases hh:P.info? e with
 | none=>rw [hh] at hi;cases hi
 | some i =>
  rw [hh] at hi
  simp only [Option.map_some,BN,CA] at hi
  exact A3U ht hh hi.1 hi.2.1 hi.2.2 (by simpa using hby2) hzs hs hown hx hb h1 hn hB hd k
theorem Cl (l:l8_):(AQ l).length=l.length:=by simp [AQ]
theorem Ea {e:TypeId} {B:Nat} {w:World} {v:Value} {l:l8_} {x:Int} (h:CP e B w v (AQ l++[.int .u8 x])) (c:UInt8) (hc:x=(c.toNat:Int)):CP e B w v (AQ (l++[c])):=by
 have:AQ (l++[c])=AQ l++[.int .u8 x]:=by simp [AQ,hc]
 rw [this];exact h
end
end
section
open Go.RowKit Go.WideShapes Go.ChangeShapes
section
variable {P:Program} {n:Sh} {f:Fr}
theorem Jd {ops:Array Oper} {Q:Exit->Fr->World->Prop} {w:World} {rest:List Oper} {d ty:Nat} {pos:String} {aft:Array Edge} {t e:TypeId} {sz:Nat}
  (hu:P.underlying t=some (.slice e)) (hs:∀ w,(sizeOf e).run P w=.ok sz w) (hd:Nat.blt d n.n=true)
  (k:∀ b w1,b=w.heap.size->(∀ B,B<=b->w1.ownsRow B e sz (.slice (some ⟨b,0,none⟩) 0 0) 0 [])->CK b w w1->w1.heap.size=b+1->WL P n ops Q rest ((d,.slice (some ⟨b,0,none⟩) 0 0)::f) w1) :
  WL P n ops Q (⟨some d,.buildSlice t 0 [].toArray,ty,pos,aft,none⟩::rest) f w:=by
 refine WL.run hd (w':=w.alloc (.cells #[] e)) (v:=.slice (some ⟨w.heap.size,0,none⟩) 0 0) (λρ hρ=>?_)
  (k _ _ rfl (λB hB=>⟨by simp,.inr ⟨w.heap.size,0,#[],rfl,hB,B0.alloc _ _ _,DP _,by unfold maxLen;omega,by simp,by simp⟩⟩) (CK.alloc _ _) (by simp))
 unfold execOp
 have a:Array.map (λ_=>(default:Value)) (Array.range 0)=#[]:=by simp
 simp [Instr.buildSlice,Bz hu,hs,Instr.fill,a,newRow]
theorem TH {ops:Array Oper} {Q:Exit->Fr->World->Prop} {w:World} {rest:List Oper} {d ty:Nat} {pos:String} {aft:Array Edge} {s x:Operand} {t e:TypeId} {B:Nat} {z v:Value} {xs:List Value} {p:Option Addr} {l:l8_} {c by':Nat}
    (ht:P.underlying t=some (.slice e)) (hi:(P.info? e).map (λi=>(i.zero,i.size,i.bytes))=some (some z,1,by')) (hby2:Nat.ble by' 16=true) (hzs:z.cells.size=1)
    (hs:CM f s=some v) (hown:CP e B w v xs) (hx:CM f x=some (.slice p l.length c)) (hb:Ag w p l)
    (hn:xs.length+l.length<=1000000000) (hB:B<=w.heap.size) (hd:Nat.blt d n.n=true) (hc:l=[]->c=0\/p≠none)
    (k:∀ v' w',CP e B w' v' (xs++AQ l)->Below B w w'->w.grownBy w' v.ownBlock->WL P n ops Q rest ((d,v')::f) w') :
    WL P n ops Q (⟨some d,.call ⟨.builtin .append,#[s,x],#[t,t]⟩,ty,pos,aft,none⟩::rest) f w:=by
  cases hh:P.info? e with
  | none=>rw [hh] at hi;cases hi
  | some i =>
    rw [hh] at hi;simp only [Option.map_some,BN,CA] at hi;obtain ⟨hz,b,o⟩:=hi;have g:by'<=16:=by simpa using hby2
    cases hp:p with
    | none =>
      have hl:l=[]:=by
        cases l with
        | nil=>rfl
        | cons a r=>have:=hb.isp (by simp);rw [hp] at this;cases this
      have q:c=0:=(hc hl).resolve_right (λh=>h hp);subst hp;subst hl;subst q;have m:=run_append_owned_none (P:=P) (w:=w) B t ty e i 1 ht hh v xs.length xs hown;refine WL.run hd (w':=w) (v:=v) (λρ hρ=>?_) (k v w (by simpa [AQ] using hown) (Gb _ _) ⟨rfl,rfl,rfl,DP _,λ_ _ _=>rfl⟩);unfold execOp;simp only [resolve,invoke,builtin,Ca,D3,BT,List.map_toArray,EF,F4,hρ _ _ hs,hρ _ _ hx,Ak,m]
    | some a =>
      subst hp;obtain ⟨v',w',m,C,A,-⟩:=run_append_own (P:=P) (w:=w) B t ty e i z 1 by' ht hh hz b o hzs dD v xs.length xs hown a l.length c (AQ l) (by simp [AQ])
        (λj y hj=>by
          have hj':j<l.length:=by
            rcases Bu j l.length with h | h
            · exact h
            · rw [AZ (by rw [Cl];omega)] at hj;cases hj
          have:=hb.cells j hj';rw [show pA (some a)=a from rfl] at this;rw [this];rw [<- hj];simp [AQ,hj'])
        (λu hu=>by simp only [AQ,E8] at hu;obtain ⟨y,-,rfl⟩:=hu;rfl) (by unfold maxLen;omega) (by
          have:(xs.length+l.length) * by'<=(xs.length+l.length) * 16:=Nat.mul_le_mul_left _ g
          omega) hB
      refine WL.run hd (w':=w') (v:=v') (λρ hρ=>?_) (k v' w' ?_ ((Gb _ _).grown A hB λk hk=>(hown.lt k hk).1) A)
      · unfold execOp
        simp only [resolve,invoke,builtin,Ca,D3,BT,List.map_toArray,EF,F4,hρ _ _ hs,hρ _ _ hx,m]
      · have D : (xs ++ AQ l).length = xs.length + l.length := by simp [AQ]
        unfold CP;rw [D];exact C
theorem CP.bytesC {e:TypeId} {B:Nat} {w:World} {v:Value} {l:l8_} (h:CP e B w v (AQ l)):∃ p c,v=.slice p l.length c/\Ag w p l/\(0<l.length->B<=(pA p).block)/\l.length<=c/\(l=[]->c=0\/p≠none):=by
 obtain ⟨p,c,hv,hb,hB⟩:=h.bytes
 have b:(AQ l).length=l.length:=by simp [AQ]
 obtain ⟨hl,h⟩:=h
 rcases h with ⟨rfl,f⟩ | ⟨g,cap,cur,rfl,-,-,d,-⟩
 ·
  simp only [Value.slice.injEq] at hv
  obtain ⟨rfl,a,rfl⟩:=hv
  exact ⟨none,0,by rw [<- a],hb,hB,oO,λ_=>.inl rfl⟩
 ·
  simp only [Value.slice.injEq] at hv
  obtain ⟨rfl,a,rfl⟩:=hv
  exact ⟨_,_,by rw [a],hb,hB,oO,λ_=>.inr (by simp)⟩
end
theorem Fn {w w1:World} {B:Nat} (h:B<=w.heap.size) (d:C6 w w1):B<=w1.heap.size:=by rw [d.size];exact h
theorem Ag.lit {w:World} {b:Nat} {cs:Array Value} {t:TypeId} {l:l8_} (h:B0 w b cs t) (e:cs=(AQ l).toArray):Ag w (some ⟨b,0,none⟩) l:=by
 subst e
 refine ⟨λ_=>rfl,λj hj=>?_⟩
 have a:(pA (some ⟨b,0,none⟩)).add j=⟨b,j,none⟩:=by
  show (⟨b,0,none⟩:Addr).add j=_
  unfold Addr.add;split
  · next h=>subst h;rfl
  · simp
 rw [a,h.cell j]
 simp [AQ,hj]
theorem MV {P:Program} {n:Sh} {f:Fr} {ops:Array Oper} {Q:Exit->Fr->World->Prop} {w:World} {rest:List Oper} {d ty:Nat} {pos:String} {aft:Array Edge} {x:Operand} {t e tb:TypeId} {b len cap:Nat} {cs:Array Value} (l:l8_)
  (ht:P.underlying t=some (.slice e)) (he:P.underlying e=some (.int .u8)) (hx:CM f x=some (.slice (some ⟨b,0,none⟩) len cap)) (hb:B0 w b cs tb) (hl:cs=(AQ l).toArray) (hd:Nat.blt d n.n=true)
  (k:∀ w1,Ag w1 (some ⟨b,0,none⟩) l->CK b w w1->w1.heap.size=w.heap.size->WL P n ops Q rest ((d,.slice (some ⟨b,0,none⟩) len cap)::f) w1) :
  WL P n ops Q (⟨some d,.convert t t x,ty,pos,aft,none⟩::rest) f w:=by
 have g:w.shape? b=some (tb,cs.size):=by unfold World.shape?;rw [show w.heap[b]?=_ from hb]
 have q:=hb.lt
 have a:(w.freeze ⟨b,cs.size,none⟩ 1).heap=w.heap.modify b fun
   | .cells c elem (lo,hi)=>.cells c elem (if lo == hi then (cs.size,cs.size+1) else (min lo cs.size,max hi (cs.size+1)))
   | o=>o:=rfl
 have i:(w.freeze ⟨b,cs.size,none⟩ 1).heap[b]?=some (.cells cs tb (cs.size,cs.size+1)):=by
  rw [a,Array.getElem?_modify,A7 rfl,show w.heap[b]?=_ from hb];rfl
 have hu:CK b w (w.freeze ⟨b,cs.size,none⟩ 1):=⟨rfl,rfl,rfl,by rw [a];simp,λk hk=>by rw [a,Array.getElem?_modify,A2 (Ne.symm hk)]⟩
 refine WL.run hd (w':=w.freeze ⟨b,cs.size,none⟩ 1) (v:=.slice (some ⟨b,0,none⟩) len cap) (λρ hρ=>?_) (k _ ?_ hu (by rw [a];simp))
 · unfold execOp;simp [hρ _ _ hx,convert,Bz ht,Bz he,markStringish,g]
 ·
  subst hl;refine ⟨λ_=>rfl,λj hj=>?_⟩;have m:(pA (some ⟨b,0,none⟩)).add j=⟨b,j,none⟩:=by
   show (⟨b,0,none⟩:Addr).add j=_
   unfold Addr.add;split
   · next h=>subst h;rfl
   · simp
  rw [m,Lib.cell_of_heap i j];simp [AQ,hj]
theorem Q7 {H:Type} {enc:TypeId × Value->H} {P:Program} {w:World} {base:Nat} {held:Bool} {r:Reach} {b0:Nat} {t e:TypeId} {v:Value} {d:DataW H} {ps:List MemPlace} (ht:P.underlying t=some (.slice e)) (he:P.underlying e=some (.int .u8)) (hc:P.cellsOf e=1)
  (hval:Value.okWide P w r b0 t v) (hd:DataW.Trod enc P w base (λ_=>true) held t v d ps) :
  ∃ p l c,v=.slice p (l:l8_).length c/\Ag w p l/\l.length<=c/\(l=[]->c=0\/p≠none)/\c<=maxLen:=by
 obtain ⟨q,len,cap,rfl⟩:=okWide_slice ht hval
 obtain ⟨fuel,hf⟩:=hd
 rcases open_ints ht he hc hf with ⟨b,-⟩ | ⟨a,k,m,zs,b,_,hl,hm,hz,hx,g,i⟩
 ·
  simp [Value.cells] at b
  obtain ⟨rfl,rfl,rfl⟩:=b
  exact ⟨none,[],0,rfl,Ag.nil w,DP _,λ_=>.inl rfl,by unfold maxLen;omega⟩
 ·
  simp [Value.cells] at b
  obtain ⟨rfl,rfl,rfl⟩:=b
  simp only [if_true] at hz
  have f:((zs.take len).map λz=>z.toNat.toUInt8).length=len:=by simp;omega
  refine ⟨some a,(zs.take len).map λz=>z.toNat.toUInt8,cap,by rw [f],⟨λ_=>rfl,λj hj=>?_⟩,oO,λ_=>.inr (by simp),hm⟩
  rw [f] at hj
  have h:j<zs.length:=by omega
  rw [show pA (some a)=a from rfl,g j h]
  have hw:=i (zs[j]) (AA _)
  have o:0<=zs[j]/\zs[j]<=255:=by
   simp only [Lit.wf,AE,AF] at hw
   exact hw
  simp only [G5,Jh,List.getD,Aj h,Option.getD_some,BN,Value.int.injEq,true_and]
  have e:(zs[j].toNat.toUInt8).toNat=zs[j].toNat % 256:=by simp
  rw [e];omega
theorem RR {H:Type} {enc:TypeId × Value->H} {P:Program} {t:TypeId} (hl:laidOutB P=true) (hr:P.readableRec t=true) (hrow:decide (t<P.types.size)=true) {W W':World} {v:Value} {d:DataW H} {ps:List MemPlace}
  (h:DataW.Trod enc P W 0 (λ_=>true) true t v d ps) (hb:AL W W') (hlt:∀ x∈ps,x.block<W.heap.size) :
  DataW.Trod enc P W' 0 (λb=>decide (b<W.heap.size)) true t v d ps:=Below.trod hl hr (dT hrow) h hb hlt
end
section
open Go.RowKit Go.WideShapes Go.ChangeShapes
section
variable {P:Program} {n:Sh} {f:Fr}
theorem TG {ops:Array Oper} {Q:Exit->Fr->World->Prop} {w:World} {rest:List Oper} {d ty:Nat} {pos:String} {aft:Array Edge} {x:Operand} {src dst e:TypeId} {l:l8_}
  (hs:P.underlying src=some .string) (hd':P.underlying dst=some (.slice e)) (he:P.underlying e=some (.int .u8)) (hx:CM f x=some (.string (bs l))) (hd:Nat.blt d n.n=true)
  (k:∀ b w1 c,b=w.heap.size->Ag w1 (some ⟨b,0,none⟩) l->l.length<=c->CK b w w1->w1.heap.size=b+1->WL P n ops Q rest ((d,.slice (some ⟨b,0,none⟩) l.length c)::f) w1) :
  WL P n ops Q (⟨some d,.convert src dst x,ty,pos,aft,none⟩::rest) f w:=by
 have g:=Lib.run_convert_string_bytes (P:=P) w src dst e (bs l) hs hd' he
 have a:(bs l).size=l.length:=by simp [bs,ByteArray.size]
 have hu:CK w.heap.size w (Lib.bytesWorld w e (bs l)):=⟨rfl,rfl,rfl,by rw [Lib.bytesWorld_size];omega,λj hj=>by
  rcases Bu j w.heap.size with h | h
  · exact Lib.bytesWorld_at_old w e (bs l) j h
  · rw [Dq (by rw [Lib.bytesWorld_size];omega),Dq h]⟩
 refine WL.run hd (w':=Lib.bytesWorld w e (bs l)) (v:=.slice (some ⟨w.heap.size,0,none⟩) l.length (grownCap w l.length 0 e)) (λρ hρ=>?_)
  (k _ _ _ rfl ⟨λ_=>rfl,λj hj=>?_⟩ (grownCap_ge w l.length 0 e) hu (Lib.bytesWorld_size w e (bs l)))
 · unfold execOp;simp only [hρ _ _ hx,Ca,g,BT,D3,a]
 ·
  have i:(pA (some ⟨w.heap.size,0,none⟩)).add j=⟨w.heap.size,j,none⟩:=by
   show (⟨w.heap.size,0,none⟩:Addr).add j=_
   unfold Addr.add;split
   · next h=>rw [h]
   · simp
  rw [i,Lib.bytesWorld_cell w e (bs l) j (by rw [a];exact hj)];simp [bs,List.getD,hj]
theorem CP.lit {w:World} {b m:Nat} {cs:Array Value} {e:TypeId} (h:B0 w b cs e) (hm:cs.size=m) (hl:m<=maxLen):CP e b w (.slice (some ⟨b,0,none⟩) m m) cs.toList:=by
 subst hm
 refine ⟨by simp,.inr ⟨b,cs.size,cs,?_,DP _,h,by simp,hl,by simp,by rw [An (by simp)]⟩⟩
 simp
end
structure B3 {α:Type} (V:α->Value) (w:World) (p:Option Addr) (l:List α):Prop where
 isp:0<l.length->p=some (pA p)
 cells:∀ j (h:j<l.length),w.cell? ((pA p).add j)=some (V l[j])
section
variable {α:Type} {V:α->Value}
theorem B3.lt {w:World} {p:Option Addr} {l:List α} (h:B3 V w p l) (h0:0<l.length):(pA p).block<w.heap.size:=by
 have:=h.cells 0 h0
 rcases Bu (pA p).block w.heap.size with h' | h'
 · exact h'
 ·
  exfalso
  have hb:((pA p).add 0).block=(pA p).block:=Ee _ _
  unfold World.cell? at this
  rw [hb,Dq h'] at this
  cases this
theorem B3.below {w w1:World} {B:Nat} {p:Option Addr} {l:List α} (h:B3 V w p l) (hb:Below B w w1) (hp:0<l.length->(pA p).block<B):B3 V w1 p l :=
 ⟨h.isp,λj hj=>by rw [World.cell?_of_block (w:=w) (hb.block _ (by rw [Ee];exact hp oO))];exact h.cells j hj⟩
theorem B3.upd {w w1:World} {b:Nat} {p:Option Addr} {l:List α} (h:B3 V w p l) (hu:CK b w w1) (hp:0<l.length->(pA p).block≠b):B3 V w1 p l :=
 ⟨h.isp,λj hj=>by rw [World.cell?_of_block (w:=w) (hu.other _ (by rw [Ee];exact hp oO))];exact h.cells j hj⟩
theorem B3.drewN {w:World} {p:Option Addr} {l:List α} (h:B3 V w p l) (m:Nat):B3 V (w.drewN m) p l:=⟨h.isp,h.cells⟩
theorem B3.drew {w w1:World} {p:Option Addr} {l:List α} (h:B3 V w p l) (d:C6 w w1):B3 V w1 p l:=by obtain ⟨m,rfl⟩:=d;exact h.drewN m
theorem B3.nil (w:World):B3 V w none []:=⟨λh=>by simp at h,λj h=>by simp at h⟩
theorem B3.lit {w:World} {b:Nat} {cs:Array Value} {t:TypeId} {l:List α} (h:B0 w b cs t) (e:cs=(l.map V).toArray):B3 V w (some ⟨b,0,none⟩) l:=by
 subst e
 refine ⟨λ_=>rfl,λj hj=>?_⟩
 have a:(pA (some ⟨b,0,none⟩)).add j=⟨b,j,none⟩:=by
  show (⟨b,0,none⟩:Addr).add j=_
  unfold Addr.add;split
  · next h=>subst h;rfl
  · simp
 rw [a,h.cell j]
 simp [hj]
theorem CP.row {e:TypeId} {B:Nat} {w:World} {v:Value} {l:List α} (h:CP e B w v (l.map V)):∃ p c,v=.slice p l.length c/\B3 V w p l/\(0<l.length->B<=(pA p).block)/\l.length<=c/\(l=[]->c=0\/p≠none):=by
  have b:(l.map V).length=l.length:=by simp
  obtain ⟨hl,h⟩:=h
  rcases h with ⟨rfl,f⟩ | ⟨g,cap,cur,rfl,hB,hg,d,m,o,a⟩
  · obtain rfl : l = [] := by rw [b] at f; exact EM.1 f
    exact ⟨none,0,rfl,B3.nil w,λh=>by simp at h,DP _,λ_=>.inl rfl⟩
  · rw [b] at d a ⊢
    refine ⟨_,cap,rfl,⟨λ_=>rfl,λj hj=>?_⟩,λ_=>hB,d,λ_=>.inr (by simp)⟩
    have k:(pA (some ⟨g,0,none⟩)).add j=⟨g,j,none⟩:=by
      show (⟨g,0,none⟩:Addr).add j=_
      unfold Addr.add;split
      · next h=>subst h;rfl
      · simp
    have hc:=Lib.cell_of_heap hg j
    rw [k,hc,<- E1]
    have i:(cur.toList.take (l.length * 1))[j]?=(l.map V)[j]?:=by rw [a]
    rw [List.getElem?_take,A7 oO] at i
    rw [i]
    simp [hj]
end
abbrev G7 (s:l8_):Value:=.string (bs s)
end
section
open Go.RowKit Go.WideShapes Go.ChangeShapes
theorem HG (b o j:Nat):(⟨b,o,none⟩:Addr).add j=⟨b,o+j,none⟩:=by
 unfold Addr.add;split <;> simp_all
structure FW (α:Type) where
 m:Nat
 V:α->List Value
 pos:0<m
 len:∀ x,(V x).length=m
 one:∀ x,∀ v∈V x,v.oneCell'=true
variable {α:Type}
def FW.flat (L:FW α) (l:List α):List Value:=l.flatMap L.V
theorem FW.flat_len (L:FW α):∀ l:List α,(L.flat l).length=l.length * L.m
 | []=>by simp [FW.flat]
 | x::l=>by
  have:=L.flat_len l
  unfold FW.flat at this ⊢
  simp only [DD,A8,L.len,this,Aa,Nat.succ_mul];omega
theorem FW.flat_append (L:FW α) (l k:List α):L.flat (l++k)=L.flat l++L.flat k:=by simp [FW.flat]
theorem FW.flat_one (L:FW α) (l:List α):∀ v∈L.flat l,v.oneCell'=true:=by
 intro v hv
 simp only [FW.flat,List.mem_flatMap] at hv
 obtain ⟨x,-,h⟩:=hv
 exact L.one x v h
theorem FW.flat_at (L:FW α):∀ (l:List α) (j:Nat) (h:j<l.length) (i:Nat),i<L.m->(L.flat l)[j * L.m+i]?=(L.V l[j])[i]?
 | x::l,0,h,i,hi=>by
  simp only [FW.flat,DD,Nat.zero_mul,Do,F5]
  rw [Ex (by rw [L.len];exact hi)]
 | x::l,j+1,h,i,hi=>by
  have ih:=L.flat_at l j (by simpa using h) i hi
  simp only [FW.flat,DD,Em] at ih ⊢
  rw [H5 (by rw [L.len,Nat.succ_mul];omega),L.len,<- ih]
  congr 1
  rw [Nat.succ_mul];omega
theorem FW.flat_take (L:FW α) (l:List α) (k:Nat):(L.flat l).take (k * L.m)=L.flat (l.take k):=by
 induction l generalizing k with
 | nil=>simp [FW.flat]
 | cons x l ih =>
  cases k with
  | zero=>simp [FW.flat]
  | succ k =>
   have:=ih k
   simp only [FW.flat,DD,List.take_succ_cons] at this ⊢
   rw [ZO,L.len,An (by rw [L.len,Nat.succ_mul];omega),<- this]
   congr 2
   rw [Nat.succ_mul];omega
theorem FW.flat_drop (L:FW α) (l:List α) (k:Nat):(L.flat l).drop (k * L.m)=L.flat (l.drop k):=by
 induction l generalizing k with
 | nil=>simp [FW.flat]
 | cons x l ih =>
  cases k with
  | zero=>simp [FW.flat]
  | succ k =>
   have:=ih k
   simp only [FW.flat,DD,List.drop_succ_cons] at this ⊢
   rw [List.drop_append,L.len,List.drop_of_length_le (by rw [L.len,Nat.succ_mul];omega),C4,<- this]
   congr 1
   rw [Nat.succ_mul];omega
structure AG (L:FW α) (w:World) (p:Option Addr) (l:List α):Prop where
 isp:0<l.length->p=some (pA p)
 cells:∀ j (h:j<l.length) i,i<L.m->w.cell? ((pA p).add (j * L.m+i))=(L.V l[j])[i]?
section
variable {L:FW α}
theorem AG.flat {w:World} {p:Option Addr} {l:List α} (h:AG L w p l):∀ k v,(L.flat l)[k]?=some v->w.cell? ((pA p).add k)=some v:=by
 intro k v hk
 have a:k<(L.flat l).length:=by
  rcases Bu k (L.flat l).length with h | h
  · exact h
  · rw [AZ h] at hk;cases hk
 rw [L.flat_len] at a
 have hj:k / L.m<l.length:=(Nat.div_lt_iff_lt_mul L.pos).2 a
 have hi:=Nat.mod_lt k L.pos
 have e:k / L.m * L.m+k % L.m=k:=Nat.div_add_mod' k L.m
 have b:=L.flat_at l (k / L.m) hj (k % L.m) hi
 have c:=h.cells (k / L.m) hj (k % L.m) hi
 rw [e] at b c
 rw [c,<- b,hk]
theorem Ip {w:World} {p:Option Addr} {l:List α} (hp:0<l.length->p=some (pA p)) (h:∀ k v,(L.flat l)[k]?=some v->w.cell? ((pA p).add k)=some v):AG L w p l :=
 ⟨hp,λj hj i hi=>by
  have h1:=L.flat_at l j hj i hi
  have h2:i<(L.V l[j]).length:=by rw [L.len];exact hi
  rw [Aj h2] at h1 ⊢
  exact h _ _ h1⟩
theorem AG.lt {w:World} {p:Option Addr} {l:List α} (h:AG L w p l) (h0:0<l.length):(pA p).block<w.heap.size:=by
 have hc:=h.cells 0 h0 0 L.pos
 rw [Aj (by rw [L.len];exact L.pos)] at hc
 rcases Bu (pA p).block w.heap.size with h' | h'
 · exact h'
 ·
  exfalso
  have hb:((pA p).add (0 * L.m+0)).block=(pA p).block:=Ee _ _
  unfold World.cell? at hc
  rw [hb,Dq h'] at hc
  cases hc
theorem AG.same {w w1:World} {p:Option Addr} {l:List α} (h:AG L w p l) (hb:0<l.length->w1.heap[(pA p).block]?=w.heap[(pA p).block]?):AG L w1 p l :=
 ⟨h.isp,λj hj i hi=>by rw [World.cell?_of_block (w:=w) (by rw [Ee];exact hb oO)];exact h.cells j hj i hi⟩
theorem AG.below {w w1:World} {B:Nat} {p:Option Addr} {l:List α} (h:AG L w p l) (hb:Below B w w1) (hp:0<l.length->(pA p).block<B):AG L w1 p l:=h.same λh0=>hb.block _ (hp h0)
abbrev DW:=@AG.below
theorem AG.upd {w w1:World} {b:Nat} {p:Option Addr} {l:List α} (h:AG L w p l) (hu:CK b w w1) (hp:0<l.length->(pA p).block≠b):AG L w1 p l:=h.same λh0=>hu.other _ (hp h0)
theorem AG.drewN {w:World} {p:Option Addr} {l:List α} (h:AG L w p l) (m:Nat):AG L (w.drewN m) p l:=⟨h.isp,h.cells⟩
theorem AG.drew {w w1:World} {p:Option Addr} {l:List α} (h:AG L w p l) (d:C6 w w1):AG L w1 p l:=by obtain ⟨m,rfl⟩:=d;exact h.drewN m
theorem AG.nil (w:World):AG L w none []:=⟨λh=>by simp at h,λj h=>by simp at h⟩
def Fk (m:Nat) (p:Option Addr) (c a:Nat):Option Addr:=if c=a then p else p.map (·.add (a * m))
theorem AG.part {w:World} {p:Option Addr} {l:List α} {c a b:Nat} (h:AG L w p l) (hab:a<=b) (hb:b<=l.length) (hc:l.length<=c):AG L w (Fk L.m p c a) ((l.drop a).take (b-a)):=by
  have d:((l.drop a).take (b-a)).length=b-a:=by rw [At,Au];omega
  by_cases h0:a=b
  · refine ⟨λh=>?_,λj hj=>?_⟩ <;> rw [d] at * <;> omega
  · have hp := h.isp oO
    have e:Fk L.m p c a=some ((pA p).add (a * L.m)):=by unfold Fk;rw [A2 oO];rw [hp];rfl
    rw [e]
    refine ⟨λ_=>rfl,λj hj i hi=>?_⟩
    rw [d] at hj
    show w.cell? (((pA p).add (a * L.m)).add (j * L.m+i))=_
    rw [K9,show a * L.m+(j * L.m+i)=(a+j) * L.m+i by rw [Nat.add_mul];omega,h.cells (a+j) oO i hi]
    simp
def AD (L:FW α) (e:TypeId) (B:Nat) (w:World) (v:Value) (l:List α):Prop :=
 (v=.slice none 0 0/\l=[])\/∃ g cap cur,v=.slice (some ⟨g,0,none⟩) l.length cap/\B<=g/\w.heap[g]?=some (.cells cur e (0,0))/\l.length<=cap/\cap<=maxLen/\cap * L.m<=cur.size/\cur.toList.take (l.length * L.m)=L.flat l
theorem AD.nil (L:FW α) (e:TypeId) (B:Nat) (w:World):AD L e B w (.slice none 0 0) []:=.inl ⟨rfl,rfl⟩
theorem HH {e:TypeId} {B:Nat} {w:World} {v:Value} {l:List α} (h:w.ownsRow B e L.m v l.length (L.flat l)):AD L e B w v l:=by
 obtain ⟨hl,h⟩:=h
 rcases h with ⟨rfl,a⟩ | ⟨g,cap,cur,b,c,d,f,i,k,j⟩
 · exact .inl ⟨rfl,EM.1 a⟩
 · exact .inr ⟨g,cap,cur,b,c,d,f,i,oO,j⟩
theorem AD.row {e:TypeId} {B:Nat} {w:World} {v:Value} {l:List α} (h:AD L e B w v l):∃ p c,v=.slice p l.length c/\AG L w p l/\(∀ a,p=some a->B<=a.block)/\l.length<=c/\(l=[]->c=0\/p≠none)/\v.ownBlock=p.map (·.block)/\c<=maxLen/\(p=none\/∃ g,p=some ⟨g,0,none⟩):=by
  rcases h with ⟨rfl,rfl⟩ | ⟨g,cap,cur,rfl,hB,hg,f,i,o,b⟩
  · exact ⟨none,0,rfl,AG.nil w,λa h=>(by cases h),DP _,λ_=>.inl rfl,rfl,(by unfold maxLen;omega),.inl rfl⟩
  · refine ⟨_, cap, rfl, Ip (fun _ => rfl) fun k v hk => ?_, fun a h => (by cases h; exact hB), f, fun _ => .inr (by simp), rfl, i, .inr ⟨g, rfl⟩⟩
    show w.cell? ((⟨g,0,none⟩:Addr).add k)=_
    rw [HG,Do,Lib.cell_of_heap hg k,<- E1]
    have j:(cur.toList.take (l.length * L.m))[k]?=(L.flat l)[k]?:=by rw [b]
    have d:k<(L.flat l).length:=by
      rcases Bu k (L.flat l).length with h | h
      · exact h
      · rw [AZ h] at hk;cases hk
    rw [L.flat_len] at d
    rw [List.getElem?_take,A7 d] at j
    rw [j,hk]
theorem AD.same {e:TypeId} {B:Nat} {w w1:World} {v:Value} {l:List α} (h:AD L e B w v l) (hb:∀ g,v.ownBlock=some g->w1.heap[g]?=w.heap[g]?):AD L e B w1 v l:=by
 refine h.imp id λ⟨g,cap,cur,a,b,c,d⟩=>⟨g,cap,cur,a,b,?_,d⟩
 rw [hb g (by rw [a];rfl)];exact c
theorem AD.lt {e:TypeId} {B:Nat} {w:World} {v:Value} {l:List α} (h:AD L e B w v l):∀ g,v.ownBlock=some g->B<=g/\g<w.heap.size:=by
 intro g hg
 rcases h with ⟨rfl,rfl⟩ | ⟨g',cap,cur,rfl,hB,a,b⟩
 · cases hg
 ·
  cases hg
  exact ⟨hB,(Bd.1 a).1⟩
theorem AD.base {e:TypeId} {B C:Nat} {w:World} {v:Value} {l:List α} (h:AD L e B w v l) (hC:∀ g,v.ownBlock=some g->C<=g):AD L e C w v l :=
 h.imp id λ⟨g,cap,cur,h1,h2,h3⟩=>⟨g,cap,cur,h1,hC g (by rw [h1];rfl),h3⟩
theorem AD.drew {e:TypeId} {B:Nat} {w w1:World} {v:Value} {l:List α} (h:AD L e B w v l) (d:C6 w w1):AD L e B w1 v l:=by obtain ⟨m,rfl⟩:=d;exact h
theorem AD.below {e:TypeId} {B:Nat} {w w1:World} {v:Value} {l:List α} (h:AD L e B w v l) (hb:AL w w1):AD L e B w1 v l:=h.same λg hg=>hb.block g (h.lt g hg).2
theorem A2f {e:TypeId} {B b:Nat} {w w1:World} {v:Value} {l:List α} (h:AD L e B w v l) (eb:b=w.heap.size) (hu:CK b w w1):AD L e B w1 v l:=h.same λg hg=>hu.other g (by have:=(h.lt g hg).2;omega)
abbrev Fs:=@A2f
theorem AD.upd {e:TypeId} {B r:Nat} {w w1:World} {v:Value} {l:List α} (h:AD L e B w v l) (hu:CK r w w1) (hr:∀ g,v.ownBlock=some g->g≠r):AD L e B w1 v l:=h.same λg hg=>hu.other g (hr g hg)
abbrev GI:=@AD.upd
theorem Bx {e:TypeId} {B r:Nat} {w w1:World} {v:Value} {l:List α} (h:AD L e B w v l) (hu:CK r w w1) (hr:r<B):AD L e B w1 v l:=h.same λg hg=>hu.other g (by have:=(h.lt g hg).1;omega)
theorem AD.one {e:TypeId} {B:Nat} {w:World} {v:Value} {l:List α} (h:AD L e B w v l):v.oneCell'=true:=by
 rcases h with ⟨rfl,-⟩ | ⟨g,cap,cur,rfl,-⟩ <;> rfl
end
structure A7S (S:List Nat) (w w1:World):Prop where
 os:w1.os=w.os
 tape:w1.tape=w.tape
 output:w1.output=w.output
 size:w.heap.size<=w1.heap.size
 block:∀ k,k<w.heap.size->k ∉ S->w1.heap[k]?=w.heap[k]?
structure AR (B:Nat) (S:List Nat) (w w1:World):Prop where
 os:w1.os=w.os
 tape:w1.tape=w.tape
 output:w1.output=w.output
 size:w.heap.size<=w1.heap.size
 block:∀ k,k<B->k ∉ S->w1.heap[k]?=w.heap[k]?
theorem AR.trans {B:Nat} {S:List Nat} {a b c:World} (h:AR B S a b) (k:AR B S b c):AR B S a c :=
 ⟨k.os.trans h.os,k.tape.trans h.tape,k.output.trans h.output,C9 h.size k.size,λi hi hr=>(k.block i hi hr).trans (h.block i hi hr)⟩
abbrev Dl:=@AR.trans
theorem AR.mono {B B':Nat} {S:List Nat} {a b:World} (h:AR B' S a b) (hB:B<=B'):AR B S a b:=⟨h.os,h.tape,h.output,h.size,λi hi hS=>h.block i oO hS⟩
theorem B0.keepB {B c:Nat} {S:List Nat} {w w1:World} {cs:Array Value} {t:TypeId} (h:B0 w c cs t) (hT:AR B S w w1) (hc:c<B) (hS:c ∉ S):B0 w1 c cs t:=(hT.block c hc hS).trans h
theorem AG.keepB {L:FW α} {B:Nat} {S:List Nat} {w w1:World} {p:Option Addr} {l:List α} (h:AG L w p l) (hT:AR B S w w1) (hp:0<l.length->(pA p).block<B/\(pA p).block ∉ S):AG L w1 p l:=h.same λh0=>hT.block _ (hp h0).1 (hp h0).2
abbrev NP:=@AG.keepB
theorem AD.keepB {L:FW α} {e:TypeId} {B C:Nat} {S:List Nat} {w w1:World} {v:Value} {l:List α} (h:AD L e C w v l) (hT:AR B S w w1) (hp:∀ g,v.ownBlock=some g->g<B/\g ∉ S):AD L e C w1 v l:=h.same λg hg=>hT.block g (hp g hg).1 (hp g hg).2
theorem Lg {B B':Nat} {S:List Nat} {a b:World} (h:Below B' a b) (hB:B<=B'):AR B S a b:=⟨h.os,h.tape,h.output,h.size,λi hi _=>h.block i oO⟩
theorem kB {S:List Nat} {a b d:World} (h:AR a.heap.size S a b) (hb:AL b d):AR a.heap.size S a d:=AR.trans h (Lg hb h.size)
abbrev kb_:=@Lg
theorem RL {B:Nat} {S:List Nat} {a b:World} (h:C6 a b):AR B S a b:=kb_ (h.below (Gb B _)) (DP _)
abbrev OS:=@RL
theorem NC {B c:Nat} {S:List Nat} {a b:World} (h:CK c a b) (hc:B<=c):AR B S a b:=⟨h.os,h.tape,h.output,h.size,λi hi _=>h.other i oO⟩
abbrev GT:=@NC
theorem ND {B c:Nat} {S:List Nat} {a b:World} (h:CK c a b) (hc:c∈S):AR B S a b:=⟨h.os,h.tape,h.output,h.size,λi _ hS=>h.other i (λe=>hS (e▸hc))⟩
theorem kU {N c:Nat} {S:List Nat} {a b d:World} (h:AR N S a b) (u:CK c b d) (k:N<=c\/c∈S:=by first | exact .inl (by omega) | exact .inr (by simp)):AR N S a d:=h.trans (k.elim (NC u) (ND u))
abbrev QY:=@ND
theorem DZ {B:Nat} {S:List Nat} {a b:World} {row:Option Nat} (h:a.grownBy b row) (hr:∀ g,row=some g->g∈S\/B<=g) (hB:B<=a.heap.size):AR B S a b :=
 ⟨h.os,h.tape,h.output,h.size,λi hi hS=>h.block i oO λe=>by rcases hr i e.symm with h | h <;> first | exact hS h | omega⟩
theorem AR.below {B C:Nat} {S:List Nat} {w w1:World} (h:AR B S w w1) (hB:C<=B) (hS:∀ k∈S,C<=k):Below C w w1 :=
 ⟨h.os,h.tape,h.output,h.size,λk hk=>h.block k oO λhm=>by have:=hS k hm;omega⟩
theorem AR.refl (B:Nat) (S:List Nat) (w:World):AR B S w w:=⟨rfl,rfl,rfl,DP _,λ_ _ _=>rfl⟩
section
variable {P:Program} {n:Sh} {f:Fr} {L:FW α}
theorem A26 {ops:Array Oper} {Q:Exit->Fr->World->Prop} {w:World} {rest:List Oper} {d ty:Nat} {pos:String} {aft:Array Edge} {s x:Operand} {t e:TypeId} {B:Nat} {z v:Value} {xs l:List α} {p:Option Addr} {c by':Nat}
  (ht:P.underlying t=some (.slice e)) (hi:(P.info? e).map (λi=>(i.zero,i.size,i.bytes))=some (some z,L.m,by')) (hby2:Nat.ble by' 1000=true) (hzs:z.cells.size=L.m)
  (hs:CM f s=some v) (hown:AD L e B w v xs) (hx:CM f x=some (.slice p l.length c)) (hb:AG L w p l)
  (hn:xs.length+l.length<=4611686018427387904) (hbt:(xs.length+l.length) * by'<=140737488355328) (hB:B<=w.heap.size) (hd:Nat.blt d n.n=true) (hc:l=[]->c=0\/p≠none)
  (k:∀ v' w',AD L e B w' v' (xs++l)->Below B w w'->w.grownBy w' v.ownBlock->(∀ g,v'.ownBlock=some g->v.ownBlock=some g\/w.heap.size<=g)->WL P n ops Q rest ((d,v')::f) w') :
  WL P n ops Q (⟨some d,.call ⟨.builtin .append,#[s,x],#[t,t]⟩,ty,pos,aft,none⟩::rest) f w:=by
 cases hh:P.info? e with
 | none=>rw [hh] at hi;cases hi
 | some i =>
  rw [hh] at hi;simp only [Option.map_some,BN,CA] at hi;obtain ⟨hz,b,E⟩:=hi;have a1:by'<=1000:=by simpa using hby2
  have A:=L.flat_len xs;have o:=L.flat_len l;have M:(xs++l).length=xs.length+l.length:=by simp
  have fin:∀ (w':World) (g cap:Nat) (cur:Array Value),B<=g->w'.heap[g]?=some (.cells cur e (0,0))->xs.length+l.length<=cap->cap<=maxLen->cap * L.m<=cur.size->cur.toList.take ((xs.length+l.length) * L.m)=L.flat xs++L.flat l ->
    AD L e B w' (.slice (some ⟨g,0,none⟩) (xs.length+l.length) cap) (xs++l):=λw' g cap cur h1 C F D N h6 =>
   .inr ⟨g,cap,cur,by rw [M],h1,C,by rw [M];exact F,D,N,by rw [M,h6,L.flat_append]⟩
  have run:∀ (v':Value) (w':World),(Builtin.append_ #[t,t] ty #[v,.slice p l.length c]).run P w=.ok v' w'->AD L e B w' v' (xs++l)->w.grownBy w' v.ownBlock->(∀ g,v'.ownBlock=some g->v.ownBlock=some g\/w.heap.size<=g) ->
    WL P n ops Q (⟨some d,.call ⟨.builtin .append,#[s,x],#[t,t]⟩,ty,pos,aft,none⟩::rest) f w:=λv' w' C F D N=>by
   refine WL.run hd (w':=w') (v:=v') (λρ hρ=>?_) (k v' w' F ((Gb _ _).grown D hB λk hk=>(hown.lt k hk).1) D N);unfold execOp;simp only [resolve,invoke,builtin,Ca,D3,BT,List.map_toArray,EF,F4,hρ _ _ hs,hρ _ _ hx,C]
  cases hp:p with
  | none =>
   have hl:l=[]:=by
    cases l with
    | nil=>rfl
    | cons a r=>have:=hb.isp (by simp);rw [hp] at this;cases this
   have T:c=0:=(hc hl).resolve_right (λh=>h hp);subst hp;subst hl;subst T;refine run v w ?_ (by rw [FB];exact hown) ⟨rfl,rfl,rfl,DP _,λ_ _ _=>rfl⟩ λg hg=>.inl hg
   rcases hown with ⟨rfl,rfl⟩ | ⟨g,cap,cur,rfl,-,-,J,-⟩
   · simp [Builtin.append_,Bz ht,sizeOf,typeInfo,hh,Builtin.lenOf,Builtin.firstCells]
   · simp [Builtin.append_,Bz ht,sizeOf,typeInfo,hh,Builtin.lenOf,Builtin.firstCells,J,storeCells]
  | some a =>
   subst hp;have q:(xs.length+l.length) * i.bytes<=140737488355328:=by rw [E];exact hbt
   rcases hown with ⟨rfl,rfl⟩ | ⟨g,cap,cur,rfl,U,hg,J,V,X,K⟩
   ·
    obtain ⟨v',w',C,F,D,-⟩:=run_append_own (P:=P) (w:=w) w.heap.size t ty e i z L.m by' ht hh hz b E hzs L.pos (.slice none 0 0) 0 [] (World.ownsRow_nil w w.heap.size e L.m) a l.length c (L.flat l) o
     (λj y hj=>hb.flat j y hj) (L.flat_one l) (by unfold maxLen;omega) (by simp only [Ak] at q;rw [E] at q;exact q) (DP _)
    have G:AD L e w.heap.size w' v' ([]++l):=HH (by rw [C4];simpa using F);exact run v' w' C (G.base λg hg=>C9 hB (G.lt g hg).1) D λg hg=>.inr (G.lt g hg).1
   ·
    by_cases hroom:xs.length+l.length<=cap
    ·
     have O:xs.length * i.size+(L.flat l).length<=cur.size:=by
      rw [b,o,<- Nat.add_mul];exact C9 (D4 _ hroom) X
     have C:=run_append_room (P:=P) w t ty e i ht hh g xs.length cap cur hg a l.length c (L.flat l) (by rw [b];exact o) (λj y hj=>hb.flat j y hj) (L.flat_one l) hroom O;refine run _ _ C (fin _ g cap _ U (setRow_heap w g cur _ e _ hg) hroom V ?_ ?_) ⟨rfl,rfl,rfl,by simp,λk _ hk=>setRow_other w g k _ (λe=>hk (by simp [Value.ownBlock,e]))⟩ λg hg=>.inl hg
     ·
      simp only [List.size_toArray,A8,At,Au,Array.length_toList]
      omega
     ·
      show (cur.toList.take (xs.length * i.size)++L.flat l++_).take _=_
      rw [b,K,List.take_append_of_le_length (by rw [A8,A,o,Nat.add_mul];omega),An (by rw [A8,A,o,Nat.add_mul];omega)]
    ·
     have H:∀ j u,(L.flat xs)[j]?=some u->w.cell? ((⟨g,0,none⟩:Addr).add j)=some u:=λj u hj=>by
      have Y:j<(L.flat xs).length:=by
       rcases Bu j (L.flat xs).length with h | h
       · exact h
       · rw [AZ h] at hj;cases hj
      rw [HG,Do,Lib.cell_of_heap hg j,<- E1];have C:(cur.toList.take (xs.length * L.m))[j]?=(L.flat xs)[j]?:=by rw [K]
      rw [List.getElem?_take,A7 (by rw [<- A];exact Y)] at C;rw [C,hj]
     have Z:=run_append_grow (P:=P) w t ty e i z ht hh hz ⟨g,0,none⟩ xs.length cap (L.flat xs) (by rw [b];exact A) H a l.length c (L.flat l) (by rw [b];exact o) (λj y hj=>hb.flat j y hj) oO oO (growslice_fits oO q);have a0:=grownCap_ge w (xs.length+l.length) cap e;have R:grownCap w (xs.length+l.length) cap e<=maxLen:=grownCap_le_maxLen w (xs.length+l.length) cap e (by unfold maxLen;omega);refine run _ _ Z (fin _ w.heap.size _ _ hB (heap_alloc_new w.drew _) a0 R ?_ ?_) ⟨rfl,rfl,rfl,by simp,λk hk _=>(CK.alloc w.drew _).other k (by show k≠w.heap.size;omega)⟩ λg hg=>.inr (by simp only [Value.ownBlock,BN] at hg;omega)
     · simp only [Array.size_append,List.size_toArray,size_zeroCells,hzs,A,o,<- Nat.add_mul];exact Nat.le_of_eq (BJ (· * L.m) oO)
     · simp only [Array.toList_append,AS];rw [<- AS,List.take_append_of_le_length (by rw [A8,A,o,Nat.add_mul];omega),An (by rw [A8,A,o,Nat.add_mul];omega)]
theorem BS {ops:Array Oper} {Q:Exit->Fr->World->Prop} {w:World} {rest:List Oper} {d ty:Nat} {pos:String} {aft:Array Edge} {s x:Operand} {t e:TypeId} {B:Nat} {z v:Value} {xs l:List α} {p:Option Addr} {c by':Nat}
  (ht:P.underlying t=some (.slice e)) (hi:(P.info? e).map (λi=>(i.zero,i.size,i.bytes))=some (some z,L.m,by')) (hby2:Nat.ble by' 1000=true) (hzs:z.cells.size=L.m)
  (hs:CM f s=some v) (hown:AD L e B w v xs) (hx:CM f x=some (.slice p l.length c)) (hb:AG L w p l)
  (hn:xs.length+l.length<=10000000) (hB:B<=w.heap.size) (hd:Nat.blt d n.n=true) (hc:l=[]->c=0\/p≠none)
  (k:∀ v' w',AD L e B w' v' (xs++l)->Below B w w'->w.grownBy w' v.ownBlock->(∀ g,v'.ownBlock=some g->v.ownBlock=some g\/w.heap.size<=g)->WL P n ops Q rest ((d,v')::f) w') :
  WL P n ops Q (⟨some d,.call ⟨.builtin .append,#[s,x],#[t,t]⟩,ty,pos,aft,none⟩::rest) f w:=by
 refine A26 ht hi hby2 hzs hs hown hx hb oO ?_ hB hd hc k
 have a:by'<=1000:=by simpa using hby2
 have:(xs.length+l.length) * by'<=(xs.length+l.length) * 1000:=Nat.mul_le_mul_left _ a
 omega
theorem Dz {t:TypeId} {x:Operand} {p:Option Addr} {l:List α} {w:World} {dd:TypeDesc} (hu:P.underlying t=some dd) (hdd:dd.isRow=true) (hi:(P.info? t).map (·.size)=some L.m) (hb:AG L w p l) (k:Nat) (hk:k<l.length)
  (hx:CM f x=some (.pointer (some ((pA p).add (k * L.m))))):Rd P (.load t x) f w (.agg (L.V l[k]).toArray):=λρ hρ d ty pos aft g=>by
 have hl:(loadCells ((pA p).add (k * L.m)) (L.V l[k]).length).run P w=.ok (L.V l[k]).toArray w :=
  run_loadCells_list (P:=P) w ((pA p).add (k * L.m)) (L.V l[k]) (λj v hv=>by
   have hj:j<L.m:=by
    rcases Bu j L.m with h | h
    · exact h
    · rw [AZ (by rw [L.len];exact h)] at hv;cases hv
   rw [K9,hb.cells k hk j hj,hv])
 cases hq:P.info? t with
 | none=>simp [hq] at hi
 | some i =>
  have hs:i.size=(L.V l[k]).length:=by rw [L.len];simpa [hq] using hi
  have a:(isAgg t).run P w=.ok true w:=by
   unfold isAgg
   rw [Ca,Bz hu w]
   cases dd <;> simp_all
  unfold execOp
  simp [hρ _ _ hx,Instr.loadAt,Instr.sureAddr,loadVar,Ca,a,sizeOf,typeInfo,hq,hs,hl]
theorem Rr (L:FW α) (l:List α) (k:Nat) (hk:k<l.length) (x:α):(L.flat l).take (k * L.m)++L.V x++(L.flat l).drop (k * L.m+L.m)=L.flat (l.set k x):=by
 rw [L.flat_take,show k * L.m+L.m=(k+1) * L.m by rw [Nat.succ_mul],L.flat_drop,List.set_eq_take_append_cons_drop,A7 hk]
 simp [FW.flat]
end
end
section
open Go.RowKit Go.WideShapes Go.ChangeShapes
theorem Ff {a b:Value} (h:a=b):Ending.returned a=.returned b:=by rw [h]
theorem rbE {a b:Bool} (h:a=b):Ending.returned (.bool a)=.returned (.bool b):=by rw [h]
theorem Dn {P:Program} {fn:Func} {R:Ending->World->Prop} {f:Fr} {w:World} {t u:Tmp} {ty:TypeId} {b:Addr} {v x:Value} (hr:fn.results=#[.cell t ty,.tmp u])
  (ht:look f t=some (.pointer (some b))) (hv:(loadVar ty b).run P w=.ok v w) (hx:look f u=some x) (h:R (.returned (.tuple #[v,x])) w):Ir P fn R .ret f w:=by
 unfold Ir
 exact ⟨_,λtmps hh=>by
  have a:=hh _ _ ht;have c:=hh _ _ hx
  simp only [AK] at a c
  simp [results,hr,a,c,asAddr,hv],h⟩
section
variable {P:Program} {n:Sh} {f:Fr}
theorem BG.eqSN {x:Operand} {tx ty e:TypeId} {p:Option Addr} {m c:Nat} (hu:P.underlying tx=some (.slice e)) (hx:CM f x=some (.slice p m c)):BG P (.binOp .eql tx x (.const (.slice none 0 0)) ty) f (.bool p.isNone):=λρ hρ d ty' pos aft g w=>by
 have h4:ρ (.const (.slice none 0 0))=.slice none 0 0:=hρ _ _ rfl
 simp [execOp,hρ _ _ hx,h4,eqGuard,Lib.run_eql_slice_nil w tx e p m c 0 0 hu]
theorem ZC {tx e:TypeId} {x y:Operand} {p:Option Addr} {l c sz:Nat} {i:Int} (hu:P.underlying tx=some (.slice e)) (hs:∀ w,(sizeOf e).run P w=.ok sz w) (hx:CM f x=some (.slice p l c))
  (hi:CM f y=some (Af i)) (a:Nat) (ei:i=a) (ham:a<=l):BG P (.slice tx x (some y) none none) f (.slice (Fk sz p c a) (l-a) (c-a)):=λρ hρ d ty pos aft g w=>by
 subst ei
 simp [execOp,Instr.sliceAt,Instr.slice,Instr.sliceBounds,run_sliceBound,hρ _ _ hx,hρ _ _ hi,Bz hu,hs,ham,Fk]
theorem ZB {tx e:TypeId} {x z:Operand} {p:Option Addr} {l c sz:Nat} {j:Int} (hu:P.underlying tx=some (.slice e)) (hs:∀ w,(sizeOf e).run P w=.ok sz w) (hx:CM f x=some (.slice p l c))
  (hj:CM f z=some (Af j)) (b:Nat) (ej:j=b) (hbc:b<=c):BG P (.slice tx x none (some z) none) f (.slice (Fk sz p c 0) b c):=λρ hρ d ty pos aft g w=>by
 subst ej
 simp [execOp,Instr.sliceAt,Instr.slice,Instr.sliceBounds,run_sliceBound,hρ _ _ hx,hρ _ _ hj,Bz hu,hs,hbc,Fk]
theorem AG.partF {α:Type} {L:FW α} {w:World} {p:Option Addr} {l:List α} {c a:Nat} (h:AG L w p l) (ha:a<=l.length) (hc:l.length<=c):AG L w (Fk L.m p c a) (l.drop a):=by
 have:=h.part (c:=c) (a:=a) (b:=l.length) ha (DP _) hc
 rw [An (by rw [Au];exact DP _)] at this
 exact this
theorem AG.partT {α:Type} {L:FW α} {w:World} {p:Option Addr} {l:List α} {c:Nat} (h:AG L w p l) (b:Nat) (hb:b<=l.length) (hc:l.length<=c):AG L w (Fk L.m p c 0) (l.take b):=by
 have:=h.part (c:=c) (a:=0) (b:=b) (FI _) hb hc
 rw [Ms,Nat.sub_zero] at this
 exact this
theorem BG.ixm {tx e:TypeId} {x y:Operand} {p:Option Addr} {l c sz:Nat} {i:Int} {k:IntKind} (hu:P.underlying tx=some (.slice e)) (hs:∀ w,(sizeOf e).run P w=.ok sz w) (hx:CM f x=some (.slice p l c))
  (hi:CM f y=some (.int k i)) (hp:p=some (pA p)) (j:Nat) (e':i=j) (hj:j<l):BG P (.indexAddr tx x y) f (.pointer (some ((pA p).add (j * sz)))) :=
 Vm hu hs (by rw [hx];rw [<- hp]) hi j e' hj
theorem AG.field {α:Type} {L:FW α} {w:World} {p:Option Addr} {l:List α} (h:AG L w p l) (k:Nat) (hk:k<l.length) (i:Nat) (hi:i<L.m):w.cell? (((pA p).add (k * L.m)).add i)=(L.V l[k])[i]?:=by
 rw [K9];exact h.cells k hk i hi
theorem I9 (w:World) (d:Nat) (t e:TypeId) (a:Option Addr) (h:P.underlying t=some (.pointer e)) :
  (Op.equalIn (d+1) t (.pointer a) (.pointer none)).run P w=.ok a.isNone w:=by
 cases a <;> simp [Op.equalIn,Bz h]
theorem BG.eqP {x:Operand} {tx ty e:TypeId} {a:Option Addr} (hu:P.underlying tx=some (.pointer e)) (hx:CM f x=some (.pointer a)):BG P (.binOp .eql tx x (.const (.pointer none)) ty) f (.bool a.isNone):=λρ hρ d ty' pos aft g w=>by
 have h4:ρ (.const (.pointer none))=.pointer none:=hρ _ _ rfl
 have h5:(binOp .eql tx (.pointer a) (.pointer none)).run P w=.ok (.bool a.isNone) w:=by
  simp only [binOp]
  simp [Op.equal,Op.maxDepth,I9 w 9999 tx e a hu]
 simp [execOp,hρ _ _ hx,h4,eqGuard,h5]
theorem BG.neP {x:Operand} {tx ty e:TypeId} {a:Option Addr} (hu:P.underlying tx=some (.pointer e)) (hx:CM f x=some (.pointer a)):BG P (.binOp .neq tx x (.const (.pointer none)) ty) f (.bool (!a.isNone)):=λρ hρ d ty' pos aft g w=>by
 have h4:ρ (.const (.pointer none))=.pointer none:=hρ _ _ rfl
 have h5:(binOp .neq tx (.pointer a) (.pointer none)).run P w=.ok (.bool (!a.isNone)) w:=by
  simp only [binOp]
  simp [Op.equal,Op.maxDepth,I9 w 9999 tx e a hu]
 simp [execOp,hρ _ _ hx,h4,eqGuard,h5]
end
end
section
open Go.RowKit Go.WideShapes Go.ChangeShapes
section
variable {P:Program} {n:Sh} {f:Fr}
theorem YD {F:FuncId} (hb:D2 P F) {ρ:Operand->Value} (hρ:Agr f ρ) {x:Operand} {first cap args:Array Value} (hf:CM f x=some (.func (.func F) first cap)) {xs:List Operand} {vs:List Value} (hx:R0 f xs=some vs) (ha:first++vs.toArray++cap=args)
  {ats:Array TypeId} (d:Option Tmp) (ty:TypeId) (pos:String) (aft:Array Edge) (g:Option (Nat × Bool)) (w:World) :
  (execOp ρ ⟨d,.call ⟨.value x,xs.toArray,ats⟩,ty,pos,aft,g⟩).run P w=.ok (.enter F args) w:=by
 obtain ⟨fn,c,h,i⟩:=hb
 have e:=J9 hρ _ _ hx
 have b:ρ x=.func (.func F) first cap:=hρ _ _ hf
 have a:xs.toArray.map ρ=vs.toArray:=by simp [e]
 subst ha
 unfold execOp
 simp only [resolve,a,b]
 simp [Deferred.ofValue,invoke,callFunc,run_program,c,h,i]
theorem A24 {ops:Array Oper} {Q:Exit->Fr->World->Prop} {w:World} {rest:List Oper} {d ty:Nat} {pos:String} {aft:Array Edge} {F:FuncId} {x:Operand} {first cap args:Array Value} {xs:List Operand} {ats:Array TypeId} {vs:List Value} {α:Sort _}
  {V:α->Value} {S:α->World->Prop} (hb:D2 P F) (hf:CM f x=some (.func (.func F) first cap)) (hx:R0 f xs=some vs) (ha:first++vs.toArray++cap=args) (hd:Nat.blt d n.n=true)
  (hc:Calls P F args w λe w'=>∃ t,e=.returned (V t)/\S t w') (k:∀ t w',S t w'->WL P n ops Q rest ((d,V t)::f) w') :
  WL P n ops Q (⟨some d,.call ⟨.value x,xs.toArray,ats⟩,ty,pos,aft,none⟩::rest) f w:=by
 unfold WL at *
 intro a ha'
 refine wpList_plain rfl λK hK=>?_
 unfold Oper.wp
 rw [YD hb ha'.agr hf hx ha,Oper.upon_enter]
 refine hc.mono ?_
 rintro e w' ⟨t,rfl,hS⟩
 exact hK _ _ (k t w' hS _ (ha'.put hd _))
theorem Xb {ops:Array Oper} {Q:Exit->Fr->World->Prop} {w:World} {rest:List Oper} {d ty:Nat} {pos:String} {aft:Array Edge} {F:FuncId} {x:Operand} {first cap args:Array Value} {xs:List Operand} {ats:Array TypeId} {vs:List Value}
  {V:Value} {S:World->Prop} (hb:D2 P F) (hf:CM f x=some (.func (.func F) first cap)) (hx:R0 f xs=some vs) (ha:first++vs.toArray++cap=args) (hd:Nat.blt d n.n=true)
  (hc:Calls P F args w λe w'=>e=.returned V/\S w') (k:∀ w',S w'->WL P n ops Q rest ((d,V)::f) w') :
  WL P n ops Q (⟨some d,.call ⟨.value x,xs.toArray,ats⟩,ty,pos,aft,none⟩::rest) f w :=
 A24 (α:=Unit) (V:=λ_=>V) (S:=λ_=>S) hb hf hx ha hd (hc.mono λ_ _ h=>⟨(),h⟩) (λ_=>k)
end
end
section
open Go.RowKit Go.WideShapes Go.ChangeShapes
section
variable {P:Program} {n:Sh} {f:Fr}
theorem A2e {tx e:TypeId} {x y:Operand} {p:Addr} {m sz:Nat} {i:Int} {k:IntKind} (hu:P.underlying tx=some (.array m e)) (hs:∀ w,(sizeOf e).run P w=.ok sz w) (hx:CM f x=some (.pointer (some p)))
  (hi:CM f y=some (.int k i)) (j:Nat) (e':i=j) (hj:j<m):BG P (.indexAddr tx x y) f (.pointer (some (p.add (j * sz)))):=λρ hρ d ty pos aft g w=>by
 subst e'
 simp [execOp,Instr.indexAt,Instr.sureAddr,hρ _ _ hx,hρ _ _ hi,asIntOf,Bz hu,hs,hj]
theorem BG.ixr1 {tx e:TypeId} {x y:Operand} {p:Addr} {m:Nat} {i:Int} {k:IntKind} (hu:P.underlying tx=some (.array m e)) (hs:∀ w,(sizeOf e).run P w=.ok 1 w) (hx:CM f x=some (.pointer (some p)))
  (hi:CM f y=some (.int k i)) (j:Nat) (e':i=j) (hj:j<m):BG P (.indexAddr tx x y) f (.pointer (some (p.add j))):=by
 have h:=A2e (P:=P) (f:=f) hu hs hx hi j e' hj
 rwa [Nat.mul_one] at h
theorem BG.ixv {tx e:TypeId} {x y:Operand} {cs:Array Value} {m:Nat} {i:Int} {k:IntKind} {v:Value} (hu:P.underlying tx=some (.array m e)) (ha:∀ w,(isAgg e).run P w=.ok false w) (hs:∀ w,(sizeOf e).run P w=.ok 1 w) (hx:CM f x=some (.agg cs))
  (hi:CM f y=some (.int k i)) (j:Nat) (e':i=j) (hj:j<m) (hv:cs[j]?=some v):BG P (.index tx x y) f v:=λρ hρ d ty pos aft g w=>by
 subst e'
 simp [execOp,Instr.index,hρ _ _ hx,hρ _ _ hi,asIntOf,Bz hu,hs,hj,part,ha,hv]
theorem I7 {α:Type} {L:FW α} {t tb:TypeId} {x:Operand} {b o:Nat} {cs:Array Value} {w:World} {dd:TypeDesc} (hu:P.underlying t=some dd) (hdd:dd.isRow=true) (hi:(P.info? t).map (·.size)=some L.m) (hb:B0 w b cs tb) (y:α)
  (e:(cs.toList.drop o).take L.m=L.V y) (hx:CM f x=some (.pointer (some ⟨b,o,none⟩))):Rd P (.load t x) f w (.agg (L.V y).toArray):=by
 have hr:AG L w (some ⟨b,o,none⟩) [y]:=by
  refine Ip (λ_=>rfl) λk v hk=>?_
  show w.cell? ((⟨b,o,none⟩:Addr).add k)=_
  have hk':(L.V y)[k]?=some v:=by simpa [FW.flat] using hk
  have a:k<L.m:=by
   rcases Bu k L.m with h | h
   · exact h
   · rw [AZ (by rw [L.len];exact h)] at hk';cases hk'
  rw [HG,hb.cell,<- hk',<- e,List.getElem?_take_of_lt a,List.getElem?_drop]
  simp
 have h:=Dz (P:=P) (f:=f) (x:=x) hu hdd hi hr 0 (by simp) (by
  rw [hx];show _=some (Value.pointer (some ((⟨b,o,none⟩:Addr).add (0 * L.m))));rw [HG,Nat.zero_mul,Nat.add_zero])
 exact h
theorem A5A {α β:Type} {L:FW α} {L':FW β} {t:TypeId} {x:Operand} {p:Option Addr} {l:List α} {w:World} {dd:TypeDesc} (hu:P.underlying t=some dd) (hdd:dd.isRow=true) (hi:(P.info? t).map (·.size)=some L'.m) (hb:AG L w p l) (k:Nat) (hk:k<l.length) (o:Nat) (y:β)
  (e:((L.V l[k]).drop o).take L'.m=L'.V y) (hx:CM f x=some (.pointer (some (((pA p).add (k * L.m)).add o)))):Rd P (.load t x) f w (.agg (L'.V y).toArray):=by
 have hr:AG L' w (some (((pA p).add (k * L.m)).add o)) [y]:=by
  refine Ip (λ_=>rfl) λj v hj=>?_
  show w.cell? ((((pA p).add (k * L.m)).add o).add j)=_
  have hj':(L'.V y)[j]?=some v:=by simpa [FW.flat] using hj
  have a:j<L'.m:=by
   rcases Bu j L'.m with h | h
   · exact h
   · rw [AZ (by rw [L'.len];exact h)] at hj';cases hj'
  have b:o+j<L.m:=by
   rcases Bu (o+j) L.m with h | h
   · exact h
   · rw [<- e,List.getElem?_take_of_lt a,List.getElem?_drop,AZ (by rw [L.len];exact h)] at hj';cases hj'
  rw [K9,hb.field k hk (o+j) b,<- hj',<- e,List.getElem?_take_of_lt a,List.getElem?_drop]
 have h:=Dz (P:=P) (f:=f) (x:=x) hu hdd hi hr 0 (by simp) (by
  rw [hx];show _=some (Value.pointer (some ((((pA p).add (k * L.m)).add o).add (0 * L'.m))));rw [Nat.zero_mul,K9,K9,Nat.add_zero])
 exact h
end
end
section
open Go.RowKit Go.WideShapes Go.ChangeShapes
structure Raw (w:World) (b c:Nat) (e:TypeId) (l:l8_):Prop where
 cur:∃ cur:Array Value,w.heap[b]?=some (.cells cur e (cur.size,cur.size+1))/\cur.size=c/\cur.toList.take l.length=AQ l
 le:l.length<=c
theorem CP.cat {e:TypeId} {B:Nat} {w:World} {v:Value} {l m:l8_} (h:CP e B w v (AQ l++AQ m)):CP e B w v (AQ (l++m)):=by
 rw [show AQ (l++m)=AQ l++AQ m by simp [AQ]];exact h
end
section
open Go.RowKit Go.WideShapes Go.ChangeShapes
section
variable {P:Program} {n:Sh} {f:Fr}
theorem BG.slS {tx:TypeId} {x y z:Operand} {l:l8_} {kd ke:IntKind} {i j:Int} (hu:P.underlying tx=some .string) (hx:CM f x=some (.string (bs l))) (hi:CM f y=some (.int kd i)) (hj:CM f z=some (.int ke j)) (a b:Nat) (ei:i=a) (ej:j=b) (hab:a<=b) (hb:b<=l.length) :
  BG P (.slice tx x (some y) (some z) none) f (.string (bs ((l.drop a).take (b-a)))):=λρ hρ d ty pos aft g w=>by
 subst ei;subst ej
 have h3:¬ (b<a):=by omega
 simp [execOp,Instr.sliceAt,Instr.slice,Instr.sliceBounds,Instr.sliceBound,hρ _ _ hx,hρ _ _ hi,hρ _ _ hj,asIntOf,Bz hu,hab,hb,h3,V2,BV]
theorem A3T {ops:Array Oper} {Q:Exit->Fr->World->Prop} {w:World} {rest:List Oper} {d ty:Nat} {pos:String} {aft:Array Edge} {s x:Operand} {t u e:TypeId} {B:Nat} {v:Value} {xs:List Value} {l:l8_}
    (ht:P.underlying t=some (.slice e)) (hu:P.underlying u=some .string) (hi:(P.info? e).map (λi=>(i.zero,i.size,i.bytes))=some (some (.int .u8 0),1,1))
    (hs:CM f s=some v) (hown:CP e B w v xs) (hx:CM f x=some (.string (bs l)))
    (hn:xs.length+l.length<=1000000000) (hB:B<=w.heap.size) (hd:Nat.blt d n.n=true)
    (k:∀ v' w',CP e B w' v' (xs++AQ l)->Below B w w'->w.grownBy w' v.ownBlock->WL P n ops Q rest ((d,v')::f) w') :
    WL P n ops Q (⟨some d,.call ⟨.builtin .append,#[s,x],#[t,u]⟩,ty,pos,aft,none⟩::rest) f w:=by
  cases hh:P.info? e with
  | none=>rw [hh] at hi;cases hi
  | some i =>
    rw [hh] at hi;simp only [Option.map_some,BN,CA] at hi;obtain ⟨hz,c,g⟩:=hi;have a:(bs l).size=l.length:=BV l;have b:Lib.strCells (bs l)=AQ l:=by simp [Lib.strCells,AQ,bs]
    obtain ⟨v',w',m,h,j,-⟩:=Lib.run_append_own_string (P:=P) w B t u ty e i ht hu hh hz c g v xs.length xs hown (bs l) (by rw [a];unfold maxLen;omega) (by rw [a];omega) hB;rw [a,b] at h;refine WL.run hd (w':=w') (v:=v') (λρ hρ=>?_) (k v' w' ?_ ((Gb _ _).grown j hB λk hk=>(hown.lt k hk).1) j)
    · unfold execOp
      simp only [resolve,invoke,builtin,Ca,D3,BT,List.map_toArray,EF,F4,hρ _ _ hs,hρ _ _ hx,m]
    · have o : (xs ++ AQ l).length = xs.length + l.length := by simp [AQ]
      unfold CP;rw [o];exact h
end
end
section
open Go.ChangeShapes Go.WideShapes Go.ChangeAt Go.RowKit
structure ZA {α:Type} (p:Option Addr) (l:List α) (c:Nat):Prop where
 le:l.length<=c
 cap:c<=maxLen
 nil:l=[]->c=0\/p≠none
 none:p=none->l=[]/\c=0
def A7U {H:Type} (d:DataW H) (n:Nat):Prop:=n=0\/∃ elems spare,d=.slice elems spare/\n=elems.length
abbrev LZ (k:Int):Value:=Af k
end
section
open Go.ChangeShapes Go.WideShapes Go.ChangeAt Go.RowKit
structure Ke where
 fX:Int
 fY:Int
def Wl (x:Ke):List Value:=[Af x.fX,Af x.fY]
structure TL (w:World) (x:Ke):Prop where
 wf_fX:(Lit.int .i64 x.fX).wf=true
 wf_fY:(Lit.int .i64 x.fY).wf=true
structure Xc where
 fKind:Int
 fP_0:Ke
 fP_1:Ke
 fP_2:Ke
def A4N (x:Xc):List Value:=[Af x.fKind]++Wl x.fP_0++Wl x.fP_1++Wl x.fP_2
def VQ:FW Xc:=⟨7,A4N,dD,λ_=>rfl,λx u hu=>AN.1 (show (A4N x).all Value.oneCell'=true from rfl) u hu⟩
structure A4v (w:World) (x:Xc):Prop where
 wf_fKind:(Lit.int .i64 x.fKind).wf=true
 ok_fP_0:TL w x.fP_0
 ok_fP_1:TL w x.fP_1
 ok_fP_2:TL w x.fP_2
structure Lh where
 fSpace:Int
 fPart_0:Int
 fPart_1:Int
 fPart_2:Int
 fPart_3:Int
def Hu (x:Lh):List Value:=[Af x.fSpace,Af x.fPart_0,Af x.fPart_1,Af x.fPart_2,Af x.fPart_3]
def Oi:FW Lh:=⟨5,Hu,dD,λ_=>rfl,λx u hu=>AN.1 (show (Hu x).all Value.oneCell'=true from rfl) u hu⟩
structure A41 (w:World) (x:Lh):Prop where
 wf_fSpace:(Lit.int .i64 x.fSpace).wf=true
 wf_fPart_0:(Lit.int .i64 x.fPart_0).wf=true
 wf_fPart_1:(Lit.int .i64 x.fPart_1).wf=true
 wf_fPart_2:(Lit.int .i64 x.fPart_2).wf=true
 wf_fPart_3:(Lit.int .i64 x.fPart_3).wf=true
structure Yh where
 pfPath:Option Addr
 fPath:List Xc
 cfPath:Nat
 fEvenOdd:Bool
def A4p (x:Yh):List Value:=[.slice x.pfPath x.fPath.length x.cfPath,.bool x.fEvenOdd]
def A6t:FW Yh:=⟨2,A4p,dD,λ_=>rfl,λx u hu=>AN.1 (show (A4p x).all Value.oneCell'=true from rfl) u hu⟩
structure A5F (w:World) (x:Yh):Prop where
 row_fPath:AG VQ w x.pfPath x.fPath
 sl_fPath:ZA x.pfPath x.fPath x.cfPath
 all_fPath:∀ y∈x.fPath,A4v w y
structure ZD where
 fWidth:Int
 fCap:Int
 fJoin:Int
 fMiter:Int
 pfDash:Option Addr
 fDash:List Int
 cfDash:Nat
 fPhase:Int
def YY (x:ZD):List Value:=[Af x.fWidth,Af x.fCap,Af x.fJoin,Af x.fMiter,.slice x.pfDash x.fDash.length x.cfDash,Af x.fPhase]
structure A6M (w:World) (x:ZD):Prop where
 wf_fWidth:(Lit.int .i64 x.fWidth).wf=true
 wf_fCap:(Lit.int .i64 x.fCap).wf=true
 wf_fJoin:(Lit.int .i64 x.fJoin).wf=true
 wf_fMiter:(Lit.int .i64 x.fMiter).wf=true
 row_fDash:B3 LZ w x.pfDash x.fDash
 sl_fDash:ZA x.pfDash x.fDash x.cfDash
 wfs_fDash:∀ y∈x.fDash,(Lit.int .i64 y).wf=true
 wf_fPhase:(Lit.int .i64 x.fPhase).wf=true
structure GY where
 fKind:Int
 pfPath:Option Addr
 fPath:List Xc
 cfPath:Nat
 fColor:Lh
 pfClips:Option Addr
 fClips:List Yh
 cfClips:Nat
 fPen:ZD
 fFont:Int
 fMatrix_0:Int
 fMatrix_1:Int
 fMatrix_2:Int
 fMatrix_3:Int
 fMatrix_4:Int
 fMatrix_5:Int
 pfBytes:Option Addr
 fBytes:l8_
 cfBytes:Nat
def UO (x:GY):List Value:=[Af x.fKind,.slice x.pfPath x.fPath.length x.cfPath]++Hu x.fColor++[.slice x.pfClips x.fClips.length x.cfClips]++YY x.fPen++[Af x.fFont,Af x.fMatrix_0,Af x.fMatrix_1,Af x.fMatrix_2,Af x.fMatrix_3,Af x.fMatrix_4,Af x.fMatrix_5,.slice x.pfBytes x.fBytes.length x.cfBytes]
def Jw:FW GY:=⟨22,UO,dD,λ_=>rfl,λx u hu=>AN.1 (show (UO x).all Value.oneCell'=true from rfl) u hu⟩
structure A5E (w:World) (x:GY):Prop where
 wf_fKind:(Lit.int .i64 x.fKind).wf=true
 row_fPath:AG VQ w x.pfPath x.fPath
 sl_fPath:ZA x.pfPath x.fPath x.cfPath
 all_fPath:∀ y∈x.fPath,A4v w y
 ok_fColor:A41 w x.fColor
 row_fClips:AG A6t w x.pfClips x.fClips
 sl_fClips:ZA x.pfClips x.fClips x.cfClips
 all_fClips:∀ y∈x.fClips,A5F w y
 ok_fPen:A6M w x.fPen
 wf_fFont:(Lit.int .i64 x.fFont).wf=true
 wf_fMatrix_0:(Lit.int .i64 x.fMatrix_0).wf=true
 wf_fMatrix_1:(Lit.int .i64 x.fMatrix_1).wf=true
 wf_fMatrix_2:(Lit.int .i64 x.fMatrix_2).wf=true
 wf_fMatrix_3:(Lit.int .i64 x.fMatrix_3).wf=true
 wf_fMatrix_4:(Lit.int .i64 x.fMatrix_4).wf=true
 wf_fMatrix_5:(Lit.int .i64 x.fMatrix_5).wf=true
 row_fBytes:Ag w x.pfBytes x.fBytes
 sl_fBytes:ZA x.pfBytes x.fBytes x.cfBytes
structure A6N where
 fWidth:Int
 fHeight:Int
 pfItems:Option Addr
 fItems:List GY
 cfItems:Nat
structure A7z (w:World) (x:A6N):Prop where
 wf_fWidth:(Lit.int .i64 x.fWidth).wf=true
 wf_fHeight:(Lit.int .i64 x.fHeight).wf=true
 row_fItems:AG Jw w x.pfItems x.fItems
 sl_fItems:ZA x.pfItems x.fItems x.cfItems
 all_fItems:∀ y∈x.fItems,A5E w y
end
section
theorem BR:Tryz.prog.follows .mixedOrders=true:=by kernel_rfl
theorem BK {F:FuncId} (h:(match Tryz.prog.funcs[F]? with | some fn=>!(fn.body.isNone || fn.name == "runtime.NumGoroutine") | none=>false)=true:=by kernel_rfl):D2 Tryz.prog F:=by
  cases hf:Tryz.prog.funcs[F]? with
  | none=>rw [hf] at h;cases h
  | some fn=>rw [hf] at h;exact EL hf (by simpa using h)
theorem Ao {n:Sh} {f:Fr} {ops:Array Oper} {Q:Exit->Fr->World->Prop} {w:World} {rest:List Oper} {d ty:Nat} {pos:String} {aft:Array Edge} {F:FuncId} {xs:List Operand} {ats:Array TypeId} {vs:List Value} {V:Value} {S:World->Prop} (hc:Calls Tryz.prog F vs.toArray w λe w'=>e=.returned V/\S w') (k:∀ w',S w'->WL Tryz.prog n ops Q rest ((d,V)::f) w') (hb:D2 Tryz.prog F:=by exact BK) (hx:R0 f xs=some vs:=by rfl) (hd:Nat.blt d n.n=true:=by rfl):WL Tryz.prog n ops Q (⟨some d,.call ⟨.value (.func F),xs.toArray,ats⟩,ty,pos,aft,none⟩::rest) f w:=Cm hb hx hd hc k
theorem A5e:D2 Tryz.prog 10:=EL Tryz.func10 (by kernel_rfl)
theorem A5d:D2 Tryz.prog 11:=EL Tryz.func11 (by kernel_rfl)
theorem A4h:D2 Tryz.prog 137:=EL Tryz.func137 (by kernel_rfl)
theorem A1g:D2 Tryz.prog 145:=EL Tryz.func145 (by kernel_rfl)
theorem XP:D2 Tryz.prog 156:=EL Tryz.func156 (by kernel_rfl)
theorem A6q:D2 Tryz.prog 161:=EL Tryz.func161 (by kernel_rfl)
theorem Gu:D2 Tryz.prog 187:=EL Tryz.func187 (by kernel_rfl)
theorem A7j:D2 Tryz.prog 23:=EL Tryz.func23 (by kernel_rfl)
theorem A6p:D2 Tryz.prog 32:=EL Tryz.func32 (by kernel_rfl)
theorem A6o:D2 Tryz.prog 36:=EL Tryz.func36 (by kernel_rfl)
theorem WP:D2 Tryz.prog 6:=EL Tryz.func6 (by kernel_rfl)
theorem hb7:D2 Tryz.prog 7:=EL Tryz.func7 (by kernel_rfl)
theorem Zh:D2 Tryz.prog 77:=EL Tryz.func77 (by kernel_rfl)
theorem hb8:D2 Tryz.prog 8:=EL Tryz.func8 (by kernel_rfl)
theorem A7i:D2 Tryz.prog 82:=EL Tryz.func82 (by kernel_rfl)
theorem hb9:D2 Tryz.prog 9:=EL Tryz.func9 (by kernel_rfl)
theorem Al:(Tryz.prog.info? 27).map (·.size)=some 6:=by kernel_rfl
theorem Er:Tryz.prog.built 27=λparts=>Instr.fill (([(0,1),(1,1),(2,1),(3,1),(4,1),(5,1)]:List (Nat × Nat)).toArray[·]?) [Value.int .i64 0,Value.int .i64 0,Value.string ⟨#[]⟩,Value.slice none 0 0,Value.slice none 0 0,Value.slice none 0 0].toArray parts:=by kernel_rfl
theorem XM:(Tryz.prog.info? 46).map (·.size)=some 3:=by kernel_rfl
theorem OG:(Tryz.prog.info? 50).map (·.size)=some 5:=by kernel_rfl
theorem A6l:(Tryz.prog.info? 57).map (·.size)=some 22:=by kernel_rfl
theorem A1T:Tryz.prog.built 78=λparts=>Instr.fill (([(0,1),(1,1)]:List (Nat × Nat)).toArray[·]?) [Value.slice none 0 0,Value.int .i64 0].toArray parts:=by kernel_rfl
theorem A6v:Tryz.prog.built 82=λparts=>Instr.fill (([(0,1),(1,1),(2,6)]:List (Nat × Nat)).toArray[·]?) [Value.slice none 0 0,Value.map none,Value.int .i64 0,Value.int .i64 0,Value.string ⟨#[]⟩,Value.slice none 0 0,Value.slice none 0 0,Value.slice none 0 0].toArray parts:=by kernel_rfl
theorem Fz:(Tryz.prog.info? 117).map (·.size)=some 2:=by kernel_rfl
theorem A1U:Tryz.prog.built 133=λparts=>Instr.fill (([(0,1),(1,1),(2,1)]:List (Nat × Nat)).toArray[·]?) [Value.slice none 0 0,Value.int .i64 0,Value.bool false].toArray parts:=by kernel_rfl
theorem Hq:(Tryz.prog.info? 173).map (·.size)=some 2:=by kernel_rfl
theorem MU:Tryz.prog.built 173=λparts=>Instr.fill (([(0,1),(1,1)]:List (Nat × Nat)).toArray[·]?) [Value.int .i64 0,Value.int .i64 0].toArray parts:=by kernel_rfl
theorem Tp:(Tryz.prog.info? 182).map (·.size)=some 16:=by kernel_rfl
theorem BL:(Tryz.prog.info? 196).map (·.size)=some 3:=by kernel_rfl
theorem I6:Tryz.prog.built 196=λparts=>Instr.fill (([(0,1),(1,1),(2,1)]:List (Nat × Nat)).toArray[·]?) [Value.int .i64 0,Value.int .i64 0,Value.string ⟨#[]⟩].toArray parts:=by kernel_rfl
theorem A5a:(Tryz.prog.info? 206).map (·.size)=some 2:=by kernel_rfl
theorem A5q:Tryz.prog.built 222=λparts=>Instr.fill (([(0,1),(1,1)]:List (Nat × Nat)).toArray[·]?) [Value.slice none 0 0,Value.int .i64 0].toArray parts:=by kernel_rfl
end
section
theorem DO {a b:Value} (h:a=b):Ending.returned a=.returned b:=by rw [h]
def Sb (x:Int × Int):Value:=.tuple #[Af x.1,Af x.2]
theorem LF {a b:Int} {x:Int × Int} (h:x=(a,b)):Ending.returned (.tuple #[Af a,Af b])=.returned (Sb x):=by rw [h];rfl
theorem XT (p:Option Addr) (l:List Int) (c:Nat) (w:World) (hr:B3 LZ w p l) (hl:l.length<=9223372036854775807) :
  Calls Tryz.prog 263 #[.slice p l.length c] w λe w'=>e=.returned (.bool (l.all Cy))/\w=w':=by
 refine Ar func263 rfl ntmps263<|A4<|A9 rfl<|Ad<|A4<|A3 rfl<|A1 (.lenS IX rfl)<|A3 rfl<|A0<|AO<|BM (α:=Nat) (λt=>[(5,.slice p l.length c),(6,Af (l.length:Int)),(7,Af (t:Int))]) (λt w'=>w=w'/\t<=l.length/\∀ j (h:j<l.length),j<t->Cy l[j]=true) (λt=>l.length-t) (0) ⟨rfl,rfl,rfl,tT⟩ (⟨rfl,FI _,λj _ h=>De h oO⟩) (λt o hR=>?_)
 obtain ⟨i,rfl⟩:=eX t
 obtain ⟨rfl,hi,a⟩:=hR
 refine A4<|A1 (.lss rfl rfl)<|A0<|Ad<|Ai rfl (λb=>?_) (λb=>?_)
 have f:=dT b
 refine Ap<|Ad<|AO<|A4<|A1 (.ixb IX Bw rfl rfl (hr.isp oO) (i) (rfl) oO)<|Ah (Bq (BZ _) rfl (hr.cells (i) oO))<|A9 rfl<|A4<|A3 rfl<|Ao (JB _ _) (λq g=>?_)
 obtain rfl:=g
 refine A1 (.not rfl)<|A0<|Ai rfl (λd=>?_) (λd=>?_)
 have k:=(nT d)
 refine A4<|A9 rfl<|AW ?_
 first
 | exact ⟨DO (BJ _ (Eq.symm (List.all_eq_false.2 ⟨l[i]'oO,AA _,by simp_all⟩))),rfl⟩
 | exact ⟨DO (BJ _ (Eq.symm (AN.2 λx hx=>by
   obtain ⟨j,hj,rfl⟩:=List.mem_iff_getElem.1 hx;exact a j hj oO))),rfl⟩
 have k:=(nF d)
 refine Ap<|Am<|A1 (.iis (((i+1:Nat):Int)) (.add rfl rfl (Ba oO)) oO)<|A3 rfl<|A0<|?_
 exact ⟨i+1,⟨rfl,rfl,rfl,tT⟩,⟨rfl,oM,λj h hj=>by
  rcases Ig.1 hj with m | rfl;exact a j h m
  simp_all⟩,oM⟩
 have f:=dF b
 refine BF<|A4<|A9 rfl<|AW ?_
 first
 | exact ⟨DO (BJ _ (Eq.symm (List.all_eq_false.2 ⟨l[i]'oO,AA _,by simp_all⟩))),rfl⟩
 | exact ⟨DO (BJ _ (Eq.symm (AN.2 λx hx=>by
   obtain ⟨j,hj,rfl⟩:=List.mem_iff_getElem.1 hx;exact a j hj oO))),rfl⟩
theorem Qw (n:Int) (w:World):Calls Tryz.prog 264 #[Af n] w λe w'=>e=.returned (Sb (TP n))/\w=w':=by
 refine Ar func264 rfl ntmps264<|A4<|Ct rfl<|A9 rfl<|Ad<|A4<|A3 rfl<|Ao (JB _ _) (λd b=>?_)
 obtain rfl:=b
 refine A1 (.not rfl)<|A0<|Ai rfl (λa=>?_) (λa=>?_)
 have c:=(nT a)
 refine A4<|Ct rfl<|A9 rfl<|AT (D0 rfl rfl rfl ?_)
 exact ⟨LF (by unfold TP;rw [A2 (by simp_all)]),rfl⟩
 have c:=(nF a)
 refine Ap<|A4<|A3 rfl<|Ct rfl<|A9 rfl<|AT (D0 rfl rfl rfl ?_)
 exact ⟨LF (by unfold TP;rw [A7 (by simp_all)]),rfl⟩
theorem A3A (a b:Int) (w:World):Cb 269 #[Af a,Af b] w (Sb (RH a b)):=by
 refine Ar func269 rfl ntmps269 ?_
 have c:=CN w
 refine A4<|Ct rfl<|A9 rfl<|Ad<|A4<|A3 rfl<|A3 rfl<|Cs (ps:=_) IX Bw Yj rfl rfl rfl rfl rfl pR rfl (λv u d h i t=>?_)
 have f:=uB c d i
 have s:=CF d c.size
 have k:=B3.lit (V:=LZ) (l:=[a,b]) h (rfl)
 refine Cm BK rfl rfl ((XT _ [a,b] 2 _ k (by simp))) (λx m=>?_)
 obtain rfl:=m
 refine A1 (.not rfl)<|A0<|Ai rfl (λj=>?_) (λj=>?_)
 have o:=(nT j)
 refine A4<|Ct rfl<|A9 rfl<|AT (D0 rfl rfl rfl ?_)
 exact ⟨LF (by unfold RH;rw [A2 (by simp_all)]),f⟩
 have o:=(nF j)
 have g:Cy a=true/\Cy b=true:=by simp_all
 have y:=XV g.1
 have B:=XV g.2
 refine Ap<|A4<|A3 rfl<|A3 rfl<|A1 (.add rfl rfl (Ba oO))<|Ao (Qw _ _) (λC q=>?_)
 obtain rfl:=q
 refine A1 (.ext rfl rfl)<|A1 (.ext rfl rfl)<|Ct rfl<|A9 rfl<|AT (D0 rfl rfl rfl ?_)
 exact ⟨DO (by unfold RH;rw [A7 (by simp_all)];rfl),f⟩
theorem A1r (a b:Int) (w:World) (ha:-4611686018427387904<=a/\a<=4611686018427387904) (hb:0<b/\b<=2147483648) :
  Cb 265 #[Af a,Af b] w (Af (Ut a b)):=by
 have k:=Int.tmod_lt_of_pos a hb.1
 have d:=Int.lt_tmod_of_pos a hb.1
 have f:-4611686018427387904<=a.tdiv b/\a.tdiv b<=4611686018427387904:=by
  have:=Int.natAbs_tdiv_le_natAbs a b
  omega
 refine Ar func265 rfl ntmps265 ?_
 have g:=CN w
 refine A4<|A9 rfl<|Ad<|A4<|A3 rfl<|A1 (.bis (false) (.lss rfl rfl) (by exact AJ oO))<|A0<|Aq rfl rfl<|Ap<|Ad<|DH BR kR<|WQ.p (.mv rfl) rfl<|WQ.p (.mv rfl) rfl<|WQ.p (.quo rfl rfl oO (Ba oO)) rfl<|WQ.p (.mv rfl) rfl<|WQ.p (.mv rfl) rfl<|WQ.p (.rem rfl rfl oO rfl) rfl<|WQ.p (.as rfl) rfl<|WQ.p (.as rfl) rfl<|CX (λl h=>?_)
 have c:=C6.below g h
 refine Ad<|AO<|A4<|A3 rfl<|A1 (.mul rfl rfl (Ba oO))<|A3 rfl<|A1 (.geq rfl rfl)<|A9 rfl<|Ai rfl (λd=>?_) (λd=>?_)
 have i:=dT d
 refine Am<|A3 rfl<|A1 (.add rfl rfl (Ba oO))<|A9 rfl<|A4<|A3 rfl<|A9 rfl<|AW ?_
 exact ⟨DO (by unfold Ut;first | rw [A7 oO] | rw [A2 oO,A7 oO] | rw [A2 oO,A2 oO]),c⟩
 have i:=dF d
 refine A4<|A3 rfl<|A1 (.mul rfl rfl (Ba oO))<|A3 rfl<|A1 (.geq rfl rfl)<|A9 rfl<|Ai rfl (λf=>?_) (λf=>?_)
 have j:=dT f
 refine Am<|A3 rfl<|A1 (.sub rfl rfl (Ba oO))<|A9 rfl<|A4<|A3 rfl<|A9 rfl<|AW ?_
 exact ⟨DO (by unfold Ut;first | rw [A7 oO] | rw [A2 oO,A7 oO] | rw [A2 oO,A2 oO]),c⟩
 have j:=dF f
 refine Ap<|A4<|A3 rfl<|A9 rfl<|AW ?_
 exact ⟨DO (by unfold Ut;first | rw [A7 oO] | rw [A2 oO,A7 oO] | rw [A2 oO,A2 oO]),c⟩
end
section
open Go.RowKit Go.WideShapes Go.ChangeShapes
theorem UV:∀ (vs:List Value) (s o:Nat) (pre mid post:List Value),pre.length=o+s->mid.length=vs.length ->
  (vs.zipIdx s).foldl (λ(cs:Array Value) (x:Value × Nat)=>cs.setIfInBounds (o+x.2) x.1) (pre++mid++post).toArray=(pre++vs++post).toArray
 | [],s,o,pre,mid,post,h1,h2=>by
  obtain rfl:mid=[]:=EM.1 (by simpa using h2)
  rfl
 | v::r,s,o,pre,[],post,h1,h2=>by simp at h2
 | v::r,s,o,pre,m0::mr,post,h1,h2=>by
  have ih:=UV r (s+1) o (pre++[v]) mr post (by simp;omega) (by simpa using h2)
  rw [List.zipIdx_cons,EO]
  have e:(pre++m0::mr++post).toArray.setIfInBounds (o+s) v=(pre++[v]++mr++post).toArray:=by
   rw [<- h1]
   simp
  rw [e,ih]
  simp
theorem Sz {α:Type} (L:FW α):∀ (xs:List α) (i:Nat) (pre post:List Value),pre.length=i * L.m->post.length=xs.length * L.m ->
  Instr.fill (λi=>some (i * L.m,L.m)) (pre++post).toArray ((List.range' i xs.length).zip (xs.map λx=>Value.agg (L.V x).toArray))=some (pre++L.flat xs).toArray
 | [],i,pre,post,h1,h2=>by
  obtain rfl:post=[]:=EM.1 (by simpa using h2)
  rfl
 | x::r,i,pre,post,h1,h2=>by
  have hlx:=L.len x
  have h2':post.length=r.length * L.m+L.m:=by rw [h2,Aa,Nat.succ_mul]
  have ih:=Sz L r (i+1) (pre++L.V x) (post.drop L.m) (by rw [A8,h1,hlx,Nat.succ_mul]) (by rw [Au];omega)
  have hf:=UV (L.V x) 0 (i * L.m) pre (post.take L.m) (post.drop L.m) oO (by rw [At,hlx];omega)
  rw [AS pre,Dx] at hf
  have hc:(Value.agg (L.V x).toArray).cells=(L.V x).toArray:=rfl
  rw [Aa,List.range'_succ,EF,List.zip_cons_cons]
  conv=>lhs;unfold Instr.fill
  simp only [hc]
  rw [A2 (by simp [hlx];omega)]
  refine Eq.trans (BJ (λc=>Instr.fill (λi=>some (i * L.m,L.m)) c ((List.range' (i+1) r.length).zip (r.map λx=>Value.agg (L.V x).toArray))) ?_) (ih.trans (by simp [FW.flat]))
  rw [<- hf]
  simp
section
variable {P:Program} {n:Sh} {f:Fr} {α:Type} {L:FW α}
theorem Cq {ops:Array Oper} {Q:Exit->Fr->World->Prop} {w:World} {rest:List Oper} {d ty:Nat} {pos:String} {aft:Array Edge} {t e:TypeId} {len:Nat} {ps:List (Nat × Operand)} {vs:List Value} {z:Value} (xs:List α)
  (hu:P.underlying t=some (.slice e)) (hs:∀ w,(sizeOf e).run P w=.ok L.m w) (hz:∀ w,(zeroValue e).run P w=.ok z w) (_hzs:z.cells.size=L.m) (hl0:Nat.blt 0 len=true) (hl1:Nat.ble (len * L.m) 1000=true)
  (hx:R0 f (ps.map (·.2))=some vs) (hi:ps.map (·.1)=List.range' 0 len) (hv:vs=xs.map λx=>Value.agg (L.V x).toArray) (hl:len=xs.length) (hd:Nat.blt d n.n=true)
  (k:∀ b w1,b=w.heap.size->AD L e b w1 (.slice (some ⟨b,0,none⟩) len len) xs->CK b w w1->w1.heap.size=b+1->WL P n ops Q rest ((d,.slice (some ⟨b,0,none⟩) len len)::f) w1) :
  WL P n ops Q (⟨some d,.buildSlice t len ps.toArray,ty,pos,aft,none⟩::rest) f w:=by
 have o:0<len:=by simpa [Nat.blt_eq] using hl0
 have q:len * L.m<=1000:=by simpa using hl1
 have l:len<=len * L.m:=Nat.le_mul_of_pos_right _ L.pos
 refine WL.run hd (w':=w.alloc (.cells (L.flat xs).toArray e)) (v:=.slice (some ⟨w.heap.size,0,none⟩) len len) (λρ hρ=>?_) (k _ _ rfl (.inr ⟨w.heap.size,len,_,by rw [<- hl],DP _,B0.alloc _ _ _,by rw [<- hl];exact DP _,by unfold maxLen;omega,by rw [List.size_toArray,L.flat_len,<- hl];exact DP _,by show (L.flat xs).take _=_;rw [An (by rw [L.flat_len];exact DP _)]⟩) (CK.alloc _ _) (by simp))
 have g:=J9 hρ _ _ hx
 have c:(ps.toArray.map λ(i,x)=>(i,ρ x)).toList=(ps.map (·.1)).zip vs:=by
  rw [<- g];simp only [List.map_map,Array.toList_map]
  clear hx hi hv g
  induction ps with
  | nil=>rfl
  | cons p r ih=>simpa using ih
 have a:=Sz L xs 0 [] ((Array.range (len * L.m)).map (λx=>z.cells[x % z.cells.size]!)).toList (by simp) (by simp [hl])
 simp only [C4,Array.toArray_toList] at a
 rw [hi,hl,hv] at c
 rw [<- hl] at c a
 have h:¬ len * L.m=0:=by omega
 have j:¬ 16777216<len * L.m:=by omega
 unfold execOp
 simp only [Instr.buildSlice,Ca,Bz hu,hs,BT,c]
 rw [A2 oO,A2 h]
 simp only [Ca,hz,D3,BT,a]
 simp [newRow]
theorem Kb {ops:Array Oper} {Q:Exit->Fr->World->Prop} {w:World} {rest:List Oper} {ty:Nat} {pos:String} {aft:Array Edge} {t e:TypeId} {x y:Operand} {B nn c:Nat} {p:Option Addr} {l:List α} {vs:List Value} (o:α) (k:Nat)
  (hown:AD L e B w (.slice p nn c) l) (hk:k<l.length) (hi:(P.info? t).map (·.size)=some L.m) (hx:CM f x=some (.pointer (some ((pA p).add (k * L.m))))) (hy:CM f y=some (.agg vs.toArray)) (hv:vs=L.V o)
  (kk:∀ w1 g,p=some ⟨g,0,none⟩->CK g w w1->AD L e B w1 (.slice p nn c) (l.set k o)->WL P n ops Q rest f w1) :
  WL P n ops Q (⟨none,.store t x y,ty,pos,aft,none⟩::rest) f w:=by
 subst hv
 rcases hown with ⟨j,u⟩ | ⟨g,cap,cur,j,hB,hg,h,q,v,d⟩
 · rw [u] at hk;simp only [Ak] at hk;omega
 ·
  cases j;have a:=L.len o;have A:=L.flat_len l;have C:k * L.m+L.m<=l.length * L.m:=by rw [<- Nat.succ_mul];exact D4 _ hk
  have D:l.length * L.m<=c * L.m:=D4 _ h;have s:=run_storeCells_at P g (k * L.m) e (L.V o) 0 cur w hg (by rw [a];omega) (L.one o);rw [show pA (some (⟨g,0,none⟩:Addr))=⟨g,0,none⟩ from rfl,HG,Do] at hx;have b:(l.set k o).length=l.length:=List.length_set;refine QP (w':=w.setRow g (cur.toList.take (k * L.m+0)++L.V o++cur.toList.drop (k * L.m+0+(L.V o).length)).toArray) (λρ hρ=>?_)
   (kk _ g rfl (CK.setRow _ _ _) (.inr ⟨g,c,_,by rw [b],hB,setRow_heap w g cur _ e _ hg,by rw [b];exact h,q,?_,?_⟩))
  ·
   cases hq:P.info? t with
   | none=>simp [hq] at hi
   | some i =>
    have hs:i.size=L.m:=by simpa [hq] using hi
    unfold execOp;simp [hρ _ _ hx,hρ _ _ hy,Instr.storeAt,Instr.sureAddr,storeVar,Ca,sizeOf,typeInfo,hq,hs,Value.cells,a,s]
  ·
   simp only [List.size_toArray,A8,At,Au,Array.length_toList,a]
   omega
  ·
   rw [b,<- Rr L l k hk o,Nat.add_zero,a,<- d];rw [List.take_take,Nat.min_eq_left oO];rw [AS,AS,ZO,ZO];simp only [At,Array.length_toList,a];rw [Nat.min_eq_left oO,List.take_take,Nat.min_eq_right oO,An (l:=L.V o) oO,List.drop_take]
   congr 3
   omega
theorem Z7 (L:FW α) (o:α) (cs:Array Value) (hc:cs.toList=L.V o) (j:Nat):(madeCells cs (j * L.m)).toList=L.flat (List.replicate j o):=by
 have c:cs.size=L.m:=by rw [<- Array.length_toList,hc,L.len]
 refine List.ext_getElem? λq=>?_
 have a:=L.pos
 rcases Bu q (j * L.m) with hq | hq
 ·
  have d:q / L.m<j:=(Nat.div_lt_iff_lt_mul a).2 hq
  have b:q % L.m<L.m:=Nat.mod_lt _ a
  have e:=L.flat_at (List.replicate j o) (q / L.m) (by simpa using d) (q % L.m) b
  rw [Nat.mul_comm,Nat.div_add_mod] at e
  rw [e,List.getElem_replicate,<- hc]
  simp [madeCells,hq,c,b]
 · rw [AZ (by simp [madeCells];exact hq),AZ (by rw [L.flat_len,CT];exact hq)]
theorem Xa {ops:Array Oper} {Q:Exit->Fr->World->Prop} {w:World} {rest:List Oper} {d ty:Nat} {pos:String} {aft:Array Edge} {t e:TypeId} {x y:Operand} {z:Value} {by':Nat} {kl kc:IntKind} (o:α) (j:Nat)
  (ht:P.underlying t=some (.slice e)) (hi:(P.info? e).map (λi=>(i.zero,i.size,i.bytes))=some (some z,L.m,by')) (hby2:Nat.ble by' 1000=true) (hz:z.cells.toList=L.V o)
  (hx:CM f x=some (.int kl j)) (hy:CM f y=some (.int kc j)) (hj:j<=10000) (hm:L.m<=1000) (hd:Nat.blt d n.n=true)
  (k:∀ w1,AD L e w.heap.size w1 (.slice (some ⟨w.heap.size,0,none⟩) j j) (List.replicate j o)->AL w w1->WL P n ops Q rest ((d,.slice (some ⟨w.heap.size,0,none⟩) j j)::f) w1) :
  WL P n ops Q (⟨some d,.makeSlice t x y,ty,pos,aft,none⟩::rest) f w:=by
 cases hh:P.info? e with
 | none=>rw [hh] at hi;cases hi
 | some i =>
  rw [hh] at hi;simp only [Option.map_some,BN,CA] at hi;obtain ⟨c,a,g⟩:=hi;have b:i.bytes<=1000:=by rw [g];simpa using hby2
  have hb1:i.bytes * j<=1000 * j:=D4 _ b;have u:j * L.m<=j * 1000:=Nat.mul_le_mul_left _ hm;obtain ⟨w',q,h,s⟩:=run_makeSlice_full (P:=P) (w:=w) w.heap.size t e i z L.m ht hh c a kl kc j oO oO (by unfold maxLen;omega) (DP _);rw [Z7 L o z.cells hz j] at h;have l:AD L e w.heap.size w' (.slice (some ⟨w.heap.size,0,none⟩) j j) (List.replicate j o):=HH (by rw [CT];exact h);refine WL.run hd (λρ hρ=>?_) (k w' l ((Gb _ _).grown s (DP _) λk hk=>by cases hk));unfold execOp;simp [hρ _ _ hx,hρ _ _ hy,q]
end
theorem AD.rowp {α:Type} {L:FW α} {e:TypeId} {B n c:Nat} {w:World} {p:Option Addr} {l:List α} (h:AD L e B w (.slice p n c) l):AG L w p l:=by
 obtain ⟨p',c',hv,hr,-⟩:=h.row
 cases hv
 exact hr
end
section
open Go.RowKit Go.WideShapes Go.ChangeShapes
structure A7R (o:Option Nat) (w w1:World):Prop where
 os:w1.os=w.os
 tape:w1.tape=w.tape
 output:w1.output=w.output
 size:w1.heap.size=w.heap.size
 block:∀ k,o≠some k->w1.heap[k]?=w.heap[k]?
theorem B0.grown {w w1:World} {c:Nat} {row:Option Nat} {cs:Array Value} {t:TypeId} (h:B0 w c cs t) (hg:w.grownBy w1 row) (hc:row≠some c):B0 w1 c cs t:=(hg.block c h.lt λe=>hc e.symm).trans h
theorem C7 {B B':Nat} {S S':List Nat} {a b:World} (h:AR B' S a b) (hB:B<=B') (hS:∀ g∈S,g∈S'\/B<=g):AR B S' a b:=⟨h.os,h.tape,h.output,h.size,λi hi hn=>h.block i oO λhm=>(hS i hm).elim hn λq=>by omega⟩
theorem B3.keepB {α:Type} {V:α->Value} {B:Nat} {S:List Nat} {w w1:World} {p:Option Addr} {l:List α} (h:B3 V w p l) (hT:AR B S w w1) (hp:0<l.length->(pA p).block<B/\(pA p).block ∉ S):B3 V w1 p l :=
 ⟨h.isp,λj hj=>by rw [World.cell?_of_block (w:=w) (by rw [Ee];exact hT.block _ (hp oO).1 (hp oO).2)];exact h.cells j hj⟩
theorem Ag.keepB {B:Nat} {S:List Nat} {w w1:World} {p:Option Addr} {l:l8_} (h:Ag w p l) (hT:AR B S w w1) (hp:0<l.length->(pA p).block<B/\(pA p).block ∉ S):Ag w1 p l :=
 ⟨h.isp,λj hj=>by rw [World.cell?_of_block (w:=w) (by rw [Ee];exact hT.block _ (hp oO).1 (hp oO).2)];exact h.cells j hj⟩
theorem Yf {P:Program} {f:Fr} {tx ty e:TypeId} {x:Operand} {p:Option Addr} {l:l8_} {n c:Nat} {w:World} (hu:P.underlying tx=some (.slice e)) (he:P.underlying e=some (.int .u8)) (ht:P.underlying ty=some .string)
  (hx:CM f x=some (.slice p n c)) (hn:n=l.length) (hb:Ag w p l):Rd P (.convert tx ty x) f w (.string (bs l)):=Fm hu he ht (hn▸hx) hb
end
section
section
variable {P:Program} {n:Sh} {f:Fr}
theorem X8 {ops:Array Oper} {Q:Exit->Fr->World->Prop} {w:World} {rest:List Oper} {ty:Nat} {pos:String} {aft:Array Edge} {t tb:TypeId} {x y:Operand} {p:Addr} {b o:Nat} {cs:Array Value} {v:Value} (new:Array Value)
  (hs:∀ w,(sizeOf t).run P w=.ok 1 w) (hx:CM f x=some (.pointer (some p))) (hp:p=⟨b,o,none⟩) (hy:CM f y=some v) (h1:v.oneCell'=true) (hb:B0 w b cs tb) (ho:o<cs.size) (hn:cs.setIfInBounds o v=new)
  (k:∀ w1,B0 w1 b new tb->CK b w w1->w1.heap.size=w.heap.size->WL P n ops Q rest f w1):WL P n ops Q (⟨none,.store t x y,ty,pos,aft,none⟩::rest) f w:=by
 subst hp
 exact Br hs hx hy h1 hb ho λw1 hk hu a=>k w1 (hn▸hk) hu a
theorem GP {P:Program} {n:Sh} {f:Fr} {ops:Array Oper} {Q:Exit->Fr->World->Prop} {w:World} {rest:List Oper} {ty:Nat} {pos:String} {aft:Array Edge} {t tb:TypeId} {x y:Operand} {b:Nat} {cs:Array Value} {v:Value} (o:Nat) (new:Array Value) (hb:B0 w b cs tb) (hs:∀ w,(sizeOf t).run P w=.ok 1 w) (k:∀ w1,B0 w1 b new tb->CK b w w1->w1.heap.size=w.heap.size->WL P n ops Q rest f w1) (hx:CM f x=some (.pointer (some ⟨b,o,none⟩)):=by rfl) (hy:CM f y=some v:=by rfl) (h1:v.oneCell'=true:=by rfl) (ho:o<cs.size:=by first | decide | exact Nat.le_of_ble_eq_true rfl) (hn:cs.setIfInBounds o v=new:=by rfl):WL P n ops Q (⟨none,.store t x y,ty,pos,aft,none⟩::rest) f w:=X8 (o:=o) new hs hx rfl hy h1 hb ho hn k
theorem A5v {ops:Array Oper} {Q:Exit->Fr->World->Prop} {w:World} {rest:List Oper} {ty:Nat} {pos:String} {aft:Array Edge} {t tb:TypeId} {x y:Operand} {p:Addr} {b o:Nat} {cs:Array Value} {vs:List Value} (new:Array Value)
  (hx:CM f x=some (.pointer (some p))) (hp:p=⟨b,o,none⟩) (hy:CM f y=some (.agg vs.toArray)) (hb:B0 w b cs tb) (hi:(P.info? t).map (·.size)=some vs.length) (h1:Z1 vs=true) (ho:o+vs.length<=cs.size) (hn:(cs.toList.take o++vs++cs.toList.drop (o+vs.length)).toArray=new)
  (k:∀ w1,B0 w1 b new tb->CK b w w1->w1.heap.size=w.heap.size->WL P n ops Q rest f w1):WL P n ops Q (⟨none,.store t x y,ty,pos,aft,none⟩::rest) f w:=by
 subst hp
 have a:=run_storeCells_at P b o tb vs 0 cs w hb oO (Q8 h1)
 simp only [Nat.add_zero] at a
 have c:=hb.lt
 refine QP (w':=w.setRow b (cs.toList.take o++vs++cs.toList.drop (o+vs.length)).toArray) (λρ hρ=>?_)
  (k _ (hn▸setRow_heap w b cs _ tb _ hb) (CK.setRow _ _ _) (by simp [World.setRow]))
 cases hq:P.info? t with
 | none=>simp [hq] at hi
 | some i =>
  have hs:i.size=vs.length:=by simpa [hq] using hi
  unfold execOp;simp [hρ _ _ hx,hρ _ _ hy,Instr.storeAt,Instr.sureAddr,storeVar,Ca,sizeOf,typeInfo,hq,hs,Value.cells,a]
theorem QO {P:Program} {n:Sh} {f:Fr} {ops:Array Oper} {Q:Exit->Fr->World->Prop} {w:World} {rest:List Oper} {ty:Nat} {pos:String} {aft:Array Edge} {t tb:TypeId} {x y:Operand} {b:Nat} {cs:Array Value} {vs:List Value} (o:Nat) (new:Array Value) (hb:B0 w b cs tb) {z:Nat} (hi:(P.info? t).map (·.size)=some z) (k:∀ w1,B0 w1 b new tb->CK b w w1->w1.heap.size=w.heap.size->WL P n ops Q rest f w1) (hx:CM f x=some (.pointer (some ⟨b,o,none⟩)):=by rfl) (hy:CM f y=some (.agg vs.toArray):=by rfl) (h1:Z1 vs=true:=by rfl) (ho:o+vs.length<=cs.size:=by first | decide | exact Nat.le_of_ble_eq_true rfl) (hn:(cs.toList.take o++vs++cs.toList.drop (o+vs.length)).toArray=new:=by rfl) (hl:vs.length=z:=by rfl):WL P n ops Q (⟨none,.store t x y,ty,pos,aft,none⟩::rest) f w:=A5v (o:=o) new hx rfl hy hb (hl▸hi) h1 ho hn k
end
end
section
theorem XU (a b:Int) (w:World):Cb 241 #[Af a,Af b] w (Sb (OR a b)):=by
 refine Ar func241 rfl ntmps241 ?_
 have i:=CN w
 refine A4<|Ct rfl<|A9 rfl<|Ad<|A4<|A3 rfl<|A3 rfl<|Cs (ps:=_) IX Bw Yj rfl rfl rfl rfl rfl pR rfl (λy x j f g u=>?_)
 have c:=uB i j g
 have k:=B3.lit (V:=LZ) (l:=[a,b]) f (rfl)
 refine Cm BK rfl rfl ((XT _ [a,b] 2 _ k (by simp))) (λB m=>?_)
 obtain rfl:=m
 refine A1 (.not rfl)<|A0<|Ai rfl (λh=>?_) (λh=>?_)
 have o:=(nT h)
 refine A4<|Ct rfl<|A9 rfl<|AT (D0 rfl rfl rfl ?_)
 exact ⟨LF (by unfold OR;rw [A2 (by simp_all)]),c⟩
 have o:=(nF h)
 have d:Cy a=true/\Cy b=true:=by simp_all
 have v:=Z5 d.1 d.2
 refine Ap<|A4<|A3 rfl<|A3 rfl<|A1 (.mul rfl rfl (Ba oO))<|Cm BK rfl rfl ((A1r _ _ _ v dD)) (λC q=>?_)
 have s:=Ci c q
 refine Ao (Qw _ _) (λD t=>?_)
 obtain rfl:=t
 refine A1 (.ext rfl rfl)<|A1 (.ext rfl rfl)<|Ct rfl<|A9 rfl<|AT (D0 rfl rfl rfl ?_)
 exact ⟨DO (by unfold OR;rw [A7 (by simp_all)];rfl),s⟩
theorem A3z (p:Option Addr) (l:List Int) (c:Nat) (w:World) (hr:B3 LZ w p l) (hl:l.length<=9223372036854775807) :
  Cb 287 #[.slice p l.length c] w (Sb (R8 0 l)):=by
 refine Ar func287 rfl ntmps287 ?_
 have k:=CN w
 refine A4<|Ct rfl<|A9 rfl<|A4<|A9 rfl<|Ad<|A4<|A3 rfl<|A1 (.lenS IX rfl)<|A3 rfl<|A0<|AO<|BM (α:=Nat × Int) (λt=>[(4,Af t.2),(8,.slice p l.length c),(9,Af (l.length:Int)),(10,Af (t.1:Int))]) (λt w'=>AL w w'/\B3 LZ w' p l/\t.1<=l.length/\R8 t.2 (l.drop t.1)=R8 0 l) (λt=>l.length-t.1) ((0,0)) ⟨rfl,rfl,rfl,rfl,tT⟩ (⟨k,hr,FI _,rfl⟩) (λt C hR=>?_)
 obtain ⟨⟨i,s⟩,m⟩:=eX t
 subst m
 obtain ⟨o,a,y,b⟩:=hR
 simp only at y b
 refine A4<|A1 (.lss rfl rfl)<|A0<|Ad<|Ai rfl (λh=>?_) (λh=>?_)
 have q:=dT h
 have u:i<l.length:=by omega
 have d:R8 s (l.drop i)=if (RH s l[i]).2=0 then R8 (RH s l[i]).1 (l.drop (i+1)) else (0,(RH s l[i]).2):=by rw [Aw u,R8]
 refine Ap<|Ad<|AO<|A4<|A1 (.ixb IX Bw rfl rfl (a.isp oO) (i) (rfl) oO)<|Ah (Bq (BZ _) rfl (a.cells (i) oO))<|A9 rfl<|A4<|A9 rfl<|A4<|A3 rfl<|A3 rfl<|Ao (A3A _ _ _) (λD f=>?_)
 have v:=B3.below a f (λB=>a.lt B)
 have g:=Ci o f
 refine A3 rfl<|A1 (.ext rfl rfl)<|A1 (.ext rfl rfl)<|Ct rfl<|A9 rfl<|A4<|A3 rfl<|A1 (.neq rfl rfl)<|A0<|Ai rfl (λj=>?_) (λj=>?_)
 have x:=ndT j
 refine A4<|A3 rfl<|Ct rfl<|A9 rfl<|AT (D0 rfl rfl rfl ?_)
 exact ⟨LF (by rw [<- b,d,A2 aS]),g⟩
 have x:=ndF j
 refine Ap<|Am<|A1 (.iis (((i+1:Nat):Int)) (.add rfl rfl (Ba oO)) oO)<|A3 rfl<|A0<|?_
 exact ⟨(i+1,(RH s l[i]).1),⟨rfl,rfl,rfl,rfl,tT⟩,⟨g,v,oM,by rw [<- b,d,A7 aS]⟩,oM⟩
 have q:=dF h
 refine BF<|A4<|A3 rfl<|Ct rfl<|A9 rfl<|AT (D0 rfl rfl rfl ?_)
 exact ⟨LF (by rw [<- b,Bv oO];rfl),o⟩
def stC (e:Int):Array Value:=#[Af e]
theorem UJ (bs_:Nat) (s n e:Int) (w:World) (h:B0 w bs_ (stC s) 311) :
  Calls Tryz.prog 281 #[ptV bs_,Af n,Af e] w λr w'=>r=.returned (Af n)/\AR w.heap.size [bs_] w w'/\B0 w' bs_ (stC (Me s e)) 311:=by
 refine Ar func281 rfl ntmps281 ?_
 have a:=AR.refl w.heap.size ([bs_]) w
 refine A4<|A9 rfl<|Ad<|A4<|A3 rfl<|A1 (.nck rfl)<|A1 (.fa underlying311 rfl EJ dD rfl)<|Ah (Ae (Ed _) rfl h rfl)<|A1 (.eql rfl rfl)<|A0<|Ai rfl (λd=>?_) (λd=>?_)
 have g:=dT d
 refine Am<|A3 rfl<|A3 rfl<|A1 (.nck rfl)<|A1 (.fa underlying311 rfl EJ dD rfl)<|GP 0 (stC e) h EJ (λj b f i=>?_)
 have c:=Dl a (by exact QY f (by simp))
 refine A0<|A4<|A3 rfl<|A9 rfl<|AW ?_
 first
 | exact ⟨rfl,c,by unfold Me;rw [A7 aS];exact b⟩
 | exact ⟨rfl,c,by unfold Me;rw [A2 aS];exact b⟩
 have g:=dF d
 refine Ap<|A4<|A3 rfl<|A9 rfl<|AW ?_
 first
 | exact ⟨rfl,a,by unfold Me;rw [A7 aS];exact h⟩
 | exact ⟨rfl,a,by unfold Me;rw [A2 aS];exact h⟩
theorem XF (bs_:Nat) (s a b:Int) (w:World) (h:B0 w bs_ (stC s) 311) :
  Calls Tryz.prog 284 #[ptV bs_,Af a,Af b] w λr w'=>r=.returned (Af (OR a b).1)/\AR w.heap.size [bs_] w w'/\B0 w' bs_ (stC (Me s (OR a b).2)) 311:=by
 refine Ar func284 rfl ntmps284 ?_
 have f:=AR.refl w.heap.size ([bs_]) w
 refine A4<|A9 rfl<|A4<|A3 rfl<|A3 rfl<|A3 rfl<|Ao (XU _ _ _) (λk c=>?_)
 have g:=h.bl c
 have d:=kB f c
 refine A1 (.ext rfl rfl)<|A1 (.ext rfl rfl)<|Ao (UJ bs_ s _ _ _ g) (λl e=>?_)
 have i:=Dl d (C7 e.1 d.size (by simp <;> omega))
 have j:=e.2
 refine A9 rfl<|AW ?_
 exact ⟨rfl,i,j⟩
theorem A3i (bs_:Nat) (s:Int) (p:Option Addr) (l:List Int) (c:Nat) (w:World) (h:B0 w bs_ (stC s) 311) (hr:B3 LZ w p l) (hl:l.length<=9223372036854775807) :
  Calls Tryz.prog 285 #[ptV bs_,.slice p l.length c] w λr w'=>r=.returned (Af (R8 0 l).1)/\AR w.heap.size [bs_] w w'/\B0 w' bs_ (stC (Me s (R8 0 l).2)) 311:=by
 refine Ar func285 rfl ntmps285 ?_
 have e:=AR.refl w.heap.size ([bs_]) w
 refine A4<|A9 rfl<|A4<|A3 rfl<|A3 rfl<|Ao (A3z p l c _ hr hl) (λj a=>?_)
 have f:=h.bl a
 have b:=kB e a
 refine A1 (.ext rfl rfl)<|A1 (.ext rfl rfl)<|Ao (UJ bs_ s _ _ _ f) (λk d=>?_)
 have g:=Dl b (C7 d.1 b.size (by simp <;> omega))
 have i:=d.2
 refine A9 rfl<|AW ?_
 exact ⟨rfl,g,i⟩
def ivL:FW Int:=⟨1,λn=>[Af n],dD,λ_=>rfl,λx u hu=>by simp only [B8] at hu;subst hu;rfl⟩
theorem A15 (l:List Int):ivL.flat l=l.map LZ:=by
 unfold FW.flat
 induction l with
 | nil=>rfl
 | cons a r ih=>rw [DD,ih];rfl
theorem AD.ofI {e:TypeId} {B:Nat} {w:World} {v:Value} {l:List Int} (h:CP e B w v (l.map LZ)):AD ivL e B w v l:=by
 have hl:(l.map LZ).length=l.length:=By _
 refine HH ?_
 rw [A15,<- hl];exact h
theorem AG.ofI {w:World} {p:Option Addr} {l:List Int} (h:AG ivL w p l):B3 LZ w p l:=⟨h.isp,λj hj=>by
 have:=h.cells j hj 0 dD
 rw [show j * ivL.m+0=j by show j * 1+0=j;omega] at this
 exact this⟩
theorem A17:(Tryz.prog.info? 3).map (λi=>(i.zero,i.size,i.bytes))=some (some (Af 0),1,8):=by kernel_rfl
theorem Pd (bs_:Nat) (s a x c y:Int) (p:Option Addr) (l:List Int) (cl:Nat) (w:World) (h:B0 w bs_ (stC s) 311) (hr:AG ivL w p l) (hl:l.length<=1000) (hcl:l=[]->cl=0\/p≠none) (hpb:0<l.length->(pA p).block≠bs_) :
  Calls Tryz.prog 275 #[ptV bs_,Af a,Af x,Af c,Af y,.slice p l.length cl] w λr w'=>r=.returned (Af (Yp s a x c y l).1)/\AR w.heap.size [bs_] w w'/\B0 w' bs_ (stC (Yp s a x c y l).2) 311:=by
 refine Ar func275 rfl ntmps275 ?_
 have D:=AR.refl w.heap.size ([bs_]) w
 refine A4<|A9 rfl<|A4<|A3 rfl<|A3 rfl<|A3 rfl<|Ao (XF bs_ s a x _ h) (λw1 e=>?_)
 have E:=NP hr e.1 (λb=>⟨hr.lt b,by simpa using (hpb) b⟩)
 have F:=Dl D (C7 e.1 D.size (by simp <;> omega))
 have Q:=e.2
 refine A3 rfl<|A3 rfl<|A3 rfl<|Ao (XF bs_ _ c y _ Q) (λw4 f=>?_)
 have G:=NP E f.1 (λb=>⟨E.lt b,by simpa using (hpb) b⟩)
 have H:=Dl F (C7 f.1 F.size (by simp <;> omega))
 have J:=f.2
 refine Cs (ps:=_) IX Bw Yj rfl rfl rfl rfl rfl pR rfl (λY R i K d a0=>?_)
 have T:=Bl i J.lt
 have U:=J.un d T
 have q:=λb=>i▸G.lt b
 have L:=AG.upd G d (λb=>CR (q b))
 have t:=CF i H.size
 have j:=Dl H (GT d t)
 have N:=CP.lit (m:=2) K rfl (by unfold maxLen;omega)
 have u:Y<=R.heap.size:=by omega
 have v:=AD.ofI (l:=[(OR a x).1,(OR c y).1]) N
 refine A9 rfl<|A4<|A3 rfl<|A3 rfl<|A3 rfl<|BS IX A17 rfl rfl rfl v rfl L oE (u) rfl (hcl) (λa1 a2 A B C X=>?_)
 have O:=U.below B oO
 have k:=Dl j (DZ C (λg hg=>.inr (by cases hg;omega)) j.size)
 obtain ⟨p6,c6,e6,h6,-⟩:=(A).row
 subst e6
 refine Cm BK rfl rfl ((A3i bs_ _ _ _ _ _ O h6.ofI (by rw [A8];simp only [Aa,Ak];omega))) (λa3 o=>?_)
 have P:=Dl k (C7 o.1 k.size (by simp <;> omega))
 have V:=o.2
 refine A9 rfl<|AW ?_
 exact ⟨rfl,P,V⟩
end
section
open Go.RowKit Go.WideShapes Go.ChangeShapes
def WH (P:Program) (n:Sh) (ops:Array Oper) (Q:Exit->Fr->World->Prop) (S:World->Prop) (fuel:Nat) (listed:Array Bool) (f:Fr) (w:World):Prop:=∀ a,OM n f a->wpAnyH P .any ops (IY n Q) S fuel listed a w
def dropS (d:Nat):Fr->Fr
 | []=>[]
 | (i,v)::f=>bif Nat.beq i d then dropS d f else (i,v)::dropS d f
theorem MI {d i:Nat}:∀ (f:Fr),look (dropS d f) i=if i=d then none else look f i
 | []=>by simp [dropS,look]
 | (j, v) :: f => by
  have ih:=MI (d:=d) (i:=i) f
  unfold dropS
  cases h:Nat.beq j d with
  | true =>
   obtain rfl:j=d:=BD h
   rw [cond_true,ih]
   by_cases hi:i=j
   · rw [A7 hi,A7 hi]
   ·
    have hb:Nat.beq j i=false:=by
     cases hq:Nat.beq j i with
     | true=>exact De (BD hq).symm hi
     | false=>rfl
    rw [A2 hi,A2 hi]
    show look f i=(bif Nat.beq j i then some v else look f i)
    rw [hb,cond_false]
  | false =>
   rw [cond_false]
   show (bif Nat.beq j i then some v else look (dropS d f) i)=if i=d then none else (bif Nat.beq j i then some v else look f i)
   cases hb:Nat.beq j i with
   | true =>
    obtain rfl:j=i:=BD hb
    have a:j≠d:=λq=>by rw [q,Nat.beq_refl] at h;cases h
    rw [cond_true,cond_true,A2 a]
   | false=>rw [cond_false,cond_false,ih]
theorem OM.dropS {n:Sh} {g:Fr} {a:Act} {d:Nat} {v:Value} (h:OM n g (a.put (some d) v)) (_:Nat.blt d n.n=true):OM n (dropS d g) a:=by
 refine ⟨h.1,by simpa [Act.put] using h.2.1,λi u hu=>?_⟩
 rw [MI] at hu
 by_cases hi:i=d
 · rw [A7 hi] at hu;cases hu
 ·
  rw [A2 hi] at hu
  have:=h.2.2 i u hu
  simp only [Act.put,AK] at this ⊢
  rwa [Array.getElem?_setIfInBounds_ne (λq=>hi q.symm)] at this
def PnK (g0:Fr) (Q:Exit->Fr->World->Prop):Exit->Fr->World->Prop
 | .panic c,f,w=>FL g0 f/\Q (.panic c) g0 w
 | e,f,w=>Q e f w
theorem RV {d:Nat}:∀ {g0 f:Fr},look g0 d=none->FL g0 f->FL g0 (dropS d f)
 | [],_,_,_=>trivial
 | (j,v)::g,f,h,hs=>by
  have hj:Nat.beq j d=false:=by
   cases hb:Nat.beq j d with
   | true=>rw [show look ((j,v)::g) d=(bif Nat.beq j d then some v else look g d) from rfl,hb] at h;cases h
   | false=>rfl
  rw [show look ((j,v)::g) d=(bif Nat.beq j d then some v else look g d) from rfl,hj,cond_false] at h
  refine ⟨?_,RV h hs.2⟩
  rw [MI,A2 (λq=>by rw [q,Nat.beq_refl] at hj;cases hj)]
  exact hs.1
theorem KD {g0 f:Fr} {Q:Exit->Fr->World->Prop} {d:Nat} {c:List PanicEntry} {w:World} (hd:look g0 d=none) (h:PnK g0 Q (.panic c) f w):PnK g0 Q (.panic c) (dropS d f) w:=⟨RV hd h.1,h.2⟩
theorem A4u {P:Program} {n:Sh} {f:Fr} {w:World} {c:Code} {Q:Exit->Fr->World->Prop} (g0:Fr) (hm:∀ c f w,FL g0 f->Q (.panic c) g0 w->Q (.panic c) f w) (h:W P n c (PnK g0 Q) f w):W P n c Q f w:=h.mono λe f w h=>by
 cases e with
 | panic ch=>exact hm ch f w h.1 h.2
 | normal=>exact h
 | ret=>exact h
 | exit i=>exact h
 | goto l=>exact h
 | outgrown=>exact h
section
variable {P:Program} {n:Sh} {f:Fr} {ops:Array Oper} {Q:Exit->Fr->World->Prop} {w:World} {fuel:Nat} {listed:Array Bool} {S:World->Prop}
theorem D6 {id:Nat} {l:List Oper} (N:Nat) (hN:l.length=N) (hm:P.follows .mixedOrders=true) (S:World->Prop) (h:∀ w1,C6 w w1->WH P n l.toArray Q S N (Array.replicate N false) f w1):W P n (.region id l.toArray true) Q f w:=by
 unfold W
 exact λa ha=>wp_region_held (S:=S) hm (by
  subst hN
  have:=h (w.drewN 1) ⟨1,rfl⟩ a ha
  rw [show l.toArray.size=l.length by simp]
  exact this)
theorem BX (i:Nat) {d ty:Nat} {pos:String} {aft:Array Edge} {op:Op} {v:Value} (hi:ops[i]?=some ⟨some d,op,ty,pos,aft,none⟩) (hp:∀ w',S w'->Rd P op f w' v) (hS:S w) (hd:Nat.blt d n.n=true)
  (k:WH P n ops Q S fuel (listed.setIfInBounds i true) ((d,v)::f) w) (hs:Region.noSelect ops=true:=by kernel_rfl) (hf:Region.free .any ops listed i=true:=by kernel_rfl)
  (hr:(Region.ready .any ops listed).contains i=true:=by kernel_rfl) (hQ:∀ c f w,Q (.panic c) f w->Q (.panic c) (dropS d f) w:=by first | exact λc f w h=>Lr h | exact λc f w h=>h | exact λc f w h=>KD rfl h):WH P n ops Q S (fuel+1) listed f w:=by
 intro a ha
 refine wpAnyH_take hi hs hf hr ?_ (.inl ⟨by simp [Region.wanted],λw' hw'=>hp w' hw' _ ha.agr _ _ _ _ _⟩) hS (k _ (ha.put hd v))
 rintro c b w' ⟨g,hg,hq⟩
 exact ⟨dropS d g,hg.dropS hd,hQ c g w' hq⟩
theorem A6I (i:Nat) {d ty:Nat} {pos:String} {aft:Array Edge} {op:Op} {v:Value} (hi:ops[i]?=some ⟨some d,op,ty,pos,aft,none⟩) (hp:BG P op f v) (hS:S w) (hd:Nat.blt d n.n=true)
  (k:WH P n ops Q S fuel (listed.setIfInBounds i true) ((d,v)::f) w) (hs:Region.noSelect ops=true:=by kernel_rfl) (hf:Region.free .any ops listed i=true:=by kernel_rfl)
  (hr:(Region.ready .any ops listed).contains i=true:=by kernel_rfl) (hQ:∀ c f w,Q (.panic c) f w->Q (.panic c) (dropS d f) w:=by first | exact λc f w h=>Lr h | exact λc f w h=>h | exact λc f w h=>KD rfl h):WH P n ops Q S (fuel+1) listed f w :=
 BX i hi (λ_ _=>hp.rd) hS hd k hs hf hr hQ
theorem Ab {P:Program} {n:Sh} {f:Fr} {ops:Array Oper} {Q:Exit->Fr->World->Prop} {w:World} {fuel:Nat} {listed:Array Bool} {S:World->Prop} (i:Nat) {d ty:Nat} {pos:String} {aft:Array Edge} {op:Op} {v:Value} (hi:ops[i]?=some ⟨some d,op,ty,pos,aft,none⟩) (hp:BG P op f v) (hS:S w) (k:WH P n ops Q S fuel (listed.setIfInBounds i true) ((d,v)::f) w) (hd:Nat.blt d n.n=true:=by rfl) (hs:Region.noSelect ops=true:=by kernel_rfl) (hf:Region.free .any ops listed i=true:=by kernel_rfl) (hr:(Region.ready .any ops listed).contains i=true:=by kernel_rfl) (hQ:∀ c f w,Q (.panic c) f w->Q (.panic c) (dropS d f) w:=by first | exact λc f w h=>Lr h | exact λc f w h=>h | exact λc f w h=>KD rfl h):WH P n ops Q S (fuel+1) listed f w:=A6I i hi hp hS hd k hs hf hr hQ
theorem A44 {ops:Array Oper} {a:Act} {j dj:Nat} {t:Bool} (hj:(ops[j]?).bind (·.dst)=some dj) (hval:a.tmps.getD dj undef=.bool t):yielded ops a.tmps j=some t:=by
 unfold yielded
 cases ho:ops[j]? with
 | none=>rw [ho] at hj;cases hj
 | some o =>
  rw [ho] at hj
  simp only [Option.bind_some] at hj
  have b:a.tmps[dj]?=some (.bool t):=by
   cases h:a.tmps[dj]? with
   | none=>rw [AK,h] at hval;cases hval
   | some v=>rw [AK,h] at hval;exact BJ some hval
  simp [hj,b]
theorem La (i:Nat) {d ty j dj:Nat} {b t:Bool} {pos:String} {aft:Array Edge} {op:Op} {v:Value} (hi:ops[i]?=some ⟨some d,op,ty,pos,aft,some (j,b)⟩) (hj:(ops[j]?).bind (·.dst)=some dj) (ht:look f dj=some (.bool t)) (e:t=b)
  (hp:∀ w',S w'->Rd P op f w' v) (hS:S w) (hd:Nat.blt d n.n=true)
  (k:WH P n ops Q S fuel (listed.setIfInBounds i true) ((d,v)::f) w) (hs:Region.noSelect ops=true:=by kernel_rfl) (hf:Region.free .any ops listed i=true:=by kernel_rfl)
  (hr:(Region.ready .any ops listed).contains i=true:=by kernel_rfl) (hQ:∀ c f w,Q (.panic c) f w->Q (.panic c) (dropS d f) w:=by first | exact λc f w h=>Lr h | exact λc f w h=>h | exact λc f w h=>KD rfl h):WH P n ops Q S (fuel+1) listed f w:=by
 intro a ha
 have l:=A44 hj (ha.2.2 _ _ ht)
 refine wpAnyH_take hi hs hf hr ?_ (.inl ⟨by simp [Region.wanted,l,e],λw' hw'=>hp w' hw' _ ha.agr _ _ _ _ _⟩) hS (k _ (ha.put hd v))
 rintro c b w' ⟨g,hg,hq⟩
 exact ⟨dropS d g,hg.dropS hd,hQ c g w' hq⟩
theorem Kk (i:Nat) {d ty j dj:Nat} {b t:Bool} {pos:String} {aft:Array Edge} {op:Op} (hi:ops[i]?=some ⟨some d,op,ty,pos,aft,some (j,b)⟩) (hj:(ops[j]?).bind (·.dst)=some dj) (ht:look f dj=some (.bool t)) (e:t=!b)
  (hS:S w) (hd:Nat.blt d n.n=true)
  (k:WH P n ops Q S fuel (listed.setIfInBounds i true) ((d,undef)::f) w) (hs:Region.noSelect ops=true:=by kernel_rfl) (hf:Region.free .any ops listed i=true:=by kernel_rfl)
  (hr:(Region.ready .any ops listed).contains i=true:=by kernel_rfl) (hQ:∀ c f w,Q (.panic c) f w->Q (.panic c) (dropS d f) w:=by first | exact λc f w h=>Lr h | exact λc f w h=>h | exact λc f w h=>KD rfl h):WH P n ops Q S (fuel+1) listed f w:=by
 intro a ha
 have l:=A44 hj (ha.2.2 _ _ ht)
 refine wpAnyH_take hi hs hf hr ?_ (.inr ⟨by simp only [Region.wanted,l,e];cases b <;> rfl,rfl⟩) hS (k _ (ha.put hd undef))
 rintro c b w' ⟨g,hg,hq⟩
 exact ⟨dropS d g,hg.dropS hd,hQ c g w' hq⟩
theorem A6J {dj:Nat} {t:Bool} (b:Bool) (_:look f dj=some (.bool t)) (hy:t=b->WH P n ops Q S fuel listed f w) (hn:t=!b->WH P n ops Q S fuel listed f w):WH P n ops Q S fuel listed f w:=by
 by_cases h:t=b
 · exact hy h
 · exact hn (by revert h;cases t <;> cases b <;> decide)
theorem WH.op (j:Nat) {o:Oper} (hi:ops[j]?=some o) (h:WL P n ops (nx (λf' w'=>S w'/\WH P n ops Q S fuel (listed.setIfInBounds j true) f' w') Q) [o] f w) (a:Act) (ha:OM n f a) :
  wpOp P ops (IY n Q) j (λa' w'=>S w'/\wpAnyH P .any ops (IY n Q) S fuel (listed.setIfInBounds j true) a' w') a w:=by
 unfold WL at h
 have:=h a ha
 unfold wpOp
 simp only [hi]
 have conv:∀ (e:Exit) (a:Act) (w:World),IY n (nx (λf' w'=>S w'/\WH P n ops Q S fuel (listed.setIfInBounds j true) f' w') Q) e a w->Exit.then (λa' w'=>S w'/\wpAnyH P .any ops (IY n Q) S fuel (listed.setIfInBounds j true) a' w') (IY n Q) e a w:=by
  rintro e a w ⟨g,hg,hq⟩
  cases e with
  | normal=>exact ⟨hq.1,hq.2 a hg⟩
  | _=>exact ⟨g,hg,hq⟩
 unfold wpList at this
 split
 ·
  next hwt =>
  rw [A7 hwt] at this
  refine this.imp (λh=>?_) λ⟨b,a',w',c⟩=>⟨b,a',w',conv _ _ _ c⟩
  have h':o.wp P a w (λa' w'=>S w'/\wpAnyH P .any ops (IY n Q) S fuel (listed.setIfInBounds j true) a' w') (IY n (nx (λf' w'=>S w'/\WH P n ops Q S fuel (listed.setIfInBounds j true) f' w') Q)) :=
   Oper.wp_mono (λa w h=>conv .normal a w h) h
  exact NH h' λe a w he h=>by
   cases e with
   | normal=>exact De rfl he
   | _=>exact conv _ a w h
 ·
  next hwt =>
  rw [A2 hwt] at this
  exact conv .normal _ _ this
theorem AX (i:Nat) {o:Oper} (hi:ops[i]?=some o) (h:WL P n ops (nx (λf' w'=>S w'/\WH P n ops Q S fuel (listed.setIfInBounds i true) f' w') Q) [o] f w) (hr:Region.ready .any ops listed=[i]:=by kernel_rfl):WH P n ops Q S (fuel+1) listed f w:=by
 intro a ha
 refine wpAnyH_all hr (by simp) λj hj=>?_
 obtain rfl:j=i:=by simpa using hj
 exact WH.op j hi h a ha
theorem FA (i:Nat) {o:Oper} (hi:ops[i]?=some o) (k:Nat) {o2:Oper} (hk:ops[k]?=some o2) (h:WL P n ops (nx (λf' w'=>S w'/\WH P n ops Q S fuel (listed.setIfInBounds i true) f' w') Q) [o] f w)
    (h2:WL P n ops (nx (λf' w'=>S w'/\WH P n ops Q S fuel (listed.setIfInBounds k true) f' w') Q) [o2] f w) (hr:Region.ready .any ops listed=[i,k]:=by kernel_rfl):WH P n ops Q S (fuel+1) listed f w:=by
  intro a ha
  refine wpAnyH_all hr (by simp) λj hj=>?_
  rcases A6.1 hj with rfl | hj
  · exact WH.op j hi h a ha
  · obtain rfl : j = k := by simpa using hj
    exact WH.op j hk h2 a ha
theorem BH (hr:Region.ready .any ops listed=[]) (h:Q .normal f w):WH P n ops Q S fuel listed f w:=λ_ ha=>wpAnyH_done hr ⟨f,ha,h⟩ fuel
end
attribute [irreducible] WH
end
section
theorem Ef:(Tryz.prog.info? 55).map (·.size)=some 6:=by kernel_rfl
def parts (c:Lh):List Int:=[c.fPart_0,c.fPart_1,c.fPart_2,c.fPart_3]
end
section
def ptR (r:(Int × Int) × Int):Value:=.tuple #[.agg #[Af r.1.1,Af r.1.2],Af r.2]
theorem A48 {b c:Nat} (h:c<b):(pA (some (⟨b,0,none⟩:Addr))).block≠c:=Nat.ne_of_gt h
theorem Sk (bs_:Nat) (s x y:Int) (w:World) (h:B0 w bs_ (stC s) 311) :
  Cb 276 #[ptV bs_,Af x,Af y] w (ptR (PZ s x y)):=by
 refine Ar func276 rfl ntmps276 ?_
 have v:=CN w
 refine A4<|Bj RM rfl (λL A l d e H=>?_)
 have B:=Bl l h.lt
 have a:=h.un e B
 have m:=uB v l e
 refine A9 rfl<|Ad<|A4<|A3 rfl<|A1 (.nck rfl)<|A1 (.fa underlying311 rfl EJ dD rfl)<|Ah (Ae (Ed _) rfl a rfl)<|A1 (.neq rfl rfl)<|A0<|Ai rfl (λq=>?_) (λq=>?_)
 have C:=ndT q
 refine Ad<|D6 7 rfl BR (λw'=>w'.heap[bs_]?=A.heap[bs_]?/\True) (λN f=>?_)
 have o:=a.drew f
 have D:=d.drew f
 have E:=C6.below m f
 have b:=Bs (o.trans a.symm) Bi
 refine Ab 0 rfl (.buildL (ps:=_) MU rfl rfl rfl pZ) b ?_
 refine Ab 1 rfl (.mv rfl) b ?_
 refine Ab 2 rfl (.nck rfl) b ?_
 refine Ab 3 rfl (.fa underlying311 rfl EJ dD rfl) b ?_
 refine BX 4 rfl (λw' hw'=>Ae (Ed _) rfl ((hw'.1).trans a) rfl) b rfl ?_
 refine AX 5 rfl<|Ax rfl rfl D Hq rfl rfl (λJ i c F=>?_)
 have g:=o.up c
 have t:=BU E oO c
 refine A0<|⟨⟨(g).trans (a).symm,tT⟩,?_⟩
 refine Ab 6 rfl (.as rfl) ⟨(g).trans (a).symm,tT⟩ ?_
 refine BH kR<|AT (Dn rfl rfl (Be i GU rfl Hq) rfl ?_)
 exact ⟨DO (by unfold PZ;rw [A7 aS];rfl),t⟩
 have C:=ndF q
 refine Ap<|A4<|A3 rfl<|A3 rfl<|?_
 refine A1 (.buildL (ps:=_) MU rfl rfl rfl pS) ?_
 refine Ax rfl rfl d Hq rfl rfl (λK j k G=>?_)
 have u:=BU m oO k
 refine A9 rfl<|AT (Dn rfl rfl (Be j GU rfl Hq) rfl ?_)
 exact ⟨DO (by unfold PZ;rw [A2 (by simp_all)];rfl),u⟩
theorem Z6 (m:M6) (x y:Int) (w:World) :
  Cb 261 #[.agg (Mm m).toArray,.agg #[Af x,Af y]] w (ptR (X7 m x y)):=by
 obtain ⟨a,b,c,d,e,f⟩:=m
 simp only [Mm]
 refine Ar func261 rfl ntmps261 ?_
 have aB:=CN w
 refine A4<|WL.box rfl rfl (λb1 aS aC D ab aM=>?_)
 have aD:=uB aB aC ab
 refine WL.box rfl rfl (λb3 aT a7 E F aN=>?_)
 have aE:=Bl a7 D.lt
 have a8:=D.un F aE
 have aF:=uB aD a7 F
 refine Bj RM rfl (λb7 aU G H u aO=>?_)
 have aG:=Bl G a8.lt
 have a9:=a8.un u aG
 have ac:=Bl G E.lt
 have J:=E.un u ac
 have ad:=uB aF G u
 refine A9 rfl<|A4<|Bj zeroValue311 rfl (λK aP q C i aI=>?_)
 have ae:=Bl q a9.lt
 have j:=a9.un i ae
 have af:=Bl q J.lt
 have s:=J.un i af
 have ag:=Bl q H.lt
 have L:=H.un i ag
 have ah:=uB ad q i
 refine A0<|A4<|A1 (.ixr1 FN Bw rfl rfl 0 rfl oO)<|Ah (Ae (BZ _) rfl j rfl)<|A1 (.fa GU rfl Bw dD rfl)<|Ah (Ae (BZ _) rfl s rfl)<|A1 (.ixr1 FN Bw rfl rfl 2 rfl oO)<|Ah (Ae (BZ _) rfl j rfl)<|A1 (.fa GU rfl Bw dD rfl)<|Ah (Ae (BZ _) rfl s rfl)<|A1 (.ixr1 FN Bw rfl rfl 4 rfl oO)<|Ah (Ae (BZ _) rfl j rfl)<|Cs (ps:=_) IX Bw Yj rfl rfl rfl rfl rfl pR rfl (λaV aQ k a1 g aJ=>?_)
 have ai:=Bl k j.lt
 have N:=j.un g ai
 have aj:=Bl k s.lt
 have P:=s.un g aj
 have ak:=Bl k L.lt
 have Q:=L.un g ak
 have am:=Bl k C.lt
 have an:=C.un g am
 have T:=uB ah k g
 have ao:=CP.lit (m:=1) a1 rfl (by unfold maxLen;omega)
 have a2:=AD.ofI (l:=[e]) ao
 refine Cm BK rfl rfl ((Pd K 0 a x c y _ [e] 1 _ an (a2).rowp (by simp) (λh=>by simp at h) (λ_=>A48 oO))) (λaW o=>?_)
 have v:=B0.keepB N o.1 N.lt (by simp only [A6,A5,As,not_or,Ac];omega)
 have U:=B0.keepB P o.1 P.lt (by simp only [A6,A5,As,not_or,Ac];omega)
 have V:=B0.keepB Q o.1 Q.lt (by simp only [A6,A5,As,not_or,Ac];omega)
 have ap:=Ej T (AR.below o.1 T.size (by simp <;> omega))
 have aa:=o.2
 refine A9 rfl<|A4<|A1 (.ixr1 FN Bw rfl rfl 1 rfl oO)<|Ah (Ae (BZ _) rfl v rfl)<|A1 (.fa GU rfl Bw dD rfl)<|Ah (Ae (BZ _) rfl U rfl)<|A1 (.ixr1 FN Bw rfl rfl 3 rfl oO)<|Ah (Ae (BZ _) rfl v rfl)<|A1 (.fa GU rfl Bw dD rfl)<|Ah (Ae (BZ _) rfl U rfl)<|A1 (.ixr1 FN Bw rfl rfl 5 rfl oO)<|Ah (Ae (BZ _) rfl v rfl)<|Cs (ps:=_) IX Bw Yj rfl rfl rfl rfl rfl pR rfl (λaX aR A a3 t aK=>?_)
 have aq:=Bl A V.lt
 have X:=V.un t aq
 have ar:=Bl A aa.lt
 have au:=aa.un t ar
 have Y:=uB ap A t
 have av:=CP.lit (m:=1) a3 rfl (by unfold maxLen;omega)
 have a4:=AD.ofI (l:=[f]) av
 refine Cm BK rfl rfl ((Pd K _ b x d y _ [f] 1 _ au (a4).rowp (by simp) (λh=>by simp at h) (λ_=>A48 oO))) (λaY B=>?_)
 have aw:=B0.keepB X B.1 X.lt (by simp only [A6,A5,As,not_or,Ac];omega)
 have ax:=Ej Y (AR.below B.1 Y.size (by simp <;> omega))
 have aH:=B.2
 refine A9 rfl<|A4<|A3 rfl<|A3 rfl<|Ao (Sk K _ _ _ _ aH) (λaZ a0=>?_)
 have ay:=aw.bl a0
 have az:=Ci ax a0
 refine A1 (.ext rfl rfl)<|A1 (.ext rfl rfl)<|Ax rfl rfl ay Hq rfl rfl (λa' a5 a6 aL=>?_)
 have aA:=BU az oO a6
 refine A9 rfl<|AT (Dn rfl rfl (Be a5 GU rfl Hq) rfl ?_)
 exact ⟨rfl,aA⟩
theorem Sl (m:M6) (x y:Int) (w:World) :
  Cb 260 #[.agg (Mm m).toArray,.agg #[Af x,Af y]] w (ptR (QB m x y)):=by
 obtain ⟨a,b,c,d,e,f⟩:=m
 simp only [Mm]
 refine Ar func260 rfl ntmps260 ?_
 have a8:=CN w
 refine A4<|WL.box rfl rfl (λb1 an a9 s V ai=>?_)
 have aa:=uB a8 a9 V
 refine WL.box rfl rfl (λb3 ao Q t u aj=>?_)
 have ab:=Bl Q s.lt
 have T:=s.un u ab
 have ac:=uB aa Q u
 refine Bj RM rfl (λb7 ap v A o ak=>?_)
 have ad:=Bl v T.lt
 have U:=T.un o ad
 have X:=Bl v t.lt
 have B:=t.un o X
 have Y:=uB ac v o
 refine A9 rfl<|A4<|Bj zeroValue311 rfl (λC am j L g ag=>?_)
 have a0:=Bl j U.lt
 have k:=U.un g a0
 have a1:=Bl j B.lt
 have l:=B.un g a1
 have a2:=Bl j A.lt
 have D:=A.un g a2
 have E:=uB Y j g
 refine A0<|A4<|A1 (.ixr1 FN Bw rfl rfl 0 rfl oO)<|Ah (Ae (BZ _) rfl k rfl)<|A1 (.fa GU rfl Bw dD rfl)<|Ah (Ae (BZ _) rfl l rfl)<|A1 (.ixr1 FN Bw rfl rfl 2 rfl oO)<|Ah (Ae (BZ _) rfl k rfl)<|A1 (.fa GU rfl Bw dD rfl)<|Ah (Ae (BZ _) rfl l rfl)<|Cm BK rfl rfl ((Pd C 0 a x c y _ [] 0 _ L (AG.nil _) (by simp) (λ_=>.inl rfl) (λh=>by simp at h))) (λaq i=>?_)
 have F:=B0.keepB k i.1 k.lt (by simp only [A6,A5,As,not_or,Ac];omega)
 have G:=B0.keepB l i.1 l.lt (by simp only [A6,A5,As,not_or,Ac];omega)
 have H:=B0.keepB D i.1 D.lt (by simp only [A6,A5,As,not_or,Ac];omega)
 have J:=Ej E (AR.below i.1 E.size (by simp <;> omega))
 have ae:=i.2
 refine A9 rfl<|A4<|A1 (.ixr1 FN Bw rfl rfl 1 rfl oO)<|Ah (Ae (BZ _) rfl F rfl)<|A1 (.fa GU rfl Bw dD rfl)<|Ah (Ae (BZ _) rfl G rfl)<|A1 (.ixr1 FN Bw rfl rfl 3 rfl oO)<|Ah (Ae (BZ _) rfl F rfl)<|A1 (.fa GU rfl Bw dD rfl)<|Ah (Ae (BZ _) rfl G rfl)<|Cm BK rfl rfl ((Pd C _ b x d y _ [] 0 _ ae (AG.nil _) (by simp) (λ_=>.inl rfl) (λh=>by simp at h))) (λar q=>?_)
 have a3:=B0.keepB H q.1 H.lt (by simp only [A6,A5,As,not_or,Ac];omega)
 have a4:=Ej J (AR.below q.1 J.size (by simp <;> omega))
 have af:=q.2
 refine A9 rfl<|A4<|A3 rfl<|A3 rfl<|Ao (Sk C _ _ _ _ af) (λau K=>?_)
 have a5:=a3.bl K
 have a6:=Ci a4 K
 refine A1 (.ext rfl rfl)<|A1 (.ext rfl rfl)<|Ax rfl rfl a5 Hq rfl rfl (λav N P ah=>?_)
 have a7:=BU a6 oO P
 refine A9 rfl<|AT (Dn rfl rfl (Be N GU rfl Hq) rfl ?_)
 exact ⟨rfl,a7⟩
theorem QL:Tryz.prog.built 55=λparts=>Instr.fill (λi=>some (i * 1,1)) #[Af 0,Af 0,Af 0,Af 0,Af 0,Af 0] parts:=by kernel_rfl
theorem Im (w:World):Cb 146 #[] w (.agg (Mm I2).toArray):=by
 refine Ar func146 rfl ntmps146 ?_
 have e:=CN w
 refine A4<|Bj R3 rfl (λl k f a b i=>?_)
 have g:=uB e f b
 refine A0<|?_
 refine A4<|A1 (.build (cs:=(Mm I2).toArray) rfl (by rw [QL];rfl)) ?_
 refine Ax rfl rfl a Ef rfl rfl (λm c d j=>?_)
 have h:=BU g oO d
 refine A0<|AT (BI rfl rfl (Be c FN rfl Ef)  ?_)
 exact ⟨rfl,h⟩
theorem Rq (x y:Int) (w:World):Cb 215 #[Af x,Af y] w (.agg (Mm (m6T x y)).toArray):=by
 refine Ar func215 rfl ntmps215 ?_
 have e:=CN w
 refine A4<|Bj R3 rfl (λl k f a b i=>?_)
 have g:=uB e f b
 refine A0<|A4<|A3 rfl<|A3 rfl<|?_
 refine A1 (.build (cs:=(Mm (m6T x y)).toArray) rfl (by rw [QL];rfl)) ?_
 refine Ax rfl rfl a Ef rfl rfl (λm c d j=>?_)
 have h:=BU g oO d
 refine A0<|AT (BI rfl rfl (Be c FN rfl Ef)  ?_)
 exact ⟨rfl,h⟩
theorem OD (x y:Int) (w:World):Cb 238 #[Af x,Af y] w (.agg (Mm (m6S x y)).toArray):=by
 refine Ar func238 rfl ntmps238 ?_
 have e:=CN w
 refine A4<|Bj R3 rfl (λl k f a b i=>?_)
 have g:=uB e f b
 refine A0<|A4<|A3 rfl<|A3 rfl<|?_
 refine A1 (.build (cs:=(Mm (m6S x y)).toArray) rfl (by rw [QL];rfl)) ?_
 refine Ax rfl rfl a Ef rfl rfl (λm c d j=>?_)
 have h:=BU g oO d
 refine A0<|AT (BI rfl rfl (Be c FN rfl Ef)  ?_)
 exact ⟨rfl,h⟩
end
section
structure A7I (w:World):Prop where
 ex:∃ names:List (l8_),names.length=14/\(∀ i (h:i<names.length),names[i]≠[])/\B3 G7 w (some ⟨1,0,none⟩) names
end
section
def Gf:Nat->Nat->l8_
 | 0,_=>[]
 | k+1,f=>if f=0 then [] else ch (48+((f * 10 / 65536:Nat):Int))::Gf k (f * 10 % 65536)
theorem Tt (k:Nat):∀ f:Nat,k<=16->f<65536->2 ^ (16-k) ∣ f->Gf k f=Gf (k+1) f:=by
  induction k with
  | zero =>
    intro f _ hf hd
    obtain ⟨c,hc⟩:=hd
    have:f=0:=by simp at hc;omega
    simp [Gf,this]
  | succ k ih =>
    intro f hk hf hd
    rw [Gf,Gf]
    split
    · rfl
    · rw [ih (f * 10 % 65536) oO oO]
      have e:16-k=(16-(k+1))+1:=by omega
      have a:2 ^ (16-k) ∣ f * 10:=by
        rw [e,Nat.pow_succ]
        exact Nat.mul_dvd_mul hd ⟨5,rfl⟩
      have b:2 ^ (16-k) ∣ 65536:=by
        rw [show (65536:Nat)=2 ^ 16 from rfl]
        exact Nat.pow_dvd_pow 2 oO
      exact (Nat.dvd_mod_iff b).2 a
def HX (f:Nat):l8_:=Gf 16 f
theorem JX:HX 0=[]:=rfl
theorem MN (f:Nat) (h0:0<f) (h:f<65536):HX f=ch (48+((f * 10 / 65536:Nat):Int))::HX (f * 10 % 65536):=by
 unfold HX
 rw [Gf,A2 oO,Tt 15 (f * 10 % 65536) oO oO (by
  have a:2 ^ (16-15) ∣ f * 10:=⟨f * 5,oO⟩
  exact (Nat.dvd_mod_iff dD).2 a)]
theorem Zl (k:Nat):∀ f,(Gf k f).length<=k:=by
 induction k with
 | zero=>intro f;simp [Gf]
 | succ k ih =>
  intro f;rw [Gf];split
  · simp
  · have:=ih (f * 10 % 65536);simp;omega
theorem Jy (f:Nat):(HX f).length<=16:=Zl 16 f
end
end Go.Proofs.YtiddobdioipidaaGreatDoor
namespace Go.Proofs
open Go.Proofs.Tryz
open Go.Shelf
def Tryz.lays161_ren : Go.Shelf.Ren := ⟨fun | 161 => 204 | 231 => 98 | 227 => 100 | 233 => 101 | 235 => 103 | 228 => 125 | 197 => 126 | 151 => 127 | 260 => 152 | 152 => 153 | 137 => 49 | 119 => 169 | 224 => 170 | 225 => 171 | 217 => 70 | 266 => 97 | n => n, fun | 9 => 9 | 4 => 4 | 3 => 3 | 5 => 5 | 117 => 156 | 116 => 155 | 0 => 0 | 124 => 159 | 105 => 189 | 21 => 21 | 119 => 236 | 46 => 152 | 139 => 239 | 138 => 238 | n => n, fun | 3 => 2 | 4 => 3 | n => n⟩
theorem Tryz.lays161 : Go.Proofs.Lays.n161 Tryz.prog Tryz.lays161_ren := {
  mixed := by kernel_rfl
  f119 := Tryz.func169.trans (congrArg some (by kernel_rfl))
  f137 := Tryz.func49.trans (congrArg some (by kernel_rfl))
  f151 := Tryz.func127.trans (congrArg some (by kernel_rfl))
  f152 := Tryz.func153.trans (congrArg some (by kernel_rfl))
  f161 := Tryz.func204.trans (congrArg some (by kernel_rfl))
  f197 := Tryz.func126.trans (congrArg some (by kernel_rfl))
  f217 := Tryz.func70.trans (congrArg some (by kernel_rfl))
  f224 := Tryz.func170.trans (congrArg some (by kernel_rfl))
  f225 := Tryz.func171.trans (congrArg some (by kernel_rfl))
  f227 := Tryz.func100.trans (congrArg some (by kernel_rfl))
  f228 := Tryz.func125.trans (congrArg some (by kernel_rfl))
  f231 := Tryz.func98.trans (congrArg some (by kernel_rfl))
  f233 := Tryz.func101.trans (congrArg some (by kernel_rfl))
  f235 := Tryz.func103.trans (congrArg some (by kernel_rfl))
  f260 := Tryz.func152.trans (congrArg some (by kernel_rfl))
  f266 := Tryz.func97.trans (congrArg some (by kernel_rfl))
  t0 := Tryz.underlying0
  a0 := Tryz.isAgg0
  z0 := Tryz.sizeOf0
  v0 := Tryz.zeroValue0
  t3 := Tryz.underlying3
  a3 := Tryz.isAgg3
  z3 := Tryz.sizeOf3
  v3 := Tryz.zeroValue3
  t4 := Tryz.underlying4
  a4 := Tryz.isAgg4
  z4 := Tryz.sizeOf4
  v4 := Tryz.zeroValue4
  t5 := Tryz.underlying5
  a5 := Tryz.isAgg5
  z5 := Tryz.sizeOf5
  v5 := Tryz.zeroValue5
  t9 := Tryz.underlying9
  a9 := Tryz.isAgg9
  z9 := Tryz.sizeOf9
  v9 := Tryz.zeroValue9
  t21 := Tryz.underlying21
  a21 := Tryz.isAgg21
  z21 := Tryz.sizeOf21
  v21 := Tryz.zeroValue21
  t46 := Tryz.underlying152
  a46 := Tryz.isAgg152
  z46 := Tryz.sizeOf152
  v46 := Tryz.zeroValue152
  t105 := Tryz.underlying189
  a105 := Tryz.isAgg189
  z105 := Tryz.sizeOf189
  v105 := Tryz.zeroValue189
  t116 := Tryz.underlying155
  a116 := Tryz.isAgg155
  z116 := Tryz.sizeOf155
  t117 := Tryz.underlying156
  a117 := Tryz.isAgg156
  z117 := Tryz.sizeOf156
  v117 := Tryz.zeroValue156
  t119 := Tryz.underlying236
  a119 := Tryz.isAgg236
  z119 := Tryz.sizeOf236
  t124 := Tryz.underlying159
  a124 := Tryz.isAgg159
  z124 := Tryz.sizeOf159
  v124 := Tryz.zeroValue159
  t138 := Tryz.underlying238
  a138 := Tryz.isAgg238
  z138 := Tryz.sizeOf238
  v138 := Tryz.zeroValue238
  t139 := Tryz.underlying239
  a139 := Tryz.isAgg239
  z139 := Tryz.sizeOf239
  v139 := Tryz.zeroValue239
  g3 := by kernel_rfl
  g4 := by kernel_rfl }
open Go.RowKit in
theorem Tryz.strings_TrimLeft_one (s : ByteArray) (c : UInt8) (hc : c.toNat < 128) (w : World) :
    Calls Tryz.prog 204 #[.string s, .string ⟨#[c]⟩] w fun e w' => e = .returned (.string ⟨(Lib.trimLeftB s.data.toList c).toArray⟩) ∧ w' = w := Any.strings_TrimLeft_one Tryz.lays161 s c hc w
def Tryz.lays160_ren : Go.Shelf.Ren := ⟨fun | 160 => 73 | 232 => 99 | 231 => 98 | 227 => 100 | 234 => 102 | 233 => 101 | 236 => 104 | 235 => 103 | 228 => 125 | 271 => 128 | 151 => 127 | 197 => 126 | 120 => 154 | 152 => 153 | 260 => 152 | 137 => 49 | 119 => 169 | 224 => 170 | 225 => 171 | 217 => 70 | 266 => 97 | n => n, fun | 9 => 9 | 4 => 4 | 3 => 3 | 5 => 5 | 117 => 156 | 116 => 155 | 0 => 0 | 124 => 159 | 21 => 21 | 105 => 189 | 46 => 152 | 119 => 236 | 139 => 239 | 138 => 238 | n => n, fun | 3 => 2 | 4 => 3 | n => n⟩
theorem Tryz.lays160 : Go.Proofs.Lays.n160 Tryz.prog Tryz.lays160_ren := {
  mixed := by kernel_rfl
  f119 := Tryz.func169.trans (congrArg some (by kernel_rfl))
  f120 := Tryz.func154.trans (congrArg some (by kernel_rfl))
  f137 := Tryz.func49.trans (congrArg some (by kernel_rfl))
  f151 := Tryz.func127.trans (congrArg some (by kernel_rfl))
  f152 := Tryz.func153.trans (congrArg some (by kernel_rfl))
  f160 := Tryz.func73.trans (congrArg some (by kernel_rfl))
  f197 := Tryz.func126.trans (congrArg some (by kernel_rfl))
  f217 := Tryz.func70.trans (congrArg some (by kernel_rfl))
  f224 := Tryz.func170.trans (congrArg some (by kernel_rfl))
  f225 := Tryz.func171.trans (congrArg some (by kernel_rfl))
  f227 := Tryz.func100.trans (congrArg some (by kernel_rfl))
  f228 := Tryz.func125.trans (congrArg some (by kernel_rfl))
  f231 := Tryz.func98.trans (congrArg some (by kernel_rfl))
  f232 := Tryz.func99.trans (congrArg some (by kernel_rfl))
  f233 := Tryz.func101.trans (congrArg some (by kernel_rfl))
  f234 := Tryz.func102.trans (congrArg some (by kernel_rfl))
  f235 := Tryz.func103.trans (congrArg some (by kernel_rfl))
  f236 := Tryz.func104.trans (congrArg some (by kernel_rfl))
  f260 := Tryz.func152.trans (congrArg some (by kernel_rfl))
  f266 := Tryz.func97.trans (congrArg some (by kernel_rfl))
  f271 := Tryz.func128.trans (congrArg some (by kernel_rfl))
  t0 := Tryz.underlying0
  a0 := Tryz.isAgg0
  z0 := Tryz.sizeOf0
  v0 := Tryz.zeroValue0
  t3 := Tryz.underlying3
  a3 := Tryz.isAgg3
  z3 := Tryz.sizeOf3
  v3 := Tryz.zeroValue3
  t4 := Tryz.underlying4
  a4 := Tryz.isAgg4
  z4 := Tryz.sizeOf4
  v4 := Tryz.zeroValue4
  t5 := Tryz.underlying5
  a5 := Tryz.isAgg5
  z5 := Tryz.sizeOf5
  v5 := Tryz.zeroValue5
  t9 := Tryz.underlying9
  a9 := Tryz.isAgg9
  z9 := Tryz.sizeOf9
  v9 := Tryz.zeroValue9
  t21 := Tryz.underlying21
  a21 := Tryz.isAgg21
  z21 := Tryz.sizeOf21
  v21 := Tryz.zeroValue21
  t46 := Tryz.underlying152
  a46 := Tryz.isAgg152
  z46 := Tryz.sizeOf152
  v46 := Tryz.zeroValue152
  t105 := Tryz.underlying189
  a105 := Tryz.isAgg189
  z105 := Tryz.sizeOf189
  v105 := Tryz.zeroValue189
  t116 := Tryz.underlying155
  a116 := Tryz.isAgg155
  z116 := Tryz.sizeOf155
  t117 := Tryz.underlying156
  a117 := Tryz.isAgg156
  z117 := Tryz.sizeOf156
  v117 := Tryz.zeroValue156
  t119 := Tryz.underlying236
  a119 := Tryz.isAgg236
  z119 := Tryz.sizeOf236
  t124 := Tryz.underlying159
  a124 := Tryz.isAgg159
  z124 := Tryz.sizeOf159
  v124 := Tryz.zeroValue159
  t138 := Tryz.underlying238
  a138 := Tryz.isAgg238
  z138 := Tryz.sizeOf238
  v138 := Tryz.zeroValue238
  t139 := Tryz.underlying239
  a139 := Tryz.isAgg239
  z139 := Tryz.sizeOf239
  v139 := Tryz.zeroValue239
  g3 := by kernel_rfl
  g4 := by kernel_rfl }
def Tryz.lays119_ren : Go.Shelf.Ren := ⟨fun | 119 => 169 | n => n, fun | 21 => 21 | 4 => 4 | n => n, fun | n => n⟩
theorem Tryz.lays119 : Go.Proofs.Lays.n119 Tryz.prog Tryz.lays119_ren := {
  mixed := by kernel_rfl
  f119 := Tryz.func169.trans (congrArg some (by kernel_rfl))
  t4 := Tryz.underlying4
  a4 := Tryz.isAgg4
  z4 := Tryz.sizeOf4
  v4 := Tryz.zeroValue4
  t21 := Tryz.underlying21
  a21 := Tryz.isAgg21
  z21 := Tryz.sizeOf21
  v21 := Tryz.zeroValue21 }
theorem Tryz.utf8_ValidRune (r : Int) (w : World) :
    Calls Tryz.prog 169 #[.int .i32 r] w fun e w' => e = .returned (.bool (Lib.validRune r)) ∧ w' = w := Any.utf8_ValidRune Tryz.lays119 r w
def Tryz.lays137_ren : Go.Shelf.Ren := ⟨fun | 137 => 49 | 217 => 70 | 266 => 97 | n => n, fun | 9 => 9 | 5 => 5 | 3 => 3 | n => n, fun | n => n⟩
theorem Tryz.lays137 : Go.Proofs.Lays.n137 Tryz.prog Tryz.lays137_ren := {
  mixed := by kernel_rfl
  f137 := Tryz.func49.trans (congrArg some (by kernel_rfl))
  f217 := Tryz.func70.trans (congrArg some (by kernel_rfl))
  f266 := Tryz.func97.trans (congrArg some (by kernel_rfl))
  t3 := Tryz.underlying3
  a3 := Tryz.isAgg3
  z3 := Tryz.sizeOf3
  v3 := Tryz.zeroValue3
  t5 := Tryz.underlying5
  a5 := Tryz.isAgg5
  z5 := Tryz.sizeOf5
  v5 := Tryz.zeroValue5
  t9 := Tryz.underlying9
  a9 := Tryz.isAgg9
  z9 := Tryz.sizeOf9
  v9 := Tryz.zeroValue9 }
open Go.RowKit in
theorem Tryz.strings_IndexByte (s : ByteArray) (c : Int) (w : World) :
    Calls Tryz.prog 49 #[.string s, .int .u8 c] w fun e w' => e = .returned (.int .i64 (Lib.indexByte s.data.toList c.toNat.toUInt8)) ∧ w' = w := Any.strings_IndexByte Tryz.lays137 s c w
def Tryz.lays219_ren : Go.Shelf.Ren := ⟨fun | 219 => 254 | 217 => 70 | 225 => 171 | 224 => 170 | 267 => 272 | 266 => 97 | 314 => 283 | n => n, fun | 9 => 9 | 3 => 3 | 4 => 4 | 5 => 5 | 46 => 152 | 146 => 126 | 51 => 125 | n => n, fun | 1 => 0 | n => n⟩
theorem Tryz.lays219 : Go.Proofs.Lays.n219 Tryz.prog Tryz.lays219_ren := {
  mixed := by kernel_rfl
  f217 := Tryz.func70.trans (congrArg some (by kernel_rfl))
  f219 := Tryz.func254.trans (congrArg some (by kernel_rfl))
  f224 := Tryz.func170.trans (congrArg some (by kernel_rfl))
  f225 := Tryz.func171.trans (congrArg some (by kernel_rfl))
  f266 := Tryz.func97.trans (congrArg some (by kernel_rfl))
  f267 := Tryz.func272.trans (congrArg some (by kernel_rfl))
  f314 := Tryz.func283.trans (congrArg some (by kernel_rfl))
  t3 := Tryz.underlying3
  a3 := Tryz.isAgg3
  z3 := Tryz.sizeOf3
  v3 := Tryz.zeroValue3
  t4 := Tryz.underlying4
  a4 := Tryz.isAgg4
  z4 := Tryz.sizeOf4
  v4 := Tryz.zeroValue4
  t5 := Tryz.underlying5
  a5 := Tryz.isAgg5
  z5 := Tryz.sizeOf5
  v5 := Tryz.zeroValue5
  t9 := Tryz.underlying9
  a9 := Tryz.isAgg9
  z9 := Tryz.sizeOf9
  v9 := Tryz.zeroValue9
  t46 := Tryz.underlying152
  a46 := Tryz.isAgg152
  z46 := Tryz.sizeOf152
  v46 := Tryz.zeroValue152
  t51 := Tryz.underlying125
  a51 := Tryz.isAgg125
  z51 := Tryz.sizeOf125
  v51 := Tryz.zeroValue125
  t146 := Tryz.underlying126
  a146 := Tryz.isAgg126
  z146 := Tryz.sizeOf126
  v146 := Tryz.zeroValue126
  g1 := by kernel_rfl }
open Go.RowKit Go.Lib in
theorem Tryz.stringslite_Index_one (s : ByteArray) (c : UInt8) (w : World) :
    Calls Tryz.prog 254 #[.string s, .string ⟨#[c]⟩] w fun e w' => e = .returned (.int .i64 (Lib.indexByte s.data.toList c)) ∧ w' = w := Any.stringslite_Index_one Tryz.lays219 s c w
def Tryz.lays152_ren : Go.Shelf.Ren := ⟨fun | 152 => 153 | 137 => 49 | 119 => 169 | 224 => 170 | 225 => 171 | 217 => 70 | 266 => 97 | n => n, fun | 9 => 9 | 21 => 21 | 3 => 3 | 4 => 4 | 5 => 5 | 0 => 0 | 46 => 152 | n => n, fun | n => n⟩
theorem Tryz.lays152 : Go.Proofs.Lays.n152 Tryz.prog Tryz.lays152_ren := {
  mixed := by kernel_rfl
  f119 := Tryz.func169.trans (congrArg some (by kernel_rfl))
  f137 := Tryz.func49.trans (congrArg some (by kernel_rfl))
  f152 := Tryz.func153.trans (congrArg some (by kernel_rfl))
  f217 := Tryz.func70.trans (congrArg some (by kernel_rfl))
  f224 := Tryz.func170.trans (congrArg some (by kernel_rfl))
  f225 := Tryz.func171.trans (congrArg some (by kernel_rfl))
  f266 := Tryz.func97.trans (congrArg some (by kernel_rfl))
  t0 := Tryz.underlying0
  a0 := Tryz.isAgg0
  z0 := Tryz.sizeOf0
  v0 := Tryz.zeroValue0
  t3 := Tryz.underlying3
  a3 := Tryz.isAgg3
  z3 := Tryz.sizeOf3
  v3 := Tryz.zeroValue3
  t4 := Tryz.underlying4
  a4 := Tryz.isAgg4
  z4 := Tryz.sizeOf4
  v4 := Tryz.zeroValue4
  t5 := Tryz.underlying5
  a5 := Tryz.isAgg5
  z5 := Tryz.sizeOf5
  v5 := Tryz.zeroValue5
  t9 := Tryz.underlying9
  a9 := Tryz.isAgg9
  z9 := Tryz.sizeOf9
  v9 := Tryz.zeroValue9
  t21 := Tryz.underlying21
  a21 := Tryz.isAgg21
  z21 := Tryz.sizeOf21
  v21 := Tryz.zeroValue21
  t46 := Tryz.underlying152
  a46 := Tryz.isAgg152
  z46 := Tryz.sizeOf152
  v46 := Tryz.zeroValue152 }
open Go.RowKit Go.Lib in
theorem Tryz.strings_IndexRune_ascii (s : ByteArray) (r : Int) (w : World) (h0 : 0 ≤ r) (h1 : r < 128) :
    Calls Tryz.prog 153 #[.string s, .int .i32 r] w fun e w' => e = .returned (.int .i64 (Lib.indexByte s.data.toList r.toNat.toUInt8)) ∧ w' = w := Any.strings_IndexRune_ascii Tryz.lays152 s r w h0 h1
def Tryz.lays226_ren : Go.Shelf.Ren := ⟨fun | 226 => 207 | n => n, fun | 3 => 3 | 4 => 4 | n => n, fun | n => n⟩
theorem Tryz.lays226 : Go.Proofs.Lays.n226 Tryz.prog Tryz.lays226_ren := {
  mixed := by kernel_rfl
  f226 := Tryz.func207.trans (congrArg some (by kernel_rfl))
  t3 := Tryz.underlying3
  a3 := Tryz.isAgg3
  z3 := Tryz.sizeOf3
  v3 := Tryz.zeroValue3
  t4 := Tryz.underlying4
  a4 := Tryz.isAgg4
  z4 := Tryz.sizeOf4
  v4 := Tryz.zeroValue4 }
open Go.RowKit Go.Lib in
theorem Tryz.strings_shouldUseASCIISet (n : Int) (w : World) :
    Calls Tryz.prog 207 #[.int .i64 n] w fun e w' => e = .returned (.bool (decide (8 < n))) ∧ w' = w := Any.strings_shouldUseASCIISet Tryz.lays226 n w
def Tryz.lays153_ren : Go.Shelf.Ren := ⟨fun | 153 => 184 | 152 => 153 | 226 => 207 | 227 => 100 | 228 => 125 | 137 => 49 | 119 => 169 | 224 => 170 | 225 => 171 | 217 => 70 | 266 => 97 | n => n, fun | 9 => 9 | 3 => 3 | 4 => 4 | 5 => 5 | 21 => 21 | 117 => 156 | 116 => 155 | 0 => 0 | 46 => 152 | 124 => 159 | n => n, fun | n => n⟩
theorem Tryz.lays153 : Go.Proofs.Lays.n153 Tryz.prog Tryz.lays153_ren := {
  mixed := by kernel_rfl
  f119 := Tryz.func169.trans (congrArg some (by kernel_rfl))
  f137 := Tryz.func49.trans (congrArg some (by kernel_rfl))
  f152 := Tryz.func153.trans (congrArg some (by kernel_rfl))
  f153 := Tryz.func184.trans (congrArg some (by kernel_rfl))
  f217 := Tryz.func70.trans (congrArg some (by kernel_rfl))
  f224 := Tryz.func170.trans (congrArg some (by kernel_rfl))
  f225 := Tryz.func171.trans (congrArg some (by kernel_rfl))
  f226 := Tryz.func207.trans (congrArg some (by kernel_rfl))
  f227 := Tryz.func100.trans (congrArg some (by kernel_rfl))
  f228 := Tryz.func125.trans (congrArg some (by kernel_rfl))
  f266 := Tryz.func97.trans (congrArg some (by kernel_rfl))
  t0 := Tryz.underlying0
  a0 := Tryz.isAgg0
  z0 := Tryz.sizeOf0
  v0 := Tryz.zeroValue0
  t3 := Tryz.underlying3
  a3 := Tryz.isAgg3
  z3 := Tryz.sizeOf3
  v3 := Tryz.zeroValue3
  t4 := Tryz.underlying4
  a4 := Tryz.isAgg4
  z4 := Tryz.sizeOf4
  v4 := Tryz.zeroValue4
  t5 := Tryz.underlying5
  a5 := Tryz.isAgg5
  z5 := Tryz.sizeOf5
  v5 := Tryz.zeroValue5
  t9 := Tryz.underlying9
  a9 := Tryz.isAgg9
  z9 := Tryz.sizeOf9
  v9 := Tryz.zeroValue9
  t21 := Tryz.underlying21
  a21 := Tryz.isAgg21
  z21 := Tryz.sizeOf21
  v21 := Tryz.zeroValue21
  t46 := Tryz.underlying152
  a46 := Tryz.isAgg152
  z46 := Tryz.sizeOf152
  v46 := Tryz.zeroValue152
  t116 := Tryz.underlying155
  a116 := Tryz.isAgg155
  z116 := Tryz.sizeOf155
  t117 := Tryz.underlying156
  a117 := Tryz.isAgg156
  z117 := Tryz.sizeOf156
  v117 := Tryz.zeroValue156
  t124 := Tryz.underlying159
  a124 := Tryz.isAgg159
  z124 := Tryz.sizeOf159
  v124 := Tryz.zeroValue159 }
open Go.RowKit Go.Lib in
theorem Tryz.strings_IndexAny_long (hv116 : ∀ w, (zeroValue 155).run Tryz.prog w = .ok (.agg (Array.replicate 256 (.bool false))) w) (s chars : ByteArray) (w : World) (h2 : 2 ≤ chars.size) (h8 : 8 < s.size) (hs : s.size < 4294967281) (hcs : chars.size < 4294967281) (hascii : ∀ (j : Nat) b, chars.data.toList[j]? = some b → b.toNat < 128) :
    Calls Tryz.prog 184 #[.string s, .string chars] w fun e w' => e = .returned (.int .i64 (Lib.indexAny s.data.toList chars.data.toList)) ∧ w' = ((w.alloc (.cells (Lib.setCells chars.data.toList) 155)).alloc (.cells (Lib.setCells chars.data.toList) 155)) := Any.strings_IndexAny_long Tryz.lays153 hv116 (by kernel_rfl) s chars w h2 h8 hs hcs hascii
def Tryz.lays105_ren : Go.Shelf.Ren := ⟨fun | 105 => 208 | 212 => 229 | 99 => 230 | 165 => 231 | 166 => 232 | 170 => 233 | 169 => 234 | 263 => 255 | 264 => 256 | 206 => 257 | 240 => 258 | 241 => 259 | 276 => 273 | 277 => 274 | n => n, fun | 9 => 9 | 3 => 3 | 4 => 4 | 20 => 20 | 0 => 0 | 46 => 152 | 109 => 268 | 5 => 5 | 72 => 273 | 76 => 276 | 51 => 125 | 146 => 126 | 53 => 97 | 148 => 298 | 70 => 271 | 37 => 22 | 75 => 275 | 127 => 300 | 164 => 307 | 80 => 160 | n => n, fun | n => n⟩
theorem Tryz.lays105 : Go.Proofs.Lays.n105 Tryz.prog Tryz.lays105_ren := {
  mixed := by kernel_rfl
  f99 := Tryz.func230.trans (congrArg some (by kernel_rfl))
  f105 := Tryz.func208.trans (congrArg some (by kernel_rfl))
  f165 := Tryz.func231.trans (congrArg some (by kernel_rfl))
  f166 := Tryz.func232.trans (congrArg some (by kernel_rfl))
  f169 := Tryz.func234.trans (congrArg some (by kernel_rfl))
  f170 := Tryz.func233.trans (congrArg some (by kernel_rfl))
  f206 := Tryz.func257.trans (congrArg some (by kernel_rfl))
  f212 := Tryz.func229.trans (congrArg some (by kernel_rfl))
  f240 := Tryz.func258.trans (congrArg some (by kernel_rfl))
  f241 := Tryz.func259.trans (congrArg some (by kernel_rfl))
  f263 := Tryz.func255.trans (congrArg some (by kernel_rfl))
  f264 := Tryz.func256.trans (congrArg some (by kernel_rfl))
  f276 := Tryz.func273.trans (congrArg some (by kernel_rfl))
  f277 := Tryz.func274.trans (congrArg some (by kernel_rfl))
  t0 := Tryz.underlying0
  a0 := Tryz.isAgg0
  z0 := Tryz.sizeOf0
  v0 := Tryz.zeroValue0
  t3 := Tryz.underlying3
  a3 := Tryz.isAgg3
  z3 := Tryz.sizeOf3
  v3 := Tryz.zeroValue3
  t4 := Tryz.underlying4
  a4 := Tryz.isAgg4
  z4 := Tryz.sizeOf4
  v4 := Tryz.zeroValue4
  t5 := Tryz.underlying5
  a5 := Tryz.isAgg5
  z5 := Tryz.sizeOf5
  v5 := Tryz.zeroValue5
  t9 := Tryz.underlying9
  a9 := Tryz.isAgg9
  z9 := Tryz.sizeOf9
  v9 := Tryz.zeroValue9
  t20 := Tryz.underlying20
  a20 := Tryz.isAgg20
  z20 := Tryz.sizeOf20
  v20 := Tryz.zeroValue20
  t37 := Tryz.underlying22
  a37 := Tryz.isAgg22
  z37 := Tryz.sizeOf22
  v37 := Tryz.zeroValue22
  t46 := Tryz.underlying152
  a46 := Tryz.isAgg152
  z46 := Tryz.sizeOf152
  v46 := Tryz.zeroValue152
  t51 := Tryz.underlying125
  a51 := Tryz.isAgg125
  z51 := Tryz.sizeOf125
  v51 := Tryz.zeroValue125
  t53 := Tryz.underlying97
  a53 := Tryz.isAgg97
  z53 := Tryz.sizeOf97
  v53 := Tryz.zeroValue97
  t70 := Tryz.underlying271
  a70 := Tryz.isAgg271
  z70 := Tryz.sizeOf271
  v70 := Tryz.zeroValue271
  t72 := Tryz.underlying273
  a72 := Tryz.isAgg273
  z72 := Tryz.sizeOf273
  v72 := Tryz.zeroValue273
  t75 := Tryz.underlying275
  a75 := Tryz.isAgg275
  z75 := Tryz.sizeOf275
  v75 := Tryz.zeroValue275
  t76 := Tryz.underlying276
  a76 := Tryz.isAgg276
  z76 := Tryz.sizeOf276
  v76 := Tryz.zeroValue276
  t109 := Tryz.underlying268
  a109 := Tryz.isAgg268
  z109 := Tryz.sizeOf268
  v109 := Tryz.zeroValue268
  t127 := Tryz.underlying300
  a127 := Tryz.isAgg300
  z127 := Tryz.sizeOf300
  v127 := Tryz.zeroValue300
  t146 := Tryz.underlying126
  a146 := Tryz.isAgg126
  z146 := Tryz.sizeOf126
  v146 := Tryz.zeroValue126
  t148 := Tryz.underlying298
  a148 := Tryz.isAgg298
  z148 := Tryz.sizeOf298
  v148 := Tryz.zeroValue298
  t164 := Tryz.underlying307
  a164 := Tryz.isAgg307
  z164 := Tryz.sizeOf307
  v164 := Tryz.zeroValue307 }
theorem Tryz.Builder_Extra_105 : Builder.Extra Tryz.prog Tryz.lays105_ren := {
  sizeBuilder := by kernel_rfl
  liesBuilder := by kernel_rfl
  t5 := Tryz.underlying5
  a5 := Tryz.isAgg5
  z5 := Tryz.sizeOf5
  v5 := Tryz.zeroValue5
  infoByte := by kernel_rfl
  cellsByte := by kernel_rfl
  sizeByte := by kernel_rfl
  neB5 := by decide }
open Go.RowKit Go.Lib in
theorem Tryz.strings_Repeat (s : ByteArray) (c : Nat) (w : World) (hc : c ≤ 9223372036854775807) (hlen : s.size * c ≤ 140737488355328) :
    Calls Tryz.prog 208 #[.string s, .int .i64 c] w fun e w' => e = .returned (.string ⟨(Lib.repeatL s.data.toList c).toArray⟩) ∧ Below w.heap.size w w' := Any.strings_Repeat Tryz.lays105 Tryz.Builder_Extra_105 s c w hc hlen
end Go.Proofs
namespace Go.Proofs.YtiddobdioipidaaGreatDoor
open Go.RowKit
open Go.Proofs.Tryz
section
theorem Fw (l:l8_):(bs l).toList=l:=by simp [bs]
theorem RS (l:l8_) (w:World) :
  Calls Tryz.prog 204 #[.string (bs l),.string ⟨#[48]⟩] w λe w'=>e=.returned (.string (bs (l.dropWhile (· == 48))))/\w=w' :=
 (Tryz.strings_TrimLeft_one (bs l) 48 dD w).mono λ_ _ ⟨h1,h2⟩=>⟨h1,h2.symm⟩
theorem IU (l:l8_) (a b:Nat):(bs l).extract a b=bs ((l.drop a).take (b-a)):=by
 apply ByteArray.ext
 simp [bs,ByteArray.data_extract]
theorem Mn (c:UInt8) (B:l8_):∀ A:l8_,c ∉ A->Lib.indexByte (A++c::B) c=(A.length:Int)
 | [],_=>by simp [Lib.indexByte]
 | b::A,h=>by
  simp only [A6,not_or] at h
  have ih:=Mn c B A h.2
  have e3:(b == c)=false:=by rw [Dw];exact λe=>h.1 e.symm
  have a:((A.length:Int) == -1)=false:=by rw [Dw];omega
  simp [Lib.indexByte,e3,ih]
theorem Nq (c:UInt8):∀ l:l8_,c ∉ l->Lib.indexByte l c=-1
 | [],_=>rfl
 | b::l,h=>by
  simp only [A6,not_or] at h
  have ih:=Nq c l h.2
  have e3:(b == c)=false:=by rw [Dw];exact λe=>h.1 e.symm
  simp [Lib.indexByte,e3,ih]
theorem PE (c:UInt8):∀ l:l8_,c∈l->∃ A B,l=A++c::B/\c ∉ A
 | [],h=>by cases h
 | b::l,h=>by
  by_cases e:c=b
  · exact ⟨[],l,by rw [e];rfl,by simp⟩
  ·
   rcases A6.1 h with h | h
   · exact De h e
   ·
    obtain ⟨A,B,h1,h2⟩:=PE c l h
    exact ⟨b::A,B,by rw [h1];rfl,by simp [e,h2]⟩
theorem WJ (A B:l8_) (c:UInt8) (w:World) (h:c ∉ A) :
  Calls Tryz.prog 254 #[.string (bs (A++c::B)),.string ⟨#[c]⟩] w λe w'=>e=.returned (Af (A.length:Int))/\w=w':=by
 rw [<- Mn c B A h]
 exact (Tryz.stringslite_Index_one (bs _) c w).mono λ_ _ ⟨a,b⟩=>⟨a,b.symm⟩
theorem Ze (l:l8_) (c:UInt8) (w:World) (h:c ∉ l) :
  Calls Tryz.prog 254 #[.string (bs l),.string ⟨#[c]⟩] w λe w'=>e=.returned (Af (-1))/\w=w':=by
 rw [<- Nq c l h]
 exact (Tryz.stringslite_Index_one (bs _) c w).mono λ_ _ ⟨a,b⟩=>⟨a,b.symm⟩
theorem CH {a b:Bool} (h:a=b):Ending.returned (.bool a)=Ending.returned (.bool b):=by rw [h]
theorem A2T {a b a' b':ByteArray} {c:Bool} (h1:a=a') (h2:b=b'):Ending.returned (.tuple #[.string a,.string b,.bool c])=Ending.returned (.tuple #[.string a',.string b',.bool c]):=by
 rw [h1,h2]
theorem VL (A B:l8_) (c:UInt8) (w:World) (hl:(A++c::B).length<=100000000) (hc:c ∉ A) :
  Cb 228 #[.string (bs (A++c::B)),.string ⟨#[c]⟩] w (.tuple #[.string (bs A),.string (bs B),.bool true]):=by
 have hk:A.length<(A++c::B).length:=by simp
 have hA:(bs (A++c::B)).extract 0 A.length=bs A:=by
  rw [IU];simp
 have hB:(bs (A++c::B)).extract (A.length+1) (A++c::B).length=bs B:=by
  rw [IU]
  have e:(A++c::B).drop (A.length+1)=B:=by
   rw [<- E2];simp
  rw [e,An (by simp;omega)]
 have hI:=λw=>WJ A B c w hc
 have hs:(bs (A++c::B)).size=(A++c::B).length:=BV _
 generalize A++c::B=l at *
 generalize hkk:A.length=k at *
 clear hkk
 have hA':=Eb hA;have hB':=Eb hB;clear hA hB hc
 go_enter func228,ntmps228
 go_wp2_with (go_at_call 254;go_must (refine (hI _).mono ?_);rintro e w' ⟨rfl,rfl⟩)
 go_quiet (fail)
 go_wp2
 go_ret3
 exact ⟨A2T hA'.out hB'.out,Oj _ _⟩
theorem Yy (l:l8_) (c:UInt8) (w:World) (hc:c ∉ l) :
  Cb 228 #[.string (bs l),.string ⟨#[c]⟩] w (.tuple #[.string (bs l),.string (bs []),.bool false]):=by
 have hI:=λw=>Ze l c w hc
 clear hc
 go_enter func228,ntmps228
 go_wp2_with (go_at_call 254;go_must (refine (hI _).mono ?_);rintro e w' ⟨rfl,rfl⟩)
 go_ret3
 exact ⟨rfl,Gb _ _⟩
theorem Vd (A B:l8_) (c:UInt8) (w:World) (hl:(A++c::B).length<=100000000) (hc:c ∉ A) :
  Cb 202 #[.string (bs (A++c::B)),.string ⟨#[c]⟩] w (.tuple #[.string (bs A),.string (bs B),.bool true]):=by
 have hI:=λw=>VL A B c w hl hc
 clear hc hl
 go_enter func202,ntmps202
 go_wp2_with (go_at_call 228;go_must (refine (hI _).mono ?_);rintro e w' ⟨rfl,hb⟩)
 go_ret3
 exact ⟨rfl,hb⟩
theorem Y6 (l:l8_) (c:UInt8) (w:World) (hc:c ∉ l) :
  Cb 202 #[.string (bs l),.string ⟨#[c]⟩] w (.tuple #[.string (bs l),.string (bs []),.bool false]):=by
 have hI:=λw=>Yy l c w hc
 clear hc
 go_enter func202,ntmps202
 go_wp2_with (go_at_call 228;go_must (refine (hI _).mono ?_);rintro e w' ⟨rfl,hb⟩)
 go_ret3
 exact ⟨rfl,hb⟩
def BW (b:UInt8):Bool:=decide (48<=b.toNat) && decide (b.toNat<=57)
theorem Mq (b:UInt8):([48,49,50,51,52,53,54,55,56,57]:l8_).contains b=BW b:=by
 unfold BW
 rw [AY]
 simp [<- UInt8.toNat_inj]
 omega
theorem FF (p:UInt8->Bool):∀ l:l8_,l.dropWhile p=[]↔l.all p=true
 | []=>by simp
 | b::l=>by
  cases h:p b with
  | true=>simp [h,FF p l]
  | false=>simp [h]
theorem Ji (l cs:l8_):Lib.trimS l cs=[]↔l.all (cs.contains ·)=true:=by
 unfold Lib.trimS Lib.trimLeftS Lib.trimRightS
 rw [FF]
 constructor
 ·
  intro h
  cases hd:l.reverse.dropWhile (cs.contains ·) with
  | nil =>
   rw [FF] at hd
   simpa using hd
  | cons x r =>
   exfalso
   rw [hd] at h
   have hx:cs.contains x=true:=by
    simp at h
    simpa using h.2
   have:=List.head_dropWhile_not (p:=(cs.contains ·)) (l:=l.reverse) (by rw [hd];simp)
   simp only [hd,List.head_cons] at this
   rw [hx] at this;cases this
 ·
  intro h
  have:l.reverse.dropWhile (cs.contains ·)=[]:=by
   rw [FF];simpa using h
  rw [this];rfl
theorem FZ (l:l8_) (w:World) (hl:l.length<=100000000) :
  Cb 203 #[.string (bs l)] w (.bool (l.all BW)):=by
 have hT:=λw=>Any.strings_Trim_laid Tryz.lays160 kR (bs l) ⟨#[48,49,50,51,52,53,54,55,56,57]⟩ w (by rw [BV];omega) dD (ascii_of_all dD)
 have hN:Lib.trimS l [48,49,50,51,52,53,54,55,56,57]=[]↔l.all BW=true:=by
  rw [Ji]
  have:(λx=>([48,49,50,51,52,53,54,55,56,57]:l8_).contains x)=BW:=funext Mq
  rw [this]
 have HN:=Eb hN;clear hN
 go_enter func203,ntmps203
 go_wp2_with (go_at_call 73;go_must (refine (hT _).mono ?_);rintro e w' ⟨rfl,hb⟩)
 go_ret
 exact ⟨CH (by rw [AY,List.isEmpty_iff];exact HN.out),hb⟩
theorem A0k {m:Bool} {a b:ByteArray} (h:a=b):Ending.returned (.tuple #[.bool m,.string a])=Ending.returned (.tuple #[.bool m,.string b]):=by rw [h]
theorem A3N (c:UInt8) (r:l8_) (h:0<(bs (c::r)).size):(bs (c::r))[0]'h=c:=rfl
theorem A3M (c:UInt8) (r:l8_):(bs (c::r)).extract 1 (r.length+1)=bs r:=by
 rw [IU];simp
theorem A1O (c:UInt8) (r:l8_):(bs (c::r)).toList.isEmpty=false:=by simp [bs]
def B6:l8_->Bool × l8_
 | []=>(false,[])
 | c::r=>if c=45 then (true,r) else if c=43 then (false,r) else (false,c::r)
theorem IR (l:l8_) (w:World) (hl:l.length<=100000000) :
  Cb 179 #[.string (bs l)] w (.tuple #[.bool (B6 l).1,.string (bs (B6 l).2)]):=by
 cases l with
 | nil =>
  have hT:=Fw
  go_enter func179,ntmps179
  go_wp2
  go_ret2
  exact ⟨rfl,Gb _ _⟩
 | cons c r =>
  have b:=A3N c r
  have hs:(bs (c::r)).size=r.length+1:=by rw [BV];rfl
  have he:=A1O c r
  have hb:=A3M c r
  have Hb:=Eb hb
  simp only [Aa] at hl
  by_cases h1:c=45
  ·
   subst h1
   generalize bs (45::r)=s at *
   clear hb
   go_enter func179,ntmps179
   go_wp2
   go_quiet (fail)
   go_wp2
   go_ret2
   exact ⟨A0k Hb.out,Oj _ _⟩
  ·
   by_cases h2:c=43
   ·
    subst h2
    generalize bs (43::r)=s at *
    clear hb
    go_enter func179,ntmps179
    go_wp2
    go_quiet (fail)
    go_wp2
    go_ret2
    exact ⟨A0k Hb.out,Oj _ _⟩
   ·
    have d:((c.toNat:Int) == 45)=false:=by
     rw [Dw];intro h;exact h1 (UInt8.toNat_inj.1 (by show c.toNat=45;omega))
    have f:((c.toNat:Int) == 43)=false:=by
     rw [Dw];intro h;exact h2 (UInt8.toNat_inj.1 (by show c.toNat=43;omega))
    have a:B6 (c::r)=(false,c::r):=by simp [B6,h1,h2]
    rw [a]
    generalize bs (c::r)=s at *
    clear hb a h1 h2
    go_enter func179,ntmps179
    go_wp2
    go_ret2
    exact ⟨rfl,Gb _ _⟩
theorem PN {fn:Func} {t u v x:Tmp} (h:fn.results=#[.tmp t,.tmp u,.tmp v,.tmp x]) (tmps:Array Value) (P:Program) (w:World) :
  (results fn tmps).run P w=.ok (.tuple #[tmps.getD t undef,tmps.getD u undef,tmps.getD v undef,tmps.getD x undef]) w:=by
 simp [results,h]
theorem PM {a b a' b':ByteArray} {c d d':Bool} (h1:a=a') (h2:b=b') (h3:d=d'):Ending.returned (.tuple #[.string a,.string b,.bool c,.bool d])=Ending.returned (.tuple #[.string a',.string b',.bool c,.bool d']):=by
 rw [h1,h2,h3]
def Ch:l8_->l8_ × l8_ × Bool
 | []=>([],[],false)
 | c::r=>if c=46 then ([],r,true) else (c::(Ch r).1,(Ch r).2)
theorem K3 (B:l8_):∀ A:l8_,46 ∉ A->Ch (A++46::B)=(A,B,true)
 | [],_=>by simp [Ch]
 | c::A,h=>by
  simp only [A6,not_or] at h
  have ih:=K3 B A h.2
  simp [Ch,ih,Ne.symm h.1]
theorem SF:∀ l:l8_,46 ∉ l->Ch l=(l,[],false)
 | [],_=>rfl
 | c::l,h=>by
  simp only [A6,not_or] at h
  have ih:=SF l h.2
  simp [Ch,ih,Ne.symm h.1]
theorem K4 (l:l8_):(Ch l).1.length+(Ch l).2.1.length<=l.length:=by
 induction l with
 | nil=>simp [Ch]
 | cons c r ih=>unfold Ch;split <;> simp;omega
theorem A3J (l:l8_) (w:World) (hl:l.length<=100000000) :
  Cb 202 #[.string (bs l),.string ⟨#[46]⟩] w (.tuple #[.string (bs (Ch l).1),.string (bs (Ch l).2.1),.bool (Ch l).2.2]):=by
 by_cases h:46∈l
 ·
  obtain ⟨A,B,rfl,hA⟩:=PE 46 l h
  rw [K3 B A hA];exact Vd A B 46 w hl hA
 · rw [SF l h];exact Y6 l 46 w h
def GK (l:l8_):Bool:=(Ch l).1.all BW && (Ch l).2.1.all BW && decide (0<(Ch l).1.length+(Ch l).2.1.length)
theorem K2 (l:l8_) (w:World) (hl:l.length<=100000000) :
    Cb 180 #[.string (bs l)] w (.tuple #[.string (bs (Ch l).1),.string (bs (Ch l).2.1),.bool (Ch l).2.2,.bool (GK l)]):=by
  have c:=K4 l
  have hm:GK l=((Ch l).1.all BW && (Ch l).2.1.all BW && decide (0<(Ch l).1.length+(Ch l).2.1.length)):=rfl
  have b:=λw=>A3J l w hl
  generalize GK l=ok at *
  generalize Ch l=p at *
  obtain ⟨A,B,f⟩:=p
  simp only at c hm b
  have Hm:=Eb hm;clear hm
  have i:(bs A).size=A.length:=BV A
  have j:(bs B).size=B.length:=BV B
  by_cases hA:A.all BW=true
  · by_cases hB : B.all BW = true
    · have a : ok = decide (0 < A.length + B.length) := by rw [Hm.out, hA, hB]; rfl
      have HA:=Eb hA;have HB:=Eb hB;have Hok:=Eb a;clear a hA hB
      go_enter func180,ntmps180
      go_wp2_with first | (go_at_call 202;go_must (refine (b _).mono ?_);rintro e d ⟨rfl,hb1⟩) | (go_at_call_of 203 (Value.string (bs A));go_must (refine (FZ A _ oO).mono ?_);rintro e g ⟨rfl,hb2⟩;rw [HA.out]) | (go_at_call_of 203 (Value.string (bs B));go_must (refine (FZ B _ oO).mono ?_);rintro e h ⟨rfl,hb3⟩;rw [HB.out])
      refine Cu (PN rfl _ _ _) rfl ?_
      refine ⟨PM rfl rfl ?_,Ci (Ci hb1 hb2) hb3⟩
      rw [Hok.out,AY];simp;omega
    · have hB' : B.all BW = false := by simpa using hB
      have a:ok=false:=by rw [Hm.out,hA,hB'];rfl
      have HA:=Eb hA;have HB:=Eb hB';have Hok:=Eb a;clear a hA hB hB'
      go_enter func180,ntmps180
      go_wp2_with first | (go_at_call 202;go_must (refine (b _).mono ?_);rintro e d ⟨rfl,hb1⟩) | (go_at_call_of 203 (Value.string (bs A));go_must (refine (FZ A _ oO).mono ?_);rintro e g ⟨rfl,hb2⟩;rw [HA.out]) | (go_at_call_of 203 (Value.string (bs B));go_must (refine (FZ B _ oO).mono ?_);rintro e h ⟨rfl,hb3⟩;rw [HB.out])
      refine Cu (PN rfl _ _ _) rfl ?_
      exact ⟨PM rfl rfl Hok.out.symm,Ci (Ci hb1 hb2) hb3⟩
  · have hA' : A.all BW = false := by simpa using hA
    have a:ok=false:=by rw [Hm.out,hA'];rfl
    have HA:=Eb hA';have Hok:=Eb a;clear a hA hA'
    go_enter func180,ntmps180
    go_wp2_with first | (go_at_call 202;go_must (refine (b _).mono ?_);rintro e d ⟨rfl,hb1⟩) | (go_at_call_of 203 (Value.string (bs A));go_must (refine (FZ A _ oO).mono ?_);rintro e g ⟨rfl,hb2⟩;rw [HA.out])
    refine Cu (PN rfl _ _ _) rfl ?_
    exact ⟨PM rfl rfl Hok.out.symm,Ci hb1 hb2⟩
end
section
def I5:List Nat->List Nat × Nat
 | []=>([],0)
 | x::r=>((2 * x+(I5 r).2) % 10::(I5 r).1,(2 * x+(I5 r).2) / 10)
theorem Pj (l:List Nat):(I5 l).1.length=l.length:=by
 induction l with
 | nil=>rfl
 | cons x r ih=>simp [I5,ih]
theorem Oh (l:List Nat) (h:∀ x∈l,x<10):(I5 l).2<=1:=by
 induction l with
 | nil=>simp [I5]
 | cons x r ih =>
  have a:=h x (by simp)
  have b:=ih (λy hy=>h y (by simp [hy]))
  simp [I5];omega
theorem QH (l:List Nat):∀ x∈(I5 l).1,x<10:=by
 induction l with
 | nil=>simp [I5]
 | cons x r ih =>
  intro y hy
  simp [I5] at hy
  rcases hy with rfl | hy
  · omega
  · exact ih y hy
def Oo (l:List Nat):List Value:=l.map λ(x:Nat)=>Value.int .u8 (x:Int)
theorem Xj (l:List Nat):(Oo l).length=l.length:=by simp [Oo]
theorem A1H (ds:List Nat) (j:Nat) (hj:j<ds.length) :
  I5 (ds.drop j)=((2 * ds[j]+(I5 (ds.drop (j+1))).2) % 10::(I5 (ds.drop (j+1))).1,(2 * ds[j]+(I5 (ds.drop (j+1))).2) / 10):=by
 rw [Aw hj];rfl
theorem X0 (b:Nat) (cap:Nat) (ds:List Nat) (w:World) (hr:NF w b (Oo ds)) (hd:∀ x∈ds,x<10) (hl:ds.length<=maxLen) (B:Nat) (hB:B<=b) :
  Calls Tryz.prog 205 #[.slice (some ⟨b,0,none⟩) ds.length cap] w λe w'=>e=.returned (Af (I5 ds).2)/\NF w' b (Oo (I5 ds).1)/\Below B w w':=by
 unfold maxLen at hl
 go_enter func205,ntmps205
 go_wp2_with fail
 go_loopw [3,4] (λc i wr=>∃ (k:Nat) (f:Int),k<=ds.length/\f=(k:Int)-1/\i=Af f/\c=.int .u8 ((I5 (ds.drop k)).2:Int)/\NF wr b (Oo (ds.take k++(I5 (ds.drop k)).1))/\Below B w wr) (λ_ i _=>(intOf i+1).toNat)
 case atStart=>exact ⟨ds.length,_,DP _,rfl,rfl,by simp [I5],by simpa [I5] using hr,Gb _ _⟩
 case round =>
  obtain ⟨k,f,hk,l,rfl,rfl,a,d⟩:=hrel
  cases k with
  | zero =>
   obtain rfl:f=-1:=by omega
   clear l
   have hc:=Oh ds hd
   have q:ds.drop 0=ds:=by simp
   rw [q] at a ⊢
   have Hrow:=Eb a;clear a
   go_wp2
   go_ret
   exact ⟨rfl,by simpa using Hrow.out,d⟩
  | succ j =>
   obtain rfl:f=(j:Int):=by omega
   clear l
   have hj:j<ds.length:=by omega
   have hc:=Oh (ds.drop (j+1)) (λx hx=>hd x (H0 hx))
   have hx:=hd ds[j] (by simp)
   have m:=A1H ds j hj
   have s:=d.size
   obtain ⟨o,t⟩:=a j (.int .u8 (ds[j]:Int)) (by
    have g:j<(ds.take (j+1)).length:=by simp;omega
    rw [Oo,List.getElem?_map,Ex g,List.getElem?_take,A7 oO,Aj hj];rfl)
   have h:=a.set j (.int .u8 ((2 * (ds[j]:Int)+((I5 (ds.drop (j+1))).2:Int)) % 10)) (by simp [Oo];omega)
   have Hset:=Eb h;have Hst:=Eb m;clear h m a hr
   generalize hgc:(I5 (ds.drop (j+1))).2=c at *
   generalize hgx:ds[j]=x at *
   have Hgc:=Eb hgc;have Hgx:=Eb hgx;clear hgc hgx
   go_wp2
   refine ⟨⟨j,_,oO,rfl,rfl,?_,?_,d.setCell hB _⟩,by simp [intOf]⟩
   · rw [Hst.out];go_num
   ·
    have e:(Oo (List.take (j+1) ds++(I5 (List.drop (j+1) ds)).fst)).set j (Value.int IntKind.u8 ((2 * (x:Int)+(c:Int)) % 10))=Oo (List.take j ds++(I5 (List.drop j ds)).fst):=by
     rw [Hst.out]
     rw [Bg hj]
     have g:(List.map (λ(x:Nat)=>Value.int .u8 (x:Int)) (List.take j ds)).length=j:=by simp;omega
     simp only [Oo,E9,AS]
     rw [List.set_append_right _ _ oO,g,FG]
     simp
    rw [<- e];exact Hset.out
def Fi:Nat->Int->List Nat->Int × List Nat
 | 0,n,d=>(n,d)
 | k+1,n,d=>Fi k (2 * n+(I5 d).2) (I5 d).1
def BE (l:l8_):List Nat:=l.map λc=>c.toNat-48
def Cv (l:l8_):Nat:=l.foldl (λn c=>10 * n+(c.toNat-48)) 0
def Wb (whole rest:l8_):Option Int :=
 if 5<(whole.dropWhile (· == 48)).length then none
 else some ((Fi 16 (Cv (whole.dropWhile (· == 48))) (BE rest)).1+(I5 (Fi 16 (Cv (whole.dropWhile (· == 48))) (BE rest)).2).2)
def Fy (minus:Bool) (whole rest:l8_):Int × Bool :=
 match Wb whole rest with
 | none=>(0,false)
 | some n=>let m:=if minus then -n else n;(m,Cy m)
theorem Qg (l:l8_) (c:UInt8):Cv (l++[c])=10 * Cv l+(c.toNat-48):=by simp [Cv]
theorem Ww (l:l8_) (h:∀ c∈l,BW c=true):∀ n,l.foldl (λn c=>10 * n+(c.toNat-48)) n<(n+1) * 10 ^ l.length:=by
 induction l with
 | nil=>intro n;simp
 | cons c r ih =>
  intro n
  have b:=ih (λx hx=>h x (by simp [hx])) (10 * n+(c.toNat-48))
  have a:=h c (by simp)
  simp [BW] at a
  rw [EO,Aa,Nat.pow_succ]
  have d:(10 * n+(c.toNat-48)+1) * 10 ^ r.length<=(n+1) * (10 ^ r.length * 10):=by
   rw [Nat.mul_comm (10 ^ r.length) 10,<- Nat.mul_assoc]
   exact D4 _ oO
  omega
theorem HU (l:l8_) (h:∀ c∈l,BW c=true):Cv l<10 ^ l.length:=by
 have:=Ww l h 0
 rw [Do,Nat.one_mul] at this
 exact this
theorem OL (l:l8_) (h:∀ c∈l,BW c=true):∀ x∈BE l,x<10:=by
 intro x hx
 simp [BE] at hx
 obtain ⟨c,hc,rfl⟩:=hx
 have a:=h c hc
 simp [BW] at a
 omega
theorem Rz (minus:Bool) (whole rest:l8_) (w:World) (hb:5<(whole.dropWhile (· == 48)).length) :
  Cb 181 #[.bool minus,.string (bs whole),.string (bs rest)] w (.tuple #[Af 0,.bool false]):=by
 have hs:=BV (whole.dropWhile (· == 48))
 have hT:=λw=>RS whole w
 generalize whole.dropWhile (· == 48)=t at *
 go_enter func181,ntmps181
 go_wp2_with (go_at_call 204;go_must (refine (hT _).mono ?_);rintro e a ⟨rfl,rfl⟩)
 go_ret2
 exact ⟨rfl,Gb _ _⟩
theorem I1 (l:l8_) (k:Nat) (h:k<l.length):(AQ l)[k]?=some (.int .u8 (l[k].toNat:Int)):=by
 unfold AQ
 rw [List.getElem?_map,Aj h];rfl
theorem Ho (l:l8_) (k:Nat) (h:k<l.length):Cv (l.take (k+1))=10 * Cv (l.take k)+(l[k].toNat-48):=by
 rw [Bg h,Qg]
theorem Rp (l:l8_) (k:Nat) (hl:l.length<=5) (h:∀ c∈l,BW c=true):Cv (l.take k)<100000:=by
 have a:=HU (l.take k) (λc hc=>h c (Eh hc))
 have b:10 ^ (l.take k).length<=10 ^ 5:=Nat.pow_le_pow_right dD (by simp;omega)
 omega
theorem Et {c:UInt8} (h:BW c=true):48<=c.toNat/\c.toNat<=57:=by
 simpa [BW] using h
theorem KY (b:Nat) (cap n:Nat) (ds:List Nat) (w:World) (hn:ds.length=n) (hr:NF w b (Oo ds)) (hd:∀ x∈ds,x<10) (hl:n<=3000) (B:Nat) (hB:B<=b) :
  Calls Tryz.prog 205 #[.slice (some ⟨b,0,none⟩) n cap] w λe w'=>e=.returned (Af (I5 ds).2)/\NF w' b (Oo (I5 ds).1)/\Below B w w':=by
 subst hn
 exact X0 b cap ds w hr hd (by unfold maxLen;omega) B hB
theorem VE (a b:List Nat):Oo (a++b)=Oo a++Oo b:=by simp [Oo]
theorem Eu (l:l8_):(BE l).length=l.length:=by simp [BE]
theorem A0T (l:l8_) (k:Nat) (h:k<l.length):(Oo ((BE l).take k)++AQ (l.drop k))[k]?=some (.int .u8 (l[k].toNat:Int)):=by
 have e:(Oo ((BE l).take k)).length=k:=by rw [Xj,At,Eu];omega
 rw [H5 oO,e,FG,Aw h];rfl
theorem A3h (l:l8_) (k:Nat) (h:k<l.length) (h1:48<=l[k].toNat):(Oo ((BE l).take k)++AQ (l.drop k)).set k (.int .u8 ((l[k].toNat:Int)-48))=Oo ((BE l).take (k+1))++AQ (l.drop (k+1)):=by
 have e:(Oo ((BE l).take k)).length=k:=by rw [Xj,At,Eu];omega
 rw [List.set_append_right _ _ oO,e,FG,Aw h,Bg (by rw [Eu];exact h),VE,AS]
 congr 1
 have a:(BE l)[k]'(by rw [Eu];exact h)=l[k].toNat-48:=by simp [BE]
 have b:((l[k].toNat-48:Nat):Int)=(l[k].toNat:Int)-48:=by omega
 rw [a]
 simp only [Oo,EF,F4,b]
 rfl
theorem A0j {a b:Int} {c d:Bool} (h:a=b) (h':c=d):Ending.returned (.tuple #[Af a,.bool c])=Ending.returned (.tuple #[Af b,.bool d]):=by rw [h,h']
theorem Ry (minus : Bool) (whole rest : l8_) (w : World) (h1 : (whole.dropWhile (· == 48)).length ≤ 5) (h2 : rest.length ≤ 3000) (h3 : ∀ c ∈ whole, BW c = true) (h4 : ∀ c ∈ rest, BW c = true) :
    Cb 181 #[.bool minus,.string (bs whole),.string (bs rest)] w (.tuple #[Af (Fy minus whole rest).1,.bool (Fy minus whole rest).2]):=by
  have hT:=λw=>RS whole w
  have hv:Fy minus whole rest=(let m:=if minus then -((Fi 16 (Cv (whole.dropWhile (· == 48))) (BE rest)).1+(I5 (Fi 16 (Cv (whole.dropWhile (· == 48))) (BE rest)).2).2) else ((Fi 16 (Cv (whole.dropWhile (· == 48))) (BE rest)).1+(I5 (Fi 16 (Cv (whole.dropWhile (· == 48))) (BE rest)).2).2);(m,Cy m)):=by
    unfold Fy Wb
    rw [A2 oO]
  have ht:∀ c∈whole.dropWhile (· == 48),BW c=true:=λc hc=>h3 c (List.dropWhile_sublist _ |>.subset hc)
  clear h3
  generalize whole.dropWhile (· == 48)=t at *
  have hs:=BV t
  have R:=BV rest
  have Hv:=Eb hv;have Ht:=Eb ht;have H4:=Eb h4;clear hv ht h4
  go_enter func181,ntmps181
  go_wp2_with first | (go_at_call 204;go_must (refine (hT _).mono ?_);rintro e J ⟨rfl,rfl⟩) | (refine El rfl _ _ _ _ rfl Gk B1 FK _ rfl ?_;intro cap J D a hg y)
  have hb1:=Fa hg
  have Hrow:=Eb a;clear a hg hT
  go_loop [8,10,21] (λn _ i=>∃ k:Nat,k<=t.length/\i=Af k/\n=Af (Cv (t.take k):Int)) (λ_ _ i=>t.length-(intOf i).toNat)
  case atStart=>exact ⟨0,FI _,rfl,rfl⟩
  case round =>
    obtain ⟨k,hk,rfl,rfl⟩:=hrel
    have G:=Rp t k h1 Ht.out
    by_cases hkl:k<t.length
    · have s := Ho t k hkl
      have hd:=Et (Ht.out t[k] (by simp))
      have hc:=(Hrow.out k _ (I1 t k hkl)).1
      have Hstep:=Eb s;clear s
      generalize Cv (t.take k)=N at *
      generalize t[k].toNat=c at *
      go_wp2
      go_round
      case rel=>exact ⟨k+1,oO,by go_num,by rw [Hstep.out];go_num⟩
      case measure=>simp [intOf];omega
    · obtain rfl : k = t.length := by omega
      rw [Dc] at G
      rw [Dc]
      clear Hrow
      go_wp2_with (refine El rfl _ _ _ _ rfl Gk B1 FK _ rfl ?_;intro K L v a hg E)
      have hb2:=Ci hb1 (Fa hg)
      rw [y] at a
      have hB:w.heap.size<=w.heap.size+1:=by omega
      clear D hg hb1
      go_loopw [12,36] (λ_ i wr=>∃ k:Nat,k<=rest.length/\i=Af k/\NF wr (w.heap.size+1) (Oo ((BE rest).take k)++AQ (rest.drop k))/\AL w wr) (λ_ i _=>rest.length-(intOf i).toNat)
      case atStart=>exact ⟨0,FI _,rfl,by simpa [Oo] using (show NF L (w.heap.size+1) (AQ rest) from a),hb2⟩
      case round =>
        obtain ⟨k,hk,rfl,b,o⟩:=hrel
        clear a hb2 y E v
        by_cases hkl:k<rest.length
        · have hd := Et (H4.out rest[k] (by simp))
          obtain ⟨hc,T⟩:=b k _ (A0T rest k hkl)
          have q:=b.set k (.int .u8 ((rest[k].toNat:Int)-48)) (by
            have:=(C8.1 (A0T rest k hkl)).1;exact this)
          rw [A3h rest k hkl hd.1] at q
          have Hset:=Eb q;clear q b
          generalize rest[k].toNat=c at *
          go_wp2
          go_roundw
          case rel=>exact ⟨k+1,oO,by go_num,Hset.out,o.setCell hB _⟩
          case measure=>simp [intOf];omega
        · obtain rfl : k = rest.length := by omega
          have u:NF wr (w.heap.size+1) (Oo (BE rest)):=by
            have M:(BE rest).take rest.length=BE rest:=An (by rw [Eu];omega)
            have O:rest.drop rest.length=[]:=by simp
            rw [M,O] at b
            simpa [AQ] using b
          have Hrow3:=Eb u;clear b u
          have l:=Eu rest
          have g:=OL rest H4.out
          have Hdl:=Eb l;have Hdd:=Eb g;clear l g
          generalize BE rest=d0 at *
          generalize Cv t=n0 at *
          obtain ⟨wo,rfl⟩:=eX wr
          go_wp2
          go_loopw [8,46] (λn i wr=>∃ (k:Nat) (N:Int) (d:List Nat),k<=16/\i=Af k/\n=Af N/\0<=N/\N+1<=100000 * 2 ^ k/\d.length=rest.length/\(∀ x∈d,x<10)/\NF wr (w.heap.size+1) (Oo d)/\AL w wr/\Fi (16-k) N d=Fi 16 n0 d0) (λ_ i _=>16-(intOf i).toNat)
          case atStart=>exact ⟨0,n0,d0,oO,rfl,rfl,oO,by simp;omega,Hdl.out,Hdd.out,Hrow3.out,o,rfl⟩
          case round =>
            obtain ⟨k,N,d,hk,rfl,rfl,U,A,l,g,a,f,B⟩:=hrel
            have F:(2:Int) ^ k<=65536:=by
              have h:=Nat.pow_le_pow_right (show 0<2 by decide) hk
              have h2:((2 ^ k:Nat):Int)<=((2 ^ 16:Nat):Int):=by exact_mod_cast h
              simpa using h2
            have V:N<6553600000:=by omega
            have X:=Oh d g
            have P:=f.size
            have Hrr:=Eb B;have Hdl2:=Eb l;have Hdd2:=Eb g;have HN1:=Eb A
            have Hrow:=Eb a
            clear B l g A a o F
            by_cases hk16:k<16
            · go_wp2_with (go_at_call 205; go_must (refine (KY _ _ _ d _ Hdl2.out Hrow.out Hdd2.out h2 w.heap.size hB).mono ?_); rintro e H ⟨rfl, j, hb4⟩)
              go_roundw
              case rel =>
                refine ⟨k+1,2 * N+(I5 d).2,(I5 d).1,oO,by go_num,by go_num,oO,?_,by rw [Pj];exact Hdl2.out,QH d,j,f.trans hb4,?_⟩
                · have := HN1.out
                  rw [Int.pow_succ];omega
                · rw [<- Hrr.out,show 16-k=(16-(k+1))+1 from by omega];rfl
              case measure=>simp [intOf];omega
            · obtain rfl : k = 16 := by omega
              have C:(Fi 16 n0 d0)=(N,d):=by rw [<- Hrr.out];rfl
              have Hrd:=Eb C;clear C
              cases minus with
              | true =>
                go_wp2_with first | (go_at_call 205;go_must (refine (KY _ _ _ d _ Hdl2.out Hrow.out Hdd2.out h2 w.heap.size hB).mono ?_);rintro e H ⟨rfl,j,hb4⟩) | (go_at_call 162;go_must (refine (JB _ _).mono ?_);rintro e Q ⟨rfl,rfl⟩)
                go_ret2
                refine ⟨?_,f.trans hb4⟩
                rw [Hv.out,Hrd.out];rfl
              | false =>
                go_wp2_with first | (go_at_call 205;go_must (refine (KY _ _ _ d _ Hdl2.out Hrow.out Hdd2.out h2 w.heap.size hB).mono ?_);rintro e H ⟨rfl,j,hb4⟩) | (go_at_call 162;go_must (refine (JB _ _).mono ?_);rintro e Q ⟨rfl,rfl⟩)
                go_ret2
                refine ⟨?_,f.trans hb4⟩
                rw [Hv.out,Hrd.out];rfl
end
section
theorem Qy (l:l8_) (n:Nat):(bs l).extract 0 n=bs (l.take n):=by rw [IU];simp
theorem Qz (l:l8_) (n m:Nat) (h:m=l.length):(bs l).extract n m=bs (l.drop n):=by
 subst h;rw [IU,An (by simp)]
end
section
def Gj (digits:l8_) (p:Int):l8_:=digits.take p.toNat++List.replicate (p.toNat-digits.length) 48
def HQ (digits:l8_) (p:Int):l8_:=List.replicate (-p).toNat 48++digits.drop p.toNat
theorem Wv (a b:l8_):Cv a<=Cv (a++b):=by
 unfold Cv
 rw [List.foldl_append]
 generalize a.foldl (λn c=>10 * n+(c.toNat-48)) 0=n
 induction b generalizing n with
 | nil=>simp
 | cons c r ih =>
  rw [EO]
  exact C9 oO (ih _)
theorem Mk (l:l8_) (k:Nat):Cv (l.take k)<=Cv l:=by
 conv=>rhs;rw [<- Dx k l]
 exact Wv _ _
theorem Qf (l:l8_):Cv (l.dropWhile (· == 48))=Cv l:=by
 induction l with
 | nil=>rfl
 | cons c r ih =>
  rw [List.dropWhile_cons]
  split
  ·
   next h =>
   rw [ih]
   have:c=48:=by simpa using h
   subst this
   simp [Cv]
  · rfl
theorem Qh (l:l8_) (n:Nat):n * 10 ^ l.length<=l.foldl (λn c=>10 * n+(c.toNat-48)) n:=by
 induction l generalizing n with
 | nil=>simp
 | cons c r ih =>
  rw [EO,Aa,Nat.pow_succ]
  refine C9 ?_ (ih _)
  rw [Nat.mul_comm (10 ^ r.length) 10,<- Nat.mul_assoc]
  exact D4 _ oO
theorem Yq (l:l8_) (h:∀ c∈l,BW c=true):5<(l.dropWhile (· == 48)).length↔99999<Cv l:=by
 rw [<- Qf l]
 have ht:∀ c∈l.dropWhile (· == 48),BW c=true:=λc hc=>h c (List.dropWhile_sublist _ |>.subset hc)
 constructor
 ·
  intro hl
  cases hd:l.dropWhile (· == 48) with
  | nil=>rw [hd] at hl;simp at hl
  | cons c r =>
   have hc:(c == 48)=false:=by
    have:=List.head_dropWhile_not (p:=(· == 48)) (l:=l) (by rw [hd];simp)
    simpa [hd] using this
   have e:=Et (ht c (by rw [hd];simp))
   have a:c≠48:=by simpa using hc
   have f:1<=c.toNat-48:=by
    rcases Bu 48 c.toNat with h' | h'
    · omega
    · exact De (UInt8.toNat_inj.1 (by show c.toNat=48;omega)) a
   rw [hd] at hl
   simp only [Aa] at hl
   have b:=Qh r (10 * 0+(c.toNat-48))
   have d:1 * 10 ^ 5<=(10 * 0+(c.toNat-48)) * 10 ^ r.length:=Nat.mul_le_mul oO (Nat.pow_le_pow_right dD oO)
   unfold Cv
   rw [EO]
   omega
 ·
  intro hn
  rcases Bu 5 (l.dropWhile (· == 48)).length with h' | h'
  · exact h'
  ·
   have b:=HU _ ht
   have d:10 ^ (l.dropWhile (· == 48)).length<=10 ^ 5:=Nat.pow_le_pow_right dD h'
   omega
theorem Ra (k:Nat):∀ (n:Int) (d:List Nat),(∀ x∈d,x<10)->∀ x∈(Fi k n d).2,x<10:=by
 induction k with
 | zero=>intro n d h;exact h
 | succ k ih=>intro n d h;exact ih _ _ (QH d)
end
end Go.Proofs.YtiddobdioipidaaGreatDoor
