/-
  What the claim leans on, part 1: pruned and joined by my own tool out of the texts that stand in wip/ as templates.
-/
import Derived.WalkKit
import Derived.WalkSpells
import Derived.WalkLawsBesides
import Derived.Test.YtiddobdioipidaaGreatDoorRows
import Derived.Deep.QuietTactic
import Derived.StillTail
import Derived.Laws.BytesString
import Derived.Laws.Slices
import Derived.Carry
import Derived.ChangeSlices
import Derived.Lib.ConvBytes
import Derived.Laws.AppendOwn
import Derived.Laws.CopyRow
import Derived.Deep.MidRow
import Derived.Lib.SliceRun
import Derived.Stop.BytesEq
import Derived.Lib.FrozenHead
import Derived.Lib.AppendStr
import Derived.Deep.Slices
import Derived.ProofKit
import Derived.OpenShut
import Derived.Lib.AppendZerosOnto
import Derived.Laws.OwnMore
import Derived.OrdersHeld
import Derived.Shelf.Strings.Builder1
import Derived.Shelf.Strings.Builder2
import Derived.Shelf.Strings.Trim
import Derived.Shelf.Small.Utf8
import Derived.Shelf.Small.Strs
import Derived.Shelf.Strings.BuilderF
import Derived.Shelf.Strings.BuilderK
import Derived.Shelf.Strings.Builder2Cap
import Derived.Shelf.Strings.Search1
import Derived.Shelf.Strings.Search2
import Derived.Shelf.Strings.Cut
import Derived.Shelf.LaysM
import Derived.Shelf.Strings.Shaped
import Derived.Shelf.Strings.Prefix
import Derived.Shelf.Unicode.Decode
import Derived.Shelf.Strings.Runes
import Derived.Shelf.Strings.IndexAny
import Derived.Shelf.Strings.AsciiSet
import Derived.Shelf.Strings.IndexAnyAll
import Derived.Shelf.Bits.Mul64
import Derived.Shelf.Strings.Repeat
import Derived.Shelf.Unicode.DecodeSlow
import Derived.Shelf.Unicode.DecodeAny
import Derived.Shelf.Unicode.DecodeLast
import Derived.Shelf.Strings.BuilderCap
import Derived.Test.YtiddobdioipidaaGreatDoorProg
import Derived.Shelf.Strings.SlTrimAscii
import Derived.BigQuiet
import Derived.Deep.DeepCutAuto
import Derived.Recover
import Derived.Laws.Entries
import Derived.RangeFuncIn
import Derived.RangeFuncLeaves
import Derived.RangeFuncOwn
import Derived.Maps.OwnSet
import Derived.Lib.LastIndexLaws
import Derived.Test.YtiddobdioipidaaGreatDoorCards
import Derived.Test.YtiddobdioipidaaGreatDoorTie
import Derived.Deep.DeepHandedRow
import Derived.Lib.LaidTab
set_option maxHeartbeats 6400000
set_option maxRecDepth 100000
namespace Go.Proofs.YtiddobdioipidaaGreatDoor
open Go.RowKit
open Go.Proofs.Tryz
abbrev l8_:=List UInt8
abbrev BU:=@And.intro
abbrev AD:=@Array.getD_eq_getD_getElem?
abbrev Eo:=@Array.getElem?_eq_getElem
abbrev Ef:=@Array.getElem?_eq_none
abbrev B5:=@Array.getElem?_eq_some_iff
abbrev DT:=@Array.getElem?_toList
abbrev AG:=@Bool.and_eq_true
abbrev B3:=@Bool.eq_iff_iff
abbrev BV:=@Bool.false_eq_true
abbrev Dj:=@Bool.not_eq_false'
abbrev BE:=@Bool.not_eq_true'
abbrev CD:=@Bool.or_eq_true
abbrev DV:=@Bool.true_and
abbrev AP:=@List.all_eq_true
abbrev AS:=@List.append_assoc
abbrev Fu:=@List.append_nil
abbrev A0n:=@List.cons.injEq
abbrev Bh:=@List.cons_append
abbrev DU:=@List.drop_drop
abbrev Aw:=@List.drop_eq_getElem_cons
abbrev Bv:=@List.drop_eq_nil_of_le
abbrev NQ:=@List.drop_length
abbrev Lh:=@List.drop_zero
abbrev Dg:=@List.eq_nil_of_length_eq_zero
abbrev Dx:=@List.flatMap_cons
abbrev EG:=@List.foldl_cons
abbrev D8:=@List.getD_eq_getElem?_getD
abbrev Fm:=@List.getElem?_append_left
abbrev A24:=@List.getElem?_append_right
abbrev Ak:=@List.getElem?_eq_getElem
abbrev AZ:=@List.getElem?_eq_none
abbrev C1:=@List.getElem?_eq_some_iff
abbrev CY:=@List.getElem_append_left
abbrev Cp:=@List.getElem_append_right
abbrev IH:=@List.getElem_cons_succ
abbrev IG:=@List.getElem_cons_zero
abbrev Wg:=@List.getElem_drop
abbrev GX:=@List.getElem_map
abbrev Ar:=@List.getElem_mem
abbrev MG:=@List.getElem_take
abbrev A9:=@List.length_append
abbrev Aa:=@List.length_cons
abbrev Aq:=@List.length_drop
abbrev EF:=@List.length_eq_zero_iff
abbrev Bo:=@List.length_map
abbrev Am:=@List.length_nil
abbrev CH:=@List.length_replicate
abbrev A4B:=@List.length_singleton
abbrev Ap:=@List.length_take
abbrev Ej:=@List.map_append
abbrev Ev:=@List.map_cons
abbrev Fz:=@List.map_nil
abbrev Bj:=@List.mem_append
abbrev A7:=@List.mem_cons
abbrev Ee:=@List.mem_map
abbrev JL:=@List.mem_of_mem_drop
abbrev EA:=@List.mem_of_mem_take
abbrev Bl:=@List.mem_singleton
abbrev BT:=@List.nil_append
abbrev A6:=@List.not_mem_nil
abbrev XI:=@List.take_append
abbrev Ds:=@List.take_append_drop
abbrev D7:=@List.take_length
abbrev Al:=@List.take_of_length_le
abbrev B7:=@List.take_succ_eq_append_getElem
abbrev A3c:=@Nat.add_assoc
abbrev G8:=@Nat.add_sub_cancel
abbrev Bu:=@Nat.eq_of_beq_eq_true
abbrev I1:=@Nat.eq_zero_or_pos
abbrev IF:=@Nat.le_of_lt
abbrev CS:=@Nat.lt_of_succ_le
abbrev By:=@Nat.lt_or_ge
abbrev MJ:=@Nat.lt_succ_iff_lt_or_eq
abbrev NP:=@Nat.lt_succ_self
abbrev Cz:=@Nat.mul_le_mul_right
abbrev Ot:=@Nat.sub_self
abbrev D5:=@Nat.zero_add
abbrev Bi:=@Option.some.inj
abbrev BK:=@Option.some.injEq
abbrev Co:=@Prod.mk.injEq
abbrev BW:=@Result.andThen_ok
abbrev Cd:=@Sem.run_bind
abbrev D4:=@Sem.run_pure
abbrev BF:=@True.intro
abbrev C7:=@UInt8.toNat_lt
abbrev Dr:=@beq_eq_false_iff_ne
abbrev Cj:=@bodyPost_ret
abbrev BH:=@congrArg
abbrev GW:=@decide_eq_decide
abbrev AH:=@decide_eq_false
abbrev Bg:=@decide_eq_false_iff_not
abbrev AR:=@decide_eq_true
abbrev AI:=@decide_eq_true_eq
abbrev A2:=@if_neg
abbrev A5:=@if_pos
abbrev Ab:=@not_false_eq_true
abbrev Ax:=@or_false
abbrev Bp:=@run_underlying
abbrev ptV (b:Nat):Value:=.pointer (some ⟨b,0,none⟩)
abbrev Ag (n:Int):Value:=.int .i64 n
theorem Dh (w:World):Below w.heap.size w w:=Below.refl _ _
abbrev AL (w w1:World):Prop:=Below w.heap.size w w1
abbrev Cl (F:FuncId) (xs:Array Value) (w:World) (v:Value):Prop:=Calls Tryz.prog F xs w λe w'=>e=.returned v/\Below w.heap.size w w'
abbrev g22_:=@isAgg22
abbrev Fs:=@isAgg24
abbrev DW:=@isAgg25
abbrev C5:=@isAgg3
abbrev Eh:=@isAgg35
abbrev IU:=@isAgg5
abbrev FU:=@isAgg9
abbrev KX:=@sizeOf115
abbrev CZ:=@sizeOf22
abbrev E6:=@sizeOf24
abbrev CQ:=@sizeOf25
abbrev Dd:=@sizeOf27
abbrev BI:=@sizeOf3
abbrev SB:=@sizeOf31
abbrev Fd:=@sizeOf35
abbrev OO:=@sizeOf41
abbrev SA:=@sizeOf44
abbrev Rt:=@sizeOf46
abbrev EC:=@sizeOf5
abbrev FP:=@sizeOf9
abbrev Ge:=@underlying117
abbrev Cq:=@underlying133
abbrev Hz:=@underlying150
abbrev Nw:=@underlying167
abbrev DP:=@underlying196
abbrev JF:=@underlying215
abbrev B1:=@underlying22
abbrev Df:=@underlying222
abbrev DD:=@underlying24
abbrev Cg:=@underlying25
abbrev Av:=@underlying27
abbrev ML:=@underlying3
abbrev MM:=@underlying35
abbrev XR:=@underlying38
abbrev In:=@underlying41
abbrev A0q:=@underlying44
abbrev Lj:=@underlying46
abbrev XQ:=@underlying47
abbrev LT:=@underlying48
abbrev Ga:=@underlying5
abbrev NT:=@underlying52
abbrev Rm:=@underlying66
abbrev Dy:=@underlying78
abbrev XP:=@underlying80
abbrev PP:=@underlying82
abbrev NS:=@underlying86
abbrev FV:=@underlying9
abbrev GY:=@zeroValue196
abbrev CA:=@zeroValue27
abbrev z3_:=@zeroValue3
abbrev Wh:=@zeroValue31
abbrev Sk:=@zeroValue35
abbrev XJ:=@zeroValue46
abbrev Li:=@zeroValue5
abbrev z9_:=@zeroValue9
section
theorem E2 {p:Prop} (h:p):Hid p:=h
def MF (w:World) (b:Nat) (l:List Value):Prop:=∀ j v,l[j]?=some v->w.cell? ⟨b,j,none⟩=some v/\w.frozen? ⟨b,j,none⟩=false
theorem MF.set {w:World} {b:Nat} {l:List Value} (h:MF w b l) (i:Nat) (v:Value) (hi:i<l.length):MF (w.setCell ⟨b,i,none⟩ v) b (l.set i v):=by
 intro j u hj
 rw [World.frozen?_setCell]
 by_cases e:i=j
 ·
  subst e
  rw [List.getElem?_set_self hi] at hj
  obtain rfl:v=u:=by simpa using hj
  obtain ⟨a,c⟩:=h i l[i] (by simp [hi])
  exact ⟨World.cell?_setCell_same _ _ _ a,c⟩
 ·
  rw [List.getElem?_set_ne e] at hj
  obtain ⟨a,c⟩:=h j u hj
  rw [World.cell?_setCell_other _ _ _ _ (by intro h;simp at h)]
  exact ⟨a,c⟩
def AN (l:l8_):List Value:=l.map λ(c:UInt8)=>Value.int .u8 (c.toNat:Int)
theorem Ci {w w1 w2:World} (h:AL w w1) (k:AL w1 w2):AL w w2:=h.trans (k.mono h.size)
theorem Nm (w:World) (q:Nat):AL w (w.drewN q):=⟨rfl,rfl,rfl,Nat.le_refl _,λ_ _=>rfl⟩
section
variable {P:Program}
theorem Qo (w:World) (s:ByteArray) (cap:Nat) (e:TypeId) (hc:s.size<=cap):MF (w.drew.alloc (.cells (bytesRow s cap) e ((bytesRow s cap).size,(bytesRow s cap).size+1))) w.heap.size (AN s.data.toList):=by
 intro j v hj
 have hj':j<s.data.size:=by
  rcases By j s.data.size with h | h
  · exact h
  · rw [AZ (by simpa [AN] using h)] at hj;cases hj
 have c:(bytesRow s cap).size=cap:=by
  unfold bytesRow
  have a:s.data.size=s.size:=rfl
  simp [a];omega
 constructor
 ·
  have b:=World.cell?_alloc_mark w.drew (bytesRow s cap) e ((bytesRow s cap).size,(bytesRow s cap).size+1) j
  have d:=bytesRow_at s cap j hj'
  have a:w.drew.heap.size=w.heap.size:=rfl
  rw [a] at b
  rw [b,d,<- hj]
  simp only [AN,List.getElem?_map,DT]
  rw [Eo hj'];rfl
 ·
  have b:=World.frozen?_alloc_mark w.drew (bytesRow s cap) e (bytesRow s cap).size ((bytesRow s cap).size+1) j
  have a:w.drew.heap.size=w.heap.size:=rfl
  rw [a] at b
  have f:s.data.size=s.size:=rfl
  rw [b,c]
  simp;omega
theorem Eb {ops:Array Oper} {rest:List Oper} {o:Oper} {a:Act} {Q:Exit->Act->World->Prop} {w:World} (hg:o.guard=none) (x:Operand) (ts tb te:TypeId) (hop:o.op=.convert ts tb x)
  (h1:P.underlying ts=some .string) (h2:P.underlying tb=some (.slice te)) (h3:P.underlying te=some (.int .u8)) (s:ByteArray) (hx:a.eval x=.string s)
  (h : ∀ cap w', s.size ≤ cap → MF w' w.heap.size (AN s.data.toList) → w.grownBy w' none → w'.heap.size = w.heap.size + 1 →
   wpList P ops Q rest (a.put o.dst (.slice (some ⟨w.heap.size,0,none⟩) s.size cap)) w'):wpList P ops Q (o::rest) a w:=by
 refine wpList_plain hg λK hK=>?_
 have hr:=run_bytes_of_string (P:=P) w ts tb te s h1 h2 h3
 unfold Oper.wp
 simp only [execOp,hop,hx,Cd,hr,Result.andThen,D4,Oper.upon]
 refine hK _ _ (h _ _ (grownCap_ge w s.size 0 te) ?_ ?_ ?_)
 · exact Qo w s _ te (grownCap_ge w s.size 0 te)
 · exact ⟨rfl,rfl,rfl,by simp,λk hk _=>heap_alloc_old w.drew _ hk⟩
 · simp
theorem EZ {w w':World} (h:w.grownBy w' none):AL w w' :=
 (Below.refl _ _).grown h (Nat.le_refl _) (by intro k hk;cases hk)
end
end
section
def Db (n:Int):Bool:=decide (-2147483648<=n) && decide (n<=2147483647)
theorem KG {n:Int} (h:-2147483648<=n) (h':n<=2147483647):Db n=true:=by simp [Db,h,h']
theorem Mr {n:Int} (h:n < -2147483648):Db n=false:=by
 have:¬ (-2147483648<=n):=by omega
 simp [Db,this]
theorem Tm {n:Int} (h:2147483647<n):Db n=false:=by
 have:¬ (n<=2147483647):=by omega
 simp [Db,this]
theorem Mq (n:Int) (w:World) :
  Calls Tryz.prog 162 #[Ag n] w λe w'=>e=.returned (.bool (Db n))/\w=w':=by
 go_enter func162,ntmps162
 go_wp2
 ·
  go_ret
  have h:-2147483648<=n:=by assumption
  exact ⟨by simp [Db,h],rfl⟩
 ·
  go_ret
  have h:n < -2147483648:=by assumption
  exact ⟨by simp [Mr h],rfl⟩
theorem I7 (n:Int) (w:World) :
  Calls Tryz.prog 64 #[Ag n] w λe w'=>e=.returned (.bool (Db n))/\w=w':=by
 go_enter func64,ntmps64
 go_wp2
 ·
  go_ret
  have h:-2147483648<=n:=by assumption
  exact ⟨by simp [Db,h],rfl⟩
 ·
  go_ret
  have h:n < -2147483648:=by assumption
  exact ⟨by simp [Mr h],rfl⟩
def ch (n:Int):UInt8:=UInt8.ofNat n.toNat
def bs (l:l8_):ByteArray:=⟨l.toArray⟩
theorem Er (a b:l8_):bs a++bs b=bs (a++b):=by
 apply ByteArray.ext
 simp [bs]
theorem BM (l:l8_):(bs l).size=l.length:=by simp [bs,ByteArray.size]
def B0 (n:Nat):l8_ :=
 if n<10 then [ch (48+n)] else B0 (n / 10)++[ch (48+(n % 10:Nat))]
termination_by n
theorem Eg (n:Nat) (h:n<10):B0 n=[ch (48+n)]:=by rw [B0,A5 h]
theorem Ie (n:Nat) (h:10<=n):B0 n=B0 (n / 10)++[ch (48+(n % 10:Nat))]:=by rw [B0,A2 (by omega)]
theorem Dv (k:Nat):∀ n:Nat,n<10 ^ (k+1)->(B0 n).length<=k+1:=by
  induction k with
  | zero=>intro n h;rw [B0,A5 (by simpa using h)];simp
  | succ k ih =>
    intro n h
    rw [B0]
    split
    · simp
    · have := ih (n / 10) (by rw [Nat.pow_succ] at h; omega)
      simp;omega
theorem HL (n:Nat) (h:n<18446744073709551616):(bs (B0 n)).size<=20:=by
 rw [BM];exact Dv 19 n (Nat.lt_trans h (by decide))
theorem Zx (w:World) (x:Int):(convert 22 9 (.slice (some ⟨w.heap.size,0,none⟩) 1 1)).run Tryz.prog (w.alloc (.cells #[.int .u8 x] 5)) =
    .ok (.string (bs [ch x])) (w.alloc (.cells #[.int .u8 x] 5)):=by
  have h:=run_convert_bytes_arg (P:=Tryz.prog) (w.alloc (.cells #[.int .u8 x] 5)) 22 5 B1 Ga w.heap.size 0 1 1 [x] rfl
    (by intro i hi; obtain rfl : i = 0 := by omega
        go_simp) 9 FV
  exact h
theorem Yi (n:Nat) (w:World) (hn:n<18446744073709551616):
    Cl 42 #[.int .u64 n] w (.string (bs (B0 n))):=by
  have b:=Zx
  go_enter func42,ntmps42
  go_wp2_with fail
  go_loopw [0,3] (λu s wr=>∃ (m:Nat) (t:l8_),m<18446744073709551616/\u=.int .u64 m/\s=.string (bs t)/\AL w wr/\t.length+(B0 m).length<=20/\B0 n=B0 m++t) (λu _ _=>(intOf u).toNat)
  case atStart=>exact ⟨n,[],hn,rfl,rfl,Below.refl _ _,by have:=HL n hn;rw [BM] at this;simpa using this,by simp⟩
  case round =>
    obtain ⟨m,t,hm,rfl,rfl,hb,hl,hd⟩:=hrel
    have Hd:=E2 hd;clear hd
    have hs:(bs t).size<=20:=by rw [BM];omega
    have c:(bs [ch (48+(m:Int) % 10)]).size<=1:=by rw [BM];simp
    have a:=hb.size
    by_cases h10:m<10
    · have hz : (((m : Int) / 10) == 0) = true := by rw [beq_iff_eq]; omega
      go_wp2
      go_ret
      have e:(m:Int) % 10=(m:Int):=by omega
      exact ⟨by rw [Hd.out,Eg m h10,<- Er,e];rfl,hb.alloc a _⟩
    · have hz : (((m : Int) / 10) == 0) = false := by rw [Dr]; omega
      have hg:=Ie m (by omega)
      have Hg:=E2 hg;clear hg
      go_wp2
      refine ⟨⟨m / 10,ch (48+((m % 10:Nat):Int))::t,by omega,by go_num,by rw [Er];simp,hb.alloc a _,?_,?_⟩,by simp [intOf];omega⟩
      · have := BH List.length Hg.out
        simp at this ⊢;omega
      · rw [Hd.out,Hg.out];simp
theorem QD (n:Int) (w:World) (h0:0<=n) (hn:n<18446744073709551616):
  Cl 42 #[.int .u64 n] w (.string (bs (B0 n.toNat))):=by
 have h:=Yi n.toNat w (by omega)
 rw [Int.toNat_of_nonneg h0] at h
 exact h
def ED (n:Int):l8_:=if n<0 then 45::B0 n.natAbs else B0 n.natAbs
theorem Kt (n:Int) (w:World) (h:-9223372036854775808<=n) (h':n<=9223372036854775807) :
    Cl 21 #[Ag n] w (.string (bs (ED n))):=by
  by_cases hn:n<0
  · have b := HL (-(n + 1) + 1).toNat (by omega)
    go_enter func21,ntmps21
    go_wp2_with (go_at_call 42;refine (QD _ _ (by omega) (by omega)).mono ?_;rintro e w' ⟨rfl,hb⟩)
    go_ret
    have a:(-(n+1)+1).toNat=n.natAbs:=by omega
    refine ⟨?_,hb⟩
    rw [ED,A5 hn,<- a]
    show Ending.returned (.string (bs [45]++bs _))=_
    rw [Er];rfl
  · go_enter func21, ntmps21
    go_wp2_with (go_at_call 42;refine (QD _ _ (by omega) (by omega)).mono ?_;rintro e w' ⟨rfl,hb⟩)
    go_ret
    have a:n.toNat=n.natAbs:=by omega
    refine ⟨?_,hb⟩
    rw [ED,A2 (by omega),<- a]
    rfl
theorem Jb (n:Int) (h:-9223372036854775808<=n) (h':n<=9223372036854775807):(bs (ED n)).size<=21:=by
 have:=HL n.natAbs (by omega)
 rw [BM] at *
 unfold ED;split <;> simp <;> omega
end
section
structure M6 where
 a:Int
 b:Int
 c:Int
 d:Int
 e:Int
 f:Int
def m6V (m:M6):List Value:=[Ag m.a,Ag m.b,Ag m.c,Ag m.d,Ag m.e,Ag m.f]
def m6I:M6:=⟨65536,0,0,65536,0,0⟩
def m60:M6:=⟨0,0,0,0,0,0⟩
end
section
abbrev Fr:=List (Nat × Value)
def look:Fr->Nat->Option Value
 | [],_=>none
 | (j,v)::r,i=>bif Nat.beq j i then some v else look r i
def CE (f:Fr):Operand->Option Value
 | .tmp t=>look f t
 | .const v=>some v
 | .global g=>some (ptV g)
 | .func k=>some (.func (.func k) #[] #[])
def ET:Fr->Fr->Prop
 | [],_=>True
 | (j,v)::g,f=>look f j=some v/\ET g f
theorem ET.look {g f:Fr} (h:ET g f) {i:Nat} {v:Value} (hv:look g i=some v):look f i=some v:=by
 induction g with
 | nil=>cases hv
 | cons p g ih =>
  obtain ⟨j,u⟩:=p
  unfold Go.Proofs.YtiddobdioipidaaGreatDoor.look at hv
  cases hb:Nat.beq j i with
  | true =>
   rw [hb] at hv
   obtain rfl:j=i:=Bu hb
   rw [h.1];exact hv
  | false=>rw [hb] at hv;exact ih h.2 hv
structure Sh where
 n:Nat
 D:List Deferred
def NO (n:Sh) (f:Fr) (a:Act):Prop:=a.defers=n.D/\a.tmps.size=n.n/\∀ i v,look f i=some v->a.tmps.getD i undef=v
theorem NO.sub {n:Sh} {f g:Fr} {a:Act} (h:NO n f a) (hs:ET g f):NO n g a:=⟨h.1,h.2.1,λi v hv=>h.2.2 i v (hs.look hv)⟩
theorem NO.put {n:Sh} {f:Fr} {a:Act} (h:NO n f a) {d:Nat} (hd:Nat.blt d n.n=true) (v:Value):NO n ((d,v)::f) (a.put (some d) v):=by
 have b:d<n.n:=by simpa [Nat.blt_eq] using hd
 refine ⟨h.1,by simp [Act.put,h.2.1],λi u hu=>?_⟩
 show (a.tmps.setIfInBounds d v).getD i undef=u
 unfold look at hu
 cases hb:Nat.beq d i with
 | true =>
  obtain rfl:d=i:=Bu hb
  simp only [hb,cond_true,BK] at hu
  subst hu
  simp [Array.getD,h.2.1,b]
 | false =>
  simp only [hb,cond_false] at hu
  have c:d≠i:=λe=>by rw [e,Nat.beq_refl] at hb;cases hb
  have:=h.2.2 i u hu
  simp only [AD] at this ⊢
  rw [Array.getElem?_setIfInBounds_ne c];exact this
def Agr (f:Fr) (ρ:Operand->Value):Prop:=∀ x v,CE f x=some v->ρ x=v
theorem NO.agr {n:Sh} {f:Fr} {a:Act} (h:NO n f a):Agr f a.eval:=by
 intro x v hx
 cases x with
 | tmp t=>exact h.2.2 t v hx
 | const u=>exact Bi hx
 | global g=>exact Bi hx
 | func k=>exact Bi hx
section
variable {P:Program} {n:Sh}
def Io (n:Sh) (Q:Exit->Fr->World->Prop):Exit->Act->World->Prop:=λe a w=>∃ f,NO n f a/\Q e f w
def W (P:Program) (n:Sh) (c:Code) (Q:Exit->Fr->World->Prop) (f:Fr) (w:World):Prop:=∀ a,NO n f a->c.wp P (Io n Q) a w
def WL (P:Program) (n:Sh) (ops:Array Oper) (Q:Exit->Fr->World->Prop) (l:List Oper) (f:Fr) (w:World):Prop:=∀ a,NO n f a->wpList P ops (Io n Q) l a w
def nx (K:Fr->World->Prop) (Q:Exit->Fr->World->Prop):Exit->Fr->World->Prop
 | .normal,f,w=>K f w
 | e,f,w=>Q e f w
def inb (id:Nat) (Q:Exit->Fr->World->Prop):Exit->Fr->World->Prop
 | .exit i,f,w=>bif Nat.beq i id then Q .normal f w else Q (.exit i) f w
 | e,f,w=>Q e f w
theorem W.weaken {c:Code} {Q:Exit->Fr->World->Prop} {f:Fr} {w:World} (g:Fr) (hs:ET g f) (h:W P n c Q g w):W P n c Q f w :=
 λa ha=>h a (ha.sub hs)
theorem W.mono {c:Code} {Q Q':Exit->Fr->World->Prop} {f:Fr} {w:World} (h:W P n c Q f w) (hq:∀ e f w,Q e f w->Q' e f w):W P n c Q' f w :=
 λa ha=>wp_mono (h a ha) λ_ _ _ ⟨f',hr,hQ⟩=>⟨f',hr,hq _ _ _ hQ⟩
theorem Ad {x y:Code} {Q:Exit->Fr->World->Prop} {f:Fr} {w:World} (h:W P n x (nx (λf w=>W P n y Q f w) Q) f w):W P n (.seq x y) Q f w:=by
 intro a ha
 refine wp_seq (wp_mono (h a ha) ?_)
 rintro e a' w' ⟨f',hr,hQ⟩
 cases e with
 | normal=>exact hQ a' hr
 | _=>exact ⟨f',hr,hQ⟩
theorem dT {p:Prop} [Decidable p] (h:decide p=true):p:=of_decide_eq_true h
theorem dF {p:Prop} [Decidable p] (h:decide p=false):¬p:=of_decide_eq_false h
theorem oO {p:Prop} (h:p:=by omega):p:=h
theorem oC {p:Prop} (h:p:=by first | omega | (simp only [Aa,Am];omega)):p:=h
theorem oD {p:Prop} (h:p:=by first | omega | exact Nat.zero_lt_succ _):p:=h
theorem oE {p:Prop} (h:p:=by simp only [Aa,Am];omega):p:=h
theorem oF {p:Prop} (h:p:=by simp only [A9,Aa,Am];omega):p:=h
theorem rD {p:Prop} (h:p:=by first | rfl | decide):p:=h
theorem aS {p:Prop} (h:p:=by assumption):p:=h
theorem dD {p:Prop} (h:p:=by decide):p:=h
theorem kR {p:Prop} (h:p:=by kernel_rfl):p:=h
theorem oL {p:Prop} (h:p:=by simp only [A9,Aa,Am,Aq] at *;omega):p:=h
theorem oQ {p:Prop} (h:p:=by first | decide | exact Nat.le_of_ble_eq_true rfl):p:=h
theorem oM {p:Prop} (h:p:=by ((try simp only) <;> omega)):p:=h
abbrev Ex:=@Below.trans
abbrev CT:=@Nat.le_trans
abbrev DS:=@Nat.le_refl
abbrev nz_:=@Nat.zero_lt_succ
abbrev Fl:=@Below.refl
abbrev CV:=@Nat.ne_of_lt
abbrev lc_:=@List.cons_ne_nil
abbrev FN:=@Nat.zero_le
abbrev Dp:=@absurd
abbrev ot_:=@of_decide_eq_true
theorem tT:True:=trivial
theorem tU:True/\True:=⟨trivial,trivial⟩
theorem eX {α:Type} (t:α):∃ u,u=t:=⟨t,rfl⟩
abbrev eX0:=@eX
theorem Mz {α:Type} (R:α->Fr) (S:α->World->Prop) {x y:Code} {Q:Exit->Fr->World->Prop} {f:Fr} {w:World}
  (h1:W P n x (nx (λf' w'=>∃ t,ET (R t) f'/\S t w') Q) f w) (h2:∀ t w',S t w'->W P n y Q (R t) w'):W P n (.seq x y) Q f w:=by
 refine Ad (h1.mono ?_)
 intro e f' w' h
 cases e with
 | normal=>obtain ⟨t,hs,ht⟩:=h;exact (h2 t w' ht).weaken _ hs
 | _=>exact h
theorem A2Y {Q:Exit->Fr->World->Prop} {f:Fr} {w:World} (h:Q .normal f w):W P n .skip Q f w:=λ_ ha=>wp_skip ⟨f,ha,h⟩
abbrev As:=@A2Y
theorem BL {Q:Exit->Fr->World->Prop} {f:Fr} {w:World} {id:Nat} (h:Q (.exit id) f w):W P n (.exit id) Q f w:=λ_ ha=>wp_exit ⟨f,ha,h⟩
theorem AU {Q:Exit->Fr->World->Prop} {f:Fr} {w:World} (h:Q .ret f w):W P n .ret Q f w:=λ_ ha=>wp_ret ⟨f,ha,h⟩
theorem W.block {Q:Exit->Fr->World->Prop} {f:Fr} {w:World} {id:Nat} {c:Code} (h:W P n c (inb id Q) f w):W P n (.block id c) Q f w:=by
 intro a ha
 refine wp_block (wp_mono (h a ha) ?_)
 rintro e a' w' ⟨f',hr,hQ⟩
 cases e with
 | exit i =>
  simp only [Exit.inBlock]
  by_cases hi:i=id
  ·
   subst hi
   rw [A5 rfl]
   simp only [inb,Nat.beq_refl,cond_true] at hQ
   exact ⟨f',hr,hQ⟩
  ·
   rw [A2 hi]
   have hb:Nat.beq i id=false:=by
    cases h:Nat.beq i id with
    | false=>rfl
    | true=>exact Dp (Bu h) hi
   simp only [inb,hb,cond_false] at hQ
   exact ⟨f',hr,hQ⟩
 | _=>exact ⟨f',hr,hQ⟩
abbrev AT:=@W.block
theorem Ai {Q:Exit->Fr->World->Prop} {f:Fr} {w:World} {c:Operand} {x y:Code} {t:Bool} (hc:CE f c=some (.bool t))
  (ht:t=true->W P n x Q f w) (hf:t=false->W P n y Q f w):W P n (.cond c x y) Q f w :=
 λa ha=>wp_cond_split (ha.agr _ _ hc) (λh=>ht h a ha) (λh=>hf h a ha)
theorem TG {P:Program} {n:Sh} {Q:Exit->Fr->World->Prop} {f:Fr} {w:World} {c:Operand} {x y:Code} {p:Prop} [Decidable p] (hc:CE f c=some (.bool (decide p))) (ht:p->W P n x Q f w) (hf:¬p->W P n y Q f w):W P n (.cond c x y) Q f w:=Ai hc (λe=>ht (of_decide_eq_true e)) (λe=>hf (of_decide_eq_false e))
theorem BZ {Q:Exit->Fr->World->Prop} {f:Fr} {w:World} {c:Operand} {x y:Code} {t:Bool} (hc:CE f c=some (.bool t)) (e:t=true)
  (h:W P n x Q f w):W P n (.cond c x y) Q f w:=Ai hc (λ_=>h) (λh'=>by rw [e] at h';cases h')
theorem Ay {Q:Exit->Fr->World->Prop} {f:Fr} {w:World} {c:Operand} {x y:Code} {t:Bool} (hc:CE f c=some (.bool t)) (e:t=false)
  (h:W P n y Q f w):W P n (.cond c x y) Q f w:=Ai hc (λh'=>by rw [e] at h';cases h') (λ_=>h)
theorem BO {α:Type} (R:α->Fr) (S:α->World->Prop) (m:α->Nat) (t:α) {c:Code} {Q:Exit->Fr->World->Prop} {f:Fr} {w:World}
  (h0:ET (R t) f) (h1:S t w) (round:∀ t w,S t w->W P n c (nx (λf' w'=>∃ u,ET (R u) f'/\S u w'/\m u<m t) Q) (R t) w):W P n (.loop c) Q f w:=by
 intro a ha b k cs
 have key:∀ k' t a w,m t=k'->NO n (R t) a->S t w->∃ e a' w',Io n Q e a' w'/\Arrives P (lone (b.at a (.code c::.inLoop c::k)) cs w) b k cs e a' w':=by
  intro k'
  induction k' using Nat.strongRecOn with
  | _ k' ih =>
   intro t a w hm hr hS
   obtain ⟨e,h,i,⟨f1,g,hq⟩,d⟩:=round t w hS a hr b (.inLoop c::k) cs
   cases e with
   | normal =>
    obtain ⟨u,hs,o,q⟩:=hq
    obtain ⟨v,y,A,s,j⟩:=ih (m u) (hm▸q) u h i rfl (g.sub hs) o
    exact ⟨v,y,A,s,.of_steps (Steps.trans d (.one step_inLoop)) j⟩
   | exit id=>exact ⟨_,h,i,⟨f1,g,hq⟩,.pass (x:=.inLoop c) rfl (λ_ _=>.inl (by simp)) d⟩
   | goto l=>exact ⟨_,h,i,⟨f1,g,hq⟩,.pass (x:=.inLoop c) rfl (λ_ _=>.inl (by simp)) d⟩
   | ret=>exact ⟨_,h,i,⟨f1,g,hq⟩,.pass (x:=.inLoop c) rfl (λ_ _=>.inl (by simp)) d⟩
   | panic ch=>exact ⟨_,h,i,⟨f1,g,hq⟩,.pass (x:=.inLoop c) rfl (λ_ _=>.inl (by simp)) d⟩
   | outgrown=>exact ⟨_,h,i,⟨f1,g,hq⟩,.pass (x:=.inLoop c) rfl (λ_ _=>.inl (by simp)) d⟩
 obtain ⟨e,a',w',hq,d⟩:=key _ t a w rfl (ha.sub h0) h1
 exact ⟨e,a',w',hq,.of_steps (.one step_loop) d⟩
theorem An {Q:Exit->Fr->World->Prop} {f:Fr} {w:World} {id:Nat} {l:List Oper} (h:WL P n l.toArray Q l f w):W P n (.region id l.toArray false) Q f w :=
 λa ha=>wp_region_lit (h a ha)
theorem A4 {P:Program} {n:Sh} {id:Nat} {l:List Oper} {y:Code} {Q:Exit->Fr->World->Prop} {f:Fr} {w:World} (h:WL P n l.toArray (nx (λf w=>W P n y Q f w) Q) l f w):W P n (.seq (.region id l.toArray false) y) Q f w:=Ad (An h)
def K2:Nat->List Value->Fr
 | _,[]=>[]
 | k,v::r=>(k,v)::K2 (k+1) r
theorem K0 (l:List Value):∀ k i v,look (K2 k l) i=some v->∃ j,i=k+j/\l[j]?=some v:=by
 induction l with
 | nil=>intro k i v h;cases h
 | cons u r ih =>
  intro k i v h
  unfold K2 look at h
  cases hb:Nat.beq k i with
  | true =>
   simp only [hb,cond_true,BK] at h
   exact ⟨0,(Bu hb).symm,by simp [h]⟩
  | false =>
   simp only [hb,cond_false] at h
   obtain ⟨j,e,hj⟩:=ih (k+1) i v h
   exact ⟨j+1,oO,by simpa using hj⟩
def CK (P:Program) (fn:Func) (f:Fr) (w:World) (v:Value):Prop:=∀ tmps:Array Value,(∀ i u,look f i=some u->tmps.getD i undef=u)->(results fn tmps).run P w=.ok v w
def HR (P:Program) (fn:Func) (R:Ending->World->Prop):Exit->Fr->World->Prop
 | .normal,f,w | .ret,f,w=>∃ v,CK P fn f w v/\R (.returned v) w
 | .panic chain,_,w=>R (.panicked chain) w
 | .outgrown,_,w=>R .outgrown w
 | _,_,_=>False
theorem Wa {F:FuncId} {fn:Func} {c:Code} {args:Array Value} {w:World} {R:Ending->World->Prop} (hf:P.funcs[F]?=some fn) (hb:fn.body=some c)
  {k:Nat} (hn:fn.ntmps=k) (hl:args.size<=k) (h:W P ⟨k,[]⟩ c (HR P fn R) (K2 0 args.toList) w):Calls P F args w R:=by
 refine calls_of_wp hf hb (wp_mono (h _ ⟨rfl,by simp [hn];omega,?_⟩) ?_)
 ·
  intro i v hv
  obtain ⟨j,e,hj⟩:=K0 _ _ _ _ hv
  obtain rfl:i=j:=by omega
  have d:i<args.size:=by
   rcases By i args.size with h | h
   · exact h
   · rw [AZ (by simpa using h)] at hj;cases hj
  have hj':args[i]?=some v:=by rw [<- DT];exact hj
  simp only [AD]
  rw [Array.getElem?_append_left d,hj'];rfl
 ·
  rintro e a' w' ⟨f',hr,hQ⟩
  cases e with
  | normal=>obtain ⟨v,a,b⟩:=hQ;exact ⟨hr.1,v,a _ hr.2.2,b⟩
  | ret=>obtain ⟨v,a,b⟩:=hQ;exact ⟨hr.1,v,a _ hr.2.2,b⟩
  | panic ch=>exact ⟨hr.1,hQ⟩
  | outgrown=>exact hQ
  | exit i=>exact hQ.elim
  | goto l=>exact hQ.elim
abbrev A4q:=@Wa
theorem CU {fn:Func} {R:Ending->World->Prop} {f:Fr} {w:World} (hr:fn.results=#[]) (h:R (.returned (.tuple #[])) w):HR P fn R .ret f w :=
 ⟨_,λ_ _=>results_none hr _ _ _,h⟩
theorem ZU {fn:Func} {R:Ending->World->Prop} {f:Fr} {w:World} {t:Tmp} {v:Value} (hr:fn.results=#[.tmp t]) (hv:look f t=some v)
  (h:R (.returned v) w):HR P fn R .ret f w :=
 ⟨v,λtmps ht=>by rw [results_tmp hr,ht _ _ hv],h⟩
abbrev A4E:=@ZU
theorem AY {P:Program} {n:Sh} {fn:Func} {R:Ending->World->Prop} {Q:Exit->Fr->World->Prop} {f:Fr} {w:World} {t:Tmp} {v:Value} (h:R (.returned v) w) (hq:HR P fn R .ret f w->Q .ret f w:=by exact id) (hr:fn.results=#[.tmp t]:=by rfl) (hv:look f t=some v:=by rfl):W P n .ret Q f w:=AU (hq (ZU hr hv h))
theorem Du {fn:Func} {R:Ending->World->Prop} {f:Fr} {w:World} {t u:Tmp} {v x:Value} (hr:fn.results=#[.tmp t,.tmp u]) (hv:look f t=some v) (hx:look f u=some x)
  (h:R (.returned (.tuple #[v,x])) w):HR P fn R .ret f w :=
 ⟨_,λtmps ht=>by rw [results_tmp2 hr,ht _ _ hv,ht _ _ hx],h⟩
theorem A2Z {fn:Func} {R:Ending->World->Prop} {f:Fr} {w:World} {t u s:Tmp} {v x y:Value} (hr:fn.results=#[.tmp t,.tmp u,.tmp s]) (hv:look f t=some v) (hx:look f u=some x) (hy:look f s=some y)
  (h:R (.returned (.tuple #[v,x,y])) w):HR P fn R .ret f w :=
 ⟨_,λtmps ht=>by rw [show (results fn tmps).run P w=.ok (.tuple #[tmps.getD t undef,tmps.getD u undef,tmps.getD s undef]) w by simp [results,hr],ht _ _ hv,ht _ _ hx,ht _ _ hy],h⟩
theorem KN {fn:Func} {R:Ending->World->Prop} {f:Fr} {w:World} {t u s:Tmp} {ty:TypeId} {b:Addr} {v x y:Value} (hr:fn.results=#[.cell t ty,.tmp u,.tmp s])
  (ht:look f t=some (.pointer (some b))) (hv:(loadVar ty b).run P w=.ok v w) (hx:look f u=some x) (hy:look f s=some y)
  (h:R (.returned (.tuple #[v,x,y])) w):HR P fn R .ret f w :=
 ⟨_,λtmps hh=>by
  have e1:=hh _ _ ht;have e2:=hh _ _ hx;have e3:=hh _ _ hy
  simp only [AD] at e1 e2 e3
  simp [results,hr,e1,e2,e3,asAddr,hv],h⟩
def Bz (P:Program) (op:Op) (f:Fr) (v:Value):Prop:=∀ ρ,Agr f ρ->∀ d ty pos aft g w,(execOp ρ ⟨d,op,ty,pos,aft,g⟩).run P w=.ok (.value v) w
theorem Vg {ops:Array Oper} {Q:Exit->Fr->World->Prop} {f:Fr} {w:World} (h:Q .normal f w):WL P n ops Q [] f w:=λ_ ha=>wpList_nil ⟨f,ha,h⟩
abbrev A0:=@Vg
theorem WL.run {ops:Array Oper} {Q:Exit->Fr->World->Prop} {f:Fr} {w w':World} {rest:List Oper} {d ty:Nat} {pos:String} {aft:Array Edge} {op:Op} {v:Value} (hd:Nat.blt d n.n=true)
  (h:∀ ρ,Agr f ρ->(execOp ρ ⟨some d,op,ty,pos,aft,none⟩).run P w=.ok (.value v) w') (k:WL P n ops Q rest ((d,v)::f) w'):WL P n ops Q (⟨some d,op,ty,pos,aft,none⟩::rest) f w:=by
 intro a ha
 refine wpList_plain rfl λK hK=>?_
 unfold Oper.wp
 rw [h _ ha.agr]
 exact hK _ _ (k _ (ha.put hd v))
theorem PF {ops:Array Oper} {Q:Exit->Fr->World->Prop} {f:Fr} {w w':World} {rest:List Oper} {ty:Nat} {pos:String} {aft:Array Edge} {op:Op}
  (h:∀ ρ,Agr f ρ->(execOp ρ ⟨none,op,ty,pos,aft,none⟩).run P w=.ok .skip w') (k:WL P n ops Q rest f w'):WL P n ops Q (⟨none,op,ty,pos,aft,none⟩::rest) f w:=by
 intro a ha
 refine wpList_plain rfl λK hK=>?_
 unfold Oper.wp
 rw [h _ ha.agr]
 exact hK _ _ (k _ ha)
theorem WL.p {ops:Array Oper} {Q:Exit->Fr->World->Prop} {f:Fr} {w:World} {rest:List Oper} {d ty:Nat} {pos:String} {aft:Array Edge} {op:Op} {v:Value}
  (h:Bz P op f v) (hd:Nat.blt d n.n=true) (k:WL P n ops Q rest ((d,v)::f) w):WL P n ops Q (⟨some d,op,ty,pos,aft,none⟩::rest) f w :=
 WL.run hd (λρ hρ=>h ρ hρ _ _ _ _ _ _) k
theorem A1 {P:Program} {n:Sh} {ops:Array Oper} {Q:Exit->Fr->World->Prop} {f:Fr} {w:World} {rest:List Oper} {d ty:Nat} {pos:String} {aft:Array Edge} {op:Op} {v:Value} (h:Bz P op f v) (k:WL P n ops Q rest ((d,v)::f) w) (hd:Nat.blt d n.n=true:=by rfl):WL P n ops Q (⟨some d,op,ty,pos,aft,none⟩::rest) f w:=WL.p h hd k
theorem Cc {ops:Array Oper} {Q:Exit->Fr->World->Prop} {f:Fr} {w:World} {rest:List Oper} {d ty:Nat} {pos:String} {aft:Array Edge} {op:Op} {j dj:Nat} {b t:Bool}
    (hj:(ops[j]?).bind (·.dst)=some dj) (ht:look f dj=some (.bool t)) (hd:Nat.blt d n.n=true)
    (hy:t=b->WL P n ops Q (⟨some d,op,ty,pos,aft,none⟩::rest) f w) (hn:t=!b->WL P n ops Q rest ((d,undef)::f) w) :
    WL P n ops Q (⟨some d,op,ty,pos,aft,some (j,b)⟩::rest) f w:=by
  intro a ha
  have c:=ha.2.2 _ _ ht
  have e:yielded ops a.tmps j=some t:=by
    unfold yielded
    cases ho:ops[j]? with
    | none=>rw [ho] at hj;cases hj
    | some o =>
      rw [ho] at hj
      simp only [Option.bind_some] at hj
      have g:a.tmps[dj]?=some (.bool t):=by
        cases h:a.tmps[dj]? with
        | none=>rw [AD,h] at c;cases c
        | some v=>rw [AD,h] at c;exact BH some c
      simp [hj,g]
  by_cases hb:t=b
  · have := hy hb a ha
    unfold wpList at this ⊢
    simp only [Region.wanted,e,hb,beq_self_eq_true,if_true] at this ⊢
    exact this
  · have hb' : t = !b := by revert hb; cases t <;> cases b <;> decide
    have:=hn hb' _ (ha.put hd undef)
    unfold wpList
    have hw:(some t == some b)=false:=by revert hb;cases t <;> cases b <;> decide
    simp only [Region.wanted,e,hw]
    exact this
theorem A4p {P:Program} {n:Sh} {ops:Array Oper} {Q:Exit->Fr->World->Prop} {f:Fr} {w:World} {rest:List Oper} {d ty:Nat} {pos:String} {aft:Array Edge} {op:Op} {j dj:Nat} {b:Bool} {p:Prop} [Decidable p] (hj:(ops[j]?).bind (·.dst)=some dj) (ht:look f dj=some (.bool (decide p))) (hd:Nat.blt d n.n=true) (hy:(match b with | true=>p | false=>¬p)->WL P n ops Q (⟨some d,op,ty,pos,aft,none⟩::rest) f w) (hn:(match b with | true=>¬p | false=>p)->WL P n ops Q rest ((d,undef)::f) w):WL P n ops Q (⟨some d,op,ty,pos,aft,some (j,b)⟩::rest) f w:=Cc hj ht hd (λe=>hy (by cases b with | true=>exact of_decide_eq_true e | false=>exact of_decide_eq_false e)) (λe=>hn (by cases b with | true=>exact of_decide_eq_false e | false=>exact of_decide_eq_true e))
theorem Ik {ops:Array Oper} {Q:Exit->Fr->World->Prop} {f:Fr} {w:World} {rest:List Oper} {d ty:Nat} {pos:String} {aft:Array Edge} {op:Op} {j dj:Nat} {b t:Bool}
  (hj:(ops[j]?).bind (·.dst)=some dj) (ht:look f dj=some (.bool t)) (hd:Nat.blt d n.n=true) (e:t=b)
  (hy:WL P n ops Q (⟨some d,op,ty,pos,aft,none⟩::rest) f w):WL P n ops Q (⟨some d,op,ty,pos,aft,some (j,b)⟩::rest) f w :=
 Cc hj ht hd (λ_=>hy) (λh=>by rw [e] at h;cases b <;> cases h)
theorem AE {P:Program} {n:Sh} {ops:Array Oper} {Q:Exit->Fr->World->Prop} {f:Fr} {w:World} {rest:List Oper} {d ty:Nat} {pos:String} {aft:Array Edge} {op:Op} {j dj:Nat} {b t:Bool} (e:t=b) (hn:WL P n ops Q (⟨some d,op,ty,pos,aft,none⟩::rest) f w) (hj:(ops[j]?).bind (·.dst)=some dj:=by rfl) (ht:look f dj=some (.bool t):=by rfl) (hd:Nat.blt d n.n=true:=by rfl):WL P n ops Q (⟨some d,op,ty,pos,aft,some (j,b)⟩::rest) f w:=Ik hj ht hd e hn
theorem Jc {ops:Array Oper} {Q:Exit->Fr->World->Prop} {f:Fr} {w:World} {rest:List Oper} {d ty:Nat} {pos:String} {aft:Array Edge} {op:Op} {j dj:Nat} {b t:Bool}
  (hj:(ops[j]?).bind (·.dst)=some dj) (ht:look f dj=some (.bool t)) (hd:Nat.blt d n.n=true) (e:t=!b)
  (hn:WL P n ops Q rest ((d,undef)::f) w):WL P n ops Q (⟨some d,op,ty,pos,aft,some (j,b)⟩::rest) f w :=
 Cc hj ht hd (λh=>by rw [e] at h;cases b <;> cases h) (λ_=>hn)
theorem B6 {P:Program} {n:Sh} {ops:Array Oper} {Q:Exit->Fr->World->Prop} {f:Fr} {w:World} {rest:List Oper} {d ty:Nat} {pos:String} {aft:Array Edge} {op:Op} {j dj:Nat} {b t:Bool} (e:t=!b) (hn:WL P n ops Q rest ((d,undef)::f) w) (hj:(ops[j]?).bind (·.dst)=some dj:=by rfl) (ht:look f dj=some (.bool t):=by rfl) (hd:Nat.blt d n.n=true:=by rfl):WL P n ops Q (⟨some d,op,ty,pos,aft,some (j,b)⟩::rest) f w:=Jc hj ht hd e hn
theorem WL.V {P:Program} {n:Sh} {f:Fr} {ops:Array Oper} {Q:Exit->Fr->World->Prop} {w:World} {rest:List Oper} {d ty:Nat} {pos:String} {aft:Array Edge} {op:Op} {j dj:Nat} {b t:Bool} (hn:WL P n ops Q rest ((d,undef)::f) w) (hj:(ops[j]?).bind (·.dst)=some dj:=by rfl) (ht:look f dj=some (.bool t):=by rfl) (hd:Nat.blt d n.n=true:=by rfl) (e:t=!b:=by rfl):WL P n ops Q (⟨some d,op,ty,pos,aft,some (j,b)⟩::rest) f w:=Jc hj ht hd e hn
end
theorem LG (l:l8_):(bs l).toList=l:=by simp [bs]
theorem Tr (l:l8_) (a b:Nat):(bs l).extract a b=bs ((l.drop a).take (b-a)):=by
 apply ByteArray.ext
 simp [bs,List.extract_eq_take_drop]
theorem W4 (l m:l8_):(l == m)=decide (l=m):=by rw [B3];simp
theorem Bb {r:Int} (h:-9223372036854775808<=r/\r<=9223372036854775807):IntKind.i64.wrap r=r:=by rw [IntKind.wrap_i64];omega
theorem PO {r:Int} (h:0<=r/\r<=255):IntKind.u8.wrap r=r:=by rw [IntKind.wrap_u8'];omega
theorem A0r {r:Int} (h:0<=r/\r<=4294967295):IntKind.u32.wrap r=r:=by rw [IntKind.wrap_u32'];omega
theorem u8q {a b:Int} (h0:0<=a) (h1:a<=255) (hb:1<=b):IntKind.u8.wrap (a.tdiv b)=a / b:=by
 rw [Int.tdiv_eq_ediv_of_nonneg h0]
 exact PO ⟨Int.ediv_nonneg h0 (by omega:0<=b),by have:=Int.ediv_le_self b h0;omega⟩
section
variable {P:Program} {n:Sh} {f:Fr}
theorem Bz.mv {x:Operand} {v:Value} (hx:CE f x=some v):Bz P (.move x) f v:=λρ hρ d ty pos aft g w=>by
 simp [execOp,hρ _ _ hx]
theorem WL.m {P:Program} {n:Sh} {ops:Array Oper} {Q:Exit->Fr->World->Prop} {f:Fr} {w:World} {rest:List Oper} {d ty:Nat} {pos:String} {aft:Array Edge} {x:Operand} {v:Value} (h:CE f x=some v) (hd:Nat.blt d n.n=true) (k:WL P n ops Q rest ((d,v)::f) w):WL P n ops Q (⟨some d,.move x,ty,pos,aft,none⟩::rest) f w:=WL.p (.mv h) hd k
theorem A3 {P:Program} {n:Sh} {ops:Array Oper} {Q:Exit->Fr->World->Prop} {f:Fr} {w:World} {rest:List Oper} {d ty:Nat} {pos:String} {aft:Array Edge} {x:Operand} {v:Value} (h:CE f x=some v) (k:WL P n ops Q rest ((d,v)::f) w) (hd:Nat.blt d n.n=true:=by rfl):WL P n ops Q (⟨some d,.move x,ty,pos,aft,none⟩::rest) f w:=WL.p (.mv h) hd k
theorem Bz.as {x:Operand} {v:Value} (hx:CE f x=some v):Bz P (.assign x) f v:=λρ hρ d ty pos aft g w=>by
 simp [execOp,hρ _ _ hx]
theorem A4J {P:Program} {n:Sh} {ops:Array Oper} {Q:Exit->Fr->World->Prop} {f:Fr} {w:World} {d ty:Nat} {pos:String} {aft:Array Edge} {x:Operand} {v:Value} (h:CE f x=some v) (hd:Nat.blt d n.n=true) (k:Q .normal ((d,v)::f) w):WL P n ops Q [⟨some d,.assign x,ty,pos,aft,none⟩] f w:=WL.p (.as h) hd (Vg k)
theorem WL.a {P:Program} {n:Sh} {ops:Array Oper} {Q:Exit->Fr->World->Prop} {f:Fr} {w:World} {rest:List Oper} {d ty:Nat} {pos:String} {aft:Array Edge} {x:Operand} {v:Value} (h:CE f x=some v) (hd:Nat.blt d n.n=true) (k:WL P n ops Q rest ((d,v)::f) w):WL P n ops Q (⟨some d,.assign x,ty,pos,aft,none⟩::rest) f w:=WL.p (.as h) hd k
theorem CL {P:Program} {n:Sh} {ops:Array Oper} {Q:Exit->Fr->World->Prop} {f:Fr} {w:World} {rest:List Oper} {d ty:Nat} {pos:String} {aft:Array Edge} {x:Operand} {v:Value} (h:CE f x=some v) (k:WL P n ops Q rest ((d,v)::f) w) (hd:Nat.blt d n.n=true:=by rfl):WL P n ops Q (⟨some d,.assign x,ty,pos,aft,none⟩::rest) f w:=WL.p (.as h) hd k
theorem A8 {P:Program} {n:Sh} {ops:Array Oper} {Q:Exit->Fr->World->Prop} {f:Fr} {w:World} {d ty:Nat} {pos:String} {aft:Array Edge} {x:Operand} {v:Value} (h:CE f x=some v) (k:Q .normal ((d,v)::f) w) (hd:Nat.blt d n.n=true:=by rfl):WL P n ops Q [⟨some d,.assign x,ty,pos,aft,none⟩] f w:=WL.p (.as h) hd (Vg k)
theorem Bz.pick {c x y:Operand} {t:Bool} {v:Value} (hc:CE f c=some (.bool t)) (h1:t=true->CE f x=some v) (h2:t=false->CE f y=some v):Bz P (.pick c x y) f v:=λρ hρ d ty pos aft g w=>by
 cases t
 · simp [execOp,hρ _ _ hc,asBool,hρ _ _ (h2 rfl)]
 · simp [execOp,hρ _ _ hc,asBool,hρ _ _ (h1 rfl)]
theorem Bz.pkT {c x y:Operand} {t:Bool} {v:Value} (hc:CE f c=some (.bool t)) (e:t=true) (h1:CE f x=some v):Bz P (.pick c x y) f v :=
 .pick hc (λ_=>h1) (λh=>by rw [e] at h;cases h)
theorem Bz.pkF {c x y:Operand} {t:Bool} {v:Value} (hc:CE f c=some (.bool t)) (e:t=false) (h1:CE f y=some v):Bz P (.pick c x y) f v :=
 .pick hc (λh=>by rw [e] at h;cases h) (λ_=>h1)
section ints
variable {x y:Operand} {k:IntKind} {a b r:Int} {tx ty:TypeId}
theorem Bz.add (hx:CE f x=some (.int k a)) (hy:CE f y=some (.int k b)) (hr:k.wrap (a+b)=r):Bz P (.binOp .add tx x y ty) f (.int k r):=λρ hρ d ty pos aft g w=>by
 simp [execOp,hρ _ _ hx,hρ _ _ hy,eqGuard,binOp,Op.intArith,hr]
theorem Bz.sub (hx:CE f x=some (.int k a)) (hy:CE f y=some (.int k b)) (hr:k.wrap (a-b)=r):Bz P (.binOp .sub tx x y ty) f (.int k r):=λρ hρ d ty pos aft g w=>by
 simp [execOp,hρ _ _ hx,hρ _ _ hy,eqGuard,binOp,Op.intArith,hr]
theorem Bz.mul (hx:CE f x=some (.int k a)) (hy:CE f y=some (.int k b)) (hr:k.wrap (a * b)=r):Bz P (.binOp .mul tx x y ty) f (.int k r):=λρ hρ d ty pos aft g w=>by
 simp [execOp,hρ _ _ hx,hρ _ _ hy,eqGuard,binOp,Op.intArith,hr]
theorem Bz.quo (hx:CE f x=some (.int k a)) (hy:CE f y=some (.int k b)) (h0:b≠0) (hr:k.wrap (a.tdiv b)=r):Bz P (.binOp .quo tx x y ty) f (.int k r):=λρ hρ d ty pos aft g w=>by
 simp [execOp,hρ _ _ hx,hρ _ _ hy,eqGuard,binOp,Op.intDiv,h0,hr]
theorem Bz.rem (hx:CE f x=some (.int k a)) (hy:CE f y=some (.int k b)) (h0:b≠0) (hr:a.tmod b=r):Bz P (.binOp .rem tx x y ty) f (.int k r):=λρ hρ d ty pos aft g w=>by
 simp [execOp,hρ _ _ hx,hρ _ _ hy,eqGuard,binOp,Op.intDiv,h0,hr]
theorem Bz.lss (hx:CE f x=some (.int k a)) (hy:CE f y=some (.int k b)):Bz P (.binOp .lss tx x y ty) f (.bool (decide (a<b))):=λρ hρ d ty pos aft g w=>by
 simp [execOp,hρ _ _ hx,hρ _ _ hy,eqGuard,binOp,Op.intCmp]
theorem Bz.leq (hx:CE f x=some (.int k a)) (hy:CE f y=some (.int k b)):Bz P (.binOp .leq tx x y ty) f (.bool (decide (a<=b))):=λρ hρ d ty pos aft g w=>by
 simp [execOp,hρ _ _ hx,hρ _ _ hy,eqGuard,binOp,Op.intCmp]
theorem Bz.gtr (hx:CE f x=some (.int k a)) (hy:CE f y=some (.int k b)):Bz P (.binOp .gtr tx x y ty) f (.bool (decide (b<a))):=λρ hρ d ty pos aft g w=>by
 simp [execOp,hρ _ _ hx,hρ _ _ hy,eqGuard,binOp,Op.intCmp]
theorem Bz.geq (hx:CE f x=some (.int k a)) (hy:CE f y=some (.int k b)):Bz P (.binOp .geq tx x y ty) f (.bool (decide (b<=a))):=λρ hρ d ty pos aft g w=>by
 simp [execOp,hρ _ _ hx,hρ _ _ hy,eqGuard,binOp,Op.intCmp]
theorem Bz.eql (hx:CE f x=some (.int k a)) (hy:CE f y=some (.int k b)):Bz P (.binOp .eql tx x y ty) f (.bool (decide (a=b))):=λρ hρ d ty pos aft g w=>by
 simp [execOp,hρ _ _ hx,hρ _ _ hy,eqGuard,binOp,Op.intCmp];rfl
theorem Bz.neq (hx:CE f x=some (.int k a)) (hy:CE f y=some (.int k b)):Bz P (.binOp .neq tx x y ty) f (.bool (!decide (a=b))):=λρ hρ d ty pos aft g w=>by
 simp [execOp,hρ _ _ hx,hρ _ _ hy,eqGuard,binOp,Op.intCmp];rfl
theorem Bz.not {t:Bool} (hx:CE f x=some (.bool t)):Bz P (.unOp .not tx x) f (.bool (!t)):=λρ hρ d ty pos aft g w=>by
 simp [execOp,hρ _ _ hx,Op.unary]
theorem Bz.cvt {k' k0:IntKind} (hs:P.underlying tx=some (.int k0)) (ht:P.underlying ty=some (.int k')) (hx:CE f x=some (.int k a)) (hr:k'.wrap a=r):Bz P (.convert tx ty x) f (.int k' r):=λρ hρ d ty' pos aft g w=>by
 simp [execOp,hρ _ _ hx,convert,Bp hs,Bp ht,Conv.intToInt,hr]
end ints
section strings
variable {x y:Operand} {l m:l8_} {tx ty:TypeId}
theorem Bz.len {at':TypeId} (hu:P.underlying at'=some .string) (hx:CE f x=some (.string (bs l))):Bz P (.call ⟨.builtin .len,#[x],#[at']⟩) f (Ag (l.length:Int)):=λρ hρ d ty pos aft g w=>by
 simp [execOp,resolve,invoke,builtin,Builtin.len_,Bp hu,hρ _ _ hx,goInt,BM]
theorem Bz.ix {i:Int} (hu:P.underlying tx=some .string) (hx:CE f x=some (.string (bs l))) (hi:CE f y=some (Ag i)) (k:Nat) (e:i=k) (hk:k<l.length):Bz P (.index tx x y) f (.int .u8 (l[k].toNat:Int)):=λρ hρ d ty pos aft g w=>by
 subst e
 have h1:(bs l)[k]?=some l[k]:=by
  have:k<(bs l).size:=by rw [BM];exact hk
  rw [getElem?_pos (bs l) k this];rfl
 simp [execOp,Instr.index,hρ _ _ hx,hρ _ _ hi,asIntOf,Bp hu,h1]
theorem Bz.cat (hx:CE f x=some (.string (bs l))) (hy:CE f y=some (.string (bs m))) (hlen:l.length+m.length<=9223372036854775807):Bz P (.binOp .add tx x y ty) f (.string (bs (l++m))):=λρ hρ d ty pos aft g w=>by
 have h:(l.length:Int)+(m.length:Int)<=9223372036854775807:=by omega
 simp [execOp,hρ _ _ hx,hρ _ _ hy,eqGuard,binOp,Op.stringOp,Er,BM,h]
theorem Bz.eqs (hx:CE f x=some (.string (bs l))) (hy:CE f y=some (.string (bs m))):Bz P (.binOp .eql tx x y ty) f (.bool (decide (l=m))):=λρ hρ d ty pos aft g w=>by
 simp [execOp,hρ _ _ hx,hρ _ _ hy,eqGuard,binOp,Op.stringOp,LG,W4]
theorem Bz.nes (hx:CE f x=some (.string (bs l))) (hy:CE f y=some (.string (bs m))):Bz P (.binOp .neq tx x y ty) f (.bool (!decide (l=m))):=λρ hρ d ty pos aft g w=>by
 simp [execOp,hρ _ _ hx,hρ _ _ hy,eqGuard,binOp,Op.stringOp,LG,W4]
theorem Bz.ext {i:Nat} {vs:Array Value} {v:Value} (hx:CE f x=some (.tuple vs)) (hv:vs[i]?=some v):Bz P (.extract x i) f v:=λρ hρ d ty pos aft g w=>by
 simp [execOp,hρ _ _ hx,Instr.extract,hv]
end strings
def Dc (P:Program) (F:FuncId):Prop:=∃ fn,P.funcs[F]?=some fn/\fn.body≠none/\fn.name≠"runtime.NumGoroutine"
theorem F8 {F:FuncId} {fn:Func} (hf:P.funcs[F]?=some fn) (hb:(fn.body.isNone || fn.name == "runtime.NumGoroutine")=false):Dc P F:=by
 simp only [Bool.or_eq_false_iff] at hb
 exact ⟨fn,hf,λh=>by rw [h] at hb;exact Dp hb.1 dD,λh=>by rw [h] at hb;exact Dp hb.2 dD⟩
def Qh (f:Fr):List Operand->Option (List Value)
 | []=>some []
 | x::r=>match CE f x,Qh f r with
  | some v,some vs=>some (v::vs)
  | _,_=>none
theorem Jr {ρ:Operand->Value} (hρ:Agr f ρ):∀ (xs:List Operand) (vs:List Value),Qh f xs=some vs->xs.map ρ=vs
 | [],vs,h=>by simp only [Qh,BK] at h;subst h;rfl
 | x::r,vs,h=>by
  unfold Qh at h
  cases hx:CE f x with
  | none=>rw [hx] at h;cases h
  | some v =>
   cases hr:Qh f r with
   | none=>rw [hx,hr] at h;cases h
   | some us =>
    rw [hx,hr] at h
    simp only [BK] at h
    subst h
    simp [hρ _ _ hx,Jr hρ r us hr]
theorem Lo {F:FuncId} (hb:Dc P F) {ρ:Operand->Value} (hρ:Agr f ρ) {xs:List Operand} {vs:List Value} (hx:Qh f xs=some vs) {ats:Array TypeId} (d:Option Tmp) (ty:TypeId) (pos:String) (aft:Array Edge) (g:Option (Nat × Bool)) (w:World) :
  (execOp ρ ⟨d,.call ⟨.value (.func F),xs.toArray,ats⟩,ty,pos,aft,g⟩).run P w=.ok (.enter F vs.toArray) w:=by
 obtain ⟨fn,c,h,i⟩:=hb
 have e:=Jr hρ _ _ hx
 have b:ρ (.func F)=.func (.func F) #[] #[]:=hρ _ _ rfl
 have a:xs.toArray.map ρ=vs.toArray:=by simp [e]
 unfold execOp
 simp only [resolve,a,b]
 simp [Deferred.ofValue,invoke,callFunc,run_program,c,h,i]
theorem Bf {ops:Array Oper} {Q:Exit->Fr->World->Prop} {w:World} {rest:List Oper} {d ty:Nat} {pos:String} {aft:Array Edge} {F:FuncId} {xs:List Operand} {ats:Array TypeId} {vs:List Value} {α:Sort _}
  {V:α->Value} {S:α->World->Prop} (hb:Dc P F) (hx:Qh f xs=some vs) (hd:Nat.blt d n.n=true)
  (hc:Calls P F vs.toArray w λe w'=>∃ t,e=.returned (V t)/\S t w') (k:∀ t w',S t w'->WL P n ops Q rest ((d,V t)::f) w') :
  WL P n ops Q (⟨some d,.call ⟨.value (.func F),xs.toArray,ats⟩,ty,pos,aft,none⟩::rest) f w:=by
 intro a ha
 refine wpList_plain rfl λK hK=>?_
 unfold Oper.wp
 rw [Lo hb ha.agr hx,Oper.upon_enter]
 refine hc.mono ?_
 rintro e w' ⟨t,rfl,hS⟩
 exact hK _ _ (k t w' hS _ (ha.put hd _))
theorem F5 {ops:Array Oper} {Q:Exit->Fr->World->Prop} {w:World} {rest:List Oper} {d:Option Tmp} {ty:Nat} {pos:String} {aft:Array Edge} {F:FuncId} {xs:List Operand} {ats:Array TypeId} {vs:List Value}
  {ch:List PanicEntry} {S:World->Prop} (hb:Dc P F) (hx:Qh f xs=some vs)
  (hc:Calls P F vs.toArray w λe w'=>e=.panicked ch/\S w') (k:∀ w',S w'->Q (.panic ch) f w') :
  WL P n ops Q (⟨d,.call ⟨.value (.func F),xs.toArray,ats⟩,ty,pos,aft,none⟩::rest) f w:=by
 intro a ha
 refine wpList_plain rfl λK hK=>?_
 unfold Oper.wp
 rw [Lo hb ha.agr hx,Oper.upon_enter]
 refine hc.mono ?_
 rintro e w' ⟨rfl,hS⟩
 exact ⟨f,ha,k w' hS⟩
theorem A3I {ops:Array Oper} {Q:Exit->Fr->World->Prop} {w:World} {rest:List Oper} {d:Option Tmp} {ty:Nat} {pos:String} {aft:Array Edge} {op:Op} {v:Value}
  (h:∀ ρ,Agr f ρ->(execOp ρ ⟨d,op,ty,pos,aft,none⟩).run P w=.halt (.panic v) w) (k:Q (.panic [{ v,recovered:=false }]) f w) :
  WL P n ops Q (⟨d,op,ty,pos,aft,none⟩::rest) f w:=by
 intro a ha
 refine wpList_plain rfl λK hK=>?_
 unfold Oper.wp
 rw [h _ ha.agr,Oper.upon_panic]
 exact ⟨f,ha,k⟩
theorem Cs {ops:Array Oper} {Q:Exit->Fr->World->Prop} {w:World} {rest:List Oper} {d ty:Nat} {pos:String} {aft:Array Edge} {F:FuncId} {xs:List Operand} {ats:Array TypeId} {vs:List Value}
  {V:Value} {S:World->Prop} (hb:Dc P F) (hx:Qh f xs=some vs) (hd:Nat.blt d n.n=true)
  (hc:Calls P F vs.toArray w λe w'=>e=.returned V/\S w') (k:∀ w',S w'->WL P n ops Q rest ((d,V)::f) w') :
  WL P n ops Q (⟨some d,.call ⟨.value (.func F),xs.toArray,ats⟩,ty,pos,aft,none⟩::rest) f w :=
 Bf (α:=Unit) (V:=λ_=>V) (S:=λ_=>S) hb hx hd (hc.mono λ_ _ h=>⟨(),h⟩) (λ_=>k)
def B4 (w:World) (b:Nat) (cs:Array Value) (t:TypeId):Prop:=w.heap[b]?=some (.cells cs t (0,0))
structure CP (b:Nat) (w w1:World):Prop where
 os:w1.os=w.os
 tape:w1.tape=w.tape
 output:w1.output=w.output
 size:w.heap.size<=w1.heap.size
 other:∀ k,k≠b->w1.heap[k]?=w.heap[k]?
theorem B4.lt {w:World} {b:Nat} {cs:Array Value} {t:TypeId} (h:B4 w b cs t):b<w.heap.size:=(B5.1 h).1
theorem CP.below {B b:Nat} {w0 w w1:World} (hb:Below B w0 w) (hB:B<=b) (h:CP b w w1):Below B w0 w1 :=
 ⟨h.os.trans hb.os,h.tape.trans hb.tape,h.output.trans hb.output,CT hb.size h.size,λk hk=>(h.other k oO).trans (hb.block k hk)⟩
theorem uB {b:Nat} {a w w1:World} (h:AL a w) (e:b=w.heap.size) (u:CP b w w1):AL a w1:=CP.below h (e▸h.size) u
abbrev BR:=@CP.below
theorem B4.upd {w w1:World} {b c:Nat} {cs:Array Value} {t:TypeId} (h:B4 w c cs t) (hu:CP b w w1) (hne:c≠b):B4 w1 c cs t:=(hu.other c hne).trans h
theorem B4.up {w w1:World} {b c:Nat} {cs:Array Value} {t:TypeId} (h:B4 w c cs t) (hu:CP b w w1) (hne:c≠b:=by ((try simp only) <;> omega)):B4 w1 c cs t:=h.upd hu hne
theorem CW {a b c:Nat} (e:b=c) (h:a<=c):a<=b:=e▸h
theorem Bt {a b c:Nat} (e:b=c) (h:a<c):a<b:=e▸h
theorem B4.un {w w1:World} {b c:Nat} {cs:Array Value} {t:TypeId} (h:B4 w c cs t) (hu:CP b w w1) (hl:c<b):B4 w1 c cs t:=h.upd hu (Nat.ne_of_lt hl)
theorem bL {a b:Nat} (h:Nat.ble a b=true:=by rfl):a<=b:=Nat.le_of_ble_eq_true h
theorem AF {P:Program} {F:FuncId} {fn:Func} {c:Code} {args:Array Value} {w:World} {R:Ending->World->Prop} (hf:P.funcs[F]?=some fn) (hb:fn.body=some c) {k:Nat} (hn:fn.ntmps=k) (h:W P ⟨k,[]⟩ c (HR P fn R) (K2 0 args.toList) w) (hl:Nat.ble args.size k=true:=by rfl):Calls P F args w R:=Wa hf hb hn (Nat.le_of_ble_eq_true hl) h
theorem B4.below {w w1:World} {B c:Nat} {cs:Array Value} {t:TypeId} (h:B4 w c cs t) (hb:Below B w w1) (hc:c<B):B4 w1 c cs t:=(hb.block c hc).trans h
theorem B4.bl {w w1:World} {c:Nat} {cs:Array Value} {t:TypeId} (h:B4 w c cs t) (hb:AL w w1):B4 w1 c cs t:=h.below hb h.lt
theorem CP.alloc (w:World) (o:Obj):CP w.heap.size w (w.alloc o):=⟨rfl,rfl,rfl,by simp,λk hk=>by
 show (w.heap.push o)[k]?=_
 rw [Array.getElem?_push,A2 hk]⟩
theorem CP.setRow (w:World) (b:Nat) (cs:Array Value):CP b w (w.setRow b cs):=⟨rfl,rfl,rfl,by simp [World.setRow],λk hk=>by
 simp only [World.setRow,Array.getElem?_modify]
 rw [A2 oO]⟩
theorem CP.setCell (w:World) (b o:Nat) (v:Value):CP b w (w.setCell ⟨b,o,none⟩ v):=⟨rfl,rfl,rfl,by simp [World.setCell],λk hk=>by
 simp only [World.setCell,Array.getElem?_modify]
 rw [A2 oO]⟩
theorem B4.alloc (w:World) (cs:Array Value) (t:TypeId):B4 (w.alloc (.cells cs t)) w.heap.size cs t:=by
 show (w.heap.push _)[w.heap.size]?=_
 simp
theorem B4.setCell {w:World} {b:Nat} {cs:Array Value} {t:TypeId} (h:B4 w b cs t) (o:Nat) (v:Value):B4 (w.setCell ⟨b,o,none⟩ v) b (cs.setIfInBounds o v) t:=by
 unfold B4 at *
 simp [World.setCell,Array.getElem?_modify,h]
theorem B4.cell {w:World} {b:Nat} {cs:Array Value} {t:TypeId} (h:B4 w b cs t) (o:Nat):w.cell? ⟨b,o,none⟩=cs[o]?:=cell_of_row w b o cs t (0,0) h
theorem B4.free {w:World} {b:Nat} {cs:Array Value} {t:TypeId} (h:B4 w b cs t) (o:Nat):w.frozen? ⟨b,o,none⟩=false:=by
 unfold B4 at h
 simp [World.frozen?,h]
section mem
variable {ops:Array Oper} {Q:Exit->Fr->World->Prop} {w:World} {rest:List Oper} {d ty:Nat} {pos:String} {aft:Array Edge}
theorem WL.alloc {t:TypeId} {z:Value} (hz:∀ w,(zeroValue t).run P w=.ok z w) (hd:Nat.blt d n.n=true)
  (k:∀ b w1,b=w.heap.size->B4 w1 b z.cells t->CP b w w1->w1.heap.size=b+1->WL P n ops Q rest ((d,ptV b)::f) w1) :
  WL P n ops Q (⟨some d,.alloc t,ty,pos,aft,none⟩::rest) f w :=
 WL.run hd (w':=w.alloc (.cells z.cells t)) (v:=ptV w.heap.size) (λρ hρ=>by
  simp [execOp,Instr.alloc,hz,newVar,newRow]) (k _ _ rfl (B4.alloc _ _ _) (CP.alloc _ _) (by simp))
abbrev Bm:=@WL.alloc
theorem WL.box {t:TypeId} {x:Operand} {v:Value} (hx:CE f x=some v) (hd:Nat.blt d n.n=true)
  (k:∀ b w1,b=w.heap.size->B4 w1 b v.cells t->CP b w w1->w1.heap.size=b+1->WL P n ops Q rest ((d,ptV b)::f) w1) :
  WL P n ops Q (⟨some d,.box t x,ty,pos,aft,none⟩::rest) f w :=
 WL.run hd (w':=w.alloc (.cells v.cells t)) (v:=ptV w.heap.size) (λρ hρ=>by
  simp [execOp,Instr.box,hρ _ _ hx,newVar,newRow]) (k _ _ rfl (B4.alloc _ _ _) (CP.alloc _ _) (by simp))
theorem A2W {t tb:TypeId} {x y:Operand} {b:Nat} {old cs:Array Value} (hx:CE f x=some (ptV b)) (hy:CE f y=some (.agg cs)) (hb:B4 w b old tb)
  (hi:(P.info? t).map (·.size)=some cs.size) (ho:old.size=cs.size) (h1:cs.all (·.oneCell')=true)
  (k:∀ w1,B4 w1 b cs tb->CP b w w1->w1.heap.size=w.heap.size->WL P n ops Q rest f w1) :
  WL P n ops Q (⟨none,.store t x y,ty,pos,aft,none⟩::rest) f w :=
 PF (w':=w.setRow b cs) (λρ hρ=>by
  unfold execOp
  simp only [hρ _ _ hx,hρ _ _ hy,Instr.storeAt,Instr.sureAddr,Cd,D4,BW,run_storeVar_row w b tb t old cs hb hi ho h1])
  (k _ (setRow_heap w b old cs tb (0,0) hb) (CP.setRow _ _ _) (by simp [World.setRow]))
theorem A4o {t tb:TypeId} {x:Operand} {b:Nat} {cs:Array Value} {dd:TypeDesc} (hx:CE f x=some (ptV b)) (hb:B4 w b cs tb)
  (hu:P.underlying t=some dd) (hdd:(match dd with | .struct _ | .array _ _=>true | _=>false)=true) (hi:(P.info? t).map (·.size)=some cs.size) (hd:Nat.blt d n.n=true)
  (k:WL P n ops Q rest ((d,.agg cs)::f) w):WL P n ops Q (⟨some d,.load t x,ty,pos,aft,none⟩::rest) f w :=
 WL.run hd (λρ hρ=>by
  unfold execOp
  simp only [hρ _ _ hx,Instr.loadAt,Instr.sureAddr,Cd,D4,BW,run_loadVar_row w b tb t cs (0,0) dd hb hu hdd hi]) k
theorem Bz.build {t:TypeId} {ps:List (Nat × Operand)} {vs:List Value} {cs:Array Value} (hx:Qh f (ps.map (·.2))=some vs) (hb:P.built t ((ps.map (·.1)).zip vs)=some cs):Bz P (.build t ps.toArray) f (.agg cs):=λρ hρ d ty pos aft g w=>by
 have e:=Jr hρ _ _ hx
 have e2:(ps.toArray.map λ(i,x)=>(i,ρ x)).toList=(ps.map (·.1)).zip vs:=by
  rw [<- e]
  simp only [List.map_map,Array.toList_map]
  clear hx hb e
  induction ps with
  | nil=>rfl
  | cons p r ih=>simpa using ih
 unfold execOp
 simp only [Cd,run_build w t _ cs (by rw [e2];exact hb),BW,D4]
end mem
end
section
variable {P:Program} {n:Sh} {f:Fr}
def Rd (P:Program) (op:Op) (f:Fr) (w:World) (v:Value):Prop:=∀ ρ,Agr f ρ->∀ d ty pos aft g,(execOp ρ ⟨d,op,ty,pos,aft,g⟩).run P w=.ok (.value v) w
theorem Bz.rd {op:Op} {v:Value} {w:World} (h:Bz P op f v):Rd P op f w v:=λρ hρ d ty pos aft g=>h ρ hρ d ty pos aft g w
theorem Ae {t tb:TypeId} {x:Operand} {b o:Nat} {cs:Array Value} {v:Value} {w:World} (ha:(isAgg t).run P w=.ok false w) (hx:CE f x=some (.pointer (some ⟨b,o,none⟩))) (hb:B4 w b cs tb) (hv:cs[o]?=some v) :
  Rd P (.load t x) f w v:=λρ hρ d ty pos aft g=>by
 have hc:=(hb.cell o).trans hv
 simp [execOp,hρ _ _ hx,Instr.loadAt,Instr.sureAddr,loadVar,ha,hc]
theorem BG {t:TypeId} {x:Operand} {p:Addr} {v:Value} {w:World} (ha:(isAgg t).run P w=.ok false w) (hx:CE f x=some (.pointer (some p))) (hv:w.cell? p=some v) :
  Rd P (.load t x) f w v:=λρ hρ d ty pos aft g=>by
 simp [execOp,hρ _ _ hx,Instr.loadAt,Instr.sureAddr,loadVar,ha,hv]
theorem Bd {t tb:TypeId} {x:Operand} {b:Nat} {cs:Array Value} {dd:TypeDesc} {w:World} (hx:CE f x=some (ptV b)) (hb:B4 w b cs tb)
  (hu:P.underlying t=some dd) (hdd:(match dd with | .struct _ | .array _ _=>true | _=>false)=true) (hi:(P.info? t).map (·.size)=some cs.size):Rd P (.load t x) f w (.agg cs):=λρ hρ d ty pos aft g=>by
 unfold execOp
 simp only [hρ _ _ hx,Instr.loadAt,Instr.sureAddr,Cd,D4,BW,run_loadVar_row w b tb t cs (0,0) dd hb hu hdd hi]
theorem Bz.lenS {at' e:TypeId} {x:Operand} {p:Option Addr} {l c:Nat} (hu:P.underlying at'=some (.slice e)) (hx:CE f x=some (.slice p l c)):Bz P (.call ⟨.builtin .len,#[x],#[at']⟩) f (Ag (l:Int)):=λρ hρ d ty pos aft g w=>by
 simp [execOp,resolve,invoke,builtin,Builtin.len_,Bp hu,hρ _ _ hx,goInt]
theorem TK {tx e:TypeId} {x y:Operand} {p:Addr} {l c sz:Nat} {i:Int} {k:IntKind} (hu:P.underlying tx=some (.slice e)) (hs:∀ w,(sizeOf e).run P w=.ok sz w) (hx:CE f x=some (.slice (some p) l c))
  (hi:CE f y=some (.int k i)) (j:Nat) (e':i=j) (hj:j<l):Bz P (.indexAddr tx x y) f (.pointer (some (p.add (j * sz)))):=λρ hρ d ty pos aft g w=>by
 subst e'
 simp [execOp,Instr.indexAt,hρ _ _ hx,hρ _ _ hi,asIntOf,Bp hu,hs,hj]
theorem Bz.fa {s:TypeId} {x:Operand} {p:Addr} {i:Nat} {fs:Array Field} {fd:Field} {sz:Nat} (hu:P.underlying s=some (.struct fs)) (hf:fs[i]?=some fd) (hs:∀ w,(sizeOf fd.type).run P w=.ok sz w) (h0:sz≠0)
  (hx:CE f x=some (.pointer (some p))):Bz P (.fieldAddr s x i) f (.pointer (some (p.add fd.offset))):=λρ hρ d ty pos aft g w=>by
 simp [execOp,Instr.fieldAt,hρ _ _ hx,Bp hu,hf,Instr.sureAddr,fieldPlace,hs,h0]
theorem Bz.nck {x:Operand} {p:Addr} (hx:CE f x=some (.pointer (some p))):Bz P (.nilCheck x) f (.pointer (some p)):=λρ hρ d ty pos aft g w=>by
 simp [execOp,hρ _ _ hx]
theorem Bz.fld {s:TypeId} {x:Operand} {i:Nat} {fs:Array Field} {fd:Field} {cs:Array Value} {v:Value} (hu:P.underlying s=some (.struct fs)) (hf:fs[i]?=some fd) (ha:∀ w,(isAgg fd.type).run P w=.ok false w)
  (hx:CE f x=some (.agg cs)) (hv:cs[fd.offset]?=some v):Bz P (.field s x i) f v:=λρ hρ d ty pos aft g w=>by
 simp [execOp,Instr.field,hρ _ _ hx,Bp hu,hf,asAgg,part,ha,hv]
theorem A4n {ops:Array Oper} {Q:Exit->Fr->World->Prop} {w:World} {rest:List Oper} {d ty:Nat} {pos:String} {aft:Array Edge} {op:Op} {v:Value}
  (h:Rd P op f w v) (hd:Nat.blt d n.n=true) (k:WL P n ops Q rest ((d,v)::f) w):WL P n ops Q (⟨some d,op,ty,pos,aft,none⟩::rest) f w :=
 WL.run hd (λρ hρ=>h ρ hρ _ _ _ _ _) k
theorem Aj {P:Program} {n:Sh} {ops:Array Oper} {Q:Exit->Fr->World->Prop} {f:Fr} {w:World} {rest:List Oper} {d ty:Nat} {pos:String} {aft:Array Edge} {op:Op} {v:Value} (h:Rd P op f w v) (k:WL P n ops Q rest ((d,v)::f) w) (hd:Nat.blt d n.n=true:=by rfl):WL P n ops Q (⟨some d,op,ty,pos,aft,none⟩::rest) f w:=A4n h hd k
theorem BA {ops:Array Oper} {Q:Exit->Fr->World->Prop} {w:World} {rest:List Oper} {ty:Nat} {pos:String} {aft:Array Edge} {t tb:TypeId} {x y:Operand} {b o:Nat} {cs:Array Value} {v:Value}
  (hs:∀ w,(sizeOf t).run P w=.ok 1 w) (hx:CE f x=some (.pointer (some ⟨b,o,none⟩))) (hy:CE f y=some v) (h1:v.oneCell'=true) (hb:B4 w b cs tb) (ho:o<cs.size)
  (k:∀ w1,B4 w1 b (cs.setIfInBounds o v) tb->CP b w w1->w1.heap.size=w.heap.size->WL P n ops Q rest f w1):WL P n ops Q (⟨none,.store t x y,ty,pos,aft,none⟩::rest) f w :=
 PF (w':=w.setCell ⟨b,o,none⟩ v) (λρ hρ=>by
  have hc:w.cell? ⟨b,o,none⟩=some cs[o]:=by rw [hb.cell o];simp [ho]
  have hf:=hb.free o
  have a:=run_store P w ⟨b,o,none⟩ v .plain h1
  have c:v.cells=#[v]:=by cases v <;> first | rfl | cases h1
  have d:(⟨b,o,none⟩:Addr).add 0=⟨b,o,none⟩:=by simp [Addr.add]
  simp [execOp,hρ _ _ hx,hρ _ _ hy,Instr.storeAt,Instr.sureAddr,storeVar,c,hs,storeCells,d,a,hc,hf])
  (k _ (hb.setCell o v) (CP.setCell w b o v) (by simp [World.setCell]))
theorem C2 {P:Program} {n:Sh} {f:Fr} {ops:Array Oper} {Q:Exit->Fr->World->Prop} {w:World} {rest:List Oper} {ty:Nat} {pos:String} {aft:Array Edge} {t tb:TypeId} {x y:Operand} {b o:Nat} {cs:Array Value} {v:Value} (hb:B4 w b cs tb) (hs:∀ w,(sizeOf t).run P w=.ok 1 w) (k:∀ w1,B4 w1 b (cs.setIfInBounds o v) tb->CP b w w1->w1.heap.size=w.heap.size->WL P n ops Q rest f w1) (hx:CE f x=some (.pointer (some ⟨b,o,none⟩)):=by rfl) (hy:CE f y=some v:=by rfl) (h1:v.oneCell'=true:=by rfl) (ho:o<cs.size:=by first | decide | exact Nat.le_of_ble_eq_true rfl):WL P n ops Q (⟨none,.store t x y,ty,pos,aft,none⟩::rest) f w:=BA hs hx hy h1 hb ho k
theorem PN {a:Act} {ops:Array Oper} {j dj:Nat} (ha:NO n f a) (hj:(ops[j]?).bind (·.dst)=some dj) (ht:look f dj=some undef):yielded ops a.tmps j=none:=by
 have b:=ha.2.2 _ _ ht
 unfold yielded
 cases ho:ops[j]? with
 | none=>rw [ho] at hj;cases hj
 | some o =>
  rw [ho] at hj
  simp only [Option.bind_some] at hj
  cases h:a.tmps[dj]? with
  | none=>simp [hj,h]
  | some v =>
   rw [AD,h] at b
   simp only [Option.getD_some] at b
   subst b
   simp [hj,h,undef]
theorem A3J {ops:Array Oper} {Q:Exit->Fr->World->Prop} {w:World} {rest:List Oper} {d ty:Nat} {pos:String} {aft:Array Edge} {op:Op} {j dj:Nat} {b:Bool}
  (hj:(ops[j]?).bind (·.dst)=some dj) (ht:look f dj=some undef) (hd:Nat.blt d n.n=true)
  (hn:WL P n ops Q rest ((d,undef)::f) w):WL P n ops Q (⟨some d,op,ty,pos,aft,some (j,b)⟩::rest) f w:=by
 intro a ha
 have c:=PN ha hj ht
 have:=hn _ (ha.put hd undef)
 unfold wpList
 simp only [Region.wanted,c]
 exact this
theorem KR {P:Program} {n:Sh} {ops:Array Oper} {Q:Exit->Fr->World->Prop} {f:Fr} {w:World} {rest:List Oper} {d ty:Nat} {pos:String} {aft:Array Edge} {op:Op} {j dj:Nat} {b:Bool} (hn:WL P n ops Q rest ((d,undef)::f) w) (hj:(ops[j]?).bind (·.dst)=some dj:=by rfl) (ht:look f dj=some undef:=by rfl) (hd:Nat.blt d n.n=true:=by rfl):WL P n ops Q (⟨some d,op,ty,pos,aft,some (j,b)⟩::rest) f w:=A3J hj ht hd hn
def Le (g f:Fr):Prop:=∀ i v,look g i=some v->look f i=some v
theorem Le.refl (f:Fr):Le f f:=λ_ _ h=>h
theorem Le.cons {g f:Fr} {d:Nat} {v:Value} (hd:look g d=none) (h:Le g f):Le g ((d,v)::f):=by
 intro i u hu
 unfold look
 cases hb:Nat.beq d i with
 | true =>
  obtain rfl:d=i:=Bu hb
  rw [hd] at hu;cases hu
 | false=>exact h i u hu
theorem Le.put {g f:Fr} (h:Le g f) {d:Nat} {v:Value} (hd:look f d=some v):Le ((d,v)::g) f:=by
 intro i u hu
 unfold look at hu
 cases hb:Nat.beq d i with
 | true =>
  rw [hb] at hu
  obtain rfl:d=i:=Bu hb
  rw [hd];exact hu
 | false=>rw [hb] at hu;exact h i u hu
theorem FG {x y:Code} {Q:Exit->Fr->World->Prop} {w:World} (c:Nat) (T:Bool)
  (h1:W P n x (nx (λf' w'=>(look f' c=some (.bool T)/\Le f f')/\w'=w) Q) f w) (h2:W P n y Q ((c,.bool T)::f) w):W P n (.seq x y) Q f w:=by
 refine Ad (h1.mono ?_)
 intro e f' w' h
 cases e with
 | normal =>
  obtain ⟨⟨hc,b⟩,rfl⟩:=h;exact λa ha=>h2 a ⟨ha.1,ha.2.1,λi v hv=>ha.2.2 i v (b.put hc i v hv)⟩
 | _=>exact h
theorem ndT {p:Prop} [Decidable p] (h:(!decide p)=true):¬ p:=by simpa using h
theorem ndF {p:Prop} [Decidable p] (h:(!decide p)=false):p:=by simpa using h
theorem nT {t:Bool} (h:(!t)=true):t=false:=by simpa using h
theorem nF {t:Bool} (h:(!t)=false):t=true:=by simpa using h
theorem DI {f:Fr} {i:Nat} {s t:Bool} (h:look f i=some (.bool s)) (e:s=t):look f i=some (.bool t):=by rw [h,e]
theorem leF {f g:Fr} {c:Nat} {s t:Bool} (h:look g c=some (.bool s)) (e:s=t:=by first | (simp;omega) | (exfalso;simp_all;omega) | (exfalso;omega)) (k:Le f g:=by repeat (first | exact Le.refl _ | refine Le.cons rfl ?_)):look g c=some (.bool t)/\Le f g:=⟨DI h e,k⟩
theorem GC {f g:Fr} {c:Nat} {t:Bool} (h:look g c=some (.bool t)) (k:Le f g:=by repeat (first | exact Le.refl _ | refine Le.cons rfl ?_)):look g c=some (.bool t)/\Le f g:=⟨h,k⟩
theorem N8 {f:Fr} {i:Nat} {k:IntKind} {s t:Int} (h:look f i=some (.int k s)) (e:s=t):look f i=some (.int k t):=by rw [h,e]
theorem JN {f:Fr} {i:Nat} {s t:l8_} (h:look f i=some (.string (bs s))) (e:s=t):look f i=some (.string (bs t)):=by rw [h,e]
def Cn (w w1:World):Prop:=∃ m,w1=w.drewN m
theorem Cn.refl (w:World):Cn w w:=⟨0,rfl⟩
theorem Cn.trans {a b c:World} (h:Cn a b) (k:Cn b c):Cn a c:=by
 obtain ⟨m,rfl⟩:=h;obtain ⟨j,rfl⟩:=k;exact ⟨m+j,by rw [World.drewN_drewN]⟩
theorem Cn.below {B:Nat} {w0 w w1:World} (h:Below B w0 w) (d:Cn w w1):Below B w0 w1:=by
 obtain ⟨m,rfl⟩:=d;exact ⟨h.os,h.tape,h.output,h.size,h.block⟩
theorem Cn.size {w w1:World} (d:Cn w w1):w1.heap.size=w.heap.size:=by obtain ⟨m,rfl⟩:=d;rfl
theorem B4.drew {w w1:World} {b:Nat} {cs:Array Value} {t:TypeId} (h:B4 w b cs t) (d:Cn w w1):B4 w1 b cs t:=by obtain ⟨m,rfl⟩:=d;exact h
def WS (P:Program) (n:Sh) (ops:Array Oper) (Q:Exit->Fr->World->Prop) (tail:List Oper) (w:World) (l:List Oper) (f:Fr):Prop :=
 ∀ a,NO n f a->wpStill P ops w (λa'=>wpList P ops (Io n Q) tail a' w) l a
theorem IE {x y:Code} {Q:Exit->Fr->World->Prop} {w:World} (c:Nat) (T:Bool)
  (h1:W P n x (nx (λf' w'=>(look f' c=some (.bool T)/\Le f f')/\Cn w w') Q) f w) (h2:∀ w1,Cn w w1->W P n y Q ((c,.bool T)::f) w1):W P n (.seq x y) Q f w:=by
 refine Ad (h1.mono ?_)
 intro e f' w' h
 cases e with
 | normal =>
  obtain ⟨⟨hc,b⟩,d⟩:=h;exact λa ha=>h2 _ d a ⟨ha.1,ha.2.1,λi v hv=>ha.2.2 i v (b.put hc i v hv)⟩
 | _=>exact h
def WQ (P:Program) (n:Sh) (ops:Array Oper) (Q:Exit->Fr->World->Prop) (w:World) (l:List Oper) (f:Fr):Prop :=
 ∀ a,NO n f a->wpQuiet P ops (λw'=>∃ m,w'=w.drewN m) (λa'=>∀ w',(∃ m,w'=w.drewN m)->Io n Q .normal a' w') l a
theorem DE {Q:Exit->Fr->World->Prop} {w:World} {id:Nat} {l:List Oper} (hm:P.follows .mixedOrders=true) (hB:Region.lexB .any l.toArray=true) (h:WQ P n l.toArray Q w l f):W P n (.region id l.toArray true) Q f w :=
 λa ha=>wp_region_quiet_lit hm hB (h a ha)
section
variable {ops:Array Oper} {Q:Exit->Fr->World->Prop} {w:World} {rest:List Oper} {d ty:Nat} {pos:String} {aft:Array Edge} {op:Op} {v:Value}
theorem CO (h:∀ w1,Cn w w1->Q .normal f w1):WQ P n ops Q w [] f:=λ_ ha=>wpQuiet_nil λw' e=>⟨f,ha,h w' e⟩
theorem D2 (h:∀ m,Rd P op f (w.drewN m) v) (hd:Nat.blt d n.n=true) (k:WQ P n ops Q w rest ((d,v)::f)):WQ P n ops Q w (⟨some d,op,ty,pos,aft,none⟩::rest) f:=by
 intro a ha
 unfold wpQuiet
 rw [A5 (by simp [Region.wanted])]
 refine ⟨v,?_,k _ (ha.put hd v)⟩
 rintro w' ⟨m,rfl⟩
 unfold Oper.quietAt
 rw [h m _ ha.agr]
 exact ⟨rfl,rfl⟩
theorem WQ.p (h:Bz P op f v) (hd:Nat.blt d n.n=true) (k:WQ P n ops Q w rest ((d,v)::f)):WQ P n ops Q w (⟨some d,op,ty,pos,aft,none⟩::rest) f:=D2 (λ_=>h.rd) hd k
theorem JJ {j dj:Nat} {b t:Bool} (hj:(ops[j]?).bind (·.dst)=some dj) (ht:look f dj=some (.bool t)) (hd:Nat.blt d n.n=true)
    (hy:t=b->WQ P n ops Q w (⟨some d,op,ty,pos,aft,none⟩::rest) f) (hn:t=!b->WQ P n ops Q w rest ((d,undef)::f)) :
    WQ P n ops Q w (⟨some d,op,ty,pos,aft,some (j,b)⟩::rest) f:=by
  intro a ha
  have c:=ha.2.2 _ _ ht
  have e:yielded ops a.tmps j=some t:=by
    unfold yielded
    cases ho:ops[j]? with
    | none=>rw [ho] at hj;cases hj
    | some o =>
      rw [ho] at hj
      simp only [Option.bind_some] at hj
      have g:a.tmps[dj]?=some (.bool t):=by
        cases h:a.tmps[dj]? with
        | none=>rw [AD,h] at c;cases c
        | some v=>rw [AD,h] at c;exact BH some c
      simp [hj,g]
  by_cases hb:t=b
  · have := hy hb a ha
    unfold wpQuiet at this ⊢
    simp only [Region.wanted,e,hb,beq_self_eq_true,if_true] at this ⊢
    exact this
  · have hb' : t = !b := by revert hb; cases t <;> cases b <;> decide
    have:=hn hb' _ (ha.put hd undef)
    unfold wpQuiet
    have hw:(some t == some b)=false:=by revert hb;cases t <;> cases b <;> decide
    simp only [Region.wanted,e,hw]
    exact this
theorem BP {j dj:Nat} {b t:Bool} (hj:(ops[j]?).bind (·.dst)=some dj) (ht:look f dj=some (.bool t)) (hd:Nat.blt d n.n=true) (e:t=b)
  (hy:WQ P n ops Q w (⟨some d,op,ty,pos,aft,none⟩::rest) f):WQ P n ops Q w (⟨some d,op,ty,pos,aft,some (j,b)⟩::rest) f :=
 JJ hj ht hd (λ_=>hy) (λh=>by rw [e] at h;cases b <;> cases h)
theorem Bc {j dj:Nat} {b t:Bool} (hj:(ops[j]?).bind (·.dst)=some dj) (ht:look f dj=some (.bool t)) (hd:Nat.blt d n.n=true) (e:t=!b)
  (hn:WQ P n ops Q w rest ((d,undef)::f)):WQ P n ops Q w (⟨some d,op,ty,pos,aft,some (j,b)⟩::rest) f :=
 JJ hj ht hd (λh=>by rw [e] at h;cases b <;> cases h) (λ_=>hn)
theorem IC {F:FuncId} {xs:List Operand} {ats:Array TypeId} {vs:List Value} (hb:Dc P F) (hx:Qh f xs=some vs) (hd:Nat.blt d n.n=true)
  (hc:∀ m,Calls P F vs.toArray (w.drewN m) λe w'=>e=.returned v/\∃ k,w'=w.drewN k) (k:WQ P n ops Q w rest ((d,v)::f)) :
  WQ P n ops Q w (⟨some d,.call ⟨.value (.func F),xs.toArray,ats⟩,ty,pos,aft,none⟩::rest) f:=by
 intro a ha
 unfold wpQuiet
 rw [A5 (by simp [Region.wanted])]
 refine ⟨v,?_,k _ (ha.put hd v)⟩
 rintro w' ⟨m,rfl⟩
 unfold Oper.quietAt
 rw [Lo hb ha.agr hx]
 exact ⟨rfl,hc m⟩
end
end
theorem Bz.bis {P:Program} {op:Op} {f:Fr} {s:Bool} (t:Bool) (h:Bz P op f (.bool s)) (e:s=t):Bz P op f (.bool t):=e▸h
theorem Bz.iis {P:Program} {op:Op} {f:Fr} {k:IntKind} {s:Int} (t:Int) (h:Bz P op f (.int k s)) (e:s=t):Bz P op f (.int k t):=e▸h
theorem Bz.sis {P:Program} {op:Op} {f:Fr} {s:l8_} (t:l8_) (h:Bz P op f (.string (bs s))) (e:s=t):Bz P op f (.string (bs t)):=e▸h
def X0:List Value->Bool
 | []=>true
 | v::r=>v.oneCell' && X0 r
theorem P5:∀ {l:List Value},X0 l=true->∀ v∈l,v.oneCell'=true
 | [],_,v,hv=>by cases hv
 | u::r,h,v,hv=>by
  simp only [X0,AG] at h
  rcases A7.1 hv with rfl | hv
  · exact h.1
  · exact P5 h.2 v hv
def SJ:List Value->List (Nat × Value)->List Value
 | z,[]=>z
 | z,(i,v)::r=>SJ (z.set i v) r
theorem pR {p:Prop} (h:p:=by simp only [SJ,List.map,List.zip,List.zipWith,List.set,List.replicate] <;> rfl):p:=h
theorem pS {p:Prop} (h:p:=by simp only [SJ,List.map,List.zip,List.zipWith,List.set] <;> rfl):p:=h
theorem pZ {p:Prop} (h:p:=by simp only [SJ,List.map,List.zip,List.zipWith] <;> rfl):p:=h
def K9:Nat->Nat->List (Nat × Nat)->Bool
 | _,0,l=>l.isEmpty
 | k,n+1,p::l=>Nat.beq p.1 k && Nat.beq p.2 1 && K9 (k+1) n l
 | _,_+1,[]=>false
theorem NJ:∀ (n k:Nat) (l:List (Nat × Nat)),K9 k n l=true->∀ i,i<n->l[i]?=some (k+i,1)
 | 0,_,_,_,_,hi=>by omega
 | n+1,k,[],h,_,_=>by cases h
 | n+1,k,p::l,h,i,hi=>by
  simp only [K9,AG] at h
  obtain ⟨⟨h1,h2⟩,h3⟩:=h
  cases i with
  | zero =>
   have e1:=Bu h1
   have e2:=Bu h2
   simp;exact Prod.ext e1 e2
  | succ i =>
   have:=NJ n (k+1) l h3 i oO
   rw [List.getElem?_cons_succ,this]
   congr 2;omega
theorem P6 {v:Value} (h:v.oneCell'=true):v.cells=#[v]:=by cases v <;> first | rfl | cases h
def Pm (n:Nat):List (Nat × Value)->Bool
 | []=>true
 | (i,v)::r=>Nat.blt i n && v.oneCell' && Pm n r
theorem R7 {pl:List (Nat × Nat)} {n:Nat} (hp:K9 0 n pl=true):∀ (parts:List (Nat × Value)) (z:List Value),z.length=n->Pm n parts=true->Instr.fill (pl.toArray[·]?) z.toArray parts=some (SJ z parts).toArray
 | [],z,_,_=>rfl
 | (i,v)::r,z,hz,ho=>by
  simp only [Pm,AG] at ho
  obtain ⟨⟨h1,h2⟩,h3⟩:=ho
  have hi:i<n:=by simpa [Nat.blt_eq] using h1
  have a:=NJ n 0 pl hp i hi
  have hc:=P6 h2
  have ih:=R7 hp r (z.set i v) (by simpa using hz) h3
  simp only [D5] at a
  have b:pl.toArray[i]?=some (i,1):=by simpa using a
  have hf:(#[v].zipIdx.foldl (λcs (x:Value × Nat)=>cs.setIfInBounds (i+x.2) x.1) z.toArray)=(z.set i v).toArray:=by simp [Array.zipIdx]
  refine Eq.trans ?_ ih
  conv=>lhs;unfold Instr.fill
  simp only [b,hc]
  rw [A2 (by simp;omega)]
  exact BH (λc=>Instr.fill (pl.toArray[·]?) c r) hf
theorem Bz.buildL {P:Program} {f:Fr} {t:TypeId} {ps:List (Nat × Operand)} {vs zl l:List Value} {pl:List (Nat × Nat)} (hb:P.built t=λparts=>Instr.fill (pl.toArray[·]?) zl.toArray parts) (hp:K9 0 zl.length pl=true)
  (hx:Qh f (ps.map (·.2))=some vs) (ho:Pm zl.length ((ps.map (·.1)).zip vs)=true) (hl:SJ zl ((ps.map (·.1)).zip vs)=l):Bz P (.build t ps.toArray) f (.agg l.toArray) :=
 Bz.build hx (by rw [hb,<- hl];exact R7 hp _ _ rfl ho)
theorem Az {P:Program} {n:Sh} {f:Fr} {ops:Array Oper} {Q:Exit->Fr->World->Prop} {w:World} {rest:List Oper} {ty:Nat} {pos:String} {aft:Array Edge} {t tb:TypeId} {x y:Operand} {b:Nat} {old l:List Value} (hx:CE f x=some (ptV b)) (hy:CE f y=some (.agg l.toArray)) (hb:B4 w b old.toArray tb)
  (hi:(P.info? t).map (·.size)=some l.length) (ho:old.length=l.length) (h1:X0 l=true)
  (k:∀ w1,B4 w1 b l.toArray tb->CP b w w1->w1.heap.size=w.heap.size->WL P n ops Q rest f w1) :
  WL P n ops Q (⟨none,.store t x y,ty,pos,aft,none⟩::rest) f w :=
 A2W hx hy hb (by simpa using hi) (by simpa using ho) (by simpa using P5 h1) k
theorem Ba {P:Program} {w:World} {b:Nat} {cs:Array Value} {t tb:TypeId} {dd:TypeDesc} (hb:B4 w b cs tb) (hu:P.underlying t=some dd)
  (hd:(match dd with | .struct _ | .array _ _=>true | _=>false)=true) (hi:(P.info? t).map (·.size)=some cs.size):(loadVar t ⟨b,0,none⟩).run P w=.ok (.agg cs) w:=run_loadVar_row w b tb t cs (0,0) dd hb hu hd hi
theorem Bx {P:Program} {fn:Func} {R:Ending->World->Prop} {c:List PanicEntry} {f:Fr} {w:World} (h:R (.panicked c) w):HR P fn R (.panic c) f w:=h
theorem Kv {P:Program} {fn:Func} {R:Ending->World->Prop} {c:List PanicEntry} {f g:Fr} {w:World} (h:HR P fn R (.panic c) f w):HR P fn R (.panic c) g w:=h
theorem MK {P:Program} {o:Oper} {a:Act} {w:World} {K:Act->World->Prop} {Q Q':Exit->Act->World->Prop} (h:o.wp P a w K Q) (hq:∀ e a w,e≠.normal->Q e a w->Q' e a w):o.wp P a w K Q':=by
 unfold Oper.wp at *
 generalize (execOp a.eval o).run P w=r at *
 cases r with
 | ok m w' =>
  cases m <;> simp only [Oper.upon] at h ⊢ <;>
   first
    | exact h
    | exact Calls.mono h (λe w'' he=>by
      cases e with
      | returned v=>exact he
      | panicked c=>exact hq _ _ _ (by simp) he
      | outgrown=>obtain ⟨a',b,d⟩:=he;exact ⟨a',b,hq _ _ _ (by simp) d⟩)
 | halt x w'=>cases x <;> simp only [Oper.upon] at h ⊢ <;> first | exact h | exact hq _ _ _ (by simp) h
def WY (P:Program) (n:Sh) (ops:Array Oper) (Q:Exit->Fr->World->Prop) (fuel:Nat) (listed:Array Bool) (f:Fr) (w:World):Prop:=∀ a,NO n f a->wpAny P .any ops (Io n Q) fuel listed a w
section
variable {P:Program} {n:Sh} {f:Fr} {ops:Array Oper} {Q:Exit->Fr->World->Prop} {w:World} {fuel:Nat} {listed:Array Bool}
theorem F2 {id:Nat} {l:List Oper} (N:Nat) (hN:l.length=N) (hm:P.follows .mixedOrders=true) (h:∀ w1,Cn w w1->WY P n l.toArray Q N (Array.replicate N false) f w1):W P n (.region id l.toArray true) Q f w :=
 λa ha=>wp_region_any hm (by
  subst hN
  have:=h (w.drewN 1) ⟨1,rfl⟩ a ha
  rw [show l.toArray.size=l.length by simp]
  exact this)
theorem WY.take (i:Nat) {d ty:Nat} {pos:String} {aft:Array Edge} {op:Op} {v:Value} (hi:ops[i]?=some ⟨some d,op,ty,pos,aft,none⟩) (hs:Region.noSelect ops=true) (hf:Region.free .any ops listed i=true)
  (hr:(Region.ready .any ops listed).contains i=true) (hQ:∀ c f w,Q (.panic c) f w->Q (.panic c) [] w) (hp:Bz P op f v) (hd:Nat.blt d n.n=true)
  (k:WY P n ops Q fuel (listed.setIfInBounds i true) ((d,v)::f) w):WY P n ops Q (fuel+1) listed f w:=by
 intro a ha
 refine wpAny_take hi hs hf hr ?_ (.inl ⟨by simp [Region.wanted],λw=>hp _ ha.agr _ _ _ _ _ w⟩) (k _ (ha.put hd v))
 rintro c b w' ⟨g,hg,hq⟩
 have e:=hg.1
 have h:=hg.2.1
 refine ⟨[],⟨?_,?_,λi u hu=>by cases hu⟩,hQ c g w' hq⟩
 · exact e
 · simpa [Act.put] using h
def ME (P:Program) (n:Sh) (ops:Array Oper) (Q:Exit->Fr->World->Prop) (fuel:Nat) (listed:Array Bool) (f:Fr) (w:World):List Nat->Prop
 | []=>True
 | i::r=>(∃ o,ops[i]?=some o/\WL P n ops (nx (λf' w'=>WY P n ops Q fuel (listed.setIfInBounds i true) f' w') Q) [o] f w)/\ME P n ops Q fuel listed f w r
theorem ME.mem:∀ {rs:List Nat},ME P n ops Q fuel listed f w rs->∀ i∈rs,∃ o,ops[i]?=some o/\WL P n ops (nx (λf' w'=>WY P n ops Q fuel (listed.setIfInBounds i true) f' w') Q) [o] f w
 | [],_,_,h=>by cases h
 | j::r,h,i,hi=>by
  rcases A7.1 hi with rfl | hi
  · exact h.1
  · exact ME.mem h.2 i hi
theorem Ri (rs:List Nat) (hr:Region.ready .any ops listed=rs) (hne:rs.isEmpty=false) (h:ME P n ops Q fuel listed f w rs):WY P n ops Q (fuel+1) listed f w:=by
 intro a ha
 refine wpAny_all hr (by cases rs with | nil=>cases hne | cons _ _=>simp) λi hi=>?_
 obtain ⟨o,ho,hw⟩:=h.mem i hi
 have:=hw a ha
 unfold wpOp
 simp only [ho]
 have conv:∀ (e:Exit) (a:Act) (w:World),Io n (nx (λf' w'=>WY P n ops Q fuel (listed.setIfInBounds i true) f' w') Q) e a w->Exit.then (wpAny P .any ops (Io n Q) fuel (listed.setIfInBounds i true)) (Io n Q) e a w:=by
  rintro e a w ⟨g,hg,hq⟩
  cases e with
  | normal=>exact hq a hg
  | _=>exact ⟨g,hg,hq⟩
 unfold wpList at this
 split
 ·
  next hwt =>
  rw [A5 hwt] at this
  refine this.imp (λh=>?_) λ⟨b,a',w',c⟩=>⟨b,a',w',conv _ _ _ c⟩
  have h':o.wp P a w (wpAny P .any ops (Io n Q) fuel (listed.setIfInBounds i true)) (Io n (nx (λf' w'=>WY P n ops Q fuel (listed.setIfInBounds i true) f' w') Q)) :=
   Oper.wp_mono (λa w h=>conv .normal a w h) h
  exact MK h' λe a w he h=>by
   cases e with
   | normal=>exact Dp rfl he
   | _=>exact conv _ a w h
 ·
  next hwt =>
  rw [A2 hwt] at this
  exact conv .normal _ _ this
theorem AB (i:Nat) {d ty:Nat} {pos:String} {aft:Array Edge} {op:Op} {v:Value} (hi:ops[i]?=some ⟨some d,op,ty,pos,aft,none⟩) (hp:Bz P op f v) (hd:Nat.blt d n.n=true)
  (k:WY P n ops Q fuel (listed.setIfInBounds i true) ((d,v)::f) w) (hs:Region.noSelect ops=true:=by kernel_rfl) (hf:Region.free .any ops listed i=true:=by kernel_rfl)
  (hr:(Region.ready .any ops listed).contains i=true:=by kernel_rfl) (hQ:∀ c f w,Q (.panic c) f w->Q (.panic c) [] w:=by first | exact λc f w h=>Kv h | exact λc f w h=>h):WY P n ops Q (fuel+1) listed f w :=
 WY.take i hi hs hf hr hQ hp hd k
theorem Ao (i:Nat) {o:Oper} (hi:ops[i]?=some o) (h:WL P n ops (nx (λf' w'=>WY P n ops Q fuel (listed.setIfInBounds i true) f' w') Q) [o] f w) (hr:Region.ready .any ops listed=[i]:=by kernel_rfl):WY P n ops Q (fuel+1) listed f w :=
 Ri [i] hr rfl ⟨⟨_,hi,h⟩,tT⟩
theorem Ct (i:Nat) {o:Oper} (hi:ops[i]?=some o) (j:Nat) {o2:Oper} (hj:ops[j]?=some o2) (h:WL P n ops (nx (λf' w'=>WY P n ops Q fuel (listed.setIfInBounds i true) f' w') Q) [o] f w)
  (h2:WL P n ops (nx (λf' w'=>WY P n ops Q fuel (listed.setIfInBounds j true) f' w') Q) [o2] f w) (hr:Region.ready .any ops listed=[i,j]:=by kernel_rfl):WY P n ops Q (fuel+1) listed f w :=
 Ri [i,j] hr rfl ⟨⟨_,hi,h⟩,⟨_,hj,h2⟩,tT⟩
theorem Be (hr:Region.ready .any ops listed=[]) (h:Q .normal f w):WY P n ops Q fuel listed f w:=λ_ ha=>wpAny_done hr ⟨f,ha,h⟩ fuel
end
attribute [irreducible] HR W WL WQ WS WY
end
section
section
variable {P:Program} {n:Sh} {f:Fr}
def pA (p:Option Addr):Addr:=p.getD ⟨0,0,none⟩
structure Af (w:World) (p:Option Addr) (l:l8_):Prop where
 isp:0<l.length->p=some (pA p)
 cells:∀ j (h:j<l.length),w.cell? ((pA p).add j)=some (.int .u8 (l[j].toNat:Int))
theorem Af.nil (w:World):Af w none []:=⟨λh=>by simp at h,λj h=>by simp at h⟩
theorem EM (a:Addr):a.add 0=a:=by unfold Addr.add;split <;> simp_all
theorem E4 (a:Addr) (k:Nat):(a.add k).block=a.block:=by unfold Addr.add;split <;> simp_all
theorem Jz (a:Addr) (j k:Nat):(a.add j).add k=a.add (j+k):=by
 unfold Addr.add
 split <;> simp_all <;> (try split) <;> simp_all <;> omega
theorem Af.below {w w1:World} {B:Nat} {p:Option Addr} {l:l8_} (h:Af w p l) (hb:Below B w w1) (hp:0<l.length->(pA p).block<B):Af w1 p l :=
 ⟨h.isp,λj hj=>by rw [hb.cell (by rw [E4];exact hp oO)];exact h.cells j hj⟩
abbrev Fh:=@Af.below
theorem Af.upd {w w1:World} {b:Nat} {p:Option Addr} {l:l8_} (h:Af w p l) (hu:CP b w w1) (hp:0<l.length->(pA p).block≠b):Af w1 p l :=
 ⟨h.isp,λj hj=>by rw [World.cell?_of_block (w:=w) (hu.other _ (by rw [E4];exact hp oO))];exact h.cells j hj⟩
theorem Cy {w w1:World} {b:Nat} {p:Option Addr} {l:l8_} (h:Af w p l) (hu:CP b w w1) (hp:0<l.length->(pA p).block<b):Af w1 p l:=Af.upd h hu (λh0=>Nat.ne_of_lt (hp h0))
theorem Af.drewN {w:World} {p:Option Addr} {l:l8_} (h:Af w p l) (m:Nat):Af (w.drewN m) p l:=⟨h.isp,h.cells⟩
theorem Af.lt {w:World} {p:Option Addr} {l:l8_} (h:Af w p l) (hl:0<l.length):(pA p).block<w.heap.size:=by
 have:=h.cells 0 hl
 unfold World.cell? at this
 rw [E4] at this
 cases hb:w.heap[(pA p).block]? with
 | none=>rw [hb] at this;cases this
 | some o=>exact (B5.1 hb).1
theorem Bz.ixb {tx e:TypeId} {x y:Operand} {p:Option Addr} {l c:Nat} {i:Int} {k:IntKind} (hu:P.underlying tx=some (.slice e)) (hs:∀ w,(sizeOf e).run P w=.ok 1 w) (hx:CE f x=some (.slice p l c))
  (hi:CE f y=some (.int k i)) (hp:p=some (pA p)) (j:Nat) (e':i=j) (hj:j<l):Bz P (.indexAddr tx x y) f (.pointer (some ((pA p).add j))):=by
 have h:=TK (P:=P) (f:=f) (p:=pA p) (c:=c) hu hs (hx.trans (by rw [<- hp])) hi j e' hj
 rwa [Nat.mul_one] at h
theorem UA (l:l8_):(l.map λb=>(b.toNat:Int)).foldl (λ(r:ByteArray) n=>r.push (UInt8.ofNat n.toNat)) ByteArray.empty=bs l:=by
 have key:∀ (l m:l8_),(l.map λb=>(b.toNat:Int)).foldl (λ(r:ByteArray) n=>r.push (UInt8.ofNat n.toNat)) (bs m)=bs (m++l):=by
  intro l
  induction l with
  | nil=>intro m;simp
  | cons c r ih =>
   intro m
   have e:(bs m).push (UInt8.ofNat ((c.toNat:Int)).toNat)=bs (m++[c]):=by
    rw [Int.toNat_natCast,UInt8.ofNat_toNat]
    apply ByteArray.ext
    simp [bs,ByteArray.push]
   rw [Ev,EG,e,ih,AS];rfl
 have:=key l []
 rw [BT] at this
 exact this
theorem Fa {tx ty e:TypeId} {x:Operand} {p:Option Addr} {l:l8_} {c:Nat} {w:World} (hu:P.underlying tx=some (.slice e)) (he:P.underlying e=some (.int .u8)) (ht:P.underlying ty=some .string)
  (hx:CE f x=some (.slice p l.length c)) (hb:Af w p l):Rd P (.convert tx ty x) f w (.string (bs l)):=λρ hρ d ty' pos aft g=>by
 have hv:=hρ _ _ hx
 have key:(convert tx ty (.slice p l.length c)).run P w=.ok (.string (bs l)) w:=by
  cases p with
  | none =>
   have h:l=[]:=by
    cases l with
    | nil=>rfl
    | cons a r=>have:=hb.isp (by simp);cases this
   subst h
   simp [convert,Bp hu,Bp he,Bp ht,Conv.bytesToString]
   rfl
  | some a =>
   have hl:(loadCells a l.length).run P w=.ok ((l.map λb=>(b.toNat:Int)).map (Value.int .u8)).toArray w:=by
    have:=run_loadCells_list (P:=P) w a ((l.map λb=>(b.toNat:Int)).map (Value.int .u8)) (λj v hj=>by
     simp only [List.getElem?_map,Option.map_eq_some_iff] at hj
     obtain ⟨z,⟨b,hb1,rfl⟩,rfl⟩:=hj
     obtain ⟨i,rfl⟩:=C1.1 hb1
     exact hb.cells j i)
    simpa using this
   rw [run_convert_bytes_string w tx ty e _ _ _ hu he ht,run_bytesToString w a l.length c _ hl,UA]
 unfold execOp
 simp only [hv,Cd,key,BW,D4]
theorem Af.one {w:World} {b:Nat} {x:Int} {t:TypeId} {c:UInt8} (h:B4 w b #[.int .u8 x] t) (e:x=(c.toNat:Int)):Af w (some ⟨b,0,none⟩) [c] :=
 ⟨λ_=>rfl,λj hj=>by
  obtain rfl:j=0:=by simp at hj;omega
  show w.cell? ((⟨b,0,none⟩:Addr).add 0)=_
  rw [EM,h.cell 0,e];rfl⟩
theorem Tn {n:Nat}:∀ (parts:List (Nat × Value)) (z:List Value),z.length=n->Pm n parts=true->Instr.fill (λi=>some (i * 1,1)) z.toArray parts=some (SJ z parts).toArray
 | [],z,_,_=>rfl
 | (i,v)::r,z,hz,ho=>by
  simp only [Pm,AG] at ho
  obtain ⟨⟨h1,h2⟩,h3⟩:=ho
  have hi:i<n:=by simpa [Nat.blt_eq] using h1
  have hc:=P6 h2
  have ih:=Tn r (z.set i v) (by simpa using hz) h3
  have hf:(#[v].zipIdx.foldl (λcs (x:Value × Nat)=>cs.setIfInBounds (i * 1+x.2) x.1) z.toArray)=(z.set i v).toArray:=by simp [Array.zipIdx]
  refine Eq.trans ?_ ih
  conv=>lhs;unfold Instr.fill
  simp only [hc]
  rw [A2 (by simp;omega)]
  exact BH (λc=>Instr.fill (λi=>some (i * 1,1)) c r) hf
theorem CC {ops:Array Oper} {Q:Exit->Fr->World->Prop} {w:World} {rest:List Oper} {d ty:Nat} {pos:String} {aft:Array Edge} {t e:TypeId} {len:Nat} {ps:List (Nat × Operand)} {vs l:List Value} {z:Value}
  (hu:P.underlying t=some (.slice e)) (hs:∀ w,(sizeOf e).run P w=.ok 1 w) (hz:∀ w,(zeroValue e).run P w=.ok z w) (hz1:z.oneCell'=true) (hl0:Nat.blt 0 len=true) (hl1:Nat.ble len 1000=true)
  (hx:Qh f (ps.map (·.2))=some vs) (ho:Pm len ((ps.map (·.1)).zip vs)=true) (hl:SJ (List.replicate len z) ((ps.map (·.1)).zip vs)=l) (hd:Nat.blt d n.n=true)
  (k:∀ b w1,b=w.heap.size->B4 w1 b l.toArray e->CP b w w1->w1.heap.size=b+1->WL P n ops Q rest ((d,.slice (some ⟨b,0,none⟩) len len)::f) w1) :
  WL P n ops Q (⟨some d,.buildSlice t len ps.toArray,ty,pos,aft,none⟩::rest) f w:=by
 have y:0<len:=by simpa [Nat.blt_eq] using hl0
 have q:len<=1000:=by simpa using hl1
 refine WL.run hd (w':=w.alloc (.cells l.toArray e)) (v:=.slice (some ⟨w.heap.size,0,none⟩) len len) (λρ hρ=>?_) (k _ _ rfl (B4.alloc _ _ _) (CP.alloc _ _) (by simp))
 have j:=Jr hρ _ _ hx
 have s:(ps.toArray.map λ(i,x)=>(i,ρ x)).toList=(ps.map (·.1)).zip vs:=by
  rw [<- j];simp only [List.map_map,Array.toList_map]
  clear hx ho hl j
  induction ps with
  | nil=>rfl
  | cons p r ih=>simpa using ih
 have m:=P6 hz1
 have g:(Array.range (len * 1)).map (λx=>(#[z]:Array Value)[x % (#[z]:Array Value).size]!)=(List.replicate len z).toArray:=by
  apply Array.ext
  · simp
  · intro i q A;simp [Nat.mod_one]
 have a:=Tn (n:=len) ((ps.map (·.1)).zip vs) (List.replicate len z) (by simp) ho
 rw [hl] at a
 have h:Instr.fill (λi=>some (i,1)) (List.replicate len z).toArray ((ps.map (·.1)).zip vs)=some l.toArray:=by simpa using a
 have c:(Array.range len).map (λx=>(#[z]:Array Value)[x % (#[z]:Array Value).size]!)=(List.replicate len z).toArray:=by simpa using g
 have o:len≠0:=by omega
 have u:¬ 16777216<len:=by omega
 unfold execOp
 simp only [Instr.buildSlice,Cd,Bp hu,hs,BW,s,Nat.mul_one]
 rw [A2 oO,A2 o]
 simp only [Cd,hz,m,D4,BW,c,h]
 simp [newRow]
end
end
section
structure B8 (B r:Nat) (w w1:World):Prop where
 os:w1.os=w.os
 tape:w1.tape=w.tape
 output:w1.output=w.output
 size:w.heap.size<=w1.heap.size
 block:∀ k,k<B->k≠r->w1.heap[k]?=w.heap[k]?
theorem B8.refl (B r:Nat) (w:World):B8 B r w w:=⟨rfl,rfl,rfl,DS _,λ_ _ _=>rfl⟩
theorem B8.trans {B r:Nat} {a b c:World} (h:B8 B r a b) (k:B8 B r b c):B8 B r a c :=
 ⟨k.os.trans h.os,k.tape.trans h.tape,k.output.trans h.output,CT h.size k.size,λi hi hr=>(k.block i hi hr).trans (h.block i hi hr)⟩
abbrev Bs:=@B8.trans
theorem B8.mono {B B' r:Nat} {a b:World} (h:B8 B r a b) (hB:B'<=B):B8 B' r a b:=⟨h.os,h.tape,h.output,h.size,λi hi hr=>h.block i oO hr⟩
abbrev EN:=@B8.mono
theorem PG {B r:Nat} {a b:World} (h:Below B a b):B8 B r a b:=⟨h.os,h.tape,h.output,h.size,λi hi _=>h.block i hi⟩
abbrev Fb:=@PG
theorem Qr {B r:Nat} {a b:World} (h:Cn a b):B8 B r a b:=Fb (h.below (Fl _ _))
abbrev KU:=@Qr
theorem Bk {B r:Nat} {a b:World} (h:CP r a b):B8 B r a b:=⟨h.os,h.tape,h.output,h.size,λi _ hr=>h.other i hr⟩
theorem Se {B r c:Nat} {a b:World} (h:CP c a b) (hc:B<=c):B8 B r a b:=⟨h.os,h.tape,h.output,h.size,λi hi _=>h.other i oO⟩
abbrev DC:=@Se
theorem B8.below {B B' r:Nat} {a b:World} (h:B8 B' r a b) (hB:B<=B') (hr:B<=r):Below B a b:=⟨h.os,h.tape,h.output,h.size,λi hi=>h.block i oO oO⟩
theorem XF {B r c:Nat} {w w1:World} {cs:Array Value} {t:TypeId} (h:B4 w c cs t) (hT:B8 B r w w1) (hc:c<B) (hr:c≠r):B4 w1 c cs t:=(hT.block c hc hr).trans h
abbrev Gd:=@XF
theorem Af.drew {w w1:World} {p:Option Addr} {l:l8_} (h:Af w p l) (d:Cn w w1):Af w1 p l:=by obtain ⟨m,rfl⟩:=d;exact h.drewN m
section
variable {P:Program} {n:Sh} {f:Fr}
def CF (e:TypeId) (B:Nat) (w:World) (v:Value) (xs:List Value):Prop:=w.ownsRow B e 1 v xs.length xs
theorem CF.nil (e:TypeId) (B:Nat) (w:World):CF e B w (.slice none 0 0) []:=World.ownsRow_nil w B e 1
theorem A3a {e:TypeId} {B r:Nat} {w w1:World} {v:Value} {xs:List Value} (h:CF e B w v xs) (hu:CP r w w1) (hr:r<B):CF e B w1 v xs:=by
 obtain ⟨hl,h⟩:=h
 refine ⟨hl,h.imp id λ⟨g,cap,cur,a,b,c,d⟩=>⟨g,cap,cur,a,b,(hu.other g oO).trans c,d⟩⟩
theorem Dw {e:TypeId} {B b:Nat} {w w1:World} {v:Value} {xs:List Value} (h:CF e B w v xs) (eb:b=w.heap.size) (hu:CP b w w1):CF e B w1 v xs:=by
 obtain ⟨hl,h⟩:=h
 refine ⟨hl,h.imp id λ⟨g,cap,cur,c,d,a,f⟩=>⟨g,cap,cur,c,d,(hu.other g (by have:=(B5.1 a).1;omega)).trans a,f⟩⟩
theorem CF.below {e:TypeId} {B:Nat} {w w1:World} {v:Value} {xs:List Value} (h:CF e B w v xs) (hb:AL w w1):CF e B w1 v xs:=by
 obtain ⟨hl,h⟩:=h
 refine ⟨hl,h.imp id λ⟨g,cap,cur,b,c,a,d⟩=>⟨g,cap,cur,b,c,(hb.block g (B5.1 a).1).trans a,d⟩⟩
theorem GQ {e:TypeId} {B r:Nat} {w w1:World} {v:Value} {xs:List Value} (h:CF e B w v xs) (hT:B8 w.heap.size r w w1) (hr:r<B):CF e B w1 v xs:=by
 obtain ⟨hl,h⟩:=h
 refine ⟨hl,h.imp id λ⟨g,cap,cur,b,c,a,d⟩=>⟨g,cap,cur,b,c,(hT.block g (B5.1 a).1 oO).trans a,d⟩⟩
theorem CF.drew {e:TypeId} {B:Nat} {w w1:World} {v:Value} {xs:List Value} (h:CF e B w v xs) (d:Cn w w1):CF e B w1 v xs:=by obtain ⟨m,rfl⟩:=d;exact h
theorem CF.bytes {e:TypeId} {B:Nat} {w:World} {v:Value} {l:l8_} (h:CF e B w v (AN l)):∃ p c,v=.slice p l.length c/\Af w p l/\(0<l.length->B<=(pA p).block):=by
  have b:(AN l).length=l.length:=by simp [AN]
  obtain ⟨hl,h⟩:=h
  rcases h with ⟨rfl,d⟩ | ⟨g,cap,cur,rfl,hB,hg,f,m,o,a⟩
  · obtain rfl : l = [] := by rw [b] at d; exact EF.1 d
    exact ⟨none,0,rfl,Af.nil w,λh=>by simp at h⟩
  · rw [b] at f a ⊢
    refine ⟨_,cap,rfl,⟨λ_=>rfl,λj hj=>?_⟩,λ_=>hB⟩
    have k:(pA (some ⟨g,0,none⟩)).add j=⟨g,j,none⟩:=by
      show (⟨g,0,none⟩:Addr).add j=_
      unfold Addr.add;split
      · next h=>subst h;rfl
      · simp
    have hc:=Lib.cell_of_heap hg j
    rw [k,hc,<- DT]
    have i:(cur.toList.take (l.length * 1))[j]?=(AN l)[j]?:=by rw [a]
    rw [List.getElem?_take,A5 oO] at i
    rw [i]
    simp [AN,hj]
theorem A1y {ops:Array Oper} {Q:Exit->Fr->World->Prop} {w:World} {rest:List Oper} {d ty:Nat} {pos:String} {aft:Array Edge} {s x:Operand} {t e:TypeId} {B:Nat} {i:TypeInfo} {z v u:Value} {xs:List Value} {b c by':Nat} {tb:TypeId}
    (ht:P.underlying t=some (.slice e)) (hi:P.info? e=some i) (hz:i.zero=some z) (hsize:i.size=1) (hby:i.bytes=by') (hby2:by'<=16) (hzs:z.cells.size=1)
    (hs:CE f s=some v) (hown:CF e B w v xs) (hx:CE f x=some (.slice (some ⟨b,0,none⟩) 1 c)) (hb:B4 w b #[u] tb) (h1:u.oneCell'=true)
    (hn:xs.length<=1000000000) (hB:B<=w.heap.size) (hd:Nat.blt d n.n=true)
    (k:∀ v' w',CF e B w' v' (xs++[u])->Below B w w'->w.grownBy w' v.ownBlock->WL P n ops Q rest ((d,v')::f) w') :
    WL P n ops Q (⟨some d,.call ⟨.builtin .append,#[s,x],#[t,t]⟩,ty,pos,aft,none⟩::rest) f w:=by
  obtain ⟨v',w',g,l,a,-⟩:=run_append_own (P:=P) (w:=w) B t ty e i z 1 by' ht hi hz hsize hby hzs dD v xs.length xs hown ⟨b,0,none⟩ 1 c [u] rfl
    (λj y hj=>by
      have m:j=0:=by
        rcases I1 j with h | h
        · exact h
        · rw [AZ (by simp;omega)] at hj;cases hj
      subst m;simp only [List.getElem?_cons_zero,BK] at hj;subst hj;rw [EM,hb.cell 0];rfl) (by simpa using h1) (by unfold maxLen;omega) (by
      have:(xs.length+1) * by'<=(xs.length+1) * 16:=Nat.mul_le_mul_left _ hby2
      omega) hB
  refine WL.run hd (w':=w') (v:=v') (λρ hρ=>?_) (k v' w' ?_ ((Fl _ _).grown a hB λk hk=>(hown.lt k hk).1) a)
  · unfold execOp
    simp only [resolve,invoke,builtin,Cd,D4,BW,List.map_toArray,Ev,Fz,hρ _ _ hs,hρ _ _ hx,g]
  · have o : (xs ++ [u]).length = xs.length + 1 := by simp
    unfold CF;rw [o];exact l
theorem Bz.mkI {tx:TypeId} {x:Operand} {k:IntKind} {v:Value} (hu:P.underlying tx=some (.int k)) (hx:CE f x=some v):Bz P (.makeInterface tx x) f (.iface tx v):=λρ hρ d ty pos aft g w=>by
 simp [execOp,hρ _ _ hx,Instr.makeInterface,Bp hu]
theorem G4 {ops:Array Oper} {Q:Exit->Fr->World->Prop} {w:World} {rest:List Oper} {d:Option Tmp} {ty:Nat} {pos:String} {aft:Array Edge} {x:Operand} {t:TypeId} {v:Value}
  (hx:CE f x=some (.iface t v)) (k:Q (.panic [{ v:=.iface t v,recovered:=false }]) f w):WL P n ops Q (⟨d,.panic x,ty,pos,aft,none⟩::rest) f w :=
 A3I (λρ hρ=>by simp [execOp,hρ _ _ hx,Instr.panic]) k
def Ce {α:Type} (E:TypeId) (res:Except Int α) (V:α->Value) (S:α->World->Prop) (S':World->Prop) (e:Ending) (w:World):Prop :=
 match res with
 | .ok a=>e=.returned (V a)/\S a w
 | .error k=>e=.panicked [{ v:=.iface E (Ag k),recovered:=false }]/\S' w
theorem Ch {ops:Array Oper} {Q:Exit->Fr->World->Prop} {w:World} {rest:List Oper} {d ty:Nat} {pos:String} {aft:Array Edge} {F:FuncId} {xs:List Operand} {ats:Array TypeId} {vs:List Value} {α:Type}
  {E:TypeId} {res:Except Int α} {V:α->Value} {S:α->World->Prop} {S':World->Prop} (hb:Dc P F) (hx:Qh f xs=some vs) (hd:Nat.blt d n.n=true)
  (hc:Calls P F vs.toArray w (Ce E res V S S')) (herr:∀ k w',res=.error k->S' w'->Q (.panic [{ v:=.iface E (Ag k),recovered:=false }]) f w')
  (hok:∀ a w',res=.ok a->S a w'->WL P n ops Q rest ((d,V a)::f) w'):WL P n ops Q (⟨some d,.call ⟨.value (.func F),xs.toArray,ats⟩,ty,pos,aft,none⟩::rest) f w:=by
 cases hres:res with
 | ok a=>exact Cs hb hx hd (hc.mono λe w' h=>by rw [hres] at h;exact h) λw' h=>hok a w' hres h
 | error k=>exact F5 hb hx (hc.mono λe w' h=>by rw [hres] at h;exact h) λw' h=>herr k w' hres h
theorem Ce.ok {α:Type} {E:TypeId} {res:Except Int α} {V:α->Value} {S:α->World->Prop} {S':World->Prop} {e:Ending} {w:World} (a:α) (h:res=.ok a) (he:e=.returned (V a)) (hs:S a w):Ce E res V S S' e w:=by
 unfold Ce;rw [h];exact ⟨he,hs⟩
theorem BB {α:Type} {E:TypeId} {res:Except Int α} {V:α->Value} {S:α->World->Prop} {S':World->Prop} {w:World} (k:Int) (h:res=.error k) (hs:S' w):Ce E res V S S' (.panicked [{ v:=.iface E (Ag k),recovered:=false }]) w:=by
 unfold Ce;rw [h];exact ⟨rfl,hs⟩
end
end
section
theorem D9 {P:Program} {fn:Func} {R:Ending->World->Prop} {f:Fr} {w:World} (h:HR P fn R .ret f w):HR P fn R .normal f w:=by unfold HR at *;exact h
theorem BD {P:Program} {fn:Func} {R:Ending->World->Prop} {f:Fr} {w:World} {t:Tmp} {ty:TypeId} {b:Addr} {v:Value} (hr:fn.results=#[.cell t ty])
  (ht:look f t=some (.pointer (some b))) (hv:(loadVar ty b).run P w=.ok v w) (h:R (.returned v) w):HR P fn R .ret f w:=by
 unfold HR
 exact ⟨_,λtmps hh=>by
  have a:=hh _ _ ht
  simp only [AD] at a
  simp [results,hr,a,asAddr,hv],h⟩
section
variable {P:Program} {n:Sh} {f:Fr}
def DO (p:Option Addr) (c a:Nat):Option Addr:=if c=a then p else p.map (·.add a)
theorem Bz.slb {tx e:TypeId} {x y z:Operand} {p:Option Addr} {m c:Nat} {i j:Int} (hu:P.underlying tx=some (.slice e)) (hs:∀ w,(sizeOf e).run P w=.ok 1 w) (hx:CE f x=some (.slice p m c))
  (hi:CE f y=some (Ag i)) (hj:CE f z=some (Ag j)) (a b:Nat) (ei:i=a) (ej:j=b) (hab:a<=b) (hbc:b<=c) :
  Bz P (.slice tx x (some y) (some z) none) f (.slice (DO p c a) (b-a) (c-a)):=λρ hρ d ty pos aft g w=>by
 subst ei;subst ej
 have h1:(a:Int)<=(b:Int):=by omega
 simp [execOp,Instr.sliceAt,Instr.slice,Instr.sliceBounds,run_sliceBound,hρ _ _ hx,hρ _ _ hi,hρ _ _ hj,Bp hu,hs,hbc,hab,DO]
theorem Bz.slbF {tx e:TypeId} {x y:Operand} {p:Option Addr} {m c:Nat} {i:Int} (hu:P.underlying tx=some (.slice e)) (hs:∀ w,(sizeOf e).run P w=.ok 1 w) (hx:CE f x=some (.slice p m c))
  (hi:CE f y=some (Ag i)) (a:Nat) (ei:i=a) (ham:a<=m) :
  Bz P (.slice tx x (some y) none none) f (.slice (DO p c a) (m-a) (c-a)):=λρ hρ d ty pos aft g w=>by
 subst ei
 simp [execOp,Instr.sliceAt,Instr.slice,Instr.sliceBounds,run_sliceBound,hρ _ _ hx,hρ _ _ hi,Bp hu,hs,ham,DO]
theorem Bz.slbT {tx e:TypeId} {x z:Operand} {p:Option Addr} {m c:Nat} {j:Int} (hu:P.underlying tx=some (.slice e)) (hs:∀ w,(sizeOf e).run P w=.ok 1 w) (hx:CE f x=some (.slice p m c))
  (hj:CE f z=some (Ag j)) (b:Nat) (ej:j=b) (hbc:b<=c) :
  Bz P (.slice tx x none (some z) none) f (.slice (DO p c 0) b c):=λρ hρ d ty pos aft g w=>by
 subst ej
 simp [execOp,Instr.sliceAt,Instr.slice,Instr.sliceBounds,run_sliceBound,hρ _ _ hx,hρ _ _ hj,Bp hu,hs,hbc,DO]
theorem Af.part {w:World} {p:Option Addr} {l:l8_} {c a b:Nat} (h:Af w p l) (hab:a<=b) (hb:b<=l.length) (hc:l.length<=c):Af w (DO p c a) ((l.drop a).take (b-a)):=by
  have d:((l.drop a).take (b-a)).length=b-a:=by rw [Ap,Aq];omega
  by_cases h0:a=b
  · refine ⟨λh=>?_,λj hj=>?_⟩ <;> rw [d] at * <;> omega
  · have hp := h.isp oO
    have e:DO p c a=some ((pA p).add a):=by unfold DO;rw [A2 oO];rw [hp];rfl
    rw [e]
    refine ⟨λ_=>rfl,λj hj=>?_⟩
    rw [d] at hj
    show w.cell? (((pA p).add a).add j)=_
    rw [Jz,h.cells (a+j) oO]
    simp
theorem Yy {l:l8_} {a b:Nat} (hb:b<=l.length):((l.drop a).take (b-a)).length=b-a:=by rw [Ap,Aq];omega
theorem Il {tx ty e:TypeId} {x:Operand} {p:Option Addr} {l:l8_} {a b c c' m:Nat} {w:World} (hu:P.underlying tx=some (.slice e)) (he:P.underlying e=some (.int .u8)) (ht:P.underlying ty=some .string)
  (hx:CE f x=some (.slice (DO p c a) m c')) (hm:m=b-a) (hb:Af w p l) (hab:a<=b) (hbl:b<=l.length) (hc:l.length<=c):Rd P (.convert tx ty x) f w (.string (bs ((l.drop a).take (b-a)))):=by
 subst hm
 refine Fa (c:=c') hu he ht ?_ (hb.part hab hbl hc)
 rw [Yy hbl];exact hx
theorem Rd.iis {op:Op} {w:World} {k:IntKind} {s:Int} (t:Int) (h:Rd P op f w (.int k s)) (e:s=t):Rd P op f w (.int k t):=e▸h
theorem En {ops:Array Oper} {Q:Exit->Fr->World->Prop} {w:World} {rest:List Oper} {d ty:Nat} {pos:String} {aft:Array Edge} {s x:Operand} {t e:TypeId} {B:Nat} {z v u:Value} {xs:List Value} {b c by':Nat} {tb:TypeId}
  (ht:P.underlying t=some (.slice e)) (hi:(P.info? e).map (λi=>(i.zero,i.size,i.bytes))=some (some z,1,by')) (hby2:Nat.ble by' 16=true) (hzs:z.cells.size=1)
  (hs:CE f s=some v) (hown:CF e B w v xs) (hx:CE f x=some (.slice (some ⟨b,0,none⟩) 1 c)) (hb:B4 w b #[u] tb) (h1:u.oneCell'=true)
  (hn:xs.length<=1000000000) (hB:B<=w.heap.size) (hd:Nat.blt d n.n=true)
  (k:∀ v' w',CF e B w' v' (xs++[u])->Below B w w'->w.grownBy w' v.ownBlock->WL P n ops Q rest ((d,v')::f) w') :
  WL P n ops Q (⟨some d,.call ⟨.builtin .append,#[s,x],#[t,t]⟩,ty,pos,aft,none⟩::rest) f w:=by
 cases hh:P.info? e with
 | none=>rw [hh] at hi;cases hi
 | some i =>
  rw [hh] at hi
  simp only [Option.map_some,BK,Co] at hi
  exact A1y ht hh hi.1 hi.2.1 hi.2.2 (by simpa using hby2) hzs hs hown hx hb h1 hn hB hd k
theorem Ca (l:l8_):(AN l).length=l.length:=by simp [AN]
theorem E1 {e:TypeId} {B:Nat} {w:World} {v:Value} {l:l8_} {x:Int} (h:CF e B w v (AN l++[.int .u8 x])) (c:UInt8) (hc:x=(c.toNat:Int)):CF e B w v (AN (l++[c])):=by
 have:AN (l++[c])=AN l++[.int .u8 x]:=by simp [AN,hc]
 rw [this];exact h
end
end
section
open Go.RowKit Go.WideShapes Go.ChangeShapes
section
variable {P:Program} {n:Sh} {f:Fr}
theorem ID {ops:Array Oper} {Q:Exit->Fr->World->Prop} {w:World} {rest:List Oper} {d ty:Nat} {pos:String} {aft:Array Edge} {t e:TypeId} {sz:Nat}
  (hu:P.underlying t=some (.slice e)) (hs:∀ w,(sizeOf e).run P w=.ok sz w) (hd:Nat.blt d n.n=true)
  (k:∀ b w1,b=w.heap.size->(∀ B,B<=b->w1.ownsRow B e sz (.slice (some ⟨b,0,none⟩) 0 0) 0 [])->CP b w w1->w1.heap.size=b+1->WL P n ops Q rest ((d,.slice (some ⟨b,0,none⟩) 0 0)::f) w1) :
  WL P n ops Q (⟨some d,.buildSlice t 0 [].toArray,ty,pos,aft,none⟩::rest) f w:=by
 refine WL.run hd (w':=w.alloc (.cells #[] e)) (v:=.slice (some ⟨w.heap.size,0,none⟩) 0 0) (λρ hρ=>?_)
  (k _ _ rfl (λB hB=>⟨by simp,.inr ⟨w.heap.size,0,#[],rfl,hB,B4.alloc _ _ _,DS _,by unfold maxLen;omega,by simp,by simp⟩⟩) (CP.alloc _ _) (by simp))
 unfold execOp
 have a:Array.map (λ_=>(default:Value)) (Array.range 0)=#[]:=by simp
 simp [Instr.buildSlice,Bp hu,hs,Instr.fill,a,newRow]
theorem Sb {ops:Array Oper} {Q:Exit->Fr->World->Prop} {w:World} {rest:List Oper} {d ty:Nat} {pos:String} {aft:Array Edge} {s x:Operand} {t e:TypeId} {B:Nat} {z v:Value} {xs:List Value} {p:Option Addr} {l:l8_} {c by':Nat}
    (ht:P.underlying t=some (.slice e)) (hi:(P.info? e).map (λi=>(i.zero,i.size,i.bytes))=some (some z,1,by')) (hby2:Nat.ble by' 16=true) (hzs:z.cells.size=1)
    (hs:CE f s=some v) (hown:CF e B w v xs) (hx:CE f x=some (.slice p l.length c)) (hb:Af w p l)
    (hn:xs.length+l.length<=1000000000) (hB:B<=w.heap.size) (hd:Nat.blt d n.n=true) (hc:l=[]->c=0\/p≠none)
    (k:∀ v' w',CF e B w' v' (xs++AN l)->Below B w w'->w.grownBy w' v.ownBlock->WL P n ops Q rest ((d,v')::f) w') :
    WL P n ops Q (⟨some d,.call ⟨.builtin .append,#[s,x],#[t,t]⟩,ty,pos,aft,none⟩::rest) f w:=by
  cases hh:P.info? e with
  | none=>rw [hh] at hi;cases hi
  | some i =>
    rw [hh] at hi;simp only [Option.map_some,BK,Co] at hi;obtain ⟨hz,b,o⟩:=hi;have g:by'<=16:=by simpa using hby2
    cases hp:p with
    | none =>
      have hl:l=[]:=by
        cases l with
        | nil=>rfl
        | cons a r=>have:=hb.isp (by simp);rw [hp] at this;cases this
      have q:c=0:=(hc hl).resolve_right (λh=>h hp);subst hp;subst hl;subst q;have m:=run_append_owned_none (P:=P) (w:=w) B t ty e i 1 ht hh v xs.length xs hown;refine WL.run hd (w':=w) (v:=v) (λρ hρ=>?_) (k v w (by simpa [AN] using hown) (Fl _ _) ⟨rfl,rfl,rfl,DS _,λ_ _ _=>rfl⟩);unfold execOp;simp only [resolve,invoke,builtin,Cd,D4,BW,List.map_toArray,Ev,Fz,hρ _ _ hs,hρ _ _ hx,Am,m]
    | some a =>
      subst hp;obtain ⟨v',w',m,C,A,-⟩:=run_append_own (P:=P) (w:=w) B t ty e i z 1 by' ht hh hz b o hzs dD v xs.length xs hown a l.length c (AN l) (by simp [AN])
        (λj y hj=>by
          have hj':j<l.length:=by
            rcases By j l.length with h | h
            · exact h
            · rw [AZ (by rw [Ca];omega)] at hj;cases hj
          have:=hb.cells j hj';rw [show pA (some a)=a from rfl] at this;rw [this];rw [<- hj];simp [AN,hj'])
        (λu hu=>by simp only [AN,Ee] at hu;obtain ⟨y,-,rfl⟩:=hu;rfl) (by unfold maxLen;omega) (by
          have:(xs.length+l.length) * by'<=(xs.length+l.length) * 16:=Nat.mul_le_mul_left _ g
          omega) hB
      refine WL.run hd (w':=w') (v:=v') (λρ hρ=>?_) (k v' w' ?_ ((Fl _ _).grown A hB λk hk=>(hown.lt k hk).1) A)
      · unfold execOp
        simp only [resolve,invoke,builtin,Cd,D4,BW,List.map_toArray,Ev,Fz,hρ _ _ hs,hρ _ _ hx,m]
      · have D : (xs ++ AN l).length = xs.length + l.length := by simp [AN]
        unfold CF;rw [D];exact C
theorem CF.bytesC {e:TypeId} {B:Nat} {w:World} {v:Value} {l:l8_} (h:CF e B w v (AN l)):∃ p c,v=.slice p l.length c/\Af w p l/\(0<l.length->B<=(pA p).block)/\l.length<=c/\(l=[]->c=0\/p≠none):=by
 obtain ⟨p,c,hv,hb,hB⟩:=h.bytes
 have b:(AN l).length=l.length:=by simp [AN]
 obtain ⟨hl,h⟩:=h
 rcases h with ⟨rfl,f⟩ | ⟨g,cap,cur,rfl,-,-,d,-⟩
 ·
  simp only [Value.slice.injEq] at hv
  obtain ⟨rfl,a,rfl⟩:=hv
  exact ⟨none,0,by rw [<- a],hb,hB,oO,λ_=>.inl rfl⟩
 ·
  simp only [Value.slice.injEq] at hv
  obtain ⟨rfl,a,rfl⟩:=hv
  exact ⟨_,_,by rw [a],hb,hB,oO,λ_=>.inr (by simp)⟩
end
theorem HS {w w1:World} {B:Nat} (h:B<=w.heap.size) (d:Cn w w1):B<=w1.heap.size:=by rw [d.size];exact h
theorem Af.lit {w:World} {b:Nat} {cs:Array Value} {t:TypeId} {l:l8_} (h:B4 w b cs t) (e:cs=(AN l).toArray):Af w (some ⟨b,0,none⟩) l:=by
 subst e
 refine ⟨λ_=>rfl,λj hj=>?_⟩
 have a:(pA (some ⟨b,0,none⟩)).add j=⟨b,j,none⟩:=by
  show (⟨b,0,none⟩:Addr).add j=_
  unfold Addr.add;split
  · next h=>subst h;rfl
  · simp
 rw [a,h.cell j]
 simp [AN,hj]
theorem LM {P:Program} {n:Sh} {f:Fr} {ops:Array Oper} {Q:Exit->Fr->World->Prop} {w:World} {rest:List Oper} {d ty:Nat} {pos:String} {aft:Array Edge} {x:Operand} {t e tb:TypeId} {b len cap:Nat} {cs:Array Value} (l:l8_)
  (ht:P.underlying t=some (.slice e)) (he:P.underlying e=some (.int .u8)) (hx:CE f x=some (.slice (some ⟨b,0,none⟩) len cap)) (hb:B4 w b cs tb) (hl:cs=(AN l).toArray) (hd:Nat.blt d n.n=true)
  (k:∀ w1,Af w1 (some ⟨b,0,none⟩) l->CP b w w1->w1.heap.size=w.heap.size->WL P n ops Q rest ((d,.slice (some ⟨b,0,none⟩) len cap)::f) w1) :
  WL P n ops Q (⟨some d,.convert t t x,ty,pos,aft,none⟩::rest) f w:=by
 have g:w.shape? b=some (tb,cs.size):=by unfold World.shape?;rw [show w.heap[b]?=_ from hb]
 have q:=hb.lt
 have a:(w.freeze ⟨b,cs.size,none⟩ 1).heap=w.heap.modify b fun
   | .cells c elem (lo,hi)=>.cells c elem (if lo == hi then (cs.size,cs.size+1) else (min lo cs.size,max hi (cs.size+1)))
   | o=>o:=rfl
 have i:(w.freeze ⟨b,cs.size,none⟩ 1).heap[b]?=some (.cells cs tb (cs.size,cs.size+1)):=by
  rw [a,Array.getElem?_modify,A5 rfl,show w.heap[b]?=_ from hb];rfl
 have hu:CP b w (w.freeze ⟨b,cs.size,none⟩ 1):=⟨rfl,rfl,rfl,by rw [a];simp,λk hk=>by rw [a,Array.getElem?_modify,A2 (Ne.symm hk)]⟩
 refine WL.run hd (w':=w.freeze ⟨b,cs.size,none⟩ 1) (v:=.slice (some ⟨b,0,none⟩) len cap) (λρ hρ=>?_) (k _ ?_ hu (by rw [a];simp))
 · unfold execOp;simp [hρ _ _ hx,convert,Bp ht,Bp he,markStringish,g]
 ·
  subst hl;refine ⟨λ_=>rfl,λj hj=>?_⟩;have m:(pA (some ⟨b,0,none⟩)).add j=⟨b,j,none⟩:=by
   show (⟨b,0,none⟩:Addr).add j=_
   unfold Addr.add;split
   · next h=>subst h;rfl
   · simp
  rw [m,Lib.cell_of_heap i j];simp [AN,hj]
end
section
open Go.RowKit Go.WideShapes Go.ChangeShapes
section
variable {P:Program} {n:Sh} {f:Fr}
theorem Vf {ops:Array Oper} {Q:Exit->Fr->World->Prop} {w:World} {rest:List Oper} {d ty:Nat} {pos:String} {aft:Array Edge} {x:Operand} {src dst e:TypeId} {l:l8_}
  (hs:P.underlying src=some .string) (hd':P.underlying dst=some (.slice e)) (he:P.underlying e=some (.int .u8)) (hx:CE f x=some (.string (bs l))) (hd:Nat.blt d n.n=true)
  (k:∀ b w1 c,b=w.heap.size->Af w1 (some ⟨b,0,none⟩) l->l.length<=c->CP b w w1->w1.heap.size=b+1->WL P n ops Q rest ((d,.slice (some ⟨b,0,none⟩) l.length c)::f) w1) :
  WL P n ops Q (⟨some d,.convert src dst x,ty,pos,aft,none⟩::rest) f w:=by
 have g:=Lib.run_convert_string_bytes (P:=P) w src dst e (bs l) hs hd' he
 have a:(bs l).size=l.length:=by simp [bs,ByteArray.size]
 have hu:CP w.heap.size w (Lib.bytesWorld w e (bs l)):=⟨rfl,rfl,rfl,by rw [Lib.bytesWorld_size];omega,λj hj=>by
  rcases By j w.heap.size with h | h
  · exact Lib.bytesWorld_at_old w e (bs l) j h
  · rw [Ef (by rw [Lib.bytesWorld_size];omega),Ef h]⟩
 refine WL.run hd (w':=Lib.bytesWorld w e (bs l)) (v:=.slice (some ⟨w.heap.size,0,none⟩) l.length (grownCap w l.length 0 e)) (λρ hρ=>?_)
  (k _ _ _ rfl ⟨λ_=>rfl,λj hj=>?_⟩ (grownCap_ge w l.length 0 e) hu (Lib.bytesWorld_size w e (bs l)))
 · unfold execOp;simp only [hρ _ _ hx,Cd,g,BW,D4,a]
 ·
  have i:(pA (some ⟨w.heap.size,0,none⟩)).add j=⟨w.heap.size,j,none⟩:=by
   show (⟨w.heap.size,0,none⟩:Addr).add j=_
   unfold Addr.add;split
   · next h=>rw [h]
   · simp
  rw [i,Lib.bytesWorld_cell w e (bs l) j (by rw [a];exact hj)];simp [bs,List.getD,hj]
theorem CF.lit {w:World} {b m:Nat} {cs:Array Value} {e:TypeId} (h:B4 w b cs e) (hm:cs.size=m) (hl:m<=maxLen):CF e b w (.slice (some ⟨b,0,none⟩) m m) cs.toList:=by
 subst hm
 refine ⟨by simp,.inr ⟨b,cs.size,cs,?_,DS _,h,by simp,hl,by simp,by rw [Al (by simp)]⟩⟩
 simp
end
structure AM {α:Type} (V:α->Value) (w:World) (p:Option Addr) (l:List α):Prop where
 isp:0<l.length->p=some (pA p)
 cells:∀ j (h:j<l.length),w.cell? ((pA p).add j)=some (V l[j])
section
variable {α:Type} {V:α->Value}
theorem AM.lt {w:World} {p:Option Addr} {l:List α} (h:AM V w p l) (h0:0<l.length):(pA p).block<w.heap.size:=by
 have:=h.cells 0 h0
 rcases By (pA p).block w.heap.size with h' | h'
 · exact h'
 ·
  exfalso
  have hb:((pA p).add 0).block=(pA p).block:=E4 _ _
  unfold World.cell? at this
  rw [hb,Ef h'] at this
  cases this
theorem AM.below {w w1:World} {B:Nat} {p:Option Addr} {l:List α} (h:AM V w p l) (hb:Below B w w1) (hp:0<l.length->(pA p).block<B):AM V w1 p l :=
 ⟨h.isp,λj hj=>by rw [World.cell?_of_block (w:=w) (hb.block _ (by rw [E4];exact hp oO))];exact h.cells j hj⟩
theorem AM.upd {w w1:World} {b:Nat} {p:Option Addr} {l:List α} (h:AM V w p l) (hu:CP b w w1) (hp:0<l.length->(pA p).block≠b):AM V w1 p l :=
 ⟨h.isp,λj hj=>by rw [World.cell?_of_block (w:=w) (hu.other _ (by rw [E4];exact hp oO))];exact h.cells j hj⟩
theorem AM.drewN {w:World} {p:Option Addr} {l:List α} (h:AM V w p l) (m:Nat):AM V (w.drewN m) p l:=⟨h.isp,h.cells⟩
theorem AM.drew {w w1:World} {p:Option Addr} {l:List α} (h:AM V w p l) (d:Cn w w1):AM V w1 p l:=by obtain ⟨m,rfl⟩:=d;exact h.drewN m
theorem AM.nil (w:World):AM V w none []:=⟨λh=>by simp at h,λj h=>by simp at h⟩
theorem AM.lit {w:World} {b:Nat} {cs:Array Value} {t:TypeId} {l:List α} (h:B4 w b cs t) (e:cs=(l.map V).toArray):AM V w (some ⟨b,0,none⟩) l:=by
 subst e
 refine ⟨λ_=>rfl,λj hj=>?_⟩
 have a:(pA (some ⟨b,0,none⟩)).add j=⟨b,j,none⟩:=by
  show (⟨b,0,none⟩:Addr).add j=_
  unfold Addr.add;split
  · next h=>subst h;rfl
  · simp
 rw [a,h.cell j]
 simp [hj]
theorem CF.row {e:TypeId} {B:Nat} {w:World} {v:Value} {l:List α} (h:CF e B w v (l.map V)):∃ p c,v=.slice p l.length c/\AM V w p l/\(0<l.length->B<=(pA p).block)/\l.length<=c/\(l=[]->c=0\/p≠none):=by
  have b:(l.map V).length=l.length:=by simp
  obtain ⟨hl,h⟩:=h
  rcases h with ⟨rfl,f⟩ | ⟨g,cap,cur,rfl,hB,hg,d,m,o,a⟩
  · obtain rfl : l = [] := by rw [b] at f; exact EF.1 f
    exact ⟨none,0,rfl,AM.nil w,λh=>by simp at h,DS _,λ_=>.inl rfl⟩
  · rw [b] at d a ⊢
    refine ⟨_,cap,rfl,⟨λ_=>rfl,λj hj=>?_⟩,λ_=>hB,d,λ_=>.inr (by simp)⟩
    have k:(pA (some ⟨g,0,none⟩)).add j=⟨g,j,none⟩:=by
      show (⟨g,0,none⟩:Addr).add j=_
      unfold Addr.add;split
      · next h=>subst h;rfl
      · simp
    have hc:=Lib.cell_of_heap hg j
    rw [k,hc,<- DT]
    have i:(cur.toList.take (l.length * 1))[j]?=(l.map V)[j]?:=by rw [a]
    rw [List.getElem?_take,A5 oO] at i
    rw [i]
    simp [hj]
end
abbrev F4 (s:l8_):Value:=.string (bs s)
end
section
open Go.RowKit Go.WideShapes Go.ChangeShapes
theorem GU (b o j:Nat):(⟨b,o,none⟩:Addr).add j=⟨b,o+j,none⟩:=by
 unfold Addr.add;split <;> simp_all
structure FK (α:Type) where
 m:Nat
 V:α->List Value
 pos:0<m
 len:∀ x,(V x).length=m
 one:∀ x,∀ v∈V x,v.oneCell'=true
variable {α:Type}
def FK.flat (L:FK α) (l:List α):List Value:=l.flatMap L.V
theorem FK.flat_len (L:FK α):∀ l:List α,(L.flat l).length=l.length * L.m
 | []=>by simp [FK.flat]
 | x::l=>by
  have:=L.flat_len l
  unfold FK.flat at this ⊢
  simp only [Dx,A9,L.len,this,Aa,Nat.succ_mul];omega
theorem FK.flat_append (L:FK α) (l k:List α):L.flat (l++k)=L.flat l++L.flat k:=by simp [FK.flat]
theorem FK.flat_one (L:FK α) (l:List α):∀ v∈L.flat l,v.oneCell'=true:=by
 intro v hv
 simp only [FK.flat,List.mem_flatMap] at hv
 obtain ⟨x,-,h⟩:=hv
 exact L.one x v h
theorem FK.flat_at (L:FK α):∀ (l:List α) (j:Nat) (h:j<l.length) (i:Nat),i<L.m->(L.flat l)[j * L.m+i]?=(L.V l[j])[i]?
 | x::l,0,h,i,hi=>by
  simp only [FK.flat,Dx,Nat.zero_mul,D5,IG]
  rw [Fm (by rw [L.len];exact hi)]
 | x::l,j+1,h,i,hi=>by
  have ih:=L.flat_at l j (by simpa using h) i hi
  simp only [FK.flat,Dx,IH] at ih ⊢
  rw [A24 (by rw [L.len,Nat.succ_mul];omega),L.len,<- ih]
  congr 1
  rw [Nat.succ_mul];omega
theorem FK.flat_take (L:FK α) (l:List α) (k:Nat):(L.flat l).take (k * L.m)=L.flat (l.take k):=by
 induction l generalizing k with
 | nil=>simp [FK.flat]
 | cons x l ih =>
  cases k with
  | zero=>simp [FK.flat]
  | succ k =>
   have:=ih k
   simp only [FK.flat,Dx,List.take_succ_cons] at this ⊢
   rw [XI,L.len,Al (by rw [L.len,Nat.succ_mul];omega),<- this]
   congr 2
   rw [Nat.succ_mul];omega
theorem FK.flat_drop (L:FK α) (l:List α) (k:Nat):(L.flat l).drop (k * L.m)=L.flat (l.drop k):=by
 induction l generalizing k with
 | nil=>simp [FK.flat]
 | cons x l ih =>
  cases k with
  | zero=>simp [FK.flat]
  | succ k =>
   have:=ih k
   simp only [FK.flat,Dx,List.drop_succ_cons] at this ⊢
   rw [List.drop_append,L.len,List.drop_of_length_le (by rw [L.len,Nat.succ_mul];omega),BT,<- this]
   congr 1
   rw [Nat.succ_mul];omega
structure AA (L:FK α) (w:World) (p:Option Addr) (l:List α):Prop where
 isp:0<l.length->p=some (pA p)
 cells:∀ j (h:j<l.length) i,i<L.m->w.cell? ((pA p).add (j * L.m+i))=(L.V l[j])[i]?
section
variable {L:FK α}
theorem AA.flat {w:World} {p:Option Addr} {l:List α} (h:AA L w p l):∀ k v,(L.flat l)[k]?=some v->w.cell? ((pA p).add k)=some v:=by
 intro k v hk
 have a:k<(L.flat l).length:=by
  rcases By k (L.flat l).length with h | h
  · exact h
  · rw [AZ h] at hk;cases hk
 rw [L.flat_len] at a
 have hj:k / L.m<l.length:=(Nat.div_lt_iff_lt_mul L.pos).2 a
 have hi:=Nat.mod_lt k L.pos
 have e:k / L.m * L.m+k % L.m=k:=Nat.div_add_mod' k L.m
 have b:=L.flat_at l (k / L.m) hj (k % L.m) hi
 have c:=h.cells (k / L.m) hj (k % L.m) hi
 rw [e] at b c
 rw [c,<- b,hk]
theorem HM {w:World} {p:Option Addr} {l:List α} (hp:0<l.length->p=some (pA p)) (h:∀ k v,(L.flat l)[k]?=some v->w.cell? ((pA p).add k)=some v):AA L w p l :=
 ⟨hp,λj hj i hi=>by
  have h1:=L.flat_at l j hj i hi
  have h2:i<(L.V l[j]).length:=by rw [L.len];exact hi
  rw [Ak h2] at h1 ⊢
  exact h _ _ h1⟩
theorem AA.lt {w:World} {p:Option Addr} {l:List α} (h:AA L w p l) (h0:0<l.length):(pA p).block<w.heap.size:=by
 have hc:=h.cells 0 h0 0 L.pos
 rw [Ak (by rw [L.len];exact L.pos)] at hc
 rcases By (pA p).block w.heap.size with h' | h'
 · exact h'
 ·
  exfalso
  have hb:((pA p).add (0 * L.m+0)).block=(pA p).block:=E4 _ _
  unfold World.cell? at hc
  rw [hb,Ef h'] at hc
  cases hc
theorem AA.same {w w1:World} {p:Option Addr} {l:List α} (h:AA L w p l) (hb:0<l.length->w1.heap[(pA p).block]?=w.heap[(pA p).block]?):AA L w1 p l :=
 ⟨h.isp,λj hj i hi=>by rw [World.cell?_of_block (w:=w) (by rw [E4];exact hb oO)];exact h.cells j hj i hi⟩
theorem AA.below {w w1:World} {B:Nat} {p:Option Addr} {l:List α} (h:AA L w p l) (hb:Below B w w1) (hp:0<l.length->(pA p).block<B):AA L w1 p l:=h.same λh0=>hb.block _ (hp h0)
abbrev Ea:=@AA.below
theorem AA.upd {w w1:World} {b:Nat} {p:Option Addr} {l:List α} (h:AA L w p l) (hu:CP b w w1) (hp:0<l.length->(pA p).block≠b):AA L w1 p l:=h.same λh0=>hu.other _ (hp h0)
theorem AA.drewN {w:World} {p:Option Addr} {l:List α} (h:AA L w p l) (m:Nat):AA L (w.drewN m) p l:=⟨h.isp,h.cells⟩
theorem AA.drew {w w1:World} {p:Option Addr} {l:List α} (h:AA L w p l) (d:Cn w w1):AA L w1 p l:=by obtain ⟨m,rfl⟩:=d;exact h.drewN m
theorem AA.nil (w:World):AA L w none []:=⟨λh=>by simp at h,λj h=>by simp at h⟩
def F7 (m:Nat) (p:Option Addr) (c a:Nat):Option Addr:=if c=a then p else p.map (·.add (a * m))
theorem AA.part {w:World} {p:Option Addr} {l:List α} {c a b:Nat} (h:AA L w p l) (hab:a<=b) (hb:b<=l.length) (hc:l.length<=c):AA L w (F7 L.m p c a) ((l.drop a).take (b-a)):=by
  have d:((l.drop a).take (b-a)).length=b-a:=by rw [Ap,Aq];omega
  by_cases h0:a=b
  · refine ⟨λh=>?_,λj hj=>?_⟩ <;> rw [d] at * <;> omega
  · have hp := h.isp oO
    have e:F7 L.m p c a=some ((pA p).add (a * L.m)):=by unfold F7;rw [A2 oO];rw [hp];rfl
    rw [e]
    refine ⟨λ_=>rfl,λj hj i hi=>?_⟩
    rw [d] at hj
    show w.cell? (((pA p).add (a * L.m)).add (j * L.m+i))=_
    rw [Jz,show a * L.m+(j * L.m+i)=(a+j) * L.m+i by rw [Nat.add_mul];omega,h.cells (a+j) oO i hi]
    simp
def AO (L:FK α) (e:TypeId) (B:Nat) (w:World) (v:Value) (l:List α):Prop :=
 (v=.slice none 0 0/\l=[])\/∃ g cap cur,v=.slice (some ⟨g,0,none⟩) l.length cap/\B<=g/\w.heap[g]?=some (.cells cur e (0,0))/\l.length<=cap/\cap<=maxLen/\cap * L.m<=cur.size/\cur.toList.take (l.length * L.m)=L.flat l
theorem AO.nil (L:FK α) (e:TypeId) (B:Nat) (w:World):AO L e B w (.slice none 0 0) []:=.inl ⟨rfl,rfl⟩
theorem GV {e:TypeId} {B:Nat} {w:World} {v:Value} {l:List α} (h:w.ownsRow B e L.m v l.length (L.flat l)):AO L e B w v l:=by
 obtain ⟨hl,h⟩:=h
 rcases h with ⟨rfl,a⟩ | ⟨g,cap,cur,b,c,d,f,i,k,j⟩
 · exact .inl ⟨rfl,EF.1 a⟩
 · exact .inr ⟨g,cap,cur,b,c,d,f,i,oO,j⟩
theorem AO.row {e:TypeId} {B:Nat} {w:World} {v:Value} {l:List α} (h:AO L e B w v l):∃ p c,v=.slice p l.length c/\AA L w p l/\(∀ a,p=some a->B<=a.block)/\l.length<=c/\(l=[]->c=0\/p≠none)/\v.ownBlock=p.map (·.block)/\c<=maxLen/\(p=none\/∃ g,p=some ⟨g,0,none⟩):=by
  rcases h with ⟨rfl,rfl⟩ | ⟨g,cap,cur,rfl,hB,hg,f,i,o,b⟩
  · exact ⟨none,0,rfl,AA.nil w,λa h=>(by cases h),DS _,λ_=>.inl rfl,rfl,(by unfold maxLen;omega),.inl rfl⟩
  · refine ⟨_, cap, rfl, HM (fun _ => rfl) fun k v hk => ?_, fun a h => (by cases h; exact hB), f, fun _ => .inr (by simp), rfl, i, .inr ⟨g, rfl⟩⟩
    show w.cell? ((⟨g,0,none⟩:Addr).add k)=_
    rw [GU,D5,Lib.cell_of_heap hg k,<- DT]
    have j:(cur.toList.take (l.length * L.m))[k]?=(L.flat l)[k]?:=by rw [b]
    have d:k<(L.flat l).length:=by
      rcases By k (L.flat l).length with h | h
      · exact h
      · rw [AZ h] at hk;cases hk
    rw [L.flat_len] at d
    rw [List.getElem?_take,A5 d] at j
    rw [j,hk]
theorem AO.same {e:TypeId} {B:Nat} {w w1:World} {v:Value} {l:List α} (h:AO L e B w v l) (hb:∀ g,v.ownBlock=some g->w1.heap[g]?=w.heap[g]?):AO L e B w1 v l:=by
 refine h.imp id λ⟨g,cap,cur,a,b,c,d⟩=>⟨g,cap,cur,a,b,?_,d⟩
 rw [hb g (by rw [a];rfl)];exact c
theorem AO.lt {e:TypeId} {B:Nat} {w:World} {v:Value} {l:List α} (h:AO L e B w v l):∀ g,v.ownBlock=some g->B<=g/\g<w.heap.size:=by
 intro g hg
 rcases h with ⟨rfl,rfl⟩ | ⟨g',cap,cur,rfl,hB,a,b⟩
 · cases hg
 ·
  cases hg
  exact ⟨hB,(B5.1 a).1⟩
theorem AO.base {e:TypeId} {B C:Nat} {w:World} {v:Value} {l:List α} (h:AO L e B w v l) (hC:∀ g,v.ownBlock=some g->C<=g):AO L e C w v l :=
 h.imp id λ⟨g,cap,cur,h1,h2,h3⟩=>⟨g,cap,cur,h1,hC g (by rw [h1];rfl),h3⟩
theorem AO.drew {e:TypeId} {B:Nat} {w w1:World} {v:Value} {l:List α} (h:AO L e B w v l) (d:Cn w w1):AO L e B w1 v l:=by obtain ⟨m,rfl⟩:=d;exact h
theorem AO.below {e:TypeId} {B:Nat} {w w1:World} {v:Value} {l:List α} (h:AO L e B w v l) (hb:AL w w1):AO L e B w1 v l:=h.same λg hg=>hb.block g (h.lt g hg).2
theorem A03 {e:TypeId} {B b:Nat} {w w1:World} {v:Value} {l:List α} (h:AO L e B w v l) (eb:b=w.heap.size) (hu:CP b w w1):AO L e B w1 v l:=h.same λg hg=>hu.other g (by have:=(h.lt g hg).2;omega)
abbrev Ix:=@A03
theorem AO.upd {e:TypeId} {B r:Nat} {w w1:World} {v:Value} {l:List α} (h:AO L e B w v l) (hu:CP r w w1) (hr:∀ g,v.ownBlock=some g->g≠r):AO L e B w1 v l:=h.same λg hg=>hu.other g (hr g hg)
abbrev TP:=@AO.upd
theorem Bn {e:TypeId} {B r:Nat} {w w1:World} {v:Value} {l:List α} (h:AO L e B w v l) (hu:CP r w w1) (hr:r<B):AO L e B w1 v l:=h.same λg hg=>hu.other g (by have:=(h.lt g hg).1;omega)
theorem AO.one {e:TypeId} {B:Nat} {w:World} {v:Value} {l:List α} (h:AO L e B w v l):v.oneCell'=true:=by
 rcases h with ⟨rfl,-⟩ | ⟨g,cap,cur,rfl,-⟩ <;> rfl
end
structure A4N (S:List Nat) (w w1:World):Prop where
 os:w1.os=w.os
 tape:w1.tape=w.tape
 output:w1.output=w.output
 size:w.heap.size<=w1.heap.size
 block:∀ k,k<w.heap.size->k ∉ S->w1.heap[k]?=w.heap[k]?
structure B9 (B:Nat) (S:List Nat) (w w1:World):Prop where
 os:w1.os=w.os
 tape:w1.tape=w.tape
 output:w1.output=w.output
 size:w.heap.size<=w1.heap.size
 block:∀ k,k<B->k ∉ S->w1.heap[k]?=w.heap[k]?
theorem B9.trans {B:Nat} {S:List Nat} {a b c:World} (h:B9 B S a b) (k:B9 B S b c):B9 B S a c :=
 ⟨k.os.trans h.os,k.tape.trans h.tape,k.output.trans h.output,CT h.size k.size,λi hi hr=>(k.block i hi hr).trans (h.block i hi hr)⟩
abbrev E7:=@B9.trans
theorem B9.mono {B B':Nat} {S:List Nat} {a b:World} (h:B9 B' S a b) (hB:B<=B'):B9 B S a b:=⟨h.os,h.tape,h.output,h.size,λi hi hS=>h.block i oO hS⟩
theorem B4.keepB {B c:Nat} {S:List Nat} {w w1:World} {cs:Array Value} {t:TypeId} (h:B4 w c cs t) (hT:B9 B S w w1) (hc:c<B) (hS:c ∉ S):B4 w1 c cs t:=(hT.block c hc hS).trans h
theorem AA.keepB {L:FK α} {B:Nat} {S:List Nat} {w w1:World} {p:Option Addr} {l:List α} (h:AA L w p l) (hT:B9 B S w w1) (hp:0<l.length->(pA p).block<B/\(pA p).block ∉ S):AA L w1 p l:=h.same λh0=>hT.block _ (hp h0).1 (hp h0).2
abbrev O9:=@AA.keepB
theorem Kl {B B':Nat} {S:List Nat} {a b:World} (h:Below B' a b) (hB:B<=B'):B9 B S a b:=⟨h.os,h.tape,h.output,h.size,λi hi _=>h.block i oO⟩
theorem kB {S:List Nat} {a b d:World} (h:B9 a.heap.size S a b) (hb:AL b d):B9 a.heap.size S a d:=B9.trans h (Kl hb h.size)
abbrev kb_:=@Kl
theorem Qs {B:Nat} {S:List Nat} {a b:World} (h:Cn a b):B9 B S a b:=kb_ (h.below (Fl B _)) (DS _)
abbrev RU:=@Qs
theorem MC {B c:Nat} {S:List Nat} {a b:World} (h:CP c a b) (hc:B<=c):B9 B S a b:=⟨h.os,h.tape,h.output,h.size,λi hi _=>h.other i oO⟩
abbrev Ip:=@MC
theorem MD {B c:Nat} {S:List Nat} {a b:World} (h:CP c a b) (hc:c∈S):B9 B S a b:=⟨h.os,h.tape,h.output,h.size,λi _ hS=>h.other i (λe=>hS (e▸hc))⟩
theorem kU {N c:Nat} {S:List Nat} {a b d:World} (h:B9 N S a b) (u:CP c b d) (k:N<=c\/c∈S:=by first | exact .inl (by omega) | exact .inr (by simp)):B9 N S a d:=h.trans (k.elim (MC u) (MD u))
abbrev Qc:=@MD
theorem GB {B:Nat} {S:List Nat} {a b:World} {row:Option Nat} (h:a.grownBy b row) (hr:∀ g,row=some g->g∈S\/B<=g) (hB:B<=a.heap.size):B9 B S a b :=
 ⟨h.os,h.tape,h.output,h.size,λi hi hS=>h.block i oO λe=>by rcases hr i e.symm with h | h <;> first | exact hS h | omega⟩
theorem B9.below {B C:Nat} {S:List Nat} {w w1:World} (h:B9 B S w w1) (hB:C<=B) (hS:∀ k∈S,C<=k):Below C w w1 :=
 ⟨h.os,h.tape,h.output,h.size,λk hk=>h.block k oO λhm=>by have:=hS k hm;omega⟩
theorem B9.refl (B:Nat) (S:List Nat) (w:World):B9 B S w w:=⟨rfl,rfl,rfl,DS _,λ_ _ _=>rfl⟩
section
variable {P:Program} {n:Sh} {f:Fr} {L:FK α}
theorem ZT {ops:Array Oper} {Q:Exit->Fr->World->Prop} {w:World} {rest:List Oper} {d ty:Nat} {pos:String} {aft:Array Edge} {s x:Operand} {t e:TypeId} {B:Nat} {z v:Value} {xs l:List α} {p:Option Addr} {c by':Nat}
  (ht:P.underlying t=some (.slice e)) (hi:(P.info? e).map (λi=>(i.zero,i.size,i.bytes))=some (some z,L.m,by')) (hby2:Nat.ble by' 1000=true) (hzs:z.cells.size=L.m)
  (hs:CE f s=some v) (hown:AO L e B w v xs) (hx:CE f x=some (.slice p l.length c)) (hb:AA L w p l)
  (hn:xs.length+l.length<=4611686018427387904) (hbt:(xs.length+l.length) * by'<=140737488355328) (hB:B<=w.heap.size) (hd:Nat.blt d n.n=true) (hc:l=[]->c=0\/p≠none)
  (k:∀ v' w',AO L e B w' v' (xs++l)->Below B w w'->w.grownBy w' v.ownBlock->(∀ g,v'.ownBlock=some g->v.ownBlock=some g\/w.heap.size<=g)->WL P n ops Q rest ((d,v')::f) w') :
  WL P n ops Q (⟨some d,.call ⟨.builtin .append,#[s,x],#[t,t]⟩,ty,pos,aft,none⟩::rest) f w:=by
 cases hh:P.info? e with
 | none=>rw [hh] at hi;cases hi
 | some i =>
  rw [hh] at hi;simp only [Option.map_some,BK,Co] at hi;obtain ⟨hz,b,E⟩:=hi;have a1:by'<=1000:=by simpa using hby2
  have A:=L.flat_len xs;have o:=L.flat_len l;have M:(xs++l).length=xs.length+l.length:=by simp
  have fin:∀ (w':World) (g cap:Nat) (cur:Array Value),B<=g->w'.heap[g]?=some (.cells cur e (0,0))->xs.length+l.length<=cap->cap<=maxLen->cap * L.m<=cur.size->cur.toList.take ((xs.length+l.length) * L.m)=L.flat xs++L.flat l ->
    AO L e B w' (.slice (some ⟨g,0,none⟩) (xs.length+l.length) cap) (xs++l):=λw' g cap cur h1 C F D N h6 =>
   .inr ⟨g,cap,cur,by rw [M],h1,C,by rw [M];exact F,D,N,by rw [M,h6,L.flat_append]⟩
  have run:∀ (v':Value) (w':World),(Builtin.append_ #[t,t] ty #[v,.slice p l.length c]).run P w=.ok v' w'->AO L e B w' v' (xs++l)->w.grownBy w' v.ownBlock->(∀ g,v'.ownBlock=some g->v.ownBlock=some g\/w.heap.size<=g) ->
    WL P n ops Q (⟨some d,.call ⟨.builtin .append,#[s,x],#[t,t]⟩,ty,pos,aft,none⟩::rest) f w:=λv' w' C F D N=>by
   refine WL.run hd (w':=w') (v:=v') (λρ hρ=>?_) (k v' w' F ((Fl _ _).grown D hB λk hk=>(hown.lt k hk).1) D N);unfold execOp;simp only [resolve,invoke,builtin,Cd,D4,BW,List.map_toArray,Ev,Fz,hρ _ _ hs,hρ _ _ hx,C]
  cases hp:p with
  | none =>
   have hl:l=[]:=by
    cases l with
    | nil=>rfl
    | cons a r=>have:=hb.isp (by simp);rw [hp] at this;cases this
   have T:c=0:=(hc hl).resolve_right (λh=>h hp);subst hp;subst hl;subst T;refine run v w ?_ (by rw [Fu];exact hown) ⟨rfl,rfl,rfl,DS _,λ_ _ _=>rfl⟩ λg hg=>.inl hg
   rcases hown with ⟨rfl,rfl⟩ | ⟨g,cap,cur,rfl,-,-,J,-⟩
   · simp [Builtin.append_,Bp ht,sizeOf,typeInfo,hh,Builtin.lenOf,Builtin.firstCells]
   · simp [Builtin.append_,Bp ht,sizeOf,typeInfo,hh,Builtin.lenOf,Builtin.firstCells,J,storeCells]
  | some a =>
   subst hp;have q:(xs.length+l.length) * i.bytes<=140737488355328:=by rw [E];exact hbt
   rcases hown with ⟨rfl,rfl⟩ | ⟨g,cap,cur,rfl,U,hg,J,V,X,K⟩
   ·
    obtain ⟨v',w',C,F,D,-⟩:=run_append_own (P:=P) (w:=w) w.heap.size t ty e i z L.m by' ht hh hz b E hzs L.pos (.slice none 0 0) 0 [] (World.ownsRow_nil w w.heap.size e L.m) a l.length c (L.flat l) o
     (λj y hj=>hb.flat j y hj) (L.flat_one l) (by unfold maxLen;omega) (by simp only [Am] at q;rw [E] at q;exact q) (DS _)
    have G:AO L e w.heap.size w' v' ([]++l):=GV (by rw [BT];simpa using F);exact run v' w' C (G.base λg hg=>CT hB (G.lt g hg).1) D λg hg=>.inr (G.lt g hg).1
   ·
    by_cases hroom:xs.length+l.length<=cap
    ·
     have O:xs.length * i.size+(L.flat l).length<=cur.size:=by
      rw [b,o,<- Nat.add_mul];exact CT (Cz _ hroom) X
     have C:=run_append_room (P:=P) w t ty e i ht hh g xs.length cap cur hg a l.length c (L.flat l) (by rw [b];exact o) (λj y hj=>hb.flat j y hj) (L.flat_one l) hroom O;refine run _ _ C (fin _ g cap _ U (setRow_heap w g cur _ e _ hg) hroom V ?_ ?_) ⟨rfl,rfl,rfl,by simp,λk _ hk=>setRow_other w g k _ (λe=>hk (by simp [Value.ownBlock,e]))⟩ λg hg=>.inl hg
     ·
      simp only [List.size_toArray,A9,Ap,Aq,Array.length_toList]
      omega
     ·
      show (cur.toList.take (xs.length * i.size)++L.flat l++_).take _=_
      rw [b,K,List.take_append_of_le_length (by rw [A9,A,o,Nat.add_mul];omega),Al (by rw [A9,A,o,Nat.add_mul];omega)]
    ·
     have H:∀ j u,(L.flat xs)[j]?=some u->w.cell? ((⟨g,0,none⟩:Addr).add j)=some u:=λj u hj=>by
      have Y:j<(L.flat xs).length:=by
       rcases By j (L.flat xs).length with h | h
       · exact h
       · rw [AZ h] at hj;cases hj
      rw [GU,D5,Lib.cell_of_heap hg j,<- DT];have C:(cur.toList.take (xs.length * L.m))[j]?=(L.flat xs)[j]?:=by rw [K]
      rw [List.getElem?_take,A5 (by rw [<- A];exact Y)] at C;rw [C,hj]
     have Z:=run_append_grow (P:=P) w t ty e i z ht hh hz ⟨g,0,none⟩ xs.length cap (L.flat xs) (by rw [b];exact A) H a l.length c (L.flat l) (by rw [b];exact o) (λj y hj=>hb.flat j y hj) oO oO (growslice_fits oO q);have a0:=grownCap_ge w (xs.length+l.length) cap e;have R:grownCap w (xs.length+l.length) cap e<=maxLen:=grownCap_le_maxLen w (xs.length+l.length) cap e (by unfold maxLen;omega);refine run _ _ Z (fin _ w.heap.size _ _ hB (heap_alloc_new w.drew _) a0 R ?_ ?_) ⟨rfl,rfl,rfl,by simp,λk hk _=>(CP.alloc w.drew _).other k (by show k≠w.heap.size;omega)⟩ λg hg=>.inr (by simp only [Value.ownBlock,BK] at hg;omega)
     · simp only [Array.size_append,List.size_toArray,size_zeroCells,hzs,A,o,<- Nat.add_mul];exact Nat.le_of_eq (BH (· * L.m) oO)
     · simp only [Array.toList_append,AS];rw [<- AS,List.take_append_of_le_length (by rw [A9,A,o,Nat.add_mul];omega),Al (by rw [A9,A,o,Nat.add_mul];omega)]
theorem Cb {ops:Array Oper} {Q:Exit->Fr->World->Prop} {w:World} {rest:List Oper} {d ty:Nat} {pos:String} {aft:Array Edge} {s x:Operand} {t e:TypeId} {B:Nat} {z v:Value} {xs l:List α} {p:Option Addr} {c by':Nat}
  (ht:P.underlying t=some (.slice e)) (hi:(P.info? e).map (λi=>(i.zero,i.size,i.bytes))=some (some z,L.m,by')) (hby2:Nat.ble by' 1000=true) (hzs:z.cells.size=L.m)
  (hs:CE f s=some v) (hown:AO L e B w v xs) (hx:CE f x=some (.slice p l.length c)) (hb:AA L w p l)
  (hn:xs.length+l.length<=10000000) (hB:B<=w.heap.size) (hd:Nat.blt d n.n=true) (hc:l=[]->c=0\/p≠none)
  (k:∀ v' w',AO L e B w' v' (xs++l)->Below B w w'->w.grownBy w' v.ownBlock->(∀ g,v'.ownBlock=some g->v.ownBlock=some g\/w.heap.size<=g)->WL P n ops Q rest ((d,v')::f) w') :
  WL P n ops Q (⟨some d,.call ⟨.builtin .append,#[s,x],#[t,t]⟩,ty,pos,aft,none⟩::rest) f w:=by
 refine ZT ht hi hby2 hzs hs hown hx hb oO ?_ hB hd hc k
 have a:by'<=1000:=by simpa using hby2
 have:(xs.length+l.length) * by'<=(xs.length+l.length) * 1000:=Nat.mul_le_mul_left _ a
 omega
theorem DG {t:TypeId} {x:Operand} {p:Option Addr} {l:List α} {w:World} {dd:TypeDesc} (hu:P.underlying t=some dd) (hdd:dd.isRow=true) (hi:(P.info? t).map (·.size)=some L.m) (hb:AA L w p l) (k:Nat) (hk:k<l.length)
  (hx:CE f x=some (.pointer (some ((pA p).add (k * L.m))))):Rd P (.load t x) f w (.agg (L.V l[k]).toArray):=λρ hρ d ty pos aft g=>by
 have hl:(loadCells ((pA p).add (k * L.m)) (L.V l[k]).length).run P w=.ok (L.V l[k]).toArray w :=
  run_loadCells_list (P:=P) w ((pA p).add (k * L.m)) (L.V l[k]) (λj v hv=>by
   have hj:j<L.m:=by
    rcases By j L.m with h | h
    · exact h
    · rw [AZ (by rw [L.len];exact h)] at hv;cases hv
   rw [Jz,hb.cells k hk j hj,hv])
 cases hq:P.info? t with
 | none=>simp [hq] at hi
 | some i =>
  have hs:i.size=(L.V l[k]).length:=by rw [L.len];simpa [hq] using hi
  have a:(isAgg t).run P w=.ok true w:=by
   unfold isAgg
   rw [Cd,Bp hu w]
   cases dd <;> simp_all
  unfold execOp
  simp [hρ _ _ hx,Instr.loadAt,Instr.sureAddr,loadVar,Cd,a,sizeOf,typeInfo,hq,hs,hl]
theorem Qa (L:FK α) (l:List α) (k:Nat) (hk:k<l.length) (x:α):(L.flat l).take (k * L.m)++L.V x++(L.flat l).drop (k * L.m+L.m)=L.flat (l.set k x):=by
 rw [L.flat_take,show k * L.m+L.m=(k+1) * L.m by rw [Nat.succ_mul],L.flat_drop,List.set_eq_take_append_cons_drop,A5 hk]
 simp [FK.flat]
end
end
section
open Go.RowKit Go.WideShapes Go.ChangeShapes
theorem EO {a b:Value} (h:a=b):Ending.returned a=.returned b:=by rw [h]
theorem rbE {a b:Bool} (h:a=b):Ending.returned (.bool a)=.returned (.bool b):=by rw [h]
theorem Ed {P:Program} {fn:Func} {R:Ending->World->Prop} {f:Fr} {w:World} {t u:Tmp} {ty:TypeId} {b:Addr} {v x:Value} (hr:fn.results=#[.cell t ty,.tmp u])
  (ht:look f t=some (.pointer (some b))) (hv:(loadVar ty b).run P w=.ok v w) (hx:look f u=some x) (h:R (.returned (.tuple #[v,x])) w):HR P fn R .ret f w:=by
 unfold HR
 exact ⟨_,λtmps hh=>by
  have a:=hh _ _ ht;have c:=hh _ _ hx
  simp only [AD] at a c
  simp [results,hr,a,c,asAddr,hv],h⟩
section
variable {P:Program} {n:Sh} {f:Fr}
theorem Bz.eqSN {x:Operand} {tx ty e:TypeId} {p:Option Addr} {m c:Nat} (hu:P.underlying tx=some (.slice e)) (hx:CE f x=some (.slice p m c)):Bz P (.binOp .eql tx x (.const (.slice none 0 0)) ty) f (.bool p.isNone):=λρ hρ d ty' pos aft g w=>by
 have h4:ρ (.const (.slice none 0 0))=.slice none 0 0:=hρ _ _ rfl
 simp [execOp,hρ _ _ hx,h4,eqGuard,Lib.run_eql_slice_nil w tx e p m c 0 0 hu]
theorem Xx {tx e:TypeId} {x y:Operand} {p:Option Addr} {l c sz:Nat} {i:Int} (hu:P.underlying tx=some (.slice e)) (hs:∀ w,(sizeOf e).run P w=.ok sz w) (hx:CE f x=some (.slice p l c))
  (hi:CE f y=some (Ag i)) (a:Nat) (ei:i=a) (ham:a<=l):Bz P (.slice tx x (some y) none none) f (.slice (F7 sz p c a) (l-a) (c-a)):=λρ hρ d ty pos aft g w=>by
 subst ei
 simp [execOp,Instr.sliceAt,Instr.slice,Instr.sliceBounds,run_sliceBound,hρ _ _ hx,hρ _ _ hi,Bp hu,hs,ham,F7]
theorem Bz.slmT {tx e:TypeId} {x z:Operand} {p:Option Addr} {l c sz:Nat} {j:Int} (hu:P.underlying tx=some (.slice e)) (hs:∀ w,(sizeOf e).run P w=.ok sz w) (hx:CE f x=some (.slice p l c))
  (hj:CE f z=some (Ag j)) (b:Nat) (ej:j=b) (hbc:b<=c):Bz P (.slice tx x none (some z) none) f (.slice (F7 sz p c 0) b c):=λρ hρ d ty pos aft g w=>by
 subst ej
 simp [execOp,Instr.sliceAt,Instr.slice,Instr.sliceBounds,run_sliceBound,hρ _ _ hx,hρ _ _ hj,Bp hu,hs,hbc,F7]
theorem AA.partF {α:Type} {L:FK α} {w:World} {p:Option Addr} {l:List α} {c a:Nat} (h:AA L w p l) (ha:a<=l.length) (hc:l.length<=c):AA L w (F7 L.m p c a) (l.drop a):=by
 have:=h.part (c:=c) (a:=a) (b:=l.length) ha (DS _) hc
 rw [Al (by rw [Aq];exact DS _)] at this
 exact this
theorem AA.partT {α:Type} {L:FK α} {w:World} {p:Option Addr} {l:List α} {c:Nat} (h:AA L w p l) (b:Nat) (hb:b<=l.length) (hc:l.length<=c):AA L w (F7 L.m p c 0) (l.take b):=by
 have:=h.part (c:=c) (a:=0) (b:=b) (FN _) hb hc
 rw [Lh,Nat.sub_zero] at this
 exact this
theorem Bz.ixm {tx e:TypeId} {x y:Operand} {p:Option Addr} {l c sz:Nat} {i:Int} {k:IntKind} (hu:P.underlying tx=some (.slice e)) (hs:∀ w,(sizeOf e).run P w=.ok sz w) (hx:CE f x=some (.slice p l c))
  (hi:CE f y=some (.int k i)) (hp:p=some (pA p)) (j:Nat) (e':i=j) (hj:j<l):Bz P (.indexAddr tx x y) f (.pointer (some ((pA p).add (j * sz)))) :=
 TK hu hs (by rw [hx];rw [<- hp]) hi j e' hj
theorem AA.field {α:Type} {L:FK α} {w:World} {p:Option Addr} {l:List α} (h:AA L w p l) (k:Nat) (hk:k<l.length) (i:Nat) (hi:i<L.m):w.cell? (((pA p).add (k * L.m)).add i)=(L.V l[k])[i]?:=by
 rw [Jz];exact h.cells k hk i hi
theorem HD (w:World) (d:Nat) (t e:TypeId) (a:Option Addr) (h:P.underlying t=some (.pointer e)) :
  (Op.equalIn (d+1) t (.pointer a) (.pointer none)).run P w=.ok a.isNone w:=by
 cases a <;> simp [Op.equalIn,Bp h]
theorem Bz.eqP {x:Operand} {tx ty e:TypeId} {a:Option Addr} (hu:P.underlying tx=some (.pointer e)) (hx:CE f x=some (.pointer a)):Bz P (.binOp .eql tx x (.const (.pointer none)) ty) f (.bool a.isNone):=λρ hρ d ty' pos aft g w=>by
 have h4:ρ (.const (.pointer none))=.pointer none:=hρ _ _ rfl
 have h5:(binOp .eql tx (.pointer a) (.pointer none)).run P w=.ok (.bool a.isNone) w:=by
  simp only [binOp]
  simp [Op.equal,Op.maxDepth,HD w 9999 tx e a hu]
 simp [execOp,hρ _ _ hx,h4,eqGuard,h5]
theorem Bz.neP {x:Operand} {tx ty e:TypeId} {a:Option Addr} (hu:P.underlying tx=some (.pointer e)) (hx:CE f x=some (.pointer a)):Bz P (.binOp .neq tx x (.const (.pointer none)) ty) f (.bool (!a.isNone)):=λρ hρ d ty' pos aft g w=>by
 have h4:ρ (.const (.pointer none))=.pointer none:=hρ _ _ rfl
 have h5:(binOp .neq tx (.pointer a) (.pointer none)).run P w=.ok (.bool (!a.isNone)) w:=by
  simp only [binOp]
  simp [Op.equal,Op.maxDepth,HD w 9999 tx e a hu]
 simp [execOp,hρ _ _ hx,h4,eqGuard,h5]
end
end
section
open Go.RowKit Go.WideShapes Go.ChangeShapes
section
variable {P:Program} {n:Sh} {f:Fr}
theorem Wv {F:FuncId} (hb:Dc P F) {ρ:Operand->Value} (hρ:Agr f ρ) {x:Operand} {first cap args:Array Value} (hf:CE f x=some (.func (.func F) first cap)) {xs:List Operand} {vs:List Value} (hx:Qh f xs=some vs) (ha:first++vs.toArray++cap=args)
  {ats:Array TypeId} (d:Option Tmp) (ty:TypeId) (pos:String) (aft:Array Edge) (g:Option (Nat × Bool)) (w:World) :
  (execOp ρ ⟨d,.call ⟨.value x,xs.toArray,ats⟩,ty,pos,aft,g⟩).run P w=.ok (.enter F args) w:=by
 obtain ⟨fn,c,h,i⟩:=hb
 have e:=Jr hρ _ _ hx
 have b:ρ x=.func (.func F) first cap:=hρ _ _ hf
 have a:xs.toArray.map ρ=vs.toArray:=by simp [e]
 subst ha
 unfold execOp
 simp only [resolve,a,b]
 simp [Deferred.ofValue,invoke,callFunc,run_program,c,h,i]
theorem ZR {ops:Array Oper} {Q:Exit->Fr->World->Prop} {w:World} {rest:List Oper} {d ty:Nat} {pos:String} {aft:Array Edge} {F:FuncId} {x:Operand} {first cap args:Array Value} {xs:List Operand} {ats:Array TypeId} {vs:List Value} {α:Sort _}
  {V:α->Value} {S:α->World->Prop} (hb:Dc P F) (hf:CE f x=some (.func (.func F) first cap)) (hx:Qh f xs=some vs) (ha:first++vs.toArray++cap=args) (hd:Nat.blt d n.n=true)
  (hc:Calls P F args w λe w'=>∃ t,e=.returned (V t)/\S t w') (k:∀ t w',S t w'->WL P n ops Q rest ((d,V t)::f) w') :
  WL P n ops Q (⟨some d,.call ⟨.value x,xs.toArray,ats⟩,ty,pos,aft,none⟩::rest) f w:=by
 unfold WL at *
 intro a ha'
 refine wpList_plain rfl λK hK=>?_
 unfold Oper.wp
 rw [Wv hb ha'.agr hf hx ha,Oper.upon_enter]
 refine hc.mono ?_
 rintro e w' ⟨t,rfl,hS⟩
 exact hK _ _ (k t w' hS _ (ha'.put hd _))
theorem ZQ {ops:Array Oper} {Q:Exit->Fr->World->Prop} {w:World} {rest:List Oper} {d ty:Nat} {pos:String} {aft:Array Edge} {F:FuncId} {x:Operand} {first cap args:Array Value} {xs:List Operand} {ats:Array TypeId} {vs:List Value}
  {V:Value} {S:World->Prop} (hb:Dc P F) (hf:CE f x=some (.func (.func F) first cap)) (hx:Qh f xs=some vs) (ha:first++vs.toArray++cap=args) (hd:Nat.blt d n.n=true)
  (hc:Calls P F args w λe w'=>e=.returned V/\S w') (k:∀ w',S w'->WL P n ops Q rest ((d,V)::f) w') :
  WL P n ops Q (⟨some d,.call ⟨.value x,xs.toArray,ats⟩,ty,pos,aft,none⟩::rest) f w :=
 ZR (α:=Unit) (V:=λ_=>V) (S:=λ_=>S) hb hf hx ha hd (hc.mono λ_ _ h=>⟨(),h⟩) (λ_=>k)
end
end
section
open Go.RowKit Go.WideShapes Go.ChangeShapes
section
variable {P:Program} {n:Sh} {f:Fr}
theorem A01 {tx e:TypeId} {x y:Operand} {p:Addr} {m sz:Nat} {i:Int} {k:IntKind} (hu:P.underlying tx=some (.array m e)) (hs:∀ w,(sizeOf e).run P w=.ok sz w) (hx:CE f x=some (.pointer (some p)))
  (hi:CE f y=some (.int k i)) (j:Nat) (e':i=j) (hj:j<m):Bz P (.indexAddr tx x y) f (.pointer (some (p.add (j * sz)))):=λρ hρ d ty pos aft g w=>by
 subst e'
 simp [execOp,Instr.indexAt,Instr.sureAddr,hρ _ _ hx,hρ _ _ hi,asIntOf,Bp hu,hs,hj]
theorem Bz.ixr1 {tx e:TypeId} {x y:Operand} {p:Addr} {m:Nat} {i:Int} {k:IntKind} (hu:P.underlying tx=some (.array m e)) (hs:∀ w,(sizeOf e).run P w=.ok 1 w) (hx:CE f x=some (.pointer (some p)))
  (hi:CE f y=some (.int k i)) (j:Nat) (e':i=j) (hj:j<m):Bz P (.indexAddr tx x y) f (.pointer (some (p.add j))):=by
 have h:=A01 (P:=P) (f:=f) hu hs hx hi j e' hj
 rwa [Nat.mul_one] at h
theorem Bz.ixv {tx e:TypeId} {x y:Operand} {cs:Array Value} {m:Nat} {i:Int} {k:IntKind} {v:Value} (hu:P.underlying tx=some (.array m e)) (ha:∀ w,(isAgg e).run P w=.ok false w) (hs:∀ w,(sizeOf e).run P w=.ok 1 w) (hx:CE f x=some (.agg cs))
  (hi:CE f y=some (.int k i)) (j:Nat) (e':i=j) (hj:j<m) (hv:cs[j]?=some v):Bz P (.index tx x y) f v:=λρ hρ d ty pos aft g w=>by
 subst e'
 simp [execOp,Instr.index,hρ _ _ hx,hρ _ _ hi,asIntOf,Bp hu,hs,hj,part,ha,hv]
theorem Vj {α:Type} {L:FK α} {t tb:TypeId} {x:Operand} {b o:Nat} {cs:Array Value} {w:World} {dd:TypeDesc} (hu:P.underlying t=some dd) (hdd:dd.isRow=true) (hi:(P.info? t).map (·.size)=some L.m) (hb:B4 w b cs tb) (y:α)
  (e:(cs.toList.drop o).take L.m=L.V y) (hx:CE f x=some (.pointer (some ⟨b,o,none⟩))):Rd P (.load t x) f w (.agg (L.V y).toArray):=by
 have hr:AA L w (some ⟨b,o,none⟩) [y]:=by
  refine HM (λ_=>rfl) λk v hk=>?_
  show w.cell? ((⟨b,o,none⟩:Addr).add k)=_
  have hk':(L.V y)[k]?=some v:=by simpa [FK.flat] using hk
  have a:k<L.m:=by
   rcases By k L.m with h | h
   · exact h
   · rw [AZ (by rw [L.len];exact h)] at hk';cases hk'
  rw [GU,hb.cell,<- hk',<- e,List.getElem?_take_of_lt a,List.getElem?_drop]
  simp
 have h:=DG (P:=P) (f:=f) (x:=x) hu hdd hi hr 0 (by simp) (by
  rw [hx];show _=some (Value.pointer (some ((⟨b,o,none⟩:Addr).add (0 * L.m))));rw [GU,Nat.zero_mul,Nat.add_zero])
 exact h
theorem A30 {α β:Type} {L:FK α} {L':FK β} {t:TypeId} {x:Operand} {p:Option Addr} {l:List α} {w:World} {dd:TypeDesc} (hu:P.underlying t=some dd) (hdd:dd.isRow=true) (hi:(P.info? t).map (·.size)=some L'.m) (hb:AA L w p l) (k:Nat) (hk:k<l.length) (o:Nat) (y:β)
  (e:((L.V l[k]).drop o).take L'.m=L'.V y) (hx:CE f x=some (.pointer (some (((pA p).add (k * L.m)).add o)))):Rd P (.load t x) f w (.agg (L'.V y).toArray):=by
 have hr:AA L' w (some (((pA p).add (k * L.m)).add o)) [y]:=by
  refine HM (λ_=>rfl) λj v hj=>?_
  show w.cell? ((((pA p).add (k * L.m)).add o).add j)=_
  have hj':(L'.V y)[j]?=some v:=by simpa [FK.flat] using hj
  have a:j<L'.m:=by
   rcases By j L'.m with h | h
   · exact h
   · rw [AZ (by rw [L'.len];exact h)] at hj';cases hj'
  have b:o+j<L.m:=by
   rcases By (o+j) L.m with h | h
   · exact h
   · rw [<- e,List.getElem?_take_of_lt a,List.getElem?_drop,AZ (by rw [L.len];exact h)] at hj';cases hj'
  rw [Jz,hb.field k hk (o+j) b,<- hj',<- e,List.getElem?_take_of_lt a,List.getElem?_drop]
 have h:=DG (P:=P) (f:=f) (x:=x) hu hdd hi hr 0 (by simp) (by
  rw [hx];show _=some (Value.pointer (some ((((pA p).add (k * L.m)).add o).add (0 * L'.m))));rw [Nat.zero_mul,Jz,Jz,Nat.add_zero])
 exact h
end
end
section
open Go.RowKit Go.WideShapes Go.ChangeShapes
structure Raw (w:World) (b c:Nat) (e:TypeId) (l:l8_):Prop where
 cur:∃ cur:Array Value,w.heap[b]?=some (.cells cur e (cur.size,cur.size+1))/\cur.size=c/\cur.toList.take l.length=AN l
 le:l.length<=c
theorem CF.cat {e:TypeId} {B:Nat} {w:World} {v:Value} {l m:l8_} (h:CF e B w v (AN l++AN m)):CF e B w v (AN (l++m)):=by
 rw [show AN (l++m)=AN l++AN m by simp [AN]];exact h
end
section
open Go.RowKit Go.WideShapes Go.ChangeShapes
section
variable {P:Program} {n:Sh} {f:Fr}
theorem Bz.slS {tx:TypeId} {x y z:Operand} {l:l8_} {kd ke:IntKind} {i j:Int} (hu:P.underlying tx=some .string) (hx:CE f x=some (.string (bs l))) (hi:CE f y=some (.int kd i)) (hj:CE f z=some (.int ke j)) (a b:Nat) (ei:i=a) (ej:j=b) (hab:a<=b) (hb:b<=l.length) :
  Bz P (.slice tx x (some y) (some z) none) f (.string (bs ((l.drop a).take (b-a)))):=λρ hρ d ty pos aft g w=>by
 subst ei;subst ej
 have h3:¬ (b<a):=by omega
 simp [execOp,Instr.sliceAt,Instr.slice,Instr.sliceBounds,Instr.sliceBound,hρ _ _ hx,hρ _ _ hi,hρ _ _ hj,asIntOf,Bp hu,hab,hb,h3,Tr,BM]
theorem A1x {ops:Array Oper} {Q:Exit->Fr->World->Prop} {w:World} {rest:List Oper} {d ty:Nat} {pos:String} {aft:Array Edge} {s x:Operand} {t u e:TypeId} {B:Nat} {v:Value} {xs:List Value} {l:l8_}
    (ht:P.underlying t=some (.slice e)) (hu:P.underlying u=some .string) (hi:(P.info? e).map (λi=>(i.zero,i.size,i.bytes))=some (some (.int .u8 0),1,1))
    (hs:CE f s=some v) (hown:CF e B w v xs) (hx:CE f x=some (.string (bs l)))
    (hn:xs.length+l.length<=1000000000) (hB:B<=w.heap.size) (hd:Nat.blt d n.n=true)
    (k:∀ v' w',CF e B w' v' (xs++AN l)->Below B w w'->w.grownBy w' v.ownBlock->WL P n ops Q rest ((d,v')::f) w') :
    WL P n ops Q (⟨some d,.call ⟨.builtin .append,#[s,x],#[t,u]⟩,ty,pos,aft,none⟩::rest) f w:=by
  cases hh:P.info? e with
  | none=>rw [hh] at hi;cases hi
  | some i =>
    rw [hh] at hi;simp only [Option.map_some,BK,Co] at hi;obtain ⟨hz,c,g⟩:=hi;have a:(bs l).size=l.length:=BM l;have b:Lib.strCells (bs l)=AN l:=by simp [Lib.strCells,AN,bs]
    obtain ⟨v',w',m,h,j,-⟩:=Lib.run_append_own_string (P:=P) w B t u ty e i ht hu hh hz c g v xs.length xs hown (bs l) (by rw [a];unfold maxLen;omega) (by rw [a];omega) hB;rw [a,b] at h;refine WL.run hd (w':=w') (v:=v') (λρ hρ=>?_) (k v' w' ?_ ((Fl _ _).grown j hB λk hk=>(hown.lt k hk).1) j)
    · unfold execOp
      simp only [resolve,invoke,builtin,Cd,D4,BW,List.map_toArray,Ev,Fz,hρ _ _ hs,hρ _ _ hx,m]
    · have o : (xs ++ AN l).length = xs.length + l.length := by simp [AN]
      unfold CF;rw [o];exact h
end
end
section
open Go.ChangeShapes Go.WideShapes Go.ChangeAt Go.RowKit
structure Xw {α:Type} (p:Option Addr) (l:List α) (c:Nat):Prop where
 le:l.length<=c
 cap:c<=maxLen
 nil:l=[]->c=0\/p≠none
 none:p=none->l=[]/\c=0
abbrev Qd (k:Int):Value:=Ag k
end
section
open Go.ChangeShapes Go.WideShapes Go.ChangeAt Go.RowKit
structure JD where
 fX:Int
 fY:Int
def UD (x:JD):List Value:=[Ag x.fX,Ag x.fY]
structure Sf (w:World) (x:JD):Prop where
 wf_fX:(Lit.int .i64 x.fX).wf=true
 wf_fY:(Lit.int .i64 x.fY).wf=true
structure Vi where
 fKind:Int
 fP_0:JD
 fP_1:JD
 fP_2:JD
def A2f (x:Vi):List Value:=[Ag x.fKind]++UD x.fP_0++UD x.fP_1++UD x.fP_2
def Ua:FK Vi:=⟨7,A2f,dD,λ_=>rfl,λx u hu=>AP.1 (show (A2f x).all Value.oneCell'=true from rfl) u hu⟩
structure A22 (w:World) (x:Vi):Prop where
 wf_fKind:(Lit.int .i64 x.fKind).wf=true
 ok_fP_0:Sf w x.fP_0
 ok_fP_1:Sf w x.fP_1
 ok_fP_2:Sf w x.fP_2
structure Km where
 fSpace:Int
 fPart_0:Int
 fPart_1:Int
 fPart_2:Int
 fPart_3:Int
def Hw (x:Km):List Value:=[Ag x.fSpace,Ag x.fPart_0,Ag x.fPart_1,Ag x.fPart_2,Ag x.fPart_3]
def Zu:FK Km:=⟨5,Hw,dD,λ_=>rfl,λx u hu=>AP.1 (show (Hw x).all Value.oneCell'=true from rfl) u hu⟩
structure A1B (w:World) (x:Km):Prop where
 wf_fSpace:(Lit.int .i64 x.fSpace).wf=true
 wf_fPart_0:(Lit.int .i64 x.fPart_0).wf=true
 wf_fPart_1:(Lit.int .i64 x.fPart_1).wf=true
 wf_fPart_2:(Lit.int .i64 x.fPart_2).wf=true
 wf_fPart_3:(Lit.int .i64 x.fPart_3).wf=true
structure Wf where
 pfPath:Option Addr
 fPath:List Vi
 cfPath:Nat
 fEvenOdd:Bool
def A1Y (x:Wf):List Value:=[.slice x.pfPath x.fPath.length x.cfPath,.bool x.fEvenOdd]
def A3u:FK Wf:=⟨2,A1Y,dD,λ_=>rfl,λx u hu=>AP.1 (show (A1Y x).all Value.oneCell'=true from rfl) u hu⟩
structure A34 (w:World) (x:Wf):Prop where
 row_fPath:AA Ua w x.pfPath x.fPath
 sl_fPath:Xw x.pfPath x.fPath x.cfPath
 all_fPath:∀ y∈x.fPath,A22 w y
structure A02 where
 fWidth:Int
 fCap:Int
 fJoin:Int
 fMiter:Int
 pfDash:Option Addr
 fDash:List Int
 cfDash:Nat
 fPhase:Int
def WX (x:A02):List Value:=[Ag x.fWidth,Ag x.fCap,Ag x.fJoin,Ag x.fMiter,.slice x.pfDash x.fDash.length x.cfDash,Ag x.fPhase]
structure A3O (w:World) (x:A02):Prop where
 wf_fWidth:(Lit.int .i64 x.fWidth).wf=true
 wf_fCap:(Lit.int .i64 x.fCap).wf=true
 wf_fJoin:(Lit.int .i64 x.fJoin).wf=true
 wf_fMiter:(Lit.int .i64 x.fMiter).wf=true
 row_fDash:AM Qd w x.pfDash x.fDash
 sl_fDash:Xw x.pfDash x.fDash x.cfDash
 wfs_fDash:∀ y∈x.fDash,(Lit.int .i64 y).wf=true
 wf_fPhase:(Lit.int .i64 x.fPhase).wf=true
structure We where
 fKind:Int
 pfPath:Option Addr
 fPath:List Vi
 cfPath:Nat
 fColor:Km
 pfClips:Option Addr
 fClips:List Wf
 cfClips:Nat
 fPen:A02
 fFont:Int
 fMatrix_0:Int
 fMatrix_1:Int
 fMatrix_2:Int
 fMatrix_3:Int
 fMatrix_4:Int
 fMatrix_5:Int
 pfBytes:Option Addr
 fBytes:l8_
 cfBytes:Nat
def A1Q (x:We):List Value:=[Ag x.fKind,.slice x.pfPath x.fPath.length x.cfPath]++Hw x.fColor++[.slice x.pfClips x.fClips.length x.cfClips]++WX x.fPen++[Ag x.fFont,Ag x.fMatrix_0,Ag x.fMatrix_1,Ag x.fMatrix_2,Ag x.fMatrix_3,Ag x.fMatrix_4,Ag x.fMatrix_5,.slice x.pfBytes x.fBytes.length x.cfBytes]
def A3n:FK We:=⟨22,A1Q,dD,λ_=>rfl,λx u hu=>AP.1 (show (A1Q x).all Value.oneCell'=true from rfl) u hu⟩
structure A33 (w:World) (x:We):Prop where
 wf_fKind:(Lit.int .i64 x.fKind).wf=true
 row_fPath:AA Ua w x.pfPath x.fPath
 sl_fPath:Xw x.pfPath x.fPath x.cfPath
 all_fPath:∀ y∈x.fPath,A22 w y
 ok_fColor:A1B w x.fColor
 row_fClips:AA A3u w x.pfClips x.fClips
 sl_fClips:Xw x.pfClips x.fClips x.cfClips
 all_fClips:∀ y∈x.fClips,A34 w y
 ok_fPen:A3O w x.fPen
 wf_fFont:(Lit.int .i64 x.fFont).wf=true
 wf_fMatrix_0:(Lit.int .i64 x.fMatrix_0).wf=true
 wf_fMatrix_1:(Lit.int .i64 x.fMatrix_1).wf=true
 wf_fMatrix_2:(Lit.int .i64 x.fMatrix_2).wf=true
 wf_fMatrix_3:(Lit.int .i64 x.fMatrix_3).wf=true
 wf_fMatrix_4:(Lit.int .i64 x.fMatrix_4).wf=true
 wf_fMatrix_5:(Lit.int .i64 x.fMatrix_5).wf=true
 row_fBytes:Af w x.pfBytes x.fBytes
 sl_fBytes:Xw x.pfBytes x.fBytes x.cfBytes
structure A3P where
 fWidth:Int
 fHeight:Int
 pfItems:Option Addr
 fItems:List We
 cfItems:Nat
structure A4w (w:World) (x:A3P):Prop where
 wf_fWidth:(Lit.int .i64 x.fWidth).wf=true
 wf_fHeight:(Lit.int .i64 x.fHeight).wf=true
 row_fItems:AA A3n w x.pfItems x.fItems
 sl_fItems:Xw x.pfItems x.fItems x.cfItems
 all_fItems:∀ y∈x.fItems,A33 w y
end
section
theorem BS:Tryz.prog.follows .mixedOrders=true:=by kernel_rfl
theorem BQ {F:FuncId} (h:(match Tryz.prog.funcs[F]? with | some fn=>!(fn.body.isNone || fn.name == "runtime.NumGoroutine") | none=>false)=true:=by kernel_rfl):Dc Tryz.prog F:=by
  cases hf:Tryz.prog.funcs[F]? with
  | none=>rw [hf] at h;cases h
  | some fn=>rw [hf] at h;exact F8 hf (by simpa using h)
theorem Au {n:Sh} {f:Fr} {ops:Array Oper} {Q:Exit->Fr->World->Prop} {w:World} {rest:List Oper} {d ty:Nat} {pos:String} {aft:Array Edge} {F:FuncId} {xs:List Operand} {ats:Array TypeId} {vs:List Value} {V:Value} {S:World->Prop} (hc:Calls Tryz.prog F vs.toArray w λe w'=>e=.returned V/\S w') (k:∀ w',S w'->WL Tryz.prog n ops Q rest ((d,V)::f) w') (hb:Dc Tryz.prog F:=by exact BQ) (hx:Qh f xs=some vs:=by rfl) (hd:Nat.blt d n.n=true:=by rfl):WL Tryz.prog n ops Q (⟨some d,.call ⟨.value (.func F),xs.toArray,ats⟩,ty,pos,aft,none⟩::rest) f w:=Cs hb hx hd hc k
theorem A2F:Dc Tryz.prog 10:=F8 Tryz.func10 (by kernel_rfl)
theorem A2E:Dc Tryz.prog 11:=F8 Tryz.func11 (by kernel_rfl)
theorem A1T:Dc Tryz.prog 137:=F8 Tryz.func137 (by kernel_rfl)
theorem A3t:Dc Tryz.prog 145:=F8 Tryz.func145 (by kernel_rfl)
theorem VR:Dc Tryz.prog 156:=F8 Tryz.func156 (by kernel_rfl)
theorem Gi:Dc Tryz.prog 187:=F8 Tryz.func187 (by kernel_rfl)
theorem A4f:Dc Tryz.prog 23:=F8 Tryz.func23 (by kernel_rfl)
theorem A3s:Dc Tryz.prog 32:=F8 Tryz.func32 (by kernel_rfl)
theorem A3r:Dc Tryz.prog 36:=F8 Tryz.func36 (by kernel_rfl)
theorem V4:Dc Tryz.prog 6:=F8 Tryz.func6 (by kernel_rfl)
theorem Z2:Dc Tryz.prog 7:=F8 Tryz.func7 (by kernel_rfl)
theorem Xe:Dc Tryz.prog 77:=F8 Tryz.func77 (by kernel_rfl)
theorem hb8:Dc Tryz.prog 8:=F8 Tryz.func8 (by kernel_rfl)
theorem hb9:Dc Tryz.prog 9:=F8 Tryz.func9 (by kernel_rfl)
theorem Ah:(Tryz.prog.info? 27).map (·.size)=some 6:=by kernel_rfl
theorem Ec:Tryz.prog.built 27=λparts=>Instr.fill (([(0,1),(1,1),(2,1),(3,1),(4,1),(5,1)]:List (Nat × Nat)).toArray[·]?) [Value.int .i64 0,Value.int .i64 0,Value.string ⟨#[]⟩,Value.slice none 0 0,Value.slice none 0 0,Value.slice none 0 0].toArray parts:=by kernel_rfl
theorem VP:(Tryz.prog.info? 46).map (·.size)=some 3:=by kernel_rfl
theorem YU:(Tryz.prog.info? 50).map (·.size)=some 5:=by kernel_rfl
theorem ZE:Tryz.prog.built 78=λparts=>Instr.fill (([(0,1),(1,1)]:List (Nat × Nat)).toArray[·]?) [Value.slice none 0 0,Value.int .i64 0].toArray parts:=by kernel_rfl
theorem A3w:Tryz.prog.built 82=λparts=>Instr.fill (([(0,1),(1,1),(2,6)]:List (Nat × Nat)).toArray[·]?) [Value.slice none 0 0,Value.map none,Value.int .i64 0,Value.int .i64 0,Value.string ⟨#[]⟩,Value.slice none 0 0,Value.slice none 0 0,Value.slice none 0 0].toArray parts:=by kernel_rfl
theorem Fq:(Tryz.prog.info? 117).map (·.size)=some 2:=by kernel_rfl
theorem ZG:Tryz.prog.built 133=λparts=>Instr.fill (([(0,1),(1,1),(2,1)]:List (Nat × Nat)).toArray[·]?) [Value.slice none 0 0,Value.int .i64 0,Value.bool false].toArray parts:=by kernel_rfl
theorem YV:(Tryz.prog.info? 173).map (·.size)=some 2:=by kernel_rfl
theorem ZF:Tryz.prog.built 173=λparts=>Instr.fill (([(0,1),(1,1)]:List (Nat × Nat)).toArray[·]?) [Value.int .i64 0,Value.int .i64 0].toArray parts:=by kernel_rfl
theorem RV:(Tryz.prog.info? 182).map (·.size)=some 16:=by kernel_rfl
theorem BC:(Tryz.prog.info? 196).map (·.size)=some 3:=by kernel_rfl
theorem Hy:Tryz.prog.built 196=λparts=>Instr.fill (([(0,1),(1,1),(2,1)]:List (Nat × Nat)).toArray[·]?) [Value.int .i64 0,Value.int .i64 0,Value.string ⟨#[]⟩].toArray parts:=by kernel_rfl
theorem A2Q:Tryz.prog.built 222=λparts=>Instr.fill (([(0,1),(1,1)]:List (Nat × Nat)).toArray[·]?) [Value.slice none 0 0,Value.int .i64 0].toArray parts:=by kernel_rfl
end
section
theorem V5 {a b:Value} (h:a=b):Ending.returned a=.returned b:=by rw [h]
end
section
open Go.RowKit Go.WideShapes Go.ChangeShapes
theorem Tk:∀ (vs:List Value) (s o:Nat) (pre mid post:List Value),pre.length=o+s->mid.length=vs.length ->
  (vs.zipIdx s).foldl (λ(cs:Array Value) (x:Value × Nat)=>cs.setIfInBounds (o+x.2) x.1) (pre++mid++post).toArray=(pre++vs++post).toArray
 | [],s,o,pre,mid,post,h1,h2=>by
  obtain rfl:mid=[]:=EF.1 (by simpa using h2)
  rfl
 | v::r,s,o,pre,[],post,h1,h2=>by simp at h2
 | v::r,s,o,pre,m0::mr,post,h1,h2=>by
  have ih:=Tk r (s+1) o (pre++[v]) mr post (by simp;omega) (by simpa using h2)
  rw [List.zipIdx_cons,EG]
  have e:(pre++m0::mr++post).toArray.setIfInBounds (o+s) v=(pre++[v]++mr++post).toArray:=by
   rw [<- h1]
   simp
  rw [e,ih]
  simp
theorem R8 {α:Type} (L:FK α):∀ (xs:List α) (i:Nat) (pre post:List Value),pre.length=i * L.m->post.length=xs.length * L.m ->
  Instr.fill (λi=>some (i * L.m,L.m)) (pre++post).toArray ((List.range' i xs.length).zip (xs.map λx=>Value.agg (L.V x).toArray))=some (pre++L.flat xs).toArray
 | [],i,pre,post,h1,h2=>by
  obtain rfl:post=[]:=EF.1 (by simpa using h2)
  rfl
 | x::r,i,pre,post,h1,h2=>by
  have hlx:=L.len x
  have h2':post.length=r.length * L.m+L.m:=by rw [h2,Aa,Nat.succ_mul]
  have ih:=R8 L r (i+1) (pre++L.V x) (post.drop L.m) (by rw [A9,h1,hlx,Nat.succ_mul]) (by rw [Aq];omega)
  have hf:=Tk (L.V x) 0 (i * L.m) pre (post.take L.m) (post.drop L.m) oO (by rw [Ap,hlx];omega)
  rw [AS pre,Ds] at hf
  have hc:(Value.agg (L.V x).toArray).cells=(L.V x).toArray:=rfl
  rw [Aa,List.range'_succ,Ev,List.zip_cons_cons]
  conv=>lhs;unfold Instr.fill
  simp only [hc]
  rw [A2 (by simp [hlx];omega)]
  refine Eq.trans (BH (λc=>Instr.fill (λi=>some (i * L.m,L.m)) c ((List.range' (i+1) r.length).zip (r.map λx=>Value.agg (L.V x).toArray))) ?_) (ih.trans (by simp [FK.flat]))
  rw [<- hf]
  simp
section
variable {P:Program} {n:Sh} {f:Fr} {α:Type} {L:FK α}
theorem CR {ops:Array Oper} {Q:Exit->Fr->World->Prop} {w:World} {rest:List Oper} {d ty:Nat} {pos:String} {aft:Array Edge} {t e:TypeId} {len:Nat} {ps:List (Nat × Operand)} {vs:List Value} {z:Value} (xs:List α)
  (hu:P.underlying t=some (.slice e)) (hs:∀ w,(sizeOf e).run P w=.ok L.m w) (hz:∀ w,(zeroValue e).run P w=.ok z w) (_hzs:z.cells.size=L.m) (hl0:Nat.blt 0 len=true) (hl1:Nat.ble (len * L.m) 1000=true)
  (hx:Qh f (ps.map (·.2))=some vs) (hi:ps.map (·.1)=List.range' 0 len) (hv:vs=xs.map λx=>Value.agg (L.V x).toArray) (hl:len=xs.length) (hd:Nat.blt d n.n=true)
  (k:∀ b w1,b=w.heap.size->AO L e b w1 (.slice (some ⟨b,0,none⟩) len len) xs->CP b w w1->w1.heap.size=b+1->WL P n ops Q rest ((d,.slice (some ⟨b,0,none⟩) len len)::f) w1) :
  WL P n ops Q (⟨some d,.buildSlice t len ps.toArray,ty,pos,aft,none⟩::rest) f w:=by
 have o:0<len:=by simpa [Nat.blt_eq] using hl0
 have q:len * L.m<=1000:=by simpa using hl1
 have l:len<=len * L.m:=Nat.le_mul_of_pos_right _ L.pos
 refine WL.run hd (w':=w.alloc (.cells (L.flat xs).toArray e)) (v:=.slice (some ⟨w.heap.size,0,none⟩) len len) (λρ hρ=>?_) (k _ _ rfl (.inr ⟨w.heap.size,len,_,by rw [<- hl],DS _,B4.alloc _ _ _,by rw [<- hl];exact DS _,by unfold maxLen;omega,by rw [List.size_toArray,L.flat_len,<- hl];exact DS _,by show (L.flat xs).take _=_;rw [Al (by rw [L.flat_len];exact DS _)]⟩) (CP.alloc _ _) (by simp))
 have g:=Jr hρ _ _ hx
 have c:(ps.toArray.map λ(i,x)=>(i,ρ x)).toList=(ps.map (·.1)).zip vs:=by
  rw [<- g];simp only [List.map_map,Array.toList_map]
  clear hx hi hv g
  induction ps with
  | nil=>rfl
  | cons p r ih=>simpa using ih
 have a:=R8 L xs 0 [] ((Array.range (len * L.m)).map (λx=>z.cells[x % z.cells.size]!)).toList (by simp) (by simp [hl])
 simp only [BT,Array.toArray_toList] at a
 rw [hi,hl,hv] at c
 rw [<- hl] at c a
 have h:¬ len * L.m=0:=by omega
 have j:¬ 16777216<len * L.m:=by omega
 unfold execOp
 simp only [Instr.buildSlice,Cd,Bp hu,hs,BW,c]
 rw [A2 oO,A2 h]
 simp only [Cd,hz,D4,BW,a]
 simp [newRow]
theorem Nn {ops:Array Oper} {Q:Exit->Fr->World->Prop} {w:World} {rest:List Oper} {ty:Nat} {pos:String} {aft:Array Edge} {t e:TypeId} {x y:Operand} {B nn c:Nat} {p:Option Addr} {l:List α} {vs:List Value} (o:α) (k:Nat)
  (hown:AO L e B w (.slice p nn c) l) (hk:k<l.length) (hi:(P.info? t).map (·.size)=some L.m) (hx:CE f x=some (.pointer (some ((pA p).add (k * L.m))))) (hy:CE f y=some (.agg vs.toArray)) (hv:vs=L.V o)
  (kk:∀ w1 g,p=some ⟨g,0,none⟩->CP g w w1->AO L e B w1 (.slice p nn c) (l.set k o)->WL P n ops Q rest f w1) :
  WL P n ops Q (⟨none,.store t x y,ty,pos,aft,none⟩::rest) f w:=by
 subst hv
 rcases hown with ⟨j,u⟩ | ⟨g,cap,cur,j,hB,hg,h,q,v,d⟩
 · rw [u] at hk;simp only [Am] at hk;omega
 ·
  cases j;have a:=L.len o;have A:=L.flat_len l;have C:k * L.m+L.m<=l.length * L.m:=by rw [<- Nat.succ_mul];exact Cz _ hk
  have D:l.length * L.m<=c * L.m:=Cz _ h;have s:=run_storeCells_at P g (k * L.m) e (L.V o) 0 cur w hg (by rw [a];omega) (L.one o);rw [show pA (some (⟨g,0,none⟩:Addr))=⟨g,0,none⟩ from rfl,GU,D5] at hx;have b:(l.set k o).length=l.length:=List.length_set;refine PF (w':=w.setRow g (cur.toList.take (k * L.m+0)++L.V o++cur.toList.drop (k * L.m+0+(L.V o).length)).toArray) (λρ hρ=>?_)
   (kk _ g rfl (CP.setRow _ _ _) (.inr ⟨g,c,_,by rw [b],hB,setRow_heap w g cur _ e _ hg,by rw [b];exact h,q,?_,?_⟩))
  ·
   cases hq:P.info? t with
   | none=>simp [hq] at hi
   | some i =>
    have hs:i.size=L.m:=by simpa [hq] using hi
    unfold execOp;simp [hρ _ _ hx,hρ _ _ hy,Instr.storeAt,Instr.sureAddr,storeVar,Cd,sizeOf,typeInfo,hq,hs,Value.cells,a,s]
  ·
   simp only [List.size_toArray,A9,Ap,Aq,Array.length_toList,a]
   omega
  ·
   rw [b,<- Qa L l k hk o,Nat.add_zero,a,<- d];rw [List.take_take,Nat.min_eq_left oO];rw [AS,AS,XI,XI];simp only [Ap,Array.length_toList,a];rw [Nat.min_eq_left oO,List.take_take,Nat.min_eq_right oO,Al (l:=L.V o) oO,List.drop_take]
   congr 3
   omega
theorem X6 (L:FK α) (o:α) (cs:Array Value) (hc:cs.toList=L.V o) (j:Nat):(madeCells cs (j * L.m)).toList=L.flat (List.replicate j o):=by
 have c:cs.size=L.m:=by rw [<- Array.length_toList,hc,L.len]
 refine List.ext_getElem? λq=>?_
 have a:=L.pos
 rcases By q (j * L.m) with hq | hq
 ·
  have d:q / L.m<j:=(Nat.div_lt_iff_lt_mul a).2 hq
  have b:q % L.m<L.m:=Nat.mod_lt _ a
  have e:=L.flat_at (List.replicate j o) (q / L.m) (by simpa using d) (q % L.m) b
  rw [Nat.mul_comm,Nat.div_add_mod] at e
  rw [e,List.getElem_replicate,<- hc]
  simp [madeCells,hq,c,b]
 · rw [AZ (by simp [madeCells];exact hq),AZ (by rw [L.flat_len,CH];exact hq)]
theorem Vh {ops:Array Oper} {Q:Exit->Fr->World->Prop} {w:World} {rest:List Oper} {d ty:Nat} {pos:String} {aft:Array Edge} {t e:TypeId} {x y:Operand} {z:Value} {by':Nat} {kl kc:IntKind} (o:α) (j:Nat)
  (ht:P.underlying t=some (.slice e)) (hi:(P.info? e).map (λi=>(i.zero,i.size,i.bytes))=some (some z,L.m,by')) (hby2:Nat.ble by' 1000=true) (hz:z.cells.toList=L.V o)
  (hx:CE f x=some (.int kl j)) (hy:CE f y=some (.int kc j)) (hj:j<=10000) (hm:L.m<=1000) (hd:Nat.blt d n.n=true)
  (k:∀ w1,AO L e w.heap.size w1 (.slice (some ⟨w.heap.size,0,none⟩) j j) (List.replicate j o)->AL w w1->WL P n ops Q rest ((d,.slice (some ⟨w.heap.size,0,none⟩) j j)::f) w1) :
  WL P n ops Q (⟨some d,.makeSlice t x y,ty,pos,aft,none⟩::rest) f w:=by
 cases hh:P.info? e with
 | none=>rw [hh] at hi;cases hi
 | some i =>
  rw [hh] at hi;simp only [Option.map_some,BK,Co] at hi;obtain ⟨c,a,g⟩:=hi;have b:i.bytes<=1000:=by rw [g];simpa using hby2
  have hb1:i.bytes * j<=1000 * j:=Cz _ b;have u:j * L.m<=j * 1000:=Nat.mul_le_mul_left _ hm;obtain ⟨w',q,h,s⟩:=run_makeSlice_full (P:=P) (w:=w) w.heap.size t e i z L.m ht hh c a kl kc j oO oO (by unfold maxLen;omega) (DS _);rw [X6 L o z.cells hz j] at h;have l:AO L e w.heap.size w' (.slice (some ⟨w.heap.size,0,none⟩) j j) (List.replicate j o):=GV (by rw [CH];exact h);refine WL.run hd (λρ hρ=>?_) (k w' l ((Fl _ _).grown s (DS _) λk hk=>by cases hk));unfold execOp;simp [hρ _ _ hx,hρ _ _ hy,q]
end
theorem AO.rowp {α:Type} {L:FK α} {e:TypeId} {B n c:Nat} {w:World} {p:Option Addr} {l:List α} (h:AO L e B w (.slice p n c) l):AA L w p l:=by
 obtain ⟨p',c',hv,hr,-⟩:=h.row
 cases hv
 exact hr
end
section
open Go.RowKit Go.WideShapes Go.ChangeShapes
structure A4M (o:Option Nat) (w w1:World):Prop where
 os:w1.os=w.os
 tape:w1.tape=w.tape
 output:w1.output=w.output
 size:w1.heap.size=w.heap.size
 block:∀ k,o≠some k->w1.heap[k]?=w.heap[k]?
theorem B4.grown {w w1:World} {c:Nat} {row:Option Nat} {cs:Array Value} {t:TypeId} (h:B4 w c cs t) (hg:w.grownBy w1 row) (hc:row≠some c):B4 w1 c cs t:=(hg.block c h.lt λe=>hc e.symm).trans h
theorem AO.cutc {α:Type} {L:FK α} {e:TypeId} {B:Nat} {w:World} {p:Option Addr} {n c:Nat} {l:List α} (h:AO L e B w (.slice p n c) l) (k:Nat) (hk:k<=l.length):AO L e B w (.slice p k c) (l.take k):=by
 rcases h with ⟨d,rfl⟩ | ⟨g,cap,cur,d,hB,hg,j,f,i,b⟩
 ·
  cases d
  obtain rfl:k=0:=by simpa using hk
  exact .inl ⟨rfl,by simp⟩
 ·
  cases d
  have a:(l.take k).length=k:=by rw [Ap];omega
  refine .inr ⟨g,c,cur,by rw [a],hB,hg,by rw [a];omega,f,i,?_⟩
  rw [a,<- L.flat_take,<- b,List.take_take,Nat.min_eq_left (Cz _ hk)]
theorem Do {B B':Nat} {S S':List Nat} {a b:World} (h:B9 B' S a b) (hB:B<=B') (hS:∀ g∈S,g∈S'\/B<=g):B9 B S' a b:=⟨h.os,h.tape,h.output,h.size,λi hi hn=>h.block i oO λhm=>(hS i hm).elim hn λq=>by omega⟩
theorem AM.keepB {α:Type} {V:α->Value} {B:Nat} {S:List Nat} {w w1:World} {p:Option Addr} {l:List α} (h:AM V w p l) (hT:B9 B S w w1) (hp:0<l.length->(pA p).block<B/\(pA p).block ∉ S):AM V w1 p l :=
 ⟨h.isp,λj hj=>by rw [World.cell?_of_block (w:=w) (by rw [E4];exact hT.block _ (hp oO).1 (hp oO).2)];exact h.cells j hj⟩
theorem Af.keepB {B:Nat} {S:List Nat} {w w1:World} {p:Option Addr} {l:l8_} (h:Af w p l) (hT:B9 B S w w1) (hp:0<l.length->(pA p).block<B/\(pA p).block ∉ S):Af w1 p l :=
 ⟨h.isp,λj hj=>by rw [World.cell?_of_block (w:=w) (by rw [E4];exact hT.block _ (hp oO).1 (hp oO).2)];exact h.cells j hj⟩
theorem Wb {P:Program} {f:Fr} {tx ty e:TypeId} {x:Operand} {p:Option Addr} {l:l8_} {n c:Nat} {w:World} (hu:P.underlying tx=some (.slice e)) (he:P.underlying e=some (.int .u8)) (ht:P.underlying ty=some .string)
  (hx:CE f x=some (.slice p n c)) (hn:n=l.length) (hb:Af w p l):Rd P (.convert tx ty x) f w (.string (bs l)):=Fa hu he ht (hn▸hx) hb
end
section
section
variable {P:Program} {n:Sh} {f:Fr}
theorem Ve {ops:Array Oper} {Q:Exit->Fr->World->Prop} {w:World} {rest:List Oper} {ty:Nat} {pos:String} {aft:Array Edge} {t tb:TypeId} {x y:Operand} {p:Addr} {b o:Nat} {cs:Array Value} {v:Value} (new:Array Value)
  (hs:∀ w,(sizeOf t).run P w=.ok 1 w) (hx:CE f x=some (.pointer (some p))) (hp:p=⟨b,o,none⟩) (hy:CE f y=some v) (h1:v.oneCell'=true) (hb:B4 w b cs tb) (ho:o<cs.size) (hn:cs.setIfInBounds o v=new)
  (k:∀ w1,B4 w1 b new tb->CP b w w1->w1.heap.size=w.heap.size->WL P n ops Q rest f w1):WL P n ops Q (⟨none,.store t x y,ty,pos,aft,none⟩::rest) f w:=by
 subst hp
 exact BA hs hx hy h1 hb ho λw1 hk hu a=>k w1 (hn▸hk) hu a
theorem W7 {P:Program} {n:Sh} {f:Fr} {ops:Array Oper} {Q:Exit->Fr->World->Prop} {w:World} {rest:List Oper} {ty:Nat} {pos:String} {aft:Array Edge} {t tb:TypeId} {x y:Operand} {b:Nat} {cs:Array Value} {v:Value} (o:Nat) (new:Array Value) (hb:B4 w b cs tb) (hs:∀ w,(sizeOf t).run P w=.ok 1 w) (k:∀ w1,B4 w1 b new tb->CP b w w1->w1.heap.size=w.heap.size->WL P n ops Q rest f w1) (hx:CE f x=some (.pointer (some ⟨b,o,none⟩)):=by rfl) (hy:CE f y=some v:=by rfl) (h1:v.oneCell'=true:=by rfl) (ho:o<cs.size:=by first | decide | exact Nat.le_of_ble_eq_true rfl) (hn:cs.setIfInBounds o v=new:=by rfl):WL P n ops Q (⟨none,.store t x y,ty,pos,aft,none⟩::rest) f w:=Ve (o:=o) new hs hx rfl hy h1 hb ho hn k
theorem A2V {ops:Array Oper} {Q:Exit->Fr->World->Prop} {w:World} {rest:List Oper} {ty:Nat} {pos:String} {aft:Array Edge} {t tb:TypeId} {x y:Operand} {p:Addr} {b o:Nat} {cs:Array Value} {vs:List Value} (new:Array Value)
  (hx:CE f x=some (.pointer (some p))) (hp:p=⟨b,o,none⟩) (hy:CE f y=some (.agg vs.toArray)) (hb:B4 w b cs tb) (hi:(P.info? t).map (·.size)=some vs.length) (h1:X0 vs=true) (ho:o+vs.length<=cs.size) (hn:(cs.toList.take o++vs++cs.toList.drop (o+vs.length)).toArray=new)
  (k:∀ w1,B4 w1 b new tb->CP b w w1->w1.heap.size=w.heap.size->WL P n ops Q rest f w1):WL P n ops Q (⟨none,.store t x y,ty,pos,aft,none⟩::rest) f w:=by
 subst hp
 have a:=run_storeCells_at P b o tb vs 0 cs w hb oO (P5 h1)
 simp only [Nat.add_zero] at a
 have c:=hb.lt
 refine PF (w':=w.setRow b (cs.toList.take o++vs++cs.toList.drop (o+vs.length)).toArray) (λρ hρ=>?_)
  (k _ (hn▸setRow_heap w b cs _ tb _ hb) (CP.setRow _ _ _) (by simp [World.setRow]))
 cases hq:P.info? t with
 | none=>simp [hq] at hi
 | some i =>
  have hs:i.size=vs.length:=by simpa [hq] using hi
  unfold execOp;simp [hρ _ _ hx,hρ _ _ hy,Instr.storeAt,Instr.sureAddr,storeVar,Cd,sizeOf,typeInfo,hq,hs,Value.cells,a]
theorem W8 {P:Program} {n:Sh} {f:Fr} {ops:Array Oper} {Q:Exit->Fr->World->Prop} {w:World} {rest:List Oper} {ty:Nat} {pos:String} {aft:Array Edge} {t tb:TypeId} {x y:Operand} {b:Nat} {cs:Array Value} {vs:List Value} (o:Nat) (new:Array Value) (hb:B4 w b cs tb) {z:Nat} (hi:(P.info? t).map (·.size)=some z) (k:∀ w1,B4 w1 b new tb->CP b w w1->w1.heap.size=w.heap.size->WL P n ops Q rest f w1) (hx:CE f x=some (.pointer (some ⟨b,o,none⟩)):=by rfl) (hy:CE f y=some (.agg vs.toArray):=by rfl) (h1:X0 vs=true:=by rfl) (ho:o+vs.length<=cs.size:=by first | decide | exact Nat.le_of_ble_eq_true rfl) (hn:(cs.toList.take o++vs++cs.toList.drop (o+vs.length)).toArray=new:=by rfl) (hl:vs.length=z:=by rfl):WL P n ops Q (⟨none,.store t x y,ty,pos,aft,none⟩::rest) f w:=A2V (o:=o) new hx rfl hy hb (hl▸hi) h1 ho hn k
end
end
section
def stC (e:Int):Array Value:=#[Ag e]
def ivL:FK Int:=⟨1,λn=>[Ag n],dD,λ_=>rfl,λx u hu=>by simp only [Bl] at hu;subst hu;rfl⟩
theorem YS (l:List Int):ivL.flat l=l.map Qd:=by
 unfold FK.flat
 induction l with
 | nil=>rfl
 | cons a r ih=>rw [Dx,ih];rfl
theorem G5 {e:TypeId} {B:Nat} {w:World} {v:Value} {l:List Int} (h:CF e B w v (l.map Qd)):AO ivL e B w v l:=by
 have hl:(l.map Qd).length=l.length:=Bo _
 refine GV ?_
 rw [YS,<- hl];exact h
theorem ZV {w:World} {p:Option Addr} {l:List Int} (h:AA ivL w p l):AM Qd w p l:=⟨h.isp,λj hj=>by
 have:=h.cells j hj 0 dD
 rw [show j * ivL.m+0=j by show j * 1+0=j;omega] at this
 exact this⟩
theorem A19:(Tryz.prog.info? 3).map (λi=>(i.zero,i.size,i.bytes))=some (some (Ag 0),1,8):=by kernel_rfl
end
section
open Go.RowKit Go.WideShapes Go.ChangeShapes
def WH (P:Program) (n:Sh) (ops:Array Oper) (Q:Exit->Fr->World->Prop) (S:World->Prop) (fuel:Nat) (listed:Array Bool) (f:Fr) (w:World):Prop:=∀ a,NO n f a->wpAnyH P .any ops (Io n Q) S fuel listed a w
def dropS (d:Nat):Fr->Fr
 | []=>[]
 | (i,v)::f=>bif Nat.beq i d then dropS d f else (i,v)::dropS d f
theorem Lw {d i:Nat}:∀ (f:Fr),look (dropS d f) i=if i=d then none else look f i
 | []=>by simp [dropS,look]
 | (j, v) :: f => by
  have ih:=Lw (d:=d) (i:=i) f
  unfold dropS
  cases h:Nat.beq j d with
  | true =>
   obtain rfl:j=d:=Bu h
   rw [cond_true,ih]
   by_cases hi:i=j
   · rw [A5 hi,A5 hi]
   ·
    have hb:Nat.beq j i=false:=by
     cases hq:Nat.beq j i with
     | true=>exact Dp (Bu hq).symm hi
     | false=>rfl
    rw [A2 hi,A2 hi]
    show look f i=(bif Nat.beq j i then some v else look f i)
    rw [hb,cond_false]
  | false =>
   rw [cond_false]
   show (bif Nat.beq j i then some v else look (dropS d f) i)=if i=d then none else (bif Nat.beq j i then some v else look f i)
   cases hb:Nat.beq j i with
   | true =>
    obtain rfl:j=i:=Bu hb
    have a:j≠d:=λq=>by rw [q,Nat.beq_refl] at h;cases h
    rw [cond_true,cond_true,A2 a]
   | false=>rw [cond_false,cond_false,ih]
theorem NO.dropS {n:Sh} {g:Fr} {a:Act} {d:Nat} {v:Value} (h:NO n g (a.put (some d) v)) (_:Nat.blt d n.n=true):NO n (dropS d g) a:=by
 refine ⟨h.1,by simpa [Act.put] using h.2.1,λi u hu=>?_⟩
 rw [Lw] at hu
 by_cases hi:i=d
 · rw [A5 hi] at hu;cases hu
 ·
  rw [A2 hi] at hu
  have:=h.2.2 i u hu
  simp only [Act.put,AD] at this ⊢
  rwa [Array.getElem?_setIfInBounds_ne (λq=>hi q.symm)] at this
def PnK (g0:Fr) (Q:Exit->Fr->World->Prop):Exit->Fr->World->Prop
 | .panic c,f,w=>ET g0 f/\Q (.panic c) g0 w
 | e,f,w=>Q e f w
theorem Qz {d:Nat}:∀ {g0 f:Fr},look g0 d=none->ET g0 f->ET g0 (dropS d f)
 | [],_,_,_=>trivial
 | (j,v)::g,f,h,hs=>by
  have hj:Nat.beq j d=false:=by
   cases hb:Nat.beq j d with
   | true=>rw [show look ((j,v)::g) d=(bif Nat.beq j d then some v else look g d) from rfl,hb] at h;cases h
   | false=>rfl
  rw [show look ((j,v)::g) d=(bif Nat.beq j d then some v else look g d) from rfl,hj,cond_false] at h
  refine ⟨?_,Qz h hs.2⟩
  rw [Lw,A2 (λq=>by rw [q,Nat.beq_refl] at hj;cases hj)]
  exact hs.1
theorem JX {g0 f:Fr} {Q:Exit->Fr->World->Prop} {d:Nat} {c:List PanicEntry} {w:World} (hd:look g0 d=none) (h:PnK g0 Q (.panic c) f w):PnK g0 Q (.panic c) (dropS d f) w:=⟨Qz hd h.1,h.2⟩
theorem A21 {P:Program} {n:Sh} {f:Fr} {w:World} {c:Code} {Q:Exit->Fr->World->Prop} (g0:Fr) (hm:∀ c f w,ET g0 f->Q (.panic c) g0 w->Q (.panic c) f w) (h:W P n c (PnK g0 Q) f w):W P n c Q f w:=h.mono λe f w h=>by
 cases e with
 | panic ch=>exact hm ch f w h.1 h.2
 | normal=>exact h
 | ret=>exact h
 | exit i=>exact h
 | goto l=>exact h
 | outgrown=>exact h
section
variable {P:Program} {n:Sh} {f:Fr} {ops:Array Oper} {Q:Exit->Fr->World->Prop} {w:World} {fuel:Nat} {listed:Array Bool} {S:World->Prop}
theorem DF {id:Nat} {l:List Oper} (N:Nat) (hN:l.length=N) (hm:P.follows .mixedOrders=true) (S:World->Prop) (h:∀ w1,Cn w w1->WH P n l.toArray Q S N (Array.replicate N false) f w1):W P n (.region id l.toArray true) Q f w:=by
 unfold W
 exact λa ha=>wp_region_held (S:=S) hm (by
  subst hN
  have:=h (w.drewN 1) ⟨1,rfl⟩ a ha
  rw [show l.toArray.size=l.length by simp]
  exact this)
theorem C6 (i:Nat) {d ty:Nat} {pos:String} {aft:Array Edge} {op:Op} {v:Value} (hi:ops[i]?=some ⟨some d,op,ty,pos,aft,none⟩) (hp:∀ w',S w'->Rd P op f w' v) (hS:S w) (hd:Nat.blt d n.n=true)
  (k:WH P n ops Q S fuel (listed.setIfInBounds i true) ((d,v)::f) w) (hs:Region.noSelect ops=true:=by kernel_rfl) (hf:Region.free .any ops listed i=true:=by kernel_rfl)
  (hr:(Region.ready .any ops listed).contains i=true:=by kernel_rfl) (hQ:∀ c f w,Q (.panic c) f w->Q (.panic c) (dropS d f) w:=by first | exact λc f w h=>Kv h | exact λc f w h=>h | exact λc f w h=>JX rfl h):WH P n ops Q S (fuel+1) listed f w:=by
 intro a ha
 refine wpAnyH_take hi hs hf hr ?_ (.inl ⟨by simp [Region.wanted],λw' hw'=>hp w' hw' _ ha.agr _ _ _ _ _⟩) hS (k _ (ha.put hd v))
 rintro c b w' ⟨g,hg,hq⟩
 exact ⟨dropS d g,hg.dropS hd,hQ c g w' hq⟩
theorem A3K (i:Nat) {d ty:Nat} {pos:String} {aft:Array Edge} {op:Op} {v:Value} (hi:ops[i]?=some ⟨some d,op,ty,pos,aft,none⟩) (hp:Bz P op f v) (hS:S w) (hd:Nat.blt d n.n=true)
  (k:WH P n ops Q S fuel (listed.setIfInBounds i true) ((d,v)::f) w) (hs:Region.noSelect ops=true:=by kernel_rfl) (hf:Region.free .any ops listed i=true:=by kernel_rfl)
  (hr:(Region.ready .any ops listed).contains i=true:=by kernel_rfl) (hQ:∀ c f w,Q (.panic c) f w->Q (.panic c) (dropS d f) w:=by first | exact λc f w h=>Kv h | exact λc f w h=>h | exact λc f w h=>JX rfl h):WH P n ops Q S (fuel+1) listed f w :=
 C6 i hi (λ_ _=>hp.rd) hS hd k hs hf hr hQ
theorem Ac {P:Program} {n:Sh} {f:Fr} {ops:Array Oper} {Q:Exit->Fr->World->Prop} {w:World} {fuel:Nat} {listed:Array Bool} {S:World->Prop} (i:Nat) {d ty:Nat} {pos:String} {aft:Array Edge} {op:Op} {v:Value} (hi:ops[i]?=some ⟨some d,op,ty,pos,aft,none⟩) (hp:Bz P op f v) (hS:S w) (k:WH P n ops Q S fuel (listed.setIfInBounds i true) ((d,v)::f) w) (hd:Nat.blt d n.n=true:=by rfl) (hs:Region.noSelect ops=true:=by kernel_rfl) (hf:Region.free .any ops listed i=true:=by kernel_rfl) (hr:(Region.ready .any ops listed).contains i=true:=by kernel_rfl) (hQ:∀ c f w,Q (.panic c) f w->Q (.panic c) (dropS d f) w:=by first | exact λc f w h=>Kv h | exact λc f w h=>h | exact λc f w h=>JX rfl h):WH P n ops Q S (fuel+1) listed f w:=A3K i hi hp hS hd k hs hf hr hQ
theorem A1F {ops:Array Oper} {a:Act} {j dj:Nat} {t:Bool} (hj:(ops[j]?).bind (·.dst)=some dj) (hval:a.tmps.getD dj undef=.bool t):yielded ops a.tmps j=some t:=by
 unfold yielded
 cases ho:ops[j]? with
 | none=>rw [ho] at hj;cases hj
 | some o =>
  rw [ho] at hj
  simp only [Option.bind_some] at hj
  have b:a.tmps[dj]?=some (.bool t):=by
   cases h:a.tmps[dj]? with
   | none=>rw [AD,h] at hval;cases hval
   | some v=>rw [AD,h] at hval;exact BH some hval
  simp [hj,b]
theorem Kj (i:Nat) {d ty j dj:Nat} {b t:Bool} {pos:String} {aft:Array Edge} {op:Op} {v:Value} (hi:ops[i]?=some ⟨some d,op,ty,pos,aft,some (j,b)⟩) (hj:(ops[j]?).bind (·.dst)=some dj) (ht:look f dj=some (.bool t)) (e:t=b)
  (hp:∀ w',S w'->Rd P op f w' v) (hS:S w) (hd:Nat.blt d n.n=true)
  (k:WH P n ops Q S fuel (listed.setIfInBounds i true) ((d,v)::f) w) (hs:Region.noSelect ops=true:=by kernel_rfl) (hf:Region.free .any ops listed i=true:=by kernel_rfl)
  (hr:(Region.ready .any ops listed).contains i=true:=by kernel_rfl) (hQ:∀ c f w,Q (.panic c) f w->Q (.panic c) (dropS d f) w:=by first | exact λc f w h=>Kv h | exact λc f w h=>h | exact λc f w h=>JX rfl h):WH P n ops Q S (fuel+1) listed f w:=by
 intro a ha
 have l:=A1F hj (ha.2.2 _ _ ht)
 refine wpAnyH_take hi hs hf hr ?_ (.inl ⟨by simp [Region.wanted,l,e],λw' hw'=>hp w' hw' _ ha.agr _ _ _ _ _⟩) hS (k _ (ha.put hd v))
 rintro c b w' ⟨g,hg,hq⟩
 exact ⟨dropS d g,hg.dropS hd,hQ c g w' hq⟩
theorem JK (i:Nat) {d ty j dj:Nat} {b t:Bool} {pos:String} {aft:Array Edge} {op:Op} (hi:ops[i]?=some ⟨some d,op,ty,pos,aft,some (j,b)⟩) (hj:(ops[j]?).bind (·.dst)=some dj) (ht:look f dj=some (.bool t)) (e:t=!b)
  (hS:S w) (hd:Nat.blt d n.n=true)
  (k:WH P n ops Q S fuel (listed.setIfInBounds i true) ((d,undef)::f) w) (hs:Region.noSelect ops=true:=by kernel_rfl) (hf:Region.free .any ops listed i=true:=by kernel_rfl)
  (hr:(Region.ready .any ops listed).contains i=true:=by kernel_rfl) (hQ:∀ c f w,Q (.panic c) f w->Q (.panic c) (dropS d f) w:=by first | exact λc f w h=>Kv h | exact λc f w h=>h | exact λc f w h=>JX rfl h):WH P n ops Q S (fuel+1) listed f w:=by
 intro a ha
 have l:=A1F hj (ha.2.2 _ _ ht)
 refine wpAnyH_take hi hs hf hr ?_ (.inr ⟨by simp only [Region.wanted,l,e];cases b <;> rfl,rfl⟩) hS (k _ (ha.put hd undef))
 rintro c b w' ⟨g,hg,hq⟩
 exact ⟨dropS d g,hg.dropS hd,hQ c g w' hq⟩
theorem A3L {dj:Nat} {t:Bool} (b:Bool) (_:look f dj=some (.bool t)) (hy:t=b->WH P n ops Q S fuel listed f w) (hn:t=!b->WH P n ops Q S fuel listed f w):WH P n ops Q S fuel listed f w:=by
 by_cases h:t=b
 · exact hy h
 · exact hn (by revert h;cases t <;> cases b <;> decide)
theorem WH.op (j:Nat) {o:Oper} (hi:ops[j]?=some o) (h:WL P n ops (nx (λf' w'=>S w'/\WH P n ops Q S fuel (listed.setIfInBounds j true) f' w') Q) [o] f w) (a:Act) (ha:NO n f a) :
  wpOp P ops (Io n Q) j (λa' w'=>S w'/\wpAnyH P .any ops (Io n Q) S fuel (listed.setIfInBounds j true) a' w') a w:=by
 unfold WL at h
 have:=h a ha
 unfold wpOp
 simp only [hi]
 have conv:∀ (e:Exit) (a:Act) (w:World),Io n (nx (λf' w'=>S w'/\WH P n ops Q S fuel (listed.setIfInBounds j true) f' w') Q) e a w->Exit.then (λa' w'=>S w'/\wpAnyH P .any ops (Io n Q) S fuel (listed.setIfInBounds j true) a' w') (Io n Q) e a w:=by
  rintro e a w ⟨g,hg,hq⟩
  cases e with
  | normal=>exact ⟨hq.1,hq.2 a hg⟩
  | _=>exact ⟨g,hg,hq⟩
 unfold wpList at this
 split
 ·
  next hwt =>
  rw [A5 hwt] at this
  refine this.imp (λh=>?_) λ⟨b,a',w',c⟩=>⟨b,a',w',conv _ _ _ c⟩
  have h':o.wp P a w (λa' w'=>S w'/\wpAnyH P .any ops (Io n Q) S fuel (listed.setIfInBounds j true) a' w') (Io n (nx (λf' w'=>S w'/\WH P n ops Q S fuel (listed.setIfInBounds j true) f' w') Q)) :=
   Oper.wp_mono (λa w h=>conv .normal a w h) h
  exact MK h' λe a w he h=>by
   cases e with
   | normal=>exact Dp rfl he
   | _=>exact conv _ a w h
 ·
  next hwt =>
  rw [A2 hwt] at this
  exact conv .normal _ _ this
theorem Br (i:Nat) {o:Oper} (hi:ops[i]?=some o) (h:WL P n ops (nx (λf' w'=>S w'/\WH P n ops Q S fuel (listed.setIfInBounds i true) f' w') Q) [o] f w) (hr:Region.ready .any ops listed=[i]:=by kernel_rfl):WH P n ops Q S (fuel+1) listed f w:=by
 intro a ha
 refine wpAnyH_all hr (by simp) λj hj=>?_
 obtain rfl:j=i:=by simpa using hj
 exact WH.op j hi h a ha
theorem IS (i:Nat) {o:Oper} (hi:ops[i]?=some o) (k:Nat) {o2:Oper} (hk:ops[k]?=some o2) (h:WL P n ops (nx (λf' w'=>S w'/\WH P n ops Q S fuel (listed.setIfInBounds i true) f' w') Q) [o] f w)
    (h2:WL P n ops (nx (λf' w'=>S w'/\WH P n ops Q S fuel (listed.setIfInBounds k true) f' w') Q) [o2] f w) (hr:Region.ready .any ops listed=[i,k]:=by kernel_rfl):WH P n ops Q S (fuel+1) listed f w:=by
  intro a ha
  refine wpAnyH_all hr (by simp) λj hj=>?_
  rcases A7.1 hj with rfl | hj
  · exact WH.op j hi h a ha
  · obtain rfl : j = k := by simpa using hj
    exact WH.op j hk h2 a ha
theorem C3 (hr:Region.ready .any ops listed=[]) (h:Q .normal f w):WH P n ops Q S fuel listed f w:=λ_ ha=>wpAnyH_done hr ⟨f,ha,h⟩ fuel
end
attribute [irreducible] WH
end
section
theorem A1R:(Tryz.prog.info? 55).map (·.size)=some 6:=by kernel_rfl
def parts (c:Km):List Int:=[c.fPart_0,c.fPart_1,c.fPart_2,c.fPart_3]
end
section
theorem A3x:Tryz.prog.built 55=λparts=>Instr.fill (λi=>some (i * 1,1)) #[Ag 0,Ag 0,Ag 0,Ag 0,Ag 0,Ag 0] parts:=by kernel_rfl
theorem RQ (w:World):Cl 146 #[] w (.agg (m6V m6I).toArray):=by
 refine AF func146 rfl ntmps146 ?_
 have e:=Dh w
 refine A4<|Bm zeroValue55 rfl (λl k f a b i=>?_)
 have g:=uB e f b
 refine A0<|?_
 refine A4<|A1 (.build (cs:=(m6V m6I).toArray) rfl (by rw [A3x];rfl)) ?_
 refine Az rfl rfl a A1R rfl rfl (λm c d j=>?_)
 have h:=BR g oO d
 refine A0<|AU (BD rfl rfl (Ba c underlying55 rfl A1R)  ?_)
 exact ⟨rfl,h⟩
end
section
structure A4G (w:World):Prop where
 ex:∃ names:List (l8_),names.length=14/\(∀ i (h:i<names.length),names[i]≠[])/\AM F4 w (some ⟨1,0,none⟩) names
end
section
def G0:Nat->Nat->l8_
 | 0,_=>[]
 | k+1,f=>if f=0 then [] else ch (48+((f * 10 / 65536:Nat):Int))::G0 k (f * 10 % 65536)
theorem RZ (k:Nat):∀ f:Nat,k<=16->f<65536->2 ^ (16-k) ∣ f->G0 k f=G0 (k+1) f:=by
  induction k with
  | zero =>
    intro f _ hf hd
    obtain ⟨c,hc⟩:=hd
    have:f=0:=by simp at hc;omega
    simp [G0,this]
  | succ k ih =>
    intro f hk hf hd
    rw [G0,G0]
    split
    · rfl
    · rw [ih (f * 10 % 65536) oO oO]
      have e:16-k=(16-(k+1))+1:=by omega
      have a:2 ^ (16-k) ∣ f * 10:=by
        rw [e,Nat.pow_succ]
        exact Nat.mul_dvd_mul hd ⟨5,rfl⟩
      have b:2 ^ (16-k) ∣ 65536:=by
        rw [show (65536:Nat)=2 ^ 16 from rfl]
        exact Nat.pow_dvd_pow 2 oO
      exact (Nat.dvd_mod_iff b).2 a
def Hc (f:Nat):l8_:=G0 16 f
theorem Jo:Hc 0=[]:=rfl
theorem LE (f:Nat) (h0:0<f) (h:f<65536):Hc f=ch (48+((f * 10 / 65536:Nat):Int))::Hc (f * 10 % 65536):=by
 unfold Hc
 rw [G0,A2 oO,RZ 15 (f * 10 % 65536) oO oO (by
  have a:2 ^ (16-15) ∣ f * 10:=⟨f * 5,oO⟩
  exact (Nat.dvd_mod_iff dD).2 a)]
theorem Xi (k:Nat):∀ f,(G0 k f).length<=k:=by
 induction k with
 | zero=>intro f;simp [G0]
 | succ k ih =>
  intro f;rw [G0];split
  · simp
  · have:=ih (f * 10 % 65536);simp;omega
theorem J6 (f:Nat):(Hc f).length<=16:=Xi 16 f
end
end Go.Proofs.YtiddobdioipidaaGreatDoor
namespace Go.Proofs
open Go.Proofs.Tryz
open Go.Shelf
def Tryz.lays161_ren : Go.Shelf.Ren := ⟨fun | 161 => 204 | 231 => 98 | 227 => 100 | 233 => 101 | 235 => 103 | 228 => 125 | 197 => 126 | 151 => 127 | 260 => 152 | 152 => 153 | 137 => 49 | 119 => 169 | 224 => 170 | 225 => 171 | 217 => 70 | 266 => 97 | n => n, fun | 9 => 9 | 4 => 4 | 3 => 3 | 5 => 5 | 117 => 156 | 116 => 155 | 0 => 0 | 124 => 159 | 105 => 189 | 21 => 21 | 119 => 236 | 46 => 152 | 139 => 239 | 138 => 238 | n => n, fun | 3 => 2 | 4 => 3 | n => n⟩
theorem Tryz.lays161 : Go.Proofs.Lays.n161 Tryz.prog Tryz.lays161_ren := {
  mixed := by kernel_rfl
  f119 := Tryz.func169.trans (congrArg some (by kernel_rfl))
  f137 := Tryz.func49.trans (congrArg some (by kernel_rfl))
  f151 := Tryz.func127.trans (congrArg some (by kernel_rfl))
  f152 := Tryz.func153.trans (congrArg some (by kernel_rfl))
  f161 := Tryz.func204.trans (congrArg some (by kernel_rfl))
  f197 := Tryz.func126.trans (congrArg some (by kernel_rfl))
  f217 := Tryz.func70.trans (congrArg some (by kernel_rfl))
  f224 := Tryz.func170.trans (congrArg some (by kernel_rfl))
  f225 := Tryz.func171.trans (congrArg some (by kernel_rfl))
  f227 := Tryz.func100.trans (congrArg some (by kernel_rfl))
  f228 := Tryz.func125.trans (congrArg some (by kernel_rfl))
  f231 := Tryz.func98.trans (congrArg some (by kernel_rfl))
  f233 := Tryz.func101.trans (congrArg some (by kernel_rfl))
  f235 := Tryz.func103.trans (congrArg some (by kernel_rfl))
  f260 := Tryz.func152.trans (congrArg some (by kernel_rfl))
  f266 := Tryz.func97.trans (congrArg some (by kernel_rfl))
  t0 := Tryz.underlying0
  a0 := Tryz.isAgg0
  z0 := Tryz.sizeOf0
  v0 := Tryz.zeroValue0
  t3 := Tryz.underlying3
  a3 := Tryz.isAgg3
  z3 := Tryz.sizeOf3
  v3 := Tryz.zeroValue3
  t4 := Tryz.underlying4
  a4 := Tryz.isAgg4
  z4 := Tryz.sizeOf4
  v4 := Tryz.zeroValue4
  t5 := Tryz.underlying5
  a5 := Tryz.isAgg5
  z5 := Tryz.sizeOf5
  v5 := Tryz.zeroValue5
  t9 := Tryz.underlying9
  a9 := Tryz.isAgg9
  z9 := Tryz.sizeOf9
  v9 := Tryz.zeroValue9
  t21 := Tryz.underlying21
  a21 := Tryz.isAgg21
  z21 := Tryz.sizeOf21
  v21 := Tryz.zeroValue21
  t46 := Tryz.underlying152
  a46 := Tryz.isAgg152
  z46 := Tryz.sizeOf152
  v46 := Tryz.zeroValue152
  t105 := Tryz.underlying189
  a105 := Tryz.isAgg189
  z105 := Tryz.sizeOf189
  v105 := Tryz.zeroValue189
  t116 := Tryz.underlying155
  a116 := Tryz.isAgg155
  z116 := Tryz.sizeOf155
  t117 := Tryz.underlying156
  a117 := Tryz.isAgg156
  z117 := Tryz.sizeOf156
  v117 := Tryz.zeroValue156
  t119 := Tryz.underlying236
  a119 := Tryz.isAgg236
  z119 := Tryz.sizeOf236
  t124 := Tryz.underlying159
  a124 := Tryz.isAgg159
  z124 := Tryz.sizeOf159
  v124 := Tryz.zeroValue159
  t138 := Tryz.underlying238
  a138 := Tryz.isAgg238
  z138 := Tryz.sizeOf238
  v138 := Tryz.zeroValue238
  t139 := Tryz.underlying239
  a139 := Tryz.isAgg239
  z139 := Tryz.sizeOf239
  v139 := Tryz.zeroValue239
  g3 := by kernel_rfl
  g4 := by kernel_rfl }
open Go.RowKit in
theorem Tryz.strings_TrimLeft_one (s : ByteArray) (c : UInt8) (hc : c.toNat < 128) (w : World) :
    Calls Tryz.prog 204 #[.string s, .string ⟨#[c]⟩] w fun e w' => e = .returned (.string ⟨(Lib.trimLeftB s.data.toList c).toArray⟩) ∧ w' = w := Any.strings_TrimLeft_one Tryz.lays161 s c hc w
def Tryz.lays160_ren : Go.Shelf.Ren := ⟨fun | 160 => 73 | 232 => 99 | 231 => 98 | 227 => 100 | 234 => 102 | 233 => 101 | 236 => 104 | 235 => 103 | 228 => 125 | 271 => 128 | 151 => 127 | 197 => 126 | 120 => 154 | 152 => 153 | 260 => 152 | 137 => 49 | 119 => 169 | 224 => 170 | 225 => 171 | 217 => 70 | 266 => 97 | n => n, fun | 9 => 9 | 4 => 4 | 3 => 3 | 5 => 5 | 117 => 156 | 116 => 155 | 0 => 0 | 124 => 159 | 21 => 21 | 105 => 189 | 46 => 152 | 119 => 236 | 139 => 239 | 138 => 238 | n => n, fun | 3 => 2 | 4 => 3 | n => n⟩
theorem Tryz.lays160 : Go.Proofs.Lays.n160 Tryz.prog Tryz.lays160_ren := {
  mixed := by kernel_rfl
  f119 := Tryz.func169.trans (congrArg some (by kernel_rfl))
  f120 := Tryz.func154.trans (congrArg some (by kernel_rfl))
  f137 := Tryz.func49.trans (congrArg some (by kernel_rfl))
  f151 := Tryz.func127.trans (congrArg some (by kernel_rfl))
  f152 := Tryz.func153.trans (congrArg some (by kernel_rfl))
  f160 := Tryz.func73.trans (congrArg some (by kernel_rfl))
  f197 := Tryz.func126.trans (congrArg some (by kernel_rfl))
  f217 := Tryz.func70.trans (congrArg some (by kernel_rfl))
  f224 := Tryz.func170.trans (congrArg some (by kernel_rfl))
  f225 := Tryz.func171.trans (congrArg some (by kernel_rfl))
  f227 := Tryz.func100.trans (congrArg some (by kernel_rfl))
  f228 := Tryz.func125.trans (congrArg some (by kernel_rfl))
  f231 := Tryz.func98.trans (congrArg some (by kernel_rfl))
  f232 := Tryz.func99.trans (congrArg some (by kernel_rfl))
  f233 := Tryz.func101.trans (congrArg some (by kernel_rfl))
  f234 := Tryz.func102.trans (congrArg some (by kernel_rfl))
  f235 := Tryz.func103.trans (congrArg some (by kernel_rfl))
  f236 := Tryz.func104.trans (congrArg some (by kernel_rfl))
  f260 := Tryz.func152.trans (congrArg some (by kernel_rfl))
  f266 := Tryz.func97.trans (congrArg some (by kernel_rfl))
  f271 := Tryz.func128.trans (congrArg some (by kernel_rfl))
  t0 := Tryz.underlying0
  a0 := Tryz.isAgg0
  z0 := Tryz.sizeOf0
  v0 := Tryz.zeroValue0
  t3 := Tryz.underlying3
  a3 := Tryz.isAgg3
  z3 := Tryz.sizeOf3
  v3 := Tryz.zeroValue3
  t4 := Tryz.underlying4
  a4 := Tryz.isAgg4
  z4 := Tryz.sizeOf4
  v4 := Tryz.zeroValue4
  t5 := Tryz.underlying5
  a5 := Tryz.isAgg5
  z5 := Tryz.sizeOf5
  v5 := Tryz.zeroValue5
  t9 := Tryz.underlying9
  a9 := Tryz.isAgg9
  z9 := Tryz.sizeOf9
  v9 := Tryz.zeroValue9
  t21 := Tryz.underlying21
  a21 := Tryz.isAgg21
  z21 := Tryz.sizeOf21
  v21 := Tryz.zeroValue21
  t46 := Tryz.underlying152
  a46 := Tryz.isAgg152
  z46 := Tryz.sizeOf152
  v46 := Tryz.zeroValue152
  t105 := Tryz.underlying189
  a105 := Tryz.isAgg189
  z105 := Tryz.sizeOf189
  v105 := Tryz.zeroValue189
  t116 := Tryz.underlying155
  a116 := Tryz.isAgg155
  z116 := Tryz.sizeOf155
  t117 := Tryz.underlying156
  a117 := Tryz.isAgg156
  z117 := Tryz.sizeOf156
  v117 := Tryz.zeroValue156
  t119 := Tryz.underlying236
  a119 := Tryz.isAgg236
  z119 := Tryz.sizeOf236
  t124 := Tryz.underlying159
  a124 := Tryz.isAgg159
  z124 := Tryz.sizeOf159
  v124 := Tryz.zeroValue159
  t138 := Tryz.underlying238
  a138 := Tryz.isAgg238
  z138 := Tryz.sizeOf238
  v138 := Tryz.zeroValue238
  t139 := Tryz.underlying239
  a139 := Tryz.isAgg239
  z139 := Tryz.sizeOf239
  v139 := Tryz.zeroValue239
  g3 := by kernel_rfl
  g4 := by kernel_rfl }
def Tryz.lays119_ren : Go.Shelf.Ren := ⟨fun | 119 => 169 | n => n, fun | 21 => 21 | 4 => 4 | n => n, fun | n => n⟩
theorem Tryz.lays119 : Go.Proofs.Lays.n119 Tryz.prog Tryz.lays119_ren := {
  mixed := by kernel_rfl
  f119 := Tryz.func169.trans (congrArg some (by kernel_rfl))
  t4 := Tryz.underlying4
  a4 := Tryz.isAgg4
  z4 := Tryz.sizeOf4
  v4 := Tryz.zeroValue4
  t21 := Tryz.underlying21
  a21 := Tryz.isAgg21
  z21 := Tryz.sizeOf21
  v21 := Tryz.zeroValue21 }
theorem Tryz.utf8_ValidRune (r : Int) (w : World) :
    Calls Tryz.prog 169 #[.int .i32 r] w fun e w' => e = .returned (.bool (Lib.validRune r)) ∧ w' = w := Any.utf8_ValidRune Tryz.lays119 r w
def Tryz.lays137_ren : Go.Shelf.Ren := ⟨fun | 137 => 49 | 217 => 70 | 266 => 97 | n => n, fun | 9 => 9 | 5 => 5 | 3 => 3 | n => n, fun | n => n⟩
theorem Tryz.lays137 : Go.Proofs.Lays.n137 Tryz.prog Tryz.lays137_ren := {
  mixed := by kernel_rfl
  f137 := Tryz.func49.trans (congrArg some (by kernel_rfl))
  f217 := Tryz.func70.trans (congrArg some (by kernel_rfl))
  f266 := Tryz.func97.trans (congrArg some (by kernel_rfl))
  t3 := Tryz.underlying3
  a3 := Tryz.isAgg3
  z3 := Tryz.sizeOf3
  v3 := Tryz.zeroValue3
  t5 := Tryz.underlying5
  a5 := Tryz.isAgg5
  z5 := Tryz.sizeOf5
  v5 := Tryz.zeroValue5
  t9 := Tryz.underlying9
  a9 := Tryz.isAgg9
  z9 := Tryz.sizeOf9
  v9 := Tryz.zeroValue9 }
open Go.RowKit in
theorem Tryz.strings_IndexByte (s : ByteArray) (c : Int) (w : World) :
    Calls Tryz.prog 49 #[.string s, .int .u8 c] w fun e w' => e = .returned (.int .i64 (Lib.indexByte s.data.toList c.toNat.toUInt8)) ∧ w' = w := Any.strings_IndexByte Tryz.lays137 s c w
def Tryz.lays219_ren : Go.Shelf.Ren := ⟨fun | 219 => 254 | 217 => 70 | 225 => 171 | 224 => 170 | 267 => 272 | 266 => 97 | 314 => 283 | n => n, fun | 9 => 9 | 3 => 3 | 4 => 4 | 5 => 5 | 46 => 152 | 146 => 126 | 51 => 125 | n => n, fun | 1 => 0 | n => n⟩
theorem Tryz.lays219 : Go.Proofs.Lays.n219 Tryz.prog Tryz.lays219_ren := {
  mixed := by kernel_rfl
  f217 := Tryz.func70.trans (congrArg some (by kernel_rfl))
  f219 := Tryz.func254.trans (congrArg some (by kernel_rfl))
  f224 := Tryz.func170.trans (congrArg some (by kernel_rfl))
  f225 := Tryz.func171.trans (congrArg some (by kernel_rfl))
  f266 := Tryz.func97.trans (congrArg some (by kernel_rfl))
  f267 := Tryz.func272.trans (congrArg some (by kernel_rfl))
  f314 := Tryz.func283.trans (congrArg some (by kernel_rfl))
  t3 := Tryz.underlying3
  a3 := Tryz.isAgg3
  z3 := Tryz.sizeOf3
  v3 := Tryz.zeroValue3
  t4 := Tryz.underlying4
  a4 := Tryz.isAgg4
  z4 := Tryz.sizeOf4
  v4 := Tryz.zeroValue4
  t5 := Tryz.underlying5
  a5 := Tryz.isAgg5
  z5 := Tryz.sizeOf5
  v5 := Tryz.zeroValue5
  t9 := Tryz.underlying9
  a9 := Tryz.isAgg9
  z9 := Tryz.sizeOf9
  v9 := Tryz.zeroValue9
  t46 := Tryz.underlying152
  a46 := Tryz.isAgg152
  z46 := Tryz.sizeOf152
  v46 := Tryz.zeroValue152
  t51 := Tryz.underlying125
  a51 := Tryz.isAgg125
  z51 := Tryz.sizeOf125
  v51 := Tryz.zeroValue125
  t146 := Tryz.underlying126
  a146 := Tryz.isAgg126
  z146 := Tryz.sizeOf126
  v146 := Tryz.zeroValue126
  g1 := by kernel_rfl }
open Go.RowKit Go.Lib in
theorem Tryz.stringslite_Index_one (s : ByteArray) (c : UInt8) (w : World) :
    Calls Tryz.prog 254 #[.string s, .string ⟨#[c]⟩] w fun e w' => e = .returned (.int .i64 (Lib.indexByte s.data.toList c)) ∧ w' = w := Any.stringslite_Index_one Tryz.lays219 s c w
def Tryz.lays152_ren : Go.Shelf.Ren := ⟨fun | 152 => 153 | 137 => 49 | 119 => 169 | 224 => 170 | 225 => 171 | 217 => 70 | 266 => 97 | n => n, fun | 9 => 9 | 21 => 21 | 3 => 3 | 4 => 4 | 5 => 5 | 0 => 0 | 46 => 152 | n => n, fun | n => n⟩
theorem Tryz.lays152 : Go.Proofs.Lays.n152 Tryz.prog Tryz.lays152_ren := {
  mixed := by kernel_rfl
  f119 := Tryz.func169.trans (congrArg some (by kernel_rfl))
  f137 := Tryz.func49.trans (congrArg some (by kernel_rfl))
  f152 := Tryz.func153.trans (congrArg some (by kernel_rfl))
  f217 := Tryz.func70.trans (congrArg some (by kernel_rfl))
  f224 := Tryz.func170.trans (congrArg some (by kernel_rfl))
  f225 := Tryz.func171.trans (congrArg some (by kernel_rfl))
  f266 := Tryz.func97.trans (congrArg some (by kernel_rfl))
  t0 := Tryz.underlying0
  a0 := Tryz.isAgg0
  z0 := Tryz.sizeOf0
  v0 := Tryz.zeroValue0
  t3 := Tryz.underlying3
  a3 := Tryz.isAgg3
  z3 := Tryz.sizeOf3
  v3 := Tryz.zeroValue3
  t4 := Tryz.underlying4
  a4 := Tryz.isAgg4
  z4 := Tryz.sizeOf4
  v4 := Tryz.zeroValue4
  t5 := Tryz.underlying5
  a5 := Tryz.isAgg5
  z5 := Tryz.sizeOf5
  v5 := Tryz.zeroValue5
  t9 := Tryz.underlying9
  a9 := Tryz.isAgg9
  z9 := Tryz.sizeOf9
  v9 := Tryz.zeroValue9
  t21 := Tryz.underlying21
  a21 := Tryz.isAgg21
  z21 := Tryz.sizeOf21
  v21 := Tryz.zeroValue21
  t46 := Tryz.underlying152
  a46 := Tryz.isAgg152
  z46 := Tryz.sizeOf152
  v46 := Tryz.zeroValue152 }
open Go.RowKit Go.Lib in
theorem Tryz.strings_IndexRune_ascii (s : ByteArray) (r : Int) (w : World) (h0 : 0 ≤ r) (h1 : r < 128) :
    Calls Tryz.prog 153 #[.string s, .int .i32 r] w fun e w' => e = .returned (.int .i64 (Lib.indexByte s.data.toList r.toNat.toUInt8)) ∧ w' = w := Any.strings_IndexRune_ascii Tryz.lays152 s r w h0 h1
def Tryz.lays226_ren : Go.Shelf.Ren := ⟨fun | 226 => 207 | n => n, fun | 3 => 3 | 4 => 4 | n => n, fun | n => n⟩
theorem Tryz.lays226 : Go.Proofs.Lays.n226 Tryz.prog Tryz.lays226_ren := {
  mixed := by kernel_rfl
  f226 := Tryz.func207.trans (congrArg some (by kernel_rfl))
  t3 := Tryz.underlying3
  a3 := Tryz.isAgg3
  z3 := Tryz.sizeOf3
  v3 := Tryz.zeroValue3
  t4 := Tryz.underlying4
  a4 := Tryz.isAgg4
  z4 := Tryz.sizeOf4
  v4 := Tryz.zeroValue4 }
open Go.RowKit Go.Lib in
theorem Tryz.strings_shouldUseASCIISet (n : Int) (w : World) :
    Calls Tryz.prog 207 #[.int .i64 n] w fun e w' => e = .returned (.bool (decide (8 < n))) ∧ w' = w := Any.strings_shouldUseASCIISet Tryz.lays226 n w
def Tryz.lays153_ren : Go.Shelf.Ren := ⟨fun | 153 => 184 | 152 => 153 | 226 => 207 | 227 => 100 | 228 => 125 | 137 => 49 | 119 => 169 | 224 => 170 | 225 => 171 | 217 => 70 | 266 => 97 | n => n, fun | 9 => 9 | 3 => 3 | 4 => 4 | 5 => 5 | 21 => 21 | 117 => 156 | 116 => 155 | 0 => 0 | 46 => 152 | 124 => 159 | n => n, fun | n => n⟩
theorem Tryz.lays153 : Go.Proofs.Lays.n153 Tryz.prog Tryz.lays153_ren := {
  mixed := by kernel_rfl
  f119 := Tryz.func169.trans (congrArg some (by kernel_rfl))
  f137 := Tryz.func49.trans (congrArg some (by kernel_rfl))
  f152 := Tryz.func153.trans (congrArg some (by kernel_rfl))
  f153 := Tryz.func184.trans (congrArg some (by kernel_rfl))
  f217 := Tryz.func70.trans (congrArg some (by kernel_rfl))
  f224 := Tryz.func170.trans (congrArg some (by kernel_rfl))
  f225 := Tryz.func171.trans (congrArg some (by kernel_rfl))
  f226 := Tryz.func207.trans (congrArg some (by kernel_rfl))
  f227 := Tryz.func100.trans (congrArg some (by kernel_rfl))
  f228 := Tryz.func125.trans (congrArg some (by kernel_rfl))
  f266 := Tryz.func97.trans (congrArg some (by kernel_rfl))
  t0 := Tryz.underlying0
  a0 := Tryz.isAgg0
  z0 := Tryz.sizeOf0
  v0 := Tryz.zeroValue0
  t3 := Tryz.underlying3
  a3 := Tryz.isAgg3
  z3 := Tryz.sizeOf3
  v3 := Tryz.zeroValue3
  t4 := Tryz.underlying4
  a4 := Tryz.isAgg4
  z4 := Tryz.sizeOf4
  v4 := Tryz.zeroValue4
  t5 := Tryz.underlying5
  a5 := Tryz.isAgg5
  z5 := Tryz.sizeOf5
  v5 := Tryz.zeroValue5
  t9 := Tryz.underlying9
  a9 := Tryz.isAgg9
  z9 := Tryz.sizeOf9
  v9 := Tryz.zeroValue9
  t21 := Tryz.underlying21
  a21 := Tryz.isAgg21
  z21 := Tryz.sizeOf21
  v21 := Tryz.zeroValue21
  t46 := Tryz.underlying152
  a46 := Tryz.isAgg152
  z46 := Tryz.sizeOf152
  v46 := Tryz.zeroValue152
  t116 := Tryz.underlying155
  a116 := Tryz.isAgg155
  z116 := Tryz.sizeOf155
  t117 := Tryz.underlying156
  a117 := Tryz.isAgg156
  z117 := Tryz.sizeOf156
  v117 := Tryz.zeroValue156
  t124 := Tryz.underlying159
  a124 := Tryz.isAgg159
  z124 := Tryz.sizeOf159
  v124 := Tryz.zeroValue159 }
open Go.RowKit Go.Lib in
theorem Tryz.strings_IndexAny_long (hv116 : ∀ w, (zeroValue 155).run Tryz.prog w = .ok (.agg (Array.replicate 256 (.bool false))) w) (s chars : ByteArray) (w : World) (h2 : 2 ≤ chars.size) (h8 : 8 < s.size) (hs : s.size < 4294967281) (hcs : chars.size < 4294967281) (hascii : ∀ (j : Nat) b, chars.data.toList[j]? = some b → b.toNat < 128) :
    Calls Tryz.prog 184 #[.string s, .string chars] w fun e w' => e = .returned (.int .i64 (Lib.indexAny s.data.toList chars.data.toList)) ∧ w' = ((w.alloc (.cells (Lib.setCells chars.data.toList) 155)).alloc (.cells (Lib.setCells chars.data.toList) 155)) := Any.strings_IndexAny_long Tryz.lays153 hv116 (by kernel_rfl) s chars w h2 h8 hs hcs hascii
def Tryz.lays105_ren : Go.Shelf.Ren := ⟨fun | 105 => 208 | 212 => 229 | 99 => 230 | 165 => 231 | 166 => 232 | 170 => 233 | 169 => 234 | 263 => 255 | 264 => 256 | 206 => 257 | 240 => 258 | 241 => 259 | 276 => 273 | 277 => 274 | n => n, fun | 9 => 9 | 3 => 3 | 4 => 4 | 20 => 20 | 0 => 0 | 46 => 152 | 109 => 268 | 5 => 5 | 72 => 273 | 76 => 276 | 51 => 125 | 146 => 126 | 53 => 97 | 148 => 298 | 70 => 271 | 37 => 22 | 75 => 275 | 127 => 300 | 164 => 307 | 80 => 160 | n => n, fun | n => n⟩
theorem Tryz.lays105 : Go.Proofs.Lays.n105 Tryz.prog Tryz.lays105_ren := {
  mixed := by kernel_rfl
  f99 := Tryz.func230.trans (congrArg some (by kernel_rfl))
  f105 := Tryz.func208.trans (congrArg some (by kernel_rfl))
  f165 := Tryz.func231.trans (congrArg some (by kernel_rfl))
  f166 := Tryz.func232.trans (congrArg some (by kernel_rfl))
  f169 := Tryz.func234.trans (congrArg some (by kernel_rfl))
  f170 := Tryz.func233.trans (congrArg some (by kernel_rfl))
  f206 := Tryz.func257.trans (congrArg some (by kernel_rfl))
  f212 := Tryz.func229.trans (congrArg some (by kernel_rfl))
  f240 := Tryz.func258.trans (congrArg some (by kernel_rfl))
  f241 := Tryz.func259.trans (congrArg some (by kernel_rfl))
  f263 := Tryz.func255.trans (congrArg some (by kernel_rfl))
  f264 := Tryz.func256.trans (congrArg some (by kernel_rfl))
  f276 := Tryz.func273.trans (congrArg some (by kernel_rfl))
  f277 := Tryz.func274.trans (congrArg some (by kernel_rfl))
  t0 := Tryz.underlying0
  a0 := Tryz.isAgg0
  z0 := Tryz.sizeOf0
  v0 := Tryz.zeroValue0
  t3 := Tryz.underlying3
  a3 := Tryz.isAgg3
  z3 := Tryz.sizeOf3
  v3 := Tryz.zeroValue3
  t4 := Tryz.underlying4
  a4 := Tryz.isAgg4
  z4 := Tryz.sizeOf4
  v4 := Tryz.zeroValue4
  t5 := Tryz.underlying5
  a5 := Tryz.isAgg5
  z5 := Tryz.sizeOf5
  v5 := Tryz.zeroValue5
  t9 := Tryz.underlying9
  a9 := Tryz.isAgg9
  z9 := Tryz.sizeOf9
  v9 := Tryz.zeroValue9
  t20 := Tryz.underlying20
  a20 := Tryz.isAgg20
  z20 := Tryz.sizeOf20
  v20 := Tryz.zeroValue20
  t37 := Tryz.underlying22
  a37 := Tryz.isAgg22
  z37 := Tryz.sizeOf22
  v37 := Tryz.zeroValue22
  t46 := Tryz.underlying152
  a46 := Tryz.isAgg152
  z46 := Tryz.sizeOf152
  v46 := Tryz.zeroValue152
  t51 := Tryz.underlying125
  a51 := Tryz.isAgg125
  z51 := Tryz.sizeOf125
  v51 := Tryz.zeroValue125
  t53 := Tryz.underlying97
  a53 := Tryz.isAgg97
  z53 := Tryz.sizeOf97
  v53 := Tryz.zeroValue97
  t70 := Tryz.underlying271
  a70 := Tryz.isAgg271
  z70 := Tryz.sizeOf271
  v70 := Tryz.zeroValue271
  t72 := Tryz.underlying273
  a72 := Tryz.isAgg273
  z72 := Tryz.sizeOf273
  v72 := Tryz.zeroValue273
  t75 := Tryz.underlying275
  a75 := Tryz.isAgg275
  z75 := Tryz.sizeOf275
  v75 := Tryz.zeroValue275
  t76 := Tryz.underlying276
  a76 := Tryz.isAgg276
  z76 := Tryz.sizeOf276
  v76 := Tryz.zeroValue276
  t109 := Tryz.underlying268
  a109 := Tryz.isAgg268
  z109 := Tryz.sizeOf268
  v109 := Tryz.zeroValue268
  t127 := Tryz.underlying300
  a127 := Tryz.isAgg300
  z127 := Tryz.sizeOf300
  v127 := Tryz.zeroValue300
  t146 := Tryz.underlying126
  a146 := Tryz.isAgg126
  z146 := Tryz.sizeOf126
  v146 := Tryz.zeroValue126
  t148 := Tryz.underlying298
  a148 := Tryz.isAgg298
  z148 := Tryz.sizeOf298
  v148 := Tryz.zeroValue298
  t164 := Tryz.underlying307
  a164 := Tryz.isAgg307
  z164 := Tryz.sizeOf307
  v164 := Tryz.zeroValue307 }
theorem Tryz.Builder_Extra_105 : Builder.Extra Tryz.prog Tryz.lays105_ren := {
  sizeBuilder := by kernel_rfl
  liesBuilder := by kernel_rfl
  t5 := Tryz.underlying5
  a5 := Tryz.isAgg5
  z5 := Tryz.sizeOf5
  v5 := Tryz.zeroValue5
  infoByte := by kernel_rfl
  cellsByte := by kernel_rfl
  sizeByte := by kernel_rfl
  neB5 := by decide }
open Go.RowKit Go.Lib in
theorem Tryz.strings_Repeat (s : ByteArray) (c : Nat) (w : World) (hc : c ≤ 9223372036854775807) (hlen : s.size * c ≤ 140737488355328) :
    Calls Tryz.prog 208 #[.string s, .int .i64 c] w fun e w' => e = .returned (.string ⟨(Lib.repeatL s.data.toList c).toArray⟩) ∧ Below w.heap.size w w' := Any.strings_Repeat Tryz.lays105 Tryz.Builder_Extra_105 s c w hc hlen
end Go.Proofs
namespace Go.Proofs.YtiddobdioipidaaGreatDoor
open Go.RowKit
open Go.Proofs.Tryz
section
theorem Fk (l:l8_):(bs l).toList=l:=by simp [bs]
theorem Qw (l:l8_) (w:World) :
  Calls Tryz.prog 204 #[.string (bs l),.string ⟨#[48]⟩] w λe w'=>e=.returned (.string (bs (l.dropWhile (· == 48))))/\w=w' :=
 (Tryz.strings_TrimLeft_one (bs l) 48 dD w).mono λ_ _ ⟨h1,h2⟩=>⟨h1,h2.symm⟩
theorem Ij (l:l8_) (a b:Nat):(bs l).extract a b=bs ((l.drop a).take (b-a)):=by
 apply ByteArray.ext
 simp [bs,ByteArray.data_extract]
theorem Lb (c:UInt8) (B:l8_):∀ A:l8_,c ∉ A->Lib.indexByte (A++c::B) c=(A.length:Int)
 | [],_=>by simp [Lib.indexByte]
 | b::A,h=>by
  simp only [A7,not_or] at h
  have ih:=Lb c B A h.2
  have e3:(b == c)=false:=by rw [Dr];exact λe=>h.1 e.symm
  have a:((A.length:Int) == -1)=false:=by rw [Dr];omega
  simp [Lib.indexByte,e3,ih]
theorem Mo (c:UInt8):∀ l:l8_,c ∉ l->Lib.indexByte l c=-1
 | [],_=>rfl
 | b::l,h=>by
  simp only [A7,not_or] at h
  have ih:=Mo c l h.2
  have e3:(b == c)=false:=by rw [Dr];exact λe=>h.1 e.symm
  simp [Lib.indexByte,e3,ih]
theorem OI (c:UInt8):∀ l:l8_,c∈l->∃ A B,l=A++c::B/\c ∉ A
 | [],h=>by cases h
 | b::l,h=>by
  by_cases e:c=b
  · exact ⟨[],l,by rw [e];rfl,by simp⟩
  ·
   rcases A7.1 h with h | h
   · exact Dp h e
   ·
    obtain ⟨A,B,h1,h2⟩:=OI c l h
    exact ⟨b::A,B,by rw [h1];rfl,by simp [e,h2]⟩
theorem UZ (A B:l8_) (c:UInt8) (w:World) (h:c ∉ A) :
  Calls Tryz.prog 254 #[.string (bs (A++c::B)),.string ⟨#[c]⟩] w λe w'=>e=.returned (Ag (A.length:Int))/\w=w':=by
 rw [<- Lb c B A h]
 exact (Tryz.stringslite_Index_one (bs _) c w).mono λ_ _ ⟨a,b⟩=>⟨a,b.symm⟩
theorem Xb (l:l8_) (c:UInt8) (w:World) (h:c ∉ l) :
  Calls Tryz.prog 254 #[.string (bs l),.string ⟨#[c]⟩] w λe w'=>e=.returned (Ag (-1))/\w=w':=by
 rw [<- Mo c l h]
 exact (Tryz.stringslite_Index_one (bs _) c w).mono λ_ _ ⟨a,b⟩=>⟨a,b.symm⟩
theorem Cu {a b:Bool} (h:a=b):Ending.returned (.bool a)=Ending.returned (.bool b):=by rw [h]
theorem A0F {a b a' b':ByteArray} {c:Bool} (h1:a=a') (h2:b=b'):Ending.returned (.tuple #[.string a,.string b,.bool c])=Ending.returned (.tuple #[.string a',.string b',.bool c]):=by
 rw [h1,h2]
theorem U5 (A B:l8_) (c:UInt8) (w:World) (hl:(A++c::B).length<=100000000) (hc:c ∉ A) :
  Cl 228 #[.string (bs (A++c::B)),.string ⟨#[c]⟩] w (.tuple #[.string (bs A),.string (bs B),.bool true]):=by
 have hk:A.length<(A++c::B).length:=by simp
 have hA:(bs (A++c::B)).extract 0 A.length=bs A:=by
  rw [Ij];simp
 have hB:(bs (A++c::B)).extract (A.length+1) (A++c::B).length=bs B:=by
  rw [Ij]
  have e:(A++c::B).drop (A.length+1)=B:=by
   rw [<- DU];simp
  rw [e,Al (by simp;omega)]
 have hI:=λw=>UZ A B c w hc
 have hs:(bs (A++c::B)).size=(A++c::B).length:=BM _
 generalize A++c::B=l at *
 generalize hkk:A.length=k at *
 clear hkk
 have hA':=E2 hA;have hB':=E2 hB;clear hA hB hc
 go_enter func228,ntmps228
 go_wp2_with (go_at_call 254;go_must (refine (hI _).mono ?_);rintro e w' ⟨rfl,rfl⟩)
 go_quiet (fail)
 go_wp2
 go_ret3
 exact ⟨A0F hA'.out hB'.out,Nm _ _⟩
theorem Wq (l:l8_) (c:UInt8) (w:World) (hc:c ∉ l) :
  Cl 228 #[.string (bs l),.string ⟨#[c]⟩] w (.tuple #[.string (bs l),.string (bs []),.bool false]):=by
 have hI:=λw=>Xb l c w hc
 clear hc
 go_enter func228,ntmps228
 go_wp2_with (go_at_call 254;go_must (refine (hI _).mono ?_);rintro e w' ⟨rfl,rfl⟩)
 go_ret3
 exact ⟨rfl,Fl _ _⟩
theorem TA (A B:l8_) (c:UInt8) (w:World) (hl:(A++c::B).length<=100000000) (hc:c ∉ A) :
  Cl 202 #[.string (bs (A++c::B)),.string ⟨#[c]⟩] w (.tuple #[.string (bs A),.string (bs B),.bool true]):=by
 have hI:=λw=>U5 A B c w hl hc
 clear hc hl
 go_enter func202,ntmps202
 go_wp2_with (go_at_call 228;go_must (refine (hI _).mono ?_);rintro e w' ⟨rfl,hb⟩)
 go_ret3
 exact ⟨rfl,hb⟩
theorem W1 (l:l8_) (c:UInt8) (w:World) (hc:c ∉ l) :
  Cl 202 #[.string (bs l),.string ⟨#[c]⟩] w (.tuple #[.string (bs l),.string (bs []),.bool false]):=by
 have hI:=λw=>Wq l c w hc
 clear hc
 go_enter func202,ntmps202
 go_wp2_with (go_at_call 228;go_must (refine (hI _).mono ?_);rintro e w' ⟨rfl,hb⟩)
 go_ret3
 exact ⟨rfl,hb⟩
def BN (b:UInt8):Bool:=decide (48<=b.toNat) && decide (b.toNat<=57)
theorem Lf (b:UInt8):([48,49,50,51,52,53,54,55,56,57]:l8_).contains b=BN b:=by
 unfold BN
 rw [B3]
 simp [<- UInt8.toNat_inj]
 omega
theorem Fy (p:UInt8->Bool):∀ l:l8_,l.dropWhile p=[]↔l.all p=true
 | []=>by simp
 | b::l=>by
  cases h:p b with
  | true=>simp [h,Fy p l]
  | false=>simp [h]
theorem II (l cs:l8_):Lib.trimS l cs=[]↔l.all (cs.contains ·)=true:=by
 unfold Lib.trimS Lib.trimLeftS Lib.trimRightS
 rw [Fy]
 constructor
 ·
  intro h
  cases hd:l.reverse.dropWhile (cs.contains ·) with
  | nil =>
   rw [Fy] at hd
   simpa using hd
  | cons x r =>
   exfalso
   rw [hd] at h
   have hx:cs.contains x=true:=by
    simp at h
    simpa using h.2
   have:=List.head_dropWhile_not (p:=(cs.contains ·)) (l:=l.reverse) (by rw [hd];simp)
   simp only [hd,List.head_cons] at this
   rw [hx] at this;cases this
 ·
  intro h
  have:l.reverse.dropWhile (cs.contains ·)=[]:=by
   rw [Fy];simpa using h
  rw [this];rfl
theorem FO (l:l8_) (w:World) (hl:l.length<=100000000) :
  Cl 203 #[.string (bs l)] w (.bool (l.all BN)):=by
 have hT:=λw=>Any.strings_Trim_laid Tryz.lays160 kR (bs l) ⟨#[48,49,50,51,52,53,54,55,56,57]⟩ w (by rw [BM];omega) dD (ascii_of_all dD)
 have hN:Lib.trimS l [48,49,50,51,52,53,54,55,56,57]=[]↔l.all BN=true:=by
  rw [II]
  have:(λx=>([48,49,50,51,52,53,54,55,56,57]:l8_).contains x)=BN:=funext Lf
  rw [this]
 have HN:=E2 hN;clear hN
 go_enter func203,ntmps203
 go_wp2_with (go_at_call 73;go_must (refine (hT _).mono ?_);rintro e w' ⟨rfl,hb⟩)
 go_ret
 exact ⟨Cu (by rw [B3,List.isEmpty_iff];exact HN.out),hb⟩
theorem Yf {m:Bool} {a b:ByteArray} (h:a=b):Ending.returned (.tuple #[.bool m,.string a])=Ending.returned (.tuple #[.bool m,.string b]):=by rw [h]
theorem A1r (c:UInt8) (r:l8_) (h:0<(bs (c::r)).size):(bs (c::r))[0]'h=c:=rfl
theorem A1q (c:UInt8) (r:l8_):(bs (c::r)).extract 1 (r.length+1)=bs r:=by
 rw [Ij];simp
theorem Zz (c:UInt8) (r:l8_):(bs (c::r)).toList.isEmpty=false:=by simp [bs]
def AX:l8_->Bool × l8_
 | []=>(false,[])
 | c::r=>if c=45 then (true,r) else if c=43 then (false,r) else (false,c::r)
theorem Ig (l:l8_) (w:World) (hl:l.length<=100000000) :
  Cl 179 #[.string (bs l)] w (.tuple #[.bool (AX l).1,.string (bs (AX l).2)]):=by
 cases l with
 | nil =>
  have hT:=Fk
  go_enter func179,ntmps179
  go_wp2
  go_ret2
  exact ⟨rfl,Fl _ _⟩
 | cons c r =>
  have b:=A1r c r
  have hs:(bs (c::r)).size=r.length+1:=by rw [BM];rfl
  have he:=Zz c r
  have hb:=A1q c r
  have Hb:=E2 hb
  simp only [Aa] at hl
  by_cases h1:c=45
  ·
   subst h1
   generalize bs (45::r)=s at *
   clear hb
   go_enter func179,ntmps179
   go_wp2
   go_quiet (fail)
   go_wp2
   go_ret2
   exact ⟨Yf Hb.out,Nm _ _⟩
  ·
   by_cases h2:c=43
   ·
    subst h2
    generalize bs (43::r)=s at *
    clear hb
    go_enter func179,ntmps179
    go_wp2
    go_quiet (fail)
    go_wp2
    go_ret2
    exact ⟨Yf Hb.out,Nm _ _⟩
   ·
    have d:((c.toNat:Int) == 45)=false:=by
     rw [Dr];intro h;exact h1 (UInt8.toNat_inj.1 (by show c.toNat=45;omega))
    have f:((c.toNat:Int) == 43)=false:=by
     rw [Dr];intro h;exact h2 (UInt8.toNat_inj.1 (by show c.toNat=43;omega))
    have a:AX (c::r)=(false,c::r):=by simp [AX,h1,h2]
    rw [a]
    generalize bs (c::r)=s at *
    clear hb a h1 h2
    go_enter func179,ntmps179
    go_wp2
    go_ret2
    exact ⟨rfl,Fl _ _⟩
theorem OQ {fn:Func} {t u v x:Tmp} (h:fn.results=#[.tmp t,.tmp u,.tmp v,.tmp x]) (tmps:Array Value) (P:Program) (w:World) :
  (results fn tmps).run P w=.ok (.tuple #[tmps.getD t undef,tmps.getD u undef,tmps.getD v undef,tmps.getD x undef]) w:=by
 simp [results,h]
theorem OP {a b a' b':ByteArray} {c d d':Bool} (h1:a=a') (h2:b=b') (h3:d=d'):Ending.returned (.tuple #[.string a,.string b,.bool c,.bool d])=Ending.returned (.tuple #[.string a',.string b',.bool c,.bool d']):=by
 rw [h1,h2,h3]
def C8:l8_->l8_ × l8_ × Bool
 | []=>([],[],false)
 | c::r=>if c=46 then ([],r,true) else (c::(C8 r).1,(C8 r).2)
theorem Ju (B:l8_):∀ A:l8_,46 ∉ A->C8 (A++46::B)=(A,B,true)
 | [],_=>by simp [C8]
 | c::A,h=>by
  simp only [A7,not_or] at h
  have ih:=Ju B A h.2
  simp [C8,ih,Ne.symm h.1]
theorem Rf:∀ l:l8_,46 ∉ l->C8 l=(l,[],false)
 | [],_=>rfl
 | c::l,h=>by
  simp only [A7,not_or] at h
  have ih:=Rf l h.2
  simp [C8,ih,Ne.symm h.1]
theorem Jv (l:l8_):(C8 l).1.length+(C8 l).2.1.length<=l.length:=by
 induction l with
 | nil=>simp [C8]
 | cons c r ih=>unfold C8;split <;> simp;omega
theorem A1p (l:l8_) (w:World) (hl:l.length<=100000000) :
  Cl 202 #[.string (bs l),.string ⟨#[46]⟩] w (.tuple #[.string (bs (C8 l).1),.string (bs (C8 l).2.1),.bool (C8 l).2.2]):=by
 by_cases h:46∈l
 ·
  obtain ⟨A,B,rfl,hA⟩:=OI 46 l h
  rw [Ju B A hA];exact TA A B 46 w hl hA
 · rw [Rf l h];exact W1 l 46 w h
def Gw (l:l8_):Bool:=(C8 l).1.all BN && (C8 l).2.1.all BN && decide (0<(C8 l).1.length+(C8 l).2.1.length)
theorem Jt (l:l8_) (w:World) (hl:l.length<=100000000) :
    Cl 180 #[.string (bs l)] w (.tuple #[.string (bs (C8 l).1),.string (bs (C8 l).2.1),.bool (C8 l).2.2,.bool (Gw l)]):=by
  have c:=Jv l
  have hm:Gw l=((C8 l).1.all BN && (C8 l).2.1.all BN && decide (0<(C8 l).1.length+(C8 l).2.1.length)):=rfl
  have b:=λw=>A1p l w hl
  generalize Gw l=ok at *
  generalize C8 l=p at *
  obtain ⟨A,B,f⟩:=p
  simp only at c hm b
  have Hm:=E2 hm;clear hm
  have i:(bs A).size=A.length:=BM A
  have j:(bs B).size=B.length:=BM B
  by_cases hA:A.all BN=true
  · by_cases hB : B.all BN = true
    · have a : ok = decide (0 < A.length + B.length) := by rw [Hm.out, hA, hB]; rfl
      have HA:=E2 hA;have HB:=E2 hB;have Hok:=E2 a;clear a hA hB
      go_enter func180,ntmps180
      go_wp2_with first | (go_at_call 202;go_must (refine (b _).mono ?_);rintro e d ⟨rfl,hb1⟩) | (go_at_call_of 203 (Value.string (bs A));go_must (refine (FO A _ oO).mono ?_);rintro e g ⟨rfl,hb2⟩;rw [HA.out]) | (go_at_call_of 203 (Value.string (bs B));go_must (refine (FO B _ oO).mono ?_);rintro e h ⟨rfl,hb3⟩;rw [HB.out])
      refine Cj (OQ rfl _ _ _) rfl ?_
      refine ⟨OP rfl rfl ?_,Ci (Ci hb1 hb2) hb3⟩
      rw [Hok.out,B3];simp;omega
    · have hB' : B.all BN = false := by simpa using hB
      have a:ok=false:=by rw [Hm.out,hA,hB'];rfl
      have HA:=E2 hA;have HB:=E2 hB';have Hok:=E2 a;clear a hA hB hB'
      go_enter func180,ntmps180
      go_wp2_with first | (go_at_call 202;go_must (refine (b _).mono ?_);rintro e d ⟨rfl,hb1⟩) | (go_at_call_of 203 (Value.string (bs A));go_must (refine (FO A _ oO).mono ?_);rintro e g ⟨rfl,hb2⟩;rw [HA.out]) | (go_at_call_of 203 (Value.string (bs B));go_must (refine (FO B _ oO).mono ?_);rintro e h ⟨rfl,hb3⟩;rw [HB.out])
      refine Cj (OQ rfl _ _ _) rfl ?_
      exact ⟨OP rfl rfl Hok.out.symm,Ci (Ci hb1 hb2) hb3⟩
  · have hA' : A.all BN = false := by simpa using hA
    have a:ok=false:=by rw [Hm.out,hA'];rfl
    have HA:=E2 hA';have Hok:=E2 a;clear a hA hA'
    go_enter func180,ntmps180
    go_wp2_with first | (go_at_call 202;go_must (refine (b _).mono ?_);rintro e d ⟨rfl,hb1⟩) | (go_at_call_of 203 (Value.string (bs A));go_must (refine (FO A _ oO).mono ?_);rintro e g ⟨rfl,hb2⟩;rw [HA.out])
    refine Cj (OQ rfl _ _ _) rfl ?_
    exact ⟨OP rfl rfl Hok.out.symm,Ci hb1 hb2⟩
end
section
def Hu:List Nat->List Nat × Nat
 | []=>([],0)
 | x::r=>((2 * x+(Hu r).2) % 10::(Hu r).1,(2 * x+(Hu r).2) / 10)
theorem Om (l:List Nat):(Hu l).1.length=l.length:=by
 induction l with
 | nil=>rfl
 | cons x r ih=>simp [Hu,ih]
theorem Nl (l:List Nat) (h:∀ x∈l,x<10):(Hu l).2<=1:=by
 induction l with
 | nil=>simp [Hu]
 | cons x r ih =>
  have a:=h x (by simp)
  have b:=ih (λy hy=>h y (by simp [hy]))
  simp [Hu];omega
theorem Px (l:List Nat):∀ x∈(Hu l).1,x<10:=by
 induction l with
 | nil=>simp [Hu]
 | cons x r ih =>
  intro y hy
  simp [Hu] at hy
  rcases hy with rfl | hy
  · omega
  · exact ih y hy
def Nv (l:List Nat):List Value:=l.map λ(x:Nat)=>Value.int .u8 (x:Int)
theorem Vo (l:List Nat):(Nv l).length=l.length:=by simp [Nv]
theorem Zs (ds:List Nat) (j:Nat) (hj:j<ds.length) :
  Hu (ds.drop j)=((2 * ds[j]+(Hu (ds.drop (j+1))).2) % 10::(Hu (ds.drop (j+1))).1,(2 * ds[j]+(Hu (ds.drop (j+1))).2) / 10):=by
 rw [Aw hj];rfl
theorem Va (b:Nat) (cap:Nat) (ds:List Nat) (w:World) (hr:MF w b (Nv ds)) (hd:∀ x∈ds,x<10) (hl:ds.length<=maxLen) (B:Nat) (hB:B<=b) :
  Calls Tryz.prog 205 #[.slice (some ⟨b,0,none⟩) ds.length cap] w λe w'=>e=.returned (Ag (Hu ds).2)/\MF w' b (Nv (Hu ds).1)/\Below B w w':=by
 unfold maxLen at hl
 go_enter func205,ntmps205
 go_wp2_with fail
 go_loopw [3,4] (λc i wr=>∃ (k:Nat) (f:Int),k<=ds.length/\f=(k:Int)-1/\i=Ag f/\c=.int .u8 ((Hu (ds.drop k)).2:Int)/\MF wr b (Nv (ds.take k++(Hu (ds.drop k)).1))/\Below B w wr) (λ_ i _=>(intOf i+1).toNat)
 case atStart=>exact ⟨ds.length,_,DS _,rfl,rfl,by simp [Hu],by simpa [Hu] using hr,Fl _ _⟩
 case round =>
  obtain ⟨k,f,hk,l,rfl,rfl,a,d⟩:=hrel
  cases k with
  | zero =>
   obtain rfl:f=-1:=by omega
   clear l
   have hc:=Nl ds hd
   have q:ds.drop 0=ds:=by simp
   rw [q] at a ⊢
   have Hrow:=E2 a;clear a
   go_wp2
   go_ret
   exact ⟨rfl,by simpa using Hrow.out,d⟩
  | succ j =>
   obtain rfl:f=(j:Int):=by omega
   clear l
   have hj:j<ds.length:=by omega
   have hc:=Nl (ds.drop (j+1)) (λx hx=>hd x (JL hx))
   have hx:=hd ds[j] (by simp)
   have m:=Zs ds j hj
   have s:=d.size
   obtain ⟨o,t⟩:=a j (.int .u8 (ds[j]:Int)) (by
    have g:j<(ds.take (j+1)).length:=by simp;omega
    rw [Nv,List.getElem?_map,Fm g,List.getElem?_take,A5 oO,Ak hj];rfl)
   have h:=a.set j (.int .u8 ((2 * (ds[j]:Int)+((Hu (ds.drop (j+1))).2:Int)) % 10)) (by simp [Nv];omega)
   have Hset:=E2 h;have Hst:=E2 m;clear h m a hr
   generalize hgc:(Hu (ds.drop (j+1))).2=c at *
   generalize hgx:ds[j]=x at *
   have Hgc:=E2 hgc;have Hgx:=E2 hgx;clear hgc hgx
   go_wp2
   refine ⟨⟨j,_,oO,rfl,rfl,?_,?_,d.setCell hB _⟩,by simp [intOf]⟩
   · rw [Hst.out];go_num
   ·
    have e:(Nv (List.take (j+1) ds++(Hu (List.drop (j+1) ds)).fst)).set j (Value.int IntKind.u8 ((2 * (x:Int)+(c:Int)) % 10))=Nv (List.take j ds++(Hu (List.drop j ds)).fst):=by
     rw [Hst.out]
     rw [B7 hj]
     have g:(List.map (λ(x:Nat)=>Value.int .u8 (x:Int)) (List.take j ds)).length=j:=by simp;omega
     simp only [Nv,Ej,AS]
     rw [List.set_append_right _ _ oO,g,Ot]
     simp
    rw [<- e];exact Hset.out
def F6:Nat->Int->List Nat->Int × List Nat
 | 0,n,d=>(n,d)
 | k+1,n,d=>F6 k (2 * n+(Hu d).2) (Hu d).1
def Bw (l:l8_):List Nat:=l.map λc=>c.toNat-48
def Ck (l:l8_):Nat:=l.foldl (λn c=>10 * n+(c.toNat-48)) 0
def Uv (whole rest:l8_):Option Int :=
 if 5<(whole.dropWhile (· == 48)).length then none
 else some ((F6 16 (Ck (whole.dropWhile (· == 48))) (Bw rest)).1+(Hu (F6 16 (Ck (whole.dropWhile (· == 48))) (Bw rest)).2).2)
def Fo (minus:Bool) (whole rest:l8_):Int × Bool :=
 match Uv whole rest with
 | none=>(0,false)
 | some n=>let m:=if minus then -n else n;(m,Db m)
theorem Pc (l:l8_) (c:UInt8):Ck (l++[c])=10 * Ck l+(c.toNat-48):=by simp [Ck]
theorem UQ (l:l8_) (h:∀ c∈l,BN c=true):∀ n,l.foldl (λn c=>10 * n+(c.toNat-48)) n<(n+1) * 10 ^ l.length:=by
 induction l with
 | nil=>intro n;simp
 | cons c r ih =>
  intro n
  have b:=ih (λx hx=>h x (by simp [hx])) (10 * n+(c.toNat-48))
  have a:=h c (by simp)
  simp [BN] at a
  rw [EG,Aa,Nat.pow_succ]
  have d:(10 * n+(c.toNat-48)+1) * 10 ^ r.length<=(n+1) * (10 ^ r.length * 10):=by
   rw [Nat.mul_comm (10 ^ r.length) 10,<- Nat.mul_assoc]
   exact Cz _ oO
  omega
theorem H9 (l:l8_) (h:∀ c∈l,BN c=true):Ck l<10 ^ l.length:=by
 have:=UQ l h 0
 rw [D5,Nat.one_mul] at this
 exact this
theorem NM (l:l8_) (h:∀ c∈l,BN c=true):∀ x∈Bw l,x<10:=by
 intro x hx
 simp [Bw] at hx
 obtain ⟨c,hc,rfl⟩:=hx
 have a:=h c hc
 simp [BN] at a
 omega
theorem Qj (minus:Bool) (whole rest:l8_) (w:World) (hb:5<(whole.dropWhile (· == 48)).length) :
  Cl 181 #[.bool minus,.string (bs whole),.string (bs rest)] w (.tuple #[Ag 0,.bool false]):=by
 have hs:=BM (whole.dropWhile (· == 48))
 have hT:=λw=>Qw whole w
 generalize whole.dropWhile (· == 48)=t at *
 go_enter func181,ntmps181
 go_wp2_with (go_at_call 204;go_must (refine (hT _).mono ?_);rintro e a ⟨rfl,rfl⟩)
 go_ret2
 exact ⟨rfl,Fl _ _⟩
theorem Hj (l:l8_) (k:Nat) (h:k<l.length):(AN l)[k]?=some (.int .u8 (l[k].toNat:Int)):=by
 unfold AN
 rw [List.getElem?_map,Ak h];rfl
theorem GO (l:l8_) (k:Nat) (h:k<l.length):Ck (l.take (k+1))=10 * Ck (l.take k)+(l[k].toNat-48):=by
 rw [B7 h,Pc]
theorem Q9 (l:l8_) (k:Nat) (hl:l.length<=5) (h:∀ c∈l,BN c=true):Ck (l.take k)<100000:=by
 have a:=H9 (l.take k) (λc hc=>h c (EA hc))
 have b:10 ^ (l.take k).length<=10 ^ 5:=Nat.pow_le_pow_right dD (by simp;omega)
 omega
theorem Ek {c:UInt8} (h:BN c=true):48<=c.toNat/\c.toNat<=57:=by
 simpa [BN] using h
theorem Kf (b:Nat) (cap n:Nat) (ds:List Nat) (w:World) (hn:ds.length=n) (hr:MF w b (Nv ds)) (hd:∀ x∈ds,x<10) (hl:n<=3000) (B:Nat) (hB:B<=b) :
  Calls Tryz.prog 205 #[.slice (some ⟨b,0,none⟩) n cap] w λe w'=>e=.returned (Ag (Hu ds).2)/\MF w' b (Nv (Hu ds).1)/\Below B w w':=by
 subst hn
 exact Va b cap ds w hr hd (by unfold maxLen;omega) B hB
theorem TZ (a b:List Nat):Nv (a++b)=Nv a++Nv b:=by simp [Nv]
theorem El (l:l8_):(Bw l).length=l.length:=by simp [Bw]
theorem YJ (l:l8_) (k:Nat) (h:k<l.length):(Nv ((Bw l).take k)++AN (l.drop k))[k]?=some (.int .u8 (l[k].toNat:Int)):=by
 have e:(Nv ((Bw l).take k)).length=k:=by rw [Vo,Ap,El];omega
 rw [A24 oO,e,Ot,Aw h];rfl
theorem A11 (l:l8_) (k:Nat) (h:k<l.length) (h1:48<=l[k].toNat):(Nv ((Bw l).take k)++AN (l.drop k)).set k (.int .u8 ((l[k].toNat:Int)-48))=Nv ((Bw l).take (k+1))++AN (l.drop (k+1)):=by
 have e:(Nv ((Bw l).take k)).length=k:=by rw [Vo,Ap,El];omega
 rw [List.set_append_right _ _ oO,e,Ot,Aw h,B7 (by rw [El];exact h),TZ,AS]
 congr 1
 have a:(Bw l)[k]'(by rw [El];exact h)=l[k].toNat-48:=by simp [Bw]
 have b:((l[k].toNat-48:Nat):Int)=(l[k].toNat:Int)-48:=by omega
 rw [a]
 simp only [Nv,Ev,Fz,b]
 rfl
theorem Ye {a b:Int} {c d:Bool} (h:a=b) (h':c=d):Ending.returned (.tuple #[Ag a,.bool c])=Ending.returned (.tuple #[Ag b,.bool d]):=by rw [h,h']
theorem Qi (minus : Bool) (whole rest : l8_) (w : World) (h1 : (whole.dropWhile (· == 48)).length ≤ 5) (h2 : rest.length ≤ 3000) (h3 : ∀ c ∈ whole, BN c = true) (h4 : ∀ c ∈ rest, BN c = true) :
    Cl 181 #[.bool minus,.string (bs whole),.string (bs rest)] w (.tuple #[Ag (Fo minus whole rest).1,.bool (Fo minus whole rest).2]):=by
  have hT:=λw=>Qw whole w
  have hv:Fo minus whole rest=(let m:=if minus then -((F6 16 (Ck (whole.dropWhile (· == 48))) (Bw rest)).1+(Hu (F6 16 (Ck (whole.dropWhile (· == 48))) (Bw rest)).2).2) else ((F6 16 (Ck (whole.dropWhile (· == 48))) (Bw rest)).1+(Hu (F6 16 (Ck (whole.dropWhile (· == 48))) (Bw rest)).2).2);(m,Db m)):=by
    unfold Fo Uv
    rw [A2 oO]
  have ht:∀ c∈whole.dropWhile (· == 48),BN c=true:=λc hc=>h3 c (List.dropWhile_sublist _ |>.subset hc)
  clear h3
  generalize whole.dropWhile (· == 48)=t at *
  have hs:=BM t
  have R:=BM rest
  have Hv:=E2 hv;have Ht:=E2 ht;have H4:=E2 h4;clear hv ht h4
  go_enter func181,ntmps181
  go_wp2_with first | (go_at_call 204;go_must (refine (hT _).mono ?_);rintro e J ⟨rfl,rfl⟩) | (refine Eb rfl _ _ _ _ rfl FV B1 Ga _ rfl ?_;intro cap J D a hg y)
  have hb1:=EZ hg
  have Hrow:=E2 a;clear a hg hT
  go_loop [8,10,21] (λn _ i=>∃ k:Nat,k<=t.length/\i=Ag k/\n=Ag (Ck (t.take k):Int)) (λ_ _ i=>t.length-(intOf i).toNat)
  case atStart=>exact ⟨0,FN _,rfl,rfl⟩
  case round =>
    obtain ⟨k,hk,rfl,rfl⟩:=hrel
    have G:=Q9 t k h1 Ht.out
    by_cases hkl:k<t.length
    · have s := GO t k hkl
      have hd:=Ek (Ht.out t[k] (by simp))
      have hc:=(Hrow.out k _ (Hj t k hkl)).1
      have Hstep:=E2 s;clear s
      generalize Ck (t.take k)=N at *
      generalize t[k].toNat=c at *
      go_wp2
      go_round
      case rel=>exact ⟨k+1,oO,by go_num,by rw [Hstep.out];go_num⟩
      case measure=>simp [intOf];omega
    · obtain rfl : k = t.length := by omega
      rw [D7] at G
      rw [D7]
      clear Hrow
      go_wp2_with (refine Eb rfl _ _ _ _ rfl FV B1 Ga _ rfl ?_;intro K L v a hg E)
      have hb2:=Ci hb1 (EZ hg)
      rw [y] at a
      have hB:w.heap.size<=w.heap.size+1:=by omega
      clear D hg hb1
      go_loopw [12,36] (λ_ i wr=>∃ k:Nat,k<=rest.length/\i=Ag k/\MF wr (w.heap.size+1) (Nv ((Bw rest).take k)++AN (rest.drop k))/\AL w wr) (λ_ i _=>rest.length-(intOf i).toNat)
      case atStart=>exact ⟨0,FN _,rfl,by simpa [Nv] using (show MF L (w.heap.size+1) (AN rest) from a),hb2⟩
      case round =>
        obtain ⟨k,hk,rfl,b,o⟩:=hrel
        clear a hb2 y E v
        by_cases hkl:k<rest.length
        · have hd := Ek (H4.out rest[k] (by simp))
          obtain ⟨hc,T⟩:=b k _ (YJ rest k hkl)
          have q:=b.set k (.int .u8 ((rest[k].toNat:Int)-48)) (by
            have:=(C1.1 (YJ rest k hkl)).1;exact this)
          rw [A11 rest k hkl hd.1] at q
          have Hset:=E2 q;clear q b
          generalize rest[k].toNat=c at *
          go_wp2
          go_roundw
          case rel=>exact ⟨k+1,oO,by go_num,Hset.out,o.setCell hB _⟩
          case measure=>simp [intOf];omega
        · obtain rfl : k = rest.length := by omega
          have u:MF wr (w.heap.size+1) (Nv (Bw rest)):=by
            have M:(Bw rest).take rest.length=Bw rest:=Al (by rw [El];omega)
            have O:rest.drop rest.length=[]:=by simp
            rw [M,O] at b
            simpa [AN] using b
          have Hrow3:=E2 u;clear b u
          have l:=El rest
          have g:=NM rest H4.out
          have Hdl:=E2 l;have Hdd:=E2 g;clear l g
          generalize Bw rest=d0 at *
          generalize Ck t=n0 at *
          obtain ⟨wo,rfl⟩:=eX wr
          go_wp2
          go_loopw [8,46] (λn i wr=>∃ (k:Nat) (N:Int) (d:List Nat),k<=16/\i=Ag k/\n=Ag N/\0<=N/\N+1<=100000 * 2 ^ k/\d.length=rest.length/\(∀ x∈d,x<10)/\MF wr (w.heap.size+1) (Nv d)/\AL w wr/\F6 (16-k) N d=F6 16 n0 d0) (λ_ i _=>16-(intOf i).toNat)
          case atStart=>exact ⟨0,n0,d0,oO,rfl,rfl,oO,by simp;omega,Hdl.out,Hdd.out,Hrow3.out,o,rfl⟩
          case round =>
            obtain ⟨k,N,d,hk,rfl,rfl,U,A,l,g,a,f,B⟩:=hrel
            have F:(2:Int) ^ k<=65536:=by
              have h:=Nat.pow_le_pow_right (show 0<2 by decide) hk
              have h2:((2 ^ k:Nat):Int)<=((2 ^ 16:Nat):Int):=by exact_mod_cast h
              simpa using h2
            have V:N<6553600000:=by omega
            have X:=Nl d g
            have P:=f.size
            have Hrr:=E2 B;have Hdl2:=E2 l;have Hdd2:=E2 g;have HN1:=E2 A
            have Hrow:=E2 a
            clear B l g A a o F
            by_cases hk16:k<16
            · go_wp2_with (go_at_call 205; go_must (refine (Kf _ _ _ d _ Hdl2.out Hrow.out Hdd2.out h2 w.heap.size hB).mono ?_); rintro e H ⟨rfl, j, hb4⟩)
              go_roundw
              case rel =>
                refine ⟨k+1,2 * N+(Hu d).2,(Hu d).1,oO,by go_num,by go_num,oO,?_,by rw [Om];exact Hdl2.out,Px d,j,f.trans hb4,?_⟩
                · have := HN1.out
                  rw [Int.pow_succ];omega
                · rw [<- Hrr.out,show 16-k=(16-(k+1))+1 from by omega];rfl
              case measure=>simp [intOf];omega
            · obtain rfl : k = 16 := by omega
              have C:(F6 16 n0 d0)=(N,d):=by rw [<- Hrr.out];rfl
              have Hrd:=E2 C;clear C
              cases minus with
              | true =>
                go_wp2_with first | (go_at_call 205;go_must (refine (Kf _ _ _ d _ Hdl2.out Hrow.out Hdd2.out h2 w.heap.size hB).mono ?_);rintro e H ⟨rfl,j,hb4⟩) | (go_at_call 162;go_must (refine (Mq _ _).mono ?_);rintro e Q ⟨rfl,rfl⟩)
                go_ret2
                refine ⟨?_,f.trans hb4⟩
                rw [Hv.out,Hrd.out];rfl
              | false =>
                go_wp2_with first | (go_at_call 205;go_must (refine (Kf _ _ _ d _ Hdl2.out Hrow.out Hdd2.out h2 w.heap.size hB).mono ?_);rintro e H ⟨rfl,j,hb4⟩) | (go_at_call 162;go_must (refine (Mq _ _).mono ?_);rintro e Q ⟨rfl,rfl⟩)
                go_ret2
                refine ⟨?_,f.trans hb4⟩
                rw [Hv.out,Hrd.out];rfl
end
section
theorem Pr (l:l8_) (n:Nat):(bs l).extract 0 n=bs (l.take n):=by rw [Ij];simp
theorem Ps (l:l8_) (n m:Nat) (h:m=l.length):(bs l).extract n m=bs (l.drop n):=by
 subst h;rw [Ij,Al (by simp)]
end
section
def G9 (digits:l8_) (p:Int):l8_:=digits.take p.toNat++List.replicate (p.toNat-digits.length) 48
def H6 (digits:l8_) (p:Int):l8_:=List.replicate (-p).toNat 48++digits.drop p.toNat
theorem UP (a b:l8_):Ck a<=Ck (a++b):=by
 unfold Ck
 rw [List.foldl_append]
 generalize a.foldl (λn c=>10 * n+(c.toNat-48)) 0=n
 induction b generalizing n with
 | nil=>simp
 | cons c r ih =>
  rw [EG]
  exact CT oO (ih _)
theorem L9 (l:l8_) (k:Nat):Ck (l.take k)<=Ck l:=by
 conv=>rhs;rw [<- Ds k l]
 exact UP _ _
theorem Pb (l:l8_):Ck (l.dropWhile (· == 48))=Ck l:=by
 induction l with
 | nil=>rfl
 | cons c r ih =>
  rw [List.dropWhile_cons]
  split
  ·
   next h =>
   rw [ih]
   have:c=48:=by simpa using h
   subst this
   simp [Ck]
  · rfl
theorem Pd (l:l8_) (n:Nat):n * 10 ^ l.length<=l.foldl (λn c=>10 * n+(c.toNat-48)) n:=by
 induction l generalizing n with
 | nil=>simp
 | cons c r ih =>
  rw [EG,Aa,Nat.pow_succ]
  refine CT ?_ (ih _)
  rw [Nat.mul_comm (10 ^ r.length) 10,<- Nat.mul_assoc]
  exact Cz _ oO
theorem Wj (l:l8_) (h:∀ c∈l,BN c=true):5<(l.dropWhile (· == 48)).length↔99999<Ck l:=by
 rw [<- Pb l]
 have ht:∀ c∈l.dropWhile (· == 48),BN c=true:=λc hc=>h c (List.dropWhile_sublist _ |>.subset hc)
 constructor
 ·
  intro hl
  cases hd:l.dropWhile (· == 48) with
  | nil=>rw [hd] at hl;simp at hl
  | cons c r =>
   have hc:(c == 48)=false:=by
    have:=List.head_dropWhile_not (p:=(· == 48)) (l:=l) (by rw [hd];simp)
    simpa [hd] using this
   have e:=Ek (ht c (by rw [hd];simp))
   have a:c≠48:=by simpa using hc
   have f:1<=c.toNat-48:=by
    rcases By 48 c.toNat with h' | h'
    · omega
    · exact Dp (UInt8.toNat_inj.1 (by show c.toNat=48;omega)) a
   rw [hd] at hl
   simp only [Aa] at hl
   have b:=Pd r (10 * 0+(c.toNat-48))
   have d:1 * 10 ^ 5<=(10 * 0+(c.toNat-48)) * 10 ^ r.length:=Nat.mul_le_mul oO (Nat.pow_le_pow_right dD oO)
   unfold Ck
   rw [EG]
   omega
 ·
  intro hn
  rcases By 5 (l.dropWhile (· == 48)).length with h' | h'
  · exact h'
  ·
   have b:=H9 _ ht
   have d:10 ^ (l.dropWhile (· == 48)).length<=10 ^ 5:=Nat.pow_le_pow_right dD h'
   omega
theorem PR (k:Nat):∀ (n:Int) (d:List Nat),(∀ x∈d,x<10)->∀ x∈(F6 k n d).2,x<10:=by
 induction k with
 | zero=>intro n d h;exact h
 | succ k ih=>intro n d h;exact ih _ _ (Px d)
end
section
theorem Nj (minus:Bool) (whole rest:l8_) (w:World) (h2:rest.length<=3000) (h3:∀ c∈whole,BN c=true) (h4:∀ c∈rest,BN c=true) :
    Cl 181 #[.bool minus,.string (bs whole),.string (bs rest)] w (.tuple #[Ag (Fo minus whole rest).1,.bool (Fo minus whole rest).2]):=by
  by_cases hb:5<(whole.dropWhile (· == 48)).length
  · have hv : Fo minus whole rest = (0, false) := by unfold Fo Uv; rw [A5 hb]
    rw [hv]
    exact Qj minus whole rest w hb
  · exact Qi minus whole rest w oO h2 h3 h4
def JY (l:l8_):Int × Bool :=
 if Gw (AX l).2 then
  (if (Fo (AX l).1 (C8 (AX l).2).1 (C8 (AX l).2).2.1).2 then ((Fo (AX l).1 (C8 (AX l).2).1 (C8 (AX l).2).2.1).1,true) else (0,false))
 else (0,false)
theorem H5 (l:l8_):(AX l).2.length<=l.length:=by
 cases l with
 | nil=>simp [AX]
 | cons c r =>
  simp only [AX]
  split
  · simp
  · split <;> simp
theorem IN (l:l8_) (h:Gw l=true):(∀ c∈(C8 l).1,BN c=true)/\(∀ c∈(C8 l).2.1,BN c=true):=by
 simp only [Gw,AG,AP] at h
 exact ⟨h.1.1,h.1.2⟩
theorem Pu (l:l8_) (w:World) (hl:64<l.length) :
  Calls Tryz.prog 159 #[.string (bs l)] w λe w'=>e=.returned (.tuple #[Ag 0,.bool false])/\w=w':=by
 have hs:=BM l
 go_enter func159,ntmps159
 go_wp2_with fail
 go_ret2
 exact ⟨rfl,rfl⟩
theorem O2 (l:l8_) (w:World) (hl:l.length<=64) :
  Cl 159 #[.string (bs l)] w (.tuple #[Ag (JY l).1,.bool (JY l).2]):=by
 have hs:=BM l
 have hS:=λw=>Ig l w oO
 have b:=H5 l
 have hP:JY l=(if Gw (AX l).2 then (if (Fo (AX l).1 (C8 (AX l).2).1 (C8 (AX l).2).2.1).2 then ((Fo (AX l).1 (C8 (AX l).2).1 (C8 (AX l).2).2.1).1,true) else (0,false)) else (0,false)):=rfl
 generalize AX l=sr at *
 obtain ⟨m,r⟩:=sr
 simp only at hP hS b
 have hM:=λw=>Jt r w oO
 have c:=Jv r
 have a:=IN r
 generalize Gw r=ok at *
 generalize C8 r=p at *
 obtain ⟨A,B,f⟩:=p
 simp only at hP hM a c
 cases ok with
 | false =>
  rw [A2 dD] at hP
  have HP:=E2 hP;clear hP a
  go_enter func159,ntmps159
  go_wp2_with first | (go_at_call 179;go_must (refine (hS _).mono ?_);rintro e d ⟨rfl,hb1⟩) | (go_at_call 180;go_must (refine (hM _).mono ?_);rintro e g ⟨rfl,hb2⟩)
  go_ret2
  exact ⟨by rw [HP.out];rfl,Ci hb1 hb2⟩
 | true =>
  rw [A5 rfl] at hP
  obtain ⟨hA,hB⟩:=a rfl
  have hV:=λw=>Nj m A B w oO hA hB
  have HA:=E2 hA;have HB:=E2 hB;clear a hA hB
  generalize Fo m A B=v at *
  obtain ⟨n,fit⟩:=v
  simp only at hP hV
  have HP:=E2 hP;clear hP
  cases fit
  all_goals
   go_enter func159,ntmps159
   go_wp2_with first | (go_at_call 179;go_must (refine (hS _).mono ?_);rintro e d ⟨rfl,hb1⟩) | (go_at_call 180;go_must (refine (hM _).mono ?_);rintro e g ⟨rfl,hb2⟩) | (go_at_call 181;go_must (refine (hV _).mono ?_);rintro e h ⟨rfl,hb3⟩)
   go_ret2
   exact ⟨by rw [HP.out];rfl,Ci (Ci hb1 hb2) hb3⟩
theorem KS (digits:l8_) (p:Int) (h:∀ c∈digits,BN c=true):∀ c∈G9 digits p,BN c=true:=by
 intro c hc
 rw [G9,Bj] at hc
 rcases hc with hc | hc
 · exact h c (EA hc)
 · rw [List.mem_replicate] at hc;rw [hc.2];rfl
theorem M0 (digits:l8_) (p:Int) (h:∀ c∈digits,BN c=true):∀ c∈H6 digits p,BN c=true:=by
 intro c hc
 rw [H6,Bj] at hc
 rcases hc with hc | hc
 · rw [List.mem_replicate] at hc;rw [hc.2];rfl
 · exact h c (JL hc)
def U8 (m:Bool) (o:Option Int):Int × Bool :=
 match o with
 | none=>(0,false)
 | some n=>if Db (if m then -n else n) then (if m then -n else n,true) else (0,false)
theorem WZ (l:l8_):JY l=if Gw (AX l).2 then U8 (AX l).1 (Uv (C8 (AX l).2).1 (C8 (AX l).2).2.1) else (0,false):=by
 unfold JY
 split
 ·
  unfold Fo U8
  cases Uv (C8 (AX l).2).1 (C8 (AX l).2).2.1 with
  | none=>rfl
  | some n =>
   simp only
 · rfl
end
section
def DQ (c:UInt8):Nat :=
 if 48<=c.toNat/\c.toNat<=57 then c.toNat-48 else if 97<=c.toNat/\c.toNat<=122 then c.toNat-87 else if 65<=c.toNat/\c.toNat<=90 then c.toNat-55 else 99
theorem A1c (c:UInt8):DQ c<=99:=by unfold DQ;split <;> (try split) <;> (try split) <;> omega
theorem DL {k:IntKind} {a b:Int} (h:a=b):Ending.returned (.int k a)=.returned (.int k b):=by rw [h]
theorem Xp (c:UInt8) (w:World) :
    Calls Tryz.prog 206 #[.int .u8 (c.toNat:Int)] w λe w'=>e=.returned (Ag (DQ c))/\w=w':=by
  have hc:c.toNat<256:=C7 c
  have hh:DQ c=if 48<=c.toNat/\c.toNat<=57 then c.toNat-48 else if 97<=c.toNat/\c.toNat<=122 then c.toNat-87 else if 65<=c.toNat/\c.toNat<=90 then c.toNat-55 else 99:=rfl
  have Hh:=E2 hh;clear hh
  generalize c.toNat=n at *
  by_cases h1:48<=n/\n<=57
  · obtain ⟨b, d⟩ := h1
    go_enter func206,ntmps206
    go_wp2
    go_ret
    exact ⟨DL (by rw [Hh.out,A5 ⟨b,d⟩];omega),rfl⟩
  · have a : n < 48 ∨ 57 < n := by omega
    by_cases h2:97<=n/\n<=122
    · obtain ⟨f, g⟩ := h2
      have H1:=E2 h1;clear h1 a
      go_enter func206,ntmps206
      go_wp2
      go_ret
      exact ⟨DL (by rw [Hh.out,A2 H1.out,A5 ⟨f,g⟩];omega),rfl⟩
    · have h : n < 97 ∨ 122 < n := by omega
      by_cases h3:65<=n/\n<=90
      · obtain ⟨i, j⟩ := h3
        have H1:=E2 h1;have H2:=E2 h2;clear h1 a h2 h
        go_enter func206,ntmps206
        go_wp2
        go_ret
        exact ⟨DL (by rw [Hh.out,A2 H1.out,A2 H2.out,A5 ⟨i,j⟩];omega),rfl⟩
      · have k : n < 65 ∨ 90 < n := by omega
        have H1:=E2 h1;have H2:=E2 h2;have H3:=E2 h3;clear h1 h2 h3
        go_enter func206,ntmps206
        go_wp2
        all_goals
          go_ret
          exact ⟨DL (by rw [Hh.out,A2 H1.out,A2 H2.out,A2 H3.out];rfl),rfl⟩
def It (l:l8_):Nat:=l.foldl (λn c=>min (10 * n+(c.toNat-48)) 1099511627776) 0
def FB (l:l8_):Int × Bool :=
 if (AX l).2.isEmpty || !(AX l).2.all BN then (0,false)
 else let n:Int:=if (AX l).1 then -(It (AX l).2:Int) else It (AX l).2
  (n,decide (-2147483648<=n) && decide (n<=2147483647))
def GJ (l:l8_):Int × Bool :=
 if (AX l).2.isEmpty || decide (3<(AX l).2.length) || !(AX l).2.all BN then (0,false)
 else (if (AX l).1 then -(Ck (AX l).2:Int) else Ck (AX l).2,true)
theorem Ug (l:l8_) (c:UInt8):It (l++[c])=min (10 * It l+(c.toNat-48)) 1099511627776:=by simp [It]
theorem Uf (l:l8_) (k:Nat) (h:k<l.length):It (l.take (k+1))=min (10 * It (l.take k)+(l[k].toNat-48)) 1099511627776:=by
 rw [B7 h,Ug]
theorem Uh (l:l8_):∀ n,n<=1099511627776->l.foldl (λn c=>min (10 * n+(c.toNat-48)) 1099511627776) n=min (l.foldl (λn c=>10 * n+(c.toNat-48)) n) 1099511627776:=by
 induction l with
 | nil=>intro n h;simp;omega
 | cons c r ih =>
  intro n h
  rw [EG,EG,ih _ oO]
  by_cases hb:10 * n+(c.toNat-48)<=1099511627776
  · rw [Nat.min_eq_left hb]
  ·
   have a:=Pd r (min (10 * n+(c.toNat-48)) 1099511627776)
   have d:=Pd r (10 * n+(c.toNat-48))
   have b:1<=10 ^ r.length:=Nat.one_le_pow _ _ dD
   have e:min (10 * n+(c.toNat-48)) 1099511627776=1099511627776:=by omega
   rw [e] at a ⊢
   have f:1099511627776 * 1<=1099511627776 * 10 ^ r.length:=Nat.mul_le_mul_left _ b
   have g:1099511627776 * 10 ^ r.length<=(10 * n+(c.toNat-48)) * 10 ^ r.length:=Cz _ oO
   omega
theorem Sz (l:l8_):It l=min (Ck l) 1099511627776:=Uh l 0 oO
theorem A0G {a b:Int} {c d:Bool} (h:a=b) (h':c=d):Ending.returned (.tuple #[Ag a,.bool c])=Ending.returned (.tuple #[Ag b,.bool d]):=by rw [h,h']
theorem Ni (l : l8_) (w : World) (hl : l.length ≤ 1000) :
    Cl 183 #[.string (bs l)] w (.tuple #[Ag (FB l).1,.bool (FB l).2]):=by
  have hS:=λw=>Ig l w oO
  have g:=H5 l
  have hW:FB l=(if (AX l).2.isEmpty || !(AX l).2.all BN then (0,false) else let n:Int:=if (AX l).1 then -(It (AX l).2:Int) else It (AX l).2
    (n,decide (-2147483648<=n) && decide (n<=2147483647))):=rfl
  generalize AX l=sr at *
  obtain ⟨m,r⟩:=sr
  simp only at hW hS g
  have hs:=BM r
  have hT:=Fk
  cases r with
  | nil =>
    have HW:=E2 hW;clear hW
    go_enter func183,ntmps183
    go_wp2_with (go_at_call 179;go_must (refine (hS _).mono ?_);rintro e h ⟨rfl,hb1⟩)
    go_ret2
    exact ⟨by rw [HW.out];rfl,hb1⟩
  | cons c0 r0 =>
    have s:=Zz c0 r0
    have hI:(c0::r0).isEmpty=false:=rfl
    rw [hI,Bool.false_or] at hW
    clear hI hT
    have a:=λw=>FO (c0::r0) w oO
    generalize c0::r0=r at *
    cases hall:r.all BN with
    | false =>
      rw [hall,A5 dD] at hW
      rw [hall] at a
      have HW:=E2 hW;clear hW hall
      go_enter func183,ntmps183
      go_wp2_with first | (go_at_call 179;go_must (refine (hS _).mono ?_);rintro e h ⟨rfl,hb1⟩) | (go_at_call 203;go_must (refine (a _).mono ?_);rintro e o ⟨rfl,hb2⟩)
      go_ret2
      exact ⟨by rw [HW.out];rfl,Ci hb1 hb2⟩
    | true =>
      rw [hall,A2 dD] at hW
      rw [hall] at a
      have d:∀ c∈r,BN c=true:=AP.1 hall
      have HW:=E2 hW;have Hdig:=E2 d;clear hW d hall
      go_enter func183,ntmps183
      go_wp2_with first | (go_at_call 179;go_must (refine (hS _).mono ?_);rintro e h ⟨rfl,hb1⟩) | (go_at_call 203;go_must (refine (a _).mono ?_);rintro e o ⟨rfl,hb2⟩) | (refine Eb rfl _ _ _ _ rfl FV B1 Ga _ rfl ?_;intro cap u q f hg t)
      have hb3:=Ci (Ci hb1 hb2) (EZ hg)
      have Hrow:=E2 f;clear f hg hb1 hb2 hS a
      go_loop [5,23] (λn i=>∃ k:Nat,k<=r.length/\i=Ag k/\n=Ag (It (r.take k):Int)) (λ_ i=>r.length-(intOf i).toNat)
      case atStart=>exact ⟨0,FN _,rfl,rfl⟩
      case round =>
        obtain ⟨k,hk,rfl,rfl⟩:=hrel
        have j:It (r.take k)<=1099511627776:=by rw [Sz];omega
        by_cases hkl:k<r.length
        · have b := Uf r k hkl
          have hd:=Ek (Hdig.out r[k] (by simp))
          have hc:=(Hrow.out k _ (Hj r k hkl)).1
          have Hstep:=E2 b;clear b
          generalize It (r.take k)=N at *
          generalize r[k].toNat=c at *
          go_wp2
          go_round
          case rel=>exact ⟨k+1,oO,by go_num,by rw [Hstep.out];go_num⟩
          case measure=>simp [intOf];omega
        · obtain rfl : k = r.length := by omega
          rw [D7] at j ⊢
          clear Hrow
          generalize It r=N at *
          cases m
          all_goals
            go_wp2
            all_goals
              go_ret2
              refine ⟨?_,hb3⟩
              rw [HW.out]
              refine A0G rfl ?_
              rw [B3]
              simp
              try omega
theorem Xo (l : l8_) (w : World) (hl : l.length ≤ 1000) :
    Cl 185 #[.string (bs l)] w (.tuple #[Ag (GJ l).1,.bool (GJ l).2]):=by
  have hS:=λw=>Ig l w oO
  have h:=H5 l
  have hW:GJ l=(if (AX l).2.isEmpty || decide (3<(AX l).2.length) || !(AX l).2.all BN then (0,false) else (if (AX l).1 then -(Ck (AX l).2:Int) else Ck (AX l).2,true)):=rfl
  generalize AX l=sr at *
  obtain ⟨m,r⟩:=sr
  simp only at hW hS h
  have hs:=BM r
  have hT:=Fk
  cases r with
  | nil =>
    have HW:=E2 hW;clear hW
    go_enter func185,ntmps185
    go_wp2_with (go_at_call 179;go_must (refine (hS _).mono ?_);rintro e j ⟨rfl,hb1⟩)
    go_ret2
    exact ⟨by rw [HW.out];rfl,hb1⟩
  | cons c0 r0 =>
    have t:=Zz c0 r0
    have hI:(c0::r0).isEmpty=false:=rfl
    rw [hI,Bool.false_or] at hW
    clear hI hT
    have a:=λw=>FO (c0::r0) w oO
    generalize c0::r0=r at *
    by_cases h3:3<r.length
    · rw [AR h3, Bool.true_or, A5 rfl] at hW
      have HW:=E2 hW;clear hW
      go_enter func185,ntmps185
      go_wp2_with first | (go_at_call 179;go_must (refine (hS _).mono ?_);rintro e j ⟨rfl,hb1⟩) | (go_at_call 203;go_must (refine (a _).mono ?_);rintro e o ⟨rfl,hb2⟩)
      go_ret2
      exact ⟨by rw [HW.out];rfl,hb1⟩
    · rw [AH h3, Bool.false_or] at hW
      cases hall:r.all BN with
      | false =>
        rw [hall,A5 dD] at hW
        rw [hall] at a
        have HW:=E2 hW;clear hW hall
        go_enter func185,ntmps185
        go_wp2_with first | (go_at_call 179;go_must (refine (hS _).mono ?_);rintro e j ⟨rfl,hb1⟩) | (go_at_call 203;go_must (refine (a _).mono ?_);rintro e o ⟨rfl,hb2⟩)
        go_ret2
        exact ⟨by rw [HW.out];rfl,Ci hb1 hb2⟩
      | true =>
        rw [hall,A2 dD] at hW
        rw [hall] at a
        have d:∀ c∈r,BN c=true:=AP.1 hall
        have HW:=E2 hW;have Hdig:=E2 d;clear hW d hall
        go_enter func185,ntmps185
        go_wp2_with first | (go_at_call 179;go_must (refine (hS _).mono ?_);rintro e j ⟨rfl,hb1⟩) | (go_at_call 203;go_must (refine (a _).mono ?_);rintro e o ⟨rfl,hb2⟩) | (refine Eb rfl _ _ _ _ rfl FV B1 Ga _ rfl ?_;intro cap v s f hg u)
        have hb3:=Ci (Ci hb1 hb2) (EZ hg)
        have Hrow:=E2 f;clear f hg hb1 hb2 hS a
        have g:∀ k,Ck (r.take k)<1000:=by
          intro k
          have x:=L9 r k
          have y:=H9 r Hdig.out
          have A:10 ^ r.length<=10 ^ 3:=Nat.pow_le_pow_right dD oO
          omega
        have Hnat:=E2 g;clear g
        go_loop [5,28] (λn i=>∃ k:Nat,k<=r.length/\i=Ag k/\n=Ag (Ck (r.take k):Int)) (λ_ i=>r.length-(intOf i).toNat)
        case atStart=>exact ⟨0,FN _,rfl,rfl⟩
        case round =>
          obtain ⟨k,hk,rfl,rfl⟩:=hrel
          have q:=Hnat.out k
          by_cases hkl:k<r.length
          · have b := GO r k hkl
            have hd:=Ek (Hdig.out r[k] (by simp))
            have hc:=(Hrow.out k _ (Hj r k hkl)).1
            have Hstep:=E2 b;clear b
            generalize Ck (r.take k)=N at *
            generalize r[k].toNat=c at *
            go_wp2
            go_round
            case rel=>exact ⟨k+1,oO,by go_num,by rw [Hstep.out];go_num⟩
            case measure=>simp [intOf];omega
          · obtain rfl : k = r.length := by omega
            rw [D7] at q ⊢
            clear Hrow Hnat
            generalize Ck r=N at *
            cases m
            all_goals
              go_wp2
              go_ret2
              exact ⟨by rw [HW.out];rfl,hb3⟩
theorem Un (c:UInt8) (k:Nat):Lib.repeatL [c] k=List.replicate k c:=by
 induction k with
 | zero=>rfl
 | succ k ih=>rw [Lib.repeatL,ih];rfl
theorem A1D (k:Nat) (w:World) (hk:k<=100000) :
  Cl 208 #[.string ⟨#[48]⟩,Ag k] w (.string (bs (List.replicate k 48))):=by
 rw [<- Un]
 exact Tryz.strings_Repeat ⟨#[48]⟩ k w oO (by show 1 * k<=_;omega)
theorem Ul {a b a' b':ByteArray} (h1:a=a') (h2:b=b'):Ending.returned (.tuple #[.string a,.string b])=Ending.returned (.tuple #[.string a',.string b']):=by
 rw [h1,h2]
theorem Rb (A B:l8_) (k:Int) (w:World) (hA:A.length+B.length<=1000) (hk:-2000<=k) (hk2:k<=2000) :
    Calls Tryz.prog 186 #[.string (bs A),.string (bs B),Ag k] w λe w'=>e=.returned (.tuple #[.string (bs (G9 (A++B) (A.length+k))),.string (bs (H6 (A++B) (A.length+k)))])/\AL w w':=by
  have sA:=BM A
  have sB:=BM B
  have j:=Er A B
  have o:(bs (A++B)).size=A.length+B.length:=by rw [BM];simp
  have a:(A++B).length=A.length+B.length:=by simp
  by_cases h1:(A.length:Int)+k<0
  · have hZ := fun w => A1D (-((A.length : Int) + k)).toNat w oO
    have h:(((-((A.length:Int)+k)).toNat:Nat):Int)=-((A.length:Int)+k):=by omega
    rw [h] at hZ
    have eW:G9 (A++B) (A.length+k)=[]:=by
      unfold G9
      have:((A.length:Int)+k).toNat=0:=by omega
      rw [this];simp
    have eR:H6 (A++B) (A.length+k)=List.replicate (-((A.length:Int)+k)).toNat 48++(A++B):=by
      unfold H6
      have:((A.length:Int)+k).toNat=0:=by omega
      rw [this];rfl
    have d:=BM (List.replicate (-((A.length:Int)+k)).toNat (48:UInt8))
    rw [CH] at d
    have l:(bs (List.replicate (-((A.length:Int)+k)).toNat (48:UInt8))).size<=3000:=by rw [d];omega
    have EW:=E2 eW;have ER:=E2 eR;clear eW eR h d
    generalize List.replicate (-((A.length:Int)+k)).toNat (48:UInt8)=Z at *
    have c:=Er Z (A++B)
    have Hcat2:=E2 c;clear c a
    generalize A++B=C at *
    go_enter func186,ntmps186
    go_wp2_with (go_at_call 208;go_must (refine (hZ _).mono ?_);rintro e m ⟨rfl,hb1⟩)
    go_ret2
    exact ⟨Ul (by rw [EW.out];rfl) (by rw [ER.out];exact Hcat2.out),hb1⟩
  · by_cases h2 : (A.length : Int) + (B.length : Int) < (A.length : Int) + k
    · have hZ := fun w => A1D (((A.length : Int) + k) - ((A.length : Int) + (B.length : Int))).toNat w oO
      have h:(((((A.length:Int)+k)-((A.length:Int)+(B.length:Int))).toNat:Nat):Int)=((A.length:Int)+k)-((A.length:Int)+(B.length:Int)):=by omega
      rw [h] at hZ
      have b:(A++B++List.replicate (((A.length:Int)+k)-((A.length:Int)+(B.length:Int))).toNat (48:UInt8)).length=((A.length:Int)+k).toNat:=by
        simp;omega
      have eW:G9 (A++B) (A.length+k)=A++B++List.replicate (((A.length:Int)+k)-((A.length:Int)+(B.length:Int))).toNat 48:=by
        unfold G9
        rw [Al (by rw [a];omega)]
        congr 2;rw [a];omega
      have eR:H6 (A++B) (A.length+k)=[]:=by
        unfold H6
        have:(-((A.length:Int)+k)).toNat=0:=by omega
        rw [this,Bv (by rw [a];omega)];rfl
      have d:(bs (List.replicate (((A.length:Int)+k)-((A.length:Int)+(B.length:Int))).toNat (48:UInt8))).size<=3000:=by rw [BM];simp;omega
      have EW:=E2 eW;have ER:=E2 eR;clear eW eR
      generalize List.replicate (((A.length:Int)+k)-((A.length:Int)+(B.length:Int))).toNat (48:UInt8)=Z at *
      have c:=Er (A++B) Z
      have i:=BM (A++B++Z)
      have f:=Pr (A++B++Z) ((A.length:Int)+k).toNat
      have g:=Ps (A++B++Z) ((A.length:Int)+k).toNat ((A.length:Int)+k).toNat b.symm
      rw [<- b,D7,b] at f
      rw [<- b,NQ,b] at g
      rw [b] at i
      clear h a
      have q:((((A.length:Int)+k).toNat:Nat):Int)=(A.length:Int)+k:=by omega
      generalize A++B=C at *
      generalize C++Z=D at *
      clear b
      go_enter func186,ntmps186
      go_wp2_with (go_at_call 208;go_must (refine (hZ _).mono ?_);rintro e m ⟨rfl,hb1⟩)
      have X1:=E2 f;have X2:=E2 g;clear f g
      go_quiet (fail)
      go_wp2
      go_ret2
      exact ⟨Ul (by rw [EW.out];exact X1.out) (by rw [ER.out];rfl),hb1.trans (Nm _ _ |>.mono hb1.size)⟩
    · have eW : G9 (A ++ B) (A.length + k) = (A ++ B).take ((A.length : Int) + k).toNat := by
        unfold G9
        rw [show ((A.length:Int)+k).toNat-(A++B).length=0 from by rw [a];omega];simp
      have eR:H6 (A++B) (A.length+k)=(A++B).drop ((A.length:Int)+k).toNat:=by
        unfold H6
        have:(-((A.length:Int)+k)).toNat=0:=by omega
        rw [this];rfl
      have f:=Pr (A++B) ((A.length:Int)+k).toNat
      have g:=Ps (A++B) ((A.length:Int)+k).toNat (A.length+B.length) a.symm
      have EW:=E2 eW;have ER:=E2 eR;have X1:=E2 f;have X2:=E2 g;clear eW eR f g a
      generalize A++B=C at *
      go_enter func186,ntmps186
      go_wp2_with fail
      go_quiet (fail)
      go_wp2
      go_ret2
      exact ⟨Ul (by rw [EW.out];exact X1.out) (by rw [ER.out];exact X2.out),Nm _ _⟩
end
end Go.Proofs.YtiddobdioipidaaGreatDoor
