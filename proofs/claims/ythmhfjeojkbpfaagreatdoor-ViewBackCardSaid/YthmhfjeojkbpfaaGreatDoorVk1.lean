/-
  What the claim leans on, part 1: pruned and joined by my own tool out of the texts that stand in wip/ as templates.
-/
import Derived.WalkKit
import Derived.WalkSpells
import Derived.WalkLawsBesides
import Derived.Test.YthmhfjeojkbpfaaGreatDoorRows
import Derived.Deep.QuietTactic
import Derived.StillTail
import Derived.Laws.BytesString
import Derived.Laws.Slices
import Derived.Carry
import Derived.ChangeSlices
import Derived.Lib.ConvBytes
import Derived.Laws.AppendOwn
import Derived.Lib.FrozenHead
import Derived.Lib.AppendStr
import Derived.Laws.CopyRow
import Derived.Deep.MidRow
import Derived.Lib.SliceRun
import Derived.Deep.Slices
import Derived.ProofKit
import Derived.OpenShut
import Derived.Stop.BytesEq
import Derived.Shelf.Strings.Builder1
import Derived.Shelf.Strings.Builder2
import Derived.Shelf.Strings.Trim
import Derived.Shelf.Small.Utf8
import Derived.Shelf.Small.Strs
import Derived.Shelf.Strings.BuilderF
import Derived.Shelf.Strings.BuilderK
import Derived.Shelf.Strings.Builder2Cap
import Derived.Shelf.Strings.Search1
import Derived.Shelf.Strings.Search2
import Derived.Shelf.Strings.Cut
import Derived.Shelf.LaysM
import Derived.Shelf.Strings.Shaped
import Derived.Shelf.Strings.Prefix
import Derived.Shelf.Unicode.Decode
import Derived.Shelf.Strings.Runes
import Derived.Shelf.Strings.IndexAny
import Derived.Shelf.Strings.AsciiSet
import Derived.Shelf.Strings.IndexAnyAll
import Derived.Shelf.Bits.Mul64
import Derived.Shelf.Strings.Repeat
import Derived.Shelf.Unicode.DecodeSlow
import Derived.Shelf.Unicode.DecodeAny
import Derived.Shelf.Unicode.DecodeLast
import Derived.Shelf.Strings.BuilderCap
import Derived.Test.YthmhfjeojkbpfaaGreatDoorProg
import Derived.Shelf.Strings.SlTrimAscii
import Derived.BigQuiet
import Derived.Deep.DeepCutAuto
import Derived.Recover
import Derived.Lib.AppendZerosOnto
import Derived.Laws.OwnMore
import Derived.OrdersHeld
import Derived.Laws.Entries
import Derived.RangeFuncIn
import Derived.RangeFuncLeaves
import Derived.RangeFuncOwn
import Derived.Test.YthmhfjeojkbpfaaGreatDoorCards
import Derived.Test.YthmhfjeojkbpfaaGreatDoorTie
import Derived.Deep.DeepHandedRow
import Derived.Lib.LaidTab
set_option maxHeartbeats 6400000
set_option maxRecDepth 100000
namespace Go.Proofs.YthmhfjeojkbpfaaGreatDoor
open Go.RowKit
open Go.Proofs.Tryz
abbrev l8_:=List UInt8
abbrev Dm:=@And.intro
abbrev B0:=@Array.getD_eq_getD_getElem?
abbrev Gb:=@Array.getElem?_eq_getElem
abbrev Dw:=@Array.getElem?_eq_none
abbrev Bs:=@Array.getElem?_eq_some_iff
abbrev DN:=@Array.getElem?_toList
abbrev A8T:=@Bool.and_eq_false_iff
abbrev A3:=@Bool.and_eq_true
abbrev N0:=@Bool.and_false
abbrev Ka:=@Bool.eq_false_iff
abbrev AU:=@Bool.eq_iff_iff
abbrev A5O:=@Bool.false_and
abbrev By:=@Bool.false_eq_true
abbrev BI:=@Bool.not_eq_false'
abbrev AH:=@Bool.not_eq_true'
abbrev E1:=@Bool.or_eq_false_iff
abbrev Bo:=@Bool.or_eq_true
abbrev Cx:=@Bool.true_and
abbrev BH:=@DataW.trod_int
abbrev Cw:=@List.all_cons
abbrev Au:=@List.all_eq_true
abbrev AE:=@List.append_assoc
abbrev BK:=@List.append_nil
abbrev DE:=@List.cons.injEq
abbrev GR:=@List.cons_append
abbrev K9:=@List.drop_drop
abbrev Ap:=@List.drop_eq_getElem_cons
abbrev B9:=@List.drop_eq_nil_of_le
abbrev F3:=@List.drop_length
abbrev TE:=@List.drop_zero
abbrev Cz:=@List.eq_nil_of_length_eq_zero
abbrev CR:=@List.flatMap_cons
abbrev DD:=@List.foldl_cons
abbrev BW:=@List.getD_eq_getElem?_getD
abbrev A77:=@List.getElem?_append_left
abbrev A5N:=@List.getElem?_append_right
abbrev A7:=@List.getElem?_eq_getElem
abbrev AK:=@List.getElem?_eq_none
abbrev BR:=@List.getElem?_eq_some_iff
abbrev Gt:=@List.getElem_append_left
abbrev Ga:=@List.getElem_append_right
abbrev Hq:=@List.getElem_cons_succ
abbrev AX:=@List.getElem_cons_zero
abbrev AJ:=@List.getElem_mem
abbrev A5:=@List.length_append
abbrev A8:=@List.length_cons
abbrev B4:=@List.length_drop
abbrev Cp:=@List.length_eq_zero_iff
abbrev BD:=@List.length_map
abbrev Ae:=@List.length_nil
abbrev HH:=@List.length_replicate
abbrev DM:=@List.length_reverse
abbrev CD:=@List.length_singleton
abbrev AT:=@List.length_take
abbrev BC:=@List.map_append
abbrev Co:=@List.map_cons
abbrev DT:=@List.map_nil
abbrev Ba:=@List.mem_append
abbrev Ar:=@List.mem_cons
abbrev IE:=@List.mem_map
abbrev Eu:=@List.mem_of_mem_drop
abbrev Dv:=@List.mem_of_mem_take
abbrev Am:=@List.mem_singleton
abbrev CF:=@List.nil_append
abbrev AA:=@List.not_mem_nil
abbrev A0T:=@List.take_append
abbrev HG:=@List.take_append_drop
abbrev Cs:=@List.take_length
abbrev AR:=@List.take_of_length_le
abbrev B7:=@List.take_succ_eq_append_getElem
abbrev A5M:=@List.take_zero
abbrev CY:=@Nat.eq_of_beq_eq_true
abbrev Ho:=@Nat.eq_zero_or_pos
abbrev CE:=@Nat.lt_of_lt_of_le
abbrev D9:=@Nat.lt_of_succ_le
abbrev BU:=@Nat.lt_or_ge
abbrev Cb:=@Nat.lt_succ_iff_lt_or_eq
abbrev A0S:=@Nat.lt_succ_self
abbrev Cm:=@Nat.mul_le_mul_right
abbrev A8f:=@Nat.ne_of_lt
abbrev K8:=@Nat.sub_self
abbrev EF:=@Nat.zero_add
abbrev DC:=@Option.some.inj
abbrev Bm:=@Option.some.injEq
abbrev CQ:=@Prod.mk.injEq
abbrev B6:=@Result.andThen_ok
abbrev BB:=@Sem.run_bind
abbrev CX:=@Sem.run_pure
abbrev BG:=@True.intro
abbrev Ce:=@UInt8.toNat_lt
abbrev DL:=@beq_eq_false_iff_ne
abbrev Cv:=@bodyPost_ret
abbrev Bc:=@congrArg
abbrev D5:=@decide_eq_decide
abbrev Al:=@decide_eq_false
abbrev Aq:=@decide_eq_false_iff_not
abbrev Aj:=@decide_eq_true
abbrev Ab:=@decide_eq_true_eq
abbrev A1:=@if_neg
abbrev A6:=@if_pos
abbrev AY:=@not_false_eq_true
abbrev C8:=@or_false
abbrev B8:=@run_underlying
abbrev g22_:=@isAgg22
abbrev P3:=@isAgg29
abbrev Bw:=@isAgg3
abbrev Gs:=@isAgg30
abbrev JL:=@isAgg34
abbrev Kj:=@isAgg38
abbrev KH:=@isAgg39
abbrev g4_:=@isAgg4
abbrev Ou:=@isAgg5
abbrev Ui:=@isAgg65
abbrev P2:=@isAgg69
abbrev Rq:=@isAgg71
abbrev GN:=@isAgg72
abbrev KP:=@isAgg9
abbrev G3:=@sizeOf22
abbrev MK:=@sizeOf29
abbrev B5:=@sizeOf3
abbrev Gq:=@sizeOf30
abbrev IL:=@sizeOf34
abbrev JH:=@sizeOf37
abbrev GA:=@sizeOf38
abbrev Hu:=@sizeOf39
abbrev Ot:=@sizeOf4
abbrev MJ:=@sizeOf41
abbrev IK:=@sizeOf42
abbrev X8:=@sizeOf44
abbrev I7:=@sizeOf5
abbrev Fs:=@sizeOf57
abbrev Kr:=@sizeOf61
abbrev Ey:=@sizeOf68
abbrev OH:=@sizeOf69
abbrev Lw:=@sizeOf71
abbrev EO:=@sizeOf72
abbrev Lv:=@sizeOf9
abbrev Kq:=@sizeOf94
abbrev Il:=@sizeOf99
abbrev CL:=@underlying112
abbrev G1:=@underlying133
abbrev Ec:=@underlying147
abbrev Dt:=@underlying180
abbrev SF:=@underlying216
abbrev Bu:=@underlying22
abbrev Qj:=@underlying23
abbrev A0Z:=@underlying25
abbrev KU:=@underlying29
abbrev JQ:=@underlying3
abbrev LJ:=@underlying30
abbrev Fj:=@underlying34
abbrev UH:=@underlying35
abbrev GH:=@underlying37
abbrev Fi:=@underlying38
abbrev Dh:=@underlying39
abbrev u4_:=@underlying4
abbrev CT:=@underlying41
abbrev DU:=@underlying42
abbrev Dx:=@underlying44
abbrev Oz:=@underlying47
abbrev Lk:=@underlying5
abbrev CS:=@underlying57
abbrev PH:=@underlying61
abbrev Fb:=@underlying68
abbrev WF:=@underlying69
abbrev NB:=@underlying71
abbrev EY:=@underlying72
abbrev BL:=@underlying74
abbrev TK:=@underlying80
abbrev Ju:=@underlying9
abbrev MH:=@underlying92
abbrev JF:=@underlying94
abbrev Kb:=@underlying97
abbrev CB:=@underlying99
abbrev IF:=@zeroValue147
abbrev PG:=@zeroValue3
abbrev PF:=@zeroValue42
abbrev PE:=@zeroValue5
abbrev LG:=@zeroValue57
abbrev RY:=@zeroValue61
abbrev z9_:=@zeroValue9
abbrev Ov:=@zeroValue94
abbrev Jg:=@zeroValue99
section
theorem Ev {p:Prop} (h:p):Hid p:=h
def Oq (w:World) (b:Nat) (l:List Value):Prop:=∀ j v,l[j]?=some v->w.cell? ⟨b,j,none⟩=some v/\w.frozen? ⟨b,j,none⟩=false
theorem Oq.set {w:World} {b:Nat} {l:List Value} (h:Oq w b l) (i:Nat) (v:Value) (hi:i<l.length):Oq (w.setCell ⟨b,i,none⟩ v) b (l.set i v):=by
 intro j u hj
 rw [World.frozen?_setCell]
 by_cases e:i=j
 ·
  subst e
  rw [List.getElem?_set_self hi] at hj
  obtain rfl:v=u:=by simpa using hj
  obtain ⟨a,c⟩:=h i l[i] (by simp [hi])
  exact ⟨World.cell?_setCell_same _ _ _ a,c⟩
 ·
  rw [List.getElem?_set_ne e] at hj
  obtain ⟨a,c⟩:=h j u hj
  rw [World.cell?_setCell_other _ _ _ _ (by intro h;simp at h)]
  exact ⟨a,c⟩
def AI (l:l8_):List Value:=l.map λ(c:UInt8)=>Value.int .u8 (c.toNat:Int)
theorem DJ {w w1 w2:World} (h:Below w.heap.size w w1) (k:Below w1.heap.size w1 w2):Below w.heap.size w w2:=h.trans (k.mono h.size)
theorem Pc (w:World) (q:Nat):Below w.heap.size w (w.drewN q):=⟨rfl,rfl,rfl,Nat.le_refl _,λ_ _=>rfl⟩
section
variable {P:Program}
theorem Ss (w:World) (s:ByteArray) (cap:Nat) (e:TypeId) (hc:s.size<=cap):Oq (w.drew.alloc (.cells (bytesRow s cap) e ((bytesRow s cap).size,(bytesRow s cap).size+1))) w.heap.size (AI s.data.toList):=by
 intro j v hj
 have hj':j<s.data.size:=by
  rcases BU j s.data.size with h | h
  · exact h
  · rw [AK (by simpa [AI] using h)] at hj;cases hj
 have c:(bytesRow s cap).size=cap:=by
  unfold bytesRow
  have a:s.data.size=s.size:=rfl
  simp [a];omega
 constructor
 ·
  have b:=World.cell?_alloc_mark w.drew (bytesRow s cap) e ((bytesRow s cap).size,(bytesRow s cap).size+1) j
  have d:=bytesRow_at s cap j hj'
  have a:w.drew.heap.size=w.heap.size:=rfl
  rw [a] at b
  rw [b,d,<- hj]
  simp only [AI,List.getElem?_map,DN]
  rw [Gb hj'];rfl
 ·
  have b:=World.frozen?_alloc_mark w.drew (bytesRow s cap) e (bytesRow s cap).size ((bytesRow s cap).size+1) j
  have a:w.drew.heap.size=w.heap.size:=rfl
  rw [a] at b
  have f:s.data.size=s.size:=rfl
  rw [b,c]
  simp;omega
theorem EA {ops:Array Oper} {rest:List Oper} {o:Oper} {a:Act} {Q:Exit->Act->World->Prop} {w:World} (hg:o.guard=none) (x:Operand) (ts tb te:TypeId) (hop:o.op=.convert ts tb x)
  (h1:P.underlying ts=some .string) (h2:P.underlying tb=some (.slice te)) (h3:P.underlying te=some (.int .u8)) (s:ByteArray) (hx:a.eval x=.string s)
  (h : ∀ cap w', s.size ≤ cap → Oq w' w.heap.size (AI s.data.toList) → w.grownBy w' none → w'.heap.size = w.heap.size + 1 →
   wpList P ops Q rest (a.put o.dst (.slice (some ⟨w.heap.size,0,none⟩) s.size cap)) w'):wpList P ops Q (o::rest) a w:=by
 refine wpList_plain hg λK hK=>?_
 have hr:=run_bytes_of_string (P:=P) w ts tb te s h1 h2 h3
 unfold Oper.wp
 simp only [execOp,hop,hx,BB,hr,Result.andThen,CX,Oper.upon]
 refine hK _ _ (h _ _ (grownCap_ge w s.size 0 te) ?_ ?_ ?_)
 · exact Ss w s _ te (grownCap_ge w s.size 0 te)
 · exact ⟨rfl,rfl,rfl,by simp,λk hk _=>heap_alloc_old w.drew _ hk⟩
 · simp
theorem FI {w w':World} (h:w.grownBy w' none):Below w.heap.size w w' :=
 (Below.refl _ _).grown h (Nat.le_refl _) (by intro k hk;cases hk)
end
end
section
def Ao (n:Int):Bool:=decide (-2147483648<=n) && decide (n<=2147483647)
theorem Mz {n:Int} (h:-2147483648<=n) (h':n<=2147483647):Ao n=true:=by simp [Ao,h,h']
theorem Oa {n:Int} (h:n < -2147483648):Ao n=false:=by
 have:¬ (-2147483648<=n):=by omega
 simp [Ao,this]
theorem VV {n:Int} (h:2147483647<n):Ao n=false:=by
 have:¬ (n<=2147483647):=by omega
 simp [Ao,this]
theorem IV (n:Int) (w:World) :
  Calls Tryz.prog 111 #[.int .i64 n] w λe w'=>e=.returned (.bool (Ao n))/\w=w':=by
 go_enter func111,ntmps111
 go_wp2
 ·
  go_ret
  have h:-2147483648<=n:=by assumption
  exact ⟨by simp [Ao,h],rfl⟩
 ·
  go_ret
  have h:n < -2147483648:=by assumption
  exact ⟨by simp [Oa h],rfl⟩
theorem H7 (n:Int) (w:World) :
  Calls Tryz.prog 15 #[.int .i64 n] w λe w'=>e=.returned (.bool (Ao n))/\w=w':=by
 go_enter func15,ntmps15
 go_wp2
 ·
  go_ret
  have h:-2147483648<=n:=by assumption
  exact ⟨by simp [Ao,h],rfl⟩
 ·
  go_ret
  have h:n < -2147483648:=by assumption
  exact ⟨by simp [Oa h],rfl⟩
def ch (n:Int):UInt8:=UInt8.ofNat n.toNat
def bs (l:l8_):ByteArray:=⟨l.toArray⟩
theorem FH (a b:l8_):bs a++bs b=bs (a++b):=by
 apply ByteArray.ext
 simp [bs]
theorem BE (l:l8_):(bs l).size=l.length:=by simp [bs,ByteArray.size]
def DY (n:Nat):l8_ :=
 if n<10 then [ch (48+n)] else DY (n / 10)++[ch (48+(n % 10:Nat))]
termination_by n
theorem JA (n:Nat) (h:n<10):DY n=[ch (48+n)]:=by rw [DY,A6 h]
theorem Rx (n:Nat) (h:10<=n):DY n=DY (n / 10)++[ch (48+(n % 10:Nat))]:=by rw [DY,A1 (by omega)]
theorem M4 (k:Nat):∀ n:Nat,n<10 ^ (k+1)->(DY n).length<=k+1:=by
  induction k with
  | zero=>intro n h;rw [DY,A6 (by simpa using h)];simp
  | succ k ih =>
    intro n h
    rw [DY]
    split
    · simp
    · have := ih (n / 10) (by rw [Nat.pow_succ] at h; omega)
      simp;omega
theorem Jk (n:Nat) (h:n<18446744073709551616):(bs (DY n)).size<=20:=by
 rw [BE];exact M4 19 n (Nat.lt_trans h (by decide))
theorem A37 (w:World) (x:Int):(convert 22 9 (.slice (some ⟨w.heap.size,0,none⟩) 1 1)).run Tryz.prog (w.alloc (.cells #[.int .u8 x] 5)) =
    .ok (.string (bs [ch x])) (w.alloc (.cells #[.int .u8 x] 5)):=by
  have h:=run_convert_bytes_arg (P:=Tryz.prog) (w.alloc (.cells #[.int .u8 x] 5)) 22 5 Bu Lk w.heap.size 0 1 1 [x] rfl
    (by intro i hi; obtain rfl : i = 0 := by omega
        go_simp) 9 Ju
  exact h
theorem A1C (n:Nat) (w:World) (hn:n<18446744073709551616):
    Calls Tryz.prog 31 #[.int .u64 n] w λe w'=>e=.returned (.string (bs (DY n)))/\Below w.heap.size w w':=by
  have b:=A37
  go_enter func31,ntmps31
  go_wp2_with fail
  go_loopw [0,3] (λu s wr=>∃ (m:Nat) (t:l8_),m<18446744073709551616/\u=.int .u64 m/\s=.string (bs t)/\Below w.heap.size w wr/\t.length+(DY m).length<=20/\DY n=DY m++t) (λu _ _=>(intOf u).toNat)
  case atStart=>exact ⟨n,[],hn,rfl,rfl,Below.refl _ _,by have:=Jk n hn;rw [BE] at this;simpa using this,by simp⟩
  case round =>
    obtain ⟨m,t,hm,rfl,rfl,hb,hl,hd⟩:=hrel
    have Hd:=Ev hd;clear hd
    have hs:(bs t).size<=20:=by rw [BE];omega
    have c:(bs [ch (48+(m:Int) % 10)]).size<=1:=by rw [BE];simp
    have a:=hb.size
    by_cases h10:m<10
    · have hz : (((m : Int) / 10) == 0) = true := by rw [beq_iff_eq]; omega
      go_wp2
      go_ret
      have e:(m:Int) % 10=(m:Int):=by omega
      exact ⟨by rw [Hd.out,JA m h10,<- FH,e];rfl,hb.alloc a _⟩
    · have hz : (((m : Int) / 10) == 0) = false := by rw [DL]; omega
      have hg:=Rx m (by omega)
      have Hg:=Ev hg;clear hg
      go_wp2
      refine ⟨⟨m / 10,ch (48+((m % 10:Nat):Int))::t,by omega,by go_num,by rw [FH];simp,hb.alloc a _,?_,?_⟩,by simp [intOf];omega⟩
      · have := Bc List.length Hg.out
        simp at this ⊢;omega
      · rw [Hd.out,Hg.out];simp
theorem SP (n:Int) (w:World) (h0:0<=n) (hn:n<18446744073709551616):
  Calls Tryz.prog 31 #[.int .u64 n] w λe w'=>e=.returned (.string (bs (DY n.toNat)))/\Below w.heap.size w w':=by
 have h:=A1C n.toNat w (by omega)
 rw [Int.toNat_of_nonneg h0] at h
 exact h
def E5 (n:Int):l8_:=if n<0 then 45::DY n.natAbs else DY n.natAbs
theorem Ji (n:Int) (w:World) (h:-9223372036854775808<=n) (h':n<=9223372036854775807) :
    Calls Tryz.prog 12 #[.int .i64 n] w λe w'=>e=.returned (.string (bs (E5 n)))/\Below w.heap.size w w':=by
  by_cases hn:n<0
  · have b := Jk (-(n + 1) + 1).toNat (by omega)
    go_enter func12,ntmps12
    go_wp2_with (go_at_call 31;refine (SP _ _ (by omega) (by omega)).mono ?_;rintro e w' ⟨rfl,hb⟩)
    go_ret
    have a:(-(n+1)+1).toNat=n.natAbs:=by omega
    refine ⟨?_,hb⟩
    rw [E5,A6 hn,<- a]
    show Ending.returned (.string (bs [45]++bs _))=_
    rw [FH];rfl
  · go_enter func12, ntmps12
    go_wp2_with (go_at_call 31;refine (SP _ _ (by omega) (by omega)).mono ?_;rintro e w' ⟨rfl,hb⟩)
    go_ret
    have a:n.toNat=n.natAbs:=by omega
    refine ⟨?_,hb⟩
    rw [E5,A1 (by omega),<- a]
    rfl
theorem KJ (n:Int) (h:-9223372036854775808<=n) (h':n<=9223372036854775807):(bs (E5 n)).size<=21:=by
 have:=Jk n.natAbs (by omega)
 rw [BE] at *
 unfold E5;split <;> simp <;> omega
end
section
def Lo (a b:Int):Int:=if 2 * a.tmod b ≥ b then a.tdiv b+1 else if -2 * a.tmod b ≥ b then a.tdiv b-1 else a.tdiv b
def LI (n:Int):Int × Int:=if Ao n=true then (n,0) else (0,18)
def Lf (a b:Int):Int × Int:=if (Ao a && Ao b)=true then LI (a+b) else (0,11)
def IH (a b:Int):Int × Int:=if (Ao a && Ao b)=true then LI (a-b) else (0,11)
def Fz (a b:Int):Int × Int:=if (Ao a && Ao b)=true then LI (Lo (a * b) 65536) else (0,11)
def Kn:Int->List Int->Int × Int
 | t,[]=>(t,0)
 | t,n::r=>if (Lf t n).2=0 then Kn (Lf t n).1 r else (0,(Lf t n).2)
def EH (e f:Int):Int:=if e=0 then f else e
structure M6 where
 a:Int
 b:Int
 c:Int
 d:Int
 e:Int
 f:Int
def LF (m:M6):List Value:=[.int .i64 m.a,.int .i64 m.b,.int .i64 m.c,.int .i64 m.d,.int .i64 m.e,.int .i64 m.f]
def Nw:M6:=⟨65536,0,0,65536,0,0⟩
def Wx:M6:=⟨0,0,0,0,0,0⟩
def Jj (x y:Int):M6:=⟨65536,0,0,65536,x,y⟩
def m6S (x y:Int):M6:=⟨x,0,0,y,0,0⟩
def Kd (e a x c y:Int) (more:List Int):Int × Int :=
 let s:=Kn 0 ((Fz a x).1::(Fz c y).1::more)
 (s.1,EH (EH (EH e (Fz a x).2) (Fz c y).2) s.2)
def Io (e x y:Int):(Int × Int) × Int:=if e≠0 then ((0,0),e) else ((x,y),0)
def FY (m:M6) (x y:Int):(Int × Int) × Int :=
 let p:=Kd 0 m.a x m.c y [m.e]
 let q:=Kd p.2 m.b x m.d y [m.f]
 Io q.2 p.1 q.1
def Ip (m:M6) (x y:Int):(Int × Int) × Int :=
 let p:=Kd 0 m.a x m.c y []
 let q:=Kd p.2 m.b x m.d y []
 Io q.2 p.1 q.1
def D8 (a b:M6):M6 × Int :=
 let u:=Ip b a.a a.b
 if u.2≠0 then (Wx,u.2) else
 let v:=Ip b a.c a.d
 if v.2≠0 then (Wx,v.2) else
 let t:=FY b a.e a.f
 if t.2≠0 then (Wx,t.2) else (⟨u.1.1,u.1.2,v.1.1,v.1.2,t.1.1,t.1.2⟩,0)
theorem MW {n:Int} (h:Ao n=true):-2147483648<=n/\n<=2147483647:=by unfold Ao at h;simpa using h
theorem A7L {n:Int} (h1:-2147483648<=n) (h2:n<=2147483647):Ao n=true:=by unfold Ao;simp;omega
theorem N2 (n:Int):Ao (LI n).1=true:=by
 unfold LI;split
 · assumption
 · decide
theorem A0L (a b:Int):Ao (Lf a b).1=true:=by
 unfold Lf;split
 · exact N2 _
 · decide
theorem Zy (a b:Int):Ao (IH a b).1=true:=by
 unfold IH;split
 · exact N2 _
 · decide
theorem KD (a b:Int):Ao (Fz a b).1=true:=by
 unfold Fz;split
 · exact N2 _
 · decide
theorem Zw (l:List Int):∀ t,Ao t=true->Ao (Kn t l).1=true:=by
 induction l with
 | nil=>intro t h;exact h
 | cons n r ih =>
  intro t h
  rw [Kn];split
  · exact ih _ (A0L _ _)
  · exact (by decide:Ao 0=true)
theorem Mi (e a x c y:Int) (more:List Int):Ao (Kd e a x c y more).1=true:=Zw _ _ (by decide)
theorem A4c {a:Int} (h:-4611686018427387904<=a/\a<=4611686018427387904):-70368744177665<=Lo a 65536/\Lo a 65536<=70368744177665:=by
 unfold Lo
 have c:=Int.mul_tdiv_add_tmod a 65536
 have d:-65536<a.tmod 65536/\a.tmod 65536<65536:=by
  have:=Int.tmod_lt_of_pos a (b:=65536) (by decide)
  have:=Int.lt_tmod_of_pos a (b:=65536) (by decide)
  omega
 split
 · omega
 · split <;> omega
theorem A08 {a b:Int} (ha:Ao a=true) (hb:Ao b=true):-4611686018427387904<=a * b/\a * b<=4611686018427387904:=by
 have d:=MW ha
 have e:=MW hb
 have c:a.natAbs * b.natAbs<=2147483648 * 2147483648:=Nat.mul_le_mul (by omega) (by omega)
 rw [<- Int.natAbs_mul] at c
 omega
end
section
abbrev Fr:=List (Nat × Value)
def look:Fr->Nat->Option Value
 | [],_=>none
 | (j,v)::r,i=>bif Nat.beq j i then some v else look r i
def D0 (f:Fr):Operand->Option Value
 | .tmp t=>look f t
 | .const v=>some v
 | .global g=>some (.pointer (some ⟨g,0,none⟩))
 | .func k=>some (.func (.func k) #[] #[])
def Sub:Fr->Fr->Prop
 | [],_=>True
 | (j,v)::g,f=>look f j=some v/\Sub g f
theorem Sub.look {g f:Fr} (h:Sub g f) {i:Nat} {v:Value} (hv:look g i=some v):look f i=some v:=by
 induction g with
 | nil=>cases hv
 | cons p g ih =>
  obtain ⟨j,u⟩:=p
  unfold Go.Proofs.YthmhfjeojkbpfaaGreatDoor.look at hv
  cases hb:Nat.beq j i with
  | true =>
   rw [hb] at hv
   obtain rfl:j=i:=CY hb
   rw [h.1];exact hv
  | false=>rw [hb] at hv;exact ih h.2 hv
structure Sh where
 n:Nat
 D:List Deferred
def Lh (n:Sh) (f:Fr) (a:Act):Prop:=a.defers=n.D/\a.tmps.size=n.n/\∀ i v,look f i=some v->a.tmps.getD i undef=v
theorem Lh.sub {n:Sh} {f g:Fr} {a:Act} (h:Lh n f a) (hs:Sub g f):Lh n g a:=⟨h.1,h.2.1,λi v hv=>h.2.2 i v (hs.look hv)⟩
theorem Lh.put {n:Sh} {f:Fr} {a:Act} (h:Lh n f a) {d:Nat} (hd:Nat.blt d n.n=true) (v:Value):Lh n ((d,v)::f) (a.put (some d) v):=by
 have b:d<n.n:=by simpa [Nat.blt_eq] using hd
 refine ⟨h.1,by simp [Act.put,h.2.1],λi u hu=>?_⟩
 show (a.tmps.setIfInBounds d v).getD i undef=u
 unfold look at hu
 cases hb:Nat.beq d i with
 | true =>
  obtain rfl:d=i:=CY hb
  simp only [hb,cond_true,Bm] at hu
  subst hu
  simp [Array.getD,h.2.1,b]
 | false =>
  simp only [hb,cond_false] at hu
  have c:d≠i:=λe=>by rw [e,Nat.beq_refl] at hb;cases hb
  have:=h.2.2 i u hu
  simp only [B0] at this ⊢
  rw [Array.getElem?_setIfInBounds_ne c];exact this
def Agr (f:Fr) (ρ:Operand->Value):Prop:=∀ x v,D0 f x=some v->ρ x=v
theorem Lh.agr {n:Sh} {f:Fr} {a:Act} (h:Lh n f a):Agr f a.eval:=by
 intro x v hx
 cases x with
 | tmp t=>exact h.2.2 t v hx
 | const u=>exact DC hx
 | global g=>exact DC hx
 | func k=>exact DC hx
section
variable {P:Program} {n:Sh}
def GV (n:Sh) (Q:Exit->Fr->World->Prop):Exit->Act->World->Prop:=λe a w=>∃ f,Lh n f a/\Q e f w
def W (P:Program) (n:Sh) (c:Code) (Q:Exit->Fr->World->Prop) (f:Fr) (w:World):Prop:=∀ a,Lh n f a->c.wp P (GV n Q) a w
def WL (P:Program) (n:Sh) (ops:Array Oper) (Q:Exit->Fr->World->Prop) (l:List Oper) (f:Fr) (w:World):Prop:=∀ a,Lh n f a->wpList P ops (GV n Q) l a w
def nx (K:Fr->World->Prop) (Q:Exit->Fr->World->Prop):Exit->Fr->World->Prop
 | .normal,f,w=>K f w
 | e,f,w=>Q e f w
def inb (id:Nat) (Q:Exit->Fr->World->Prop):Exit->Fr->World->Prop
 | .exit i,f,w=>bif Nat.beq i id then Q .normal f w else Q (.exit i) f w
 | e,f,w=>Q e f w
theorem W.weaken {c:Code} {Q:Exit->Fr->World->Prop} {f:Fr} {w:World} (g:Fr) (hs:Sub g f) (h:W P n c Q g w):W P n c Q f w :=
 λa ha=>h a (ha.sub hs)
theorem W.mono {c:Code} {Q Q':Exit->Fr->World->Prop} {f:Fr} {w:World} (h:W P n c Q f w) (hq:∀ e f w,Q e f w->Q' e f w):W P n c Q' f w :=
 λa ha=>wp_mono (h a ha) λ_ _ _ ⟨f',hr,hQ⟩=>⟨f',hr,hq _ _ _ hQ⟩
theorem Ah {x y:Code} {Q:Exit->Fr->World->Prop} {f:Fr} {w:World} (h:W P n x (nx (λf w=>W P n y Q f w) Q) f w):W P n (.seq x y) Q f w:=by
 intro a ha
 refine wp_seq (wp_mono (h a ha) ?_)
 rintro e a' w' ⟨f',hr,hQ⟩
 cases e with
 | normal=>exact hQ a' hr
 | _=>exact ⟨f',hr,hQ⟩
theorem dT {p:Prop} [Decidable p] (h:decide p=true):p:=of_decide_eq_true h
theorem dF {p:Prop} [Decidable p] (h:decide p=false):¬p:=of_decide_eq_false h
theorem oO {p:Prop} (h:p:=by omega):p:=h
theorem oC {p:Prop} (h:p:=by first | omega | (simp only [A8,Ae];omega)):p:=h
theorem oD {p:Prop} (h:p:=by first | omega | exact Nat.zero_lt_succ _):p:=h
theorem oE {p:Prop} (h:p:=by simp only [A8,Ae];omega):p:=h
theorem oF {p:Prop} (h:p:=by simp only [A5,A8,Ae];omega):p:=h
theorem rD {p:Prop} (h:p:=by first | rfl | decide):p:=h
theorem aS {p:Prop} (h:p:=by assumption):p:=h
theorem dD {p:Prop} (h:p:=by decide):p:=h
theorem kR {p:Prop} (h:p:=by kernel_rfl):p:=h
theorem oL {p:Prop} (h:p:=by simp only [A5,A8,Ae,B4] at *;omega):p:=h
theorem oQ {p:Prop} (h:p:=by first | decide | exact Nat.le_of_ble_eq_true rfl):p:=h
theorem oM {p:Prop} (h:p:=by ((try simp only) <;> omega)):p:=h
abbrev EZ:=@Below.trans
abbrev AW:=@Nat.le_trans
abbrev FL:=@Nat.le_refl
abbrev nz_:=@Nat.zero_lt_succ
abbrev EM:=@Below.refl
abbrev Js:=@Nat.ne_of_lt
abbrev Q6:=@List.cons_ne_nil
abbrev Gg:=@Nat.zero_le
abbrev CM:=@absurd
abbrev ot_:=@of_decide_eq_true
theorem tT:True:=trivial
theorem D4 {α:Type} (R:α->Fr) (S:α->World->Prop) {x y:Code} {Q:Exit->Fr->World->Prop} {f:Fr} {w:World}
  (h1:W P n x (nx (λf' w'=>∃ t,Sub (R t) f'/\S t w') Q) f w) (h2:∀ t w',S t w'->W P n y Q (R t) w'):W P n (.seq x y) Q f w:=by
 refine Ah (h1.mono ?_)
 intro e f' w' h
 cases e with
 | normal=>obtain ⟨t,hs,ht⟩:=h;exact (h2 t w' ht).weaken _ hs
 | _=>exact h
theorem W.skip {Q:Exit->Fr->World->Prop} {f:Fr} {w:World} (h:Q .normal f w):W P n .skip Q f w:=λ_ ha=>wp_skip ⟨f,ha,h⟩
abbrev W.k:=@W.skip
theorem C0 {Q:Exit->Fr->World->Prop} {f:Fr} {w:World} {id:Nat} (h:Q (.exit id) f w):W P n (.exit id) Q f w:=λ_ ha=>wp_exit ⟨f,ha,h⟩
theorem Ai {Q:Exit->Fr->World->Prop} {f:Fr} {w:World} (h:Q .ret f w):W P n .ret Q f w:=λ_ ha=>wp_ret ⟨f,ha,h⟩
theorem W.block {Q:Exit->Fr->World->Prop} {f:Fr} {w:World} {id:Nat} {c:Code} (h:W P n c (inb id Q) f w):W P n (.block id c) Q f w:=by
 intro a ha
 refine wp_block (wp_mono (h a ha) ?_)
 rintro e a' w' ⟨f',hr,hQ⟩
 cases e with
 | exit i =>
  simp only [Exit.inBlock]
  by_cases hi:i=id
  ·
   subst hi
   rw [A6 rfl]
   simp only [inb,Nat.beq_refl,cond_true] at hQ
   exact ⟨f',hr,hQ⟩
  ·
   rw [A1 hi]
   have hb:Nat.beq i id=false:=by
    cases h:Nat.beq i id with
    | false=>rfl
    | true=>exact CM (CY h) hi
   simp only [inb,hb,cond_false] at hQ
   exact ⟨f',hr,hQ⟩
 | _=>exact ⟨f',hr,hQ⟩
abbrev W.b:=@W.block
theorem Ac {Q:Exit->Fr->World->Prop} {f:Fr} {w:World} {c:Operand} {x y:Code} {t:Bool} (hc:D0 f c=some (.bool t))
  (ht:t=true->W P n x Q f w) (hf:t=false->W P n y Q f w):W P n (.cond c x y) Q f w :=
 λa ha=>wp_cond_split (ha.agr _ _ hc) (λh=>ht h a ha) (λh=>hf h a ha)
theorem A3n {P:Program} {n:Sh} {Q:Exit->Fr->World->Prop} {f:Fr} {w:World} {c:Operand} {x y:Code} {p:Prop} [Decidable p] (hc:D0 f c=some (.bool (decide p))) (ht:p->W P n x Q f w) (hf:¬p->W P n y Q f w):W P n (.cond c x y) Q f w:=Ac hc (λe=>ht (of_decide_eq_true e)) (λe=>hf (of_decide_eq_false e))
theorem DR {Q:Exit->Fr->World->Prop} {f:Fr} {w:World} {c:Operand} {x y:Code} {t:Bool} (hc:D0 f c=some (.bool t)) (e:t=true)
  (h:W P n x Q f w):W P n (.cond c x y) Q f w:=Ac hc (λ_=>h) (λh'=>by rw [e] at h';cases h')
theorem DS {Q:Exit->Fr->World->Prop} {f:Fr} {w:World} {c:Operand} {x y:Code} {t:Bool} (hc:D0 f c=some (.bool t)) (e:t=false)
  (h:W P n y Q f w):W P n (.cond c x y) Q f w:=Ac hc (λh'=>by rw [e] at h';cases h') (λ_=>h)
theorem Cj {α:Type} (R:α->Fr) (S:α->World->Prop) (m:α->Nat) (t:α) {c:Code} {Q:Exit->Fr->World->Prop} {f:Fr} {w:World}
  (h0:Sub (R t) f) (h1:S t w) (round:∀ t w,S t w->W P n c (nx (λf' w'=>∃ u,Sub (R u) f'/\S u w'/\m u<m t) Q) (R t) w):W P n (.loop c) Q f w:=by
 intro a ha b k cs
 have key:∀ k' t a w,m t=k'->Lh n (R t) a->S t w->∃ e a' w',GV n Q e a' w'/\Arrives P (lone (b.at a (.code c::.inLoop c::k)) cs w) b k cs e a' w':=by
  intro k'
  induction k' using Nat.strongRecOn with
  | _ k' ih =>
   intro t a w hm hr hS
   obtain ⟨e,i,j,⟨f1,g,hq⟩,d⟩:=round t w hS a hr b (.inLoop c::k) cs
   cases e with
   | normal =>
    obtain ⟨u,hs,q,s⟩:=hq
    obtain ⟨y,A,B,v,o⟩:=ih (m u) (hm▸s) u i j rfl (g.sub hs) q
    exact ⟨y,A,B,v,.of_steps (Steps.trans d (.one step_inLoop)) o⟩
   | exit id=>exact ⟨_,i,j,⟨f1,g,hq⟩,.pass (x:=.inLoop c) rfl (λ_ _=>.inl (by simp)) d⟩
   | goto l=>exact ⟨_,i,j,⟨f1,g,hq⟩,.pass (x:=.inLoop c) rfl (λ_ _=>.inl (by simp)) d⟩
   | ret=>exact ⟨_,i,j,⟨f1,g,hq⟩,.pass (x:=.inLoop c) rfl (λ_ _=>.inl (by simp)) d⟩
   | panic ch=>exact ⟨_,i,j,⟨f1,g,hq⟩,.pass (x:=.inLoop c) rfl (λ_ _=>.inl (by simp)) d⟩
   | outgrown=>exact ⟨_,i,j,⟨f1,g,hq⟩,.pass (x:=.inLoop c) rfl (λ_ _=>.inl (by simp)) d⟩
 obtain ⟨e,a',w',hq,d⟩:=key _ t a w rfl (ha.sub h0) h1
 exact ⟨e,a',w',hq,.of_steps (.one step_loop) d⟩
theorem Ak {Q:Exit->Fr->World->Prop} {f:Fr} {w:World} {id:Nat} {l:List Oper} (h:WL P n l.toArray Q l f w):W P n (.region id l.toArray false) Q f w :=
 λa ha=>wp_region_lit (h a ha)
theorem A4 {P:Program} {n:Sh} {id:Nat} {l:List Oper} {y:Code} {Q:Exit->Fr->World->Prop} {f:Fr} {w:World} (h:WL P n l.toArray (nx (λf w=>W P n y Q f w) Q) l f w):W P n (.seq (.region id l.toArray false) y) Q f w:=Ah (Ak h)
def L0:Nat->List Value->Fr
 | _,[]=>[]
 | k,v::r=>(k,v)::L0 (k+1) r
theorem JW (l:List Value):∀ k i v,look (L0 k l) i=some v->∃ j,i=k+j/\l[j]?=some v:=by
 induction l with
 | nil=>intro k i v h;cases h
 | cons u r ih =>
  intro k i v h
  unfold L0 look at h
  cases hb:Nat.beq k i with
  | true =>
   simp only [hb,cond_true,Bm] at h
   exact ⟨0,(CY hb).symm,by simp [h]⟩
  | false =>
   simp only [hb,cond_false] at h
   obtain ⟨j,e,hj⟩:=ih (k+1) i v h
   exact ⟨j+1,by omega,by simpa using hj⟩
def Eb (P:Program) (fn:Func) (f:Fr) (w:World) (v:Value):Prop:=∀ tmps:Array Value,(∀ i u,look f i=some u->tmps.getD i undef=u)->(results fn tmps).run P w=.ok v w
def Jn (P:Program) (fn:Func) (R:Ending->World->Prop):Exit->Fr->World->Prop
 | .normal,f,w | .ret,f,w=>∃ v,Eb P fn f w v/\R (.returned v) w
 | .panic chain,_,w=>R (.panicked chain) w
 | .outgrown,_,w=>R .outgrown w
 | _,_,_=>False
theorem A5b {F:FuncId} {fn:Func} {c:Code} {args:Array Value} {w:World} {R:Ending->World->Prop} (hf:P.funcs[F]?=some fn) (hb:fn.body=some c)
  {k:Nat} (hn:fn.ntmps=k) (hl:args.size<=k) (h:W P ⟨k,[]⟩ c (Jn P fn R) (L0 0 args.toList) w):Calls P F args w R:=by
 refine calls_of_wp hf hb (wp_mono (h _ ⟨rfl,by simp [hn];omega,?_⟩) ?_)
 ·
  intro i v hv
  obtain ⟨j,e,hj⟩:=JW _ _ _ _ hv
  obtain rfl:i=j:=by omega
  have d:i<args.size:=by
   rcases BU i args.size with h | h
   · exact h
   · rw [AK (by simpa using h)] at hj;cases hj
  have hj':args[i]?=some v:=by rw [<- DN];exact hj
  simp only [B0]
  rw [Array.getElem?_append_left d,hj'];rfl
 ·
  rintro e a' w' ⟨f',hr,hQ⟩
  cases e with
  | normal=>obtain ⟨v,a,b⟩:=hQ;exact ⟨hr.1,v,a _ hr.2.2,b⟩
  | ret=>obtain ⟨v,a,b⟩:=hQ;exact ⟨hr.1,v,a _ hr.2.2,b⟩
  | panic ch=>exact ⟨hr.1,hQ⟩
  | outgrown=>exact hQ
  | exit i=>exact hQ.elim
  | goto l=>exact hQ.elim
abbrev W.e:=@A5b
theorem Bt {fn:Func} {R:Ending->World->Prop} {f:Fr} {w:World} (hr:fn.results=#[]) (h:R (.returned (.tuple #[])) w):Jn P fn R .ret f w :=
 ⟨_,λ_ _=>results_none hr _ _ _,h⟩
theorem A71 {fn:Func} {R:Ending->World->Prop} {f:Fr} {w:World} {t:Tmp} {v:Value} (hr:fn.results=#[.tmp t]) (hv:look f t=some v)
  (h:R (.returned v) w):Jn P fn R .ret f w :=
 ⟨v,λtmps ht=>by rw [results_tmp hr,ht _ _ hv],h⟩
abbrev AZ:=@A71
theorem Ex {fn:Func} {R:Ending->World->Prop} {f:Fr} {w:World} {t u:Tmp} {v x:Value} (hr:fn.results=#[.tmp t,.tmp u]) (hv:look f t=some v) (hx:look f u=some x)
  (h:R (.returned (.tuple #[v,x])) w):Jn P fn R .ret f w :=
 ⟨_,λtmps ht=>by rw [results_tmp2 hr,ht _ _ hv,ht _ _ hx],h⟩
theorem Y2 {fn:Func} {R:Ending->World->Prop} {f:Fr} {w:World} {t u s:Tmp} {v x y:Value} (hr:fn.results=#[.tmp t,.tmp u,.tmp s]) (hv:look f t=some v) (hx:look f u=some x) (hy:look f s=some y)
  (h:R (.returned (.tuple #[v,x,y])) w):Jn P fn R .ret f w :=
 ⟨_,λtmps ht=>by rw [show (results fn tmps).run P w=.ok (.tuple #[tmps.getD t undef,tmps.getD u undef,tmps.getD s undef]) w by simp [results,hr],ht _ _ hv,ht _ _ hx,ht _ _ hy],h⟩
theorem MD {fn:Func} {R:Ending->World->Prop} {f:Fr} {w:World} {t u s:Tmp} {ty:TypeId} {b:Addr} {v x y:Value} (hr:fn.results=#[.cell t ty,.tmp u,.tmp s])
  (ht:look f t=some (.pointer (some b))) (hv:(loadVar ty b).run P w=.ok v w) (hx:look f u=some x) (hy:look f s=some y)
  (h:R (.returned (.tuple #[v,x,y])) w):Jn P fn R .ret f w :=
 ⟨_,λtmps hh=>by
  have e1:=hh _ _ ht;have e2:=hh _ _ hx;have e3:=hh _ _ hy
  simp only [B0] at e1 e2 e3
  simp [results,hr,e1,e2,e3,asAddr,hv],h⟩
def Bx (P:Program) (op:Op) (f:Fr) (v:Value):Prop:=∀ ρ,Agr f ρ->∀ d ty pos aft g w,(execOp ρ ⟨d,op,ty,pos,aft,g⟩).run P w=.ok (.value v) w
theorem Y0 {ops:Array Oper} {Q:Exit->Fr->World->Prop} {f:Fr} {w:World} (h:Q .normal f w):WL P n ops Q [] f w:=λ_ ha=>wpList_nil ⟨f,ha,h⟩
abbrev WL.e:=@Y0
theorem WL.run {ops:Array Oper} {Q:Exit->Fr->World->Prop} {f:Fr} {w w':World} {rest:List Oper} {d ty:Nat} {pos:String} {aft:Array Edge} {op:Op} {v:Value} (hd:Nat.blt d n.n=true)
  (h:∀ ρ,Agr f ρ->(execOp ρ ⟨some d,op,ty,pos,aft,none⟩).run P w=.ok (.value v) w') (k:WL P n ops Q rest ((d,v)::f) w'):WL P n ops Q (⟨some d,op,ty,pos,aft,none⟩::rest) f w:=by
 intro a ha
 refine wpList_plain rfl λK hK=>?_
 unfold Oper.wp
 rw [h _ ha.agr]
 exact hK _ _ (k _ (ha.put hd v))
theorem RN {ops:Array Oper} {Q:Exit->Fr->World->Prop} {f:Fr} {w w':World} {rest:List Oper} {ty:Nat} {pos:String} {aft:Array Edge} {op:Op}
  (h:∀ ρ,Agr f ρ->(execOp ρ ⟨none,op,ty,pos,aft,none⟩).run P w=.ok .skip w') (k:WL P n ops Q rest f w'):WL P n ops Q (⟨none,op,ty,pos,aft,none⟩::rest) f w:=by
 intro a ha
 refine wpList_plain rfl λK hK=>?_
 unfold Oper.wp
 rw [h _ ha.agr]
 exact hK _ _ (k _ ha)
theorem XZ {ops:Array Oper} {Q:Exit->Fr->World->Prop} {f:Fr} {w:World} {rest:List Oper} {d ty:Nat} {pos:String} {aft:Array Edge} {op:Op} {v:Value}
  (h:Bx P op f v) (hd:Nat.blt d n.n=true) (k:WL P n ops Q rest ((d,v)::f) w):WL P n ops Q (⟨some d,op,ty,pos,aft,none⟩::rest) f w :=
 WL.run hd (λρ hρ=>h ρ hρ _ _ _ _ _ _) k
theorem A0 {P:Program} {n:Sh} {ops:Array Oper} {Q:Exit->Fr->World->Prop} {f:Fr} {w:World} {rest:List Oper} {d ty:Nat} {pos:String} {aft:Array Edge} {op:Op} {v:Value} (h:Bx P op f v) (k:WL P n ops Q rest ((d,v)::f) w) (hd:Nat.blt d n.n=true:=by rfl):WL P n ops Q (⟨some d,op,ty,pos,aft,none⟩::rest) f w:=XZ h hd k
theorem B1 {ops:Array Oper} {Q:Exit->Fr->World->Prop} {f:Fr} {w:World} {rest:List Oper} {d ty:Nat} {pos:String} {aft:Array Edge} {op:Op} {j dj:Nat} {b t:Bool}
    (hj:(ops[j]?).bind (·.dst)=some dj) (ht:look f dj=some (.bool t)) (hd:Nat.blt d n.n=true)
    (hy:t=b->WL P n ops Q (⟨some d,op,ty,pos,aft,none⟩::rest) f w) (hn:t=!b->WL P n ops Q rest ((d,undef)::f) w) :
    WL P n ops Q (⟨some d,op,ty,pos,aft,some (j,b)⟩::rest) f w:=by
  intro a ha
  have c:=ha.2.2 _ _ ht
  have e:yielded ops a.tmps j=some t:=by
    unfold yielded
    cases ho:ops[j]? with
    | none=>rw [ho] at hj;cases hj
    | some o =>
      rw [ho] at hj
      simp only [Option.bind_some] at hj
      have g:a.tmps[dj]?=some (.bool t):=by
        cases h:a.tmps[dj]? with
        | none=>rw [B0,h] at c;cases c
        | some v=>rw [B0,h] at c;exact Bc some c
      simp [hj,g]
  by_cases hb:t=b
  · have := hy hb a ha
    unfold wpList at this ⊢
    simp only [Region.wanted,e,hb,beq_self_eq_true,if_true] at this ⊢
    exact this
  · have hb' : t = !b := by revert hb; cases t <;> cases b <;> decide
    have:=hn hb' _ (ha.put hd undef)
    unfold wpList
    have hw:(some t == some b)=false:=by revert hb;cases t <;> cases b <;> decide
    simp only [Region.wanted,e,hw]
    exact this
theorem A8O {P:Program} {n:Sh} {ops:Array Oper} {Q:Exit->Fr->World->Prop} {f:Fr} {w:World} {rest:List Oper} {d ty:Nat} {pos:String} {aft:Array Edge} {op:Op} {j dj:Nat} {b:Bool} {p:Prop} [Decidable p] (hj:(ops[j]?).bind (·.dst)=some dj) (ht:look f dj=some (.bool (decide p))) (hd:Nat.blt d n.n=true) (hy:(match b with | true=>p | false=>¬p)->WL P n ops Q (⟨some d,op,ty,pos,aft,none⟩::rest) f w) (hn:(match b with | true=>¬p | false=>p)->WL P n ops Q rest ((d,undef)::f) w):WL P n ops Q (⟨some d,op,ty,pos,aft,some (j,b)⟩::rest) f w:=B1 hj ht hd (λe=>hy (by cases b with | true=>exact of_decide_eq_true e | false=>exact of_decide_eq_false e)) (λe=>hn (by cases b with | true=>exact of_decide_eq_false e | false=>exact of_decide_eq_true e))
theorem Ew {ops:Array Oper} {Q:Exit->Fr->World->Prop} {f:Fr} {w:World} {rest:List Oper} {d ty:Nat} {pos:String} {aft:Array Edge} {op:Op} {j dj:Nat} {b t:Bool}
  (hj:(ops[j]?).bind (·.dst)=some dj) (ht:look f dj=some (.bool t)) (hd:Nat.blt d n.n=true) (e:t=b)
  (hy:WL P n ops Q (⟨some d,op,ty,pos,aft,none⟩::rest) f w):WL P n ops Q (⟨some d,op,ty,pos,aft,some (j,b)⟩::rest) f w :=
 B1 hj ht hd (λ_=>hy) (λh=>by rw [e] at h;cases b <;> cases h)
theorem As {P:Program} {n:Sh} {ops:Array Oper} {Q:Exit->Fr->World->Prop} {f:Fr} {w:World} {rest:List Oper} {d ty:Nat} {pos:String} {aft:Array Edge} {op:Op} {j dj:Nat} {b t:Bool} (e:t=b) (hn:WL P n ops Q (⟨some d,op,ty,pos,aft,none⟩::rest) f w) (hj:(ops[j]?).bind (·.dst)=some dj:=by rfl) (ht:look f dj=some (.bool t):=by rfl) (hd:Nat.blt d n.n=true:=by rfl):WL P n ops Q (⟨some d,op,ty,pos,aft,some (j,b)⟩::rest) f w:=Ew hj ht hd e hn
theorem EL {ops:Array Oper} {Q:Exit->Fr->World->Prop} {f:Fr} {w:World} {rest:List Oper} {d ty:Nat} {pos:String} {aft:Array Edge} {op:Op} {j dj:Nat} {b t:Bool}
  (hj:(ops[j]?).bind (·.dst)=some dj) (ht:look f dj=some (.bool t)) (hd:Nat.blt d n.n=true) (e:t=!b)
  (hn:WL P n ops Q rest ((d,undef)::f) w):WL P n ops Q (⟨some d,op,ty,pos,aft,some (j,b)⟩::rest) f w :=
 B1 hj ht hd (λh=>by rw [e] at h;cases b <;> cases h) (λ_=>hn)
theorem Aa {P:Program} {n:Sh} {ops:Array Oper} {Q:Exit->Fr->World->Prop} {f:Fr} {w:World} {rest:List Oper} {d ty:Nat} {pos:String} {aft:Array Edge} {op:Op} {j dj:Nat} {b t:Bool} (e:t=!b) (hn:WL P n ops Q rest ((d,undef)::f) w) (hj:(ops[j]?).bind (·.dst)=some dj:=by rfl) (ht:look f dj=some (.bool t):=by rfl) (hd:Nat.blt d n.n=true:=by rfl):WL P n ops Q (⟨some d,op,ty,pos,aft,some (j,b)⟩::rest) f w:=EL hj ht hd e hn
end
theorem Rt (l:l8_):(bs l).toList=l:=by simp [bs]
theorem VY (l:l8_) (a b:Nat):(bs l).extract a b=bs ((l.drop a).take (b-a)):=by
 apply ByteArray.ext
 simp [bs,List.extract_eq_take_drop]
theorem Z7 (l m:l8_):(l == m)=decide (l=m):=by rw [AU];simp
theorem Bp {r:Int} (h:-9223372036854775808<=r/\r<=9223372036854775807):IntKind.i64.wrap r=r:=by rw [IntKind.wrap_i64];omega
theorem TJ {r:Int} (h:0<=r/\r<=255):IntKind.u8.wrap r=r:=by rw [IntKind.wrap_u8'];omega
theorem A8F {a b:Int} (h0:0<=a) (h1:a<=9223372036854775807) (hb:1<=b):IntKind.i64.wrap (a.tdiv b)=a / b:=by
 rw [Int.tdiv_eq_ediv_of_nonneg h0]
 exact Bp ⟨by have:=Int.ediv_nonneg h0 (by omega:0<=b);omega,by have:=Int.ediv_le_self b h0;omega⟩
theorem u8q {a b:Int} (h0:0<=a) (h1:a<=255) (hb:1<=b):IntKind.u8.wrap (a.tdiv b)=a / b:=by
 rw [Int.tdiv_eq_ediv_of_nonneg h0]
 exact TJ ⟨Int.ediv_nonneg h0 (by omega:0<=b),by have:=Int.ediv_le_self b h0;omega⟩
section
variable {P:Program} {n:Sh} {f:Fr}
theorem Bx.mv {x:Operand} {v:Value} (hx:D0 f x=some v):Bx P (.move x) f v:=λρ hρ d ty pos aft g w=>by
 simp [execOp,hρ _ _ hx]
theorem WL.m {P:Program} {n:Sh} {ops:Array Oper} {Q:Exit->Fr->World->Prop} {f:Fr} {w:World} {rest:List Oper} {d ty:Nat} {pos:String} {aft:Array Edge} {x:Operand} {v:Value} (h:D0 f x=some v) (hd:Nat.blt d n.n=true) (k:WL P n ops Q rest ((d,v)::f) w):WL P n ops Q (⟨some d,.move x,ty,pos,aft,none⟩::rest) f w:=XZ (.mv h) hd k
theorem A2 {P:Program} {n:Sh} {ops:Array Oper} {Q:Exit->Fr->World->Prop} {f:Fr} {w:World} {rest:List Oper} {d ty:Nat} {pos:String} {aft:Array Edge} {x:Operand} {v:Value} (h:D0 f x=some v) (k:WL P n ops Q rest ((d,v)::f) w) (hd:Nat.blt d n.n=true:=by rfl):WL P n ops Q (⟨some d,.move x,ty,pos,aft,none⟩::rest) f w:=XZ (.mv h) hd k
theorem Bx.as {x:Operand} {v:Value} (hx:D0 f x=some v):Bx P (.assign x) f v:=λρ hρ d ty pos aft g w=>by
 simp [execOp,hρ _ _ hx]
theorem A9h {P:Program} {n:Sh} {ops:Array Oper} {Q:Exit->Fr->World->Prop} {f:Fr} {w:World} {d ty:Nat} {pos:String} {aft:Array Edge} {x:Operand} {v:Value} (h:D0 f x=some v) (hd:Nat.blt d n.n=true) (k:Q .normal ((d,v)::f) w):WL P n ops Q [⟨some d,.assign x,ty,pos,aft,none⟩] f w:=XZ (.as h) hd (Y0 k)
theorem WL.a {P:Program} {n:Sh} {ops:Array Oper} {Q:Exit->Fr->World->Prop} {f:Fr} {w:World} {rest:List Oper} {d ty:Nat} {pos:String} {aft:Array Edge} {x:Operand} {v:Value} (h:D0 f x=some v) (hd:Nat.blt d n.n=true) (k:WL P n ops Q rest ((d,v)::f) w):WL P n ops Q (⟨some d,.assign x,ty,pos,aft,none⟩::rest) f w:=XZ (.as h) hd k
theorem Dp {P:Program} {n:Sh} {ops:Array Oper} {Q:Exit->Fr->World->Prop} {f:Fr} {w:World} {rest:List Oper} {d ty:Nat} {pos:String} {aft:Array Edge} {x:Operand} {v:Value} (h:D0 f x=some v) (k:WL P n ops Q rest ((d,v)::f) w) (hd:Nat.blt d n.n=true:=by rfl):WL P n ops Q (⟨some d,.assign x,ty,pos,aft,none⟩::rest) f w:=XZ (.as h) hd k
theorem A9 {P:Program} {n:Sh} {ops:Array Oper} {Q:Exit->Fr->World->Prop} {f:Fr} {w:World} {d ty:Nat} {pos:String} {aft:Array Edge} {x:Operand} {v:Value} (h:D0 f x=some v) (k:Q .normal ((d,v)::f) w) (hd:Nat.blt d n.n=true:=by rfl):WL P n ops Q [⟨some d,.assign x,ty,pos,aft,none⟩] f w:=XZ (.as h) hd (Y0 k)
theorem Bx.pick {c x y:Operand} {t:Bool} {v:Value} (hc:D0 f c=some (.bool t)) (h1:t=true->D0 f x=some v) (h2:t=false->D0 f y=some v):Bx P (.pick c x y) f v:=λρ hρ d ty pos aft g w=>by
 cases t
 · simp [execOp,hρ _ _ hc,asBool,hρ _ _ (h2 rfl)]
 · simp [execOp,hρ _ _ hc,asBool,hρ _ _ (h1 rfl)]
theorem Bx.pkT {c x y:Operand} {t:Bool} {v:Value} (hc:D0 f c=some (.bool t)) (e:t=true) (h1:D0 f x=some v):Bx P (.pick c x y) f v :=
 .pick hc (λ_=>h1) (λh=>by rw [e] at h;cases h)
theorem Bx.pkF {c x y:Operand} {t:Bool} {v:Value} (hc:D0 f c=some (.bool t)) (e:t=false) (h1:D0 f y=some v):Bx P (.pick c x y) f v :=
 .pick hc (λh=>by rw [e] at h;cases h) (λ_=>h1)
section ints
variable {x y:Operand} {k:IntKind} {a b r:Int} {tx ty:TypeId}
theorem Bx.add (hx:D0 f x=some (.int k a)) (hy:D0 f y=some (.int k b)) (hr:k.wrap (a+b)=r):Bx P (.binOp .add tx x y ty) f (.int k r):=λρ hρ d ty pos aft g w=>by
 simp [execOp,hρ _ _ hx,hρ _ _ hy,eqGuard,binOp,Op.intArith,hr]
theorem Bx.sub (hx:D0 f x=some (.int k a)) (hy:D0 f y=some (.int k b)) (hr:k.wrap (a-b)=r):Bx P (.binOp .sub tx x y ty) f (.int k r):=λρ hρ d ty pos aft g w=>by
 simp [execOp,hρ _ _ hx,hρ _ _ hy,eqGuard,binOp,Op.intArith,hr]
theorem Bx.mul (hx:D0 f x=some (.int k a)) (hy:D0 f y=some (.int k b)) (hr:k.wrap (a * b)=r):Bx P (.binOp .mul tx x y ty) f (.int k r):=λρ hρ d ty pos aft g w=>by
 simp [execOp,hρ _ _ hx,hρ _ _ hy,eqGuard,binOp,Op.intArith,hr]
theorem Bx.quo (hx:D0 f x=some (.int k a)) (hy:D0 f y=some (.int k b)) (h0:b≠0) (hr:k.wrap (a.tdiv b)=r):Bx P (.binOp .quo tx x y ty) f (.int k r):=λρ hρ d ty pos aft g w=>by
 simp [execOp,hρ _ _ hx,hρ _ _ hy,eqGuard,binOp,Op.intDiv,h0,hr]
theorem Bx.rem (hx:D0 f x=some (.int k a)) (hy:D0 f y=some (.int k b)) (h0:b≠0) (hr:a.tmod b=r):Bx P (.binOp .rem tx x y ty) f (.int k r):=λρ hρ d ty pos aft g w=>by
 simp [execOp,hρ _ _ hx,hρ _ _ hy,eqGuard,binOp,Op.intDiv,h0,hr]
theorem Bx.lss (hx:D0 f x=some (.int k a)) (hy:D0 f y=some (.int k b)):Bx P (.binOp .lss tx x y ty) f (.bool (decide (a<b))):=λρ hρ d ty pos aft g w=>by
 simp [execOp,hρ _ _ hx,hρ _ _ hy,eqGuard,binOp,Op.intCmp]
theorem Bx.leq (hx:D0 f x=some (.int k a)) (hy:D0 f y=some (.int k b)):Bx P (.binOp .leq tx x y ty) f (.bool (decide (a<=b))):=λρ hρ d ty pos aft g w=>by
 simp [execOp,hρ _ _ hx,hρ _ _ hy,eqGuard,binOp,Op.intCmp]
theorem Bx.gtr (hx:D0 f x=some (.int k a)) (hy:D0 f y=some (.int k b)):Bx P (.binOp .gtr tx x y ty) f (.bool (decide (b<a))):=λρ hρ d ty pos aft g w=>by
 simp [execOp,hρ _ _ hx,hρ _ _ hy,eqGuard,binOp,Op.intCmp]
theorem Bx.geq (hx:D0 f x=some (.int k a)) (hy:D0 f y=some (.int k b)):Bx P (.binOp .geq tx x y ty) f (.bool (decide (b<=a))):=λρ hρ d ty pos aft g w=>by
 simp [execOp,hρ _ _ hx,hρ _ _ hy,eqGuard,binOp,Op.intCmp]
theorem Bx.eql (hx:D0 f x=some (.int k a)) (hy:D0 f y=some (.int k b)):Bx P (.binOp .eql tx x y ty) f (.bool (decide (a=b))):=λρ hρ d ty pos aft g w=>by
 simp [execOp,hρ _ _ hx,hρ _ _ hy,eqGuard,binOp,Op.intCmp];rfl
theorem Bx.neq (hx:D0 f x=some (.int k a)) (hy:D0 f y=some (.int k b)):Bx P (.binOp .neq tx x y ty) f (.bool (!decide (a=b))):=λρ hρ d ty pos aft g w=>by
 simp [execOp,hρ _ _ hx,hρ _ _ hy,eqGuard,binOp,Op.intCmp];rfl
theorem Bx.not {t:Bool} (hx:D0 f x=some (.bool t)):Bx P (.unOp .not tx x) f (.bool (!t)):=λρ hρ d ty pos aft g w=>by
 simp [execOp,hρ _ _ hx,Op.unary]
theorem Bx.cvt {k' k0:IntKind} (hs:P.underlying tx=some (.int k0)) (ht:P.underlying ty=some (.int k')) (hx:D0 f x=some (.int k a)) (hr:k'.wrap a=r):Bx P (.convert tx ty x) f (.int k' r):=λρ hρ d ty' pos aft g w=>by
 simp [execOp,hρ _ _ hx,convert,B8 hs,B8 ht,Conv.intToInt,hr]
theorem Bx.eqb {s t:Bool} (hu:P.underlying tx=some .bool) (hx:D0 f x=some (.bool s)) (hy:D0 f y=some (.bool t)):Bx P (.binOp .eql tx x y ty) f (.bool (decide (s=t))):=λρ hρ d ty pos aft g w=>by
 have h:=run_eql_bool w tx s t hu
 simp only [execOp,hρ _ _ hx,hρ _ _ hy,BB]
 have hg:(eqGuard .eql tx x y (.bool s) (.bool t)).run P w=.ok () w:=by simp [eqGuard]
 simp only [hg,B6,h]
 cases s <;> cases t <;> rfl
theorem Bx.neb {s t:Bool} (hu:P.underlying tx=some .bool) (hx:D0 f x=some (.bool s)) (hy:D0 f y=some (.bool t)):Bx P (.binOp .neq tx x y ty) f (.bool (!decide (s=t))):=λρ hρ d ty pos aft g w=>by
 have h:=run_neq_bool w tx s t hu
 simp only [execOp,hρ _ _ hx,hρ _ _ hy,BB]
 have hg:(eqGuard .neq tx x y (.bool s) (.bool t)).run P w=.ok () w:=by simp [eqGuard]
 simp only [hg,B6,h]
 cases s <;> cases t <;> rfl
end ints
section strings
variable {x y:Operand} {l m:l8_} {tx ty:TypeId}
theorem Bx.len {at':TypeId} (hu:P.underlying at'=some .string) (hx:D0 f x=some (.string (bs l))):Bx P (.call ⟨.builtin .len,#[x],#[at']⟩) f (.int .i64 (l.length:Int)):=λρ hρ d ty pos aft g w=>by
 simp [execOp,resolve,invoke,builtin,Builtin.len_,B8 hu,hρ _ _ hx,goInt,BE]
theorem Bx.ix {i:Int} (hu:P.underlying tx=some .string) (hx:D0 f x=some (.string (bs l))) (hi:D0 f y=some (.int .i64 i)) (k:Nat) (e:i=k) (hk:k<l.length):Bx P (.index tx x y) f (.int .u8 (l[k].toNat:Int)):=λρ hρ d ty pos aft g w=>by
 subst e
 have h1:(bs l)[k]?=some l[k]:=by
  have:k<(bs l).size:=by rw [BE];exact hk
  rw [getElem?_pos (bs l) k this];rfl
 simp [execOp,Instr.index,hρ _ _ hx,hρ _ _ hi,asIntOf,B8 hu,h1]
theorem Bx.cat (hx:D0 f x=some (.string (bs l))) (hy:D0 f y=some (.string (bs m))) (hlen:l.length+m.length<=9223372036854775807):Bx P (.binOp .add tx x y ty) f (.string (bs (l++m))):=λρ hρ d ty pos aft g w=>by
 have h:(l.length:Int)+(m.length:Int)<=9223372036854775807:=by omega
 simp [execOp,hρ _ _ hx,hρ _ _ hy,eqGuard,binOp,Op.stringOp,FH,BE,h]
theorem Bx.eqs (hx:D0 f x=some (.string (bs l))) (hy:D0 f y=some (.string (bs m))):Bx P (.binOp .eql tx x y ty) f (.bool (decide (l=m))):=λρ hρ d ty pos aft g w=>by
 simp [execOp,hρ _ _ hx,hρ _ _ hy,eqGuard,binOp,Op.stringOp,Rt,Z7]
theorem Bx.nes (hx:D0 f x=some (.string (bs l))) (hy:D0 f y=some (.string (bs m))):Bx P (.binOp .neq tx x y ty) f (.bool (!decide (l=m))):=λρ hρ d ty pos aft g w=>by
 simp [execOp,hρ _ _ hx,hρ _ _ hy,eqGuard,binOp,Op.stringOp,Rt,Z7]
theorem Bx.ext {i:Nat} {vs:Array Value} {v:Value} (hx:D0 f x=some (.tuple vs)) (hv:vs[i]?=some v):Bx P (.extract x i) f v:=λρ hρ d ty pos aft g w=>by
 simp [execOp,hρ _ _ hx,Instr.extract,hv]
end strings
def Dk (P:Program) (F:FuncId):Prop:=∃ fn,P.funcs[F]?=some fn/\fn.body≠none/\fn.name≠"runtime.NumGoroutine"
theorem Iz {F:FuncId} {fn:Func} (hf:P.funcs[F]?=some fn) (hb:(fn.body.isNone || fn.name == "runtime.NumGoroutine")=false):Dk P F:=by
 simp only [E1] at hb
 exact ⟨fn,hf,λh=>by rw [h] at hb;exact CM hb.1 dD,λh=>by rw [h] at hb;exact CM hb.2 dD⟩
def Rw (f:Fr):List Operand->Option (List Value)
 | []=>some []
 | x::r=>match D0 f x,Rw f r with
  | some v,some vs=>some (v::vs)
  | _,_=>none
theorem K4 {ρ:Operand->Value} (hρ:Agr f ρ):∀ (xs:List Operand) (vs:List Value),Rw f xs=some vs->xs.map ρ=vs
 | [],vs,h=>by simp only [Rw,Bm] at h;subst h;rfl
 | x::r,vs,h=>by
  unfold Rw at h
  cases hx:D0 f x with
  | none=>rw [hx] at h;cases h
  | some v =>
   cases hr:Rw f r with
   | none=>rw [hx,hr] at h;cases h
   | some us =>
    rw [hx,hr] at h
    simp only [Bm] at h
    subst h
    simp [hρ _ _ hx,K4 hρ r us hr]
theorem N7 {F:FuncId} (hb:Dk P F) {ρ:Operand->Value} (hρ:Agr f ρ) {xs:List Operand} {vs:List Value} (hx:Rw f xs=some vs) {ats:Array TypeId} (d:Option Tmp) (ty:TypeId) (pos:String) (aft:Array Edge) (g:Option (Nat × Bool)) (w:World) :
  (execOp ρ ⟨d,.call ⟨.value (.func F),xs.toArray,ats⟩,ty,pos,aft,g⟩).run P w=.ok (.enter F vs.toArray) w:=by
 obtain ⟨fn,c,i,j⟩:=hb
 have e:=K4 hρ _ _ hx
 have b:ρ (.func F)=.func (.func F) #[] #[]:=hρ _ _ rfl
 have a:xs.toArray.map ρ=vs.toArray:=by simp [e]
 unfold execOp
 simp only [resolve,a,b]
 simp [Deferred.ofValue,invoke,callFunc,run_program,c,i,j]
theorem DQ {ops:Array Oper} {Q:Exit->Fr->World->Prop} {w:World} {rest:List Oper} {d ty:Nat} {pos:String} {aft:Array Edge} {F:FuncId} {xs:List Operand} {ats:Array TypeId} {vs:List Value} {α:Sort _}
  {V:α->Value} {S:α->World->Prop} (hb:Dk P F) (hx:Rw f xs=some vs) (hd:Nat.blt d n.n=true)
  (hc:Calls P F vs.toArray w λe w'=>∃ t,e=.returned (V t)/\S t w') (k:∀ t w',S t w'->WL P n ops Q rest ((d,V t)::f) w') :
  WL P n ops Q (⟨some d,.call ⟨.value (.func F),xs.toArray,ats⟩,ty,pos,aft,none⟩::rest) f w:=by
 intro a ha
 refine wpList_plain rfl λK hK=>?_
 unfold Oper.wp
 rw [N7 hb ha.agr hx,Oper.upon_enter]
 refine hc.mono ?_
 rintro e w' ⟨t,rfl,hS⟩
 exact hK _ _ (k t w' hS _ (ha.put hd _))
theorem FQ {ops:Array Oper} {Q:Exit->Fr->World->Prop} {w:World} {rest:List Oper} {d:Option Tmp} {ty:Nat} {pos:String} {aft:Array Edge} {F:FuncId} {xs:List Operand} {ats:Array TypeId} {vs:List Value}
  {ch:List PanicEntry} {S:World->Prop} (hb:Dk P F) (hx:Rw f xs=some vs)
  (hc:Calls P F vs.toArray w λe w'=>e=.panicked ch/\S w') (k:∀ w',S w'->Q (.panic ch) f w') :
  WL P n ops Q (⟨d,.call ⟨.value (.func F),xs.toArray,ats⟩,ty,pos,aft,none⟩::rest) f w:=by
 intro a ha
 refine wpList_plain rfl λK hK=>?_
 unfold Oper.wp
 rw [N7 hb ha.agr hx,Oper.upon_enter]
 refine hc.mono ?_
 rintro e w' ⟨rfl,hS⟩
 exact ⟨f,ha,k w' hS⟩
theorem A87 {ops:Array Oper} {Q:Exit->Fr->World->Prop} {w:World} {rest:List Oper} {d:Option Tmp} {ty:Nat} {pos:String} {aft:Array Edge} {op:Op} {v:Value}
  (h:∀ ρ,Agr f ρ->(execOp ρ ⟨d,op,ty,pos,aft,none⟩).run P w=.halt (.panic v) w) (k:Q (.panic [{ v,recovered:=false }]) f w) :
  WL P n ops Q (⟨d,op,ty,pos,aft,none⟩::rest) f w:=by
 intro a ha
 refine wpList_plain rfl λK hK=>?_
 unfold Oper.wp
 rw [h _ ha.agr,Oper.upon_panic]
 exact ⟨f,ha,k⟩
theorem WL.c1 {ops:Array Oper} {Q:Exit->Fr->World->Prop} {w:World} {rest:List Oper} {d ty:Nat} {pos:String} {aft:Array Edge} {F:FuncId} {xs:List Operand} {ats:Array TypeId} {vs:List Value}
  {V:Value} {S:World->Prop} (hb:Dk P F) (hx:Rw f xs=some vs) (hd:Nat.blt d n.n=true)
  (hc:Calls P F vs.toArray w λe w'=>e=.returned V/\S w') (k:∀ w',S w'->WL P n ops Q rest ((d,V)::f) w') :
  WL P n ops Q (⟨some d,.call ⟨.value (.func F),xs.toArray,ats⟩,ty,pos,aft,none⟩::rest) f w :=
 DQ (α:=Unit) (V:=λ_=>V) (S:=λ_=>S) hb hx hd (hc.mono λ_ _ h=>⟨(),h⟩) (λ_=>k)
def AF (w:World) (b:Nat) (cs:Array Value) (t:TypeId):Prop:=w.heap[b]?=some (.cells cs t (0,0))
structure BF (b:Nat) (w w1:World):Prop where
 os:w1.os=w.os
 tape:w1.tape=w.tape
 output:w1.output=w.output
 size:w.heap.size<=w1.heap.size
 other:∀ k,k≠b->w1.heap[k]?=w.heap[k]?
theorem AF.lt {w:World} {b:Nat} {cs:Array Value} {t:TypeId} (h:AF w b cs t):b<w.heap.size:=(Bs.1 h).1
theorem BF.below {B b:Nat} {w0 w w1:World} (hb:Below B w0 w) (hB:B<=b) (h:BF b w w1):Below B w0 w1 :=
 ⟨h.os.trans hb.os,h.tape.trans hb.tape,h.output.trans hb.output,AW hb.size h.size,λk hk=>(h.other k oO).trans (hb.block k hk)⟩
theorem uB {b:Nat} {a w w1:World} (h:Below a.heap.size a w) (e:b=w.heap.size) (u:BF b w w1):Below a.heap.size a w1:=BF.below h (e▸h.size) u
abbrev CN:=@BF.below
theorem AF.upd {w w1:World} {b c:Nat} {cs:Array Value} {t:TypeId} (h:AF w c cs t) (hu:BF b w w1) (hne:c≠b):AF w1 c cs t:=(hu.other c hne).trans h
theorem AF.up {w w1:World} {b c:Nat} {cs:Array Value} {t:TypeId} (h:AF w c cs t) (hu:BF b w w1) (hne:c≠b:=by ((try simp only) <;> omega)):AF w1 c cs t:=h.upd hu hne
theorem Cq {a b c:Nat} (e:b=c) (h:a<=c):a<=b:=e▸h
theorem Bg {a b c:Nat} (e:b=c) (h:a<c):a<b:=e▸h
theorem AF.un {w w1:World} {b c:Nat} {cs:Array Value} {t:TypeId} (h:AF w c cs t) (hu:BF b w w1) (hl:c<b):AF w1 c cs t:=h.upd hu (A8f hl)
theorem bL {a b:Nat} (h:Nat.ble a b=true:=by rfl):a<=b:=Nat.le_of_ble_eq_true h
theorem AF.below {w w1:World} {B c:Nat} {cs:Array Value} {t:TypeId} (h:AF w c cs t) (hb:Below B w w1) (hc:c<B):AF w1 c cs t:=(hb.block c hc).trans h
theorem AF.bl {w w1:World} {c:Nat} {cs:Array Value} {t:TypeId} (h:AF w c cs t) (hb:Below w.heap.size w w1):AF w1 c cs t:=h.below hb h.lt
theorem BF.alloc (w:World) (o:Obj):BF w.heap.size w (w.alloc o):=⟨rfl,rfl,rfl,by simp,λk hk=>by
 show (w.heap.push o)[k]?=_
 rw [Array.getElem?_push,A1 hk]⟩
theorem BF.setRow (w:World) (b:Nat) (cs:Array Value):BF b w (w.setRow b cs):=⟨rfl,rfl,rfl,by simp [World.setRow],λk hk=>by
 simp only [World.setRow,Array.getElem?_modify]
 rw [A1 oO]⟩
theorem BF.setCell (w:World) (b o:Nat) (v:Value):BF b w (w.setCell ⟨b,o,none⟩ v):=⟨rfl,rfl,rfl,by simp [World.setCell],λk hk=>by
 simp only [World.setCell,Array.getElem?_modify]
 rw [A1 oO]⟩
theorem AF.alloc (w:World) (cs:Array Value) (t:TypeId):AF (w.alloc (.cells cs t)) w.heap.size cs t:=by
 show (w.heap.push _)[w.heap.size]?=_
 simp
theorem AF.setCell {w:World} {b:Nat} {cs:Array Value} {t:TypeId} (h:AF w b cs t) (o:Nat) (v:Value):AF (w.setCell ⟨b,o,none⟩ v) b (cs.setIfInBounds o v) t:=by
 unfold AF at *
 simp [World.setCell,Array.getElem?_modify,h]
theorem AF.cell {w:World} {b:Nat} {cs:Array Value} {t:TypeId} (h:AF w b cs t) (o:Nat):w.cell? ⟨b,o,none⟩=cs[o]?:=cell_of_row w b o cs t (0,0) h
theorem AF.free {w:World} {b:Nat} {cs:Array Value} {t:TypeId} (h:AF w b cs t) (o:Nat):w.frozen? ⟨b,o,none⟩=false:=by
 unfold AF at h
 simp [World.frozen?,h]
section mem
variable {ops:Array Oper} {Q:Exit->Fr->World->Prop} {w:World} {rest:List Oper} {d ty:Nat} {pos:String} {aft:Array Edge}
theorem WL.alloc {t:TypeId} {z:Value} (hz:∀ w,(zeroValue t).run P w=.ok z w) (hd:Nat.blt d n.n=true)
  (k:∀ b w1,b=w.heap.size->AF w1 b z.cells t->BF b w w1->w1.heap.size=b+1->WL P n ops Q rest ((d,.pointer (some ⟨b,0,none⟩))::f) w1) :
  WL P n ops Q (⟨some d,.alloc t,ty,pos,aft,none⟩::rest) f w :=
 WL.run hd (w':=w.alloc (.cells z.cells t)) (v:=.pointer (some ⟨w.heap.size,0,none⟩)) (λρ hρ=>by
  simp [execOp,Instr.alloc,hz,newVar,newRow]) (k _ _ rfl (AF.alloc _ _ _) (BF.alloc _ _) (by simp))
abbrev BV:=@WL.alloc
theorem CU {t:TypeId} {x:Operand} {v:Value} (hx:D0 f x=some v) (hd:Nat.blt d n.n=true)
  (k:∀ b w1,b=w.heap.size->AF w1 b v.cells t->BF b w w1->w1.heap.size=b+1->WL P n ops Q rest ((d,.pointer (some ⟨b,0,none⟩))::f) w1) :
  WL P n ops Q (⟨some d,.box t x,ty,pos,aft,none⟩::rest) f w :=
 WL.run hd (w':=w.alloc (.cells v.cells t)) (v:=.pointer (some ⟨w.heap.size,0,none⟩)) (λρ hρ=>by
  simp [execOp,Instr.box,hρ _ _ hx,newVar,newRow]) (k _ _ rfl (AF.alloc _ _ _) (BF.alloc _ _) (by simp))
theorem A6W {t tb:TypeId} {x y:Operand} {b:Nat} {old cs:Array Value} (hx:D0 f x=some (.pointer (some ⟨b,0,none⟩))) (hy:D0 f y=some (.agg cs)) (hb:AF w b old tb)
  (hi:(P.info? t).map (·.size)=some cs.size) (ho:old.size=cs.size) (h1:cs.all (·.oneCell')=true)
  (k:∀ w1,AF w1 b cs tb->BF b w w1->w1.heap.size=w.heap.size->WL P n ops Q rest f w1) :
  WL P n ops Q (⟨none,.store t x y,ty,pos,aft,none⟩::rest) f w :=
 RN (w':=w.setRow b cs) (λρ hρ=>by
  unfold execOp
  simp only [hρ _ _ hx,hρ _ _ hy,Instr.storeAt,Instr.sureAddr,BB,CX,B6,run_storeVar_row w b tb t old cs hb hi ho h1])
  (k _ (setRow_heap w b old cs tb (0,0) hb) (BF.setRow _ _ _) (by simp [World.setRow]))
theorem A8N {t tb:TypeId} {x:Operand} {b:Nat} {cs:Array Value} {dd:TypeDesc} (hx:D0 f x=some (.pointer (some ⟨b,0,none⟩))) (hb:AF w b cs tb)
  (hu:P.underlying t=some dd) (hdd:(match dd with | .struct _ | .array _ _=>true | _=>false)=true) (hi:(P.info? t).map (·.size)=some cs.size) (hd:Nat.blt d n.n=true)
  (k:WL P n ops Q rest ((d,.agg cs)::f) w):WL P n ops Q (⟨some d,.load t x,ty,pos,aft,none⟩::rest) f w :=
 WL.run hd (λρ hρ=>by
  unfold execOp
  simp only [hρ _ _ hx,Instr.loadAt,Instr.sureAddr,BB,CX,B6,run_loadVar_row w b tb t cs (0,0) dd hb hu hdd hi]) k
theorem Bx.build {t:TypeId} {ps:List (Nat × Operand)} {vs:List Value} {cs:Array Value} (hx:Rw f (ps.map (·.2))=some vs) (hb:P.built t ((ps.map (·.1)).zip vs)=some cs):Bx P (.build t ps.toArray) f (.agg cs):=λρ hρ d ty pos aft g w=>by
 have e:=K4 hρ _ _ hx
 have e2:(ps.toArray.map λ(i,x)=>(i,ρ x)).toList=(ps.map (·.1)).zip vs:=by
  rw [<- e]
  simp only [List.map_map,Array.toList_map]
  clear hx hb e
  induction ps with
  | nil=>rfl
  | cons p r ih=>simpa using ih
 unfold execOp
 simp only [BB,run_build w t _ cs (by rw [e2];exact hb),B6,CX]
end mem
end
section
variable {P:Program} {n:Sh} {f:Fr}
def Rd (P:Program) (op:Op) (f:Fr) (w:World) (v:Value):Prop:=∀ ρ,Agr f ρ->∀ d ty pos aft g,(execOp ρ ⟨d,op,ty,pos,aft,g⟩).run P w=.ok (.value v) w
theorem Bx.rd {op:Op} {v:Value} {w:World} (h:Bx P op f v):Rd P op f w v:=λρ hρ d ty pos aft g=>h ρ hρ d ty pos aft g w
theorem Ad {t tb:TypeId} {x:Operand} {b o:Nat} {cs:Array Value} {v:Value} {w:World} (ha:(isAgg t).run P w=.ok false w) (hx:D0 f x=some (.pointer (some ⟨b,o,none⟩))) (hb:AF w b cs tb) (hv:cs[o]?=some v) :
  Rd P (.load t x) f w v:=λρ hρ d ty pos aft g=>by
 have hc:=(hb.cell o).trans hv
 simp [execOp,hρ _ _ hx,Instr.loadAt,Instr.sureAddr,loadVar,ha,hc]
theorem AO {t:TypeId} {x:Operand} {p:Addr} {v:Value} {w:World} (ha:(isAgg t).run P w=.ok false w) (hx:D0 f x=some (.pointer (some p))) (hv:w.cell? p=some v) :
  Rd P (.load t x) f w v:=λρ hρ d ty pos aft g=>by
 simp [execOp,hρ _ _ hx,Instr.loadAt,Instr.sureAddr,loadVar,ha,hv]
theorem BA {t tb:TypeId} {x:Operand} {b:Nat} {cs:Array Value} {dd:TypeDesc} {w:World} (hx:D0 f x=some (.pointer (some ⟨b,0,none⟩))) (hb:AF w b cs tb)
  (hu:P.underlying t=some dd) (hdd:(match dd with | .struct _ | .array _ _=>true | _=>false)=true) (hi:(P.info? t).map (·.size)=some cs.size):Rd P (.load t x) f w (.agg cs):=λρ hρ d ty pos aft g=>by
 unfold execOp
 simp only [hρ _ _ hx,Instr.loadAt,Instr.sureAddr,BB,CX,B6,run_loadVar_row w b tb t cs (0,0) dd hb hu hdd hi]
theorem Bx.lenS {at' e:TypeId} {x:Operand} {p:Option Addr} {l c:Nat} (hu:P.underlying at'=some (.slice e)) (hx:D0 f x=some (.slice p l c)):Bx P (.call ⟨.builtin .len,#[x],#[at']⟩) f (.int .i64 (l:Int)):=λρ hρ d ty pos aft g w=>by
 simp [execOp,resolve,invoke,builtin,Builtin.len_,B8 hu,hρ _ _ hx,goInt]
theorem Wp {tx e:TypeId} {x y:Operand} {p:Addr} {l c sz:Nat} {i:Int} {k:IntKind} (hu:P.underlying tx=some (.slice e)) (hs:∀ w,(sizeOf e).run P w=.ok sz w) (hx:D0 f x=some (.slice (some p) l c))
  (hi:D0 f y=some (.int k i)) (j:Nat) (e':i=j) (hj:j<l):Bx P (.indexAddr tx x y) f (.pointer (some (p.add (j * sz)))):=λρ hρ d ty pos aft g w=>by
 subst e'
 simp [execOp,Instr.indexAt,hρ _ _ hx,hρ _ _ hi,asIntOf,B8 hu,hs,hj]
theorem Bx.fa {s:TypeId} {x:Operand} {p:Addr} {i:Nat} {fs:Array Field} {fd:Field} {sz:Nat} (hu:P.underlying s=some (.struct fs)) (hf:fs[i]?=some fd) (hs:∀ w,(sizeOf fd.type).run P w=.ok sz w) (h0:sz≠0)
  (hx:D0 f x=some (.pointer (some p))):Bx P (.fieldAddr s x i) f (.pointer (some (p.add fd.offset))):=λρ hρ d ty pos aft g w=>by
 simp [execOp,Instr.fieldAt,hρ _ _ hx,B8 hu,hf,Instr.sureAddr,fieldPlace,hs,h0]
theorem Bx.nck {x:Operand} {p:Addr} (hx:D0 f x=some (.pointer (some p))):Bx P (.nilCheck x) f (.pointer (some p)):=λρ hρ d ty pos aft g w=>by
 simp [execOp,hρ _ _ hx]
theorem A8M {ops:Array Oper} {Q:Exit->Fr->World->Prop} {w:World} {rest:List Oper} {d ty:Nat} {pos:String} {aft:Array Edge} {op:Op} {v:Value}
  (h:Rd P op f w v) (hd:Nat.blt d n.n=true) (k:WL P n ops Q rest ((d,v)::f) w):WL P n ops Q (⟨some d,op,ty,pos,aft,none⟩::rest) f w :=
 WL.run hd (λρ hρ=>h ρ hρ _ _ _ _ _) k
theorem Ag {P:Program} {n:Sh} {ops:Array Oper} {Q:Exit->Fr->World->Prop} {f:Fr} {w:World} {rest:List Oper} {d ty:Nat} {pos:String} {aft:Array Edge} {op:Op} {v:Value} (h:Rd P op f w v) (k:WL P n ops Q rest ((d,v)::f) w) (hd:Nat.blt d n.n=true:=by rfl):WL P n ops Q (⟨some d,op,ty,pos,aft,none⟩::rest) f w:=A8M h hd k
theorem WL.st {ops:Array Oper} {Q:Exit->Fr->World->Prop} {w:World} {rest:List Oper} {ty:Nat} {pos:String} {aft:Array Edge} {t tb:TypeId} {x y:Operand} {b o:Nat} {cs:Array Value} {v:Value}
  (hs:∀ w,(sizeOf t).run P w=.ok 1 w) (hx:D0 f x=some (.pointer (some ⟨b,o,none⟩))) (hy:D0 f y=some v) (h1:v.oneCell'=true) (hb:AF w b cs tb) (ho:o<cs.size)
  (k:∀ w1,AF w1 b (cs.setIfInBounds o v) tb->BF b w w1->w1.heap.size=w.heap.size->WL P n ops Q rest f w1):WL P n ops Q (⟨none,.store t x y,ty,pos,aft,none⟩::rest) f w :=
 RN (w':=w.setCell ⟨b,o,none⟩ v) (λρ hρ=>by
  have hc:w.cell? ⟨b,o,none⟩=some cs[o]:=by rw [hb.cell o];simp [ho]
  have hf:=hb.free o
  have a:=run_store P w ⟨b,o,none⟩ v .plain h1
  have c:v.cells=#[v]:=by cases v <;> first | rfl | cases h1
  have d:(⟨b,o,none⟩:Addr).add 0=⟨b,o,none⟩:=by simp [Addr.add]
  simp [execOp,hρ _ _ hx,hρ _ _ hy,Instr.storeAt,Instr.sureAddr,storeVar,c,hs,storeCells,d,a,hc,hf])
  (k _ (hb.setCell o v) (BF.setCell w b o v) (by simp [World.setCell]))
theorem RZ {a:Act} {ops:Array Oper} {j dj:Nat} (ha:Lh n f a) (hj:(ops[j]?).bind (·.dst)=some dj) (ht:look f dj=some undef):yielded ops a.tmps j=none:=by
 have b:=ha.2.2 _ _ ht
 unfold yielded
 cases ho:ops[j]? with
 | none=>rw [ho] at hj;cases hj
 | some o =>
  rw [ho] at hj
  simp only [Option.bind_some] at hj
  cases h:a.tmps[dj]? with
  | none=>simp [hj,h]
  | some v =>
   rw [B0,h] at b
   simp only [Option.getD_some] at b
   subst b
   simp [hj,h,undef]
theorem A88 {ops:Array Oper} {Q:Exit->Fr->World->Prop} {w:World} {rest:List Oper} {d ty:Nat} {pos:String} {aft:Array Edge} {op:Op} {j dj:Nat} {b:Bool}
  (hj:(ops[j]?).bind (·.dst)=some dj) (ht:look f dj=some undef) (hd:Nat.blt d n.n=true)
  (hn:WL P n ops Q rest ((d,undef)::f) w):WL P n ops Q (⟨some d,op,ty,pos,aft,some (j,b)⟩::rest) f w:=by
 intro a ha
 have c:=RZ ha hj ht
 have:=hn _ (ha.put hd undef)
 unfold wpList
 simp only [Region.wanted,c]
 exact this
theorem FN {P:Program} {n:Sh} {ops:Array Oper} {Q:Exit->Fr->World->Prop} {f:Fr} {w:World} {rest:List Oper} {d ty:Nat} {pos:String} {aft:Array Edge} {op:Op} {j dj:Nat} {b:Bool} (hn:WL P n ops Q rest ((d,undef)::f) w) (hj:(ops[j]?).bind (·.dst)=some dj:=by rfl) (ht:look f dj=some undef:=by rfl) (hd:Nat.blt d n.n=true:=by rfl):WL P n ops Q (⟨some d,op,ty,pos,aft,some (j,b)⟩::rest) f w:=A88 hj ht hd hn
def Le (g f:Fr):Prop:=∀ i v,look g i=some v->look f i=some v
theorem Le.refl (f:Fr):Le f f:=λ_ _ h=>h
theorem Le.cons {g f:Fr} {d:Nat} {v:Value} (hd:look g d=none) (h:Le g f):Le g ((d,v)::f):=by
 intro i u hu
 unfold look
 cases hb:Nat.beq d i with
 | true =>
  obtain rfl:d=i:=CY hb
  rw [hd] at hu;cases hu
 | false=>exact h i u hu
theorem Le.put {g f:Fr} (h:Le g f) {d:Nat} {v:Value} (hd:look f d=some v):Le ((d,v)::g) f:=by
 intro i u hu
 unfold look at hu
 cases hb:Nat.beq d i with
 | true =>
  rw [hb] at hu
  obtain rfl:d=i:=CY hb
  rw [hd];exact hu
 | false=>rw [hb] at hu;exact h i u hu
theorem Fd {x y:Code} {Q:Exit->Fr->World->Prop} {w:World} (c:Nat) (T:Bool)
  (h1:W P n x (nx (λf' w'=>(look f' c=some (.bool T)/\Le f f')/\w'=w) Q) f w) (h2:W P n y Q ((c,.bool T)::f) w):W P n (.seq x y) Q f w:=by
 refine Ah (h1.mono ?_)
 intro e f' w' h
 cases e with
 | normal =>
  obtain ⟨⟨hc,b⟩,rfl⟩:=h;exact λa ha=>h2 a ⟨ha.1,ha.2.1,λi v hv=>ha.2.2 i v (b.put hc i v hv)⟩
 | _=>exact h
theorem JY {p:Prop} [Decidable p] (h:(!decide p)=true):¬ p:=by simpa using h
theorem JZ {p:Prop} [Decidable p] (h:(!decide p)=false):p:=by simpa using h
theorem nT {t:Bool} (h:(!t)=true):t=false:=by simpa using h
theorem nF {t:Bool} (h:(!t)=false):t=true:=by simpa using h
theorem Cy {f:Fr} {i:Nat} {s t:Bool} (h:look f i=some (.bool s)) (e:s=t):look f i=some (.bool t):=by rw [h,e]
theorem leF {f g:Fr} {c:Nat} {s t:Bool} (h:look g c=some (.bool s)) (e:s=t:=by first | (simp;omega) | (exfalso;simp_all;omega) | (exfalso;omega)) (k:Le f g:=by repeat (first | exact Le.refl _ | refine Le.cons rfl ?_)):look g c=some (.bool t)/\Le f g:=⟨Cy h e,k⟩
theorem G8 {f g:Fr} {c:Nat} {t:Bool} (h:look g c=some (.bool t)) (k:Le f g:=by repeat (first | exact Le.refl _ | refine Le.cons rfl ?_)):look g c=some (.bool t)/\Le f g:=⟨h,k⟩
theorem LA {f:Fr} {i:Nat} {k:IntKind} {s t:Int} (h:look f i=some (.int k s)) (e:s=t):look f i=some (.int k t):=by rw [h,e]
theorem OX {f:Fr} {i:Nat} {s t:l8_} (h:look f i=some (.string (bs s))) (e:s=t):look f i=some (.string (bs t)):=by rw [h,e]
def CZ (w w1:World):Prop:=∃ m,w1=w.drewN m
theorem CZ.refl (w:World):CZ w w:=⟨0,rfl⟩
theorem CZ.trans {a b c:World} (h:CZ a b) (k:CZ b c):CZ a c:=by
 obtain ⟨m,rfl⟩:=h;obtain ⟨j,rfl⟩:=k;exact ⟨m+j,by rw [World.drewN_drewN]⟩
theorem CZ.below {B:Nat} {w0 w w1:World} (h:Below B w0 w) (d:CZ w w1):Below B w0 w1:=by
 obtain ⟨m,rfl⟩:=d;exact ⟨h.os,h.tape,h.output,h.size,h.block⟩
theorem CZ.size {w w1:World} (d:CZ w w1):w1.heap.size=w.heap.size:=by obtain ⟨m,rfl⟩:=d;rfl
theorem AF.drew {w w1:World} {b:Nat} {cs:Array Value} {t:TypeId} (h:AF w b cs t) (d:CZ w w1):AF w1 b cs t:=by obtain ⟨m,rfl⟩:=d;exact h
def WS (P:Program) (n:Sh) (ops:Array Oper) (Q:Exit->Fr->World->Prop) (tail:List Oper) (w:World) (l:List Oper) (f:Fr):Prop :=
 ∀ a,Lh n f a->wpStill P ops w (λa'=>wpList P ops (GV n Q) tail a' w) l a
theorem ME {x y:Code} {Q:Exit->Fr->World->Prop} {w:World} (c:Nat) (T:Bool)
  (h1:W P n x (nx (λf' w'=>(look f' c=some (.bool T)/\Le f f')/\CZ w w') Q) f w) (h2:∀ w1,CZ w w1->W P n y Q ((c,.bool T)::f) w1):W P n (.seq x y) Q f w:=by
 refine Ah (h1.mono ?_)
 intro e f' w' h
 cases e with
 | normal =>
  obtain ⟨⟨hc,b⟩,d⟩:=h;exact λa ha=>h2 _ d a ⟨ha.1,ha.2.1,λi v hv=>ha.2.2 i v (b.put hc i v hv)⟩
 | _=>exact h
def WQ (P:Program) (n:Sh) (ops:Array Oper) (Q:Exit->Fr->World->Prop) (w:World) (l:List Oper) (f:Fr):Prop :=
 ∀ a,Lh n f a->wpQuiet P ops (λw'=>∃ m,w'=w.drewN m) (λa'=>∀ w',(∃ m,w'=w.drewN m)->GV n Q .normal a' w') l a
theorem E2 {Q:Exit->Fr->World->Prop} {w:World} {id:Nat} {l:List Oper} (hm:P.follows .mixedOrders=true) (hB:Region.lexB .any l.toArray=true) (h:WQ P n l.toArray Q w l f):W P n (.region id l.toArray true) Q f w :=
 λa ha=>wp_region_quiet_lit hm hB (h a ha)
section
variable {ops:Array Oper} {Q:Exit->Fr->World->Prop} {w:World} {rest:List Oper} {d ty:Nat} {pos:String} {aft:Array Edge} {op:Op} {v:Value}
theorem Da (h:∀ w1,CZ w w1->Q .normal f w1):WQ P n ops Q w [] f:=λ_ ha=>wpQuiet_nil λw' e=>⟨f,ha,h w' e⟩
theorem Di (h:∀ m,Rd P op f (w.drewN m) v) (hd:Nat.blt d n.n=true) (k:WQ P n ops Q w rest ((d,v)::f)):WQ P n ops Q w (⟨some d,op,ty,pos,aft,none⟩::rest) f:=by
 intro a ha
 unfold wpQuiet
 rw [A6 (by simp [Region.wanted])]
 refine ⟨v,?_,k _ (ha.put hd v)⟩
 rintro w' ⟨m,rfl⟩
 unfold Oper.quietAt
 rw [h m _ ha.agr]
 exact ⟨rfl,rfl⟩
theorem At (h:Bx P op f v) (hd:Nat.blt d n.n=true) (k:WQ P n ops Q w rest ((d,v)::f)):WQ P n ops Q w (⟨some d,op,ty,pos,aft,none⟩::rest) f:=Di (λ_=>h.rd) hd k
theorem M9 {j dj:Nat} {b t:Bool} (hj:(ops[j]?).bind (·.dst)=some dj) (ht:look f dj=some (.bool t)) (hd:Nat.blt d n.n=true)
    (hy:t=b->WQ P n ops Q w (⟨some d,op,ty,pos,aft,none⟩::rest) f) (hn:t=!b->WQ P n ops Q w rest ((d,undef)::f)) :
    WQ P n ops Q w (⟨some d,op,ty,pos,aft,some (j,b)⟩::rest) f:=by
  intro a ha
  have c:=ha.2.2 _ _ ht
  have e:yielded ops a.tmps j=some t:=by
    unfold yielded
    cases ho:ops[j]? with
    | none=>rw [ho] at hj;cases hj
    | some o =>
      rw [ho] at hj
      simp only [Option.bind_some] at hj
      have g:a.tmps[dj]?=some (.bool t):=by
        cases h:a.tmps[dj]? with
        | none=>rw [B0,h] at c;cases c
        | some v=>rw [B0,h] at c;exact Bc some c
      simp [hj,g]
  by_cases hb:t=b
  · have := hy hb a ha
    unfold wpQuiet at this ⊢
    simp only [Region.wanted,e,hb,beq_self_eq_true,if_true] at this ⊢
    exact this
  · have hb' : t = !b := by revert hb; cases t <;> cases b <;> decide
    have:=hn hb' _ (ha.put hd undef)
    unfold wpQuiet
    have hw:(some t == some b)=false:=by revert hb;cases t <;> cases b <;> decide
    simp only [Region.wanted,e,hw]
    exact this
theorem BT {j dj:Nat} {b t:Bool} (hj:(ops[j]?).bind (·.dst)=some dj) (ht:look f dj=some (.bool t)) (hd:Nat.blt d n.n=true) (e:t=b)
  (hy:WQ P n ops Q w (⟨some d,op,ty,pos,aft,none⟩::rest) f):WQ P n ops Q w (⟨some d,op,ty,pos,aft,some (j,b)⟩::rest) f :=
 M9 hj ht hd (λ_=>hy) (λh=>by rw [e] at h;cases b <;> cases h)
theorem Bb {j dj:Nat} {b t:Bool} (hj:(ops[j]?).bind (·.dst)=some dj) (ht:look f dj=some (.bool t)) (hd:Nat.blt d n.n=true) (e:t=!b)
  (hn:WQ P n ops Q w rest ((d,undef)::f)):WQ P n ops Q w (⟨some d,op,ty,pos,aft,some (j,b)⟩::rest) f :=
 M9 hj ht hd (λh=>by rw [e] at h;cases b <;> cases h) (λ_=>hn)
theorem WQ.c1 {F:FuncId} {xs:List Operand} {ats:Array TypeId} {vs:List Value} (hb:Dk P F) (hx:Rw f xs=some vs) (hd:Nat.blt d n.n=true)
  (hc:∀ m,Calls P F vs.toArray (w.drewN m) λe w'=>e=.returned v/\∃ k,w'=w.drewN k) (k:WQ P n ops Q w rest ((d,v)::f)) :
  WQ P n ops Q w (⟨some d,.call ⟨.value (.func F),xs.toArray,ats⟩,ty,pos,aft,none⟩::rest) f:=by
 intro a ha
 unfold wpQuiet
 rw [A6 (by simp [Region.wanted])]
 refine ⟨v,?_,k _ (ha.put hd v)⟩
 rintro w' ⟨m,rfl⟩
 unfold Oper.quietAt
 rw [N7 hb ha.agr hx]
 exact ⟨rfl,hc m⟩
end
end
theorem Bx.eqAgg {P:Program} {f:Fr} {x y:Operand} {t ty:TypeId} {xs ys:Array Value} {r:Bool} (hx:D0 f x=some (.agg xs)) (hy:D0 f y=some (.agg ys)) (hm:P.eqGuardType P.depth t=false)
  (h:∀ w,(binOp .eql t (.agg xs) (.agg ys)).run P w=.ok (.bool r) w):Bx P (.binOp .eql t x y ty) f (.bool r):=λρ hρ d ty' pos aft g w=>by
 simp [execOp,hρ _ _ hx,hρ _ _ hy,run_eqGuard_agg w .eql t x y xs ys hm,h]
theorem Bx.neAgg {P:Program} {f:Fr} {x y:Operand} {t ty:TypeId} {xs ys:Array Value} {r:Bool} (hx:D0 f x=some (.agg xs)) (hy:D0 f y=some (.agg ys)) (hm:P.eqGuardType P.depth t=false)
  (h:∀ w,(binOp .neq t (.agg xs) (.agg ys)).run P w=.ok (.bool r) w):Bx P (.binOp .neq t x y ty) f (.bool r):=λρ hρ d ty' pos aft g w=>by
 simp [execOp,hρ _ _ hx,hρ _ _ hy,run_eqGuard_agg w .neq t x y xs ys hm,h]
theorem Bx.bis {P:Program} {op:Op} {f:Fr} {s:Bool} (t:Bool) (h:Bx P op f (.bool s)) (e:s=t):Bx P op f (.bool t):=e▸h
theorem Bx.iis {P:Program} {op:Op} {f:Fr} {k:IntKind} {s:Int} (t:Int) (h:Bx P op f (.int k s)) (e:s=t):Bx P op f (.int k t):=e▸h
theorem Bx.sis {P:Program} {op:Op} {f:Fr} {s:l8_} (t:l8_) (h:Bx P op f (.string (bs s))) (e:s=t):Bx P op f (.string (bs t)):=e▸h
def A1Y:List Value->Bool
 | []=>true
 | v::r=>v.oneCell' && A1Y r
theorem QU:∀ {l:List Value},A1Y l=true->∀ v∈l,v.oneCell'=true
 | [],_,v,hv=>by cases hv
 | u::r,h,v,hv=>by
  simp only [A1Y,A3] at h
  rcases Ar.1 hv with rfl | hv
  · exact h.1
  · exact QU h.2 v hv
def Vb:List Value->List (Nat × Value)->List Value
 | z,[]=>z
 | z,(i,v)::r=>Vb (z.set i v) r
theorem pR {p:Prop} (h:p:=by simp only [Vb,List.map,List.zip,List.zipWith,List.set,List.replicate] <;> rfl):p:=h
theorem pS {p:Prop} (h:p:=by simp only [Vb,List.map,List.zip,List.zipWith,List.set] <;> rfl):p:=h
theorem pZ {p:Prop} (h:p:=by simp only [Vb,List.map,List.zip,List.zipWith] <;> rfl):p:=h
def LZ:Nat->Nat->List (Nat × Nat)->Bool
 | _,0,l=>l.isEmpty
 | k,n+1,p::l=>Nat.beq p.1 k && Nat.beq p.2 1 && LZ (k+1) n l
 | _,_+1,[]=>false
theorem Pw:∀ (n k:Nat) (l:List (Nat × Nat)),LZ k n l=true->∀ i,i<n->l[i]?=some (k+i,1)
 | 0,_,_,_,_,hi=>by omega
 | n+1,k,[],h,_,_=>by cases h
 | n+1,k,p::l,h,i,hi=>by
  simp only [LZ,A3] at h
  obtain ⟨⟨h1,h2⟩,h3⟩:=h
  cases i with
  | zero =>
   have e1:=CY h1
   have e2:=CY h2
   simp;exact Prod.ext e1 e2
  | succ i =>
   have:=Pw n (k+1) l h3 i oO
   rw [List.getElem?_cons_succ,this]
   congr 2;omega
theorem QV {v:Value} (h:v.oneCell'=true):v.cells=#[v]:=by cases v <;> first | rfl | cases h
def Ro (n:Nat):List (Nat × Value)->Bool
 | []=>true
 | (i,v)::r=>Nat.blt i n && v.oneCell' && Ro n r
theorem Tn {pl:List (Nat × Nat)} {n:Nat} (hp:LZ 0 n pl=true):∀ (Cl:List (Nat × Value)) (z:List Value),z.length=n->Ro n Cl=true->Instr.fill (pl.toArray[·]?) z.toArray Cl=some (Vb z Cl).toArray
 | [],z,_,_=>rfl
 | (i,v)::r,z,hz,ho=>by
  simp only [Ro,A3] at ho
  obtain ⟨⟨h1,h2⟩,h3⟩:=ho
  have hi:i<n:=by simpa [Nat.blt_eq] using h1
  have a:=Pw n 0 pl hp i hi
  have hc:=QV h2
  have ih:=Tn hp r (z.set i v) (by simpa using hz) h3
  simp only [EF] at a
  have b:pl.toArray[i]?=some (i,1):=by simpa using a
  have hf:(#[v].zipIdx.foldl (λcs (x:Value × Nat)=>cs.setIfInBounds (i+x.2) x.1) z.toArray)=(z.set i v).toArray:=by simp [Array.zipIdx]
  refine Eq.trans ?_ ih
  conv=>lhs;unfold Instr.fill
  simp only [b,hc]
  rw [A1 (by simp;omega)]
  exact Bc (λc=>Instr.fill (pl.toArray[·]?) c r) hf
theorem Bx.buildL {P:Program} {f:Fr} {t:TypeId} {ps:List (Nat × Operand)} {vs zl l:List Value} {pl:List (Nat × Nat)} (hb:P.built t=λCl=>Instr.fill (pl.toArray[·]?) zl.toArray Cl) (hp:LZ 0 zl.length pl=true)
  (hx:Rw f (ps.map (·.2))=some vs) (ho:Ro zl.length ((ps.map (·.1)).zip vs)=true) (hl:Vb zl ((ps.map (·.1)).zip vs)=l):Bx P (.build t ps.toArray) f (.agg l.toArray) :=
 Bx.build hx (by rw [hb,<- hl];exact Tn hp _ _ rfl ho)
theorem Az {P:Program} {n:Sh} {f:Fr} {ops:Array Oper} {Q:Exit->Fr->World->Prop} {w:World} {rest:List Oper} {ty:Nat} {pos:String} {aft:Array Edge} {t tb:TypeId} {x y:Operand} {b:Nat} {old l:List Value} (hx:D0 f x=some (.pointer (some ⟨b,0,none⟩))) (hy:D0 f y=some (.agg l.toArray)) (hb:AF w b old.toArray tb)
  (hi:(P.info? t).map (·.size)=some l.length) (ho:old.length=l.length) (h1:A1Y l=true)
  (k:∀ w1,AF w1 b l.toArray tb->BF b w w1->w1.heap.size=w.heap.size->WL P n ops Q rest f w1) :
  WL P n ops Q (⟨none,.store t x y,ty,pos,aft,none⟩::rest) f w :=
 A6W hx hy hb (by simpa using hi) (by simpa using ho) (by simpa using QU h1) k
theorem Bq {P:Program} {w:World} {b:Nat} {cs:Array Value} {t tb:TypeId} {dd:TypeDesc} (hb:AF w b cs tb) (hu:P.underlying t=some dd)
  (hd:(match dd with | .struct _ | .array _ _=>true | _=>false)=true) (hi:(P.info? t).map (·.size)=some cs.size):(loadVar t ⟨b,0,none⟩).run P w=.ok (.agg cs) w:=run_loadVar_row w b tb t cs (0,0) dd hb hu hd hi
theorem Aw {P:Program} {fn:Func} {R:Ending->World->Prop} {c:List PanicEntry} {f:Fr} {w:World} (h:R (.panicked c) w):Jn P fn R (.panic c) f w:=h
theorem U4 {P:Program} {fn:Func} {R:Ending->World->Prop} {c:List PanicEntry} {f g:Fr} {w:World} (h:Jn P fn R (.panic c) f w):Jn P fn R (.panic c) g w:=h
theorem SE {P:Program} {o:Oper} {a:Act} {w:World} {K:Act->World->Prop} {Q Q':Exit->Act->World->Prop} (h:o.wp P a w K Q) (hq:∀ e a w,e≠.normal->Q e a w->Q' e a w):o.wp P a w K Q':=by
 unfold Oper.wp at *
 generalize (execOp a.eval o).run P w=r at *
 cases r with
 | ok m w' =>
  cases m <;> simp only [Oper.upon] at h ⊢ <;>
   first
    | exact h
    | exact Calls.mono h (λe w'' he=>by
      cases e with
      | returned v=>exact he
      | panicked c=>exact hq _ _ _ (by simp) he
      | outgrown=>obtain ⟨a',b,d⟩:=he;exact ⟨a',b,hq _ _ _ (by simp) d⟩)
 | halt x w'=>cases x <;> simp only [Oper.upon] at h ⊢ <;> first | exact h | exact hq _ _ _ (by simp) h
def WY (P:Program) (n:Sh) (ops:Array Oper) (Q:Exit->Fr->World->Prop) (fuel:Nat) (listed:Array Bool) (f:Fr) (w:World):Prop:=∀ a,Lh n f a->wpAny P .any ops (GV n Q) fuel listed a w
section
variable {P:Program} {n:Sh} {f:Fr} {ops:Array Oper} {Q:Exit->Fr->World->Prop} {w:World} {fuel:Nat} {listed:Array Bool}
theorem Ma {id:Nat} {l:List Oper} (N:Nat) (hN:l.length=N) (hm:P.follows .mixedOrders=true) (h:∀ w1,CZ w w1->WY P n l.toArray Q N (Array.replicate N false) f w1):W P n (.region id l.toArray true) Q f w :=
 λa ha=>wp_region_any hm (by
  subst hN
  have:=h (w.drewN 1) ⟨1,rfl⟩ a ha
  rw [show l.toArray.size=l.length by simp]
  exact this)
theorem WY.take (i:Nat) {d ty:Nat} {pos:String} {aft:Array Edge} {op:Op} {v:Value} (hi:ops[i]?=some ⟨some d,op,ty,pos,aft,none⟩) (hs:Region.noSelect ops=true) (hf:Region.free .any ops listed i=true)
  (hr:(Region.ready .any ops listed).contains i=true) (hQ:∀ c f w,Q (.panic c) f w->Q (.panic c) [] w) (hp:Bx P op f v) (hd:Nat.blt d n.n=true)
  (k:WY P n ops Q fuel (listed.setIfInBounds i true) ((d,v)::f) w):WY P n ops Q (fuel+1) listed f w:=by
 intro a ha
 refine wpAny_take hi hs hf hr ?_ (.inl ⟨by simp [Region.wanted],λw=>hp _ ha.agr _ _ _ _ _ w⟩) (k _ (ha.put hd v))
 rintro c b w' ⟨g,hg,hq⟩
 have e:=hg.1
 have j:=hg.2.1
 refine ⟨[],⟨?_,?_,λi u hu=>by cases hu⟩,hQ c g w' hq⟩
 · exact e
 · simpa [Act.put] using j
def Wt (P:Program) (n:Sh) (ops:Array Oper) (Q:Exit->Fr->World->Prop) (fuel:Nat) (listed:Array Bool) (f:Fr) (w:World):List Nat->Prop
 | []=>True
 | i::r=>(∃ o,ops[i]?=some o/\WL P n ops (nx (λf' w'=>WY P n ops Q fuel (listed.setIfInBounds i true) f' w') Q) [o] f w)/\Wt P n ops Q fuel listed f w r
theorem Wt.mem:∀ {rs:List Nat},Wt P n ops Q fuel listed f w rs->∀ i∈rs,∃ o,ops[i]?=some o/\WL P n ops (nx (λf' w'=>WY P n ops Q fuel (listed.setIfInBounds i true) f' w') Q) [o] f w
 | [],_,_,h=>by cases h
 | j::r,h,i,hi=>by
  rcases Ar.1 hi with rfl | hi
  · exact h.1
  · exact Wt.mem h.2 i hi
theorem TB (rs:List Nat) (hr:Region.ready .any ops listed=rs) (hne:rs.isEmpty=false) (h:Wt P n ops Q fuel listed f w rs):WY P n ops Q (fuel+1) listed f w:=by
 intro a ha
 refine wpAny_all hr (by cases rs with | nil=>cases hne | cons _ _=>simp) λi hi=>?_
 obtain ⟨o,ho,hw⟩:=h.mem i hi
 have:=hw a ha
 unfold wpOp
 simp only [ho]
 have conv:∀ (e:Exit) (a:Act) (w:World),GV n (nx (λf' w'=>WY P n ops Q fuel (listed.setIfInBounds i true) f' w') Q) e a w->Exit.then (wpAny P .any ops (GV n Q) fuel (listed.setIfInBounds i true)) (GV n Q) e a w:=by
  rintro e a w ⟨g,hg,hq⟩
  cases e with
  | normal=>exact hq a hg
  | _=>exact ⟨g,hg,hq⟩
 unfold wpList at this
 split
 ·
  next hwt =>
  rw [A6 hwt] at this
  refine this.imp (λh=>?_) λ⟨b,a',w',c⟩=>⟨b,a',w',conv _ _ _ c⟩
  have h':o.wp P a w (wpAny P .any ops (GV n Q) fuel (listed.setIfInBounds i true)) (GV n (nx (λf' w'=>WY P n ops Q fuel (listed.setIfInBounds i true) f' w') Q)) :=
   Oper.wp_mono (λa w h=>conv .normal a w h) h
  exact SE h' λe a w he h=>by
   cases e with
   | normal=>exact CM rfl he
   | _=>exact conv _ a w h
 ·
  next hwt =>
  rw [A1 hwt] at this
  exact conv .normal _ _ this
theorem Bh (i:Nat) {d ty:Nat} {pos:String} {aft:Array Edge} {op:Op} {v:Value} (hi:ops[i]?=some ⟨some d,op,ty,pos,aft,none⟩) (hp:Bx P op f v) (hd:Nat.blt d n.n=true)
  (k:WY P n ops Q fuel (listed.setIfInBounds i true) ((d,v)::f) w) (hs:Region.noSelect ops=true:=by kernel_rfl) (hf:Region.free .any ops listed i=true:=by kernel_rfl)
  (hr:(Region.ready .any ops listed).contains i=true:=by kernel_rfl) (hQ:∀ c f w,Q (.panic c) f w->Q (.panic c) [] w:=by first | exact λc f w h=>U4 h | exact λc f w h=>h):WY P n ops Q (fuel+1) listed f w :=
 WY.take i hi hs hf hr hQ hp hd k
theorem Ay (i:Nat) {o:Oper} (hi:ops[i]?=some o) (h:WL P n ops (nx (λf' w'=>WY P n ops Q fuel (listed.setIfInBounds i true) f' w') Q) [o] f w) (hr:Region.ready .any ops listed=[i]:=by kernel_rfl):WY P n ops Q (fuel+1) listed f w :=
 TB [i] hr rfl ⟨⟨_,hi,h⟩,tT⟩
theorem E9 (i:Nat) {o:Oper} (hi:ops[i]?=some o) (j:Nat) {o2:Oper} (hj:ops[j]?=some o2) (h:WL P n ops (nx (λf' w'=>WY P n ops Q fuel (listed.setIfInBounds i true) f' w') Q) [o] f w)
  (h2:WL P n ops (nx (λf' w'=>WY P n ops Q fuel (listed.setIfInBounds j true) f' w') Q) [o2] f w) (hr:Region.ready .any ops listed=[i,j]:=by kernel_rfl):WY P n ops Q (fuel+1) listed f w :=
 TB [i,j] hr rfl ⟨⟨_,hi,h⟩,⟨_,hj,h2⟩,tT⟩
theorem C3 (hr:Region.ready .any ops listed=[]) (h:Q .normal f w):WY P n ops Q fuel listed f w:=λ_ ha=>wpAny_done hr ⟨f,ha,h⟩ fuel
end
attribute [irreducible] Jn W WL WQ WS WY
end
section
section
variable {P:Program} {n:Sh} {f:Fr}
def pA (p:Option Addr):Addr:=p.getD ⟨0,0,none⟩
structure Av (w:World) (p:Option Addr) (l:l8_):Prop where
 isp:0<l.length->p=some (pA p)
 cells:∀ j (h:j<l.length),w.cell? ((pA p).add j)=some (.int .u8 (l[j].toNat:Int))
theorem Av.nil (w:World):Av w none []:=⟨λh=>by simp at h,λj h=>by simp at h⟩
theorem EU (a:Addr):a.add 0=a:=by unfold Addr.add;split <;> simp_all
theorem Fg (a:Addr) (k:Nat):(a.add k).block=a.block:=by unfold Addr.add;split <;> simp_all
theorem Jl (a:Addr) (j k:Nat):(a.add j).add k=a.add (j+k):=by
 unfold Addr.add
 split <;> simp_all <;> (try split) <;> simp_all <;> omega
theorem Av.below {w w1:World} {B:Nat} {p:Option Addr} {l:l8_} (h:Av w p l) (hb:Below B w w1) (hp:0<l.length->(pA p).block<B):Av w1 p l :=
 ⟨h.isp,λj hj=>by rw [hb.cell (by rw [Fg];exact hp oO)];exact h.cells j hj⟩
abbrev GY:=@Av.below
theorem Av.upd {w w1:World} {b:Nat} {p:Option Addr} {l:l8_} (h:Av w p l) (hu:BF b w w1) (hp:0<l.length->(pA p).block≠b):Av w1 p l :=
 ⟨h.isp,λj hj=>by rw [World.cell?_of_block (w:=w) (hu.other _ (by rw [Fg];exact hp oO))];exact h.cells j hj⟩
theorem DB {w w1:World} {b:Nat} {p:Option Addr} {l:l8_} (h:Av w p l) (hu:BF b w w1) (hp:0<l.length->(pA p).block<b):Av w1 p l:=Av.upd h hu (λh0=>A8f (hp h0))
theorem Av.drewN {w:World} {p:Option Addr} {l:l8_} (h:Av w p l) (m:Nat):Av (w.drewN m) p l:=⟨h.isp,h.cells⟩
theorem Av.lt {w:World} {p:Option Addr} {l:l8_} (h:Av w p l) (hl:0<l.length):(pA p).block<w.heap.size:=by
 have:=h.cells 0 hl
 unfold World.cell? at this
 rw [Fg] at this
 cases hb:w.heap[(pA p).block]? with
 | none=>rw [hb] at this;cases this
 | some o=>exact (Bs.1 hb).1
theorem Bx.ixb {tx e:TypeId} {x y:Operand} {p:Option Addr} {l c:Nat} {i:Int} {k:IntKind} (hu:P.underlying tx=some (.slice e)) (hs:∀ w,(sizeOf e).run P w=.ok 1 w) (hx:D0 f x=some (.slice p l c))
  (hi:D0 f y=some (.int k i)) (hp:p=some (pA p)) (j:Nat) (e':i=j) (hj:j<l):Bx P (.indexAddr tx x y) f (.pointer (some ((pA p).add j))):=by
 have h:=Wp (P:=P) (f:=f) (p:=pA p) (c:=c) hu hs (hx.trans (by rw [<- hp])) hi j e' hj
 rwa [Nat.mul_one] at h
theorem Xk (l:l8_):(l.map λb=>(b.toNat:Int)).foldl (λ(r:ByteArray) n=>r.push (UInt8.ofNat n.toNat)) ByteArray.empty=bs l:=by
 have key:∀ (l m:l8_),(l.map λb=>(b.toNat:Int)).foldl (λ(r:ByteArray) n=>r.push (UInt8.ofNat n.toNat)) (bs m)=bs (m++l):=by
  intro l
  induction l with
  | nil=>intro m;simp
  | cons c r ih =>
   intro m
   have e:(bs m).push (UInt8.ofNat ((c.toNat:Int)).toNat)=bs (m++[c]):=by
    rw [Int.toNat_natCast,UInt8.ofNat_toNat]
    apply ByteArray.ext
    simp [bs,ByteArray.push]
   rw [Co,DD,e,ih,AE];rfl
 have:=key l []
 rw [CF] at this
 exact this
theorem Mc {tx ty e:TypeId} {x:Operand} {p:Option Addr} {l:l8_} {c:Nat} {w:World} (hu:P.underlying tx=some (.slice e)) (he:P.underlying e=some (.int .u8)) (ht:P.underlying ty=some .string)
  (hx:D0 f x=some (.slice p l.length c)) (hb:Av w p l):Rd P (.convert tx ty x) f w (.string (bs l)):=λρ hρ d ty' pos aft g=>by
 have hv:=hρ _ _ hx
 have key:(convert tx ty (.slice p l.length c)).run P w=.ok (.string (bs l)) w:=by
  cases p with
  | none =>
   have i:l=[]:=by
    cases l with
    | nil=>rfl
    | cons a r=>have:=hb.isp (by simp);cases this
   subst i
   simp [convert,B8 hu,B8 he,B8 ht,Conv.bytesToString]
   rfl
  | some a =>
   have hl:(loadCells a l.length).run P w=.ok ((l.map λb=>(b.toNat:Int)).map (Value.int .u8)).toArray w:=by
    have:=run_loadCells_list (P:=P) w a ((l.map λb=>(b.toNat:Int)).map (Value.int .u8)) (λj v hj=>by
     simp only [List.getElem?_map,Option.map_eq_some_iff] at hj
     obtain ⟨z,⟨b,hb1,rfl⟩,rfl⟩:=hj
     obtain ⟨k,rfl⟩:=BR.1 hb1
     exact hb.cells j k)
    simpa using this
   rw [run_convert_bytes_string w tx ty e _ _ _ hu he ht,run_bytesToString w a l.length c _ hl,Xk]
 unfold execOp
 simp only [hv,BB,key,B6,CX]
theorem Av.one {w:World} {b:Nat} {x:Int} {t:TypeId} {c:UInt8} (h:AF w b #[.int .u8 x] t) (e:x=(c.toNat:Int)):Av w (some ⟨b,0,none⟩) [c] :=
 ⟨λ_=>rfl,λj hj=>by
  obtain rfl:j=0:=by simp at hj;omega
  show w.cell? ((⟨b,0,none⟩:Addr).add 0)=_
  rw [EU,h.cell 0,e];rfl⟩
theorem VX {n:Nat}:∀ (Cl:List (Nat × Value)) (z:List Value),z.length=n->Ro n Cl=true->Instr.fill (λi=>some (i * 1,1)) z.toArray Cl=some (Vb z Cl).toArray
 | [],z,_,_=>rfl
 | (i,v)::r,z,hz,ho=>by
  simp only [Ro,A3] at ho
  obtain ⟨⟨h1,h2⟩,h3⟩:=ho
  have hi:i<n:=by simpa [Nat.blt_eq] using h1
  have hc:=QV h2
  have ih:=VX r (z.set i v) (by simpa using hz) h3
  have hf:(#[v].zipIdx.foldl (λcs (x:Value × Nat)=>cs.setIfInBounds (i * 1+x.2) x.1) z.toArray)=(z.set i v).toArray:=by simp [Array.zipIdx]
  refine Eq.trans ?_ ih
  conv=>lhs;unfold Instr.fill
  simp only [hc]
  rw [A1 (by simp;omega)]
  exact Bc (λc=>Instr.fill (λi=>some (i * 1,1)) c r) hf
theorem Ct {ops:Array Oper} {Q:Exit->Fr->World->Prop} {w:World} {rest:List Oper} {d ty:Nat} {pos:String} {aft:Array Edge} {t e:TypeId} {len:Nat} {ps:List (Nat × Operand)} {vs l:List Value} {z:Value}
  (hu:P.underlying t=some (.slice e)) (hs:∀ w,(sizeOf e).run P w=.ok 1 w) (hz:∀ w,(zeroValue e).run P w=.ok z w) (hz1:z.oneCell'=true) (hl0:Nat.blt 0 len=true) (hl1:Nat.ble len 1000=true)
  (hx:Rw f (ps.map (·.2))=some vs) (ho:Ro len ((ps.map (·.1)).zip vs)=true) (hl:Vb (List.replicate len z) ((ps.map (·.1)).zip vs)=l) (hd:Nat.blt d n.n=true)
  (k:∀ b w1,b=w.heap.size->AF w1 b l.toArray e->BF b w w1->w1.heap.size=b+1->WL P n ops Q rest ((d,.slice (some ⟨b,0,none⟩) len len)::f) w1) :
  WL P n ops Q (⟨some d,.buildSlice t len ps.toArray,ty,pos,aft,none⟩::rest) f w:=by
 have A:0<len:=by simpa [Nat.blt_eq] using hl0
 have s:len<=1000:=by simpa using hl1
 refine WL.run hd (w':=w.alloc (.cells l.toArray e)) (v:=.slice (some ⟨w.heap.size,0,none⟩) len len) (λρ hρ=>?_) (k _ _ rfl (AF.alloc _ _ _) (BF.alloc _ _) (by simp))
 have m:=K4 hρ _ _ hx
 have u:(ps.toArray.map λ(i,x)=>(i,ρ x)).toList=(ps.map (·.1)).zip vs:=by
  rw [<- m];simp only [List.map_map,Array.toList_map]
  clear hx ho hl m
  induction ps with
  | nil=>rfl
  | cons p r ih=>simpa using ih
 have o:=QV hz1
 have g:(Array.range (len * 1)).map (λx=>(#[z]:Array Value)[x % (#[z]:Array Value).size]!)=(List.replicate len z).toArray:=by
  apply Array.ext
  · simp
  · intro i s B;simp [Nat.mod_one]
 have a:=VX (n:=len) ((ps.map (·.1)).zip vs) (List.replicate len z) (by simp) ho
 rw [hl] at a
 have j:Instr.fill (λi=>some (i,1)) (List.replicate len z).toArray ((ps.map (·.1)).zip vs)=some l.toArray:=by simpa using a
 have c:(Array.range len).map (λx=>(#[z]:Array Value)[x % (#[z]:Array Value).size]!)=(List.replicate len z).toArray:=by simpa using g
 have q:len≠0:=by omega
 have y:¬ 16777216<len:=by omega
 unfold execOp
 simp only [Instr.buildSlice,BB,B8 hu,hs,B6,u,Nat.mul_one]
 rw [A1 oO,A1 q]
 simp only [BB,hz,o,CX,B6,c,j]
 simp [newRow]
end
end
section
structure Bf (B r:Nat) (w w1:World):Prop where
 os:w1.os=w.os
 tape:w1.tape=w.tape
 output:w1.output=w.output
 size:w.heap.size<=w1.heap.size
 block:∀ k,k<B->k≠r->w1.heap[k]?=w.heap[k]?
theorem Bf.refl (B r:Nat) (w:World):Bf B r w w:=⟨rfl,rfl,rfl,FL _,λ_ _ _=>rfl⟩
theorem Bf.trans {B r:Nat} {a b c:World} (h:Bf B r a b) (k:Bf B r b c):Bf B r a c :=
 ⟨k.os.trans h.os,k.tape.trans h.tape,k.output.trans h.output,AW h.size k.size,λi hi hr=>(k.block i hi hr).trans (h.block i hi hr)⟩
abbrev BN:=@Bf.trans
theorem Bf.mono {B B' r:Nat} {a b:World} (h:Bf B r a b) (hB:B'<=B):Bf B' r a b:=⟨h.os,h.tape,h.output,h.size,λi hi hr=>h.block i oO hr⟩
abbrev G2:=@Bf.mono
theorem Bf.of_below {B r:Nat} {a b:World} (h:Below B a b):Bf B r a b:=⟨h.os,h.tape,h.output,h.size,λi hi _=>h.block i hi⟩
abbrev Jo:=@Bf.of_below
theorem Su {B r:Nat} {a b:World} (h:CZ a b):Bf B r a b:=Jo (h.below (EM _ _))
abbrev NE:=@Su
theorem BM {B r:Nat} {a b:World} (h:BF r a b):Bf B r a b:=⟨h.os,h.tape,h.output,h.size,λi _ hr=>h.other i hr⟩
theorem Uv {B r c:Nat} {a b:World} (h:BF c a b) (hc:B<=c):Bf B r a b:=⟨h.os,h.tape,h.output,h.size,λi hi _=>h.other i oO⟩
abbrev Es:=@Uv
theorem Bf.below {B B' r:Nat} {a b:World} (h:Bf B' r a b) (hB:B<=B') (hr:B<=r):Below B a b:=⟨h.os,h.tape,h.output,h.size,λi hi=>h.block i oO oO⟩
theorem A0Q {B r c:Nat} {w w1:World} {cs:Array Value} {t:TypeId} (h:AF w c cs t) (hT:Bf B r w w1) (hc:c<B) (hr:c≠r):AF w1 c cs t:=(hT.block c hc hr).trans h
abbrev I4:=@A0Q
theorem Av.drew {w w1:World} {p:Option Addr} {l:l8_} (h:Av w p l) (d:CZ w w1):Av w1 p l:=by obtain ⟨m,rfl⟩:=d;exact h.drewN m
section
variable {P:Program} {n:Sh} {f:Fr}
def Cc (e:TypeId) (B:Nat) (w:World) (v:Value) (xs:List Value):Prop:=w.ownsRow B e 1 v xs.length xs
theorem Cc.nil (e:TypeId) (B:Nat) (w:World):Cc e B w (.slice none 0 0) []:=World.ownsRow_nil w B e 1
theorem A7c {e:TypeId} {B r:Nat} {w w1:World} {v:Value} {xs:List Value} (h:Cc e B w v xs) (hu:BF r w w1) (hr:r<B):Cc e B w1 v xs:=by
 obtain ⟨hl,h⟩:=h
 refine ⟨hl,h.imp id λ⟨g,cap,cur,a,b,c,d⟩=>⟨g,cap,cur,a,b,(hu.other g oO).trans c,d⟩⟩
theorem Cc.new {e:TypeId} {B b:Nat} {w w1:World} {v:Value} {xs:List Value} (h:Cc e B w v xs) (eb:b=w.heap.size) (hu:BF b w w1):Cc e B w1 v xs:=by
 obtain ⟨hl,h⟩:=h
 refine ⟨hl,h.imp id λ⟨g,cap,cur,c,d,a,f⟩=>⟨g,cap,cur,c,d,(hu.other g (by have:=(Bs.1 a).1;omega)).trans a,f⟩⟩
theorem Cc.below {e:TypeId} {B:Nat} {w w1:World} {v:Value} {xs:List Value} (h:Cc e B w v xs) (hb:Below w.heap.size w w1):Cc e B w1 v xs:=by
 obtain ⟨hl,h⟩:=h
 refine ⟨hl,h.imp id λ⟨g,cap,cur,b,c,a,d⟩=>⟨g,cap,cur,b,c,(hb.block g (Bs.1 a).1).trans a,d⟩⟩
theorem It {e:TypeId} {B r:Nat} {w w1:World} {v:Value} {xs:List Value} (h:Cc e B w v xs) (hT:Bf w.heap.size r w w1) (hr:r<B):Cc e B w1 v xs:=by
 obtain ⟨hl,h⟩:=h
 refine ⟨hl,h.imp id λ⟨g,cap,cur,b,c,a,d⟩=>⟨g,cap,cur,b,c,(hT.block g (Bs.1 a).1 oO).trans a,d⟩⟩
theorem Cc.drew {e:TypeId} {B:Nat} {w w1:World} {v:Value} {xs:List Value} (h:Cc e B w v xs) (d:CZ w w1):Cc e B w1 v xs:=by obtain ⟨m,rfl⟩:=d;exact h
theorem Cc.bytes {e:TypeId} {B:Nat} {w:World} {v:Value} {l:l8_} (h:Cc e B w v (AI l)):∃ p c,v=.slice p l.length c/\Av w p l/\(0<l.length->B<=(pA p).block):=by
  have b:(AI l).length=l.length:=by simp [AI]
  obtain ⟨hl,h⟩:=h
  rcases h with ⟨rfl,d⟩ | ⟨g,cap,cur,rfl,hB,hg,f,m,o,a⟩
  · obtain rfl : l = [] := by rw [b] at d; exact Cp.1 d
    exact ⟨none,0,rfl,Av.nil w,λh=>by simp at h⟩
  · rw [b] at f a ⊢
    refine ⟨_,cap,rfl,⟨λ_=>rfl,λj hj=>?_⟩,λ_=>hB⟩
    have k:(pA (some ⟨g,0,none⟩)).add j=⟨g,j,none⟩:=by
      show (⟨g,0,none⟩:Addr).add j=_
      unfold Addr.add;split
      · next h=>subst h;rfl
      · simp
    have hc:=Lib.cell_of_heap hg j
    rw [k,hc,<- DN]
    have i:(cur.toList.take (l.length * 1))[j]?=(AI l)[j]?:=by rw [a]
    rw [List.getElem?_take,A6 oO] at i
    rw [i]
    simp [AI,hj]
theorem A5a {ops:Array Oper} {Q:Exit->Fr->World->Prop} {w:World} {rest:List Oper} {d ty:Nat} {pos:String} {aft:Array Edge} {s x:Operand} {t e:TypeId} {B:Nat} {i:TypeInfo} {z v u:Value} {xs:List Value} {b c by':Nat} {tb:TypeId}
    (ht:P.underlying t=some (.slice e)) (hi:P.info? e=some i) (hz:i.zero=some z) (hsize:i.size=1) (hby:i.bytes=by') (hby2:by'<=16) (hzs:z.cells.size=1)
    (hs:D0 f s=some v) (hown:Cc e B w v xs) (hx:D0 f x=some (.slice (some ⟨b,0,none⟩) 1 c)) (hb:AF w b #[u] tb) (h1:u.oneCell'=true)
    (hn:xs.length<=1000000000) (hB:B<=w.heap.size) (hd:Nat.blt d n.n=true)
    (k:∀ v' w',Cc e B w' v' (xs++[u])->Below B w w'->w.grownBy w' v.ownBlock->WL P n ops Q rest ((d,v')::f) w') :
    WL P n ops Q (⟨some d,.call ⟨.builtin .append,#[s,x],#[t,t]⟩,ty,pos,aft,none⟩::rest) f w:=by
  obtain ⟨v',w',g,l,a,-⟩:=run_append_own (P:=P) (w:=w) B t ty e i z 1 by' ht hi hz hsize hby hzs dD v xs.length xs hown ⟨b,0,none⟩ 1 c [u] rfl
    (λj y hj=>by
      have m:j=0:=by
        rcases Ho j with h | h
        · exact h
        · rw [AK (by simp;omega)] at hj;cases hj
      subst m;simp only [List.getElem?_cons_zero,Bm] at hj;subst hj;rw [EU,hb.cell 0];rfl) (by simpa using h1) (by unfold maxLen;omega) (by
      have:(xs.length+1) * by'<=(xs.length+1) * 16:=Nat.mul_le_mul_left _ hby2
      omega) hB
  refine WL.run hd (w':=w') (v:=v') (λρ hρ=>?_) (k v' w' ?_ ((EM _ _).grown a hB λk hk=>(hown.lt k hk).1) a)
  · unfold execOp
    simp only [resolve,invoke,builtin,BB,CX,B6,List.map_toArray,Co,DT,hρ _ _ hs,hρ _ _ hx,g]
  · have o : (xs ++ [u]).length = xs.length + 1 := by simp
    unfold Cc;rw [o];exact l
theorem Bx.mkI {tx:TypeId} {x:Operand} {k:IntKind} {v:Value} (hu:P.underlying tx=some (.int k)) (hx:D0 f x=some v):Bx P (.makeInterface tx x) f (.iface tx v):=λρ hρ d ty pos aft g w=>by
 simp [execOp,hρ _ _ hx,Instr.makeInterface,B8 hu]
theorem Fo {ops:Array Oper} {Q:Exit->Fr->World->Prop} {w:World} {rest:List Oper} {d:Option Tmp} {ty:Nat} {pos:String} {aft:Array Edge} {x:Operand} {t:TypeId} {v:Value}
  (hx:D0 f x=some (.iface t v)) (k:Q (.panic [{ v:=.iface t v,recovered:=false }]) f w):WL P n ops Q (⟨d,.panic x,ty,pos,aft,none⟩::rest) f w :=
 A87 (λρ hρ=>by simp [execOp,hρ _ _ hx,Instr.panic]) k
def Cg {α:Type} (E:TypeId) (res:Except Int α) (V:α->Value) (S:α->World->Prop) (S':World->Prop) (e:Ending) (w:World):Prop :=
 match res with
 | .ok a=>e=.returned (V a)/\S a w
 | .error k=>e=.panicked [{ v:=.iface E (.int .i64 k),recovered:=false }]/\S' w
theorem Bk {ops:Array Oper} {Q:Exit->Fr->World->Prop} {w:World} {rest:List Oper} {d ty:Nat} {pos:String} {aft:Array Edge} {F:FuncId} {xs:List Operand} {ats:Array TypeId} {vs:List Value} {α:Type}
  {E:TypeId} {res:Except Int α} {V:α->Value} {S:α->World->Prop} {S':World->Prop} (hb:Dk P F) (hx:Rw f xs=some vs) (hd:Nat.blt d n.n=true)
  (hc:Calls P F vs.toArray w (Cg E res V S S')) (herr:∀ k w',res=.error k->S' w'->Q (.panic [{ v:=.iface E (.int .i64 k),recovered:=false }]) f w')
  (hok:∀ a w',res=.ok a->S a w'->WL P n ops Q rest ((d,V a)::f) w'):WL P n ops Q (⟨some d,.call ⟨.value (.func F),xs.toArray,ats⟩,ty,pos,aft,none⟩::rest) f w:=by
 cases hres:res with
 | ok a=>exact WL.c1 hb hx hd (hc.mono λe w' h=>by rw [hres] at h;exact h) λw' h=>hok a w' hres h
 | error k=>exact FQ hb hx (hc.mono λe w' h=>by rw [hres] at h;exact h) λw' h=>herr k w' hres h
theorem Cg.ok {α:Type} {E:TypeId} {res:Except Int α} {V:α->Value} {S:α->World->Prop} {S':World->Prop} {e:Ending} {w:World} (a:α) (h:res=.ok a) (he:e=.returned (V a)) (hs:S a w):Cg E res V S S' e w:=by
 unfold Cg;rw [h];exact ⟨he,hs⟩
theorem Bn {α:Type} {E:TypeId} {res:Except Int α} {V:α->Value} {S:α->World->Prop} {S':World->Prop} {w:World} (k:Int) (h:res=.error k) (hs:S' w):Cg E res V S S' (.panicked [{ v:=.iface E (.int .i64 k),recovered:=false }]) w:=by
 unfold Cg;rw [h];exact ⟨rfl,hs⟩
end
end
section
theorem BJ {P:Program} {fn:Func} {R:Ending->World->Prop} {f:Fr} {w:World} (h:Jn P fn R .ret f w):Jn P fn R .normal f w:=by unfold Jn at *;exact h
theorem C4 {P:Program} {fn:Func} {R:Ending->World->Prop} {f:Fr} {w:World} {t:Tmp} {ty:TypeId} {b:Addr} {v:Value} (hr:fn.results=#[.cell t ty])
  (ht:look f t=some (.pointer (some b))) (hv:(loadVar ty b).run P w=.ok v w) (h:R (.returned v) w):Jn P fn R .ret f w:=by
 unfold Jn
 exact ⟨_,λtmps hh=>by
  have a:=hh _ _ ht
  simp only [B0] at a
  simp [results,hr,a,asAddr,hv],h⟩
section
variable {P:Program} {n:Sh} {f:Fr}
def Pp (p:Option Addr) (c a:Nat):Option Addr:=if c=a then p else p.map (·.add a)
theorem Bx.slb {tx e:TypeId} {x y z:Operand} {p:Option Addr} {m c:Nat} {i j:Int} (hu:P.underlying tx=some (.slice e)) (hs:∀ w,(sizeOf e).run P w=.ok 1 w) (hx:D0 f x=some (.slice p m c))
  (hi:D0 f y=some (.int .i64 i)) (hj:D0 f z=some (.int .i64 j)) (a b:Nat) (ei:i=a) (ej:j=b) (hab:a<=b) (hbc:b<=c) :
  Bx P (.slice tx x (some y) (some z) none) f (.slice (Pp p c a) (b-a) (c-a)):=λρ hρ d ty pos aft g w=>by
 subst ei;subst ej
 have h1:(a:Int)<=(b:Int):=by omega
 simp [execOp,Instr.sliceAt,Instr.slice,Instr.sliceBounds,run_sliceBound,hρ _ _ hx,hρ _ _ hi,hρ _ _ hj,B8 hu,hs,hbc,hab,Pp]
theorem Bx.slbF {tx e:TypeId} {x y:Operand} {p:Option Addr} {m c:Nat} {i:Int} (hu:P.underlying tx=some (.slice e)) (hs:∀ w,(sizeOf e).run P w=.ok 1 w) (hx:D0 f x=some (.slice p m c))
  (hi:D0 f y=some (.int .i64 i)) (a:Nat) (ei:i=a) (ham:a<=m) :
  Bx P (.slice tx x (some y) none none) f (.slice (Pp p c a) (m-a) (c-a)):=λρ hρ d ty pos aft g w=>by
 subst ei
 simp [execOp,Instr.sliceAt,Instr.slice,Instr.sliceBounds,run_sliceBound,hρ _ _ hx,hρ _ _ hi,B8 hu,hs,ham,Pp]
theorem Av.part {w:World} {p:Option Addr} {l:l8_} {c a b:Nat} (h:Av w p l) (hab:a<=b) (hb:b<=l.length) (hc:l.length<=c):Av w (Pp p c a) ((l.drop a).take (b-a)):=by
  have d:((l.drop a).take (b-a)).length=b-a:=by rw [AT,B4];omega
  by_cases h0:a=b
  · refine ⟨λh=>?_,λj hj=>?_⟩ <;> rw [d] at * <;> omega
  · have hp := h.isp oO
    have e:Pp p c a=some ((pA p).add a):=by unfold Pp;rw [A1 oO];rw [hp];rfl
    rw [e]
    refine ⟨λ_=>rfl,λj hj=>?_⟩
    rw [d] at hj
    show w.cell? (((pA p).add a).add j)=_
    rw [Jl,h.cells (a+j) oO]
    simp
theorem A1N {l:l8_} {a b:Nat} (hb:b<=l.length):((l.drop a).take (b-a)).length=b-a:=by rw [AT,B4];omega
theorem Nt {tx ty e:TypeId} {x:Operand} {p:Option Addr} {l:l8_} {a b c c' m:Nat} {w:World} (hu:P.underlying tx=some (.slice e)) (he:P.underlying e=some (.int .u8)) (ht:P.underlying ty=some .string)
  (hx:D0 f x=some (.slice (Pp p c a) m c')) (hm:m=b-a) (hb:Av w p l) (hab:a<=b) (hbl:b<=l.length) (hc:l.length<=c):Rd P (.convert tx ty x) f w (.string (bs ((l.drop a).take (b-a)))):=by
 subst hm
 refine Mc (c:=c') hu he ht ?_ (hb.part hab hbl hc)
 rw [A1N hbl];exact hx
theorem Rd.iis {op:Op} {w:World} {k:IntKind} {s:Int} (t:Int) (h:Rd P op f w (.int k s)) (e:s=t):Rd P op f w (.int k t):=e▸h
theorem ED {ops:Array Oper} {Q:Exit->Fr->World->Prop} {w:World} {rest:List Oper} {d ty:Nat} {pos:String} {aft:Array Edge} {s x:Operand} {t e:TypeId} {B:Nat} {z v u:Value} {xs:List Value} {b c by':Nat} {tb:TypeId}
  (ht:P.underlying t=some (.slice e)) (hi:(P.info? e).map (λi=>(i.zero,i.size,i.bytes))=some (some z,1,by')) (hby2:Nat.ble by' 16=true) (hzs:z.cells.size=1)
  (hs:D0 f s=some v) (hown:Cc e B w v xs) (hx:D0 f x=some (.slice (some ⟨b,0,none⟩) 1 c)) (hb:AF w b #[u] tb) (h1:u.oneCell'=true)
  (hn:xs.length<=1000000000) (hB:B<=w.heap.size) (hd:Nat.blt d n.n=true)
  (k:∀ v' w',Cc e B w' v' (xs++[u])->Below B w w'->w.grownBy w' v.ownBlock->WL P n ops Q rest ((d,v')::f) w') :
  WL P n ops Q (⟨some d,.call ⟨.builtin .append,#[s,x],#[t,t]⟩,ty,pos,aft,none⟩::rest) f w:=by
 cases hh:P.info? e with
 | none=>rw [hh] at hi;cases hi
 | some i =>
  rw [hh] at hi
  simp only [Option.map_some,Bm,CQ] at hi
  exact A5a ht hh hi.1 hi.2.1 hi.2.2 (by simpa using hby2) hzs hs hown hx hb h1 hn hB hd k
theorem B3 (l:l8_):(AI l).length=l.length:=by simp [AI]
theorem Eo {e:TypeId} {B:Nat} {w:World} {v:Value} {l:l8_} {x:Int} (h:Cc e B w v (AI l++[.int .u8 x])) (c:UInt8) (hc:x=(c.toNat:Int)):Cc e B w v (AI (l++[c])):=by
 have:AI (l++[c])=AI l++[.int .u8 x]:=by simp [AI,hc]
 rw [this];exact h
end
end
section
open Go.RowKit Go.WideShapes Go.ChangeShapes
section
variable {P:Program} {n:Sh} {f:Fr}
theorem Z9 {ops:Array Oper} {Q:Exit->Fr->World->Prop} {w:World} {rest:List Oper} {d ty:Nat} {pos:String} {aft:Array Edge} {t e:TypeId} {sz:Nat}
  (hu:P.underlying t=some (.slice e)) (hs:∀ w,(sizeOf e).run P w=.ok sz w) (hd:Nat.blt d n.n=true)
  (k:∀ b w1,b=w.heap.size->(∀ B,B<=b->w1.ownsRow B e sz (.slice (some ⟨b,0,none⟩) 0 0) 0 [])->BF b w w1->w1.heap.size=b+1->WL P n ops Q rest ((d,.slice (some ⟨b,0,none⟩) 0 0)::f) w1) :
  WL P n ops Q (⟨some d,.buildSlice t 0 [].toArray,ty,pos,aft,none⟩::rest) f w:=by
 refine WL.run hd (w':=w.alloc (.cells #[] e)) (v:=.slice (some ⟨w.heap.size,0,none⟩) 0 0) (λρ hρ=>?_)
  (k _ _ rfl (λB hB=>⟨by simp,.inr ⟨w.heap.size,0,#[],rfl,hB,AF.alloc _ _ _,FL _,by unfold maxLen;omega,by simp,by simp⟩⟩) (BF.alloc _ _) (by simp))
 unfold execOp
 have a:Array.map (λ_=>(default:Value)) (Array.range 0)=#[]:=by simp
 simp [Instr.buildSlice,B8 hu,hs,Instr.fill,a,newRow]
theorem Qd {ops:Array Oper} {Q:Exit->Fr->World->Prop} {w:World} {rest:List Oper} {d ty:Nat} {pos:String} {aft:Array Edge} {s x:Operand} {t e:TypeId} {B:Nat} {z v:Value} {xs:List Value} {p:Option Addr} {l:l8_} {c by':Nat}
    (ht:P.underlying t=some (.slice e)) (hi:(P.info? e).map (λi=>(i.zero,i.size,i.bytes))=some (some z,1,by')) (hby2:Nat.ble by' 16=true) (hzs:z.cells.size=1)
    (hs:D0 f s=some v) (hown:Cc e B w v xs) (hx:D0 f x=some (.slice p l.length c)) (hb:Av w p l)
    (hn:xs.length+l.length<=1000000000) (hB:B<=w.heap.size) (hd:Nat.blt d n.n=true) (hc:l=[]->c=0\/p≠none)
    (k:∀ v' w',Cc e B w' v' (xs++AI l)->Below B w w'->w.grownBy w' v.ownBlock->WL P n ops Q rest ((d,v')::f) w') :
    WL P n ops Q (⟨some d,.call ⟨.builtin .append,#[s,x],#[t,t]⟩,ty,pos,aft,none⟩::rest) f w:=by
  cases hh:P.info? e with
  | none=>rw [hh] at hi;cases hi
  | some i =>
    rw [hh] at hi;simp only [Option.map_some,Bm,CQ] at hi;obtain ⟨hz,b,o⟩:=hi;have g:by'<=16:=by simpa using hby2
    cases hp:p with
    | none =>
      have hl:l=[]:=by
        cases l with
        | nil=>rfl
        | cons a r=>have:=hb.isp (by simp);rw [hp] at this;cases this
      have q:c=0:=(hc hl).resolve_right (λh=>h hp);subst hp;subst hl;subst q;have m:=run_append_owned_none (P:=P) (w:=w) B t ty e i 1 ht hh v xs.length xs hown;refine WL.run hd (w':=w) (v:=v) (λρ hρ=>?_) (k v w (by simpa [AI] using hown) (EM _ _) ⟨rfl,rfl,rfl,FL _,λ_ _ _=>rfl⟩);unfold execOp;simp only [resolve,invoke,builtin,BB,CX,B6,List.map_toArray,Co,DT,hρ _ _ hs,hρ _ _ hx,Ae,m]
    | some a =>
      subst hp;obtain ⟨v',w',m,C,A,-⟩:=run_append_own (P:=P) (w:=w) B t ty e i z 1 by' ht hh hz b o hzs dD v xs.length xs hown a l.length c (AI l) (by simp [AI])
        (λj y hj=>by
          have hj':j<l.length:=by
            rcases BU j l.length with h | h
            · exact h
            · rw [AK (by rw [B3];omega)] at hj;cases hj
          have:=hb.cells j hj';rw [show pA (some a)=a from rfl] at this;rw [this];rw [<- hj];simp [AI,hj'])
        (λu hu=>by simp only [AI,IE] at hu;obtain ⟨y,-,rfl⟩:=hu;rfl) (by unfold maxLen;omega) (by
          have:(xs.length+l.length) * by'<=(xs.length+l.length) * 16:=Nat.mul_le_mul_left _ g
          omega) hB
      refine WL.run hd (w':=w') (v:=v') (λρ hρ=>?_) (k v' w' ?_ ((EM _ _).grown A hB λk hk=>(hown.lt k hk).1) A)
      · unfold execOp
        simp only [resolve,invoke,builtin,BB,CX,B6,List.map_toArray,Co,DT,hρ _ _ hs,hρ _ _ hx,m]
      · have D : (xs ++ AI l).length = xs.length + l.length := by simp [AI]
        unfold Cc;rw [D];exact C
theorem Lj {e:TypeId} {B:Nat} {w:World} {v:Value} {l:l8_} (h:Cc e B w v (AI l)):∃ p c,v=.slice p l.length c/\Av w p l/\(0<l.length->B<=(pA p).block)/\l.length<=c/\(l=[]->c=0\/p≠none):=by
 obtain ⟨p,c,hv,hb,hB⟩:=h.bytes
 have b:(AI l).length=l.length:=by simp [AI]
 obtain ⟨hl,h⟩:=h
 rcases h with ⟨rfl,f⟩ | ⟨g,cap,cur,rfl,-,-,d,-⟩
 ·
  simp only [Value.slice.injEq] at hv
  obtain ⟨rfl,a,rfl⟩:=hv
  exact ⟨none,0,by rw [<- a],hb,hB,by omega,λ_=>.inl rfl⟩
 ·
  simp only [Value.slice.injEq] at hv
  obtain ⟨rfl,a,rfl⟩:=hv
  exact ⟨_,_,by rw [a],hb,hB,by omega,λ_=>.inr (by simp)⟩
end
theorem CZ.le {w w1:World} {B:Nat} (h:B<=w.heap.size) (d:CZ w w1):B<=w1.heap.size:=by rw [d.size];exact h
theorem Av.lit {w:World} {b:Nat} {cs:Array Value} {t:TypeId} {l:l8_} (h:AF w b cs t) (e:cs=(AI l).toArray):Av w (some ⟨b,0,none⟩) l:=by
 subst e
 refine ⟨λ_=>rfl,λj hj=>?_⟩
 have a:(pA (some ⟨b,0,none⟩)).add j=⟨b,j,none⟩:=by
  show (⟨b,0,none⟩:Addr).add j=_
  unfold Addr.add;split
  · next h=>subst h;rfl
  · simp
 rw [a,h.cell j]
 simp [AI,hj]
theorem A6Z {P:Program} {n:Sh} {f:Fr} {ops:Array Oper} {Q:Exit->Fr->World->Prop} {w:World} {rest:List Oper} {d ty:Nat} {pos:String} {aft:Array Edge} {x:Operand} {t e tb:TypeId} {b len cap:Nat} {cs:Array Value} (l:l8_)
  (ht:P.underlying t=some (.slice e)) (he:P.underlying e=some (.int .u8)) (hx:D0 f x=some (.slice (some ⟨b,0,none⟩) len cap)) (hb:AF w b cs tb) (hl:cs=(AI l).toArray) (hd:Nat.blt d n.n=true)
  (k:∀ w1,Av w1 (some ⟨b,0,none⟩) l->BF b w w1->w1.heap.size=w.heap.size->WL P n ops Q rest ((d,.slice (some ⟨b,0,none⟩) len cap)::f) w1) :
  WL P n ops Q (⟨some d,.convert t t x,ty,pos,aft,none⟩::rest) f w:=by
 have g:w.shape? b=some (tb,cs.size):=by unfold World.shape?;rw [show w.heap[b]?=_ from hb]
 have q:=hb.lt
 have a:(w.freeze ⟨b,cs.size,none⟩ 1).heap=w.heap.modify b fun
   | .cells c elem (lo,hi)=>.cells c elem (if lo == hi then (cs.size,cs.size+1) else (min lo cs.size,max hi (cs.size+1)))
   | o=>o:=rfl
 have i:(w.freeze ⟨b,cs.size,none⟩ 1).heap[b]?=some (.cells cs tb (cs.size,cs.size+1)):=by
  rw [a,Array.getElem?_modify,A6 rfl,show w.heap[b]?=_ from hb];rfl
 have hu:BF b w (w.freeze ⟨b,cs.size,none⟩ 1):=⟨rfl,rfl,rfl,by rw [a];simp,λk hk=>by rw [a,Array.getElem?_modify,A1 (Ne.symm hk)]⟩
 refine WL.run hd (w':=w.freeze ⟨b,cs.size,none⟩ 1) (v:=.slice (some ⟨b,0,none⟩) len cap) (λρ hρ=>?_) (k _ ?_ hu (by rw [a];simp))
 · unfold execOp;simp [hρ _ _ hx,convert,B8 ht,B8 he,markStringish,g]
 ·
  subst hl;refine ⟨λ_=>rfl,λj hj=>?_⟩;have m:(pA (some ⟨b,0,none⟩)).add j=⟨b,j,none⟩:=by
   show (⟨b,0,none⟩:Addr).add j=_
   unfold Addr.add;split
   · next h=>subst h;rfl
   · simp
  rw [m,Lib.cell_of_heap i j];simp [AI,hj]
theorem Zl {H:Type} {enc:TypeId × Value->H} {P:Program} {t:TypeId} (hl:laidOutB P=true) (hr:P.readableRec t=true) (hrow:decide (t<P.types.size)=true) {W W':World} {v:Value} {d:DataW H} {ps:List MemPlace}
  (h:DataW.Trod enc P W 0 (λ_=>true) true t v d ps) (hb:Below W.heap.size W W') (hlt:∀ x∈ps,x.block<W.heap.size) :
  DataW.Trod enc P W' 0 (λb=>decide (b<W.heap.size)) true t v d ps:=Below.trod hl hr (dT hrow) h hb hlt
end
section
open Go.RowKit Go.WideShapes Go.ChangeShapes
section
variable {P:Program} {n:Sh} {f:Fr}
theorem A3h {ops:Array Oper} {Q:Exit->Fr->World->Prop} {w:World} {rest:List Oper} {d ty:Nat} {pos:String} {aft:Array Edge} {x:Operand} {src dst e:TypeId} {l:l8_}
  (hs:P.underlying src=some .string) (hd':P.underlying dst=some (.slice e)) (he:P.underlying e=some (.int .u8)) (hx:D0 f x=some (.string (bs l))) (hd:Nat.blt d n.n=true)
  (k:∀ b w1 c,b=w.heap.size->Av w1 (some ⟨b,0,none⟩) l->l.length<=c->BF b w w1->w1.heap.size=b+1->WL P n ops Q rest ((d,.slice (some ⟨b,0,none⟩) l.length c)::f) w1) :
  WL P n ops Q (⟨some d,.convert src dst x,ty,pos,aft,none⟩::rest) f w:=by
 have g:=Lib.run_convert_string_bytes (P:=P) w src dst e (bs l) hs hd' he
 have a:(bs l).size=l.length:=by simp [bs,ByteArray.size]
 have hu:BF w.heap.size w (Lib.bytesWorld w e (bs l)):=⟨rfl,rfl,rfl,by rw [Lib.bytesWorld_size];omega,λj hj=>by
  rcases BU j w.heap.size with h | h
  · exact Lib.bytesWorld_at_old w e (bs l) j h
  · rw [Dw (by rw [Lib.bytesWorld_size];omega),Dw h]⟩
 refine WL.run hd (w':=Lib.bytesWorld w e (bs l)) (v:=.slice (some ⟨w.heap.size,0,none⟩) l.length (grownCap w l.length 0 e)) (λρ hρ=>?_)
  (k _ _ _ rfl ⟨λ_=>rfl,λj hj=>?_⟩ (grownCap_ge w l.length 0 e) hu (Lib.bytesWorld_size w e (bs l)))
 · unfold execOp;simp only [hρ _ _ hx,BB,g,B6,CX,a]
 ·
  have i:(pA (some ⟨w.heap.size,0,none⟩)).add j=⟨w.heap.size,j,none⟩:=by
   show (⟨w.heap.size,0,none⟩:Addr).add j=_
   unfold Addr.add;split
   · next h=>rw [h]
   · simp
  rw [i,Lib.bytesWorld_cell w e (bs l) j (by rw [a];exact hj)];simp [bs,List.getD,hj]
theorem Cc.lit {w:World} {b m:Nat} {cs:Array Value} {e:TypeId} (h:AF w b cs e) (hm:cs.size=m) (hl:m<=maxLen):Cc e b w (.slice (some ⟨b,0,none⟩) m m) cs.toList:=by
 subst hm
 refine ⟨by simp,.inr ⟨b,cs.size,cs,?_,FL _,h,by simp,hl,by simp,by rw [AR (by simp)]⟩⟩
 simp
end
structure AS {α:Type} (V:α->Value) (w:World) (p:Option Addr) (l:List α):Prop where
 isp:0<l.length->p=some (pA p)
 cells:∀ j (h:j<l.length),w.cell? ((pA p).add j)=some (V l[j])
section
variable {α:Type} {V:α->Value}
theorem AS.lt {w:World} {p:Option Addr} {l:List α} (h:AS V w p l) (h0:0<l.length):(pA p).block<w.heap.size:=by
 have:=h.cells 0 h0
 rcases BU (pA p).block w.heap.size with h' | h'
 · exact h'
 ·
  exfalso
  have hb:((pA p).add 0).block=(pA p).block:=Fg _ _
  unfold World.cell? at this
  rw [hb,Dw h'] at this
  cases this
theorem AS.below {w w1:World} {B:Nat} {p:Option Addr} {l:List α} (h:AS V w p l) (hb:Below B w w1) (hp:0<l.length->(pA p).block<B):AS V w1 p l :=
 ⟨h.isp,λj hj=>by rw [World.cell?_of_block (w:=w) (hb.block _ (by rw [Fg];exact hp oO))];exact h.cells j hj⟩
theorem AS.upd {w w1:World} {b:Nat} {p:Option Addr} {l:List α} (h:AS V w p l) (hu:BF b w w1) (hp:0<l.length->(pA p).block≠b):AS V w1 p l :=
 ⟨h.isp,λj hj=>by rw [World.cell?_of_block (w:=w) (hu.other _ (by rw [Fg];exact hp oO))];exact h.cells j hj⟩
theorem AS.drewN {w:World} {p:Option Addr} {l:List α} (h:AS V w p l) (m:Nat):AS V (w.drewN m) p l:=⟨h.isp,h.cells⟩
theorem AS.drew {w w1:World} {p:Option Addr} {l:List α} (h:AS V w p l) (d:CZ w w1):AS V w1 p l:=by obtain ⟨m,rfl⟩:=d;exact h.drewN m
theorem AS.nil (w:World):AS V w none []:=⟨λh=>by simp at h,λj h=>by simp at h⟩
theorem AS.lit {w:World} {b:Nat} {cs:Array Value} {t:TypeId} {l:List α} (h:AF w b cs t) (e:cs=(l.map V).toArray):AS V w (some ⟨b,0,none⟩) l:=by
 subst e
 refine ⟨λ_=>rfl,λj hj=>?_⟩
 have a:(pA (some ⟨b,0,none⟩)).add j=⟨b,j,none⟩:=by
  show (⟨b,0,none⟩:Addr).add j=_
  unfold Addr.add;split
  · next h=>subst h;rfl
  · simp
 rw [a,h.cell j]
 simp [hj]
theorem Cc.row {e:TypeId} {B:Nat} {w:World} {v:Value} {l:List α} (h:Cc e B w v (l.map V)):∃ p c,v=.slice p l.length c/\AS V w p l/\(0<l.length->B<=(pA p).block)/\l.length<=c/\(l=[]->c=0\/p≠none):=by
  have b:(l.map V).length=l.length:=by simp
  obtain ⟨hl,h⟩:=h
  rcases h with ⟨rfl,f⟩ | ⟨g,cap,cur,rfl,hB,hg,d,m,o,a⟩
  · obtain rfl : l = [] := by rw [b] at f; exact Cp.1 f
    exact ⟨none,0,rfl,AS.nil w,λh=>by simp at h,FL _,λ_=>.inl rfl⟩
  · rw [b] at d a ⊢
    refine ⟨_,cap,rfl,⟨λ_=>rfl,λj hj=>?_⟩,λ_=>hB,d,λ_=>.inr (by simp)⟩
    have k:(pA (some ⟨g,0,none⟩)).add j=⟨g,j,none⟩:=by
      show (⟨g,0,none⟩:Addr).add j=_
      unfold Addr.add;split
      · next h=>subst h;rfl
      · simp
    have hc:=Lib.cell_of_heap hg j
    rw [k,hc,<- DN]
    have i:(cur.toList.take (l.length * 1))[j]?=(l.map V)[j]?:=by rw [a]
    rw [List.getElem?_take,A6 oO] at i
    rw [i]
    simp [hj]
end
abbrev UO (s:l8_):Value:=.string (bs s)
end
section
open Go.RowKit Go.WideShapes Go.ChangeShapes
structure Raw (w:World) (b c:Nat) (e:TypeId) (l:l8_):Prop where
 cur:∃ cur:Array Value,w.heap[b]?=some (.cells cur e (cur.size,cur.size+1))/\cur.size=c/\cur.toList.take l.length=AI l
 le:l.length<=c
theorem Cc.cat {e:TypeId} {B:Nat} {w:World} {v:Value} {l m:l8_} (h:Cc e B w v (AI l++AI m)):Cc e B w v (AI (l++m)):=by
 rw [show AI (l++m)=AI l++AI m by simp [AI]];exact h
end
section
open Go.RowKit Go.WideShapes Go.ChangeShapes
section
variable {P:Program} {n:Sh} {f:Fr}
theorem Bx.slS {tx:TypeId} {x y z:Operand} {l:l8_} {kd ke:IntKind} {i j:Int} (hu:P.underlying tx=some .string) (hx:D0 f x=some (.string (bs l))) (hi:D0 f y=some (.int kd i)) (hj:D0 f z=some (.int ke j)) (a b:Nat) (ei:i=a) (ej:j=b) (hab:a<=b) (hb:b<=l.length) :
  Bx P (.slice tx x (some y) (some z) none) f (.string (bs ((l.drop a).take (b-a)))):=λρ hρ d ty pos aft g w=>by
 subst ei;subst ej
 have h3:¬ (b<a):=by omega
 simp [execOp,Instr.sliceAt,Instr.slice,Instr.sliceBounds,Instr.sliceBound,hρ _ _ hx,hρ _ _ hi,hρ _ _ hj,asIntOf,B8 hu,hab,hb,h3,VY,BE]
theorem Gl {ops:Array Oper} {Q:Exit->Fr->World->Prop} {w:World} {rest:List Oper} {d ty:Nat} {pos:String} {aft:Array Edge} {s x:Operand} {t u e:TypeId} {B:Nat} {v:Value} {xs:List Value} {l:l8_}
    (ht:P.underlying t=some (.slice e)) (hu:P.underlying u=some .string) (hi:(P.info? e).map (λi=>(i.zero,i.size,i.bytes))=some (some (.int .u8 0),1,1))
    (hs:D0 f s=some v) (hown:Cc e B w v xs) (hx:D0 f x=some (.string (bs l)))
    (hn:xs.length+l.length<=1000000000) (hB:B<=w.heap.size) (hd:Nat.blt d n.n=true)
    (k:∀ v' w',Cc e B w' v' (xs++AI l)->Below B w w'->w.grownBy w' v.ownBlock->WL P n ops Q rest ((d,v')::f) w') :
    WL P n ops Q (⟨some d,.call ⟨.builtin .append,#[s,x],#[t,u]⟩,ty,pos,aft,none⟩::rest) f w:=by
  cases hh:P.info? e with
  | none=>rw [hh] at hi;cases hi
  | some i =>
    rw [hh] at hi;simp only [Option.map_some,Bm,CQ] at hi;obtain ⟨hz,c,g⟩:=hi;have a:(bs l).size=l.length:=BE l;have b:Lib.strCells (bs l)=AI l:=by simp [Lib.strCells,AI,bs]
    obtain ⟨v',w',o,j,m,-⟩:=Lib.run_append_own_string (P:=P) w B t u ty e i ht hu hh hz c g v xs.length xs hown (bs l) (by rw [a];unfold maxLen;omega) (by rw [a];omega) hB;rw [a,b] at j;refine WL.run hd (w':=w') (v:=v') (λρ hρ=>?_) (k v' w' ?_ ((EM _ _).grown m hB λk hk=>(hown.lt k hk).1) m)
    · unfold execOp
      simp only [resolve,invoke,builtin,BB,CX,B6,List.map_toArray,Co,DT,hρ _ _ hs,hρ _ _ hx,o]
    · have q : (xs ++ AI l).length = xs.length + l.length := by simp [AI]
      unfold Cc;rw [q];exact j
end
end
section
open Go.RowKit Go.WideShapes Go.ChangeShapes
theorem EC (b o j:Nat):(⟨b,o,none⟩:Addr).add j=⟨b,o+j,none⟩:=by
 unfold Addr.add;split <;> simp_all
structure Fe (α:Type) where
 m:Nat
 V:α->List Value
 pos:0<m
 len:∀ x,(V x).length=m
 one:∀ x,∀ v∈V x,v.oneCell'=true
variable {α:Type}
def Fe.flat (L:Fe α) (l:List α):List Value:=l.flatMap L.V
theorem Fe.flat_len (L:Fe α):∀ l:List α,(L.flat l).length=l.length * L.m
 | []=>by simp [Fe.flat]
 | x::l=>by
  have:=L.flat_len l
  unfold Fe.flat at this ⊢
  simp only [CR,A5,L.len,this,A8,Nat.succ_mul];omega
theorem Fe.flat_append (L:Fe α) (l k:List α):L.flat (l++k)=L.flat l++L.flat k:=by simp [Fe.flat]
theorem Fe.flat_one (L:Fe α) (l:List α):∀ v∈L.flat l,v.oneCell'=true:=by
 intro v hv
 simp only [Fe.flat,List.mem_flatMap] at hv
 obtain ⟨x,-,h⟩:=hv
 exact L.one x v h
theorem Fe.flat_at (L:Fe α):∀ (l:List α) (j:Nat) (h:j<l.length) (i:Nat),i<L.m->(L.flat l)[j * L.m+i]?=(L.V l[j])[i]?
 | x::l,0,h,i,hi=>by
  simp only [Fe.flat,CR,Nat.zero_mul,EF,AX]
  rw [A77 (by rw [L.len];exact hi)]
 | x::l,j+1,h,i,hi=>by
  have ih:=L.flat_at l j (by simpa using h) i hi
  simp only [Fe.flat,CR,Hq] at ih ⊢
  rw [A5N (by rw [L.len,Nat.succ_mul];omega),L.len,<- ih]
  congr 1
  rw [Nat.succ_mul];omega
theorem Fe.flat_take (L:Fe α) (l:List α) (k:Nat):(L.flat l).take (k * L.m)=L.flat (l.take k):=by
 induction l generalizing k with
 | nil=>simp [Fe.flat]
 | cons x l ih =>
  cases k with
  | zero=>simp [Fe.flat]
  | succ k =>
   have:=ih k
   simp only [Fe.flat,CR,List.take_succ_cons] at this ⊢
   rw [A0T,L.len,AR (by rw [L.len,Nat.succ_mul];omega),<- this]
   congr 2
   rw [Nat.succ_mul];omega
theorem Fe.flat_drop (L:Fe α) (l:List α) (k:Nat):(L.flat l).drop (k * L.m)=L.flat (l.drop k):=by
 induction l generalizing k with
 | nil=>simp [Fe.flat]
 | cons x l ih =>
  cases k with
  | zero=>simp [Fe.flat]
  | succ k =>
   have:=ih k
   simp only [Fe.flat,CR,List.drop_succ_cons] at this ⊢
   rw [List.drop_append,L.len,List.drop_of_length_le (by rw [L.len,Nat.succ_mul];omega),CF,<- this]
   congr 1
   rw [Nat.succ_mul];omega
structure Be (L:Fe α) (w:World) (p:Option Addr) (l:List α):Prop where
 isp:0<l.length->p=some (pA p)
 cells:∀ j (h:j<l.length) i,i<L.m->w.cell? ((pA p).add (j * L.m+i))=(L.V l[j])[i]?
section
variable {L:Fe α}
theorem Be.flat {w:World} {p:Option Addr} {l:List α} (h:Be L w p l):∀ k v,(L.flat l)[k]?=some v->w.cell? ((pA p).add k)=some v:=by
 intro k v hk
 have a:k<(L.flat l).length:=by
  rcases BU k (L.flat l).length with h | h
  · exact h
  · rw [AK h] at hk;cases hk
 rw [L.flat_len] at a
 have hj:k / L.m<l.length:=(Nat.div_lt_iff_lt_mul L.pos).2 a
 have hi:=Nat.mod_lt k L.pos
 have e:k / L.m * L.m+k % L.m=k:=Nat.div_add_mod' k L.m
 have b:=L.flat_at l (k / L.m) hj (k % L.m) hi
 have c:=h.cells (k / L.m) hj (k % L.m) hi
 rw [e] at b c
 rw [c,<- b,hk]
theorem FZ {w:World} {p:Option Addr} {l:List α} (hp:0<l.length->p=some (pA p)) (h:∀ k v,(L.flat l)[k]?=some v->w.cell? ((pA p).add k)=some v):Be L w p l :=
 ⟨hp,λj hj i hi=>by
  have h1:=L.flat_at l j hj i hi
  have h2:i<(L.V l[j]).length:=by rw [L.len];exact hi
  rw [A7 h2] at h1 ⊢
  exact h _ _ h1⟩
theorem Be.lt {w:World} {p:Option Addr} {l:List α} (h:Be L w p l) (h0:0<l.length):(pA p).block<w.heap.size:=by
 have hc:=h.cells 0 h0 0 L.pos
 rw [A7 (by rw [L.len];exact L.pos)] at hc
 rcases BU (pA p).block w.heap.size with h' | h'
 · exact h'
 ·
  exfalso
  have hb:((pA p).add (0 * L.m+0)).block=(pA p).block:=Fg _ _
  unfold World.cell? at hc
  rw [hb,Dw h'] at hc
  cases hc
theorem Be.same {w w1:World} {p:Option Addr} {l:List α} (h:Be L w p l) (hb:0<l.length->w1.heap[(pA p).block]?=w.heap[(pA p).block]?):Be L w1 p l :=
 ⟨h.isp,λj hj i hi=>by rw [World.cell?_of_block (w:=w) (by rw [Fg];exact hb oO)];exact h.cells j hj i hi⟩
theorem Be.below {w w1:World} {B:Nat} {p:Option Addr} {l:List α} (h:Be L w p l) (hb:Below B w w1) (hp:0<l.length->(pA p).block<B):Be L w1 p l:=h.same λh0=>hb.block _ (hp h0)
abbrev I8:=@Be.below
theorem Be.upd {w w1:World} {b:Nat} {p:Option Addr} {l:List α} (h:Be L w p l) (hu:BF b w w1) (hp:0<l.length->(pA p).block≠b):Be L w1 p l:=h.same λh0=>hu.other _ (hp h0)
theorem Be.drewN {w:World} {p:Option Addr} {l:List α} (h:Be L w p l) (m:Nat):Be L (w.drewN m) p l:=⟨h.isp,h.cells⟩
theorem Be.drew {w w1:World} {p:Option Addr} {l:List α} (h:Be L w p l) (d:CZ w w1):Be L w1 p l:=by obtain ⟨m,rfl⟩:=d;exact h.drewN m
theorem Be.nil (w:World):Be L w none []:=⟨λh=>by simp at h,λj h=>by simp at h⟩
def Gd (m:Nat) (p:Option Addr) (c a:Nat):Option Addr:=if c=a then p else p.map (·.add (a * m))
theorem Be.part {w:World} {p:Option Addr} {l:List α} {c a b:Nat} (h:Be L w p l) (hab:a<=b) (hb:b<=l.length) (hc:l.length<=c):Be L w (Gd L.m p c a) ((l.drop a).take (b-a)):=by
  have d:((l.drop a).take (b-a)).length=b-a:=by rw [AT,B4];omega
  by_cases h0:a=b
  · refine ⟨λh=>?_,λj hj=>?_⟩ <;> rw [d] at * <;> omega
  · have hp := h.isp oO
    have e:Gd L.m p c a=some ((pA p).add (a * L.m)):=by unfold Gd;rw [A1 oO];rw [hp];rfl
    rw [e]
    refine ⟨λ_=>rfl,λj hj i hi=>?_⟩
    rw [d] at hj
    show w.cell? (((pA p).add (a * L.m)).add (j * L.m+i))=_
    rw [Jl,show a * L.m+(j * L.m+i)=(a+j) * L.m+i by rw [Nat.add_mul];omega,h.cells (a+j) oO i hi]
    simp
def AD (L:Fe α) (e:TypeId) (B:Nat) (w:World) (v:Value) (l:List α):Prop :=
 (v=.slice none 0 0/\l=[])\/∃ g cap cur,v=.slice (some ⟨g,0,none⟩) l.length cap/\B<=g/\w.heap[g]?=some (.cells cur e (0,0))/\l.length<=cap/\cap<=maxLen/\cap * L.m<=cur.size/\cur.toList.take (l.length * L.m)=L.flat l
theorem AD.nil (L:Fe α) (e:TypeId) (B:Nat) (w:World):AD L e B w (.slice none 0 0) []:=.inl ⟨rfl,rfl⟩
theorem AD.of {e:TypeId} {B:Nat} {w:World} {v:Value} {l:List α} (h:w.ownsRow B e L.m v l.length (L.flat l)):AD L e B w v l:=by
 obtain ⟨hl,h⟩:=h
 rcases h with ⟨rfl,a⟩ | ⟨g,cap,cur,b,c,d,f,i,k,j⟩
 · exact .inl ⟨rfl,Cp.1 a⟩
 · exact .inr ⟨g,cap,cur,b,c,d,f,i,by omega,j⟩
theorem AD.row {e:TypeId} {B:Nat} {w:World} {v:Value} {l:List α} (h:AD L e B w v l):∃ p c,v=.slice p l.length c/\Be L w p l/\(∀ a,p=some a->B<=a.block)/\l.length<=c/\(l=[]->c=0\/p≠none)/\v.ownBlock=p.map (·.block)/\c<=maxLen/\(p=none\/∃ g,p=some ⟨g,0,none⟩):=by
  rcases h with ⟨rfl,rfl⟩ | ⟨g,cap,cur,rfl,hB,hg,f,i,o,b⟩
  · exact ⟨none,0,rfl,Be.nil w,λa h=>(by cases h),FL _,λ_=>.inl rfl,rfl,(by unfold maxLen;omega),.inl rfl⟩
  · refine ⟨_, cap, rfl, FZ (fun _ => rfl) fun k v hk => ?_, fun a h => (by cases h; exact hB), f, fun _ => .inr (by simp), rfl, i, .inr ⟨g, rfl⟩⟩
    show w.cell? ((⟨g,0,none⟩:Addr).add k)=_
    rw [EC,EF,Lib.cell_of_heap hg k,<- DN]
    have j:(cur.toList.take (l.length * L.m))[k]?=(L.flat l)[k]?:=by rw [b]
    have d:k<(L.flat l).length:=by
      rcases BU k (L.flat l).length with h | h
      · exact h
      · rw [AK h] at hk;cases hk
    rw [L.flat_len] at d
    rw [List.getElem?_take,A6 d] at j
    rw [j,hk]
theorem AD.same {e:TypeId} {B:Nat} {w w1:World} {v:Value} {l:List α} (h:AD L e B w v l) (hb:∀ g,v.ownBlock=some g->w1.heap[g]?=w.heap[g]?):AD L e B w1 v l:=by
 refine h.imp id λ⟨g,cap,cur,a,b,c,d⟩=>⟨g,cap,cur,a,b,?_,d⟩
 rw [hb g (by rw [a];rfl)];exact c
theorem AD.lt {e:TypeId} {B:Nat} {w:World} {v:Value} {l:List α} (h:AD L e B w v l):∀ g,v.ownBlock=some g->B<=g/\g<w.heap.size:=by
 intro g hg
 rcases h with ⟨rfl,rfl⟩ | ⟨g',cap,cur,rfl,hB,a,b⟩
 · cases hg
 ·
  cases hg
  exact ⟨hB,(Bs.1 a).1⟩
theorem AD.base {e:TypeId} {B C:Nat} {w:World} {v:Value} {l:List α} (h:AD L e B w v l) (hC:∀ g,v.ownBlock=some g->C<=g):AD L e C w v l :=
 h.imp id λ⟨g,cap,cur,h1,h2,h3⟩=>⟨g,cap,cur,h1,hC g (by rw [h1];rfl),h3⟩
theorem AD.drew {e:TypeId} {B:Nat} {w w1:World} {v:Value} {l:List α} (h:AD L e B w v l) (d:CZ w w1):AD L e B w1 v l:=by obtain ⟨m,rfl⟩:=d;exact h
theorem AD.below {e:TypeId} {B:Nat} {w w1:World} {v:Value} {l:List α} (h:AD L e B w v l) (hb:Below w.heap.size w w1):AD L e B w1 v l:=h.same λg hg=>hb.block g (h.lt g hg).2
theorem AD.new {e:TypeId} {B b:Nat} {w w1:World} {v:Value} {l:List α} (h:AD L e B w v l) (eb:b=w.heap.size) (hu:BF b w w1):AD L e B w1 v l:=h.same λg hg=>hu.other g (by have:=(h.lt g hg).2;omega)
abbrev GU:=@AD.new
theorem AD.upd {e:TypeId} {B r:Nat} {w w1:World} {v:Value} {l:List α} (h:AD L e B w v l) (hu:BF r w w1) (hr:∀ g,v.ownBlock=some g->g≠r):AD L e B w1 v l:=h.same λg hg=>hu.other g (hr g hg)
abbrev Ia:=@AD.upd
theorem CO {e:TypeId} {B r:Nat} {w w1:World} {v:Value} {l:List α} (h:AD L e B w v l) (hu:BF r w w1) (hr:r<B):AD L e B w1 v l:=h.same λg hg=>hu.other g (by have:=(h.lt g hg).1;omega)
theorem AD.one {e:TypeId} {B:Nat} {w:World} {v:Value} {l:List α} (h:AD L e B w v l):v.oneCell'=true:=by
 rcases h with ⟨rfl,-⟩ | ⟨g,cap,cur,rfl,-⟩ <;> rfl
end
structure A9m (S:List Nat) (w w1:World):Prop where
 os:w1.os=w.os
 tape:w1.tape=w.tape
 output:w1.output=w.output
 size:w.heap.size<=w1.heap.size
 block:∀ k,k<w.heap.size->k ∉ S->w1.heap[k]?=w.heap[k]?
structure AB (B:Nat) (S:List Nat) (w w1:World):Prop where
 os:w1.os=w.os
 tape:w1.tape=w.tape
 output:w1.output=w.output
 size:w.heap.size<=w1.heap.size
 block:∀ k,k<B->k ∉ S->w1.heap[k]?=w.heap[k]?
theorem AB.trans {B:Nat} {S:List Nat} {a b c:World} (h:AB B S a b) (k:AB B S b c):AB B S a c :=
 ⟨k.os.trans h.os,k.tape.trans h.tape,k.output.trans h.output,AW h.size k.size,λi hi hr=>(k.block i hi hr).trans (h.block i hi hr)⟩
abbrev DA:=@AB.trans
theorem AB.mono {B B':Nat} {S:List Nat} {a b:World} (h:AB B' S a b) (hB:B<=B'):AB B S a b:=⟨h.os,h.tape,h.output,h.size,λi hi hS=>h.block i oO hS⟩
theorem Dl {B c:Nat} {S:List Nat} {w w1:World} {cs:Array Value} {t:TypeId} (h:AF w c cs t) (hT:AB B S w w1) (hc:c<B) (hS:c ∉ S):AF w1 c cs t:=(hT.block c hc hS).trans h
theorem Y6 {L:Fe α} {B:Nat} {S:List Nat} {w w1:World} {p:Option Addr} {l:List α} (h:Be L w p l) (hT:AB B S w w1) (hp:0<l.length->(pA p).block<B/\(pA p).block ∉ S):Be L w1 p l:=h.same λh0=>hT.block _ (hp h0).1 (hp h0).2
abbrev rk_:=@Y6
theorem AB.of_below {B B':Nat} {S:List Nat} {a b:World} (h:Below B' a b) (hB:B<=B'):AB B S a b:=⟨h.os,h.tape,h.output,h.size,λi hi _=>h.block i oO⟩
theorem kB {S:List Nat} {a b d:World} (h:AB a.heap.size S a b) (hb:Below b.heap.size b d):AB a.heap.size S a d:=AB.trans h (AB.of_below hb h.size)
abbrev kb_:=@AB.of_below
theorem Sv {B:Nat} {S:List Nat} {a b:World} (h:CZ a b):AB B S a b:=kb_ (h.below (EM B _)) (FL _)
abbrev Q8:=@Sv
theorem On {B c:Nat} {S:List Nat} {a b:World} (h:BF c a b) (hc:B<=c):AB B S a b:=⟨h.os,h.tape,h.output,h.size,λi hi _=>h.other i oO⟩
abbrev Hf:=@On
theorem Oo {B c:Nat} {S:List Nat} {a b:World} (h:BF c a b) (hc:c∈S):AB B S a b:=⟨h.os,h.tape,h.output,h.size,λi _ hS=>h.other i (λe=>hS (e▸hc))⟩
theorem kU {N c:Nat} {S:List Nat} {a b d:World} (h:AB N S a b) (u:BF c b d) (k:N<=c\/c∈S:=by first | exact .inl (by omega) | exact .inr (by simp)):AB N S a d:=h.trans (k.elim (On u) (Oo u))
abbrev Tf:=@Oo
theorem C1 {B:Nat} {S:List Nat} {a b:World} {row:Option Nat} (h:a.grownBy b row) (hr:∀ g,row=some g->g∈S\/B<=g) (hB:B<=a.heap.size):AB B S a b :=
 ⟨h.os,h.tape,h.output,h.size,λi hi hS=>h.block i oO λe=>by rcases hr i e.symm with h | h <;> first | exact hS h | omega⟩
theorem AB.below {B C:Nat} {S:List Nat} {w w1:World} (h:AB B S w w1) (hB:C<=B) (hS:∀ k∈S,C<=k):Below C w w1 :=
 ⟨h.os,h.tape,h.output,h.size,λk hk=>h.block k oO λhm=>by have:=hS k hm;omega⟩
theorem AB.refl (B:Nat) (S:List Nat) (w:World):AB B S w w:=⟨rfl,rfl,rfl,FL _,λ_ _ _=>rfl⟩
section
variable {P:Program} {n:Sh} {f:Fr} {L:Fe α}
theorem A3k {ops:Array Oper} {Q:Exit->Fr->World->Prop} {w:World} {rest:List Oper} {d ty:Nat} {pos:String} {aft:Array Edge} {s x:Operand} {t e:TypeId} {B:Nat} {z v:Value} {xs l:List α} {p:Option Addr} {c by':Nat}
  (ht:P.underlying t=some (.slice e)) (hi:(P.info? e).map (λi=>(i.zero,i.size,i.bytes))=some (some z,L.m,by')) (hby2:Nat.ble by' 1000=true) (hzs:z.cells.size=L.m)
  (hs:D0 f s=some v) (hown:AD L e B w v xs) (hx:D0 f x=some (.slice p l.length c)) (hb:Be L w p l)
  (hn:xs.length+l.length<=4611686018427387904) (hbt:(xs.length+l.length) * by'<=140737488355328) (hB:B<=w.heap.size) (hd:Nat.blt d n.n=true) (hc:l=[]->c=0\/p≠none)
  (k:∀ v' w',AD L e B w' v' (xs++l)->Below B w w'->w.grownBy w' v.ownBlock->(∀ g,v'.ownBlock=some g->v.ownBlock=some g\/w.heap.size<=g)->WL P n ops Q rest ((d,v')::f) w') :
  WL P n ops Q (⟨some d,.call ⟨.builtin .append,#[s,x],#[t,t]⟩,ty,pos,aft,none⟩::rest) f w:=by
 cases hh:P.info? e with
 | none=>rw [hh] at hi;cases hi
 | some i =>
  rw [hh] at hi;simp only [Option.map_some,Bm,CQ] at hi;obtain ⟨hz,b,E⟩:=hi;have a1:by'<=1000:=by simpa using hby2
  have A:=L.flat_len xs;have o:=L.flat_len l;have M:(xs++l).length=xs.length+l.length:=by simp
  have fin:∀ (w':World) (g cap:Nat) (cur:Array Value),B<=g->w'.heap[g]?=some (.cells cur e (0,0))->xs.length+l.length<=cap->cap<=maxLen->cap * L.m<=cur.size->cur.toList.take ((xs.length+l.length) * L.m)=L.flat xs++L.flat l ->
    AD L e B w' (.slice (some ⟨g,0,none⟩) (xs.length+l.length) cap) (xs++l):=λw' g cap cur h1 C F D N h6 =>
   .inr ⟨g,cap,cur,by rw [M],h1,C,by rw [M];exact F,D,N,by rw [M,h6,L.flat_append]⟩
  have run:∀ (v':Value) (w':World),(Builtin.append_ #[t,t] ty #[v,.slice p l.length c]).run P w=.ok v' w'->AD L e B w' v' (xs++l)->w.grownBy w' v.ownBlock->(∀ g,v'.ownBlock=some g->v.ownBlock=some g\/w.heap.size<=g) ->
    WL P n ops Q (⟨some d,.call ⟨.builtin .append,#[s,x],#[t,t]⟩,ty,pos,aft,none⟩::rest) f w:=λv' w' C F D N=>by
   refine WL.run hd (w':=w') (v:=v') (λρ hρ=>?_) (k v' w' F ((EM _ _).grown D hB λk hk=>(hown.lt k hk).1) D N);unfold execOp;simp only [resolve,invoke,builtin,BB,CX,B6,List.map_toArray,Co,DT,hρ _ _ hs,hρ _ _ hx,C]
  cases hp:p with
  | none =>
   have hl:l=[]:=by
    cases l with
    | nil=>rfl
    | cons a r=>have:=hb.isp (by simp);rw [hp] at this;cases this
   have T:c=0:=(hc hl).resolve_right (λh=>h hp);subst hp;subst hl;subst T;refine run v w ?_ (by rw [BK];exact hown) ⟨rfl,rfl,rfl,FL _,λ_ _ _=>rfl⟩ λg hg=>.inl hg
   rcases hown with ⟨rfl,rfl⟩ | ⟨g,cap,cur,rfl,-,-,J,-⟩
   · simp [Builtin.append_,B8 ht,sizeOf,typeInfo,hh,Builtin.lenOf,Builtin.firstCells]
   · simp [Builtin.append_,B8 ht,sizeOf,typeInfo,hh,Builtin.lenOf,Builtin.firstCells,J,storeCells]
  | some a =>
   subst hp;have q:(xs.length+l.length) * i.bytes<=140737488355328:=by rw [E];exact hbt
   rcases hown with ⟨rfl,rfl⟩ | ⟨g,cap,cur,rfl,U,hg,J,V,X,K⟩
   ·
    obtain ⟨v',w',C,F,D,-⟩:=run_append_own (P:=P) (w:=w) w.heap.size t ty e i z L.m by' ht hh hz b E hzs L.pos (.slice none 0 0) 0 [] (World.ownsRow_nil w w.heap.size e L.m) a l.length c (L.flat l) o
     (λj y hj=>hb.flat j y hj) (L.flat_one l) (by unfold maxLen;omega) (by simp only [Ae] at q;rw [E] at q;exact q) (FL _)
    have G:AD L e w.heap.size w' v' ([]++l):=AD.of (by rw [CF];simpa using F);exact run v' w' C (G.base λg hg=>AW hB (G.lt g hg).1) D λg hg=>.inr (G.lt g hg).1
   ·
    by_cases hroom:xs.length+l.length<=cap
    ·
     have O:xs.length * i.size+(L.flat l).length<=cur.size:=by
      rw [b,o,<- Nat.add_mul];exact AW (Cm _ hroom) X
     have C:=run_append_room (P:=P) w t ty e i ht hh g xs.length cap cur hg a l.length c (L.flat l) (by rw [b];exact o) (λj y hj=>hb.flat j y hj) (L.flat_one l) hroom O;refine run _ _ C (fin _ g cap _ U (setRow_heap w g cur _ e _ hg) hroom V ?_ ?_) ⟨rfl,rfl,rfl,by simp,λk _ hk=>setRow_other w g k _ (λe=>hk (by simp [Value.ownBlock,e]))⟩ λg hg=>.inl hg
     ·
      simp only [List.size_toArray,A5,AT,B4,Array.length_toList]
      omega
     ·
      show (cur.toList.take (xs.length * i.size)++L.flat l++_).take _=_
      rw [b,K,List.take_append_of_le_length (by rw [A5,A,o,Nat.add_mul];omega),AR (by rw [A5,A,o,Nat.add_mul];omega)]
    ·
     have H:∀ j u,(L.flat xs)[j]?=some u->w.cell? ((⟨g,0,none⟩:Addr).add j)=some u:=λj u hj=>by
      have Y:j<(L.flat xs).length:=by
       rcases BU j (L.flat xs).length with h | h
       · exact h
       · rw [AK h] at hj;cases hj
      rw [EC,EF,Lib.cell_of_heap hg j,<- DN];have C:(cur.toList.take (xs.length * L.m))[j]?=(L.flat xs)[j]?:=by rw [K]
      rw [List.getElem?_take,A6 (by rw [<- A];exact Y)] at C;rw [C,hj]
     have Z:=run_append_grow (P:=P) w t ty e i z ht hh hz ⟨g,0,none⟩ xs.length cap (L.flat xs) (by rw [b];exact A) H a l.length c (L.flat l) (by rw [b];exact o) (λj y hj=>hb.flat j y hj) oO oO (growslice_fits oO q);have a0:=grownCap_ge w (xs.length+l.length) cap e;have R:grownCap w (xs.length+l.length) cap e<=maxLen:=grownCap_le_maxLen w (xs.length+l.length) cap e (by unfold maxLen;omega);refine run _ _ Z (fin _ w.heap.size _ _ hB (heap_alloc_new w.drew _) a0 R ?_ ?_) ⟨rfl,rfl,rfl,by simp,λk hk _=>(BF.alloc w.drew _).other k (by show k≠w.heap.size;omega)⟩ λg hg=>.inr (by simp only [Value.ownBlock,Bm] at hg;omega)
     · simp only [Array.size_append,List.size_toArray,size_zeroCells,hzs,A,o,<- Nat.add_mul];exact Nat.le_of_eq (Bc (· * L.m) oO)
     · simp only [Array.toList_append,AE];rw [<- AE,List.take_append_of_le_length (by rw [A5,A,o,Nat.add_mul];omega),AR (by rw [A5,A,o,Nat.add_mul];omega)]
theorem CW {ops:Array Oper} {Q:Exit->Fr->World->Prop} {w:World} {rest:List Oper} {d ty:Nat} {pos:String} {aft:Array Edge} {s x:Operand} {t e:TypeId} {B:Nat} {z v:Value} {xs l:List α} {p:Option Addr} {c by':Nat}
  (ht:P.underlying t=some (.slice e)) (hi:(P.info? e).map (λi=>(i.zero,i.size,i.bytes))=some (some z,L.m,by')) (hby2:Nat.ble by' 1000=true) (hzs:z.cells.size=L.m)
  (hs:D0 f s=some v) (hown:AD L e B w v xs) (hx:D0 f x=some (.slice p l.length c)) (hb:Be L w p l)
  (hn:xs.length+l.length<=10000000) (hB:B<=w.heap.size) (hd:Nat.blt d n.n=true) (hc:l=[]->c=0\/p≠none)
  (k:∀ v' w',AD L e B w' v' (xs++l)->Below B w w'->w.grownBy w' v.ownBlock->(∀ g,v'.ownBlock=some g->v.ownBlock=some g\/w.heap.size<=g)->WL P n ops Q rest ((d,v')::f) w') :
  WL P n ops Q (⟨some d,.call ⟨.builtin .append,#[s,x],#[t,t]⟩,ty,pos,aft,none⟩::rest) f w:=by
 refine A3k ht hi hby2 hzs hs hown hx hb oO ?_ hB hd hc k
 have a:by'<=1000:=by simpa using hby2
 have:(xs.length+l.length) * by'<=(xs.length+l.length) * 1000:=Nat.mul_le_mul_left _ a
 omega
theorem DP {t:TypeId} {x:Operand} {p:Option Addr} {l:List α} {w:World} {dd:TypeDesc} (hu:P.underlying t=some dd) (hdd:dd.isRow=true) (hi:(P.info? t).map (·.size)=some L.m) (hb:Be L w p l) (k:Nat) (hk:k<l.length)
  (hx:D0 f x=some (.pointer (some ((pA p).add (k * L.m))))):Rd P (.load t x) f w (.agg (L.V l[k]).toArray):=λρ hρ d ty pos aft g=>by
 have hl:(loadCells ((pA p).add (k * L.m)) (L.V l[k]).length).run P w=.ok (L.V l[k]).toArray w :=
  run_loadCells_list (P:=P) w ((pA p).add (k * L.m)) (L.V l[k]) (λj v hv=>by
   have hj:j<L.m:=by
    rcases BU j L.m with h | h
    · exact h
    · rw [AK (by rw [L.len];exact h)] at hv;cases hv
   rw [Jl,hb.cells k hk j hj,hv])
 cases hq:P.info? t with
 | none=>simp [hq] at hi
 | some i =>
  have hs:i.size=(L.V l[k]).length:=by rw [L.len];simpa [hq] using hi
  have a:(isAgg t).run P w=.ok true w:=by
   unfold isAgg
   rw [BB,B8 hu w]
   cases dd <;> simp_all
  unfold execOp
  simp [hρ _ _ hx,Instr.loadAt,Instr.sureAddr,loadVar,BB,a,sizeOf,typeInfo,hq,hs,hl]
theorem Kh (L:Fe α) (l:List α) (k:Nat) (hk:k<l.length) (x:α):(L.flat l).take (k * L.m)++L.V x++(L.flat l).drop (k * L.m+L.m)=L.flat (l.set k x):=by
 rw [L.flat_take,show k * L.m+L.m=(k+1) * L.m by rw [Nat.succ_mul],L.flat_drop,List.set_eq_take_append_cons_drop,A6 hk]
 simp [Fe.flat]
end
end
section
open Go.RowKit Go.WideShapes Go.ChangeShapes
theorem rvE {a b:Value} (h:a=b):Ending.returned a=.returned b:=by rw [h]
theorem EE {P:Program} {fn:Func} {R:Ending->World->Prop} {f:Fr} {w:World} {t u:Tmp} {ty:TypeId} {b:Addr} {v x:Value} (hr:fn.results=#[.cell t ty,.tmp u])
  (ht:look f t=some (.pointer (some b))) (hv:(loadVar ty b).run P w=.ok v w) (hx:look f u=some x) (h:R (.returned (.tuple #[v,x])) w):Jn P fn R .ret f w:=by
 unfold Jn
 exact ⟨_,λtmps hh=>by
  have a:=hh _ _ ht;have c:=hh _ _ hx
  simp only [B0] at a c
  simp [results,hr,a,c,asAddr,hv],h⟩
section
variable {P:Program} {n:Sh} {f:Fr}
theorem Bx.eqSN {x:Operand} {tx ty e:TypeId} {p:Option Addr} {m c:Nat} (hu:P.underlying tx=some (.slice e)) (hx:D0 f x=some (.slice p m c)):Bx P (.binOp .eql tx x (.const (.slice none 0 0)) ty) f (.bool p.isNone):=λρ hρ d ty' pos aft g w=>by
 have h4:ρ (.const (.slice none 0 0))=.slice none 0 0:=hρ _ _ rfl
 simp [execOp,hρ _ _ hx,h4,eqGuard,Lib.run_eql_slice_nil w tx e p m c 0 0 hu]
theorem Bx.max2 {x y:Operand} {k k':IntKind} {a b:Int} {ats:Array TypeId} (hx:D0 f x=some (.int k a)) (hy:D0 f y=some (.int k' b)):Bx P (.call ⟨.builtin .max,#[x,y],ats⟩) f (.int k (if b > a then b else a)):=λρ hρ d ty pos aft g w=>by
 simp [execOp,resolve,invoke,builtin,hρ _ _ hx,hρ _ _ hy,run_max_int2]
theorem Bx.min2 {x y:Operand} {k k':IntKind} {a b:Int} {ats:Array TypeId} (hx:D0 f x=some (.int k a)) (hy:D0 f y=some (.int k' b)):Bx P (.call ⟨.builtin .min,#[x,y],ats⟩) f (.int k (if b<a then b else a)):=λρ hρ d ty pos aft g w=>by
 simp [execOp,resolve,invoke,builtin,hρ _ _ hx,hρ _ _ hy,run_min_int2]
theorem Bx.slmF {tx e:TypeId} {x y:Operand} {p:Option Addr} {l c sz:Nat} {i:Int} (hu:P.underlying tx=some (.slice e)) (hs:∀ w,(sizeOf e).run P w=.ok sz w) (hx:D0 f x=some (.slice p l c))
  (hi:D0 f y=some (.int .i64 i)) (a:Nat) (ei:i=a) (ham:a<=l):Bx P (.slice tx x (some y) none none) f (.slice (Gd sz p c a) (l-a) (c-a)):=λρ hρ d ty pos aft g w=>by
 subst ei
 simp [execOp,Instr.sliceAt,Instr.slice,Instr.sliceBounds,run_sliceBound,hρ _ _ hx,hρ _ _ hi,B8 hu,hs,ham,Gd]
theorem Bx.slmT {tx e:TypeId} {x z:Operand} {p:Option Addr} {l c sz:Nat} {j:Int} (hu:P.underlying tx=some (.slice e)) (hs:∀ w,(sizeOf e).run P w=.ok sz w) (hx:D0 f x=some (.slice p l c))
  (hj:D0 f z=some (.int .i64 j)) (b:Nat) (ej:j=b) (hbc:b<=c):Bx P (.slice tx x none (some z) none) f (.slice (Gd sz p c 0) b c):=λρ hρ d ty pos aft g w=>by
 subst ej
 simp [execOp,Instr.sliceAt,Instr.slice,Instr.sliceBounds,run_sliceBound,hρ _ _ hx,hρ _ _ hj,B8 hu,hs,hbc,Gd]
theorem Be.partT {α:Type} {L:Fe α} {w:World} {p:Option Addr} {l:List α} {c:Nat} (h:Be L w p l) (b:Nat) (hb:b<=l.length) (hc:l.length<=c):Be L w (Gd L.m p c 0) (l.take b):=by
 have:=h.part (c:=c) (a:=0) (b:=b) (Gg _) hb hc
 rw [TE,Nat.sub_zero] at this
 exact this
theorem Bx.ixm {tx e:TypeId} {x y:Operand} {p:Option Addr} {l c sz:Nat} {i:Int} {k:IntKind} (hu:P.underlying tx=some (.slice e)) (hs:∀ w,(sizeOf e).run P w=.ok sz w) (hx:D0 f x=some (.slice p l c))
  (hi:D0 f y=some (.int k i)) (hp:p=some (pA p)) (j:Nat) (e':i=j) (hj:j<l):Bx P (.indexAddr tx x y) f (.pointer (some ((pA p).add (j * sz)))) :=
 Wp hu hs (by rw [hx];rw [<- hp]) hi j e' hj
theorem Be.field {α:Type} {L:Fe α} {w:World} {p:Option Addr} {l:List α} (h:Be L w p l) (k:Nat) (hk:k<l.length) (i:Nat) (hi:i<L.m):w.cell? (((pA p).add (k * L.m)).add i)=(L.V l[k])[i]?:=by
 rw [Jl];exact h.cells k hk i hi
theorem J8 (w:World) (d:Nat) (t e:TypeId) (a:Option Addr) (h:P.underlying t=some (.pointer e)) :
  (Op.equalIn (d+1) t (.pointer a) (.pointer none)).run P w=.ok a.isNone w:=by
 cases a <;> simp [Op.equalIn,B8 h]
theorem Bx.eqP {x:Operand} {tx ty e:TypeId} {a:Option Addr} (hu:P.underlying tx=some (.pointer e)) (hx:D0 f x=some (.pointer a)):Bx P (.binOp .eql tx x (.const (.pointer none)) ty) f (.bool a.isNone):=λρ hρ d ty' pos aft g w=>by
 have h4:ρ (.const (.pointer none))=.pointer none:=hρ _ _ rfl
 have h5:(binOp .eql tx (.pointer a) (.pointer none)).run P w=.ok (.bool a.isNone) w:=by
  simp only [binOp]
  simp [Op.equal,Op.maxDepth,J8 w 9999 tx e a hu]
 simp [execOp,hρ _ _ hx,h4,eqGuard,h5]
theorem Bx.neP {x:Operand} {tx ty e:TypeId} {a:Option Addr} (hu:P.underlying tx=some (.pointer e)) (hx:D0 f x=some (.pointer a)):Bx P (.binOp .neq tx x (.const (.pointer none)) ty) f (.bool (!a.isNone)):=λρ hρ d ty' pos aft g w=>by
 have h4:ρ (.const (.pointer none))=.pointer none:=hρ _ _ rfl
 have h5:(binOp .neq tx (.pointer a) (.pointer none)).run P w=.ok (.bool (!a.isNone)) w:=by
  simp only [binOp]
  simp [Op.equal,Op.maxDepth,J8 w 9999 tx e a hu]
 simp [execOp,hρ _ _ hx,h4,eqGuard,h5]
end
end
section
open Go.ChangeShapes Go.WideShapes Go.ChangeAt Go.RowKit
structure KM {α:Type} (p:Option Addr) (l:List α) (c:Nat):Prop where
 le:l.length<=c
 cap:c<=maxLen
 nil:l=[]->c=0\/p≠none
 none:p=none->l=[]/\c=0
theorem KM.z {α:Type}:KM (α:=α) Option.none [] 0:=⟨FL _,by unfold maxLen;omega,λ_=>.inl rfl,λ_=>⟨rfl,rfl⟩⟩
theorem LY {α:Type} (P:Nat->α->Prop):∀ n,(∀ i,i<n->∃ o,P i o)->∃ l:List α,l.length=n/\∀ i (h:i<l.length),P i l[i]
  | 0,_=>⟨[],rfl,λi h=>by simp at h⟩
  | n+1,h=>by
    obtain ⟨l,hl,hp⟩:=LY P n (λi hi=>h i oO)
    obtain ⟨o,ho⟩:=h n oO
    refine ⟨l++[o],by simp [hl],λi hi=>?_⟩
    rw [A5,CD] at hi
    rcases BU i l.length with h1 | h1
    · rw [Gt h1];exact hp i h1
    · obtain rfl : i = l.length := by omega
      rw [Ga (FL _)]
      simp only [K8,AX]
      rw [hl];exact ho
def A5d {H:Type} (d:DataW H) (n:Nat):Prop:=n=0\/∃ elems spare,d=.slice elems spare/\n=elems.length
abbrev DW (k:Int):Value:=.int .i64 k
section
variable {H:Type} {enc:TypeId × Value->H} {P:Program} {w:World} {base:Nat} {sp:Nat->Bool} {held:Bool} {fuel:Nat} {t e:TypeId} {cs:List Value} {x:DataW H × List MemPlace} {α:Type}
theorem Mt {L:Fe α} {Ok:α->Prop} (hu:P.underlying t=some (.slice e)) (hc:P.cellsOf e=L.m) (hel:∀ {n cs x},DataW.trod enc P w base sp held n e cs=some x->∃ o,cs=L.V o/\Ok o)
    (h:DataW.trod enc P w base sp held fuel t cs=some x):∃ p l c,cs=[.slice p (l:List α).length c]/\Be L w p l/\KM p l c/\(∀ y∈l,Ok y)/\A5d x.1 l.length:=by
  rcases Go.Deep.open_slice hu h with ⟨rfl,rfl⟩ | ⟨a,len,cap,k,n,D,Pl,rfl,-,hl,hm,hk,rfl,hx⟩
  · exact ⟨none,[],0,rfl,Be.nil w,.z,λy hy=>by simp at hy,.inl rfl⟩
  · have s : len ≤ k := by rw [hk]; split <;> omega
    obtain ⟨l,b,hp⟩:=LY (λi o=>(∀ q,q<L.m->w.cell? (a.add (i * L.m+q))=(L.V o)[q]?)/\Ok o) len (λi hi=>by
      obtain ⟨cs,d,f⟩:=hx i oO
      obtain ⟨o,rfl,ho⟩:=hel f
      rw [hc] at d
      obtain ⟨-,-,g⟩:=World.cells?_some d
      exact ⟨o,λq hq=>by rw [<- Jl];exact g q hq,ho⟩)
    refine ⟨some a,l,cap,by rw [b],⟨λ_=>rfl,λj hj q hq=>(hp j hj).1 q hq⟩,⟨by omega,hm,λ_=>.inr (by simp),λh=>by cases h⟩,λy hy=>?_,.inr ⟨_,_,rfl,by simp [b]⟩⟩
    obtain ⟨i,hi,rfl⟩:=List.getElem_of_mem hy
    exact (hp i hi).2
theorem QT {V:α->Value} {Ok:α->Prop} (hu:P.underlying t=some (.slice e)) (hc:P.cellsOf e=1) (hel:∀ {n v x},DataW.trod enc P w base sp held n e [v]=some x->∃ o,v=V o/\Ok o)
    (h:DataW.trod enc P w base sp held fuel t cs=some x):∃ p l c,cs=[.slice p (l:List α).length c]/\AS V w p l/\KM p l c/\(∀ y∈l,Ok y)/\A5d x.1 l.length:=by
  rcases Go.Deep.open_slice1 hu hc h with ⟨rfl,rfl⟩ | ⟨a,len,cap,k,n,F,D,Pl,rfl,-,hl,hm,hk,rfl,hx⟩
  · exact ⟨none,[],0,rfl,AS.nil w,.z,λy hy=>by simp at hy,.inl rfl⟩
  · have g : len ≤ k := by rw [hk]; split <;> omega
    obtain ⟨l,b,hp⟩:=LY (λi o=>w.cell? (a.add i)=some (V o)/\Ok o) len (λi hi=>by
      obtain ⟨d,f⟩:=hx i oO
      obtain ⟨o,ho,hk⟩:=hel f
      exact ⟨o,by rw [d,ho],hk⟩)
    refine ⟨some a,l,cap,by rw [b],⟨λ_=>rfl,λj hj=>(hp j hj).1⟩,⟨by omega,hm,λ_=>.inr (by simp),λh=>by cases h⟩,λy hy=>?_,.inr ⟨_,_,rfl,by simp [b]⟩⟩
    obtain ⟨i,hi,rfl⟩:=List.getElem_of_mem hy
    exact (hp i hi).2
theorem A00 (hu:P.underlying t=some (.slice e)) (he:P.underlying e=some (.int .i64)) (hc:P.cellsOf e=1)
  (h:DataW.trod enc P w base sp held fuel t cs=some x):∃ p l c,cs=[.slice p (l:List Int).length c]/\AS DW w p l/\KM p l c/\(∀ y∈l,(Lit.int .i64 y).wf=true)/\A5d x.1 l.length :=
 QT hu hc (λ{n v x} h=>by
  obtain ⟨a,e,-,w⟩:=BH he h
  simp only [DE,and_true] at e
  exact ⟨a,e,w⟩) h
theorem A1P (hu:P.underlying t=some (.slice e)) (he:P.underlying e=some (.int .u8)) (hc:P.cellsOf e=1)
  (h:DataW.trod enc P w base sp held fuel t cs=some x):∃ p l c,cs=[.slice p (l:l8_).length c]/\Av w p l/\KM p l c/\(∀ y∈l,True)/\A5d x.1 l.length:=by
 obtain ⟨p,l,c,d,b,f,g,i⟩:=QT (V:=λc:UInt8=>.int .u8 (c.toNat:Int)) (Ok:=λ_=>True) hu hc (λ{n v x} h=>by
  obtain ⟨a,e,-,w⟩:=BH he h
  simp only [DE,and_true] at e
  have hb:0<=a/\a<=255:=by simp only [Lit.wf,A3,Ab] at w;exact w
  refine ⟨a.toNat.toUInt8,?_,tT⟩
  rw [e]
  have:(a.toNat.toUInt8).toNat=a.toNat % 256:=by simp
  rw [this];congr 1;omega) h
 exact ⟨p,l,c,d,⟨b.isp,b.cells⟩,f,g,i⟩
end
end
section
open Go.ChangeShapes Go.WideShapes Go.ChangeAt Go.RowKit
structure BQ where
 fX:Int
 fY:Int
def DH (x:BQ):List Value:=[.int .i64 x.fX,.int .i64 x.fY]
def Ed:Fe BQ:=⟨2,DH,by decide,λ_=>rfl,λx u hu=>Au.1 (show (DH x).all Value.oneCell'=true from rfl) u hu⟩
structure K6 (w:World) (x:BQ):Prop where
 wf_fX:(Lit.int .i64 x.fX).wf=true
 wf_fY:(Lit.int .i64 x.fY).wf=true
theorem K6.below {w w1:World} {x:BQ} (h:K6 w x) (hb:Below w.heap.size w w1):K6 w1 x :=
 ⟨h.wf_fX,h.wf_fY⟩
theorem Z2:Tryz.prog.cellsOf 57=2:=by kernel_rfl
theorem cells3:Tryz.prog.cellsOf 3=1:=by kernel_rfl
theorem Nf {H:Type} {enc:TypeId × Value->H} {w:World} {base:Nat} {sp:Nat->Bool} {held:Bool} {fuel:Nat} {cs:List Value} {x:DataW H × List MemPlace}
  (h:DataW.trod enc Tryz.prog w base sp held fuel 57 cs=some x):∃ o:BQ,cs=DH o/\K6 w o:=by
 obtain ⟨xs,n,rfl,-,hl,a,hf⟩:=DataW.trod_struct CS h
 rw [Z2] at hl
 have b:xs.length=2:=a
 match cs,hl with
 | [c0,c1],_ =>
  have g:∀ (i:Nat) (f:Field) (q:Nat) (c:List Value),_->Tryz.prog.cellsOf f.type=q->(([c0,c1]:List Value).drop f.offset).take q=c->DataW.trod enc Tryz.prog w base sp held n f.type c=xs[i]?:=λi f q c d e j=>by
   have:=hf i f d
   rw [e,j] at this
   exact this
  have f0:=(g 0 _ 1 [c0] rfl cells3 rfl).trans (A7 oO)
  obtain ⟨afX,efX,-,wfX⟩:=BH JQ f0
  have f1:=(g 1 _ 1 [c1] rfl cells3 rfl).trans (A7 oO)
  obtain ⟨afY,efY,-,wfY⟩:=BH JQ f1
  simp only [DE,and_true] at efX efY
  refine ⟨⟨afX,afY⟩,?_,⟨wfX,wfY⟩⟩
  rw [efX,efY]
  rfl
structure CK where
 fKind:Int
 fP_0:BQ
 fP_1:BQ
 fP_2:BQ
def JG (x:CK):List Value:=[.int .i64 x.fKind]++DH x.fP_0++DH x.fP_1++DH x.fP_2
def Fq:Fe CK:=⟨7,JG,by decide,λ_=>rfl,λx u hu=>Au.1 (show (JG x).all Value.oneCell'=true from rfl) u hu⟩
structure Mb (w:World) (x:CK):Prop where
 wf_fKind:(Lit.int .i64 x.fKind).wf=true
 ok_fP_0:K6 w x.fP_0
 ok_fP_1:K6 w x.fP_1
 ok_fP_2:K6 w x.fP_2
theorem Mb.below {w w1:World} {x:CK} (h:Mb w x) (hb:Below w.heap.size w w1):Mb w1 x :=
 ⟨h.wf_fKind,h.ok_fP_0.below hb,h.ok_fP_1.below hb,h.ok_fP_2.below hb⟩
theorem Ur:Tryz.prog.cellsOf 94=7:=by kernel_rfl
theorem A4W:Tryz.prog.cellsOf 92=6:=by kernel_rfl
theorem Vv {H:Type} {enc:TypeId × Value->H} {w:World} {base:Nat} {sp:Nat->Bool} {held:Bool} {fuel:Nat} {cs:List Value} {x:DataW H × List MemPlace}
  (h:DataW.trod enc Tryz.prog w base sp held fuel 94 cs=some x):∃ o:CK,cs=JG o/\Mb w o:=by
 obtain ⟨xs,n,rfl,-,hl,b,hf⟩:=DataW.trod_struct JF h
 rw [Ur] at hl
 have d:xs.length=2:=b
 match cs,hl with
 | [c0,c1,c2,c3,c4,c5,c6],_ =>
  have g:∀ (i:Nat) (f:Field) (q:Nat) (c:List Value),_->Tryz.prog.cellsOf f.type=q->(([c0,c1,c2,c3,c4,c5,c6]:List Value).drop f.offset).take q=c->DataW.trod enc Tryz.prog w base sp held n f.type c=xs[i]?:=λi f q c e j k=>by
   have:=hf i f e
   rw [j,k] at this
   exact this
  have f0:=(g 0 _ 1 [c0] rfl cells3 rfl).trans (A7 oO)
  obtain ⟨afKind,efKind,-,wfKind⟩:=BH JQ f0
  have f1:=(g 1 _ 6 [c1,c2,c3,c4,c5,c6] rfl A4W rfl).trans (A7 oO)
  obtain ⟨m,s,rfl,-,-,l,a⟩:=DataW.trod_array MH f1
  rw [Z2] at a
  have yz1_0:=(show DataW.trod enc Tryz.prog w base sp held _ 57 [c1,c2]=_ from a 0 dD).trans (A7 oO)
  obtain ⟨afP_0,efP_0,wfP_0⟩:=Nf yz1_0
  have yz1_1:=(show DataW.trod enc Tryz.prog w base sp held _ 57 [c3,c4]=_ from a 1 dD).trans (A7 oO)
  obtain ⟨afP_1,efP_1,wfP_1⟩:=Nf yz1_1
  have yz1_2:=(show DataW.trod enc Tryz.prog w base sp held _ 57 [c5,c6]=_ from a 2 dD).trans (A7 oO)
  obtain ⟨afP_2,efP_2,wfP_2⟩:=Nf yz1_2
  simp only [DE,and_true] at efKind
  refine ⟨⟨afKind,afP_0,afP_1,afP_2⟩,?_,⟨wfKind,wfP_0,wfP_1,wfP_2⟩⟩
  show _=([.int .i64 afKind]:List Value)++DH afP_0++DH afP_1++DH afP_2
  rw [<- efP_0,<- efP_1,<- efP_2]
  rw [efKind]
  rfl
structure C6 where
 fSpace:Int
 fPart_0:Int
 fPart_1:Int
 fPart_2:Int
 fPart_3:Int
def DI (x:C6):List Value:=[.int .i64 x.fSpace,.int .i64 x.fPart_0,.int .i64 x.fPart_1,.int .i64 x.fPart_2,.int .i64 x.fPart_3]
def FX:Fe C6:=⟨5,DI,by decide,λ_=>rfl,λx u hu=>Au.1 (show (DI x).all Value.oneCell'=true from rfl) u hu⟩
structure MG (w:World) (x:C6):Prop where
 wf_fSpace:(Lit.int .i64 x.fSpace).wf=true
 wf_fPart_0:(Lit.int .i64 x.fPart_0).wf=true
 wf_fPart_1:(Lit.int .i64 x.fPart_1).wf=true
 wf_fPart_2:(Lit.int .i64 x.fPart_2).wf=true
 wf_fPart_3:(Lit.int .i64 x.fPart_3).wf=true
theorem MG.below {w w1:World} {x:C6} (h:MG w x) (hb:Below w.heap.size w w1):MG w1 x :=
 ⟨h.wf_fSpace,h.wf_fPart_0,h.wf_fPart_1,h.wf_fPart_2,h.wf_fPart_3⟩
theorem Z5:Tryz.prog.cellsOf 37=5:=by kernel_rfl
theorem A51:Tryz.prog.cellsOf 35=4:=by kernel_rfl
theorem Xw {H:Type} {enc:TypeId × Value->H} {w:World} {base:Nat} {sp:Nat->Bool} {held:Bool} {fuel:Nat} {cs:List Value} {x:DataW H × List MemPlace}
  (h:DataW.trod enc Tryz.prog w base sp held fuel 37 cs=some x):∃ o:C6,cs=DI o/\MG w o:=by
 obtain ⟨xs,n,rfl,-,hl,b,hf⟩:=DataW.trod_struct GH h
 rw [Z5] at hl
 have d:xs.length=2:=b
 match cs,hl with
 | [c0,c1,c2,c3,c4],_ =>
  have g:∀ (i:Nat) (f:Field) (q:Nat) (c:List Value),_->Tryz.prog.cellsOf f.type=q->(([c0,c1,c2,c3,c4]:List Value).drop f.offset).take q=c->DataW.trod enc Tryz.prog w base sp held n f.type c=xs[i]?:=λi f q c e j k=>by
   have:=hf i f e
   rw [j,k] at this
   exact this
  have f0:=(g 0 _ 1 [c0] rfl cells3 rfl).trans (A7 oO)
  obtain ⟨afSpace,efSpace,-,wfSpace⟩:=BH JQ f0
  have f1:=(g 1 _ 4 [c1,c2,c3,c4] rfl A51 rfl).trans (A7 oO)
  obtain ⟨m,s,rfl,-,-,l,a⟩:=DataW.trod_array UH f1
  rw [cells3] at a
  have yz1_0:=(show DataW.trod enc Tryz.prog w base sp held _ 3 [c1]=_ from a 0 dD).trans (A7 oO)
  obtain ⟨afPart_0,efPart_0,-,wfPart_0⟩:=BH JQ yz1_0
  have yz1_1:=(show DataW.trod enc Tryz.prog w base sp held _ 3 [c2]=_ from a 1 dD).trans (A7 oO)
  obtain ⟨afPart_1,efPart_1,-,wfPart_1⟩:=BH JQ yz1_1
  have yz1_2:=(show DataW.trod enc Tryz.prog w base sp held _ 3 [c3]=_ from a 2 dD).trans (A7 oO)
  obtain ⟨afPart_2,efPart_2,-,wfPart_2⟩:=BH JQ yz1_2
  have yz1_3:=(show DataW.trod enc Tryz.prog w base sp held _ 3 [c4]=_ from a 3 dD).trans (A7 oO)
  obtain ⟨afPart_3,efPart_3,-,wfPart_3⟩:=BH JQ yz1_3
  simp only [DE,and_true] at efSpace efPart_0 efPart_1 efPart_2 efPart_3
  refine ⟨⟨afSpace,afPart_0,afPart_1,afPart_2,afPart_3⟩,?_,⟨wfSpace,wfPart_0,wfPart_1,wfPart_2,wfPart_3⟩⟩
  rw [efSpace,efPart_0,efPart_1,efPart_2,efPart_3]
  rfl
structure Bv where
 pfPath:Option Addr
 fPath:List CK
 cfPath:Nat
 fEvenOdd:Bool
def A34 (x:Bv):List Value:=[.slice x.pfPath x.fPath.length x.cfPath,.bool x.fEvenOdd]
def Gk:Fe Bv:=⟨2,A34,by decide,λ_=>rfl,λx u hu=>Au.1 (show (A34 x).all Value.oneCell'=true from rfl) u hu⟩
structure GX (w:World) (x:Bv):Prop where
 row_fPath:Be Fq w x.pfPath x.fPath
 sl_fPath:KM x.pfPath x.fPath x.cfPath
 all_fPath:∀ y∈x.fPath,Mb w y
theorem GX.below {w w1:World} {x:Bv} (h:GX w x) (hb:Below w.heap.size w w1):GX w1 x :=
 ⟨h.row_fPath.below hb (λh0=>h.row_fPath.lt h0),h.sl_fPath,λy hy=>(h.all_fPath y hy).below hb⟩
theorem GX.drew {w w1:World} {x:Bv} (h:GX w x) (d:CZ w w1):GX w1 x:=h.below (d.below (EM _ _))
theorem Z0:Tryz.prog.cellsOf 61=2:=by kernel_rfl
theorem Z6:Tryz.prog.cellsOf 34=1:=by kernel_rfl
theorem cells4:Tryz.prog.cellsOf 4=1:=by kernel_rfl
theorem A03 {H:Type} {enc:TypeId × Value->H} {w:World} {base:Nat} {sp:Nat->Bool} {held:Bool} {fuel:Nat} {cs:List Value} {x:DataW H × List MemPlace}
  (h:DataW.trod enc Tryz.prog w base sp held fuel 61 cs=some x):∃ o:Bv,cs=A34 o/\GX w o:=by
 obtain ⟨xs,n,rfl,-,hl,a,hf⟩:=DataW.trod_struct PH h
 rw [Z0] at hl
 have b:xs.length=2:=a
 match cs,hl with
 | [c0,c1],_ =>
  have g:∀ (i:Nat) (f:Field) (q:Nat) (c:List Value),_->Tryz.prog.cellsOf f.type=q->(([c0,c1]:List Value).drop f.offset).take q=c->DataW.trod enc Tryz.prog w base sp held n f.type c=xs[i]?:=λi f q c d e j=>by
   have:=hf i f d
   rw [e,j] at this
   exact this
  have f0:=(g 0 _ 1 [c0] rfl Z6 rfl).trans (A7 oO)
  obtain ⟨pfPath,afPath,lfPath,efPath,rfPath,sfPath,kfPath,-⟩:=Mt (L:=Fq) (Ok:=λo=>Mb w o) Fj Ur (λh=>Vv h) f0
  have f1:=(g 1 _ 1 [c1] rfl cells4 rfl).trans (A7 oO)
  obtain ⟨afEvenOdd,efEvenOdd,-⟩:=DataW.trod_bool u4_ f1
  simp only [DE,and_true] at efPath efEvenOdd
  refine ⟨⟨pfPath,afPath,lfPath,afEvenOdd⟩,?_,⟨rfPath,sfPath,kfPath⟩⟩
  rw [efPath,efEvenOdd]
  rfl
structure Dz where
 fWidth:Int
 fCap:Int
 fJoin:Int
 fMiter:Int
 pfDash:Option Addr
 fDash:List Int
 cfDash:Nat
 fPhase:Int
def El (x:Dz):List Value:=[.int .i64 x.fWidth,.int .i64 x.fCap,.int .i64 x.fJoin,.int .i64 x.fMiter,.slice x.pfDash x.fDash.length x.cfDash,.int .i64 x.fPhase]
def Vp:Fe Dz:=⟨6,El,by decide,λ_=>rfl,λx u hu=>Au.1 (show (El x).all Value.oneCell'=true from rfl) u hu⟩
structure PB (w:World) (x:Dz):Prop where
 wf_fWidth:(Lit.int .i64 x.fWidth).wf=true
 wf_fCap:(Lit.int .i64 x.fCap).wf=true
 wf_fJoin:(Lit.int .i64 x.fJoin).wf=true
 wf_fMiter:(Lit.int .i64 x.fMiter).wf=true
 row_fDash:AS DW w x.pfDash x.fDash
 sl_fDash:KM x.pfDash x.fDash x.cfDash
 wfs_fDash:∀ y∈x.fDash,(Lit.int .i64 y).wf=true
 wf_fPhase:(Lit.int .i64 x.fPhase).wf=true
theorem PB.below {w w1:World} {x:Dz} (h:PB w x) (hb:Below w.heap.size w w1):PB w1 x :=
 ⟨h.wf_fWidth,h.wf_fCap,h.wf_fJoin,h.wf_fMiter,h.row_fDash.below hb (λh0=>h.row_fDash.lt h0),h.sl_fDash,h.wfs_fDash,h.wf_fPhase⟩
theorem Z4:Tryz.prog.cellsOf 41=6:=by kernel_rfl
theorem A4Z:Tryz.prog.cellsOf 39=1:=by kernel_rfl
theorem A1Q {H:Type} {enc:TypeId × Value->H} {w:World} {base:Nat} {sp:Nat->Bool} {held:Bool} {fuel:Nat} {cs:List Value} {x:DataW H × List MemPlace}
  (h:DataW.trod enc Tryz.prog w base sp held fuel 41 cs=some x):∃ o:Dz,cs=El o/\PB w o:=by
 obtain ⟨xs,n,rfl,-,hl,a,hf⟩:=DataW.trod_struct CT h
 rw [Z4] at hl
 have b:xs.length=6:=a
 match cs,hl with
 | [c0,c1,c2,c3,c4,c5],_ =>
  have g:∀ (i:Nat) (f:Field) (q:Nat) (c:List Value),_->Tryz.prog.cellsOf f.type=q->(([c0,c1,c2,c3,c4,c5]:List Value).drop f.offset).take q=c->DataW.trod enc Tryz.prog w base sp held n f.type c=xs[i]?:=λi f q c d e j=>by
   have:=hf i f d
   rw [e,j] at this
   exact this
  have f0:=(g 0 _ 1 [c0] rfl cells3 rfl).trans (A7 oO)
  obtain ⟨afWidth,efWidth,-,wfWidth⟩:=BH JQ f0
  have f1:=(g 1 _ 1 [c1] rfl cells3 rfl).trans (A7 oO)
  obtain ⟨afCap,efCap,-,wfCap⟩:=BH JQ f1
  have f2:=(g 2 _ 1 [c2] rfl cells3 rfl).trans (A7 oO)
  obtain ⟨afJoin,efJoin,-,wfJoin⟩:=BH JQ f2
  have f3:=(g 3 _ 1 [c3] rfl cells3 rfl).trans (A7 oO)
  obtain ⟨afMiter,efMiter,-,wfMiter⟩:=BH JQ f3
  have f4:=(g 4 _ 1 [c4] rfl A4Z rfl).trans (A7 oO)
  obtain ⟨pfDash,afDash,lfDash,efDash,rfDash,sfDash,kfDash,-⟩:=A00 Dh JQ cells3 f4
  have f5:=(g 5 _ 1 [c5] rfl cells3 rfl).trans (A7 oO)
  obtain ⟨afPhase,efPhase,-,wfPhase⟩:=BH JQ f5
  simp only [DE,and_true] at efWidth efCap efJoin efMiter efDash efPhase
  refine ⟨⟨afWidth,afCap,afJoin,afMiter,pfDash,afDash,lfDash,afPhase⟩,?_,⟨wfWidth,wfCap,wfJoin,wfMiter,rfDash,sfDash,kfDash,wfPhase⟩⟩
  rw [efWidth,efCap,efJoin,efMiter,efDash,efPhase]
  rfl
structure AQ where
 fKind:Int
 pfPath:Option Addr
 fPath:List CK
 cfPath:Nat
 fColor:C6
 pfClips:Option Addr
 fClips:List Bv
 cfClips:Nat
 fPen:Dz
 fFont:Int
 fMatrix_0:Int
 fMatrix_1:Int
 fMatrix_2:Int
 fMatrix_3:Int
 fMatrix_4:Int
 fMatrix_5:Int
 pfBytes:Option Addr
 fBytes:l8_
 cfBytes:Nat
def FF (x:AQ):List Value:=[.int .i64 x.fKind,.slice x.pfPath x.fPath.length x.cfPath]++DI x.fColor++[.slice x.pfClips x.fClips.length x.cfClips]++El x.fPen++[.int .i64 x.fFont,.int .i64 x.fMatrix_0,.int .i64 x.fMatrix_1,.int .i64 x.fMatrix_2,.int .i64 x.fMatrix_3,.int .i64 x.fMatrix_4,.int .i64 x.fMatrix_5,.slice x.pfBytes x.fBytes.length x.cfBytes]
def Ls:Fe AQ:=⟨22,FF,by decide,λ_=>rfl,λx u hu=>Au.1 (show (FF x).all Value.oneCell'=true from rfl) u hu⟩
structure I3 (w:World) (x:AQ):Prop where
 wf_fKind:(Lit.int .i64 x.fKind).wf=true
 row_fPath:Be Fq w x.pfPath x.fPath
 sl_fPath:KM x.pfPath x.fPath x.cfPath
 all_fPath:∀ y∈x.fPath,Mb w y
 ok_fColor:MG w x.fColor
 row_fClips:Be Gk w x.pfClips x.fClips
 sl_fClips:KM x.pfClips x.fClips x.cfClips
 all_fClips:∀ y∈x.fClips,GX w y
 ok_fPen:PB w x.fPen
 wf_fFont:(Lit.int .i64 x.fFont).wf=true
 wf_fMatrix_0:(Lit.int .i64 x.fMatrix_0).wf=true
 wf_fMatrix_1:(Lit.int .i64 x.fMatrix_1).wf=true
 wf_fMatrix_2:(Lit.int .i64 x.fMatrix_2).wf=true
 wf_fMatrix_3:(Lit.int .i64 x.fMatrix_3).wf=true
 wf_fMatrix_4:(Lit.int .i64 x.fMatrix_4).wf=true
 wf_fMatrix_5:(Lit.int .i64 x.fMatrix_5).wf=true
 row_fBytes:Av w x.pfBytes x.fBytes
 sl_fBytes:KM x.pfBytes x.fBytes x.cfBytes
theorem I3.below {w w1:World} {x:AQ} (h:I3 w x) (hb:Below w.heap.size w w1):I3 w1 x :=
 ⟨h.wf_fKind,h.row_fPath.below hb (λh0=>h.row_fPath.lt h0),h.sl_fPath,λy hy=>(h.all_fPath y hy).below hb,h.ok_fColor.below hb,h.row_fClips.below hb (λh0=>h.row_fClips.lt h0),h.sl_fClips,λy hy=>(h.all_fClips y hy).below hb,h.ok_fPen.below hb,h.wf_fFont,h.wf_fMatrix_0,h.wf_fMatrix_1,h.wf_fMatrix_2,h.wf_fMatrix_3,h.wf_fMatrix_4,h.wf_fMatrix_5,h.row_fBytes.below hb (λh0=>h.row_fBytes.lt h0),h.sl_fBytes⟩
theorem Z3:Tryz.prog.cellsOf 44=22:=by kernel_rfl
theorem A50:Tryz.prog.cellsOf 38=1:=by kernel_rfl
theorem A4Y:Tryz.prog.cellsOf 42=6:=by kernel_rfl
theorem A6N:Tryz.prog.cellsOf 5=1:=by kernel_rfl
theorem A53:Tryz.prog.cellsOf 22=1:=by kernel_rfl
theorem A02 {H:Type} {enc:TypeId × Value->H} {w:World} {base:Nat} {sp:Nat->Bool} {held:Bool} {fuel:Nat} {cs:List Value} {x:DataW H × List MemPlace}
  (h:DataW.trod enc Tryz.prog w base sp held fuel 44 cs=some x):∃ o:AQ,cs=FF o/\I3 w o:=by
 obtain ⟨xs,n,rfl,-,hl,b,hf⟩:=DataW.trod_struct Dx h
 rw [Z3] at hl
 have d:xs.length=8:=b
 match cs,hl with
 | [c0,c1,c2,c3,c4,c5,c6,c7,c8,c9,c10,c11,c12,c13,c14,c15,c16,c17,c18,c19,c20,c21],_ =>
  have g:∀ (i:Nat) (f:Field) (q:Nat) (c:List Value),_->Tryz.prog.cellsOf f.type=q->(([c0,c1,c2,c3,c4,c5,c6,c7,c8,c9,c10,c11,c12,c13,c14,c15,c16,c17,c18,c19,c20,c21]:List Value).drop f.offset).take q=c->DataW.trod enc Tryz.prog w base sp held n f.type c=xs[i]?:=λi f q c e j k=>by
   have:=hf i f e
   rw [j,k] at this
   exact this
  have f0:=(g 0 _ 1 [c0] rfl cells3 rfl).trans (A7 oO)
  obtain ⟨afKind,efKind,-,wfKind⟩:=BH JQ f0
  have f1:=(g 1 _ 1 [c1] rfl Z6 rfl).trans (A7 oO)
  obtain ⟨pfPath,afPath,lfPath,efPath,rfPath,sfPath,kfPath,-⟩:=Mt (L:=Fq) (Ok:=λo=>Mb w o) Fj Ur (λh=>Vv h) f1
  have f2:=(g 2 _ 5 [c2,c3,c4,c5,c6] rfl Z5 rfl).trans (A7 oO)
  obtain ⟨afColor,efColor,wfColor⟩:=Xw f2
  have f3:=(g 3 _ 1 [c7] rfl A50 rfl).trans (A7 oO)
  obtain ⟨pfClips,afClips,lfClips,efClips,rfClips,sfClips,kfClips,-⟩:=Mt (L:=Gk) (Ok:=λo=>GX w o) Fi Z0 (λh=>A03 h) f3
  have f4:=(g 4 _ 6 [c8,c9,c10,c11,c12,c13] rfl Z4 rfl).trans (A7 oO)
  obtain ⟨afPen,efPen,wfPen⟩:=A1Q f4
  have f5:=(g 5 _ 1 [c14] rfl cells3 rfl).trans (A7 oO)
  obtain ⟨afFont,efFont,-,wfFont⟩:=BH JQ f5
  have f6:=(g 6 _ 6 [c15,c16,c17,c18,c19,c20] rfl A4Y rfl).trans (A7 oO)
  obtain ⟨m,s,rfl,-,-,l,a⟩:=DataW.trod_array DU f6
  rw [cells3] at a
  have yz1_0:=(show DataW.trod enc Tryz.prog w base sp held _ 3 [c15]=_ from a 0 dD).trans (A7 oO)
  obtain ⟨afMatrix_0,efMatrix_0,-,wfMatrix_0⟩:=BH JQ yz1_0
  have yz1_1:=(show DataW.trod enc Tryz.prog w base sp held _ 3 [c16]=_ from a 1 dD).trans (A7 oO)
  obtain ⟨afMatrix_1,efMatrix_1,-,wfMatrix_1⟩:=BH JQ yz1_1
  have yz1_2:=(show DataW.trod enc Tryz.prog w base sp held _ 3 [c17]=_ from a 2 dD).trans (A7 oO)
  obtain ⟨afMatrix_2,efMatrix_2,-,wfMatrix_2⟩:=BH JQ yz1_2
  have yz1_3:=(show DataW.trod enc Tryz.prog w base sp held _ 3 [c18]=_ from a 3 dD).trans (A7 oO)
  obtain ⟨afMatrix_3,efMatrix_3,-,wfMatrix_3⟩:=BH JQ yz1_3
  have yz1_4:=(show DataW.trod enc Tryz.prog w base sp held _ 3 [c19]=_ from a 4 dD).trans (A7 oO)
  obtain ⟨afMatrix_4,efMatrix_4,-,wfMatrix_4⟩:=BH JQ yz1_4
  have yz1_5:=(show DataW.trod enc Tryz.prog w base sp held _ 3 [c20]=_ from a 5 dD).trans (A7 oO)
  obtain ⟨afMatrix_5,efMatrix_5,-,wfMatrix_5⟩:=BH JQ yz1_5
  have f7:=(g 7 _ 1 [c21] rfl A53 rfl).trans (A7 oO)
  obtain ⟨pfBytes,afBytes,lfBytes,efBytes,rfBytes,sfBytes,kfBytes,-⟩:=A1P Bu Lk A6N f7
  simp only [DE,and_true] at efKind efPath efClips efFont efMatrix_0 efMatrix_1 efMatrix_2 efMatrix_3 efMatrix_4 efMatrix_5 efBytes
  refine ⟨⟨afKind,pfPath,afPath,lfPath,afColor,pfClips,afClips,lfClips,afPen,afFont,afMatrix_0,afMatrix_1,afMatrix_2,afMatrix_3,afMatrix_4,afMatrix_5,pfBytes,afBytes,lfBytes⟩,?_,⟨wfKind,rfPath,sfPath,kfPath,wfColor,rfClips,sfClips,kfClips,wfPen,wfFont,wfMatrix_0,wfMatrix_1,wfMatrix_2,wfMatrix_3,wfMatrix_4,wfMatrix_5,rfBytes,sfBytes⟩⟩
  show _=([.int .i64 afKind,.slice pfPath afPath.length lfPath]:List Value)++DI afColor++([.slice pfClips afClips.length lfClips]:List Value)++El afPen++([.int .i64 afFont,.int .i64 afMatrix_0,.int .i64 afMatrix_1,.int .i64 afMatrix_2,.int .i64 afMatrix_3,.int .i64 afMatrix_4,.int .i64 afMatrix_5,.slice pfBytes afBytes.length lfBytes]:List Value)
  rw [<- efColor,<- efPen]
  rw [efKind,efPath,efClips,efFont,efMatrix_0,efMatrix_1,efMatrix_2,efMatrix_3,efMatrix_4,efMatrix_5,efBytes]
  rfl
structure KN where
 fWidth:Int
 fHeight:Int
 pfItems:Option Addr
 fItems:List AQ
 cfItems:Nat
def IP (x:KN):List Value:=[.int .i64 x.fWidth,.int .i64 x.fHeight,.slice x.pfItems x.fItems.length x.cfItems]
structure Md (w:World) (x:KN):Prop where
 wf_fWidth:(Lit.int .i64 x.fWidth).wf=true
 wf_fHeight:(Lit.int .i64 x.fHeight).wf=true
 row_fItems:Be Ls w x.pfItems x.fItems
 sl_fItems:KM x.pfItems x.fItems x.cfItems
 all_fItems:∀ y∈x.fItems,I3 w y
theorem Md.below {w w1:World} {x:KN} (h:Md w x) (hb:Below w.heap.size w w1):Md w1 x :=
 ⟨h.wf_fWidth,h.wf_fHeight,h.row_fItems.below hb (λh0=>h.row_fItems.lt h0),h.sl_fItems,λy hy=>(h.all_fItems y hy).below hb⟩
theorem A4X:Tryz.prog.cellsOf 47=3:=by kernel_rfl
theorem A52:Tryz.prog.cellsOf 29=1:=by kernel_rfl
theorem A01 {H:Type} {enc:TypeId × Value->H} {w:World} {base:Nat} {sp:Nat->Bool} {held:Bool} {fuel:Nat} {cs:List Value} {x:DataW H × List MemPlace}
  (h:DataW.trod enc Tryz.prog w base sp held fuel 47 cs=some x):∃ o:KN,cs=IP o/\Md w o:=by
 obtain ⟨xs,n,rfl,-,hl,a,hf⟩:=DataW.trod_struct Oz h
 rw [A4X] at hl
 have b:xs.length=3:=a
 match cs,hl with
 | [c0,c1,c2],_ =>
  have g:∀ (i:Nat) (f:Field) (q:Nat) (c:List Value),_->Tryz.prog.cellsOf f.type=q->(([c0,c1,c2]:List Value).drop f.offset).take q=c->DataW.trod enc Tryz.prog w base sp held n f.type c=xs[i]?:=λi f q c d e j=>by
   have:=hf i f d
   rw [e,j] at this
   exact this
  have f0:=(g 0 _ 1 [c0] rfl cells3 rfl).trans (A7 oO)
  obtain ⟨afWidth,efWidth,-,wfWidth⟩:=BH JQ f0
  have f1:=(g 1 _ 1 [c1] rfl cells3 rfl).trans (A7 oO)
  obtain ⟨afHeight,efHeight,-,wfHeight⟩:=BH JQ f1
  have f2:=(g 2 _ 1 [c2] rfl A52 rfl).trans (A7 oO)
  obtain ⟨pfItems,afItems,lfItems,efItems,rfItems,sfItems,kfItems,-⟩:=Mt (L:=Ls) (Ok:=λo=>I3 w o) KU Z3 (λh=>A02 h) f2
  simp only [DE,and_true] at efWidth efHeight efItems
  refine ⟨⟨afWidth,afHeight,pfItems,afItems,lfItems⟩,?_,⟨wfWidth,wfHeight,rfItems,sfItems,kfItems⟩⟩
  rw [efWidth,efHeight,efItems]
  rfl
end
section
open Go.RowKit Go.WideShapes Go.ChangeShapes
section
variable {P:Program} {n:Sh} {f:Fr}
theorem SN {F:FuncId} (hb:Dk P F) {ρ:Operand->Value} (hρ:Agr f ρ) {x:Operand} {first cap args:Array Value} (hf:D0 f x=some (.func (.func F) first cap)) {xs:List Operand} {vs:List Value} (hx:Rw f xs=some vs) (ha:first++vs.toArray++cap=args)
  {ats:Array TypeId} (d:Option Tmp) (ty:TypeId) (pos:String) (aft:Array Edge) (g:Option (Nat × Bool)) (w:World) :
  (execOp ρ ⟨d,.call ⟨.value x,xs.toArray,ats⟩,ty,pos,aft,g⟩).run P w=.ok (.enter F args) w:=by
 obtain ⟨fn,c,i,j⟩:=hb
 have e:=K4 hρ _ _ hx
 have b:ρ x=.func (.func F) first cap:=hρ _ _ hf
 have a:xs.toArray.map ρ=vs.toArray:=by simp [e]
 subst ha
 unfold execOp
 simp only [resolve,a,b]
 simp [Deferred.ofValue,invoke,callFunc,run_program,c,i,j]
theorem A3i {ops:Array Oper} {Q:Exit->Fr->World->Prop} {w:World} {rest:List Oper} {d ty:Nat} {pos:String} {aft:Array Edge} {F:FuncId} {x:Operand} {first cap args:Array Value} {xs:List Operand} {ats:Array TypeId} {vs:List Value} {α:Sort _}
  {V:α->Value} {S:α->World->Prop} (hb:Dk P F) (hf:D0 f x=some (.func (.func F) first cap)) (hx:Rw f xs=some vs) (ha:first++vs.toArray++cap=args) (hd:Nat.blt d n.n=true)
  (hc:Calls P F args w λe w'=>∃ t,e=.returned (V t)/\S t w') (k:∀ t w',S t w'->WL P n ops Q rest ((d,V t)::f) w') :
  WL P n ops Q (⟨some d,.call ⟨.value x,xs.toArray,ats⟩,ty,pos,aft,none⟩::rest) f w:=by
 unfold WL at *
 intro a ha'
 refine wpList_plain rfl λK hK=>?_
 unfold Oper.wp
 rw [SN hb ha'.agr hf hx ha,Oper.upon_enter]
 refine hc.mono ?_
 rintro e w' ⟨t,rfl,hS⟩
 exact hK _ _ (k t w' hS _ (ha'.put hd _))
theorem Y1 {ops:Array Oper} {Q:Exit->Fr->World->Prop} {w:World} {rest:List Oper} {d ty:Nat} {pos:String} {aft:Array Edge} {F:FuncId} {x:Operand} {first cap args:Array Value} {xs:List Operand} {ats:Array TypeId} {vs:List Value}
  {V:Value} {S:World->Prop} (hb:Dk P F) (hf:D0 f x=some (.func (.func F) first cap)) (hx:Rw f xs=some vs) (ha:first++vs.toArray++cap=args) (hd:Nat.blt d n.n=true)
  (hc:Calls P F args w λe w'=>e=.returned V/\S w') (k:∀ w',S w'->WL P n ops Q rest ((d,V)::f) w') :
  WL P n ops Q (⟨some d,.call ⟨.value x,xs.toArray,ats⟩,ty,pos,aft,none⟩::rest) f w :=
 A3i (α:=Unit) (V:=λ_=>V) (S:=λ_=>S) hb hf hx ha hd (hc.mono λ_ _ h=>⟨(),h⟩) (λ_=>k)
end
end
section
theorem C7:Tryz.prog.follows .mixedOrders=true:=by kernel_rfl
theorem AN {F:FuncId} (h:(match Tryz.prog.funcs[F]? with | some fn=>!(fn.body.isNone || fn.name == "runtime.NumGoroutine") | none=>false)=true:=by kernel_rfl):Dk Tryz.prog F:=by
  cases hf:Tryz.prog.funcs[F]? with
  | none=>rw [hf] at h;cases h
  | some fn=>rw [hf] at h;exact Iz hf (by simpa using h)
theorem YK:Dk Tryz.prog 120:=Iz Tryz.func120 (by kernel_rfl)
theorem A7H:Dk Tryz.prog 16:=Iz Tryz.func16 (by kernel_rfl)
theorem A8G:Dk Tryz.prog 25:=Iz Tryz.func25 (by kernel_rfl)
theorem A7G:Dk Tryz.prog 36:=Iz Tryz.func36 (by kernel_rfl)
theorem KG:Dk Tryz.prog 43:=Iz Tryz.func43 (by kernel_rfl)
theorem XK:Dk Tryz.prog 6:=Iz Tryz.func6 (by kernel_rfl)
theorem hb8:Dk Tryz.prog 8:=Iz Tryz.func8 (by kernel_rfl)
theorem hb9:Dk Tryz.prog 9:=Iz Tryz.func9 (by kernel_rfl)
theorem EJ:(Tryz.prog.info? 37).map (·.size)=some 5:=by kernel_rfl
theorem A7X:Tryz.prog.built 37=λCl=>Instr.fill (([(0,1),(1,4)]:List (Nat × Nat)).toArray[·]?) [Value.int .i64 0,Value.int .i64 0,Value.int .i64 0,Value.int .i64 0,Value.int .i64 0].toArray Cl:=by kernel_rfl
theorem HY:(Tryz.prog.info? 41).map (·.size)=some 6:=by kernel_rfl
theorem A7W:Tryz.prog.built 41=λCl=>Instr.fill (([(0,1),(1,1),(2,1),(3,1),(4,1),(5,1)]:List (Nat × Nat)).toArray[·]?) [Value.int .i64 0,Value.int .i64 0,Value.int .i64 0,Value.int .i64 0,Value.slice none 0 0,Value.int .i64 0].toArray Cl:=by kernel_rfl
theorem Th:(Tryz.prog.info? 44).map (·.size)=some 22:=by kernel_rfl
theorem A5y:(Tryz.prog.info? 47).map (·.size)=some 3:=by kernel_rfl
theorem A7D:(Tryz.prog.info? 53).map (·.size)=some 2:=by kernel_rfl
theorem Ca:(Tryz.prog.info? 57).map (·.size)=some 2:=by kernel_rfl
theorem Ol:Tryz.prog.built 57=λCl=>Instr.fill (([(0,1),(1,1)]:List (Nat × Nat)).toArray[·]?) [Value.int .i64 0,Value.int .i64 0].toArray Cl:=by kernel_rfl
theorem A5x:(Tryz.prog.info? 61).map (·.size)=some 2:=by kernel_rfl
theorem Wf:Tryz.prog.built 61=λCl=>Instr.fill (([(0,1),(1,1)]:List (Nat × Nat)).toArray[·]?) [Value.slice none 0 0,Value.bool false].toArray Cl:=by kernel_rfl
theorem Pt:(Tryz.prog.info? 68).map (·.size)=some 25:=by kernel_rfl
theorem Ps:(Tryz.prog.info? 80).map (·.size)=some 16:=by kernel_rfl
theorem K0:(Tryz.prog.info? 94).map (·.size)=some 7:=by kernel_rfl
theorem B2:(Tryz.prog.info? 99).map (·.size)=some 6:=by kernel_rfl
theorem GQ:Tryz.prog.built 99=λCl=>Instr.fill (([(0,1),(1,1),(2,1),(3,1),(4,1),(5,1)]:List (Nat × Nat)).toArray[·]?) [Value.int .i64 0,Value.int .i64 0,Value.string ⟨#[]⟩,Value.slice none 0 0,Value.slice none 0 0,Value.slice none 0 0].toArray Cl:=by kernel_rfl
theorem A6R:Tryz.prog.built 112=λCl=>Instr.fill (([(0,1),(1,1),(2,1)]:List (Nat × Nat)).toArray[·]?) [Value.slice none 0 0,Value.int .i64 0,Value.bool false].toArray Cl:=by kernel_rfl
theorem Br:(Tryz.prog.info? 147).map (·.size)=some 3:=by kernel_rfl
theorem J7:Tryz.prog.built 147=λCl=>Instr.fill (([(0,1),(1,1),(2,1)]:List (Nat × Nat)).toArray[·]?) [Value.int .i64 0,Value.int .i64 0,Value.string ⟨#[]⟩].toArray Cl:=by kernel_rfl
theorem A6Q:Tryz.prog.built 180=λCl=>Instr.fill (([(0,1),(1,1)]:List (Nat × Nat)).toArray[·]?) [Value.slice none 0 0,Value.int .i64 0].toArray Cl:=by kernel_rfl
end
section
theorem Bl {a b:Value} (h:a=b):Ending.returned a=.returned b:=by rw [h]
def XI {α:Type} (q:α->Bool) (l:List α):Int:=if l.any q then (l.findIdx q:Int) else -1
theorem YJ {α:Type} {q:α->Bool} {l:List α} {i:Nat} (hi:i<l.length) (hn:∀ j (h:j<l.length),j<i->q l[j]=false) (hq:q l[i]=true):XI q l=(i:Int):=by
 have a:l.any q=true:=List.any_eq_true.2 ⟨_,AJ hi,hq⟩
 have b:l.findIdx q=i:=by
  refine (List.findIdx_eq hi).2 ⟨hq,λj hj=>?_⟩
  exact hn j oO hj
 rw [XI,A6 a,b]
theorem YI {α:Type} {q:α->Bool} {l:List α} (hn:∀ j (h:j<l.length),q l[j]=false):XI q l=-1:=by
 have a:¬ l.any q=true:=λh=>by
  obtain ⟨x,hx,hq⟩:=List.any_eq_true.1 h
  obtain ⟨j,hj,rfl⟩:=List.mem_iff_getElem.1 hx
  rw [hn j hj] at hq;cases hq
 rw [XI,A1 a]
theorem A4C {α:Type} (q:α->Bool) (l:List α):decide (XI q l ≥ 0)=l.any q:=by
 unfold XI
 cases l.any q <;> simp
theorem Rh {F:FuncId} (hF:Dk Tryz.prog F) (p:Option Addr) (l:List BQ) (c:Nat) (q:BQ->Bool) (w:World) (hr:Be Ed w p l) (hl:l.length<=9223372036854775807)
  (hq:∀ j (h:j<l.length) w1,Below w.heap.size w w1->Calls Tryz.prog F #[.agg (DH l[j]).toArray] w1 λe w'=>e=.returned (.bool (q l[j]))/\Below w1.heap.size w1 w') :
  Calls Tryz.prog 171 #[.slice p l.length c,.func (.func F) #[] #[]] w λe w'=>e=.returned (.int .i64 (XI q l))/\Below w.heap.size w w':=by
 have v:0<l.length->(pA p).block<w.heap.size:=λg=>hr.lt g
 refine W.e func171 rfl ntmps171 bL ?_
 have o:=EM (w.heap.size) w
 refine A4<|A9 rfl<|Ah<|A4<|A2 rfl<|A0 (.lenS G1 rfl)<|A2 rfl<|WL.e<|W.b<|Cj (α:=Nat) (λt=>[(0,.slice p l.length c),(1,.func (.func F) #[] #[]),(7,.int .i64 (l.length:Int)),(8,.int .i64 (t:Int))]) (λt w'=>Below w.heap.size w w'/\Be Ed w' p l/\t<=l.length/\∀ j (h:j<l.length),j<t->q l[j]=false) (λt=>l.length-t) (0) ⟨rfl,rfl,rfl,rfl,tT⟩ (⟨o,hr,Gg _,λj _ h=>CM h oO⟩) (λt w1 hR=>?_)
 obtain ⟨i,rfl⟩:∃ i,i=t:=⟨t,rfl⟩
 obtain ⟨hT,hb1,hi,a⟩:=hR
 refine A4<|A0 (.lss rfl rfl)<|WL.e<|Ah<|Ac rfl (λm=>?_) (λm=>?_)
 have s:=dT m
 refine W.k<|Ah<|W.b<|A4<|A2 rfl<|A9 rfl<|A4<|A2 rfl<|A2 rfl<|A2 rfl<|A0 (.ixm G1 Fs rfl rfl (hb1.isp oC) (i) (rfl) oO)<|Ag (DP CS rfl Ca hb1 (i) oC rfl)<|Y1 hF rfl rfl rfl rfl (hq i oO _ hT) (λA f=>?_)
 have u:=I8 hb1 f (λg=>hb1.lt g)
 have d:=DJ hT f
 refine WL.e<|Ac rfl (λx=>?_) (λx=>?_)
 refine A4<|A2 rfl<|A9 rfl<|Ai (AZ rfl rfl ?_)
 first
 | exact ⟨Bl (Bc _ (YJ oO a aS).symm),d⟩
 | exact ⟨Bl (Bc _ (YI (λj h=>a j h oO)).symm),d⟩
 refine W.k<|Ak<|A0 (.iis (((i+1:Nat):Int)) (.add rfl rfl (Bp oO)) oO)<|A2 rfl<|WL.e<|?_
 exact ⟨i+1,⟨rfl,rfl,rfl,rfl,tT⟩,⟨d,u,by ((try simp only) <;> omega),λj h hj=>by
  rcases Cb.1 hj with y | rfl;exact a j h y
  assumption⟩,by ((try simp only) <;> omega)⟩
 have s:=dF m
 refine C0<|A4<|A9 rfl<|Ai (AZ rfl rfl ?_)
 first
 | exact ⟨Bl (Bc _ (YJ oO a aS).symm),hT⟩
 | exact ⟨Bl (Bc _ (YI (λj h=>a j h oO)).symm),hT⟩
theorem O2 {F:FuncId} (hF:Dk Tryz.prog F) (p:Option Addr) (l:List BQ) (c:Nat) (q:BQ->Bool) (w:World) (hr:Be Ed w p l) (hl:l.length<=9223372036854775807)
  (hq:∀ j (h:j<l.length) w1,Below w.heap.size w w1->Calls Tryz.prog F #[.agg (DH l[j]).toArray] w1 λe w'=>e=.returned (.bool (q l[j]))/\Below w1.heap.size w1 w') :
  Calls Tryz.prog 143 #[.slice p l.length c,.func (.func F) #[] #[]] w λe w'=>e=.returned (.bool (l.any q))/\Below w.heap.size w w':=by
 refine W.e func143 rfl ntmps143 bL ?_
 have a:=EM (w.heap.size) w
 refine A4<|A9 rfl<|A4<|A2 rfl<|A2 rfl<|WL.c1 AN rfl rfl ((Rh hF p l c q _ hr hl hq)) (λw1 b=>?_)
 have d:=DJ a b
 refine A0 (.geq rfl rfl)<|A9 rfl<|Ai (AZ rfl rfl ?_)
 exact ⟨Bl (Bc _ (A4C q l)),d⟩
end
section
def MP (n:Int):Bool:=decide (n ≥ 65536) && decide (n<=943718400) && decide (n % 65536=0)
theorem Qt (n:Int) (h:n ≥ 65536):n.tmod 65536=n % 65536:=Int.tmod_eq_emod_of_nonneg oO
theorem V4 (n:Int) (w:World):Calls Tryz.prog 23 #[.int .i64 n] w λe w'=>e=.returned (.bool (MP n))/\w=w':=by
 refine W.e func23 rfl ntmps23 bL ?_
 refine A4<|A9 rfl<|A4<|A2 rfl<|A0 (.geq rfl rfl)<|A2 rfl<|B1 rfl rfl rfl (λb=>?_) (λb=>?_)
 have c:=dT b
 refine A2 rfl<|As b<|A0 (.leq rfl rfl)<|A0 (.pkT rfl b rfl)<|A2 rfl<|B1 rfl rfl rfl (λa=>?_) (λa=>?_)
 have d:=dT a
 refine A2 rfl<|As a<|A0 (.rem rfl rfl oO (Int.tmod_eq_emod_of_nonneg oO))<|As a<|A0 (.eql rfl rfl)<|A0 (.pkT rfl a rfl)<|A9 rfl<|Ai (AZ rfl rfl ?_)
 exact ⟨Bl (by unfold MP;have:=Qt n;simp_all <;> omega),rfl⟩
 have d:=dF a
 refine Aa a<|Aa a<|A0 (.pkF rfl a rfl)<|A9 rfl<|Ai (AZ rfl rfl ?_)
 exact ⟨Bl (by unfold MP;have:=Qt n;simp_all <;> omega),rfl⟩
 have c:=dF b
 refine Aa b<|A0 (.pkF rfl b rfl)<|A2 rfl<|Aa rfl<|Aa rfl<|Aa rfl<|A0 (.pkF rfl rfl rfl)<|A9 rfl<|Ai (AZ rfl rfl ?_)
 exact ⟨Bl (by unfold MP;have:=Qt n;simp_all <;> omega),rfl⟩
def C5 (x:BQ):Bool:=Ao x.fX && Ao x.fY
def JN (x:BQ):Bool:=decide (x.fX=0) && decide (x.fY=0)
theorem S9 (x:BQ) (w:World):Calls Tryz.prog 33 #[.agg (DH x).toArray] w λe w'=>e=.returned (.bool (C5 x))/\Below w.heap.size w w':=by
 refine W.e func33 rfl ntmps33 bL ?_
 have c:=EM (w.heap.size) w
 refine A4<|CU rfl rfl (λo m d b g l=>?_)
 have f:=uB c d g
 have k:=Cq d c.size
 refine A9 rfl<|A4<|A0 (.fa CS rfl B5 dD rfl)<|Ag (Ad (Bw _) rfl b rfl)<|WL.c1 AN rfl rfl ((H7 _ _)) (λq i=>?_)
 obtain rfl:=i
 refine A2 rfl<|B1 rfl rfl rfl (λa=>?_) (λa=>?_)
 refine A0 (.fa CS rfl B5 dD rfl)<|As a<|Ag (Ad (Bw _) rfl b rfl)<|As a<|WL.c1 AN rfl rfl ((H7 _ _)) (λs j=>?_)
 obtain rfl:=j
 refine A0 (.pkT rfl a rfl)<|A9 rfl<|Ai (AZ rfl rfl ?_)
 exact ⟨Bl (by unfold C5;simp_all),f⟩
 refine Aa a<|Aa a<|A0 (.pkF rfl a rfl)<|A9 rfl<|Ai (AZ rfl rfl ?_)
 exact ⟨Bl (by unfold C5;simp_all),f⟩
theorem Xr (x:BQ) (w:World):Calls Tryz.prog 144 #[.agg (DH x).toArray] w λe w'=>e=.returned (.bool (!C5 x))/\Below w.heap.size w w':=by
 refine W.e func144 rfl ntmps144 bL ?_
 have c:=EM (w.heap.size) w
 refine A4<|CU rfl rfl (λq o d b g m=>?_)
 have f:=uB c d g
 have l:=Cq d c.size
 refine A9 rfl<|A4<|A0 (.fa CS rfl B5 dD rfl)<|Ag (Ad (Bw _) rfl b rfl)<|WL.c1 AN rfl rfl ((IV _ _)) (λs i=>?_)
 obtain rfl:=i
 refine A0 (.not rfl)<|A2 rfl<|B1 rfl rfl rfl (λa=>?_) (λa=>?_)
 have j:=(nF a)
 refine A0 (.fa CS rfl B5 dD rfl)<|Ew rfl rfl rfl (by rw [(nF a)] <;> rfl)<|Ag (Ad (Bw _) rfl b rfl)<|Ew rfl rfl rfl (by rw [(nF a)] <;> rfl)<|WL.c1 AN rfl rfl ((IV _ _)) (λt k=>?_)
 obtain rfl:=k
 refine Ew rfl rfl rfl (by rw [(nF a)] <;> rfl)<|A0 (.not rfl)<|A0 (.pkF rfl (by rw [(nF a)] <;> rfl) rfl)<|A9 rfl<|Ai (AZ rfl rfl ?_)
 exact ⟨Bl (by unfold C5;simp_all),f⟩
 have j:=(nT a)
 refine EL rfl rfl rfl (by rw [(nT a)] <;> rfl)<|EL rfl rfl rfl (by rw [(nT a)] <;> rfl)<|EL rfl rfl rfl (by rw [(nT a)] <;> rfl)<|A0 (.pkT rfl (by rw [(nT a)] <;> rfl) rfl)<|A9 rfl<|Ai (AZ rfl rfl ?_)
 exact ⟨Bl (by unfold C5;simp_all),f⟩
def HL (k:Int):Int:=if k=1\/k=2 then 1 else if k=3 then 3 else if k=4 then 0 else -1
def Sj (k last:Int):Bool:=if k=1 then decide (last≠1) else decide (last≠0) && decide (last≠4)
theorem OP (p:Option Addr) (l:List BQ) (c:Nat) (w:World) (hr:Be Ed w p l) (hl:l.length<=9223372036854775807) :
  Calls Tryz.prog 104 #[.slice p l.length c] w λe w'=>e=.returned (.bool (l.all C5))/\Below w.heap.size w w':=by
 refine W.e func104 rfl ntmps104 bL ?_
 have a:=EM (w.heap.size) w
 refine A4<|A9 rfl<|A4<|A2 rfl<|WL.c1 AN rfl rfl ((O2 AN p l c (λx=>!C5 x) _ hr hl (λj h f _=>Xr _ _))) (λf b=>?_)
 have d:=DJ a b
 refine A0 (.not rfl)<|A9 rfl<|Ai (AZ rfl rfl ?_)
 exact ⟨Bl (by rw [List.all_eq_not_any_not]),d⟩
end
section
theorem A3V {w:World} {b:Nat} {t:TypeId} {s:CK} (h:AF w b (JG s).toArray t) (a:Nat) (ha:a<=3) :
  Be Ed w (some (if 3=a then (⟨b,1,none⟩:Addr) else (⟨b,1,none⟩:Addr).add (a * 2))) ([s.fP_0,s.fP_1,s.fP_2].drop a):=by
 refine FZ (λ_=>rfl) λk v hk=>?_
 have c:∀ i,w.cell? ⟨b,1+i+k,none⟩=((JG s).drop (1+i))[k]?:=λi=>by rw [h.cell,List.getElem?_drop];simp
 obtain rfl | rfl | rfl | rfl:a=0\/a=1\/a=2\/a=3:=by omega
 ·
  show w.cell? (((⟨b,1,none⟩:Addr).add (0 * 2)).add k)=_
  rw [EC,EC,c];exact hk
 ·
  show w.cell? (((⟨b,1,none⟩:Addr).add (1 * 2)).add k)=_
  rw [EC,EC,c];exact hk
 ·
  show w.cell? (((⟨b,1,none⟩:Addr).add (2 * 2)).add k)=_
  rw [EC,EC,c];exact hk
 · simp [Fe.flat] at hk
def Ij (s:CK) (last:Int):Bool:=decide (0<=HL s.fKind) && Sj s.fKind last && [s.fP_0,s.fP_1,s.fP_2].all C5 && ([s.fP_0,s.fP_1,s.fP_2].drop (HL s.fKind).toNat).all JN
def E4:Int->List CK->Bool
 | _,[]=>true
 | k,s::r=>Ij s k && E4 s.fKind r
def Fk (l:List CK):Bool:=decide (l.length<=4096) && E4 0 l
theorem WU (k:Int) (l:List CK) (i:Nat) (h:i<l.length):E4 k (l.drop i)=(Ij l[i] k && E4 l[i].fKind (l.drop (i+1))):=by rw [Ap h];rfl
end
section
open Go.RowKit Go.WideShapes Go.ChangeShapes
theorem MY:∀ (xs ys:List Int),xs.length=ys.length->((List.range xs.length).all λi=>xs.getD i 0 == ys.getD i 0)=(xs == ys)
 | [],[],_=>rfl
 | x::xs,y::ys,h=>by
  have ih:=MY xs ys (by simpa using h)
  rw [A8,List.range_succ_eq_map,Cw,List.all_map]
  simp only [List.getD_cons_zero,Function.comp_def,List.getD_cons_succ,ih]
  simp [List.cons_beq_cons]
 | [],_::_,h=>by simp at h
 | _::_,[],h=>by simp at h
def Jz (n:Int):Value:=.int .i64 n
theorem GK {P:Program} (w:World) (d:Nat) (t e:TypeId) (n:Nat) (ht:P.underlying t=some (.array n e)) (he:P.underlying e=some (.int .i64)) (hsz:∀ w,(sizeOf e).run P w=.ok 1 w)
  (xs ys:List Int) (hx:xs.length=n) (hy:ys.length=n) :
  (Op.equalIn (d+2) t (.agg (xs.map Jz).toArray) (.agg (ys.map Jz).toArray)).run P w=.ok (xs == ys) w:=by
 rw [<- MY xs ys (hx.trans hy.symm),hx,List.range_eq_range',Op.equalIn]
 simp only [BB,B8 ht,B6,hsz,Std.Legacy.Range.forIn_eq_forIn_range',Std.Legacy.Range.size,Nat.sub_zero,Nat.add_sub_cancel,Nat.div_one]
 have hl:∀ i∈List.range' 0 n 1,i<n:=λi hi=>by simpa using (List.mem_range'_1.1 hi).2
 generalize List.range' 0 n 1=l at hl ⊢
 induction l with
 | nil=>simp
 | cons i l ih =>
  have hi:i<n:=hl i (by simp)
  have px:(part e (xs.map Jz).toArray (i * 1)).run P w=.ok (Jz (xs.getD i 0)) w:=by
   simp [part,isAgg,B8 he,List.getD,A7 (show i<xs.length by omega)]
  have py:(part e (ys.map Jz).toArray (i * 1)).run P w=.ok (Jz (ys.getD i 0)) w:=by
   simp [part,isAgg,B8 he,List.getD,A7 (show i<ys.length by omega)]
  have pe:(Op.equalIn (d+1) e (Jz (xs.getD i 0)) (Jz (ys.getD i 0))).run P w=.ok (xs.getD i 0 == ys.getD i 0) w:=by
   rw [Jz,Jz,run_equalIn_int w d e .i64 .i64 _ _ he]
  simp only [List.forIn_cons,BB,px,py,pe,B6,Cw]
  cases hb:(xs.getD i 0 == ys.getD i 0)
  · simp
  ·
   simp only [Bool.not_true,By,if_false,CX,B6,Cx]
   exact ih λj hj=>hl j (by simp [hj])
theorem TT {P:Program} (w:World) (t e:TypeId) (n:Nat) (ht:P.underlying t=some (.array n e)) (he:P.underlying e=some (.int .i64)) (hsz:∀ w,(sizeOf e).run P w=.ok 1 w)
  (xs ys:List Int) (hx:xs.length=n) (hy:ys.length=n) :
  (binOp .neq t (.agg (xs.map Jz).toArray) (.agg (ys.map Jz).toArray)).run P w=.ok (.bool (!(xs == ys))) w:=by
 rw [run_neq_struct,GK w 9998 t e n ht he hsz xs ys hx hy]
 rfl
section
variable {P:Program} {n:Sh} {f:Fr}
theorem Bx.ixr {tx e:TypeId} {x y:Operand} {p:Addr} {m sz:Nat} {i:Int} {k:IntKind} (hu:P.underlying tx=some (.array m e)) (hs:∀ w,(sizeOf e).run P w=.ok sz w) (hx:D0 f x=some (.pointer (some p)))
  (hi:D0 f y=some (.int k i)) (j:Nat) (e':i=j) (hj:j<m):Bx P (.indexAddr tx x y) f (.pointer (some (p.add (j * sz)))):=λρ hρ d ty pos aft g w=>by
 subst e'
 simp [execOp,Instr.indexAt,Instr.sureAddr,hρ _ _ hx,hρ _ _ hi,asIntOf,B8 hu,hs,hj]
theorem Bx.ixr1 {tx e:TypeId} {x y:Operand} {p:Addr} {m:Nat} {i:Int} {k:IntKind} (hu:P.underlying tx=some (.array m e)) (hs:∀ w,(sizeOf e).run P w=.ok 1 w) (hx:D0 f x=some (.pointer (some p)))
  (hi:D0 f y=some (.int k i)) (j:Nat) (e':i=j) (hj:j<m):Bx P (.indexAddr tx x y) f (.pointer (some (p.add j))):=by
 have h:=Bx.ixr (P:=P) (f:=f) hu hs hx hi j e' hj
 rwa [Nat.mul_one] at h
theorem Ck {α:Type} {L:Fe α} {t tb:TypeId} {x:Operand} {b o:Nat} {cs:Array Value} {w:World} {dd:TypeDesc} (hu:P.underlying t=some dd) (hdd:dd.isRow=true) (hi:(P.info? t).map (·.size)=some L.m) (hb:AF w b cs tb) (y:α)
  (e:(cs.toList.drop o).take L.m=L.V y) (hx:D0 f x=some (.pointer (some ⟨b,o,none⟩))):Rd P (.load t x) f w (.agg (L.V y).toArray):=by
 have hr:Be L w (some ⟨b,o,none⟩) [y]:=by
  refine FZ (λ_=>rfl) λk v hk=>?_
  show w.cell? ((⟨b,o,none⟩:Addr).add k)=_
  have hk':(L.V y)[k]?=some v:=by simpa [Fe.flat] using hk
  have a:k<L.m:=by
   rcases BU k L.m with h | h
   · exact h
   · rw [AK (by rw [L.len];exact h)] at hk';cases hk'
  rw [EC,hb.cell,<- hk',<- e,List.getElem?_take_of_lt a,List.getElem?_drop]
  simp
 have h:=DP (P:=P) (f:=f) (x:=x) hu hdd hi hr 0 (by simp) (by
  rw [hx];show _=some (Value.pointer (some ((⟨b,o,none⟩:Addr).add (0 * L.m))));rw [EC,Nat.zero_mul,Nat.add_zero])
 exact h
theorem A73 {α β:Type} {L:Fe α} {L':Fe β} {t:TypeId} {x:Operand} {p:Option Addr} {l:List α} {w:World} {dd:TypeDesc} (hu:P.underlying t=some dd) (hdd:dd.isRow=true) (hi:(P.info? t).map (·.size)=some L'.m) (hb:Be L w p l) (k:Nat) (hk:k<l.length) (o:Nat) (y:β)
  (e:((L.V l[k]).drop o).take L'.m=L'.V y) (hx:D0 f x=some (.pointer (some (((pA p).add (k * L.m)).add o)))):Rd P (.load t x) f w (.agg (L'.V y).toArray):=by
 have hr:Be L' w (some (((pA p).add (k * L.m)).add o)) [y]:=by
  refine FZ (λ_=>rfl) λj v hj=>?_
  show w.cell? ((((pA p).add (k * L.m)).add o).add j)=_
  have hj':(L'.V y)[j]?=some v:=by simpa [Fe.flat] using hj
  have a:j<L'.m:=by
   rcases BU j L'.m with h | h
   · exact h
   · rw [AK (by rw [L'.len];exact h)] at hj';cases hj'
  have b:o+j<L.m:=by
   rcases BU (o+j) L.m with h | h
   · exact h
   · rw [<- e,List.getElem?_take_of_lt a,List.getElem?_drop,AK (by rw [L.len];exact h)] at hj';cases hj'
  rw [Jl,hb.field k hk (o+j) b,<- hj',<- e,List.getElem?_take_of_lt a,List.getElem?_drop]
 have h:=DP (P:=P) (f:=f) (x:=x) hu hdd hi hr 0 (by simp) (by
  rw [hx];show _=some (Value.pointer (some ((((pA p).add (k * L.m)).add o).add (0 * L'.m))));rw [Nat.zero_mul,Jl,Jl,Nat.add_zero])
 exact h
end
end
section
def okP (s:CK) (j:Nat) (hj:j < [s.fP_0,s.fP_1,s.fP_2].length):Bool:=C5 ([s.fP_0,s.fP_1,s.fP_2][j]) && (decide ((j:Int)<HL s.fKind) || JN ([s.fP_0,s.fP_1,s.fP_2][j]))
theorem Qw (k:Int):HL k=0\/HL k=1\/HL k=3\/HL k=-1:=by unfold HL;split;simp;split;simp;split <;> simp
theorem A6g {s:CK} {j:Nat} {k:Int} (hj:j < [s.fP_0,s.fP_1,s.fP_2].length) (h:okP s j hj=false):Ij s k=false:=by
 have a:=Qw s.fKind
 have hj':j<3:=hj
 unfold okP at h;unfold Ij
 obtain rfl | rfl | rfl:j=0\/j=1\/j=2:=by omega
 all_goals (rcases a with e | e | e | e <;> rw [e] at h ⊢ <;> simp at h ⊢ <;> (intros;simp_all))
theorem A4f {s:CK} {k:Int} (hn:0<=HL s.fKind) (h:∀ j (hj:j < [s.fP_0,s.fP_1,s.fP_2].length),okP s j hj=true):Ij s k=Sj s.fKind k:=by
 have d:=Qw s.fKind
 have a:=h 0 (by simp);have b:=h 1 (by simp);have c:=h 2 (by simp)
 unfold okP at a b c;unfold Ij
 rcases d with e | e | e | e <;> rw [e] at a b c hn ⊢ <;> simp at a b c hn ⊢ <;> simp_all
def Lr (l:List CK) (i:Nat):Int:=if i=0 then 0 else ((l[i-1]?).map CK.fKind).getD 0
theorem Rj {l:List CK} {i:Nat} (h:i<l.length):Lr l (i+1)=l[i].fKind:=by unfold Lr;rw [A1 oO];simp [A7 h]
theorem A0f {l:List CK} {i:Nat} (h:i<l.length) (h0:0<i):Lr l i=(l[i-1]'oO).fKind:=by
 obtain ⟨j,rfl⟩:∃ j,i=j+1:=⟨i-1,by omega⟩
 exact Rj oO
theorem A4K (k last:Int):Sj k last=(!(decide (k=1) && decide (last=1)) && !(!decide (k=1) && (decide (last=0) || decide (last=4)))):=by
 unfold Sj;by_cases h:k=1 <;> simp [h]
theorem Qv {w:World} {b:Nat} {t:TypeId} {s:CK} (h:AF w b (JG s).toArray t):Be Ed w (some ⟨b,1,none⟩) [s.fP_0,s.fP_1,s.fP_2]:=A3V h 0 dD
theorem MQ (p : Option Addr) (l : List CK) (c : Nat) (w : World) (hr : Be Fq w p l) (hl : l.length ≤ 9223372036854775807) :
    Calls Tryz.prog 20 #[.slice p l.length c] w λe w'=>e=.returned (.bool (Fk l))/\Below w.heap.size w w':=by
  have aA:0<l.length->(pA p).block<w.heap.size:=λs=>hr.lt s
  refine W.e func20 rfl ntmps20 bL ?_;have a4:=EM (w.heap.size) w;refine A4<|A9 rfl<|Ah<|A4<|A2 rfl<|A0 (.lenS Fj rfl)<|A0 (.gtr rfl rfl)<|WL.e<|Ac rfl (λh1=>?_) (λh1=>?_)
  · have am := dT h1
    refine A4<|A9 rfl<|Ai (AZ rfl rfl ?_);exact ⟨Bl (by unfold Fk;rw [Al oO,A5O]),a4⟩
  have am:=dF h1;have h4:l.length<=4096:=by omega
  refine W.k<|Ah<|A4<|A9 rfl<|W.b<|Cj (α:=Nat) (λt=>[(0,.slice p l.length c),(3,.int .i64 (t:Int))]) (λt w'=>Below w.heap.size w w'/\Be Fq w' p l/\t<=l.length/\E4 (Lr l t) (l.drop t)=E4 0 l) (λt=>l.length-t) (0) ⟨rfl,rfl,tT⟩ (⟨a4,hr,Gg _,rfl⟩) (λt G hR=>?_);obtain ⟨i,rfl⟩:∃ i,i=t:=⟨t,rfl⟩;obtain ⟨hT,hb1,hi,hz⟩:=hR;refine Ah<|A4<|A2 rfl<|A2 rfl<|A0 (.lenS Fj rfl)<|A0 (.lss rfl rfl)<|WL.e<|Ac rfl (λH=>?_) (λH=>?_)
  · have an := dT H
    have J:i<l.length:=by omega
    have x:=WU (Lr l i) l i J;refine W.k<|Ah<|W.b<|A4<|A2 rfl<|A2 rfl<|A0 (.ixm Fj Kq rfl rfl (hb1.isp oC) (i) (rfl) oO)<|Ag (DP JF rfl K0 hb1 (i) oC rfl)<|BV Ov rfl (λF aD K a8 L aB=>?_);have P:=λs=>K▸hb1.lt s
    have ao:=Be.upd hb1 L (λs=>Js (P s));have ap:=uB hT K L;have az:=Cq K hT.size;refine Az rfl rfl a8 K0 rfl rfl (λw7 Q T aC=>?_);have aq:=Be.upd ao T (λs=>Js (P s));have a5:=CN ap oO T;refine WL.e<|A4<|A9 rfl<|D4 (α:=Unit) (λt=>[(0,.slice p l.length c),(3,.int .i64 (i:Int)),(4,.pointer (some ⟨F,0,none⟩)),(5,.int .i64 (HL l[i].fKind))]) (λt w'=>w7=w'/\0<=HL l[i].fKind) ?_ (λt G hR=>?_);refine A4<|A0 (.fa JF rfl B5 dD rfl)<|Ag (Ad (Bw _) rfl Q rfl)<|WL.e<|W.b<|Ah<|A4<|A0 (.eql rfl rfl)<|A9 rfl<|Ac rfl (λC=>?_) (λC=>?_)
    · have a9 := dT C
      refine W.k<|DR rfl C<|W.k ?_
      (have e : HL l[i].fKind = 1 := by unfold HL; first | rw [A6 (.inl aS)] | rw [A6 (.inr aS)]
       exact ⟨(),⟨rfl,rfl,rfl,LA rfl e.symm,tT⟩,rfl,by omega⟩)
    have a9:=dF C;refine Ak<|A0 (.eql rfl rfl)<|A9 rfl<|Ac rfl (λV=>?_) (λV=>?_)
    · have aa := dT V
      refine W.k ?_
      (have e : HL l[i].fKind = 1 := by unfold HL; first | rw [A6 (.inl aS)] | rw [A6 (.inr aS)]
       exact ⟨(),⟨rfl,rfl,rfl,LA rfl e.symm,tT⟩,rfl,by omega⟩)
    have aa:=dF V;refine A4<|A0 (.eql rfl rfl)<|A9 rfl<|Ac rfl (λX=>?_) (λX=>?_)
    · have ab := dT X
      refine Ak<|A9 rfl ?_
      (have e : HL l[i].fKind = 3 := by unfold HL; rw [A1 oO, A6 aS]
       exact ⟨(),⟨rfl,rfl,rfl,LA rfl e.symm,tT⟩,rfl,by omega⟩)
    have ab:=dF X;refine A4<|A0 (.eql rfl rfl)<|A9 rfl<|Ac rfl (λa0=>?_) (λa0=>?_)
    · have ac := dT a0
      refine Ak<|A9 rfl ?_
      (have e : HL l[i].fKind = 0 := by unfold HL; rw [A1 oO, A1 oO, A6 aS]
       exact ⟨(),⟨rfl,rfl,rfl,LA rfl e.symm,tT⟩,rfl,by omega⟩)
    have ac:=dF a0;refine A4<|A9 rfl<|Ai (AZ rfl rfl ?_);exact ⟨Bl (by
      have e:HL l[i].fKind=-1:=by unfold HL;rw [A1 oO,A1 oO,A1 oO]
      unfold Fk;rw [<- hz,x];unfold Ij;rw [e];simp),a5⟩
    obtain ⟨rfl,ar⟩:=hR;refine Ah<|A4<|A9 rfl<|W.b<|Cj (α:=Nat) (λt=>[(0,.slice p l.length c),(3,.int .i64 (i:Int)),(4,.pointer (some ⟨F,0,none⟩)),(5,.int .i64 (HL l[i].fKind)),(6,.int .i64 (t:Int))]) (λt w'=>Below w.heap.size w w'/\Be Fq w' p l/\AF w' F (JG l[i]).toArray 94/\t<=3/\∀ j (hj:j < [l[i].fP_0,l[i].fP_1,l[i].fP_2].length),j<t->okP l[i] j hj=true) (λt=>3-t) (0) ⟨rfl,rfl,rfl,rfl,rfl,tT⟩ (⟨a5,aq,Q,by decide,λj _ h=>CM h oO⟩) (λt G hR=>?_);obtain ⟨k,rfl⟩:∃ k,k=t:=⟨t,rfl⟩;obtain ⟨D,hb2,E,aE,a1⟩:=hR;refine Ah<|A4<|A2 rfl<|A0 (.lss rfl rfl)<|WL.e<|Ac rfl (λa2=>?_) (λa2=>?_)
    · have ad := dT a2
      have a6:k < [l[i].fP_0,l[i].fP_1,l[i].fP_2].length:=by simp;omega
      refine W.k<|Ah<|W.b<|D4 (α:=Unit) (λt=>[(0,.slice p l.length c),(3,.int .i64 (i:Int)),(4,.pointer (some ⟨F,0,none⟩)),(5,.int .i64 (HL l[i].fKind)),(6,.int .i64 (k:Int)),(60,.bool (!okP l[i] k a6))]) (λt w'=>Below w.heap.size w w'/\Be Fq w' p l/\AF w' F (JG l[i]).toArray 94) ?_ (λt G hR=>?_);refine Ak<|A2 rfl<|A0 (.fa JF rfl sizeOf92 dD rfl)<|A0 (.ixr MH Fs rfl rfl (k) (rfl) oO)<|Ag (DP CS rfl Ca (Qv E) (k) oC rfl)<|WL.c1 AN rfl rfl ((S9 ([l[i].fP_0,l[i].fP_1,l[i].fP_2][k]) _)) (λaF y=>?_);have m:=E.bl y;have u:=I8 hb2 y (λs=>hb2.lt s);have v:=DJ D y;refine A0 (.not rfl)<|A2 rfl<|B1 rfl rfl rfl (λd=>?_) (λd=>?_)
      · have ae := (nF d)
        refine A2 rfl<|Ew rfl rfl rfl (by rw [(nF d)] <;> rfl)<|A2 rfl<|Ew rfl rfl rfl (by rw [(nF d)] <;> rfl)<|A0 (.geq rfl rfl)<|Ew rfl rfl rfl (by rw [(nF d)] <;> rfl)<|A2 rfl<|B1 rfl rfl rfl (λa=>?_) (λa=>?_)
        · have af := dT a
          refine A2 rfl<|As a<|A0 (.fa JF rfl sizeOf92 dD rfl)<|As a<|A0 (.ixr MH Fs rfl rfl (k) (rfl) oO)<|As a<|A0 (.fa CS rfl B5 dD rfl)<|As a<|Ag (AO (Bw _) rfl (((Qv m).field (k) oC 0 dD).trans rfl))<|As a<|A0 (.neq rfl rfl)<|As a<|A2 rfl<|B1 rfl rfl rfl (λf=>?_) (λf=>?_)
          · have ag := JZ f
            refine A2 rfl<|As f<|A0 (.fa JF rfl sizeOf92 dD rfl)<|As f<|A0 (.ixr MH Fs rfl rfl (k) (rfl) oO)<|As f<|A0 (.fa CS rfl B5 dD rfl)<|As f<|Ag (AO (Bw _) rfl (((Qv m).field (k) oC 1 dD).trans rfl))<|As f<|A0 (.neq rfl rfl)<|As a<|A0 (.pkF rfl f rfl)<|Ew rfl rfl rfl (by rw [(nF d)] <;> rfl)<|A0 (.pkT rfl a rfl)<|A0 (.pkF rfl (by rw [(nF d)] <;> rfl) rfl)<|WL.e<|?_;exact ⟨(),⟨rfl,rfl,rfl,rfl,rfl,Cy rfl (by unfold okP JN;simp_all <;> omega),tT⟩,v,u,m⟩
          have ag:=JY f;refine Aa f<|Aa f<|Aa f<|Aa f<|Aa f<|As a<|A0 (.pkT rfl f rfl)<|Ew rfl rfl rfl (by rw [(nF d)] <;> rfl)<|A0 (.pkT rfl a rfl)<|A0 (.pkF rfl (by rw [(nF d)] <;> rfl) rfl)<|WL.e<|?_;exact ⟨(),⟨rfl,rfl,rfl,rfl,rfl,Cy rfl (by unfold okP JN;simp_all <;> omega),tT⟩,v,u,m⟩
        have af:=dF a;refine Aa a<|Aa a<|Aa a<|Aa a<|Aa a<|Aa a<|FN<|FN<|FN<|FN<|FN<|FN<|Aa a<|Ew rfl rfl rfl (by rw [(nF d)] <;> rfl)<|A0 (.pkF rfl a rfl)<|A0 (.pkF rfl (by rw [(nF d)] <;> rfl) rfl)<|WL.e<|?_;exact ⟨(),⟨rfl,rfl,rfl,rfl,rfl,Cy rfl (by unfold okP JN;simp_all <;> omega),tT⟩,v,u,m⟩
      have ae:=(nT d);refine EL rfl rfl rfl (by rw [(nT d)] <;> rfl)<|EL rfl rfl rfl (by rw [(nT d)] <;> rfl)<|EL rfl rfl rfl (by rw [(nT d)] <;> rfl)<|FN<|FN<|FN<|FN<|FN<|FN<|FN<|FN<|FN<|FN<|FN<|FN<|FN<|FN<|EL rfl rfl rfl (by rw [(nT d)] <;> rfl)<|A0 (.pkT rfl (by rw [(nT d)] <;> rfl) rfl)<|WL.e<|?_;exact ⟨(),⟨rfl,rfl,rfl,rfl,rfl,Cy rfl (by unfold okP JN;simp_all <;> omega),tT⟩,v,u,m⟩;obtain ⟨a7,au,av⟩:=hR;refine Ac rfl (λaw=>?_) (λaw=>?_);refine A4<|A9 rfl<|Ai (AZ rfl rfl ?_);exact ⟨Bl (by unfold Fk;rw [<- hz,x,A6g (k:=Lr l i) a6 (by simp_all),A5O,N0]),a7⟩;refine W.k<|Ak<|A2 rfl<|A0 (.iis (((k+1:Nat):Int)) (.add rfl rfl (Bp oO)) oO)<|A9 rfl ?_;exact ⟨k+1,⟨rfl,rfl,rfl,rfl,rfl,tT⟩,⟨a7,au,av,by ((try simp only) <;> omega),λj hj h=>by
        rcases Cb.1 h with H | rfl
        · exact a1 j hj H
        · simp_all⟩,by ((try simp only) <;> omega)⟩
    have ad:=dF a2;have A:=A4f (k:=Lr l i) ar (λj hj=>a1 j hj (by simp at hj;omega));refine C0<|A4<|A9 rfl<|D4 (α:=Unit) (λt=>[(0,.slice p l.length c),(3,.int .i64 (i:Int)),(4,.pointer (some ⟨F,0,none⟩)),(7,.int .i64 (Lr l i))]) (λt w'=>G=w') ?_ (λt G hR=>?_);refine A4<|A2 rfl<|A0 (.gtr rfl rfl)<|WL.e<|Ac rfl (λa3=>?_) (λa3=>?_)
    · have ah := dT a3
      refine Ak<|A2 rfl<|A2 rfl<|A0 (.iis (((i-1:Nat):Int)) (.sub rfl rfl (Bp oO)) oO)<|A0 (.ixm Fj Kq rfl rfl (hb2.isp oC) (i-1) (rfl) oO)<|A0 (.fa JF rfl B5 dD rfl)<|Ag (AO (Bw _) rfl ((hb2.field (i-1) oC 0 dD).trans rfl))<|A9 rfl ?_;exact ⟨(),⟨rfl,rfl,rfl,LA rfl (A0f J oO).symm,tT⟩,rfl⟩
    have ah:=dF a3;refine W.k ?_;exact ⟨(),⟨rfl,rfl,rfl,LA rfl (by rw [show i=0 by omega];rfl),tT⟩,rfl⟩;obtain rfl:=hR;refine Ah ?_;have B:=A4K l[i].fKind (Lr l i);refine Fd 75 (decide (l[i].fKind=1) && decide (Lr l i=1)) ?_ ?_;refine Ak<|A0 (.fa JF rfl B5 dD rfl)<|Ag (Ad (Bw _) rfl E rfl)<|A0 (.eql rfl rfl)<|A2 rfl<|B1 rfl rfl rfl (λo=>?_) (λo=>?_)
    · have ai := dT o
      refine A2 rfl<|As o<|A0 (.eql rfl rfl)<|A0 (.pkT rfl o rfl)<|WL.e<|?_;exact ⟨G8 (Cy rfl (by simp_all)),rfl⟩
    have ai:=dF o;refine Aa o<|A0 (.pkF rfl o rfl)<|WL.e<|?_;exact ⟨G8 (Cy rfl (by simp_all)),rfl⟩;refine Ac rfl (λax=>?_) (λax=>?_);refine A4<|A9 rfl<|Ai (AZ rfl rfl ?_);exact ⟨Bl (by unfold Fk;rw [<- hz,x,A,B];first | (simp_all;done) | (simp_all <;> (intros;omega))),D⟩;refine W.k<|Fd 86 (!decide (l[i].fKind=1) && (decide (Lr l i=0) || decide (Lr l i=4))) ?_ ?_;refine Ak<|A0 (.fa JF rfl B5 dD rfl)<|Ag (Ad (Bw _) rfl E rfl)<|A0 (.neq rfl rfl)<|A2 rfl<|B1 rfl rfl rfl (λg=>?_) (λg=>?_)
    · have aj := JY g
      refine A2 rfl<|As g<|A0 (.eql rfl rfl)<|As g<|A2 rfl<|B1 rfl rfl rfl (λq=>?_) (λq=>?_)
      · have ak := dF q
        refine A2 rfl<|As q<|A0 (.eql rfl rfl)<|As g<|A0 (.pkF rfl q rfl)<|A0 (.pkT rfl g rfl)<|WL.e<|?_;exact ⟨G8 (Cy rfl (by simp_all)),rfl⟩
      have ak:=dT q;refine Aa q<|As g<|A0 (.pkT rfl q rfl)<|A0 (.pkT rfl g rfl)<|WL.e<|?_;exact ⟨G8 (Cy rfl (by simp_all)),rfl⟩
    have aj:=JZ g;refine Aa g<|Aa g<|FN<|FN<|Aa g<|A0 (.pkF rfl g rfl)<|WL.e<|?_;exact ⟨G8 (Cy rfl (by simp_all)),rfl⟩;refine Ac rfl (λay=>?_) (λay=>?_);refine A4<|A9 rfl<|Ai (AZ rfl rfl ?_);exact ⟨Bl (by unfold Fk;rw [<- hz,x,A,B];first | (simp_all;done) | (simp_all <;> (intros;omega))),D⟩;refine W.k<|Ak<|A2 rfl<|A0 (.iis (((i+1:Nat):Int)) (.add rfl rfl (Bp oO)) oO)<|A9 rfl ?_;exact ⟨i+1,⟨rfl,rfl,tT⟩,⟨D,hb2,by ((try simp only) <;> omega),by rw [Rj J,<- hz,x,A,B];simp_all <;> (intros;omega)⟩,by ((try simp only) <;> omega)⟩
  have an:=dF H;refine C0<|A4<|A9 rfl<|Ai (AZ rfl rfl ?_);exact ⟨Bl (by unfold Fk;rw [<- hz,B9 oO,Aj h4];rfl),hT⟩
end
section
def JX (x:Dz):Bool:=decide (x.fWidth=0) && decide (x.fCap=0) && decide (x.fJoin=0) && decide (x.fMiter=0) && decide ((x.fDash.length:Int)=0) && decide (x.fPhase=0)
def Kv (x:Dz):Bool:=decide (x.fWidth<0) || !Ao x.fWidth || decide (x.fCap<0) || decide (x.fCap > 2) || decide (x.fJoin<0) || decide (x.fJoin > 2) || decide (x.fMiter<65536) || !Ao x.fMiter || decide (x.fPhase<0) || !Ao x.fPhase || decide ((x.fDash.length:Int) > 11)
def Id (n:Int):Bool:=decide (0<=n) && Ao n
def Kw (x:Dz):Bool:=!Kv x && x.fDash.all Id && (x.fDash.isEmpty || x.fDash.any λn=>decide (0<n))
def A5V (l:List Int):Int:=l.foldl (· + ·) 0
theorem UN (l:List Int):A5V l=l.sum:=by
 unfold A5V;rw [List.sum_eq_foldl]
theorem OD:∀ (l:List Int),(∀ n∈l,Id n=true)->0<=l.sum/\l.sum<=2147483647 * (l.length:Int)/\(0<l.sum↔(l.any λn=>decide (0<n))=true)
 | [],_=>by simp
 | n::l,h=>by
  have h1:=OD l λm hm=>h m (List.mem_cons_of_mem _ hm)
  have h2:=h n (List.mem_cons_self ..)
  simp only [Id,Ao,A3,Ab] at h2
  obtain ⟨a,b,c⟩:=h1
  refine ⟨by simp only [List.sum_cons];omega,by simp only [List.sum_cons,A8];omega,?_⟩
  simp only [List.sum_cons,List.any_cons,Bo,Ab]
  rw [<- c];omega
theorem Ut {α:Type} {q:α->Bool} {l:List α} (h:∀ j (hj:j<l.length),q l[j]=true):l.all q=true:=Au.2 λx hx=>by
 obtain ⟨j,hj,rfl⟩:=List.mem_iff_getElem.1 hx
 exact h j hj
theorem Qb {α:Type} {q:α->Bool} {l:List α} {j:Nat} (hj:j<l.length) (h:q l[j]=false):l.all q=false:=by
 rw [Ka];intro e
 rw [Au.1 e _ (AJ hj)] at h;cases h
end
section
theorem CJ:(Tryz.prog.info? 42).map (·.size)=some 6:=by kernel_rfl
def Cl (c:C6):List Int:=[c.fPart_0,c.fPart_1,c.fPart_2,c.fPart_3]
theorem Mr {w:World} {b:Nat} {t:TypeId} {c:C6} (h:AF w b (DI c).toArray t):AS DW w (some ⟨b,1,none⟩) (Cl c):=⟨λ_=>rfl,λj hj=>by
 show w.cell? ((⟨b,1,none⟩:Addr).add j)=_
 have h':j<4:=hj
 rw [EC,h.cell]
 obtain rfl | rfl | rfl | rfl:j=0\/j=1\/j=2\/j=3:=by omega
 all_goals rfl⟩
def J1 (n:Int):Bool:=!(!decide (n=1) && !decide (n=3) && !decide (n=4))
def J9 (c:C6) (i:Nat) (h:i<(Cl c).length):Bool:=decide (0<=(Cl c)[i]) && decide ((Cl c)[i]<=65536) && (decide ((i:Int)<c.fSpace) || decide ((Cl c)[i]=0))
def Fc (c:C6):Bool:=J1 c.fSpace && (J9 c 0 (by simp [Cl]) && J9 c 1 (by simp [Cl]) && J9 c 2 (by simp [Cl]) && J9 c 3 (by simp [Cl]))
theorem A0D {c:C6} {i:Nat} (h:i<(Cl c).length) (e:J9 c i h=false):Fc c=false:=by
 have h':i<4:=h
 unfold Fc
 obtain rfl | rfl | rfl | rfl:i=0\/i=1\/i=2\/i=3:=by omega
 all_goals (rw [e];simp)
theorem XV {c:C6} (hs:J1 c.fSpace=true) (h:∀ i (hi:i<(Cl c).length),J9 c i hi=true):Fc c=true:=by
 unfold Fc;rw [hs,h,h,h,h];rfl
theorem TW (x:Dz) (w:World) (hr:AS DW w x.pfDash x.fDash):Calls Tryz.prog 22 #[.agg (El x).toArray] w λe w'=>e=.returned (.bool (Kw x))/\Below w.heap.size w w':=by
 have ah:0<x.fDash.length->(pA x.pfDash).block<w.heap.size:=λF=>hr.lt F
 refine W.e func22 rfl ntmps22 bL ?_
 have L:=EM (w.heap.size) w
 refine A4<|CU rfl rfl (λb1 a7 G a H ai=>?_)
 have Q:=λF=>G▸hr.lt F
 have y:=AS.upd hr H (λF=>Js (Q F))
 have J:=uB L G H
 have ag:=Cq G L.size
 refine A9 rfl<|Ah<|Fd 61 (Kv x) ?_ ?_
 refine Ak<|A0 (.fa CT rfl B5 dD rfl)<|Ag (Ad (Bw _) rfl a rfl)<|A0 (.lss rfl rfl)<|A2 rfl<|B1 rfl rfl rfl (λv=>?_) (λv=>?_)
 have a8:=dF v
 refine A0 (.fa CT rfl B5 dD rfl)<|As v<|Ag (Ad (Bw _) rfl a rfl)<|As v<|WL.c1 AN rfl rfl ((H7 _ _)) (λw6 a9=>?_)
 obtain rfl:=a9
 refine As v<|A0 (.not rfl)<|A0 (.pkF rfl v rfl)<|A2 rfl<|B1 rfl rfl rfl (λB=>?_) (λB=>?_)
 have aa:=(nF B)
 refine A0 (.fa CT rfl B5 dD rfl)<|Ew rfl rfl rfl (by rw [(nF B)] <;> rfl)<|Ag (Ad (Bw _) rfl a rfl)<|Ew rfl rfl rfl (by rw [(nF B)] <;> rfl)<|A0 (.lss rfl rfl)<|A0 (.pkF rfl (by rw [(nF B)] <;> rfl) rfl)<|A2 rfl<|B1 rfl rfl rfl (λC=>?_) (λC=>?_)
 have ab:=dF C
 refine A0 (.fa CT rfl B5 dD rfl)<|As C<|Ag (Ad (Bw _) rfl a rfl)<|As C<|A0 (.gtr rfl rfl)<|A0 (.pkF rfl C rfl)<|A2 rfl<|B1 rfl rfl rfl (λD=>?_) (λD=>?_)
 have ac:=dF D
 refine A0 (.fa CT rfl B5 dD rfl)<|As D<|Ag (Ad (Bw _) rfl a rfl)<|As D<|A0 (.lss rfl rfl)<|A0 (.pkF rfl D rfl)<|A2 rfl<|B1 rfl rfl rfl (λo=>?_) (λo=>?_)
 have T:=dF o
 refine A0 (.fa CT rfl B5 dD rfl)<|As o<|Ag (Ad (Bw _) rfl a rfl)<|As o<|A0 (.gtr rfl rfl)<|A0 (.pkF rfl o rfl)<|A2 rfl<|B1 rfl rfl rfl (λs=>?_) (λs=>?_)
 have U:=dF s
 refine A0 (.fa CT rfl B5 dD rfl)<|As s<|Ag (Ad (Bw _) rfl a rfl)<|As s<|A0 (.lss rfl rfl)<|A0 (.pkF rfl s rfl)<|A2 rfl<|B1 rfl rfl rfl (λf=>?_) (λf=>?_)
 have V:=dF f
 refine A0 (.fa CT rfl B5 dD rfl)<|As f<|Ag (Ad (Bw _) rfl a rfl)<|As f<|WL.c1 AN rfl rfl ((H7 _ _)) (λaj X=>?_)
 obtain rfl:=X
 refine As f<|A0 (.not rfl)<|A0 (.pkF rfl f rfl)<|A2 rfl<|B1 rfl rfl rfl (λu=>?_) (λu=>?_)
 have a0:=(nF u)
 refine A0 (.fa CT rfl B5 dD rfl)<|Ew rfl rfl rfl (by rw [(nF u)] <;> rfl)<|Ag (Ad (Bw _) rfl a rfl)<|Ew rfl rfl rfl (by rw [(nF u)] <;> rfl)<|A0 (.lss rfl rfl)<|A0 (.pkF rfl (by rw [(nF u)] <;> rfl) rfl)<|A2 rfl<|B1 rfl rfl rfl (λg=>?_) (λg=>?_)
 have a1:=dF g
 refine A0 (.fa CT rfl B5 dD rfl)<|As g<|Ag (Ad (Bw _) rfl a rfl)<|As g<|WL.c1 AN rfl rfl ((H7 _ _)) (λak a2=>?_)
 obtain rfl:=a2
 refine As g<|A0 (.not rfl)<|A0 (.pkF rfl g rfl)<|A2 rfl<|B1 rfl rfl rfl (λm=>?_) (λm=>?_)
 have a3:=(nF m)
 refine A0 (.fa CT rfl Hu dD rfl)<|Ew rfl rfl rfl (by rw [(nF m)] <;> rfl)<|Ag (Ad (KH _) rfl a rfl)<|Ew rfl rfl rfl (by rw [(nF m)] <;> rfl)<|A0 (.lenS Dh rfl)<|Ew rfl rfl rfl (by rw [(nF m)] <;> rfl)<|A0 (.gtr rfl rfl)<|A0 (.pkF rfl (by rw [(nF m)] <;> rfl) rfl)<|WL.e<|?_
 exact ⟨G8 (Cy rfl (by unfold Kv;first | (simp_all;done) | (simp_all <;> (intros;omega)))),rfl⟩
 have a3:=(nT m)
 refine EL rfl rfl rfl (by rw [(nT m)] <;> rfl)<|EL rfl rfl rfl (by rw [(nT m)] <;> rfl)<|EL rfl rfl rfl (by rw [(nT m)] <;> rfl)<|A0 (.pkT rfl (by rw [(nT m)] <;> rfl) rfl)<|WL.e<|?_
 exact ⟨G8 (Cy rfl (by unfold Kv;first | (simp_all;done) | (simp_all <;> (intros;omega)))),rfl⟩
 have a1:=dT g
 refine Aa g<|Aa g<|Aa g<|A0 (.pkT rfl g rfl)<|A2 rfl<|Aa rfl<|Aa rfl<|Aa rfl<|Aa rfl<|A0 (.pkT rfl rfl rfl)<|WL.e<|?_
 exact ⟨G8 (Cy rfl (by unfold Kv;first | (simp_all;done) | (simp_all <;> (intros;omega)))),rfl⟩
 have a0:=(nT u)
 refine EL rfl rfl rfl (by rw [(nT u)] <;> rfl)<|EL rfl rfl rfl (by rw [(nT u)] <;> rfl)<|A0 (.pkT rfl (by rw [(nT u)] <;> rfl) rfl)<|A2 rfl<|Aa rfl<|Aa rfl<|Aa rfl<|Aa rfl<|A0 (.pkT rfl rfl rfl)<|A2 rfl<|Aa rfl<|Aa rfl<|Aa rfl<|Aa rfl<|A0 (.pkT rfl rfl rfl)<|WL.e<|?_
 exact ⟨G8 (Cy rfl (by unfold Kv;first | (simp_all;done) | (simp_all <;> (intros;omega)))),rfl⟩
 have V:=dT f
 refine Aa f<|Aa f<|Aa f<|A0 (.pkT rfl f rfl)<|A2 rfl<|Aa rfl<|Aa rfl<|Aa rfl<|A0 (.pkT rfl rfl rfl)<|A2 rfl<|Aa rfl<|Aa rfl<|Aa rfl<|Aa rfl<|A0 (.pkT rfl rfl rfl)<|A2 rfl<|Aa rfl<|Aa rfl<|Aa rfl<|Aa rfl<|A0 (.pkT rfl rfl rfl)<|WL.e<|?_
 exact ⟨G8 (Cy rfl (by unfold Kv;first | (simp_all;done) | (simp_all <;> (intros;omega)))),rfl⟩
 have U:=dT s
 refine Aa s<|Aa s<|A0 (.pkT rfl s rfl)<|A2 rfl<|Aa rfl<|Aa rfl<|Aa rfl<|Aa rfl<|A0 (.pkT rfl rfl rfl)<|A2 rfl<|Aa rfl<|Aa rfl<|Aa rfl<|A0 (.pkT rfl rfl rfl)<|A2 rfl<|Aa rfl<|Aa rfl<|Aa rfl<|Aa rfl<|A0 (.pkT rfl rfl rfl)<|A2 rfl<|Aa rfl<|Aa rfl<|Aa rfl<|Aa rfl<|A0 (.pkT rfl rfl rfl)<|WL.e<|?_
 exact ⟨G8 (Cy rfl (by unfold Kv;first | (simp_all;done) | (simp_all <;> (intros;omega)))),rfl⟩
 have T:=dT o
 refine Aa o<|Aa o<|A0 (.pkT rfl o rfl)<|A2 rfl<|Aa rfl<|Aa rfl<|Aa rfl<|A0 (.pkT rfl rfl rfl)<|A2 rfl<|Aa rfl<|Aa rfl<|Aa rfl<|Aa rfl<|A0 (.pkT rfl rfl rfl)<|A2 rfl<|Aa rfl<|Aa rfl<|Aa rfl<|A0 (.pkT rfl rfl rfl)<|A2 rfl<|Aa rfl<|Aa rfl<|Aa rfl<|Aa rfl<|A0 (.pkT rfl rfl rfl)<|A2 rfl<|Aa rfl<|Aa rfl<|Aa rfl<|Aa rfl<|A0 (.pkT rfl rfl rfl)<|WL.e<|?_
 exact ⟨G8 (Cy rfl (by unfold Kv;first | (simp_all;done) | (simp_all <;> (intros;omega)))),rfl⟩
 have ac:=dT D
 refine Aa D<|Aa D<|A0 (.pkT rfl D rfl)<|A2 rfl<|Aa rfl<|Aa rfl<|Aa rfl<|A0 (.pkT rfl rfl rfl)<|A2 rfl<|Aa rfl<|Aa rfl<|Aa rfl<|A0 (.pkT rfl rfl rfl)<|A2 rfl<|Aa rfl<|Aa rfl<|Aa rfl<|Aa rfl<|A0 (.pkT rfl rfl rfl)<|A2 rfl<|Aa rfl<|Aa rfl<|Aa rfl<|A0 (.pkT rfl rfl rfl)<|A2 rfl<|Aa rfl<|Aa rfl<|Aa rfl<|Aa rfl<|A0 (.pkT rfl rfl rfl)<|A2 rfl<|Aa rfl<|Aa rfl<|Aa rfl<|Aa rfl<|A0 (.pkT rfl rfl rfl)<|WL.e<|?_
 exact ⟨G8 (Cy rfl (by unfold Kv;first | (simp_all;done) | (simp_all <;> (intros;omega)))),rfl⟩
 have ab:=dT C
 refine Aa C<|Aa C<|A0 (.pkT rfl C rfl)<|A2 rfl<|Aa rfl<|Aa rfl<|Aa rfl<|A0 (.pkT rfl rfl rfl)<|A2 rfl<|Aa rfl<|Aa rfl<|Aa rfl<|A0 (.pkT rfl rfl rfl)<|A2 rfl<|Aa rfl<|Aa rfl<|Aa rfl<|A0 (.pkT rfl rfl rfl)<|A2 rfl<|Aa rfl<|Aa rfl<|Aa rfl<|Aa rfl<|A0 (.pkT rfl rfl rfl)<|A2 rfl<|Aa rfl<|Aa rfl<|Aa rfl<|A0 (.pkT rfl rfl rfl)<|A2 rfl<|Aa rfl<|Aa rfl<|Aa rfl<|Aa rfl<|A0 (.pkT rfl rfl rfl)<|A2 rfl<|Aa rfl<|Aa rfl<|Aa rfl<|Aa rfl<|A0 (.pkT rfl rfl rfl)<|WL.e<|?_
 exact ⟨G8 (Cy rfl (by unfold Kv;first | (simp_all;done) | (simp_all <;> (intros;omega)))),rfl⟩
 have aa:=(nT B)
 refine EL rfl rfl rfl (by rw [(nT B)] <;> rfl)<|EL rfl rfl rfl (by rw [(nT B)] <;> rfl)<|A0 (.pkT rfl (by rw [(nT B)] <;> rfl) rfl)<|A2 rfl<|Aa rfl<|Aa rfl<|Aa rfl<|A0 (.pkT rfl rfl rfl)<|A2 rfl<|Aa rfl<|Aa rfl<|Aa rfl<|A0 (.pkT rfl rfl rfl)<|A2 rfl<|Aa rfl<|Aa rfl<|Aa rfl<|A0 (.pkT rfl rfl rfl)<|A2 rfl<|Aa rfl<|Aa rfl<|Aa rfl<|A0 (.pkT rfl rfl rfl)<|A2 rfl<|Aa rfl<|Aa rfl<|Aa rfl<|Aa rfl<|A0 (.pkT rfl rfl rfl)<|A2 rfl<|Aa rfl<|Aa rfl<|Aa rfl<|A0 (.pkT rfl rfl rfl)<|A2 rfl<|Aa rfl<|Aa rfl<|Aa rfl<|Aa rfl<|A0 (.pkT rfl rfl rfl)<|A2 rfl<|Aa rfl<|Aa rfl<|Aa rfl<|Aa rfl<|A0 (.pkT rfl rfl rfl)<|WL.e<|?_
 exact ⟨G8 (Cy rfl (by unfold Kv;first | (simp_all;done) | (simp_all <;> (intros;omega)))),rfl⟩
 have a8:=dT v
 refine Aa v<|Aa v<|Aa v<|A0 (.pkT rfl v rfl)<|A2 rfl<|Aa rfl<|Aa rfl<|Aa rfl<|A0 (.pkT rfl rfl rfl)<|A2 rfl<|Aa rfl<|Aa rfl<|Aa rfl<|A0 (.pkT rfl rfl rfl)<|A2 rfl<|Aa rfl<|Aa rfl<|Aa rfl<|A0 (.pkT rfl rfl rfl)<|A2 rfl<|Aa rfl<|Aa rfl<|Aa rfl<|A0 (.pkT rfl rfl rfl)<|A2 rfl<|Aa rfl<|Aa rfl<|Aa rfl<|A0 (.pkT rfl rfl rfl)<|A2 rfl<|Aa rfl<|Aa rfl<|Aa rfl<|Aa rfl<|A0 (.pkT rfl rfl rfl)<|A2 rfl<|Aa rfl<|Aa rfl<|Aa rfl<|A0 (.pkT rfl rfl rfl)<|A2 rfl<|Aa rfl<|Aa rfl<|Aa rfl<|Aa rfl<|A0 (.pkT rfl rfl rfl)<|A2 rfl<|Aa rfl<|Aa rfl<|Aa rfl<|Aa rfl<|A0 (.pkT rfl rfl rfl)<|WL.e<|?_
 exact ⟨G8 (Cy rfl (by unfold Kv;first | (simp_all;done) | (simp_all <;> (intros;omega)))),rfl⟩
 refine Ac rfl (λad=>?_) (λad=>?_)
 refine A4<|A9 rfl<|Ai (AZ rfl rfl ?_)
 exact ⟨Bl (by unfold Kw;rw [show Kv x=true by assumption];rfl),J⟩
 have hp:Kv x=false:=by assumption
 refine W.k<|A4<|A0 (.fa CT rfl Hu dD rfl)<|Ag (Ad (KH _) rfl a rfl)<|A0 (.lenS Dh rfl)<|A0 (.eql rfl rfl)<|A9 rfl<|Ah<|A4<|A9 rfl<|W.b<|Cj (α:=Nat) (λt=>[(1,.pointer (some ⟨b1,0,none⟩)),(3,.bool (decide ((x.fDash.length:Int)=0) || (x.fDash.take t).any λn=>decide (0<n))),(4,.int .i64 (t:Int))]) (λt w'=>a7=w'/\t<=x.fDash.length/\∀ j (hj:j<x.fDash.length),j<t->Id x.fDash[j]=true) (λt=>x.fDash.length-t) (0) ⟨rfl,Cy rfl (by simp),rfl,tT⟩ (⟨rfl,Gg _,λj _ h=>CM h oO⟩) (λt w1 hR=>?_)
 obtain ⟨i,rfl⟩:∃ i,i=t:=⟨t,rfl⟩
 obtain ⟨rfl,hi,E⟩:=hR
 have al:x.fDash.length<=11:=by simp only [Kv,E1,Aq] at hp;omega
 refine Ah<|A4<|A2 rfl<|A0 (.fa CT rfl Hu dD rfl)<|Ag (Ad (KH _) rfl a rfl)<|A0 (.lenS Dh rfl)<|A0 (.lss rfl rfl)<|WL.e<|Ac rfl (λK=>?_) (λK=>?_)
 have a4:=dT K
 have P:((x.fDash.take (i+1)).any λn=>decide (0<n))=(((x.fDash.take i).any λn=>decide (0<n)) || decide (0<x.fDash[i]'oO)):=by
  rw [List.take_add_one,A7 oO,Option.toList_some,List.any_append];simp
 refine W.k<|Ah<|W.b<|Ah<|Fd 87 (!Id (x.fDash[i]'oO)) ?_ ?_
 refine Ak<|A0 (.fa CT rfl Hu dD rfl)<|Ag (Ad (KH _) rfl a rfl)<|A2 rfl<|A0 (.ixb Dh B5 rfl rfl (y.isp oD) (i) (rfl) oO)<|Ag (AO (Bw _) rfl (y.cells (i) oO))<|A0 (.lss rfl rfl)<|A2 rfl<|B1 rfl rfl rfl (λc=>?_) (λc=>?_)
 have a5:=dF c
 refine A0 (.fa CT rfl Hu dD rfl)<|As c<|Ag (Ad (KH _) rfl a rfl)<|As c<|A2 rfl<|As c<|A0 (.ixb Dh B5 rfl rfl (y.isp oD) (i) (rfl) oO)<|As c<|Ag (AO (Bw _) rfl (y.cells (i) oO))<|As c<|WL.c1 AN rfl rfl ((H7 _ _)) (λam a6=>?_)
 obtain rfl:=a6
 refine As c<|A0 (.not rfl)<|A0 (.pkF rfl c rfl)<|WL.e<|?_
 exact ⟨G8 (Cy rfl (by unfold Id;simp_all <;> omega)),rfl⟩
 have a5:=dT c
 refine Aa c<|Aa c<|Aa c<|Aa c<|Aa c<|Aa c<|A0 (.pkT rfl c rfl)<|WL.e<|?_
 exact ⟨G8 (Cy rfl (by unfold Id;simp_all <;> omega)),rfl⟩
 refine Ac rfl (λae=>?_) (λae=>?_)
 refine A4<|A9 rfl<|Ai (AZ rfl rfl ?_)
 exact ⟨Bl (by unfold Kw;rw [Qb (q:=Id) (j:=i) oO (by simpa using (show (!Id (x.fDash[i]'oO))=true by assumption)),N0,A5O]),J⟩
 refine W.k<|Ak<|A2 rfl<|A2 rfl<|B1 rfl rfl rfl (λd=>?_) (λd=>?_)
 refine A0 (.fa CT rfl Hu dD rfl)<|As d<|Ag (Ad (KH _) rfl a rfl)<|As d<|A2 rfl<|As d<|A0 (.ixb Dh B5 rfl rfl (y.isp oD) (i) (rfl) oO)<|As d<|Ag (AO (Bw _) rfl (y.cells (i) oO))<|As d<|A0 (.gtr rfl rfl)<|A0 (.pkF rfl d rfl)<|A9 rfl<|Ak<|A2 rfl<|A0 (.iis (((i+1:Nat):Int)) (.add rfl rfl (Bp oO)) oO)<|A9 rfl ?_
 exact ⟨i+1,⟨rfl,Cy rfl (by rw [P,<- Bool.or_assoc];generalize (decide ((x.fDash.length:Int)=0) || (x.fDash.take i).any λn=>decide (0<n))=A at *;simp_all),rfl,tT⟩,⟨rfl,by ((try simp only) <;> omega),λj hj h=>by
  rcases Cb.1 h with h2 | rfl;exact E j hj h2
  simp_all⟩,by ((try simp only) <;> omega)⟩
 refine Aa d<|Aa d<|Aa d<|Aa d<|Aa d<|A0 (.pkT rfl d rfl)<|A9 rfl<|Ak<|A2 rfl<|A0 (.iis (((i+1:Nat):Int)) (.add rfl rfl (Bp oO)) oO)<|A9 rfl ?_
 exact ⟨i+1,⟨rfl,Cy rfl (by rw [P,<- Bool.or_assoc];generalize (decide ((x.fDash.length:Int)=0) || (x.fDash.take i).any λn=>decide (0<n))=A at *;simp_all),rfl,tT⟩,⟨rfl,by ((try simp only) <;> omega),λj hj h=>by
  rcases Cb.1 h with h2 | rfl;exact E j hj h2
  simp_all⟩,by ((try simp only) <;> omega)⟩
 have a4:=dF K
 have hd:=Ut (q:=Id) (l:=x.fDash) λj hj=>E j hj oO
 have af:Kw x=(x.fDash.isEmpty || x.fDash.any λn=>decide (0<n)):=by unfold Kw;rw [hp,hd];rfl
 refine C0<|A4<|A2 rfl<|A9 rfl<|Ai (AZ rfl rfl ?_)
 exact ⟨Bl (by
  rw [af,AR (show x.fDash.length<=i by omega)]
  congr 2;cases x.fDash <;> simp <;> omega),J⟩
end
section
theorem V5 (p q:Option Addr) (l m:List Int) (c d:Nat) (w:World) (hra:AS DW w p l) (hrb:AS DW w q m) (hl:l.length<=9223372036854775807) :
  Calls Tryz.prog 38 #[.slice p l.length c,.slice q m.length d] w λe w'=>e=.returned (.bool (decide (l=m)))/\Below w.heap.size w w':=by
 refine W.e func38 rfl ntmps38 bL ?_
 have g:=EM (w.heap.size) w
 refine A4<|A9 rfl<|Ah<|A4<|A2 rfl<|A0 (.lenS Dh rfl)<|A2 rfl<|A0 (.lenS Dh rfl)<|A0 (.neq rfl rfl)<|WL.e<|Ac rfl (λj=>?_) (λj=>?_)
 have v:=JY j
 refine A4<|A9 rfl<|Ai (AZ rfl rfl ?_)
 exact ⟨Bl (by rw [Al (λe=>by subst e;exact CM rfl aS)]),g⟩
 have v:=JZ j
 have C:l.length=m.length:=by omega
 refine W.k<|Ah<|A4<|A9 rfl<|W.b<|Cj (α:=Nat) (λt=>[(0,.slice p l.length c),(1,.slice q m.length d),(5,.int .i64 (t:Int))]) (λt w'=>Below w.heap.size w w'/\AS DW w' p l/\AS DW w' q m/\t<=l.length/\l.take t=m.take t) (λt=>l.length-t) (0) ⟨rfl,rfl,rfl,tT⟩ (⟨g,hra,hrb,Gg _,by simp⟩) (λt D hR=>?_)
 obtain ⟨s,rfl⟩:∃ s,s=t:=⟨t,rfl⟩
 obtain ⟨hT,ha,hb,hs,a⟩:=hR
 refine Ah<|A4<|A2 rfl<|A2 rfl<|A0 (.lenS Dh rfl)<|A0 (.lss rfl rfl)<|WL.e<|Ac rfl (λo=>?_) (λo=>?_)
 have x:=dT o
 refine W.k<|Ah<|W.b<|Ah<|E2 C7 kR<|At (.mv rfl) rfl<|At (.mv rfl) rfl<|At (.ixb Dh B5 rfl rfl (ha.isp oD) (s) oO oO) rfl<|Di (λm=>AO (Bw _) rfl ((ha.drewN m).cells (s) oO)) rfl<|At (.mv rfl) rfl<|At (.mv rfl) rfl<|At (.ixb Dh B5 rfl rfl (hb.isp oD) (s) oO oO) rfl<|Di (λm=>AO (Bw _) rfl ((hb.drewN m).cells (s) oO)) rfl<|At (.neq rfl rfl) rfl<|Da (λE f=>?_)
 have y:=ha.drew f
 have A:=hb.drew f
 have i:=CZ.below hT f
 refine Ac rfl (λu=>?_) (λu=>?_)
 have B:=JY u
 refine A4<|A9 rfl<|Ai (AZ rfl rfl ?_)
 exact ⟨Bl (by rw [Al (λe=>by subst e;exact CM rfl aS)]),i⟩
 have B:=JZ u
 refine W.k<|Ak<|A2 rfl<|A0 (.iis (((s+1:Nat):Int)) (.add rfl rfl (Bp oO)) oO)<|A9 rfl ?_
 exact ⟨s+1,⟨rfl,rfl,rfl,tT⟩,⟨i,y,A,by ((try simp only) <;> omega),by
  rw [List.take_add_one,List.take_add_one,A7 oO,A7 oO,a]
  congr 3⟩,by ((try simp only) <;> omega)⟩
 have x:=dF o
 refine C0<|A4<|A9 rfl<|Ai (AZ rfl rfl ?_)
 exact ⟨Bl (by rw [Aj (by rw [AR oO,AR oO] at a;exact a)]),hT⟩
def H5 (x y:Dz):Bool:=decide (x.fWidth=y.fWidth) && decide (x.fCap=y.fCap) && decide (x.fJoin=y.fJoin) && decide (x.fMiter=y.fMiter) && decide (x.fDash=y.fDash) && decide (x.fPhase=y.fPhase)
theorem Pk (x y:Dz) (w:World) (hx:AS DW w x.pfDash x.fDash) (hy:AS DW w y.pfDash y.fDash) (hl:x.fDash.length<=9223372036854775807) :
  Calls Tryz.prog 21 #[.agg (El x).toArray,.agg (El y).toArray] w λe w'=>e=.returned (.bool (H5 x y))/\Below w.heap.size w w':=by
 have a3:0<x.fDash.length->(pA x.pfDash).block<w.heap.size:=λf=>hx.lt f
 have a4:0<y.fDash.length->(pA y.pfDash).block<w.heap.size:=λf=>hy.lt f
 refine W.e func21 rfl ntmps21 bL ?_
 have B:=EM (w.heap.size) w
 refine A4<|CU rfl rfl (λb1 a5 s t o a1=>?_)
 have F:=λf=>s▸hx.lt f
 have C:=AS.upd hx o (λf=>Js (F f))
 have G:=λf=>s▸hy.lt f
 have D:=AS.upd hy o (λf=>Js (G f))
 have E:=uB B s o
 have X:=Cq s B.size
 refine CU rfl rfl (λb7 a6 m i l a2=>?_)
 have V:=Bg m t.lt
 have k:=t.un l V
 have v:=λf=>m▸C.lt f
 have H:=AS.upd C l (λf=>Js (v f))
 have A:=λf=>m▸D.lt f
 have J:=AS.upd D l (λf=>Js (A f))
 have j:=uB E m l
 have a0:=Cq m E.size
 refine A9 rfl<|A4<|A0 (.fa CT rfl B5 dD rfl)<|Ag (Ad (Bw _) rfl k rfl)<|A0 (.fa CT rfl B5 dD rfl)<|Ag (Ad (Bw _) rfl i rfl)<|A0 (.eql rfl rfl)<|A2 rfl<|B1 rfl rfl rfl (λa=>?_) (λa=>?_)
 have K:=dT a
 refine A0 (.fa CT rfl B5 dD rfl)<|As a<|Ag (Ad (Bw _) rfl k rfl)<|As a<|A0 (.fa CT rfl B5 dD rfl)<|As a<|Ag (Ad (Bw _) rfl i rfl)<|As a<|A0 (.eql rfl rfl)<|A0 (.pkT rfl a rfl)<|A2 rfl<|B1 rfl rfl rfl (λb=>?_) (λb=>?_)
 have L:=dT b
 refine A0 (.fa CT rfl B5 dD rfl)<|As b<|Ag (Ad (Bw _) rfl k rfl)<|As b<|A0 (.fa CT rfl B5 dD rfl)<|As b<|Ag (Ad (Bw _) rfl i rfl)<|As b<|A0 (.eql rfl rfl)<|A0 (.pkT rfl b rfl)<|A2 rfl<|B1 rfl rfl rfl (λc=>?_) (λc=>?_)
 have P:=dT c
 refine A0 (.fa CT rfl B5 dD rfl)<|As c<|Ag (Ad (Bw _) rfl k rfl)<|As c<|A0 (.fa CT rfl B5 dD rfl)<|As c<|Ag (Ad (Bw _) rfl i rfl)<|As c<|A0 (.eql rfl rfl)<|A0 (.pkT rfl c rfl)<|A2 rfl<|B1 rfl rfl rfl (λd=>?_) (λd=>?_)
 have Q:=dT d
 refine A0 (.fa CT rfl Hu dD rfl)<|As d<|Ag (Ad (KH _) rfl k rfl)<|As d<|A0 (.fa CT rfl Hu dD rfl)<|As d<|Ag (Ad (KH _) rfl i rfl)<|As d<|WL.c1 AN rfl rfl ((V5 _ _ _ _ _ _ _ H J hl)) (λa7 q=>?_)
 have T:=k.bl q
 have U:=i.bl q
 have u:=DJ j q
 refine A0 (.pkT rfl d rfl)<|A2 rfl<|B1 rfl rfl rfl (λg=>?_) (λg=>?_)
 refine A0 (.fa CT rfl B5 dD rfl)<|As g<|Ag (Ad (Bw _) rfl T rfl)<|As g<|A0 (.fa CT rfl B5 dD rfl)<|As g<|Ag (Ad (Bw _) rfl U rfl)<|As g<|A0 (.eql rfl rfl)<|A0 (.pkT rfl g rfl)<|A9 rfl<|Ai (AZ rfl rfl ?_)
 exact ⟨Bl (by unfold H5;simp_all),u⟩
 refine Aa g<|Aa g<|Aa g<|Aa g<|A0 (.pkF rfl g rfl)<|A9 rfl<|Ai (AZ rfl rfl ?_)
 exact ⟨Bl (by unfold H5;simp_all),u⟩
 have Q:=dF d
 refine Aa d<|Aa d<|Aa d<|Aa d<|A0 (.pkF rfl d rfl)<|A2 rfl<|Aa rfl<|Aa rfl<|Aa rfl<|Aa rfl<|Aa rfl<|A0 (.pkF rfl rfl rfl)<|A9 rfl<|Ai (AZ rfl rfl ?_)
 exact ⟨Bl (by unfold H5;simp_all),j⟩
 have P:=dF c
 refine Aa c<|Aa c<|Aa c<|Aa c<|A0 (.pkF rfl c rfl)<|A2 rfl<|Aa rfl<|Aa rfl<|Aa rfl<|Aa rfl<|Aa rfl<|A0 (.pkF rfl rfl rfl)<|A2 rfl<|Aa rfl<|Aa rfl<|Aa rfl<|Aa rfl<|Aa rfl<|A0 (.pkF rfl rfl rfl)<|A9 rfl<|Ai (AZ rfl rfl ?_)
 exact ⟨Bl (by unfold H5;simp_all),j⟩
 have L:=dF b
 refine Aa b<|Aa b<|Aa b<|Aa b<|A0 (.pkF rfl b rfl)<|A2 rfl<|Aa rfl<|Aa rfl<|Aa rfl<|Aa rfl<|Aa rfl<|A0 (.pkF rfl rfl rfl)<|A2 rfl<|Aa rfl<|Aa rfl<|Aa rfl<|Aa rfl<|Aa rfl<|A0 (.pkF rfl rfl rfl)<|A2 rfl<|Aa rfl<|Aa rfl<|Aa rfl<|Aa rfl<|Aa rfl<|A0 (.pkF rfl rfl rfl)<|A9 rfl<|Ai (AZ rfl rfl ?_)
 exact ⟨Bl (by unfold H5;simp_all),j⟩
 have K:=dF a
 refine Aa a<|Aa a<|Aa a<|Aa a<|A0 (.pkF rfl a rfl)<|A2 rfl<|Aa rfl<|Aa rfl<|Aa rfl<|Aa rfl<|Aa rfl<|A0 (.pkF rfl rfl rfl)<|A2 rfl<|Aa rfl<|Aa rfl<|Aa rfl<|Aa rfl<|Aa rfl<|A0 (.pkF rfl rfl rfl)<|A2 rfl<|Aa rfl<|Aa rfl<|Aa rfl<|Aa rfl<|Aa rfl<|A0 (.pkF rfl rfl rfl)<|A2 rfl<|Aa rfl<|Aa rfl<|Aa rfl<|Aa rfl<|Aa rfl<|A0 (.pkF rfl rfl rfl)<|A9 rfl<|Ai (AZ rfl rfl ?_)
 exact ⟨Bl (by unfold H5;simp_all),j⟩
def A6a:Dz:=⟨0,0,0,0,none,[],0,0⟩
theorem ZW (x:Dz):H5 x A6a=JX x:=by
 unfold H5 JX A6a
 have:decide (x.fDash=[])=decide ((x.fDash.length:Int)=0):=by
  cases x.fDash with
  | nil=>simp
  | cons a l=>simp;omega
 rw [this]
theorem AS.none {w:World}:AS DW w none []:=⟨λh=>by simp at h,λj h=>by simp at h⟩
def G5 (x:Bv):Bool:=!x.fPath.isEmpty && Fk x.fPath
end
section
theorem A7Q:Tryz.prog.eqGuardType Tryz.prog.depth 42=false:=by kernel_rfl
theorem A7z (a0:Int) (a1:Int) (a2:Int) (a3:Int) (a4:Int) (a5:Int) (b0:Int) (b1:Int) (b2:Int) (b3:Int) (b4:Int) (b5:Int) (w:World):(binOp .neq 42 (.agg #[.int .i64 a0,.int .i64 a1,.int .i64 a2,.int .i64 a3,.int .i64 a4,.int .i64 a5]) (.agg #[.int .i64 b0,.int .i64 b1,.int .i64 b2,.int .i64 b3,.int .i64 b4,.int .i64 b5])).run Tryz.prog w=.ok (.bool (!decide (a0=b0/\a1=b1/\a2=b2/\a3=b3/\a4=b4/\a5=b5))) w:=by
 refine (TT w 42 3 6 DU JQ B5 [a0,a1,a2,a3,a4,a5] [b0,b1,b2,b3,b4,b5] rfl rfl).trans ?_
 rw [show ([a0,a1,a2,a3,a4,a5] == [b0,b1,b2,b3,b4,b5])=decide (a0=b0/\a1=b1/\a2=b2/\a3=b3/\a4=b4/\a5=b5) from by rw [AU];simp]
theorem A7V:Tryz.prog.built 42 []=some #[.int .i64 0,.int .i64 0,.int .i64 0,.int .i64 0,.int .i64 0,.int .i64 0]:=by kernel_rfl
def E8 (x:AQ):List Int:=[x.fMatrix_0,x.fMatrix_1,x.fMatrix_2,x.fMatrix_3,x.fMatrix_4,x.fMatrix_5]
def Rb:Fe AQ:=⟨6,λx=>[.int .i64 x.fMatrix_0,.int .i64 x.fMatrix_1,.int .i64 x.fMatrix_2,.int .i64 x.fMatrix_3,.int .i64 x.fMatrix_4,.int .i64 x.fMatrix_5],by decide,λ_=>rfl,λx u hu=>Au.1 (show ([.int .i64 x.fMatrix_0,.int .i64 x.fMatrix_1,.int .i64 x.fMatrix_2,.int .i64 x.fMatrix_3,.int .i64 x.fMatrix_4,.int .i64 x.fMatrix_5]:List Value).all Value.oneCell'=true from rfl) u hu⟩
theorem A2h {w:World} {b:Nat} {t:TypeId} {x:AQ} (h:AF w b (FF x).toArray t):AS DW w (some ⟨b,15,none⟩) (E8 x):=⟨λ_=>rfl,λj hj=>by
 show w.cell? ((⟨b,15,none⟩:Addr).add j)=_
 have h':j<6:=hj
 rw [EC,h.cell]
 obtain rfl | rfl | rfl | rfl | rfl | rfl:j=0\/j=1\/j=2\/j=3\/j=4\/j=5:=by omega
 all_goals rfl⟩
def OW (x:AQ):Bool:=decide (x.fMatrix_0=0/\x.fMatrix_1=0/\x.fMatrix_2=0/\x.fMatrix_3=0/\x.fMatrix_4=0/\x.fMatrix_5=0)
def He (x:AQ):Bool:=decide (0<=x.fFont) && decide (x.fFont<=13) && decide ((x.fBytes.length:Int) ≥ 1) && decide ((x.fBytes.length:Int)<=65535) && (E8 x).all Ao
def EQ (l:List Bv):Bool:=decide ((l.length:Int)<=16) && l.all G5
def LP (x:AQ):Bool:=decide (x.fFont=0) && OW x && decide ((x.fBytes.length:Int)=0) && !decide ((x.fPath.length:Int)=0) && Fk x.fPath
def Et (x:AQ):Bool:=Fc x.fColor && EQ x.fClips &&
  (if x.fKind = 4 then He x && decide ((x.fPath.length : Int) = 0) && JX x.fPen
   else LP x && (if x.fKind=1\/x.fKind=2 then JX x.fPen else if x.fKind=3 then Kw x.fPen else false))
theorem KM.len {α:Type} {p:Option Addr} {l:List α} {c:Nat} (h:KM p l c):l.length<=9223372036854775807:=AW (AW h.le h.cap) (by unfold maxLen;decide)
end
section
def Hi:Nat->Nat->l8_
 | 0,_=>[]
 | k+1,f=>if f=0 then [] else ch (48+((f * 10 / 65536:Nat):Int))::Hi k (f * 10 % 65536)
theorem Uj (k:Nat):∀ f:Nat,k<=16->f<65536->2 ^ (16-k) ∣ f->Hi k f=Hi (k+1) f:=by
  induction k with
  | zero =>
    intro f _ hf hd
    obtain ⟨c,hc⟩:=hd
    have:f=0:=by simp at hc;omega
    simp [Hi,this]
  | succ k ih =>
    intro f hk hf hd
    rw [Hi,Hi]
    split
    · rfl
    · rw [ih (f * 10 % 65536) oO oO]
      have e:16-k=(16-(k+1))+1:=by omega
      have a:2 ^ (16-k) ∣ f * 10:=by
        rw [e,Nat.pow_succ]
        exact Nat.mul_dvd_mul hd ⟨5,rfl⟩
      have b:2 ^ (16-k) ∣ 65536:=by
        rw [show (65536:Nat)=2 ^ 16 from rfl]
        exact Nat.pow_dvd_pow 2 oO
      exact (Nat.dvd_mod_iff b).2 a
def IU (f:Nat):l8_:=Hi 16 f
theorem L7:IU 0=[]:=rfl
theorem Nm (f:Nat) (h0:0<f) (h:f<65536):IU f=ch (48+((f * 10 / 65536:Nat):Int))::IU (f * 10 % 65536):=by
 unfold IU
 rw [Hi,A1 oO,Uj 15 (f * 10 % 65536) oO oO (by
  have a:2 ^ (16-15) ∣ f * 10:=⟨f * 5,by omega⟩
  exact (Nat.dvd_mod_iff dD).2 a)]
theorem A0r (k:Nat):∀ f,(Hi k f).length<=k:=by
 induction k with
 | zero=>intro f;simp [Hi]
 | succ k ih =>
  intro f;rw [Hi];split
  · simp
  · have:=ih (f * 10 % 65536);simp;omega
theorem My (f:Nat):(IU f).length<=16:=A0r 16 f
end
end Go.Proofs.YthmhfjeojkbpfaaGreatDoor
namespace Go.Proofs
open Go.Proofs.Tryz
open Go.Shelf
def Tryz.lays161_ren : Go.Shelf.Ren := ⟨fun | 161 => 158 | 231 => 130 | 227 => 132 | 233 => 133 | 235 => 135 | 228 => 163 | 197 => 165 | 151 => 166 | 260 => 193 | 152 => 161 | 137 => 58 | 119 => 184 | 224 => 185 | 225 => 186 | 217 => 86 | 266 => 118 | n => n, fun | 9 => 9 | 4 => 4 | 3 => 3 | 5 => 5 | 117 => 193 | 116 => 192 | 0 => 0 | 124 => 196 | 105 => 212 | 21 => 21 | 119 => 244 | 46 => 143 | 139 => 247 | 138 => 246 | n => n, fun | 3 => 1 | 4 => 2 | n => n⟩
theorem Tryz.lays161 : Go.Proofs.Lays.n161 Tryz.prog Tryz.lays161_ren := {
  mixed := by kernel_rfl
  f119 := Tryz.func184.trans (congrArg some (by kernel_rfl))
  f137 := Tryz.func58.trans (congrArg some (by kernel_rfl))
  f151 := Tryz.func166.trans (congrArg some (by kernel_rfl))
  f152 := Tryz.func161.trans (congrArg some (by kernel_rfl))
  f161 := Tryz.func158.trans (congrArg some (by kernel_rfl))
  f197 := Tryz.func165.trans (congrArg some (by kernel_rfl))
  f217 := Tryz.func86.trans (congrArg some (by kernel_rfl))
  f224 := Tryz.func185.trans (congrArg some (by kernel_rfl))
  f225 := Tryz.func186.trans (congrArg some (by kernel_rfl))
  f227 := Tryz.func132.trans (congrArg some (by kernel_rfl))
  f228 := Tryz.func163.trans (congrArg some (by kernel_rfl))
  f231 := Tryz.func130.trans (congrArg some (by kernel_rfl))
  f233 := Tryz.func133.trans (congrArg some (by kernel_rfl))
  f235 := Tryz.func135.trans (congrArg some (by kernel_rfl))
  f260 := Tryz.func193.trans (congrArg some (by kernel_rfl))
  f266 := Tryz.func118.trans (congrArg some (by kernel_rfl))
  t0 := Tryz.underlying0
  a0 := Tryz.isAgg0
  z0 := Tryz.sizeOf0
  v0 := Tryz.zeroValue0
  t3 := Tryz.underlying3
  a3 := Tryz.isAgg3
  z3 := Tryz.sizeOf3
  v3 := Tryz.zeroValue3
  t4 := Tryz.underlying4
  a4 := Tryz.isAgg4
  z4 := Tryz.sizeOf4
  v4 := Tryz.zeroValue4
  t5 := Tryz.underlying5
  a5 := Tryz.isAgg5
  z5 := Tryz.sizeOf5
  v5 := Tryz.zeroValue5
  t9 := Tryz.underlying9
  a9 := Tryz.isAgg9
  z9 := Tryz.sizeOf9
  v9 := Tryz.zeroValue9
  t21 := Tryz.underlying21
  a21 := Tryz.isAgg21
  z21 := Tryz.sizeOf21
  v21 := Tryz.zeroValue21
  t46 := Tryz.underlying143
  a46 := Tryz.isAgg143
  z46 := Tryz.sizeOf143
  v46 := Tryz.zeroValue143
  t105 := Tryz.underlying212
  a105 := Tryz.isAgg212
  z105 := Tryz.sizeOf212
  v105 := Tryz.zeroValue212
  t116 := Tryz.underlying192
  a116 := Tryz.isAgg192
  z116 := Tryz.sizeOf192
  t117 := Tryz.underlying193
  a117 := Tryz.isAgg193
  z117 := Tryz.sizeOf193
  v117 := Tryz.zeroValue193
  t119 := Tryz.underlying244
  a119 := Tryz.isAgg244
  z119 := Tryz.sizeOf244
  t124 := Tryz.underlying196
  a124 := Tryz.isAgg196
  z124 := Tryz.sizeOf196
  v124 := Tryz.zeroValue196
  t138 := Tryz.underlying246
  a138 := Tryz.isAgg246
  z138 := Tryz.sizeOf246
  v138 := Tryz.zeroValue246
  t139 := Tryz.underlying247
  a139 := Tryz.isAgg247
  z139 := Tryz.sizeOf247
  v139 := Tryz.zeroValue247
  g3 := by kernel_rfl
  g4 := by kernel_rfl }
open Go.RowKit in
theorem Tryz.strings_TrimLeft_one (s : ByteArray) (c : UInt8) (hc : c.toNat < 128) (w : World) :
    Calls Tryz.prog 158 #[.string s, .string ⟨#[c]⟩] w fun e w' => e = .returned (.string ⟨(Lib.trimLeftB s.data.toList c).toArray⟩) ∧ w' = w := Any.strings_TrimLeft_one Tryz.lays161 s c hc w
def Tryz.lays160_ren : Go.Shelf.Ren := ⟨fun | 160 => 96 | 232 => 131 | 231 => 130 | 227 => 132 | 234 => 134 | 233 => 133 | 236 => 136 | 235 => 135 | 228 => 163 | 271 => 167 | 151 => 166 | 197 => 165 | 120 => 194 | 152 => 161 | 260 => 193 | 137 => 58 | 119 => 184 | 224 => 185 | 225 => 186 | 217 => 86 | 266 => 118 | n => n, fun | 9 => 9 | 4 => 4 | 3 => 3 | 5 => 5 | 117 => 193 | 116 => 192 | 0 => 0 | 124 => 196 | 21 => 21 | 105 => 212 | 46 => 143 | 119 => 244 | 139 => 247 | 138 => 246 | n => n, fun | 3 => 1 | 4 => 2 | n => n⟩
theorem Tryz.lays160 : Go.Proofs.Lays.n160 Tryz.prog Tryz.lays160_ren := {
  mixed := by kernel_rfl
  f119 := Tryz.func184.trans (congrArg some (by kernel_rfl))
  f120 := Tryz.func194.trans (congrArg some (by kernel_rfl))
  f137 := Tryz.func58.trans (congrArg some (by kernel_rfl))
  f151 := Tryz.func166.trans (congrArg some (by kernel_rfl))
  f152 := Tryz.func161.trans (congrArg some (by kernel_rfl))
  f160 := Tryz.func96.trans (congrArg some (by kernel_rfl))
  f197 := Tryz.func165.trans (congrArg some (by kernel_rfl))
  f217 := Tryz.func86.trans (congrArg some (by kernel_rfl))
  f224 := Tryz.func185.trans (congrArg some (by kernel_rfl))
  f225 := Tryz.func186.trans (congrArg some (by kernel_rfl))
  f227 := Tryz.func132.trans (congrArg some (by kernel_rfl))
  f228 := Tryz.func163.trans (congrArg some (by kernel_rfl))
  f231 := Tryz.func130.trans (congrArg some (by kernel_rfl))
  f232 := Tryz.func131.trans (congrArg some (by kernel_rfl))
  f233 := Tryz.func133.trans (congrArg some (by kernel_rfl))
  f234 := Tryz.func134.trans (congrArg some (by kernel_rfl))
  f235 := Tryz.func135.trans (congrArg some (by kernel_rfl))
  f236 := Tryz.func136.trans (congrArg some (by kernel_rfl))
  f260 := Tryz.func193.trans (congrArg some (by kernel_rfl))
  f266 := Tryz.func118.trans (congrArg some (by kernel_rfl))
  f271 := Tryz.func167.trans (congrArg some (by kernel_rfl))
  t0 := Tryz.underlying0
  a0 := Tryz.isAgg0
  z0 := Tryz.sizeOf0
  v0 := Tryz.zeroValue0
  t3 := Tryz.underlying3
  a3 := Tryz.isAgg3
  z3 := Tryz.sizeOf3
  v3 := Tryz.zeroValue3
  t4 := Tryz.underlying4
  a4 := Tryz.isAgg4
  z4 := Tryz.sizeOf4
  v4 := Tryz.zeroValue4
  t5 := Tryz.underlying5
  a5 := Tryz.isAgg5
  z5 := Tryz.sizeOf5
  v5 := Tryz.zeroValue5
  t9 := Tryz.underlying9
  a9 := Tryz.isAgg9
  z9 := Tryz.sizeOf9
  v9 := Tryz.zeroValue9
  t21 := Tryz.underlying21
  a21 := Tryz.isAgg21
  z21 := Tryz.sizeOf21
  v21 := Tryz.zeroValue21
  t46 := Tryz.underlying143
  a46 := Tryz.isAgg143
  z46 := Tryz.sizeOf143
  v46 := Tryz.zeroValue143
  t105 := Tryz.underlying212
  a105 := Tryz.isAgg212
  z105 := Tryz.sizeOf212
  v105 := Tryz.zeroValue212
  t116 := Tryz.underlying192
  a116 := Tryz.isAgg192
  z116 := Tryz.sizeOf192
  t117 := Tryz.underlying193
  a117 := Tryz.isAgg193
  z117 := Tryz.sizeOf193
  v117 := Tryz.zeroValue193
  t119 := Tryz.underlying244
  a119 := Tryz.isAgg244
  z119 := Tryz.sizeOf244
  t124 := Tryz.underlying196
  a124 := Tryz.isAgg196
  z124 := Tryz.sizeOf196
  v124 := Tryz.zeroValue196
  t138 := Tryz.underlying246
  a138 := Tryz.isAgg246
  z138 := Tryz.sizeOf246
  v138 := Tryz.zeroValue246
  t139 := Tryz.underlying247
  a139 := Tryz.isAgg247
  z139 := Tryz.sizeOf247
  v139 := Tryz.zeroValue247
  g3 := by kernel_rfl
  g4 := by kernel_rfl }
def Tryz.lays119_ren : Go.Shelf.Ren := ⟨fun | 119 => 184 | n => n, fun | 21 => 21 | 4 => 4 | n => n, fun | n => n⟩
theorem Tryz.lays119 : Go.Proofs.Lays.n119 Tryz.prog Tryz.lays119_ren := {
  mixed := by kernel_rfl
  f119 := Tryz.func184.trans (congrArg some (by kernel_rfl))
  t4 := Tryz.underlying4
  a4 := Tryz.isAgg4
  z4 := Tryz.sizeOf4
  v4 := Tryz.zeroValue4
  t21 := Tryz.underlying21
  a21 := Tryz.isAgg21
  z21 := Tryz.sizeOf21
  v21 := Tryz.zeroValue21 }
theorem Tryz.utf8_ValidRune (r : Int) (w : World) :
    Calls Tryz.prog 184 #[.int .i32 r] w fun e w' => e = .returned (.bool (Lib.validRune r)) ∧ w' = w := Any.utf8_ValidRune Tryz.lays119 r w
def Tryz.lays137_ren : Go.Shelf.Ren := ⟨fun | 137 => 58 | 217 => 86 | 266 => 118 | n => n, fun | 9 => 9 | 5 => 5 | 3 => 3 | n => n, fun | n => n⟩
theorem Tryz.lays137 : Go.Proofs.Lays.n137 Tryz.prog Tryz.lays137_ren := {
  mixed := by kernel_rfl
  f137 := Tryz.func58.trans (congrArg some (by kernel_rfl))
  f217 := Tryz.func86.trans (congrArg some (by kernel_rfl))
  f266 := Tryz.func118.trans (congrArg some (by kernel_rfl))
  t3 := Tryz.underlying3
  a3 := Tryz.isAgg3
  z3 := Tryz.sizeOf3
  v3 := Tryz.zeroValue3
  t5 := Tryz.underlying5
  a5 := Tryz.isAgg5
  z5 := Tryz.sizeOf5
  v5 := Tryz.zeroValue5
  t9 := Tryz.underlying9
  a9 := Tryz.isAgg9
  z9 := Tryz.sizeOf9
  v9 := Tryz.zeroValue9 }
open Go.RowKit in
theorem Tryz.strings_IndexByte (s : ByteArray) (c : Int) (w : World) :
    Calls Tryz.prog 58 #[.string s, .int .u8 c] w fun e w' => e = .returned (.int .i64 (Lib.indexByte s.data.toList c.toNat.toUInt8)) ∧ w' = w := Any.strings_IndexByte Tryz.lays137 s c w
def Tryz.lays219_ren : Go.Shelf.Ren := ⟨fun | 219 => 199 | 217 => 86 | 225 => 186 | 224 => 185 | 267 => 206 | 266 => 118 | 314 => 209 | n => n, fun | 9 => 9 | 3 => 3 | 4 => 4 | 5 => 5 | 46 => 143 | 146 => 239 | 51 => 238 | n => n, fun | 1 => 0 | n => n⟩
theorem Tryz.lays219 : Go.Proofs.Lays.n219 Tryz.prog Tryz.lays219_ren := {
  mixed := by kernel_rfl
  f217 := Tryz.func86.trans (congrArg some (by kernel_rfl))
  f219 := Tryz.func199.trans (congrArg some (by kernel_rfl))
  f224 := Tryz.func185.trans (congrArg some (by kernel_rfl))
  f225 := Tryz.func186.trans (congrArg some (by kernel_rfl))
  f266 := Tryz.func118.trans (congrArg some (by kernel_rfl))
  f267 := Tryz.func206.trans (congrArg some (by kernel_rfl))
  f314 := Tryz.func209.trans (congrArg some (by kernel_rfl))
  t3 := Tryz.underlying3
  a3 := Tryz.isAgg3
  z3 := Tryz.sizeOf3
  v3 := Tryz.zeroValue3
  t4 := Tryz.underlying4
  a4 := Tryz.isAgg4
  z4 := Tryz.sizeOf4
  v4 := Tryz.zeroValue4
  t5 := Tryz.underlying5
  a5 := Tryz.isAgg5
  z5 := Tryz.sizeOf5
  v5 := Tryz.zeroValue5
  t9 := Tryz.underlying9
  a9 := Tryz.isAgg9
  z9 := Tryz.sizeOf9
  v9 := Tryz.zeroValue9
  t46 := Tryz.underlying143
  a46 := Tryz.isAgg143
  z46 := Tryz.sizeOf143
  v46 := Tryz.zeroValue143
  t51 := Tryz.underlying238
  a51 := Tryz.isAgg238
  z51 := Tryz.sizeOf238
  v51 := Tryz.zeroValue238
  t146 := Tryz.underlying239
  a146 := Tryz.isAgg239
  z146 := Tryz.sizeOf239
  v146 := Tryz.zeroValue239
  g1 := by kernel_rfl }
open Go.RowKit Go.Lib in
theorem Tryz.stringslite_Index_one (s : ByteArray) (c : UInt8) (w : World) :
    Calls Tryz.prog 199 #[.string s, .string ⟨#[c]⟩] w fun e w' => e = .returned (.int .i64 (Lib.indexByte s.data.toList c)) ∧ w' = w := Any.stringslite_Index_one Tryz.lays219 s c w
def Tryz.lays152_ren : Go.Shelf.Ren := ⟨fun | 152 => 161 | 137 => 58 | 119 => 184 | 224 => 185 | 225 => 186 | 217 => 86 | 266 => 118 | n => n, fun | 9 => 9 | 21 => 21 | 3 => 3 | 4 => 4 | 5 => 5 | 0 => 0 | 46 => 143 | n => n, fun | n => n⟩
theorem Tryz.lays152 : Go.Proofs.Lays.n152 Tryz.prog Tryz.lays152_ren := {
  mixed := by kernel_rfl
  f119 := Tryz.func184.trans (congrArg some (by kernel_rfl))
  f137 := Tryz.func58.trans (congrArg some (by kernel_rfl))
  f152 := Tryz.func161.trans (congrArg some (by kernel_rfl))
  f217 := Tryz.func86.trans (congrArg some (by kernel_rfl))
  f224 := Tryz.func185.trans (congrArg some (by kernel_rfl))
  f225 := Tryz.func186.trans (congrArg some (by kernel_rfl))
  f266 := Tryz.func118.trans (congrArg some (by kernel_rfl))
  t0 := Tryz.underlying0
  a0 := Tryz.isAgg0
  z0 := Tryz.sizeOf0
  v0 := Tryz.zeroValue0
  t3 := Tryz.underlying3
  a3 := Tryz.isAgg3
  z3 := Tryz.sizeOf3
  v3 := Tryz.zeroValue3
  t4 := Tryz.underlying4
  a4 := Tryz.isAgg4
  z4 := Tryz.sizeOf4
  v4 := Tryz.zeroValue4
  t5 := Tryz.underlying5
  a5 := Tryz.isAgg5
  z5 := Tryz.sizeOf5
  v5 := Tryz.zeroValue5
  t9 := Tryz.underlying9
  a9 := Tryz.isAgg9
  z9 := Tryz.sizeOf9
  v9 := Tryz.zeroValue9
  t21 := Tryz.underlying21
  a21 := Tryz.isAgg21
  z21 := Tryz.sizeOf21
  v21 := Tryz.zeroValue21
  t46 := Tryz.underlying143
  a46 := Tryz.isAgg143
  z46 := Tryz.sizeOf143
  v46 := Tryz.zeroValue143 }
open Go.RowKit Go.Lib in
theorem Tryz.strings_IndexRune_ascii (s : ByteArray) (r : Int) (w : World) (h0 : 0 ≤ r) (h1 : r < 128) :
    Calls Tryz.prog 161 #[.string s, .int .i32 r] w fun e w' => e = .returned (.int .i64 (Lib.indexByte s.data.toList r.toNat.toUInt8)) ∧ w' = w := Any.strings_IndexRune_ascii Tryz.lays152 s r w h0 h1
def Tryz.lays226_ren : Go.Shelf.Ren := ⟨fun | 226 => 162 | n => n, fun | 3 => 3 | 4 => 4 | n => n, fun | n => n⟩
theorem Tryz.lays226 : Go.Proofs.Lays.n226 Tryz.prog Tryz.lays226_ren := {
  mixed := by kernel_rfl
  f226 := Tryz.func162.trans (congrArg some (by kernel_rfl))
  t3 := Tryz.underlying3
  a3 := Tryz.isAgg3
  z3 := Tryz.sizeOf3
  v3 := Tryz.zeroValue3
  t4 := Tryz.underlying4
  a4 := Tryz.isAgg4
  z4 := Tryz.sizeOf4
  v4 := Tryz.zeroValue4 }
open Go.RowKit Go.Lib in
theorem Tryz.strings_shouldUseASCIISet (n : Int) (w : World) :
    Calls Tryz.prog 162 #[.int .i64 n] w fun e w' => e = .returned (.bool (decide (8 < n))) ∧ w' = w := Any.strings_shouldUseASCIISet Tryz.lays226 n w
def Tryz.lays153_ren : Go.Shelf.Ren := ⟨fun | 153 => 127 | 152 => 161 | 226 => 162 | 227 => 132 | 228 => 163 | 137 => 58 | 119 => 184 | 224 => 185 | 225 => 186 | 217 => 86 | 266 => 118 | n => n, fun | 9 => 9 | 3 => 3 | 4 => 4 | 5 => 5 | 21 => 21 | 117 => 193 | 116 => 192 | 0 => 0 | 46 => 143 | 124 => 196 | n => n, fun | n => n⟩
theorem Tryz.lays153 : Go.Proofs.Lays.n153 Tryz.prog Tryz.lays153_ren := {
  mixed := by kernel_rfl
  f119 := Tryz.func184.trans (congrArg some (by kernel_rfl))
  f137 := Tryz.func58.trans (congrArg some (by kernel_rfl))
  f152 := Tryz.func161.trans (congrArg some (by kernel_rfl))
  f153 := Tryz.func127.trans (congrArg some (by kernel_rfl))
  f217 := Tryz.func86.trans (congrArg some (by kernel_rfl))
  f224 := Tryz.func185.trans (congrArg some (by kernel_rfl))
  f225 := Tryz.func186.trans (congrArg some (by kernel_rfl))
  f226 := Tryz.func162.trans (congrArg some (by kernel_rfl))
  f227 := Tryz.func132.trans (congrArg some (by kernel_rfl))
  f228 := Tryz.func163.trans (congrArg some (by kernel_rfl))
  f266 := Tryz.func118.trans (congrArg some (by kernel_rfl))
  t0 := Tryz.underlying0
  a0 := Tryz.isAgg0
  z0 := Tryz.sizeOf0
  v0 := Tryz.zeroValue0
  t3 := Tryz.underlying3
  a3 := Tryz.isAgg3
  z3 := Tryz.sizeOf3
  v3 := Tryz.zeroValue3
  t4 := Tryz.underlying4
  a4 := Tryz.isAgg4
  z4 := Tryz.sizeOf4
  v4 := Tryz.zeroValue4
  t5 := Tryz.underlying5
  a5 := Tryz.isAgg5
  z5 := Tryz.sizeOf5
  v5 := Tryz.zeroValue5
  t9 := Tryz.underlying9
  a9 := Tryz.isAgg9
  z9 := Tryz.sizeOf9
  v9 := Tryz.zeroValue9
  t21 := Tryz.underlying21
  a21 := Tryz.isAgg21
  z21 := Tryz.sizeOf21
  v21 := Tryz.zeroValue21
  t46 := Tryz.underlying143
  a46 := Tryz.isAgg143
  z46 := Tryz.sizeOf143
  v46 := Tryz.zeroValue143
  t116 := Tryz.underlying192
  a116 := Tryz.isAgg192
  z116 := Tryz.sizeOf192
  t117 := Tryz.underlying193
  a117 := Tryz.isAgg193
  z117 := Tryz.sizeOf193
  v117 := Tryz.zeroValue193
  t124 := Tryz.underlying196
  a124 := Tryz.isAgg196
  z124 := Tryz.sizeOf196
  v124 := Tryz.zeroValue196 }
open Go.RowKit Go.Lib in
theorem Tryz.strings_IndexAny_long (hv116 : ∀ w, (zeroValue 192).run Tryz.prog w = .ok (.agg (Array.replicate 256 (.bool false))) w) (s chars : ByteArray) (w : World) (h2 : 2 ≤ chars.size) (h8 : 8 < s.size) (hs : s.size < 4294967281) (hcs : chars.size < 4294967281) (hascii : ∀ (j : Nat) b, chars.data.toList[j]? = some b → b.toNat < 128) :
    Calls Tryz.prog 127 #[.string s, .string chars] w fun e w' => e = .returned (.int .i64 (Lib.indexAny s.data.toList chars.data.toList)) ∧ w' = ((w.alloc (.cells (Lib.setCells chars.data.toList) 192)).alloc (.cells (Lib.setCells chars.data.toList) 192)) := Any.strings_IndexAny_long Tryz.lays153 hv116 (by kernel_rfl) s chars w h2 h8 hs hcs hascii
def Tryz.lays105_ren : Go.Shelf.Ren := ⟨fun | 105 => 164 | 212 => 187 | 99 => 188 | 165 => 189 | 166 => 190 | 170 => 191 | 169 => 192 | 263 => 200 | 264 => 201 | 206 => 202 | 240 => 203 | 241 => 204 | 276 => 207 | 277 => 208 | n => n, fun | 9 => 9 | 3 => 3 | 4 => 4 | 20 => 20 | 0 => 0 | 46 => 143 | 109 => 225 | 5 => 5 | 72 => 230 | 76 => 234 | 51 => 238 | 146 => 239 | 53 => 90 | 148 => 241 | 70 => 228 | 37 => 22 | 75 => 233 | 127 => 243 | 164 => 249 | 80 => 121 | n => n, fun | n => n⟩
theorem Tryz.lays105 : Go.Proofs.Lays.n105 Tryz.prog Tryz.lays105_ren := {
  mixed := by kernel_rfl
  f99 := Tryz.func188.trans (congrArg some (by kernel_rfl))
  f105 := Tryz.func164.trans (congrArg some (by kernel_rfl))
  f165 := Tryz.func189.trans (congrArg some (by kernel_rfl))
  f166 := Tryz.func190.trans (congrArg some (by kernel_rfl))
  f169 := Tryz.func192.trans (congrArg some (by kernel_rfl))
  f170 := Tryz.func191.trans (congrArg some (by kernel_rfl))
  f206 := Tryz.func202.trans (congrArg some (by kernel_rfl))
  f212 := Tryz.func187.trans (congrArg some (by kernel_rfl))
  f240 := Tryz.func203.trans (congrArg some (by kernel_rfl))
  f241 := Tryz.func204.trans (congrArg some (by kernel_rfl))
  f263 := Tryz.func200.trans (congrArg some (by kernel_rfl))
  f264 := Tryz.func201.trans (congrArg some (by kernel_rfl))
  f276 := Tryz.func207.trans (congrArg some (by kernel_rfl))
  f277 := Tryz.func208.trans (congrArg some (by kernel_rfl))
  t0 := Tryz.underlying0
  a0 := Tryz.isAgg0
  z0 := Tryz.sizeOf0
  v0 := Tryz.zeroValue0
  t3 := Tryz.underlying3
  a3 := Tryz.isAgg3
  z3 := Tryz.sizeOf3
  v3 := Tryz.zeroValue3
  t4 := Tryz.underlying4
  a4 := Tryz.isAgg4
  z4 := Tryz.sizeOf4
  v4 := Tryz.zeroValue4
  t5 := Tryz.underlying5
  a5 := Tryz.isAgg5
  z5 := Tryz.sizeOf5
  v5 := Tryz.zeroValue5
  t9 := Tryz.underlying9
  a9 := Tryz.isAgg9
  z9 := Tryz.sizeOf9
  v9 := Tryz.zeroValue9
  t20 := Tryz.underlying20
  a20 := Tryz.isAgg20
  z20 := Tryz.sizeOf20
  v20 := Tryz.zeroValue20
  t37 := Tryz.underlying22
  a37 := Tryz.isAgg22
  z37 := Tryz.sizeOf22
  v37 := Tryz.zeroValue22
  t46 := Tryz.underlying143
  a46 := Tryz.isAgg143
  z46 := Tryz.sizeOf143
  v46 := Tryz.zeroValue143
  t51 := Tryz.underlying238
  a51 := Tryz.isAgg238
  z51 := Tryz.sizeOf238
  v51 := Tryz.zeroValue238
  t53 := Tryz.underlying90
  a53 := Tryz.isAgg90
  z53 := Tryz.sizeOf90
  v53 := Tryz.zeroValue90
  t70 := Tryz.underlying228
  a70 := Tryz.isAgg228
  z70 := Tryz.sizeOf228
  v70 := Tryz.zeroValue228
  t72 := Tryz.underlying230
  a72 := Tryz.isAgg230
  z72 := Tryz.sizeOf230
  v72 := Tryz.zeroValue230
  t75 := Tryz.underlying233
  a75 := Tryz.isAgg233
  z75 := Tryz.sizeOf233
  v75 := Tryz.zeroValue233
  t76 := Tryz.underlying234
  a76 := Tryz.isAgg234
  z76 := Tryz.sizeOf234
  v76 := Tryz.zeroValue234
  t109 := Tryz.underlying225
  a109 := Tryz.isAgg225
  z109 := Tryz.sizeOf225
  v109 := Tryz.zeroValue225
  t127 := Tryz.underlying243
  a127 := Tryz.isAgg243
  z127 := Tryz.sizeOf243
  v127 := Tryz.zeroValue243
  t146 := Tryz.underlying239
  a146 := Tryz.isAgg239
  z146 := Tryz.sizeOf239
  v146 := Tryz.zeroValue239
  t148 := Tryz.underlying241
  a148 := Tryz.isAgg241
  z148 := Tryz.sizeOf241
  v148 := Tryz.zeroValue241
  t164 := Tryz.underlying249
  a164 := Tryz.isAgg249
  z164 := Tryz.sizeOf249
  v164 := Tryz.zeroValue249 }
theorem Tryz.Builder_Extra_105 : Builder.Extra Tryz.prog Tryz.lays105_ren := {
  sizeBuilder := by kernel_rfl
  liesBuilder := by kernel_rfl
  t5 := Tryz.underlying5
  a5 := Tryz.isAgg5
  z5 := Tryz.sizeOf5
  v5 := Tryz.zeroValue5
  infoByte := by kernel_rfl
  cellsByte := by kernel_rfl
  sizeByte := by kernel_rfl
  neB5 := by decide }
open Go.RowKit Go.Lib in
theorem Tryz.strings_Repeat (s : ByteArray) (c : Nat) (w : World) (hc : c ≤ 9223372036854775807) (hlen : s.size * c ≤ 140737488355328) :
    Calls Tryz.prog 164 #[.string s, .int .i64 c] w fun e w' => e = .returned (.string ⟨(Lib.repeatL s.data.toList c).toArray⟩) ∧ Below w.heap.size w w' := Any.strings_Repeat Tryz.lays105 Tryz.Builder_Extra_105 s c w hc hlen
end Go.Proofs
