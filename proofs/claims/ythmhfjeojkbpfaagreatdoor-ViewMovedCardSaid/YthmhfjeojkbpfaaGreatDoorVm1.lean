/-
  What the claim leans on, part 1: pruned and joined by my own tool out of the texts that stand in wip/ as templates.
-/
import Derived.WalkKit
import Derived.WalkSpells
import Derived.WalkLawsBesides
import Derived.Test.YthmhfjeojkbpfaaGreatDoorRows
import Derived.Deep.QuietTactic
import Derived.StillTail
import Derived.Laws.BytesString
import Derived.Laws.Slices
import Derived.Carry
import Derived.ChangeSlices
import Derived.Lib.ConvBytes
import Derived.Laws.AppendOwn
import Derived.Lib.FrozenHead
import Derived.Lib.AppendStr
import Derived.Laws.CopyRow
import Derived.Deep.MidRow
import Derived.Lib.SliceRun
import Derived.Deep.Slices
import Derived.ProofKit
import Derived.OpenShut
import Derived.Stop.BytesEq
import Derived.Shelf.Strings.Builder1
import Derived.Shelf.Strings.Builder2
import Derived.Shelf.Strings.Trim
import Derived.Shelf.Small.Utf8
import Derived.Shelf.Small.Strs
import Derived.Shelf.Strings.BuilderF
import Derived.Shelf.Strings.BuilderK
import Derived.Shelf.Strings.Builder2Cap
import Derived.Shelf.Strings.Search1
import Derived.Shelf.Strings.Search2
import Derived.Shelf.Strings.Cut
import Derived.Shelf.LaysM
import Derived.Shelf.Strings.Shaped
import Derived.Shelf.Strings.Prefix
import Derived.Shelf.Unicode.Decode
import Derived.Shelf.Strings.Runes
import Derived.Shelf.Strings.IndexAny
import Derived.Shelf.Strings.AsciiSet
import Derived.Shelf.Strings.IndexAnyAll
import Derived.Shelf.Bits.Mul64
import Derived.Shelf.Strings.Repeat
import Derived.Shelf.Unicode.DecodeSlow
import Derived.Shelf.Unicode.DecodeAny
import Derived.Shelf.Unicode.DecodeLast
import Derived.Shelf.Strings.BuilderCap
import Derived.Test.YthmhfjeojkbpfaaGreatDoorProg
import Derived.Shelf.Strings.SlTrimAscii
import Derived.BigQuiet
import Derived.Deep.DeepCutAuto
import Derived.Recover
import Derived.Lib.AppendZerosOnto
import Derived.Laws.OwnMore
import Derived.OrdersHeld
import Derived.Laws.Entries
import Derived.RangeFuncIn
import Derived.RangeFuncLeaves
import Derived.RangeFuncOwn
import Derived.Test.YthmhfjeojkbpfaaGreatDoorCards
import Derived.Test.YthmhfjeojkbpfaaGreatDoorTie
import Derived.Deep.DeepHandedRow
import Derived.Lib.LaidTab
set_option maxHeartbeats 6400000
set_option maxRecDepth 100000
namespace Go.Proofs.YthmhfjeojkbpfaaGreatDoor
open Go.RowKit
open Go.Proofs.Tryz
abbrev l8_:=List UInt8
abbrev Dr:=@And.intro
abbrev Ba:=@Array.getD_eq_getD_getElem?
abbrev Fd:=@Array.getElem?_eq_getElem
abbrev CL:=@Array.getElem?_eq_none
abbrev BJ:=@Array.getElem?_eq_some_iff
abbrev Dz:=@Array.getElem?_toList
abbrev SH:=@Bool.and_eq_false_iff
abbrev A4:=@Bool.and_eq_true
abbrev Nu:=@Bool.and_false
abbrev Kw:=@Bool.eq_false_iff
abbrev B1:=@Bool.eq_iff_iff
abbrev IC:=@Bool.false_and
abbrev BN:=@Bool.false_eq_true
abbrev BT:=@Bool.not_eq_false'
abbrev AP:=@Bool.not_eq_true'
abbrev Ee:=@Bool.or_eq_false_iff
abbrev BC:=@Bool.or_eq_true
abbrev BV:=@Bool.true_and
abbrev BS:=@DataW.trod_int
abbrev B8:=@List.all_cons
abbrev At:=@List.all_eq_true
abbrev AB:=@List.append_assoc
abbrev Bv:=@List.append_nil
abbrev DT:=@List.cons.injEq
abbrev G5:=@List.cons_append
abbrev Kv:=@List.drop_drop
abbrev Ar:=@List.drop_eq_getElem_cons
abbrev Bf:=@List.drop_eq_nil_of_le
abbrev Fl:=@List.drop_length
abbrev Nt:=@List.drop_zero
abbrev CM:=@List.eq_nil_of_length_eq_zero
abbrev CG:=@List.flatMap_cons
abbrev DS:=@List.foldl_cons
abbrev Cc:=@List.getD_eq_getElem?_getD
abbrev A8f:=@List.getElem?_append_left
abbrev A6X:=@List.getElem?_append_right
abbrev A6:=@List.getElem?_eq_getElem
abbrev AO:=@List.getElem?_eq_none
abbrev C2:=@List.getElem?_eq_some_iff
abbrev GM:=@List.getElem_append_left
abbrev Gx:=@List.getElem_append_right
abbrev HS:=@List.getElem_cons_succ
abbrev B3:=@List.getElem_cons_zero
abbrev AM:=@List.getElem_mem
abbrev A9:=@List.length_append
abbrev A8:=@List.length_cons
abbrev B9:=@List.length_drop
abbrev CB:=@List.length_eq_zero_iff
abbrev B0:=@List.length_map
abbrev Ag:=@List.length_nil
abbrev I5:=@List.length_replicate
abbrev E0:=@List.length_reverse
abbrev Ck:=@List.length_singleton
abbrev AT:=@List.length_take
abbrev Bp:=@List.map_append
abbrev C3:=@List.map_cons
abbrev Da:=@List.map_nil
abbrev B4:=@List.mem_append
abbrev Ax:=@List.mem_cons
abbrev FR:=@List.mem_map
abbrev DL:=@List.mem_of_mem_drop
abbrev DK:=@List.mem_of_mem_take
abbrev Ao:=@List.mem_singleton
abbrev CJ:=@List.nil_append
abbrev AK:=@List.not_mem_nil
abbrev A1R:=@List.take_append
abbrev Fh:=@List.take_append_drop
abbrev Ca:=@List.take_length
abbrev AR:=@List.take_of_length_le
abbrev Bd:=@List.take_succ_eq_append_getElem
abbrev A6W:=@List.take_zero
abbrev A8l:=@Nat.add_assoc
abbrev D9:=@Nat.eq_of_beq_eq_true
abbrev HR:=@Nat.eq_zero_or_pos
abbrev C6:=@Nat.lt_of_lt_of_le
abbrev Dj:=@Nat.lt_of_succ_le
abbrev BL:=@Nat.lt_or_ge
abbrev Cp:=@Nat.lt_succ_iff_lt_or_eq
abbrev Cz:=@Nat.mul_le_mul_right
abbrev A9v:=@Nat.ne_of_lt
abbrev Ku:=@Nat.sub_self
abbrev Ey:=@Nat.zero_add
abbrev Ei:=@Option.some.inj
abbrev Br:=@Option.some.injEq
abbrev CR:=@Prod.mk.injEq
abbrev AX:=@Result.andThen_ok
abbrev Bq:=@Sem.run_bind
abbrev CC:=@Sem.run_pure
abbrev BO:=@True.intro
abbrev CE:=@UInt8.toNat_lt
abbrev DZ:=@beq_eq_false_iff_ne
abbrev CK:=@bodyPost_ret
abbrev Bk:=@congrArg
abbrev DX:=@decide_eq_decide
abbrev An:=@decide_eq_false
abbrev Aw:=@decide_eq_false_iff_not
abbrev Al:=@decide_eq_true
abbrev Ad:=@decide_eq_true_eq
abbrev A2:=@if_neg
abbrev A7:=@if_pos
abbrev Bh:=@not_false_eq_true
abbrev Cl:=@or_false
abbrev B7:=@run_underlying
abbrev ptV (b:Nat):Value:=.pointer (some ⟨b,0,none⟩)
abbrev Ah (n:Int):Value:=.int .i64 n
theorem DR (w:World):Below w.heap.size w w:=Below.refl _ _
abbrev AD (w w1:World):Prop:=Below w.heap.size w w1
abbrev C9 (F:FuncId) (xs:Array Value) (w:World) (v:Value):Prop:=Calls Tryz.prog F xs w λe w'=>e=.returned v/\Below w.heap.size w w'
abbrev g22_:=@isAgg22
abbrev OM:=@isAgg29
abbrev BE:=@isAgg3
abbrev GL:=@isAgg30
abbrev JG:=@isAgg34
abbrev JY:=@isAgg38
abbrev L8:=@isAgg39
abbrev g4_:=@isAgg4
abbrev P3:=@isAgg5
abbrev UY:=@isAgg65
abbrev PE:=@isAgg69
abbrev Sc:=@isAgg71
abbrev He:=@isAgg72
abbrev Li:=@isAgg9
abbrev Gr:=@sizeOf22
abbrev Mi:=@sizeOf29
abbrev B6:=@sizeOf3
abbrev GJ:=@sizeOf30
abbrev HE:=@sizeOf34
abbrev K7:=@sizeOf37
abbrev Gg:=@sizeOf38
abbrev HX:=@sizeOf39
abbrev P2:=@sizeOf4
abbrev Nd:=@sizeOf41
abbrev HD:=@sizeOf42
abbrev Uy:=@sizeOf44
abbrev Iy:=@sizeOf5
abbrev Fa:=@sizeOf57
abbrev K6:=@sizeOf61
abbrev EL:=@sizeOf68
abbrev Pf:=@sizeOf69
abbrev M2:=@sizeOf71
abbrev F8:=@sizeOf72
abbrev M1:=@sizeOf9
abbrev Ux:=@sizeOf92
abbrev K5:=@sizeOf94
abbrev II:=@sizeOf99
abbrev CZ:=@underlying112
abbrev Gp:=@underlying133
abbrev Eo:=@underlying147
abbrev DI:=@underlying180
abbrev Tr:=@underlying216
abbrev BI:=@underlying22
abbrev R4:=@underlying23
abbrev A1Z:=@underlying25
abbrev JQ:=@underlying29
abbrev JL:=@underlying3
abbrev Mc:=@underlying30
abbrev Fk:=@underlying34
abbrev Vt:=@underlying35
abbrev H5:=@underlying37
abbrev Fj:=@underlying38
abbrev Dm:=@underlying39
abbrev u4_:=@underlying4
abbrev D7:=@underlying41
abbrev DM:=@underlying42
abbrev Db:=@underlying44
abbrev O8:=@underlying47
abbrev Ln:=@underlying5
abbrev Vs:=@underlying55
abbrev CQ:=@underlying57
abbrev Na:=@underlying61
abbrev Fv:=@underlying68
abbrev XB:=@underlying69
abbrev O7:=@underlying71
abbrev Fi:=@underlying72
abbrev BW:=@underlying74
abbrev Uo:=@underlying80
abbrev JK:=@underlying9
abbrev K4:=@underlying92
abbrev I3:=@underlying94
abbrev Kx:=@underlying97
abbrev CO:=@underlying99
abbrev J0:=@zeroValue147
abbrev PM:=@zeroValue3
abbrev Ql:=@zeroValue42
abbrev A1S:=@zeroValue44
abbrev Qk:=@zeroValue5
abbrev LZ:=@zeroValue57
abbrev Qj:=@zeroValue61
abbrev z9_:=@zeroValue9
abbrev Nv:=@zeroValue94
abbrev JE:=@zeroValue99
section
theorem EJ {p:Prop} (h:p):Hid p:=h
def P0 (w:World) (b:Nat) (l:List Value):Prop:=∀ j v,l[j]?=some v->w.cell? ⟨b,j,none⟩=some v/\w.frozen? ⟨b,j,none⟩=false
theorem P0.set {w:World} {b:Nat} {l:List Value} (h:P0 w b l) (i:Nat) (v:Value) (hi:i<l.length):P0 (w.setCell ⟨b,i,none⟩ v) b (l.set i v):=by
 intro j u hj
 rw [World.frozen?_setCell]
 by_cases e:i=j
 ·
  subst e
  rw [List.getElem?_set_self hi] at hj
  obtain rfl:v=u:=by simpa using hj
  obtain ⟨a,c⟩:=h i l[i] (by simp [hi])
  exact ⟨World.cell?_setCell_same _ _ _ a,c⟩
 ·
  rw [List.getElem?_set_ne e] at hj
  obtain ⟨a,c⟩:=h j u hj
  rw [World.cell?_setCell_other _ _ _ _ (by intro h;simp at h)]
  exact ⟨a,c⟩
def Az (l:l8_):List Value:=l.map λ(c:UInt8)=>Value.int .u8 (c.toNat:Int)
theorem DN {w w1 w2:World} (h:AD w w1) (k:AD w1 w2):AD w w2:=h.trans (k.mono h.size)
theorem PK (w:World) (q:Nat):AD w (w.drewN q):=⟨rfl,rfl,rfl,Nat.le_refl _,λ_ _=>rfl⟩
section
variable {P:Program}
theorem Tb (w:World) (s:ByteArray) (cap:Nat) (e:TypeId) (hc:s.size<=cap):P0 (w.drew.alloc (.cells (bytesRow s cap) e ((bytesRow s cap).size,(bytesRow s cap).size+1))) w.heap.size (Az s.data.toList):=by
 intro j v hj
 have hj':j<s.data.size:=by
  rcases BL j s.data.size with h | h
  · exact h
  · rw [AO (by simpa [Az] using h)] at hj;cases hj
 have c:(bytesRow s cap).size=cap:=by
  unfold bytesRow
  have a:s.data.size=s.size:=rfl
  simp [a];omega
 constructor
 ·
  have b:=World.cell?_alloc_mark w.drew (bytesRow s cap) e ((bytesRow s cap).size,(bytesRow s cap).size+1) j
  have d:=bytesRow_at s cap j hj'
  have a:w.drew.heap.size=w.heap.size:=rfl
  rw [a] at b
  rw [b,d,<- hj]
  simp only [Az,List.getElem?_map,Dz]
  rw [Fd hj'];rfl
 ·
  have b:=World.frozen?_alloc_mark w.drew (bytesRow s cap) e (bytesRow s cap).size ((bytesRow s cap).size+1) j
  have a:w.drew.heap.size=w.heap.size:=rfl
  rw [a] at b
  have f:s.data.size=s.size:=rfl
  rw [b,c]
  simp;omega
theorem EN {ops:Array Oper} {rest:List Oper} {o:Oper} {a:Act} {Q:Exit->Act->World->Prop} {w:World} (hg:o.guard=none) (x:Operand) (ts tb te:TypeId) (hop:o.op=.convert ts tb x)
  (h1:P.underlying ts=some .string) (h2:P.underlying tb=some (.slice te)) (h3:P.underlying te=some (.int .u8)) (s:ByteArray) (hx:a.eval x=.string s)
  (h : ∀ cap w', s.size ≤ cap → P0 w' w.heap.size (Az s.data.toList) → w.grownBy w' none → w'.heap.size = w.heap.size + 1 →
   wpList P ops Q rest (a.put o.dst (.slice (some ⟨w.heap.size,0,none⟩) s.size cap)) w'):wpList P ops Q (o::rest) a w:=by
 refine wpList_plain hg λK hK=>?_
 have hr:=run_bytes_of_string (P:=P) w ts tb te s h1 h2 h3
 unfold Oper.wp
 simp only [execOp,hop,hx,Bq,hr,Result.andThen,CC,Oper.upon]
 refine hK _ _ (h _ _ (grownCap_ge w s.size 0 te) ?_ ?_ ?_)
 · exact Tb w s _ te (grownCap_ge w s.size 0 te)
 · exact ⟨rfl,rfl,rfl,by simp,λk hk _=>heap_alloc_old w.drew _ hk⟩
 · simp
theorem G2 {w w':World} (h:w.grownBy w' none):AD w w' :=
 (Below.refl _ _).grown h (Nat.le_refl _) (by intro k hk;cases hk)
end
end
section
def Am (n:Int):Bool:=decide (-2147483648<=n) && decide (n<=2147483647)
theorem N2 {n:Int} (h:-2147483648<=n) (h':n<=2147483647):Am n=true:=by simp [Am,h,h']
theorem OP {n:Int} (h:n < -2147483648):Am n=false:=by
 have:¬ (-2147483648<=n):=by omega
 simp [Am,this]
theorem WK {n:Int} (h:2147483647<n):Am n=false:=by
 have:¬ (n<=2147483647):=by omega
 simp [Am,this]
theorem Jd (n:Int) (w:World) :
  Calls Tryz.prog 111 #[Ah n] w λe w'=>e=.returned (.bool (Am n))/\w=w':=by
 go_enter func111,ntmps111
 go_wp2
 ·
  go_ret
  have h:-2147483648<=n:=by assumption
  exact ⟨by simp [Am,h],rfl⟩
 ·
  go_ret
  have h:n < -2147483648:=by assumption
  exact ⟨by simp [OP h],rfl⟩
theorem Gs (n:Int) (w:World) :
  Calls Tryz.prog 15 #[Ah n] w λe w'=>e=.returned (.bool (Am n))/\w=w':=by
 go_enter func15,ntmps15
 go_wp2
 ·
  go_ret
  have h:-2147483648<=n:=by assumption
  exact ⟨by simp [Am,h],rfl⟩
 ·
  go_ret
  have h:n < -2147483648:=by assumption
  exact ⟨by simp [OP h],rfl⟩
def ch (n:Int):UInt8:=UInt8.ofNat n.toNat
def bs (l:l8_):ByteArray:=⟨l.toArray⟩
theorem G1 (a b:l8_):bs a++bs b=bs (a++b):=by
 apply ByteArray.ext
 simp [bs]
theorem BR (l:l8_):(bs l).size=l.length:=by simp [bs,ByteArray.size]
def Eb (n:Nat):l8_ :=
 if n<10 then [ch (48+n)] else Eb (n / 10)++[ch (48+(n % 10:Nat))]
termination_by n
theorem JZ (n:Nat) (h:n<10):Eb n=[ch (48+n)]:=by rw [Eb,A7 h]
theorem Sj (n:Nat) (h:10<=n):Eb n=Eb (n / 10)++[ch (48+(n % 10:Nat))]:=by rw [Eb,A2 (by omega)]
theorem Mz (k:Nat):∀ n:Nat,n<10 ^ (k+1)->(Eb n).length<=k+1:=by
  induction k with
  | zero=>intro n h;rw [Eb,A7 (by simpa using h)];simp
  | succ k ih =>
    intro n h
    rw [Eb]
    split
    · simp
    · have := ih (n / 10) (by rw [Nat.pow_succ] at h; omega)
      simp;omega
theorem JH (n:Nat) (h:n<18446744073709551616):(bs (Eb n)).size<=20:=by
 rw [BR];exact Mz 19 n (Nat.lt_trans h (by decide))
theorem A49 (w:World) (x:Int):(convert 22 9 (.slice (some ⟨w.heap.size,0,none⟩) 1 1)).run Tryz.prog (w.alloc (.cells #[.int .u8 x] 5)) =
    .ok (.string (bs [ch x])) (w.alloc (.cells #[.int .u8 x] 5)):=by
  have h:=run_convert_bytes_arg (P:=Tryz.prog) (w.alloc (.cells #[.int .u8 x] 5)) 22 5 BI Ln w.heap.size 0 1 1 [x] rfl
    (by intro i hi; obtain rfl : i = 0 := by omega
        go_simp) 9 JK
  exact h
theorem A2D (n:Nat) (w:World) (hn:n<18446744073709551616):
    C9 31 #[.int .u64 n] w (.string (bs (Eb n))):=by
  have b:=A49
  go_enter func31,ntmps31
  go_wp2_with fail
  go_loopw [0,3] (λu s wr=>∃ (m:Nat) (t:l8_),m<18446744073709551616/\u=.int .u64 m/\s=.string (bs t)/\AD w wr/\t.length+(Eb m).length<=20/\Eb n=Eb m++t) (λu _ _=>(intOf u).toNat)
  case atStart=>exact ⟨n,[],hn,rfl,rfl,Below.refl _ _,by have:=JH n hn;rw [BR] at this;simpa using this,by simp⟩
  case round =>
    obtain ⟨m,t,hm,rfl,rfl,hb,hl,hd⟩:=hrel
    have Hd:=EJ hd;clear hd
    have hs:(bs t).size<=20:=by rw [BR];omega
    have c:(bs [ch (48+(m:Int) % 10)]).size<=1:=by rw [BR];simp
    have a:=hb.size
    by_cases h10:m<10
    · have hz : (((m : Int) / 10) == 0) = true := by rw [beq_iff_eq]; omega
      go_wp2
      go_ret
      have e:(m:Int) % 10=(m:Int):=by omega
      exact ⟨by rw [Hd.out,JZ m h10,<- G1,e];rfl,hb.alloc a _⟩
    · have hz : (((m : Int) / 10) == 0) = false := by rw [DZ]; omega
      have hg:=Sj m (by omega)
      have Hg:=EJ hg;clear hg
      go_wp2
      refine ⟨⟨m / 10,ch (48+((m % 10:Nat):Int))::t,by omega,by go_num,by rw [G1];simp,hb.alloc a _,?_,?_⟩,by simp [intOf];omega⟩
      · have := Bk List.length Hg.out
        simp at this ⊢;omega
      · rw [Hd.out,Hg.out];simp
theorem TC (n:Int) (w:World) (h0:0<=n) (hn:n<18446744073709551616):
  C9 31 #[.int .u64 n] w (.string (bs (Eb n.toNat))):=by
 have h:=A2D n.toNat w (by omega)
 rw [Int.toNat_of_nonneg h0] at h
 exact h
def E9 (n:Int):l8_:=if n<0 then 45::Eb n.natAbs else Eb n.natAbs
theorem Ib (n:Int) (w:World) (h:-9223372036854775808<=n) (h':n<=9223372036854775807) :
    C9 12 #[Ah n] w (.string (bs (E9 n))):=by
  by_cases hn:n<0
  · have b := JH (-(n + 1) + 1).toNat (by omega)
    go_enter func12,ntmps12
    go_wp2_with (go_at_call 31;refine (TC _ _ (by omega) (by omega)).mono ?_;rintro e w' ⟨rfl,hb⟩)
    go_ret
    have a:(-(n+1)+1).toNat=n.natAbs:=by omega
    refine ⟨?_,hb⟩
    rw [E9,A7 hn,<- a]
    show Ending.returned (.string (bs [45]++bs _))=_
    rw [G1];rfl
  · go_enter func12, ntmps12
    go_wp2_with (go_at_call 31;refine (TC _ _ (by omega) (by omega)).mono ?_;rintro e w' ⟨rfl,hb⟩)
    go_ret
    have a:n.toNat=n.natAbs:=by omega
    refine ⟨?_,hb⟩
    rw [E9,A2 (by omega),<- a]
    rfl
theorem La (n:Int) (h:-9223372036854775808<=n) (h':n<=9223372036854775807):(bs (E9 n)).size<=21:=by
 have:=JH n.natAbs (by omega)
 rw [BR] at *
 unfold E9;split <;> simp <;> omega
end
section
def Ov (a b:Int):Int:=if 2 * a.tmod b ≥ b then a.tdiv b+1 else if -2 * a.tmod b ≥ b then a.tdiv b-1 else a.tdiv b
def Mb (n:Int):Int × Int:=if Am n=true then (n,0) else (0,18)
def LI (a b:Int):Int × Int:=if (Am a && Am b)=true then Mb (a+b) else (0,11)
def J2 (a b:Int):Int × Int:=if (Am a && Am b)=true then Mb (a-b) else (0,11)
def FN (a b:Int):Int × Int:=if (Am a && Am b)=true then Mb (Ov (a * b) 65536) else (0,11)
def KN:Int->List Int->Int × Int
 | t,[]=>(t,0)
 | t,n::r=>if (LI t n).2=0 then KN (LI t n).1 r else (0,(LI t n).2)
def EV (e f:Int):Int:=if e=0 then f else e
structure M6 where
 a:Int
 b:Int
 c:Int
 d:Int
 e:Int
 f:Int
def M9 (m:M6):List Value:=[Ah m.a,Ah m.b,Ah m.c,Ah m.d,Ah m.e,Ah m.f]
def O3:M6:=⟨65536,0,0,65536,0,0⟩
def Xu:M6:=⟨0,0,0,0,0,0⟩
def It (x y:Int):M6:=⟨65536,0,0,65536,x,y⟩
def m6S (x y:Int):M6:=⟨x,0,0,y,0,0⟩
def Kz (e a x c y:Int) (more:List Int):Int × Int :=
 let s:=KN 0 ((FN a x).1::(FN c y).1::more)
 (s.1,EV (EV (EV e (FN a x).2) (FN c y).2) s.2)
def IL (e x y:Int):(Int × Int) × Int:=if e≠0 then ((0,0),e) else ((x,y),0)
def Gk (m:M6) (x y:Int):(Int × Int) × Int :=
 let p:=Kz 0 m.a x m.c y [m.e]
 let q:=Kz p.2 m.b x m.d y [m.f]
 IL q.2 p.1 q.1
def IM (m:M6) (x y:Int):(Int × Int) × Int :=
 let p:=Kz 0 m.a x m.c y []
 let q:=Kz p.2 m.b x m.d y []
 IL q.2 p.1 q.1
def Di (a b:M6):M6 × Int :=
 let u:=IM b a.a a.b
 if u.2≠0 then (Xu,u.2) else
 let v:=IM b a.c a.d
 if v.2≠0 then (Xu,v.2) else
 let t:=Gk b a.e a.f
 if t.2≠0 then (Xu,t.2) else (⟨u.1.1,u.1.2,v.1.1,v.1.2,t.1.1,t.1.2⟩,0)
theorem Ko {n:Int} (h:Am n=true):-2147483648<=n/\n<=2147483647:=by unfold Am at h;simpa using h
theorem A3H {n:Int} (h1:-2147483648<=n) (h2:n<=2147483647):Am n=true:=by unfold Am;simp;omega
theorem Nx (n:Int):Am (Mb n).1=true:=by
 unfold Mb;split
 · assumption
 · decide
theorem A1H (a b:Int):Am (LI a b).1=true:=by
 unfold LI;split
 · exact Nx _
 · decide
theorem A0o (a b:Int):Am (J2 a b).1=true:=by
 unfold J2;split
 · exact Nx _
 · decide
theorem L4 (a b:Int):Am (FN a b).1=true:=by
 unfold FN;split
 · exact Nx _
 · decide
theorem A0m (l:List Int):∀ t,Am t=true->Am (KN t l).1=true:=by
 induction l with
 | nil=>intro t h;exact h
 | cons n r ih =>
  intro t h
  rw [KN];split
  · exact ih _ (A1H _ _)
  · exact (by decide:Am 0=true)
theorem ML (e a x c y:Int) (more:List Int):Am (Kz e a x c y more).1=true:=A0m _ _ (by decide)
theorem A12 {a b:Int} (ha:Am a=true) (hb:Am b=true):-4611686018427387904<=a * b/\a * b<=4611686018427387904:=by
 have d:=Ko ha
 have e:=Ko hb
 have c:a.natAbs * b.natAbs<=2147483648 * 2147483648:=Nat.mul_le_mul (by omega) (by omega)
 rw [<- Int.natAbs_mul] at c
 omega
end
section
abbrev Fr:=List (Nat × Value)
def look:Fr->Nat->Option Value
 | [],_=>none
 | (j,v)::r,i=>bif Nat.beq j i then some v else look r i
def D3 (f:Fr):Operand->Option Value
 | .tmp t=>look f t
 | .const v=>some v
 | .global g=>some (ptV g)
 | .func k=>some (.func (.func k) #[] #[])
def Sub:Fr->Fr->Prop
 | [],_=>True
 | (j,v)::g,f=>look f j=some v/\Sub g f
theorem Sub.look {g f:Fr} (h:Sub g f) {i:Nat} {v:Value} (hv:look g i=some v):look f i=some v:=by
 induction g with
 | nil=>cases hv
 | cons p g ih =>
  obtain ⟨j,u⟩:=p
  unfold Go.Proofs.YthmhfjeojkbpfaaGreatDoor.look at hv
  cases hb:Nat.beq j i with
  | true =>
   rw [hb] at hv
   obtain rfl:j=i:=D9 hb
   rw [h.1];exact hv
  | false=>rw [hb] at hv;exact ih h.2 hv
structure Sh where
 n:Nat
 D:List Deferred
def LK (n:Sh) (f:Fr) (a:Act):Prop:=a.defers=n.D/\a.tmps.size=n.n/\∀ i v,look f i=some v->a.tmps.getD i undef=v
theorem LK.sub {n:Sh} {f g:Fr} {a:Act} (h:LK n f a) (hs:Sub g f):LK n g a:=⟨h.1,h.2.1,λi v hv=>h.2.2 i v (hs.look hv)⟩
theorem LK.put {n:Sh} {f:Fr} {a:Act} (h:LK n f a) {d:Nat} (hd:Nat.blt d n.n=true) (v:Value):LK n ((d,v)::f) (a.put (some d) v):=by
 have b:d<n.n:=by simpa [Nat.blt_eq] using hd
 refine ⟨h.1,by simp [Act.put,h.2.1],λi u hu=>?_⟩
 show (a.tmps.setIfInBounds d v).getD i undef=u
 unfold look at hu
 cases hb:Nat.beq d i with
 | true =>
  obtain rfl:d=i:=D9 hb
  simp only [hb,cond_true,Br] at hu
  subst hu
  simp [Array.getD,h.2.1,b]
 | false =>
  simp only [hb,cond_false] at hu
  have c:d≠i:=λe=>by rw [e,Nat.beq_refl] at hb;cases hb
  have:=h.2.2 i u hu
  simp only [Ba] at this ⊢
  rw [Array.getElem?_setIfInBounds_ne c];exact this
def Agr (f:Fr) (ρ:Operand->Value):Prop:=∀ x v,D3 f x=some v->ρ x=v
theorem LK.agr {n:Sh} {f:Fr} {a:Act} (h:LK n f a):Agr f a.eval:=by
 intro x v hx
 cases x with
 | tmp t=>exact h.2.2 t v hx
 | const u=>exact Ei hx
 | global g=>exact Ei hx
 | func k=>exact Ei hx
section
variable {P:Program} {n:Sh}
def Hq (n:Sh) (Q:Exit->Fr->World->Prop):Exit->Act->World->Prop:=λe a w=>∃ f,LK n f a/\Q e f w
def W (P:Program) (n:Sh) (c:Code) (Q:Exit->Fr->World->Prop) (f:Fr) (w:World):Prop:=∀ a,LK n f a->c.wp P (Hq n Q) a w
def WL (P:Program) (n:Sh) (ops:Array Oper) (Q:Exit->Fr->World->Prop) (l:List Oper) (f:Fr) (w:World):Prop:=∀ a,LK n f a->wpList P ops (Hq n Q) l a w
def nx (K:Fr->World->Prop) (Q:Exit->Fr->World->Prop):Exit->Fr->World->Prop
 | .normal,f,w=>K f w
 | e,f,w=>Q e f w
def inb (id:Nat) (Q:Exit->Fr->World->Prop):Exit->Fr->World->Prop
 | .exit i,f,w=>bif Nat.beq i id then Q .normal f w else Q (.exit i) f w
 | e,f,w=>Q e f w
theorem W.weaken {c:Code} {Q:Exit->Fr->World->Prop} {f:Fr} {w:World} (g:Fr) (hs:Sub g f) (h:W P n c Q g w):W P n c Q f w :=
 λa ha=>h a (ha.sub hs)
theorem W.mono {c:Code} {Q Q':Exit->Fr->World->Prop} {f:Fr} {w:World} (h:W P n c Q f w) (hq:∀ e f w,Q e f w->Q' e f w):W P n c Q' f w :=
 λa ha=>wp_mono (h a ha) λ_ _ _ ⟨f',hr,hQ⟩=>⟨f',hr,hq _ _ _ hQ⟩
theorem Aj {x y:Code} {Q:Exit->Fr->World->Prop} {f:Fr} {w:World} (h:W P n x (nx (λf w=>W P n y Q f w) Q) f w):W P n (.seq x y) Q f w:=by
 intro a ha
 refine wp_seq (wp_mono (h a ha) ?_)
 rintro e a' w' ⟨f',hr,hQ⟩
 cases e with
 | normal=>exact hQ a' hr
 | _=>exact ⟨f',hr,hQ⟩
theorem dT {p:Prop} [Decidable p] (h:decide p=true):p:=of_decide_eq_true h
theorem dF {p:Prop} [Decidable p] (h:decide p=false):¬p:=of_decide_eq_false h
theorem oO {p:Prop} (h:p:=by omega):p:=h
theorem oC {p:Prop} (h:p:=by first | omega | (simp only [A8,Ag];omega)):p:=h
theorem oD {p:Prop} (h:p:=by first | omega | exact Nat.zero_lt_succ _):p:=h
theorem oE {p:Prop} (h:p:=by simp only [A8,Ag];omega):p:=h
theorem oF {p:Prop} (h:p:=by simp only [A9,A8,Ag];omega):p:=h
theorem rD {p:Prop} (h:p:=by first | rfl | decide):p:=h
theorem aS {p:Prop} (h:p:=by assumption):p:=h
theorem dD {p:Prop} (h:p:=by decide):p:=h
theorem kR {p:Prop} (h:p:=by kernel_rfl):p:=h
theorem oL {p:Prop} (h:p:=by simp only [A9,A8,Ag,B9] at *;omega):p:=h
theorem oQ {p:Prop} (h:p:=by first | decide | exact Nat.le_of_ble_eq_true rfl):p:=h
theorem oM {p:Prop} (h:p:=by ((try simp only) <;> omega)):p:=h
abbrev EU:=@Below.trans
abbrev BA:=@Nat.le_trans
abbrev FQ:=@Nat.le_refl
abbrev nz_:=@Nat.zero_lt_succ
abbrev Nh:=@Below.refl
abbrev IU:=@Nat.ne_of_lt
abbrev PA:=@List.cons_ne_nil
abbrev G8:=@Nat.zero_le
abbrev D6:=@absurd
abbrev ot_:=@of_decide_eq_true
theorem tT:True:=trivial
theorem tU:True/\True:=⟨trivial,trivial⟩
theorem eX {α:Type} (t:α):∃ u,u=t:=⟨t,rfl⟩
abbrev eX0:=@eX
theorem De {α:Type} (R:α->Fr) (S:α->World->Prop) {x y:Code} {Q:Exit->Fr->World->Prop} {f:Fr} {w:World}
  (h1:W P n x (nx (λf' w'=>∃ t,Sub (R t) f'/\S t w') Q) f w) (h2:∀ t w',S t w'->W P n y Q (R t) w'):W P n (.seq x y) Q f w:=by
 refine Aj (h1.mono ?_)
 intro e f' w' h
 cases e with
 | normal=>obtain ⟨t,hs,ht⟩:=h;exact (h2 t w' ht).weaken _ hs
 | _=>exact h
theorem W.skip {Q:Exit->Fr->World->Prop} {f:Fr} {w:World} (h:Q .normal f w):W P n .skip Q f w:=λ_ ha=>wp_skip ⟨f,ha,h⟩
abbrev Ap:=@W.skip
theorem C7 {Q:Exit->Fr->World->Prop} {f:Fr} {w:World} {id:Nat} (h:Q (.exit id) f w):W P n (.exit id) Q f w:=λ_ ha=>wp_exit ⟨f,ha,h⟩
theorem B2 {Q:Exit->Fr->World->Prop} {f:Fr} {w:World} (h:Q .ret f w):W P n .ret Q f w:=λ_ ha=>wp_ret ⟨f,ha,h⟩
theorem W.block {Q:Exit->Fr->World->Prop} {f:Fr} {w:World} {id:Nat} {c:Code} (h:W P n c (inb id Q) f w):W P n (.block id c) Q f w:=by
 intro a ha
 refine wp_block (wp_mono (h a ha) ?_)
 rintro e a' w' ⟨f',hr,hQ⟩
 cases e with
 | exit i =>
  simp only [Exit.inBlock]
  by_cases hi:i=id
  ·
   subst hi
   rw [A7 rfl]
   simp only [inb,Nat.beq_refl,cond_true] at hQ
   exact ⟨f',hr,hQ⟩
  ·
   rw [A2 hi]
   have hb:Nat.beq i id=false:=by
    cases h:Nat.beq i id with
    | false=>rfl
    | true=>exact D6 (D9 h) hi
   simp only [inb,hb,cond_false] at hQ
   exact ⟨f',hr,hQ⟩
 | _=>exact ⟨f',hr,hQ⟩
abbrev AU:=@W.block
theorem Ae {Q:Exit->Fr->World->Prop} {f:Fr} {w:World} {c:Operand} {x y:Code} {t:Bool} (hc:D3 f c=some (.bool t))
  (ht:t=true->W P n x Q f w) (hf:t=false->W P n y Q f w):W P n (.cond c x y) Q f w :=
 λa ha=>wp_cond_split (ha.agr _ _ hc) (λh=>ht h a ha) (λh=>hf h a ha)
theorem A4v {P:Program} {n:Sh} {Q:Exit->Fr->World->Prop} {f:Fr} {w:World} {c:Operand} {x y:Code} {p:Prop} [Decidable p] (hc:D3 f c=some (.bool (decide p))) (ht:p->W P n x Q f w) (hf:¬p->W P n y Q f w):W P n (.cond c x y) Q f w:=Ae hc (λe=>ht (of_decide_eq_true e)) (λe=>hf (of_decide_eq_false e))
theorem E3 {Q:Exit->Fr->World->Prop} {f:Fr} {w:World} {c:Operand} {x y:Code} {t:Bool} (hc:D3 f c=some (.bool t)) (e:t=true)
  (h:W P n x Q f w):W P n (.cond c x y) Q f w:=Ae hc (λ_=>h) (λh'=>by rw [e] at h';cases h')
theorem E4 {Q:Exit->Fr->World->Prop} {f:Fr} {w:World} {c:Operand} {x y:Code} {t:Bool} (hc:D3 f c=some (.bool t)) (e:t=false)
  (h:W P n y Q f w):W P n (.cond c x y) Q f w:=Ae hc (λh'=>by rw [e] at h';cases h') (λ_=>h)
theorem Cf {α:Type} (R:α->Fr) (S:α->World->Prop) (m:α->Nat) (t:α) {c:Code} {Q:Exit->Fr->World->Prop} {f:Fr} {w:World}
  (h0:Sub (R t) f) (h1:S t w) (round:∀ t w,S t w->W P n c (nx (λf' w'=>∃ u,Sub (R u) f'/\S u w'/\m u<m t) Q) (R t) w):W P n (.loop c) Q f w:=by
 intro a ha b k cs
 have key:∀ k' t a w,m t=k'->LK n (R t) a->S t w->∃ e a' w',Hq n Q e a' w'/\Arrives P (lone (b.at a (.code c::.inLoop c::k)) cs w) b k cs e a' w':=by
  intro k'
  induction k' using Nat.strongRecOn with
  | _ k' ih =>
   intro t a w hm hr hS
   obtain ⟨e,i,j,⟨f1,g,hq⟩,d⟩:=round t w hS a hr b (.inLoop c::k) cs
   cases e with
   | normal =>
    obtain ⟨u,hs,q,s⟩:=hq
    obtain ⟨y,A,B,v,o⟩:=ih (m u) (hm▸s) u i j rfl (g.sub hs) q
    exact ⟨y,A,B,v,.of_steps (Steps.trans d (.one step_inLoop)) o⟩
   | exit id=>exact ⟨_,i,j,⟨f1,g,hq⟩,.pass (x:=.inLoop c) rfl (λ_ _=>.inl (by simp)) d⟩
   | goto l=>exact ⟨_,i,j,⟨f1,g,hq⟩,.pass (x:=.inLoop c) rfl (λ_ _=>.inl (by simp)) d⟩
   | ret=>exact ⟨_,i,j,⟨f1,g,hq⟩,.pass (x:=.inLoop c) rfl (λ_ _=>.inl (by simp)) d⟩
   | panic ch=>exact ⟨_,i,j,⟨f1,g,hq⟩,.pass (x:=.inLoop c) rfl (λ_ _=>.inl (by simp)) d⟩
   | outgrown=>exact ⟨_,i,j,⟨f1,g,hq⟩,.pass (x:=.inLoop c) rfl (λ_ _=>.inl (by simp)) d⟩
 obtain ⟨e,a',w',hq,d⟩:=key _ t a w rfl (ha.sub h0) h1
 exact ⟨e,a',w',hq,.of_steps (.one step_loop) d⟩
theorem Ak {Q:Exit->Fr->World->Prop} {f:Fr} {w:World} {id:Nat} {l:List Oper} (h:WL P n l.toArray Q l f w):W P n (.region id l.toArray false) Q f w :=
 λa ha=>wp_region_lit (h a ha)
theorem A5 {P:Program} {n:Sh} {id:Nat} {l:List Oper} {y:Code} {Q:Exit->Fr->World->Prop} {f:Fr} {w:World} (h:WL P n l.toArray (nx (λf w=>W P n y Q f w) Q) l f w):W P n (.seq (.region id l.toArray false) y) Q f w:=Aj (Ak h)
def KD:Nat->List Value->Fr
 | _,[]=>[]
 | k,v::r=>(k,v)::KD (k+1) r
theorem Kh (l:List Value):∀ k i v,look (KD k l) i=some v->∃ j,i=k+j/\l[j]?=some v:=by
 induction l with
 | nil=>intro k i v h;cases h
 | cons u r ih =>
  intro k i v h
  unfold KD look at h
  cases hb:Nat.beq k i with
  | true =>
   simp only [hb,cond_true,Br] at h
   exact ⟨0,(D9 hb).symm,by simp [h]⟩
  | false =>
   simp only [hb,cond_false] at h
   obtain ⟨j,e,hj⟩:=ih (k+1) i v h
   exact ⟨j+1,oO,by simpa using hj⟩
def En (P:Program) (fn:Func) (f:Fr) (w:World) (v:Value):Prop:=∀ tmps:Array Value,(∀ i u,look f i=some u->tmps.getD i undef=u)->(results fn tmps).run P w=.ok v w
def Ji (P:Program) (fn:Func) (R:Ending->World->Prop):Exit->Fr->World->Prop
 | .normal,f,w | .ret,f,w=>∃ v,En P fn f w v/\R (.returned v) w
 | .panic chain,_,w=>R (.panicked chain) w
 | .outgrown,_,w=>R .outgrown w
 | _,_,_=>False
theorem A00 {F:FuncId} {fn:Func} {c:Code} {args:Array Value} {w:World} {R:Ending->World->Prop} (hf:P.funcs[F]?=some fn) (hb:fn.body=some c)
  {k:Nat} (hn:fn.ntmps=k) (hl:args.size<=k) (h:W P ⟨k,[]⟩ c (Ji P fn R) (KD 0 args.toList) w):Calls P F args w R:=by
 refine calls_of_wp hf hb (wp_mono (h _ ⟨rfl,by simp [hn];omega,?_⟩) ?_)
 ·
  intro i v hv
  obtain ⟨j,e,hj⟩:=Kh _ _ _ _ hv
  obtain rfl:i=j:=by omega
  have d:i<args.size:=by
   rcases BL i args.size with h | h
   · exact h
   · rw [AO (by simpa using h)] at hj;cases hj
  have hj':args[i]?=some v:=by rw [<- Dz];exact hj
  simp only [Ba]
  rw [Array.getElem?_append_left d,hj'];rfl
 ·
  rintro e a' w' ⟨f',hr,hQ⟩
  cases e with
  | normal=>obtain ⟨v,a,b⟩:=hQ;exact ⟨hr.1,v,a _ hr.2.2,b⟩
  | ret=>obtain ⟨v,a,b⟩:=hQ;exact ⟨hr.1,v,a _ hr.2.2,b⟩
  | panic ch=>exact ⟨hr.1,hQ⟩
  | outgrown=>exact hQ
  | exit i=>exact hQ.elim
  | goto l=>exact hQ.elim
abbrev B06:=@A00
theorem BK {fn:Func} {R:Ending->World->Prop} {f:Fr} {w:World} (hr:fn.results=#[]) (h:R (.returned (.tuple #[])) w):Ji P fn R .ret f w :=
 ⟨_,λ_ _=>results_none hr _ _ _,h⟩
theorem A4u {fn:Func} {R:Ending->World->Prop} {f:Fr} {w:World} {t:Tmp} {v:Value} (hr:fn.results=#[.tmp t]) (hv:look f t=some v)
  (h:R (.returned v) w):Ji P fn R .ret f w :=
 ⟨v,λtmps ht=>by rw [results_tmp hr,ht _ _ hv],h⟩
abbrev B0o:=@A4u
theorem AI {P:Program} {n:Sh} {fn:Func} {R:Ending->World->Prop} {Q:Exit->Fr->World->Prop} {f:Fr} {w:World} {t:Tmp} {v:Value} (h:R (.returned v) w) (hq:Ji P fn R .ret f w->Q .ret f w:=by exact id) (hr:fn.results=#[.tmp t]:=by rfl) (hv:look f t=some v:=by rfl):W P n .ret Q f w:=B2 (hq (A4u hr hv h))
theorem EG {fn:Func} {R:Ending->World->Prop} {f:Fr} {w:World} {t u:Tmp} {v x:Value} (hr:fn.results=#[.tmp t,.tmp u]) (hv:look f t=some v) (hx:look f u=some x)
  (h:R (.returned (.tuple #[v,x])) w):Ji P fn R .ret f w :=
 ⟨_,λtmps ht=>by rw [results_tmp2 hr,ht _ _ hv,ht _ _ hx],h⟩
theorem YQ {fn:Func} {R:Ending->World->Prop} {f:Fr} {w:World} {t u s:Tmp} {v x y:Value} (hr:fn.results=#[.tmp t,.tmp u,.tmp s]) (hv:look f t=some v) (hx:look f u=some x) (hy:look f s=some y)
  (h:R (.returned (.tuple #[v,x,y])) w):Ji P fn R .ret f w :=
 ⟨_,λtmps ht=>by rw [show (results fn tmps).run P w=.ok (.tuple #[tmps.getD t undef,tmps.getD u undef,tmps.getD s undef]) w by simp [results,hr],ht _ _ hv,ht _ _ hx,ht _ _ hy],h⟩
theorem N6 {fn:Func} {R:Ending->World->Prop} {f:Fr} {w:World} {t u s:Tmp} {ty:TypeId} {b:Addr} {v x y:Value} (hr:fn.results=#[.cell t ty,.tmp u,.tmp s])
  (ht:look f t=some (.pointer (some b))) (hv:(loadVar ty b).run P w=.ok v w) (hx:look f u=some x) (hy:look f s=some y)
  (h:R (.returned (.tuple #[v,x,y])) w):Ji P fn R .ret f w :=
 ⟨_,λtmps hh=>by
  have e1:=hh _ _ ht;have e2:=hh _ _ hx;have e3:=hh _ _ hy
  simp only [Ba] at e1 e2 e3
  simp [results,hr,e1,e2,e3,asAddr,hv],h⟩
def BM (P:Program) (op:Op) (f:Fr) (v:Value):Prop:=∀ ρ,Agr f ρ->∀ d ty pos aft g w,(execOp ρ ⟨d,op,ty,pos,aft,g⟩).run P w=.ok (.value v) w
theorem YO {ops:Array Oper} {Q:Exit->Fr->World->Prop} {f:Fr} {w:World} (h:Q .normal f w):WL P n ops Q [] f w:=λ_ ha=>wpList_nil ⟨f,ha,h⟩
abbrev A0:=@YO
theorem WL.run {ops:Array Oper} {Q:Exit->Fr->World->Prop} {f:Fr} {w w':World} {rest:List Oper} {d ty:Nat} {pos:String} {aft:Array Edge} {op:Op} {v:Value} (hd:Nat.blt d n.n=true)
  (h:∀ ρ,Agr f ρ->(execOp ρ ⟨some d,op,ty,pos,aft,none⟩).run P w=.ok (.value v) w') (k:WL P n ops Q rest ((d,v)::f) w'):WL P n ops Q (⟨some d,op,ty,pos,aft,none⟩::rest) f w:=by
 intro a ha
 refine wpList_plain rfl λK hK=>?_
 unfold Oper.wp
 rw [h _ ha.agr]
 exact hK _ _ (k _ (ha.put hd v))
theorem Sz {ops:Array Oper} {Q:Exit->Fr->World->Prop} {f:Fr} {w w':World} {rest:List Oper} {ty:Nat} {pos:String} {aft:Array Edge} {op:Op}
  (h:∀ ρ,Agr f ρ->(execOp ρ ⟨none,op,ty,pos,aft,none⟩).run P w=.ok .skip w') (k:WL P n ops Q rest f w'):WL P n ops Q (⟨none,op,ty,pos,aft,none⟩::rest) f w:=by
 intro a ha
 refine wpList_plain rfl λK hK=>?_
 unfold Oper.wp
 rw [h _ ha.agr]
 exact hK _ _ (k _ ha)
theorem YN {ops:Array Oper} {Q:Exit->Fr->World->Prop} {f:Fr} {w:World} {rest:List Oper} {d ty:Nat} {pos:String} {aft:Array Edge} {op:Op} {v:Value}
  (h:BM P op f v) (hd:Nat.blt d n.n=true) (k:WL P n ops Q rest ((d,v)::f) w):WL P n ops Q (⟨some d,op,ty,pos,aft,none⟩::rest) f w :=
 WL.run hd (λρ hρ=>h ρ hρ _ _ _ _ _ _) k
theorem A1 {P:Program} {n:Sh} {ops:Array Oper} {Q:Exit->Fr->World->Prop} {f:Fr} {w:World} {rest:List Oper} {d ty:Nat} {pos:String} {aft:Array Edge} {op:Op} {v:Value} (h:BM P op f v) (k:WL P n ops Q rest ((d,v)::f) w) (hd:Nat.blt d n.n=true:=by rfl):WL P n ops Q (⟨some d,op,ty,pos,aft,none⟩::rest) f w:=YN h hd k
theorem B5 {ops:Array Oper} {Q:Exit->Fr->World->Prop} {f:Fr} {w:World} {rest:List Oper} {d ty:Nat} {pos:String} {aft:Array Edge} {op:Op} {j dj:Nat} {b t:Bool}
    (hj:(ops[j]?).bind (·.dst)=some dj) (ht:look f dj=some (.bool t)) (hd:Nat.blt d n.n=true)
    (hy:t=b->WL P n ops Q (⟨some d,op,ty,pos,aft,none⟩::rest) f w) (hn:t=!b->WL P n ops Q rest ((d,undef)::f) w) :
    WL P n ops Q (⟨some d,op,ty,pos,aft,some (j,b)⟩::rest) f w:=by
  intro a ha
  have c:=ha.2.2 _ _ ht
  have e:yielded ops a.tmps j=some t:=by
    unfold yielded
    cases ho:ops[j]? with
    | none=>rw [ho] at hj;cases hj
    | some o =>
      rw [ho] at hj
      simp only [Option.bind_some] at hj
      have g:a.tmps[dj]?=some (.bool t):=by
        cases h:a.tmps[dj]? with
        | none=>rw [Ba,h] at c;cases c
        | some v=>rw [Ba,h] at c;exact Bk some c
      simp [hj,g]
  by_cases hb:t=b
  · have := hy hb a ha
    unfold wpList at this ⊢
    simp only [Region.wanted,e,hb,beq_self_eq_true,if_true] at this ⊢
    exact this
  · have hb' : t = !b := by revert hb; cases t <;> cases b <;> decide
    have:=hn hb' _ (ha.put hd undef)
    unfold wpList
    have hw:(some t == some b)=false:=by revert hb;cases t <;> cases b <;> decide
    simp only [Region.wanted,e,hw]
    exact this
theorem B05 {P:Program} {n:Sh} {ops:Array Oper} {Q:Exit->Fr->World->Prop} {f:Fr} {w:World} {rest:List Oper} {d ty:Nat} {pos:String} {aft:Array Edge} {op:Op} {j dj:Nat} {b:Bool} {p:Prop} [Decidable p] (hj:(ops[j]?).bind (·.dst)=some dj) (ht:look f dj=some (.bool (decide p))) (hd:Nat.blt d n.n=true) (hy:(match b with | true=>p | false=>¬p)->WL P n ops Q (⟨some d,op,ty,pos,aft,none⟩::rest) f w) (hn:(match b with | true=>¬p | false=>p)->WL P n ops Q rest ((d,undef)::f) w):WL P n ops Q (⟨some d,op,ty,pos,aft,some (j,b)⟩::rest) f w:=B5 hj ht hd (λe=>hy (by cases b with | true=>exact of_decide_eq_true e | false=>exact of_decide_eq_false e)) (λe=>hn (by cases b with | true=>exact of_decide_eq_false e | false=>exact of_decide_eq_true e))
theorem EK {ops:Array Oper} {Q:Exit->Fr->World->Prop} {f:Fr} {w:World} {rest:List Oper} {d ty:Nat} {pos:String} {aft:Array Edge} {op:Op} {j dj:Nat} {b t:Bool}
  (hj:(ops[j]?).bind (·.dst)=some dj) (ht:look f dj=some (.bool t)) (hd:Nat.blt d n.n=true) (e:t=b)
  (hy:WL P n ops Q (⟨some d,op,ty,pos,aft,none⟩::rest) f w):WL P n ops Q (⟨some d,op,ty,pos,aft,some (j,b)⟩::rest) f w :=
 B5 hj ht hd (λ_=>hy) (λh=>by rw [e] at h;cases b <;> cases h)
theorem Au {P:Program} {n:Sh} {ops:Array Oper} {Q:Exit->Fr->World->Prop} {f:Fr} {w:World} {rest:List Oper} {d ty:Nat} {pos:String} {aft:Array Edge} {op:Op} {j dj:Nat} {b t:Bool} (e:t=b) (hn:WL P n ops Q (⟨some d,op,ty,pos,aft,none⟩::rest) f w) (hj:(ops[j]?).bind (·.dst)=some dj:=by rfl) (ht:look f dj=some (.bool t):=by rfl) (hd:Nat.blt d n.n=true:=by rfl):WL P n ops Q (⟨some d,op,ty,pos,aft,some (j,b)⟩::rest) f w:=EK hj ht hd e hn
theorem EO {ops:Array Oper} {Q:Exit->Fr->World->Prop} {f:Fr} {w:World} {rest:List Oper} {d ty:Nat} {pos:String} {aft:Array Edge} {op:Op} {j dj:Nat} {b t:Bool}
  (hj:(ops[j]?).bind (·.dst)=some dj) (ht:look f dj=some (.bool t)) (hd:Nat.blt d n.n=true) (e:t=!b)
  (hn:WL P n ops Q rest ((d,undef)::f) w):WL P n ops Q (⟨some d,op,ty,pos,aft,some (j,b)⟩::rest) f w :=
 B5 hj ht hd (λh=>by rw [e] at h;cases b <;> cases h) (λ_=>hn)
theorem Ac {P:Program} {n:Sh} {ops:Array Oper} {Q:Exit->Fr->World->Prop} {f:Fr} {w:World} {rest:List Oper} {d ty:Nat} {pos:String} {aft:Array Edge} {op:Op} {j dj:Nat} {b t:Bool} (e:t=!b) (hn:WL P n ops Q rest ((d,undef)::f) w) (hj:(ops[j]?).bind (·.dst)=some dj:=by rfl) (ht:look f dj=some (.bool t):=by rfl) (hd:Nat.blt d n.n=true:=by rfl):WL P n ops Q (⟨some d,op,ty,pos,aft,some (j,b)⟩::rest) f w:=EO hj ht hd e hn
theorem WL.V {P:Program} {n:Sh} {f:Fr} {ops:Array Oper} {Q:Exit->Fr->World->Prop} {w:World} {rest:List Oper} {d ty:Nat} {pos:String} {aft:Array Edge} {op:Op} {j dj:Nat} {b t:Bool} (hn:WL P n ops Q rest ((d,undef)::f) w) (hj:(ops[j]?).bind (·.dst)=some dj:=by rfl) (ht:look f dj=some (.bool t):=by rfl) (hd:Nat.blt d n.n=true:=by rfl) (e:t=!b:=by rfl):WL P n ops Q (⟨some d,op,ty,pos,aft,some (j,b)⟩::rest) f w:=EO hj ht hd e hn
end
theorem Sf (l:l8_):(bs l).toList=l:=by simp [bs]
theorem WO (l:l8_) (a b:Nat):(bs l).extract a b=bs ((l.drop a).take (b-a)):=by
 apply ByteArray.ext
 simp [bs,List.extract_eq_take_drop]
theorem ZX (l m:l8_):(l == m)=decide (l=m):=by rw [B1];simp
theorem Bn {r:Int} (h:-9223372036854775808<=r/\r<=9223372036854775807):IntKind.i64.wrap r=r:=by rw [IntKind.wrap_i64];omega
theorem Un {r:Int} (h:0<=r/\r<=255):IntKind.u8.wrap r=r:=by rw [IntKind.wrap_u8'];omega
theorem A9W {a b:Int} (h0:0<=a) (h1:a<=9223372036854775807) (hb:1<=b):IntKind.i64.wrap (a.tdiv b)=a / b:=by
 rw [Int.tdiv_eq_ediv_of_nonneg h0]
 exact Bn ⟨by have:=Int.ediv_nonneg h0 (by omega:0<=b);omega,by have:=Int.ediv_le_self b h0;omega⟩
theorem u8q {a b:Int} (h0:0<=a) (h1:a<=255) (hb:1<=b):IntKind.u8.wrap (a.tdiv b)=a / b:=by
 rw [Int.tdiv_eq_ediv_of_nonneg h0]
 exact Un ⟨Int.ediv_nonneg h0 (by omega:0<=b),by have:=Int.ediv_le_self b h0;omega⟩
section
variable {P:Program} {n:Sh} {f:Fr}
theorem BM.mv {x:Operand} {v:Value} (hx:D3 f x=some v):BM P (.move x) f v:=λρ hρ d ty pos aft g w=>by
 simp [execOp,hρ _ _ hx]
theorem WL.m {P:Program} {n:Sh} {ops:Array Oper} {Q:Exit->Fr->World->Prop} {f:Fr} {w:World} {rest:List Oper} {d ty:Nat} {pos:String} {aft:Array Edge} {x:Operand} {v:Value} (h:D3 f x=some v) (hd:Nat.blt d n.n=true) (k:WL P n ops Q rest ((d,v)::f) w):WL P n ops Q (⟨some d,.move x,ty,pos,aft,none⟩::rest) f w:=YN (.mv h) hd k
theorem A3 {P:Program} {n:Sh} {ops:Array Oper} {Q:Exit->Fr->World->Prop} {f:Fr} {w:World} {rest:List Oper} {d ty:Nat} {pos:String} {aft:Array Edge} {x:Operand} {v:Value} (h:D3 f x=some v) (k:WL P n ops Q rest ((d,v)::f) w) (hd:Nat.blt d n.n=true:=by rfl):WL P n ops Q (⟨some d,.move x,ty,pos,aft,none⟩::rest) f w:=YN (.mv h) hd k
theorem BM.as {x:Operand} {v:Value} (hx:D3 f x=some v):BM P (.assign x) f v:=λρ hρ d ty pos aft g w=>by
 simp [execOp,hρ _ _ hx]
theorem B0x {P:Program} {n:Sh} {ops:Array Oper} {Q:Exit->Fr->World->Prop} {f:Fr} {w:World} {d ty:Nat} {pos:String} {aft:Array Edge} {x:Operand} {v:Value} (h:D3 f x=some v) (hd:Nat.blt d n.n=true) (k:Q .normal ((d,v)::f) w):WL P n ops Q [⟨some d,.assign x,ty,pos,aft,none⟩] f w:=YN (.as h) hd (YO k)
theorem WL.a {P:Program} {n:Sh} {ops:Array Oper} {Q:Exit->Fr->World->Prop} {f:Fr} {w:World} {rest:List Oper} {d ty:Nat} {pos:String} {aft:Array Edge} {x:Operand} {v:Value} (h:D3 f x=some v) (hd:Nat.blt d n.n=true) (k:WL P n ops Q rest ((d,v)::f) w):WL P n ops Q (⟨some d,.assign x,ty,pos,aft,none⟩::rest) f w:=YN (.as h) hd k
theorem DA {P:Program} {n:Sh} {ops:Array Oper} {Q:Exit->Fr->World->Prop} {f:Fr} {w:World} {rest:List Oper} {d ty:Nat} {pos:String} {aft:Array Edge} {x:Operand} {v:Value} (h:D3 f x=some v) (k:WL P n ops Q rest ((d,v)::f) w) (hd:Nat.blt d n.n=true:=by rfl):WL P n ops Q (⟨some d,.assign x,ty,pos,aft,none⟩::rest) f w:=YN (.as h) hd k
theorem Ab {P:Program} {n:Sh} {ops:Array Oper} {Q:Exit->Fr->World->Prop} {f:Fr} {w:World} {d ty:Nat} {pos:String} {aft:Array Edge} {x:Operand} {v:Value} (h:D3 f x=some v) (k:Q .normal ((d,v)::f) w) (hd:Nat.blt d n.n=true:=by rfl):WL P n ops Q [⟨some d,.assign x,ty,pos,aft,none⟩] f w:=YN (.as h) hd (YO k)
theorem BM.pick {c x y:Operand} {t:Bool} {v:Value} (hc:D3 f c=some (.bool t)) (h1:t=true->D3 f x=some v) (h2:t=false->D3 f y=some v):BM P (.pick c x y) f v:=λρ hρ d ty pos aft g w=>by
 cases t
 · simp [execOp,hρ _ _ hc,asBool,hρ _ _ (h2 rfl)]
 · simp [execOp,hρ _ _ hc,asBool,hρ _ _ (h1 rfl)]
theorem BM.pkT {c x y:Operand} {t:Bool} {v:Value} (hc:D3 f c=some (.bool t)) (e:t=true) (h1:D3 f x=some v):BM P (.pick c x y) f v :=
 .pick hc (λ_=>h1) (λh=>by rw [e] at h;cases h)
theorem BM.pkF {c x y:Operand} {t:Bool} {v:Value} (hc:D3 f c=some (.bool t)) (e:t=false) (h1:D3 f y=some v):BM P (.pick c x y) f v :=
 .pick hc (λh=>by rw [e] at h;cases h) (λ_=>h1)
section ints
variable {x y:Operand} {k:IntKind} {a b r:Int} {tx ty:TypeId}
theorem BM.add (hx:D3 f x=some (.int k a)) (hy:D3 f y=some (.int k b)) (hr:k.wrap (a+b)=r):BM P (.binOp .add tx x y ty) f (.int k r):=λρ hρ d ty pos aft g w=>by
 simp [execOp,hρ _ _ hx,hρ _ _ hy,eqGuard,binOp,Op.intArith,hr]
theorem BM.sub (hx:D3 f x=some (.int k a)) (hy:D3 f y=some (.int k b)) (hr:k.wrap (a-b)=r):BM P (.binOp .sub tx x y ty) f (.int k r):=λρ hρ d ty pos aft g w=>by
 simp [execOp,hρ _ _ hx,hρ _ _ hy,eqGuard,binOp,Op.intArith,hr]
theorem BM.mul (hx:D3 f x=some (.int k a)) (hy:D3 f y=some (.int k b)) (hr:k.wrap (a * b)=r):BM P (.binOp .mul tx x y ty) f (.int k r):=λρ hρ d ty pos aft g w=>by
 simp [execOp,hρ _ _ hx,hρ _ _ hy,eqGuard,binOp,Op.intArith,hr]
theorem BM.quo (hx:D3 f x=some (.int k a)) (hy:D3 f y=some (.int k b)) (h0:b≠0) (hr:k.wrap (a.tdiv b)=r):BM P (.binOp .quo tx x y ty) f (.int k r):=λρ hρ d ty pos aft g w=>by
 simp [execOp,hρ _ _ hx,hρ _ _ hy,eqGuard,binOp,Op.intDiv,h0,hr]
theorem BM.rem (hx:D3 f x=some (.int k a)) (hy:D3 f y=some (.int k b)) (h0:b≠0) (hr:a.tmod b=r):BM P (.binOp .rem tx x y ty) f (.int k r):=λρ hρ d ty pos aft g w=>by
 simp [execOp,hρ _ _ hx,hρ _ _ hy,eqGuard,binOp,Op.intDiv,h0,hr]
theorem BM.lss (hx:D3 f x=some (.int k a)) (hy:D3 f y=some (.int k b)):BM P (.binOp .lss tx x y ty) f (.bool (decide (a<b))):=λρ hρ d ty pos aft g w=>by
 simp [execOp,hρ _ _ hx,hρ _ _ hy,eqGuard,binOp,Op.intCmp]
theorem BM.leq (hx:D3 f x=some (.int k a)) (hy:D3 f y=some (.int k b)):BM P (.binOp .leq tx x y ty) f (.bool (decide (a<=b))):=λρ hρ d ty pos aft g w=>by
 simp [execOp,hρ _ _ hx,hρ _ _ hy,eqGuard,binOp,Op.intCmp]
theorem BM.gtr (hx:D3 f x=some (.int k a)) (hy:D3 f y=some (.int k b)):BM P (.binOp .gtr tx x y ty) f (.bool (decide (b<a))):=λρ hρ d ty pos aft g w=>by
 simp [execOp,hρ _ _ hx,hρ _ _ hy,eqGuard,binOp,Op.intCmp]
theorem BM.geq (hx:D3 f x=some (.int k a)) (hy:D3 f y=some (.int k b)):BM P (.binOp .geq tx x y ty) f (.bool (decide (b<=a))):=λρ hρ d ty pos aft g w=>by
 simp [execOp,hρ _ _ hx,hρ _ _ hy,eqGuard,binOp,Op.intCmp]
theorem BM.eql (hx:D3 f x=some (.int k a)) (hy:D3 f y=some (.int k b)):BM P (.binOp .eql tx x y ty) f (.bool (decide (a=b))):=λρ hρ d ty pos aft g w=>by
 simp [execOp,hρ _ _ hx,hρ _ _ hy,eqGuard,binOp,Op.intCmp];rfl
theorem BM.neq (hx:D3 f x=some (.int k a)) (hy:D3 f y=some (.int k b)):BM P (.binOp .neq tx x y ty) f (.bool (!decide (a=b))):=λρ hρ d ty pos aft g w=>by
 simp [execOp,hρ _ _ hx,hρ _ _ hy,eqGuard,binOp,Op.intCmp];rfl
theorem BM.not {t:Bool} (hx:D3 f x=some (.bool t)):BM P (.unOp .not tx x) f (.bool (!t)):=λρ hρ d ty pos aft g w=>by
 simp [execOp,hρ _ _ hx,Op.unary]
theorem BM.cvt {k' k0:IntKind} (hs:P.underlying tx=some (.int k0)) (ht:P.underlying ty=some (.int k')) (hx:D3 f x=some (.int k a)) (hr:k'.wrap a=r):BM P (.convert tx ty x) f (.int k' r):=λρ hρ d ty' pos aft g w=>by
 simp [execOp,hρ _ _ hx,convert,B7 hs,B7 ht,Conv.intToInt,hr]
theorem BM.eqb {s t:Bool} (hu:P.underlying tx=some .bool) (hx:D3 f x=some (.bool s)) (hy:D3 f y=some (.bool t)):BM P (.binOp .eql tx x y ty) f (.bool (decide (s=t))):=λρ hρ d ty pos aft g w=>by
 have h:=run_eql_bool w tx s t hu
 simp only [execOp,hρ _ _ hx,hρ _ _ hy,Bq]
 have hg:(eqGuard .eql tx x y (.bool s) (.bool t)).run P w=.ok () w:=by simp [eqGuard]
 simp only [hg,AX,h]
 cases s <;> cases t <;> rfl
theorem BM.neb {s t:Bool} (hu:P.underlying tx=some .bool) (hx:D3 f x=some (.bool s)) (hy:D3 f y=some (.bool t)):BM P (.binOp .neq tx x y ty) f (.bool (!decide (s=t))):=λρ hρ d ty pos aft g w=>by
 have h:=run_neq_bool w tx s t hu
 simp only [execOp,hρ _ _ hx,hρ _ _ hy,Bq]
 have hg:(eqGuard .neq tx x y (.bool s) (.bool t)).run P w=.ok () w:=by simp [eqGuard]
 simp only [hg,AX,h]
 cases s <;> cases t <;> rfl
end ints
section strings
variable {x y:Operand} {l m:l8_} {tx ty:TypeId}
theorem BM.len {at':TypeId} (hu:P.underlying at'=some .string) (hx:D3 f x=some (.string (bs l))):BM P (.call ⟨.builtin .len,#[x],#[at']⟩) f (Ah (l.length:Int)):=λρ hρ d ty pos aft g w=>by
 simp [execOp,resolve,invoke,builtin,Builtin.len_,B7 hu,hρ _ _ hx,goInt,BR]
theorem BM.ix {i:Int} (hu:P.underlying tx=some .string) (hx:D3 f x=some (.string (bs l))) (hi:D3 f y=some (Ah i)) (k:Nat) (e:i=k) (hk:k<l.length):BM P (.index tx x y) f (.int .u8 (l[k].toNat:Int)):=λρ hρ d ty pos aft g w=>by
 subst e
 have h1:(bs l)[k]?=some l[k]:=by
  have:k<(bs l).size:=by rw [BR];exact hk
  rw [getElem?_pos (bs l) k this];rfl
 simp [execOp,Instr.index,hρ _ _ hx,hρ _ _ hi,asIntOf,B7 hu,h1]
theorem BM.cat (hx:D3 f x=some (.string (bs l))) (hy:D3 f y=some (.string (bs m))) (hlen:l.length+m.length<=9223372036854775807):BM P (.binOp .add tx x y ty) f (.string (bs (l++m))):=λρ hρ d ty pos aft g w=>by
 have h:(l.length:Int)+(m.length:Int)<=9223372036854775807:=by omega
 simp [execOp,hρ _ _ hx,hρ _ _ hy,eqGuard,binOp,Op.stringOp,G1,BR,h]
theorem BM.eqs (hx:D3 f x=some (.string (bs l))) (hy:D3 f y=some (.string (bs m))):BM P (.binOp .eql tx x y ty) f (.bool (decide (l=m))):=λρ hρ d ty pos aft g w=>by
 simp [execOp,hρ _ _ hx,hρ _ _ hy,eqGuard,binOp,Op.stringOp,Sf,ZX]
theorem BM.nes (hx:D3 f x=some (.string (bs l))) (hy:D3 f y=some (.string (bs m))):BM P (.binOp .neq tx x y ty) f (.bool (!decide (l=m))):=λρ hρ d ty pos aft g w=>by
 simp [execOp,hρ _ _ hx,hρ _ _ hy,eqGuard,binOp,Op.stringOp,Sf,ZX]
theorem BM.ext {i:Nat} {vs:Array Value} {v:Value} (hx:D3 f x=some (.tuple vs)) (hv:vs[i]?=some v):BM P (.extract x i) f v:=λρ hρ d ty pos aft g w=>by
 simp [execOp,hρ _ _ hx,Instr.extract,hv]
end strings
def Dq (P:Program) (F:FuncId):Prop:=∃ fn,P.funcs[F]?=some fn/\fn.body≠none/\fn.name≠"runtime.NumGoroutine"
theorem IV {F:FuncId} {fn:Func} (hf:P.funcs[F]?=some fn) (hb:(fn.body.isNone || fn.name == "runtime.NumGoroutine")=false):Dq P F:=by
 simp only [Ee] at hb
 exact ⟨fn,hf,λh=>by rw [h] at hb;exact D6 hb.1 dD,λh=>by rw [h] at hb;exact D6 hb.2 dD⟩
def QO (f:Fr):List Operand->Option (List Value)
 | []=>some []
 | x::r=>match D3 f x,QO f r with
  | some v,some vs=>some (v::vs)
  | _,_=>none
theorem Kp {ρ:Operand->Value} (hρ:Agr f ρ):∀ (xs:List Operand) (vs:List Value),QO f xs=some vs->xs.map ρ=vs
 | [],vs,h=>by simp only [QO,Br] at h;subst h;rfl
 | x::r,vs,h=>by
  unfold QO at h
  cases hx:D3 f x with
  | none=>rw [hx] at h;cases h
  | some v =>
   cases hr:QO f r with
   | none=>rw [hx,hr] at h;cases h
   | some us =>
    rw [hx,hr] at h
    simp only [Br] at h
    subst h
    simp [hρ _ _ hx,Kp hρ r us hr]
theorem NB {F:FuncId} (hb:Dq P F) {ρ:Operand->Value} (hρ:Agr f ρ) {xs:List Operand} {vs:List Value} (hx:QO f xs=some vs) {ats:Array TypeId} (d:Option Tmp) (ty:TypeId) (pos:String) (aft:Array Edge) (g:Option (Nat × Bool)) (w:World) :
  (execOp ρ ⟨d,.call ⟨.value (.func F),xs.toArray,ats⟩,ty,pos,aft,g⟩).run P w=.ok (.enter F vs.toArray) w:=by
 obtain ⟨fn,c,i,j⟩:=hb
 have e:=Kp hρ _ _ hx
 have b:ρ (.func F)=.func (.func F) #[] #[]:=hρ _ _ rfl
 have a:xs.toArray.map ρ=vs.toArray:=by simp [e]
 unfold execOp
 simp only [resolve,a,b]
 simp [Deferred.ofValue,invoke,callFunc,run_program,c,i,j]
theorem DO {ops:Array Oper} {Q:Exit->Fr->World->Prop} {w:World} {rest:List Oper} {d ty:Nat} {pos:String} {aft:Array Edge} {F:FuncId} {xs:List Operand} {ats:Array TypeId} {vs:List Value} {α:Sort _}
  {V:α->Value} {S:α->World->Prop} (hb:Dq P F) (hx:QO f xs=some vs) (hd:Nat.blt d n.n=true)
  (hc:Calls P F vs.toArray w λe w'=>∃ t,e=.returned (V t)/\S t w') (k:∀ t w',S t w'->WL P n ops Q rest ((d,V t)::f) w') :
  WL P n ops Q (⟨some d,.call ⟨.value (.func F),xs.toArray,ats⟩,ty,pos,aft,none⟩::rest) f w:=by
 intro a ha
 refine wpList_plain rfl λK hK=>?_
 unfold Oper.wp
 rw [NB hb ha.agr hx,Oper.upon_enter]
 refine hc.mono ?_
 rintro e w' ⟨t,rfl,hS⟩
 exact hK _ _ (k t w' hS _ (ha.put hd _))
theorem Gb {ops:Array Oper} {Q:Exit->Fr->World->Prop} {w:World} {rest:List Oper} {d:Option Tmp} {ty:Nat} {pos:String} {aft:Array Edge} {F:FuncId} {xs:List Operand} {ats:Array TypeId} {vs:List Value}
  {ch:List PanicEntry} {S:World->Prop} (hb:Dq P F) (hx:QO f xs=some vs)
  (hc:Calls P F vs.toArray w λe w'=>e=.panicked ch/\S w') (k:∀ w',S w'->Q (.panic ch) f w') :
  WL P n ops Q (⟨d,.call ⟨.value (.func F),xs.toArray,ats⟩,ty,pos,aft,none⟩::rest) f w:=by
 intro a ha
 refine wpList_plain rfl λK hK=>?_
 unfold Oper.wp
 rw [NB hb ha.agr hx,Oper.upon_enter]
 refine hc.mono ?_
 rintro e w' ⟨rfl,hS⟩
 exact ⟨f,ha,k w' hS⟩
theorem A9l {ops:Array Oper} {Q:Exit->Fr->World->Prop} {w:World} {rest:List Oper} {d:Option Tmp} {ty:Nat} {pos:String} {aft:Array Edge} {op:Op} {v:Value}
  (h:∀ ρ,Agr f ρ->(execOp ρ ⟨d,op,ty,pos,aft,none⟩).run P w=.halt (.panic v) w) (k:Q (.panic [{ v,recovered:=false }]) f w) :
  WL P n ops Q (⟨d,op,ty,pos,aft,none⟩::rest) f w:=by
 intro a ha
 refine wpList_plain rfl λK hK=>?_
 unfold Oper.wp
 rw [h _ ha.agr,Oper.upon_panic]
 exact ⟨f,ha,k⟩
theorem WL.c1 {ops:Array Oper} {Q:Exit->Fr->World->Prop} {w:World} {rest:List Oper} {d ty:Nat} {pos:String} {aft:Array Edge} {F:FuncId} {xs:List Operand} {ats:Array TypeId} {vs:List Value}
  {V:Value} {S:World->Prop} (hb:Dq P F) (hx:QO f xs=some vs) (hd:Nat.blt d n.n=true)
  (hc:Calls P F vs.toArray w λe w'=>e=.returned V/\S w') (k:∀ w',S w'->WL P n ops Q rest ((d,V)::f) w') :
  WL P n ops Q (⟨some d,.call ⟨.value (.func F),xs.toArray,ats⟩,ty,pos,aft,none⟩::rest) f w :=
 DO (α:=Unit) (V:=λ_=>V) (S:=λ_=>S) hb hx hd (hc.mono λ_ _ h=>⟨(),h⟩) (λ_=>k)
def Be (w:World) (b:Nat) (cs:Array Value) (t:TypeId):Prop:=w.heap[b]?=some (.cells cs t (0,0))
structure E6 (b:Nat) (w w1:World):Prop where
 os:w1.os=w.os
 tape:w1.tape=w.tape
 output:w1.output=w.output
 size:w.heap.size<=w1.heap.size
 other:∀ k,k≠b->w1.heap[k]?=w.heap[k]?
theorem Be.lt {w:World} {b:Nat} {cs:Array Value} {t:TypeId} (h:Be w b cs t):b<w.heap.size:=(BJ.1 h).1
theorem E6.below {B b:Nat} {w0 w w1:World} (hb:Below B w0 w) (hB:B<=b) (h:E6 b w w1):Below B w0 w1 :=
 ⟨h.os.trans hb.os,h.tape.trans hb.tape,h.output.trans hb.output,BA hb.size h.size,λk hk=>(h.other k oO).trans (hb.block k hk)⟩
theorem uB {b:Nat} {a w w1:World} (h:AD a w) (e:b=w.heap.size) (u:E6 b w w1):AD a w1:=E6.below h (e▸h.size) u
abbrev CP:=@E6.below
theorem Be.upd {w w1:World} {b c:Nat} {cs:Array Value} {t:TypeId} (h:Be w c cs t) (hu:E6 b w w1) (hne:c≠b):Be w1 c cs t:=(hu.other c hne).trans h
theorem Be.up {w w1:World} {b c:Nat} {cs:Array Value} {t:TypeId} (h:Be w c cs t) (hu:E6 b w w1) (hne:c≠b:=by ((try simp only) <;> omega)):Be w1 c cs t:=h.upd hu hne
theorem DW {a b c:Nat} (e:b=c) (h:a<=c):a<=b:=e▸h
theorem Bx {a b c:Nat} (e:b=c) (h:a<c):a<b:=e▸h
theorem Be.un {w w1:World} {b c:Nat} {cs:Array Value} {t:TypeId} (h:Be w c cs t) (hu:E6 b w w1) (hl:c<b):Be w1 c cs t:=h.upd hu (A9v hl)
theorem bL {a b:Nat} (h:Nat.ble a b=true:=by rfl):a<=b:=Nat.le_of_ble_eq_true h
theorem Av {P:Program} {F:FuncId} {fn:Func} {c:Code} {args:Array Value} {w:World} {R:Ending->World->Prop} (hf:P.funcs[F]?=some fn) (hb:fn.body=some c) {k:Nat} (hn:fn.ntmps=k) (h:W P ⟨k,[]⟩ c (Ji P fn R) (KD 0 args.toList) w) (hl:Nat.ble args.size k=true:=by rfl):Calls P F args w R:=A00 hf hb hn (Nat.le_of_ble_eq_true hl) h
theorem Be.below {w w1:World} {B c:Nat} {cs:Array Value} {t:TypeId} (h:Be w c cs t) (hb:Below B w w1) (hc:c<B):Be w1 c cs t:=(hb.block c hc).trans h
theorem Be.bl {w w1:World} {c:Nat} {cs:Array Value} {t:TypeId} (h:Be w c cs t) (hb:AD w w1):Be w1 c cs t:=h.below hb h.lt
theorem E6.alloc (w:World) (o:Obj):E6 w.heap.size w (w.alloc o):=⟨rfl,rfl,rfl,by simp,λk hk=>by
 show (w.heap.push o)[k]?=_
 rw [Array.getElem?_push,A2 hk]⟩
theorem E6.setRow (w:World) (b:Nat) (cs:Array Value):E6 b w (w.setRow b cs):=⟨rfl,rfl,rfl,by simp [World.setRow],λk hk=>by
 simp only [World.setRow,Array.getElem?_modify]
 rw [A2 oO]⟩
theorem E6.setCell (w:World) (b o:Nat) (v:Value):E6 b w (w.setCell ⟨b,o,none⟩ v):=⟨rfl,rfl,rfl,by simp [World.setCell],λk hk=>by
 simp only [World.setCell,Array.getElem?_modify]
 rw [A2 oO]⟩
theorem Be.alloc (w:World) (cs:Array Value) (t:TypeId):Be (w.alloc (.cells cs t)) w.heap.size cs t:=by
 show (w.heap.push _)[w.heap.size]?=_
 simp
theorem Be.setCell {w:World} {b:Nat} {cs:Array Value} {t:TypeId} (h:Be w b cs t) (o:Nat) (v:Value):Be (w.setCell ⟨b,o,none⟩ v) b (cs.setIfInBounds o v) t:=by
 unfold Be at *
 simp [World.setCell,Array.getElem?_modify,h]
theorem Be.cell {w:World} {b:Nat} {cs:Array Value} {t:TypeId} (h:Be w b cs t) (o:Nat):w.cell? ⟨b,o,none⟩=cs[o]?:=cell_of_row w b o cs t (0,0) h
theorem Be.free {w:World} {b:Nat} {cs:Array Value} {t:TypeId} (h:Be w b cs t) (o:Nat):w.frozen? ⟨b,o,none⟩=false:=by
 unfold Be at h
 simp [World.frozen?,h]
section mem
variable {ops:Array Oper} {Q:Exit->Fr->World->Prop} {w:World} {rest:List Oper} {d ty:Nat} {pos:String} {aft:Array Edge}
theorem WL.alloc {t:TypeId} {z:Value} (hz:∀ w,(zeroValue t).run P w=.ok z w) (hd:Nat.blt d n.n=true)
  (k:∀ b w1,b=w.heap.size->Be w1 b z.cells t->E6 b w w1->w1.heap.size=b+1->WL P n ops Q rest ((d,ptV b)::f) w1) :
  WL P n ops Q (⟨some d,.alloc t,ty,pos,aft,none⟩::rest) f w :=
 WL.run hd (w':=w.alloc (.cells z.cells t)) (v:=ptV w.heap.size) (λρ hρ=>by
  simp [execOp,Instr.alloc,hz,newVar,newRow]) (k _ _ rfl (Be.alloc _ _ _) (E6.alloc _ _) (by simp))
abbrev C1:=@WL.alloc
theorem D5 {t:TypeId} {x:Operand} {v:Value} (hx:D3 f x=some v) (hd:Nat.blt d n.n=true)
  (k:∀ b w1,b=w.heap.size->Be w1 b v.cells t->E6 b w w1->w1.heap.size=b+1->WL P n ops Q rest ((d,ptV b)::f) w1) :
  WL P n ops Q (⟨some d,.box t x,ty,pos,aft,none⟩::rest) f w :=
 WL.run hd (w':=w.alloc (.cells v.cells t)) (v:=ptV w.heap.size) (λρ hρ=>by
  simp [execOp,Instr.box,hρ _ _ hx,newVar,newRow]) (k _ _ rfl (Be.alloc _ _ _) (E6.alloc _ _) (by simp))
theorem A84 {t tb:TypeId} {x y:Operand} {b:Nat} {old cs:Array Value} (hx:D3 f x=some (ptV b)) (hy:D3 f y=some (.agg cs)) (hb:Be w b old tb)
  (hi:(P.info? t).map (·.size)=some cs.size) (ho:old.size=cs.size) (h1:cs.all (·.oneCell')=true)
  (k:∀ w1,Be w1 b cs tb->E6 b w w1->w1.heap.size=w.heap.size->WL P n ops Q rest f w1) :
  WL P n ops Q (⟨none,.store t x y,ty,pos,aft,none⟩::rest) f w :=
 Sz (w':=w.setRow b cs) (λρ hρ=>by
  unfold execOp
  simp only [hρ _ _ hx,hρ _ _ hy,Instr.storeAt,Instr.sureAddr,Bq,CC,AX,run_storeVar_row w b tb t old cs hb hi ho h1])
  (k _ (setRow_heap w b old cs tb (0,0) hb) (E6.setRow _ _ _) (by simp [World.setRow]))
theorem B04 {t tb:TypeId} {x:Operand} {b:Nat} {cs:Array Value} {dd:TypeDesc} (hx:D3 f x=some (ptV b)) (hb:Be w b cs tb)
  (hu:P.underlying t=some dd) (hdd:(match dd with | .struct _ | .array _ _=>true | _=>false)=true) (hi:(P.info? t).map (·.size)=some cs.size) (hd:Nat.blt d n.n=true)
  (k:WL P n ops Q rest ((d,.agg cs)::f) w):WL P n ops Q (⟨some d,.load t x,ty,pos,aft,none⟩::rest) f w :=
 WL.run hd (λρ hρ=>by
  unfold execOp
  simp only [hρ _ _ hx,Instr.loadAt,Instr.sureAddr,Bq,CC,AX,run_loadVar_row w b tb t cs (0,0) dd hb hu hdd hi]) k
theorem BM.build {t:TypeId} {ps:List (Nat × Operand)} {vs:List Value} {cs:Array Value} (hx:QO f (ps.map (·.2))=some vs) (hb:P.built t ((ps.map (·.1)).zip vs)=some cs):BM P (.build t ps.toArray) f (.agg cs):=λρ hρ d ty pos aft g w=>by
 have e:=Kp hρ _ _ hx
 have e2:(ps.toArray.map λ(i,x)=>(i,ρ x)).toList=(ps.map (·.1)).zip vs:=by
  rw [<- e]
  simp only [List.map_map,Array.toList_map]
  clear hx hb e
  induction ps with
  | nil=>rfl
  | cons p r ih=>simpa using ih
 unfold execOp
 simp only [Bq,run_build w t _ cs (by rw [e2];exact hb),AX,CC]
end mem
end
section
variable {P:Program} {n:Sh} {f:Fr}
def Rd (P:Program) (op:Op) (f:Fr) (w:World) (v:Value):Prop:=∀ ρ,Agr f ρ->∀ d ty pos aft g,(execOp ρ ⟨d,op,ty,pos,aft,g⟩).run P w=.ok (.value v) w
theorem BM.rd {op:Op} {v:Value} {w:World} (h:BM P op f v):Rd P op f w v:=λρ hρ d ty pos aft g=>h ρ hρ d ty pos aft g w
theorem Af {t tb:TypeId} {x:Operand} {b o:Nat} {cs:Array Value} {v:Value} {w:World} (ha:(isAgg t).run P w=.ok false w) (hx:D3 f x=some (.pointer (some ⟨b,o,none⟩))) (hb:Be w b cs tb) (hv:cs[o]?=some v) :
  Rd P (.load t x) f w v:=λρ hρ d ty pos aft g=>by
 have hc:=(hb.cell o).trans hv
 simp [execOp,hρ _ _ hx,Instr.loadAt,Instr.sureAddr,loadVar,ha,hc]
theorem AS {t:TypeId} {x:Operand} {p:Addr} {v:Value} {w:World} (ha:(isAgg t).run P w=.ok false w) (hx:D3 f x=some (.pointer (some p))) (hv:w.cell? p=some v) :
  Rd P (.load t x) f w v:=λρ hρ d ty pos aft g=>by
 simp [execOp,hρ _ _ hx,Instr.loadAt,Instr.sureAddr,loadVar,ha,hv]
theorem BD {t tb:TypeId} {x:Operand} {b:Nat} {cs:Array Value} {dd:TypeDesc} {w:World} (hx:D3 f x=some (ptV b)) (hb:Be w b cs tb)
  (hu:P.underlying t=some dd) (hdd:(match dd with | .struct _ | .array _ _=>true | _=>false)=true) (hi:(P.info? t).map (·.size)=some cs.size):Rd P (.load t x) f w (.agg cs):=λρ hρ d ty pos aft g=>by
 unfold execOp
 simp only [hρ _ _ hx,Instr.loadAt,Instr.sureAddr,Bq,CC,AX,run_loadVar_row w b tb t cs (0,0) dd hb hu hdd hi]
theorem BM.lenS {at' e:TypeId} {x:Operand} {p:Option Addr} {l c:Nat} (hu:P.underlying at'=some (.slice e)) (hx:D3 f x=some (.slice p l c)):BM P (.call ⟨.builtin .len,#[x],#[at']⟩) f (Ah (l:Int)):=λρ hρ d ty pos aft g w=>by
 simp [execOp,resolve,invoke,builtin,Builtin.len_,B7 hu,hρ _ _ hx,goInt]
theorem BM.ixa {tx e:TypeId} {x y:Operand} {p:Addr} {l c sz:Nat} {i:Int} {k:IntKind} (hu:P.underlying tx=some (.slice e)) (hs:∀ w,(sizeOf e).run P w=.ok sz w) (hx:D3 f x=some (.slice (some p) l c))
  (hi:D3 f y=some (.int k i)) (j:Nat) (e':i=j) (hj:j<l):BM P (.indexAddr tx x y) f (.pointer (some (p.add (j * sz)))):=λρ hρ d ty pos aft g w=>by
 subst e'
 simp [execOp,Instr.indexAt,hρ _ _ hx,hρ _ _ hi,asIntOf,B7 hu,hs,hj]
theorem BM.fa {s:TypeId} {x:Operand} {p:Addr} {i:Nat} {fs:Array Field} {fd:Field} {sz:Nat} (hu:P.underlying s=some (.struct fs)) (hf:fs[i]?=some fd) (hs:∀ w,(sizeOf fd.type).run P w=.ok sz w) (h0:sz≠0)
  (hx:D3 f x=some (.pointer (some p))):BM P (.fieldAddr s x i) f (.pointer (some (p.add fd.offset))):=λρ hρ d ty pos aft g w=>by
 simp [execOp,Instr.fieldAt,hρ _ _ hx,B7 hu,hf,Instr.sureAddr,fieldPlace,hs,h0]
theorem BM.nck {x:Operand} {p:Addr} (hx:D3 f x=some (.pointer (some p))):BM P (.nilCheck x) f (.pointer (some p)):=λρ hρ d ty pos aft g w=>by
 simp [execOp,hρ _ _ hx]
theorem B03 {ops:Array Oper} {Q:Exit->Fr->World->Prop} {w:World} {rest:List Oper} {d ty:Nat} {pos:String} {aft:Array Edge} {op:Op} {v:Value}
  (h:Rd P op f w v) (hd:Nat.blt d n.n=true) (k:WL P n ops Q rest ((d,v)::f) w):WL P n ops Q (⟨some d,op,ty,pos,aft,none⟩::rest) f w :=
 WL.run hd (λρ hρ=>h ρ hρ _ _ _ _ _) k
theorem Ai {P:Program} {n:Sh} {ops:Array Oper} {Q:Exit->Fr->World->Prop} {f:Fr} {w:World} {rest:List Oper} {d ty:Nat} {pos:String} {aft:Array Edge} {op:Op} {v:Value} (h:Rd P op f w v) (k:WL P n ops Q rest ((d,v)::f) w) (hd:Nat.blt d n.n=true:=by rfl):WL P n ops Q (⟨some d,op,ty,pos,aft,none⟩::rest) f w:=B03 h hd k
theorem WL.st {ops:Array Oper} {Q:Exit->Fr->World->Prop} {w:World} {rest:List Oper} {ty:Nat} {pos:String} {aft:Array Edge} {t tb:TypeId} {x y:Operand} {b o:Nat} {cs:Array Value} {v:Value}
  (hs:∀ w,(sizeOf t).run P w=.ok 1 w) (hx:D3 f x=some (.pointer (some ⟨b,o,none⟩))) (hy:D3 f y=some v) (h1:v.oneCell'=true) (hb:Be w b cs tb) (ho:o<cs.size)
  (k:∀ w1,Be w1 b (cs.setIfInBounds o v) tb->E6 b w w1->w1.heap.size=w.heap.size->WL P n ops Q rest f w1):WL P n ops Q (⟨none,.store t x y,ty,pos,aft,none⟩::rest) f w :=
 Sz (w':=w.setCell ⟨b,o,none⟩ v) (λρ hρ=>by
  have hc:w.cell? ⟨b,o,none⟩=some cs[o]:=by rw [hb.cell o];simp [ho]
  have hf:=hb.free o
  have a:=run_store P w ⟨b,o,none⟩ v .plain h1
  have c:v.cells=#[v]:=by cases v <;> first | rfl | cases h1
  have d:(⟨b,o,none⟩:Addr).add 0=⟨b,o,none⟩:=by simp [Addr.add]
  simp [execOp,hρ _ _ hx,hρ _ _ hy,Instr.storeAt,Instr.sureAddr,storeVar,c,hs,storeCells,d,a,hc,hf])
  (k _ (hb.setCell o v) (E6.setCell w b o v) (by simp [World.setCell]))
theorem D1 {P:Program} {n:Sh} {f:Fr} {ops:Array Oper} {Q:Exit->Fr->World->Prop} {w:World} {rest:List Oper} {ty:Nat} {pos:String} {aft:Array Edge} {t tb:TypeId} {x y:Operand} {b o:Nat} {cs:Array Value} {v:Value} (hb:Be w b cs tb) (hs:∀ w,(sizeOf t).run P w=.ok 1 w) (k:∀ w1,Be w1 b (cs.setIfInBounds o v) tb->E6 b w w1->w1.heap.size=w.heap.size->WL P n ops Q rest f w1) (hx:D3 f x=some (.pointer (some ⟨b,o,none⟩)):=by rfl) (hy:D3 f y=some v:=by rfl) (h1:v.oneCell'=true:=by rfl) (ho:o<cs.size:=by first | decide | exact Nat.le_of_ble_eq_true rfl):WL P n ops Q (⟨none,.store t x y,ty,pos,aft,none⟩::rest) f w:=WL.st hs hx hy h1 hb ho k
theorem SI {a:Act} {ops:Array Oper} {j dj:Nat} (ha:LK n f a) (hj:(ops[j]?).bind (·.dst)=some dj) (ht:look f dj=some undef):yielded ops a.tmps j=none:=by
 have b:=ha.2.2 _ _ ht
 unfold yielded
 cases ho:ops[j]? with
 | none=>rw [ho] at hj;cases hj
 | some o =>
  rw [ho] at hj
  simp only [Option.bind_some] at hj
  cases h:a.tmps[dj]? with
  | none=>simp [hj,h]
  | some v =>
   rw [Ba,h] at b
   simp only [Option.getD_some] at b
   subst b
   simp [hj,h,undef]
theorem A9m {ops:Array Oper} {Q:Exit->Fr->World->Prop} {w:World} {rest:List Oper} {d ty:Nat} {pos:String} {aft:Array Edge} {op:Op} {j dj:Nat} {b:Bool}
  (hj:(ops[j]?).bind (·.dst)=some dj) (ht:look f dj=some undef) (hd:Nat.blt d n.n=true)
  (hn:WL P n ops Q rest ((d,undef)::f) w):WL P n ops Q (⟨some d,op,ty,pos,aft,some (j,b)⟩::rest) f w:=by
 intro a ha
 have c:=SI ha hj ht
 have:=hn _ (ha.put hd undef)
 unfold wpList
 simp only [Region.wanted,c]
 exact this
theorem G9 {P:Program} {n:Sh} {ops:Array Oper} {Q:Exit->Fr->World->Prop} {f:Fr} {w:World} {rest:List Oper} {d ty:Nat} {pos:String} {aft:Array Edge} {op:Op} {j dj:Nat} {b:Bool} (hn:WL P n ops Q rest ((d,undef)::f) w) (hj:(ops[j]?).bind (·.dst)=some dj:=by rfl) (ht:look f dj=some undef:=by rfl) (hd:Nat.blt d n.n=true:=by rfl):WL P n ops Q (⟨some d,op,ty,pos,aft,some (j,b)⟩::rest) f w:=A9m hj ht hd hn
def Le (g f:Fr):Prop:=∀ i v,look g i=some v->look f i=some v
theorem Le.refl (f:Fr):Le f f:=λ_ _ h=>h
theorem Le.cons {g f:Fr} {d:Nat} {v:Value} (hd:look g d=none) (h:Le g f):Le g ((d,v)::f):=by
 intro i u hu
 unfold look
 cases hb:Nat.beq d i with
 | true =>
  obtain rfl:d=i:=D9 hb
  rw [hd] at hu;cases hu
 | false=>exact h i u hu
theorem Le.put {g f:Fr} (h:Le g f) {d:Nat} {v:Value} (hd:look f d=some v):Le ((d,v)::g) f:=by
 intro i u hu
 unfold look at hu
 cases hb:Nat.beq d i with
 | true =>
  rw [hb] at hu
  obtain rfl:d=i:=D9 hb
  rw [hd];exact hu
 | false=>rw [hb] at hu;exact h i u hu
theorem Fx {x y:Code} {Q:Exit->Fr->World->Prop} {w:World} (c:Nat) (T:Bool)
  (h1:W P n x (nx (λf' w'=>(look f' c=some (.bool T)/\Le f f')/\w'=w) Q) f w) (h2:W P n y Q ((c,.bool T)::f) w):W P n (.seq x y) Q f w:=by
 refine Aj (h1.mono ?_)
 intro e f' w' h
 cases e with
 | normal =>
  obtain ⟨⟨hc,b⟩,rfl⟩:=h;exact λa ha=>h2 a ⟨ha.1,ha.2.1,λi v hv=>ha.2.2 i v (b.put hc i v hv)⟩
 | _=>exact h
theorem Kj {p:Prop} [Decidable p] (h:(!decide p)=true):¬ p:=by simpa using h
theorem Kk {p:Prop} [Decidable p] (h:(!decide p)=false):p:=by simpa using h
theorem nT {t:Bool} (h:(!t)=true):t=false:=by simpa using h
theorem nF {t:Bool} (h:(!t)=false):t=true:=by simpa using h
theorem CD {f:Fr} {i:Nat} {s t:Bool} (h:look f i=some (.bool s)) (e:s=t):look f i=some (.bool t):=by rw [h,e]
theorem leF {f g:Fr} {c:Nat} {s t:Bool} (h:look g c=some (.bool s)) (e:s=t:=by first | (simp;omega) | (exfalso;simp_all;omega) | (exfalso;omega)) (k:Le f g:=by repeat (first | exact Le.refl _ | refine Le.cons rfl ?_)):look g c=some (.bool t)/\Le f g:=⟨CD h e,k⟩
theorem Gm {f g:Fr} {c:Nat} {t:Bool} (h:look g c=some (.bool t)) (k:Le f g:=by repeat (first | exact Le.refl _ | refine Le.cons rfl ?_)):look g c=some (.bool t)/\Le f g:=⟨h,k⟩
theorem M5 {f:Fr} {i:Nat} {k:IntKind} {s t:Int} (h:look f i=some (.int k s)) (e:s=t):look f i=some (.int k t):=by rw [h,e]
theorem Px {f:Fr} {i:Nat} {s t:l8_} (h:look f i=some (.string (bs s))) (e:s=t):look f i=some (.string (bs t)):=by rw [h,e]
def Df (w w1:World):Prop:=∃ m,w1=w.drewN m
theorem Df.refl (w:World):Df w w:=⟨0,rfl⟩
theorem Df.trans {a b c:World} (h:Df a b) (k:Df b c):Df a c:=by
 obtain ⟨m,rfl⟩:=h;obtain ⟨j,rfl⟩:=k;exact ⟨m+j,by rw [World.drewN_drewN]⟩
theorem Df.below {B:Nat} {w0 w w1:World} (h:Below B w0 w) (d:Df w w1):Below B w0 w1:=by
 obtain ⟨m,rfl⟩:=d;exact ⟨h.os,h.tape,h.output,h.size,h.block⟩
theorem Df.size {w w1:World} (d:Df w w1):w1.heap.size=w.heap.size:=by obtain ⟨m,rfl⟩:=d;rfl
theorem Be.drew {w w1:World} {b:Nat} {cs:Array Value} {t:TypeId} (h:Be w b cs t) (d:Df w w1):Be w1 b cs t:=by obtain ⟨m,rfl⟩:=d;exact h
def WS (P:Program) (n:Sh) (ops:Array Oper) (Q:Exit->Fr->World->Prop) (tail:List Oper) (w:World) (l:List Oper) (f:Fr):Prop :=
 ∀ a,LK n f a->wpStill P ops w (λa'=>wpList P ops (Hq n Q) tail a' w) l a
theorem N7 {x y:Code} {Q:Exit->Fr->World->Prop} {w:World} (c:Nat) (T:Bool)
  (h1:W P n x (nx (λf' w'=>(look f' c=some (.bool T)/\Le f f')/\Df w w') Q) f w) (h2:∀ w1,Df w w1->W P n y Q ((c,.bool T)::f) w1):W P n (.seq x y) Q f w:=by
 refine Aj (h1.mono ?_)
 intro e f' w' h
 cases e with
 | normal =>
  obtain ⟨⟨hc,b⟩,d⟩:=h;exact λa ha=>h2 _ d a ⟨ha.1,ha.2.1,λi v hv=>ha.2.2 i v (b.put hc i v hv)⟩
 | _=>exact h
def WQ (P:Program) (n:Sh) (ops:Array Oper) (Q:Exit->Fr->World->Prop) (w:World) (l:List Oper) (f:Fr):Prop :=
 ∀ a,LK n f a->wpQuiet P ops (λw'=>∃ m,w'=w.drewN m) (λa'=>∀ w',(∃ m,w'=w.drewN m)->Hq n Q .normal a' w') l a
theorem Eg {Q:Exit->Fr->World->Prop} {w:World} {id:Nat} {l:List Oper} (hm:P.follows .mixedOrders=true) (hB:Region.lexB .any l.toArray=true) (h:WQ P n l.toArray Q w l f):W P n (.region id l.toArray true) Q f w :=
 λa ha=>wp_region_quiet_lit hm hB (h a ha)
section
variable {ops:Array Oper} {Q:Exit->Fr->World->Prop} {w:World} {rest:List Oper} {d ty:Nat} {pos:String} {aft:Array Edge} {op:Op} {v:Value}
theorem Dk (h:∀ w1,Df w w1->Q .normal f w1):WQ P n ops Q w [] f:=λ_ ha=>wpQuiet_nil λw' e=>⟨f,ha,h w' e⟩
theorem Du (h:∀ m,Rd P op f (w.drewN m) v) (hd:Nat.blt d n.n=true) (k:WQ P n ops Q w rest ((d,v)::f)):WQ P n ops Q w (⟨some d,op,ty,pos,aft,none⟩::rest) f:=by
 intro a ha
 unfold wpQuiet
 rw [A7 (by simp [Region.wanted])]
 refine ⟨v,?_,k _ (ha.put hd v)⟩
 rintro w' ⟨m,rfl⟩
 unfold Oper.quietAt
 rw [h m _ ha.agr]
 exact ⟨rfl,rfl⟩
theorem AA (h:BM P op f v) (hd:Nat.blt d n.n=true) (k:WQ P n ops Q w rest ((d,v)::f)):WQ P n ops Q w (⟨some d,op,ty,pos,aft,none⟩::rest) f:=Du (λ_=>h.rd) hd k
theorem MD {j dj:Nat} {b t:Bool} (hj:(ops[j]?).bind (·.dst)=some dj) (ht:look f dj=some (.bool t)) (hd:Nat.blt d n.n=true)
    (hy:t=b->WQ P n ops Q w (⟨some d,op,ty,pos,aft,none⟩::rest) f) (hn:t=!b->WQ P n ops Q w rest ((d,undef)::f)) :
    WQ P n ops Q w (⟨some d,op,ty,pos,aft,some (j,b)⟩::rest) f:=by
  intro a ha
  have c:=ha.2.2 _ _ ht
  have e:yielded ops a.tmps j=some t:=by
    unfold yielded
    cases ho:ops[j]? with
    | none=>rw [ho] at hj;cases hj
    | some o =>
      rw [ho] at hj
      simp only [Option.bind_some] at hj
      have g:a.tmps[dj]?=some (.bool t):=by
        cases h:a.tmps[dj]? with
        | none=>rw [Ba,h] at c;cases c
        | some v=>rw [Ba,h] at c;exact Bk some c
      simp [hj,g]
  by_cases hb:t=b
  · have := hy hb a ha
    unfold wpQuiet at this ⊢
    simp only [Region.wanted,e,hb,beq_self_eq_true,if_true] at this ⊢
    exact this
  · have hb' : t = !b := by revert hb; cases t <;> cases b <;> decide
    have:=hn hb' _ (ha.put hd undef)
    unfold wpQuiet
    have hw:(some t == some b)=false:=by revert hb;cases t <;> cases b <;> decide
    simp only [Region.wanted,e,hw]
    exact this
theorem C5 {j dj:Nat} {b t:Bool} (hj:(ops[j]?).bind (·.dst)=some dj) (ht:look f dj=some (.bool t)) (hd:Nat.blt d n.n=true) (e:t=b)
  (hy:WQ P n ops Q w (⟨some d,op,ty,pos,aft,none⟩::rest) f):WQ P n ops Q w (⟨some d,op,ty,pos,aft,some (j,b)⟩::rest) f :=
 MD hj ht hd (λ_=>hy) (λh=>by rw [e] at h;cases b <;> cases h)
theorem Bj {j dj:Nat} {b t:Bool} (hj:(ops[j]?).bind (·.dst)=some dj) (ht:look f dj=some (.bool t)) (hd:Nat.blt d n.n=true) (e:t=!b)
  (hn:WQ P n ops Q w rest ((d,undef)::f)):WQ P n ops Q w (⟨some d,op,ty,pos,aft,some (j,b)⟩::rest) f :=
 MD hj ht hd (λh=>by rw [e] at h;cases b <;> cases h) (λ_=>hn)
theorem WQ.c1 {F:FuncId} {xs:List Operand} {ats:Array TypeId} {vs:List Value} (hb:Dq P F) (hx:QO f xs=some vs) (hd:Nat.blt d n.n=true)
  (hc:∀ m,Calls P F vs.toArray (w.drewN m) λe w'=>e=.returned v/\∃ k,w'=w.drewN k) (k:WQ P n ops Q w rest ((d,v)::f)) :
  WQ P n ops Q w (⟨some d,.call ⟨.value (.func F),xs.toArray,ats⟩,ty,pos,aft,none⟩::rest) f:=by
 intro a ha
 unfold wpQuiet
 rw [A7 (by simp [Region.wanted])]
 refine ⟨v,?_,k _ (ha.put hd v)⟩
 rintro w' ⟨m,rfl⟩
 unfold Oper.quietAt
 rw [NB hb ha.agr hx]
 exact ⟨rfl,hc m⟩
end
end
theorem BM.eqAgg {P:Program} {f:Fr} {x y:Operand} {t ty:TypeId} {xs ys:Array Value} {r:Bool} (hx:D3 f x=some (.agg xs)) (hy:D3 f y=some (.agg ys)) (hm:P.eqGuardType P.depth t=false)
  (h:∀ w,(binOp .eql t (.agg xs) (.agg ys)).run P w=.ok (.bool r) w):BM P (.binOp .eql t x y ty) f (.bool r):=λρ hρ d ty' pos aft g w=>by
 simp [execOp,hρ _ _ hx,hρ _ _ hy,run_eqGuard_agg w .eql t x y xs ys hm,h]
theorem BM.neAgg {P:Program} {f:Fr} {x y:Operand} {t ty:TypeId} {xs ys:Array Value} {r:Bool} (hx:D3 f x=some (.agg xs)) (hy:D3 f y=some (.agg ys)) (hm:P.eqGuardType P.depth t=false)
  (h:∀ w,(binOp .neq t (.agg xs) (.agg ys)).run P w=.ok (.bool r) w):BM P (.binOp .neq t x y ty) f (.bool r):=λρ hρ d ty' pos aft g w=>by
 simp [execOp,hρ _ _ hx,hρ _ _ hy,run_eqGuard_agg w .neq t x y xs ys hm,h]
theorem BM.bis {P:Program} {op:Op} {f:Fr} {s:Bool} (t:Bool) (h:BM P op f (.bool s)) (e:s=t):BM P op f (.bool t):=e▸h
theorem BM.iis {P:Program} {op:Op} {f:Fr} {k:IntKind} {s:Int} (t:Int) (h:BM P op f (.int k s)) (e:s=t):BM P op f (.int k t):=e▸h
theorem BM.sis {P:Program} {op:Op} {f:Fr} {s:l8_} (t:l8_) (h:BM P op f (.string (bs s))) (e:s=t):BM P op f (.string (bs t)):=e▸h
def A0W:List Value->Bool
 | []=>true
 | v::r=>v.oneCell' && A0W r
theorem RB:∀ {l:List Value},A0W l=true->∀ v∈l,v.oneCell'=true
 | [],_,v,hv=>by cases hv
 | u::r,h,v,hv=>by
  simp only [A0W,A4] at h
  rcases Ax.1 hv with rfl | hv
  · exact h.1
  · exact RB h.2 v hv
def VY:List Value->List (Nat × Value)->List Value
 | z,[]=>z
 | z,(i,v)::r=>VY (z.set i v) r
theorem pR {p:Prop} (h:p:=by simp only [VY,List.map,List.zip,List.zipWith,List.set,List.replicate] <;> rfl):p:=h
theorem pS {p:Prop} (h:p:=by simp only [VY,List.map,List.zip,List.zipWith,List.set] <;> rfl):p:=h
theorem pZ {p:Prop} (h:p:=by simp only [VY,List.map,List.zip,List.zipWith] <;> rfl):p:=h
def Mt:Nat->Nat->List (Nat × Nat)->Bool
 | _,0,l=>l.isEmpty
 | k,n+1,p::l=>Nat.beq p.1 k && Nat.beq p.2 1 && Mt (k+1) n l
 | _,_+1,[]=>false
theorem Qc:∀ (n k:Nat) (l:List (Nat × Nat)),Mt k n l=true->∀ i,i<n->l[i]?=some (k+i,1)
 | 0,_,_,_,_,hi=>by omega
 | n+1,k,[],h,_,_=>by cases h
 | n+1,k,p::l,h,i,hi=>by
  simp only [Mt,A4] at h
  obtain ⟨⟨h1,h2⟩,h3⟩:=h
  cases i with
  | zero =>
   have e1:=D9 h1
   have e2:=D9 h2
   simp;exact Prod.ext e1 e2
  | succ i =>
   have:=Qc n (k+1) l h3 i oO
   rw [List.getElem?_cons_succ,this]
   congr 2;omega
theorem RC {v:Value} (h:v.oneCell'=true):v.cells=#[v]:=by cases v <;> first | rfl | cases h
def Sa (n:Nat):List (Nat × Value)->Bool
 | []=>true
 | (i,v)::r=>Nat.blt i n && v.oneCell' && Sa n r
theorem U3 {pl:List (Nat × Nat)} {n:Nat} (hp:Mt 0 n pl=true):∀ (Cy:List (Nat × Value)) (z:List Value),z.length=n->Sa n Cy=true->Instr.fill (pl.toArray[·]?) z.toArray Cy=some (VY z Cy).toArray
 | [],z,_,_=>rfl
 | (i,v)::r,z,hz,ho=>by
  simp only [Sa,A4] at ho
  obtain ⟨⟨h1,h2⟩,h3⟩:=ho
  have hi:i<n:=by simpa [Nat.blt_eq] using h1
  have a:=Qc n 0 pl hp i hi
  have hc:=RC h2
  have ih:=U3 hp r (z.set i v) (by simpa using hz) h3
  simp only [Ey] at a
  have b:pl.toArray[i]?=some (i,1):=by simpa using a
  have hf:(#[v].zipIdx.foldl (λcs (x:Value × Nat)=>cs.setIfInBounds (i+x.2) x.1) z.toArray)=(z.set i v).toArray:=by simp [Array.zipIdx]
  refine Eq.trans ?_ ih
  conv=>lhs;unfold Instr.fill
  simp only [b,hc]
  rw [A2 (by simp;omega)]
  exact Bk (λc=>Instr.fill (pl.toArray[·]?) c r) hf
theorem BM.buildL {P:Program} {f:Fr} {t:TypeId} {ps:List (Nat × Operand)} {vs zl l:List Value} {pl:List (Nat × Nat)} (hb:P.built t=λCy=>Instr.fill (pl.toArray[·]?) zl.toArray Cy) (hp:Mt 0 zl.length pl=true)
  (hx:QO f (ps.map (·.2))=some vs) (ho:Sa zl.length ((ps.map (·.1)).zip vs)=true) (hl:VY zl ((ps.map (·.1)).zip vs)=l):BM P (.build t ps.toArray) f (.agg l.toArray) :=
 BM.build hx (by rw [hb,<- hl];exact U3 hp _ _ rfl ho)
theorem AH {P:Program} {n:Sh} {f:Fr} {ops:Array Oper} {Q:Exit->Fr->World->Prop} {w:World} {rest:List Oper} {ty:Nat} {pos:String} {aft:Array Edge} {t tb:TypeId} {x y:Operand} {b:Nat} {old l:List Value} (hx:D3 f x=some (ptV b)) (hy:D3 f y=some (.agg l.toArray)) (hb:Be w b old.toArray tb)
  (hi:(P.info? t).map (·.size)=some l.length) (ho:old.length=l.length) (h1:A0W l=true)
  (k:∀ w1,Be w1 b l.toArray tb->E6 b w w1->w1.heap.size=w.heap.size->WL P n ops Q rest f w1) :
  WL P n ops Q (⟨none,.store t x y,ty,pos,aft,none⟩::rest) f w :=
 A84 hx hy hb (by simpa using hi) (by simpa using ho) (by simpa using RB h1) k
theorem BF {P:Program} {w:World} {b:Nat} {cs:Array Value} {t tb:TypeId} {dd:TypeDesc} (hb:Be w b cs tb) (hu:P.underlying t=some dd)
  (hd:(match dd with | .struct _ | .array _ _=>true | _=>false)=true) (hi:(P.info? t).map (·.size)=some cs.size):(loadVar t ⟨b,0,none⟩).run P w=.ok (.agg cs) w:=run_loadVar_row w b tb t cs (0,0) dd hb hu hd hi
theorem AE {P:Program} {fn:Func} {R:Ending->World->Prop} {c:List PanicEntry} {f:Fr} {w:World} (h:R (.panicked c) w):Ji P fn R (.panic c) f w:=h
theorem QE {P:Program} {fn:Func} {R:Ending->World->Prop} {c:List PanicEntry} {f g:Fr} {w:World} (h:Ji P fn R (.panic c) f w):Ji P fn R (.panic c) g w:=h
theorem Tp {P:Program} {o:Oper} {a:Act} {w:World} {K:Act->World->Prop} {Q Q':Exit->Act->World->Prop} (h:o.wp P a w K Q) (hq:∀ e a w,e≠.normal->Q e a w->Q' e a w):o.wp P a w K Q':=by
 unfold Oper.wp at *
 generalize (execOp a.eval o).run P w=r at *
 cases r with
 | ok m w' =>
  cases m <;> simp only [Oper.upon] at h ⊢ <;>
   first
    | exact h
    | exact Calls.mono h (λe w'' he=>by
      cases e with
      | returned v=>exact he
      | panicked c=>exact hq _ _ _ (by simp) he
      | outgrown=>obtain ⟨a',b,d⟩:=he;exact ⟨a',b,hq _ _ _ (by simp) d⟩)
 | halt x w'=>cases x <;> simp only [Oper.upon] at h ⊢ <;> first | exact h | exact hq _ _ _ (by simp) h
def WY (P:Program) (n:Sh) (ops:Array Oper) (Q:Exit->Fr->World->Prop) (fuel:Nat) (listed:Array Bool) (f:Fr) (w:World):Prop:=∀ a,LK n f a->wpAny P .any ops (Hq n Q) fuel listed a w
section
variable {P:Program} {n:Sh} {f:Fr} {ops:Array Oper} {Q:Exit->Fr->World->Prop} {w:World} {fuel:Nat} {listed:Array Bool}
theorem ME {id:Nat} {l:List Oper} (N:Nat) (hN:l.length=N) (hm:P.follows .mixedOrders=true) (h:∀ w1,Df w w1->WY P n l.toArray Q N (Array.replicate N false) f w1):W P n (.region id l.toArray true) Q f w :=
 λa ha=>wp_region_any hm (by
  subst hN
  have:=h (w.drewN 1) ⟨1,rfl⟩ a ha
  rw [show l.toArray.size=l.length by simp]
  exact this)
theorem WY.take (i:Nat) {d ty:Nat} {pos:String} {aft:Array Edge} {op:Op} {v:Value} (hi:ops[i]?=some ⟨some d,op,ty,pos,aft,none⟩) (hs:Region.noSelect ops=true) (hf:Region.free .any ops listed i=true)
  (hr:(Region.ready .any ops listed).contains i=true) (hQ:∀ c f w,Q (.panic c) f w->Q (.panic c) [] w) (hp:BM P op f v) (hd:Nat.blt d n.n=true)
  (k:WY P n ops Q fuel (listed.setIfInBounds i true) ((d,v)::f) w):WY P n ops Q (fuel+1) listed f w:=by
 intro a ha
 refine wpAny_take hi hs hf hr ?_ (.inl ⟨by simp [Region.wanted],λw=>hp _ ha.agr _ _ _ _ _ w⟩) (k _ (ha.put hd v))
 rintro c b w' ⟨g,hg,hq⟩
 have e:=hg.1
 have j:=hg.2.1
 refine ⟨[],⟨?_,?_,λi u hu=>by cases hu⟩,hQ c g w' hq⟩
 · exact e
 · simpa [Act.put] using j
def Xq (P:Program) (n:Sh) (ops:Array Oper) (Q:Exit->Fr->World->Prop) (fuel:Nat) (listed:Array Bool) (f:Fr) (w:World):List Nat->Prop
 | []=>True
 | i::r=>(∃ o,ops[i]?=some o/\WL P n ops (nx (λf' w'=>WY P n ops Q fuel (listed.setIfInBounds i true) f' w') Q) [o] f w)/\Xq P n ops Q fuel listed f w r
theorem Xq.mem:∀ {rs:List Nat},Xq P n ops Q fuel listed f w rs->∀ i∈rs,∃ o,ops[i]?=some o/\WL P n ops (nx (λf' w'=>WY P n ops Q fuel (listed.setIfInBounds i true) f' w') Q) [o] f w
 | [],_,_,h=>by cases h
 | j::r,h,i,hi=>by
  rcases Ax.1 hi with rfl | hi
  · exact h.1
  · exact Xq.mem h.2 i hi
theorem Ug (rs:List Nat) (hr:Region.ready .any ops listed=rs) (hne:rs.isEmpty=false) (h:Xq P n ops Q fuel listed f w rs):WY P n ops Q (fuel+1) listed f w:=by
 intro a ha
 refine wpAny_all hr (by cases rs with | nil=>cases hne | cons _ _=>simp) λi hi=>?_
 obtain ⟨o,ho,hw⟩:=h.mem i hi
 have:=hw a ha
 unfold wpOp
 simp only [ho]
 have conv:∀ (e:Exit) (a:Act) (w:World),Hq n (nx (λf' w'=>WY P n ops Q fuel (listed.setIfInBounds i true) f' w') Q) e a w->Exit.then (wpAny P .any ops (Hq n Q) fuel (listed.setIfInBounds i true)) (Hq n Q) e a w:=by
  rintro e a w ⟨g,hg,hq⟩
  cases e with
  | normal=>exact hq a hg
  | _=>exact ⟨g,hg,hq⟩
 unfold wpList at this
 split
 ·
  next hwt =>
  rw [A7 hwt] at this
  refine this.imp (λh=>?_) λ⟨b,a',w',c⟩=>⟨b,a',w',conv _ _ _ c⟩
  have h':o.wp P a w (wpAny P .any ops (Hq n Q) fuel (listed.setIfInBounds i true)) (Hq n (nx (λf' w'=>WY P n ops Q fuel (listed.setIfInBounds i true) f' w') Q)) :=
   Oper.wp_mono (λa w h=>conv .normal a w h) h
  exact Tp h' λe a w he h=>by
   cases e with
   | normal=>exact D6 rfl he
   | _=>exact conv _ a w h
 ·
  next hwt =>
  rw [A2 hwt] at this
  exact conv .normal _ _ this
theorem Bs (i:Nat) {d ty:Nat} {pos:String} {aft:Array Edge} {op:Op} {v:Value} (hi:ops[i]?=some ⟨some d,op,ty,pos,aft,none⟩) (hp:BM P op f v) (hd:Nat.blt d n.n=true)
  (k:WY P n ops Q fuel (listed.setIfInBounds i true) ((d,v)::f) w) (hs:Region.noSelect ops=true:=by kernel_rfl) (hf:Region.free .any ops listed i=true:=by kernel_rfl)
  (hr:(Region.ready .any ops listed).contains i=true:=by kernel_rfl) (hQ:∀ c f w,Q (.panic c) f w->Q (.panic c) [] w:=by first | exact λc f w h=>QE h | exact λc f w h=>h):WY P n ops Q (fuel+1) listed f w :=
 WY.take i hi hs hf hr hQ hp hd k
theorem AG (i:Nat) {o:Oper} (hi:ops[i]?=some o) (h:WL P n ops (nx (λf' w'=>WY P n ops Q fuel (listed.setIfInBounds i true) f' w') Q) [o] f w) (hr:Region.ready .any ops listed=[i]:=by kernel_rfl):WY P n ops Q (fuel+1) listed f w :=
 Ug [i] hr rfl ⟨⟨_,hi,h⟩,tT⟩
theorem Em (i:Nat) {o:Oper} (hi:ops[i]?=some o) (j:Nat) {o2:Oper} (hj:ops[j]?=some o2) (h:WL P n ops (nx (λf' w'=>WY P n ops Q fuel (listed.setIfInBounds i true) f' w') Q) [o] f w)
  (h2:WL P n ops (nx (λf' w'=>WY P n ops Q fuel (listed.setIfInBounds j true) f' w') Q) [o2] f w) (hr:Region.ready .any ops listed=[i,j]:=by kernel_rfl):WY P n ops Q (fuel+1) listed f w :=
 Ug [i,j] hr rfl ⟨⟨_,hi,h⟩,⟨_,hj,h2⟩,tT⟩
theorem Cg (hr:Region.ready .any ops listed=[]) (h:Q .normal f w):WY P n ops Q fuel listed f w:=λ_ ha=>wpAny_done hr ⟨f,ha,h⟩ fuel
end
attribute [irreducible] Ji W WL WQ WS WY
end
section
section
variable {P:Program} {n:Sh} {f:Fr}
def pA (p:Option Addr):Addr:=p.getD ⟨0,0,none⟩
structure Ay (w:World) (p:Option Addr) (l:l8_):Prop where
 isp:0<l.length->p=some (pA p)
 cells:∀ j (h:j<l.length),w.cell? ((pA p).add j)=some (.int .u8 (l[j].toNat:Int))
theorem Ay.nil (w:World):Ay w none []:=⟨λh=>by simp at h,λj h=>by simp at h⟩
theorem Ff (a:Addr):a.add 0=a:=by unfold Addr.add;split <;> simp_all
theorem Fz (a:Addr) (k:Nat):(a.add k).block=a.block:=by unfold Addr.add;split <;> simp_all
theorem JI (a:Addr) (j k:Nat):(a.add j).add k=a.add (j+k):=by
 unfold Addr.add
 split <;> simp_all <;> (try split) <;> simp_all <;> omega
theorem Ay.below {w w1:World} {B:Nat} {p:Option Addr} {l:l8_} (h:Ay w p l) (hb:Below B w w1) (hp:0<l.length->(pA p).block<B):Ay w1 p l :=
 ⟨h.isp,λj hj=>by rw [hb.cell (by rw [Fz];exact hp oO)];exact h.cells j hj⟩
abbrev Hk:=@Ay.below
theorem Ay.upd {w w1:World} {b:Nat} {p:Option Addr} {l:l8_} (h:Ay w p l) (hu:E6 b w w1) (hp:0<l.length->(pA p).block≠b):Ay w1 p l :=
 ⟨h.isp,λj hj=>by rw [World.cell?_of_block (w:=w) (hu.other _ (by rw [Fz];exact hp oO))];exact h.cells j hj⟩
theorem DQ {w w1:World} {b:Nat} {p:Option Addr} {l:l8_} (h:Ay w p l) (hu:E6 b w w1) (hp:0<l.length->(pA p).block<b):Ay w1 p l:=Ay.upd h hu (λh0=>A9v (hp h0))
theorem Ay.drewN {w:World} {p:Option Addr} {l:l8_} (h:Ay w p l) (m:Nat):Ay (w.drewN m) p l:=⟨h.isp,h.cells⟩
theorem Ay.lt {w:World} {p:Option Addr} {l:l8_} (h:Ay w p l) (hl:0<l.length):(pA p).block<w.heap.size:=by
 have:=h.cells 0 hl
 unfold World.cell? at this
 rw [Fz] at this
 cases hb:w.heap[(pA p).block]? with
 | none=>rw [hb] at this;cases this
 | some o=>exact (BJ.1 hb).1
theorem BM.ixb {tx e:TypeId} {x y:Operand} {p:Option Addr} {l c:Nat} {i:Int} {k:IntKind} (hu:P.underlying tx=some (.slice e)) (hs:∀ w,(sizeOf e).run P w=.ok 1 w) (hx:D3 f x=some (.slice p l c))
  (hi:D3 f y=some (.int k i)) (hp:p=some (pA p)) (j:Nat) (e':i=j) (hj:j<l):BM P (.indexAddr tx x y) f (.pointer (some ((pA p).add j))):=by
 have h:=BM.ixa (P:=P) (f:=f) (p:=pA p) (c:=c) hu hs (hx.trans (by rw [<- hp])) hi j e' hj
 rwa [Nat.mul_one] at h
theorem Y7 (l:l8_):(l.map λb=>(b.toNat:Int)).foldl (λ(r:ByteArray) n=>r.push (UInt8.ofNat n.toNat)) ByteArray.empty=bs l:=by
 have key:∀ (l m:l8_),(l.map λb=>(b.toNat:Int)).foldl (λ(r:ByteArray) n=>r.push (UInt8.ofNat n.toNat)) (bs m)=bs (m++l):=by
  intro l
  induction l with
  | nil=>intro m;simp
  | cons c r ih =>
   intro m
   have e:(bs m).push (UInt8.ofNat ((c.toNat:Int)).toNat)=bs (m++[c]):=by
    rw [Int.toNat_natCast,UInt8.ofNat_toNat]
    apply ByteArray.ext
    simp [bs,ByteArray.push]
   rw [C3,DS,e,ih,AB];rfl
 have:=key l []
 rw [CJ] at this
 exact this
theorem MG {tx ty e:TypeId} {x:Operand} {p:Option Addr} {l:l8_} {c:Nat} {w:World} (hu:P.underlying tx=some (.slice e)) (he:P.underlying e=some (.int .u8)) (ht:P.underlying ty=some .string)
  (hx:D3 f x=some (.slice p l.length c)) (hb:Ay w p l):Rd P (.convert tx ty x) f w (.string (bs l)):=λρ hρ d ty' pos aft g=>by
 have hv:=hρ _ _ hx
 have key:(convert tx ty (.slice p l.length c)).run P w=.ok (.string (bs l)) w:=by
  cases p with
  | none =>
   have i:l=[]:=by
    cases l with
    | nil=>rfl
    | cons a r=>have:=hb.isp (by simp);cases this
   subst i
   simp [convert,B7 hu,B7 he,B7 ht,Conv.bytesToString]
   rfl
  | some a =>
   have hl:(loadCells a l.length).run P w=.ok ((l.map λb=>(b.toNat:Int)).map (Value.int .u8)).toArray w:=by
    have:=run_loadCells_list (P:=P) w a ((l.map λb=>(b.toNat:Int)).map (Value.int .u8)) (λj v hj=>by
     simp only [List.getElem?_map,Option.map_eq_some_iff] at hj
     obtain ⟨z,⟨b,hb1,rfl⟩,rfl⟩:=hj
     obtain ⟨k,rfl⟩:=C2.1 hb1
     exact hb.cells j k)
    simpa using this
   rw [run_convert_bytes_string w tx ty e _ _ _ hu he ht,run_bytesToString w a l.length c _ hl,Y7]
 unfold execOp
 simp only [hv,Bq,key,AX,CC]
theorem Ay.one {w:World} {b:Nat} {x:Int} {t:TypeId} {c:UInt8} (h:Be w b #[.int .u8 x] t) (e:x=(c.toNat:Int)):Ay w (some ⟨b,0,none⟩) [c] :=
 ⟨λ_=>rfl,λj hj=>by
  obtain rfl:j=0:=by simp at hj;omega
  show w.cell? ((⟨b,0,none⟩:Addr).add 0)=_
  rw [Ff,h.cell 0,e];rfl⟩
theorem WN {n:Nat}:∀ (Cy:List (Nat × Value)) (z:List Value),z.length=n->Sa n Cy=true->Instr.fill (λi=>some (i * 1,1)) z.toArray Cy=some (VY z Cy).toArray
 | [],z,_,_=>rfl
 | (i,v)::r,z,hz,ho=>by
  simp only [Sa,A4] at ho
  obtain ⟨⟨h1,h2⟩,h3⟩:=ho
  have hi:i<n:=by simpa [Nat.blt_eq] using h1
  have hc:=RC h2
  have ih:=WN r (z.set i v) (by simpa using hz) h3
  have hf:(#[v].zipIdx.foldl (λcs (x:Value × Nat)=>cs.setIfInBounds (i * 1+x.2) x.1) z.toArray)=(z.set i v).toArray:=by simp [Array.zipIdx]
  refine Eq.trans ?_ ih
  conv=>lhs;unfold Instr.fill
  simp only [hc]
  rw [A2 (by simp;omega)]
  exact Bk (λc=>Instr.fill (λi=>some (i * 1,1)) c r) hf
theorem CF {ops:Array Oper} {Q:Exit->Fr->World->Prop} {w:World} {rest:List Oper} {d ty:Nat} {pos:String} {aft:Array Edge} {t e:TypeId} {len:Nat} {ps:List (Nat × Operand)} {vs l:List Value} {z:Value}
  (hu:P.underlying t=some (.slice e)) (hs:∀ w,(sizeOf e).run P w=.ok 1 w) (hz:∀ w,(zeroValue e).run P w=.ok z w) (hz1:z.oneCell'=true) (hl0:Nat.blt 0 len=true) (hl1:Nat.ble len 1000=true)
  (hx:QO f (ps.map (·.2))=some vs) (ho:Sa len ((ps.map (·.1)).zip vs)=true) (hl:VY (List.replicate len z) ((ps.map (·.1)).zip vs)=l) (hd:Nat.blt d n.n=true)
  (k:∀ b w1,b=w.heap.size->Be w1 b l.toArray e->E6 b w w1->w1.heap.size=b+1->WL P n ops Q rest ((d,.slice (some ⟨b,0,none⟩) len len)::f) w1) :
  WL P n ops Q (⟨some d,.buildSlice t len ps.toArray,ty,pos,aft,none⟩::rest) f w:=by
 have A:0<len:=by simpa [Nat.blt_eq] using hl0
 have s:len<=1000:=by simpa using hl1
 refine WL.run hd (w':=w.alloc (.cells l.toArray e)) (v:=.slice (some ⟨w.heap.size,0,none⟩) len len) (λρ hρ=>?_) (k _ _ rfl (Be.alloc _ _ _) (E6.alloc _ _) (by simp))
 have m:=Kp hρ _ _ hx
 have u:(ps.toArray.map λ(i,x)=>(i,ρ x)).toList=(ps.map (·.1)).zip vs:=by
  rw [<- m];simp only [List.map_map,Array.toList_map]
  clear hx ho hl m
  induction ps with
  | nil=>rfl
  | cons p r ih=>simpa using ih
 have o:=RC hz1
 have g:(Array.range (len * 1)).map (λx=>(#[z]:Array Value)[x % (#[z]:Array Value).size]!)=(List.replicate len z).toArray:=by
  apply Array.ext
  · simp
  · intro i s B;simp [Nat.mod_one]
 have a:=WN (n:=len) ((ps.map (·.1)).zip vs) (List.replicate len z) (by simp) ho
 rw [hl] at a
 have j:Instr.fill (λi=>some (i,1)) (List.replicate len z).toArray ((ps.map (·.1)).zip vs)=some l.toArray:=by simpa using a
 have c:(Array.range len).map (λx=>(#[z]:Array Value)[x % (#[z]:Array Value).size]!)=(List.replicate len z).toArray:=by simpa using g
 have q:len≠0:=by omega
 have y:¬ 16777216<len:=by omega
 unfold execOp
 simp only [Instr.buildSlice,Bq,B7 hu,hs,AX,u,Nat.mul_one]
 rw [A2 oO,A2 q]
 simp only [Bq,hz,o,CC,AX,c,j]
 simp [newRow]
end
end
section
structure Bo (B r:Nat) (w w1:World):Prop where
 os:w1.os=w.os
 tape:w1.tape=w.tape
 output:w1.output=w.output
 size:w.heap.size<=w1.heap.size
 block:∀ k,k<B->k≠r->w1.heap[k]?=w.heap[k]?
theorem Bo.refl (B r:Nat) (w:World):Bo B r w w:=⟨rfl,rfl,rfl,FQ _,λ_ _ _=>rfl⟩
theorem Bo.trans {B r:Nat} {a b c:World} (h:Bo B r a b) (k:Bo B r b c):Bo B r a c :=
 ⟨k.os.trans h.os,k.tape.trans h.tape,k.output.trans h.output,BA h.size k.size,λi hi hr=>(k.block i hi hr).trans (h.block i hi hr)⟩
abbrev BY:=@Bo.trans
theorem Bo.mono {B B' r:Nat} {a b:World} (h:Bo B r a b) (hB:B'<=B):Bo B' r a b:=⟨h.os,h.tape,h.output,h.size,λi hi hr=>h.block i oO hr⟩
abbrev Gq:=@Bo.mono
theorem Bo.of_below {B r:Nat} {a b:World} (h:Below B a b):Bo B r a b:=⟨h.os,h.tape,h.output,h.size,λi hi _=>h.block i hi⟩
abbrev JM:=@Bo.of_below
theorem Td {B r:Nat} {a b:World} (h:Df a b):Bo B r a b:=JM (h.below (Nh _ _))
abbrev Ob:=@Td
theorem BX {B r:Nat} {a b:World} (h:E6 r a b):Bo B r a b:=⟨h.os,h.tape,h.output,h.size,λi _ hr=>h.other i hr⟩
theorem Vd {B r c:Nat} {a b:World} (h:E6 c a b) (hc:B<=c):Bo B r a b:=⟨h.os,h.tape,h.output,h.size,λi hi _=>h.other i oO⟩
abbrev EH:=@Vd
theorem Bo.below {B B' r:Nat} {a b:World} (h:Bo B' r a b) (hB:B<=B') (hr:B<=r):Below B a b:=⟨h.os,h.tape,h.output,h.size,λi hi=>h.block i oO oO⟩
theorem A1O {B r c:Nat} {w w1:World} {cs:Array Value} {t:TypeId} (h:Be w c cs t) (hT:Bo B r w w1) (hc:c<B) (hr:c≠r):Be w1 c cs t:=(hT.block c hc hr).trans h
abbrev Iw:=@A1O
theorem Ay.drew {w w1:World} {p:Option Addr} {l:l8_} (h:Ay w p l) (d:Df w w1):Ay w1 p l:=by obtain ⟨m,rfl⟩:=d;exact h.drewN m
section
variable {P:Program} {n:Sh} {f:Fr}
def Cq (e:TypeId) (B:Nat) (w:World) (v:Value) (xs:List Value):Prop:=w.ownsRow B e 1 v xs.length xs
theorem Cq.nil (e:TypeId) (B:Nat) (w:World):Cq e B w (.slice none 0 0) []:=World.ownsRow_nil w B e 1
theorem A8k {e:TypeId} {B r:Nat} {w w1:World} {v:Value} {xs:List Value} (h:Cq e B w v xs) (hu:E6 r w w1) (hr:r<B):Cq e B w1 v xs:=by
 obtain ⟨hl,h⟩:=h
 refine ⟨hl,h.imp id λ⟨g,cap,cur,a,b,c,d⟩=>⟨g,cap,cur,a,b,(hu.other g oO).trans c,d⟩⟩
theorem Cq.new {e:TypeId} {B b:Nat} {w w1:World} {v:Value} {xs:List Value} (h:Cq e B w v xs) (eb:b=w.heap.size) (hu:E6 b w w1):Cq e B w1 v xs:=by
 obtain ⟨hl,h⟩:=h
 refine ⟨hl,h.imp id λ⟨g,cap,cur,c,d,a,f⟩=>⟨g,cap,cur,c,d,(hu.other g (by have:=(BJ.1 a).1;omega)).trans a,f⟩⟩
theorem Cq.below {e:TypeId} {B:Nat} {w w1:World} {v:Value} {xs:List Value} (h:Cq e B w v xs) (hb:AD w w1):Cq e B w1 v xs:=by
 obtain ⟨hl,h⟩:=h
 refine ⟨hl,h.imp id λ⟨g,cap,cur,b,c,a,d⟩=>⟨g,cap,cur,b,c,(hb.block g (BJ.1 a).1).trans a,d⟩⟩
theorem IP {e:TypeId} {B r:Nat} {w w1:World} {v:Value} {xs:List Value} (h:Cq e B w v xs) (hT:Bo w.heap.size r w w1) (hr:r<B):Cq e B w1 v xs:=by
 obtain ⟨hl,h⟩:=h
 refine ⟨hl,h.imp id λ⟨g,cap,cur,b,c,a,d⟩=>⟨g,cap,cur,b,c,(hT.block g (BJ.1 a).1 oO).trans a,d⟩⟩
theorem Cq.drew {e:TypeId} {B:Nat} {w w1:World} {v:Value} {xs:List Value} (h:Cq e B w v xs) (d:Df w w1):Cq e B w1 v xs:=by obtain ⟨m,rfl⟩:=d;exact h
theorem Cq.bytes {e:TypeId} {B:Nat} {w:World} {v:Value} {l:l8_} (h:Cq e B w v (Az l)):∃ p c,v=.slice p l.length c/\Ay w p l/\(0<l.length->B<=(pA p).block):=by
  have b:(Az l).length=l.length:=by simp [Az]
  obtain ⟨hl,h⟩:=h
  rcases h with ⟨rfl,d⟩ | ⟨g,cap,cur,rfl,hB,hg,f,m,o,a⟩
  · obtain rfl : l = [] := by rw [b] at d; exact CB.1 d
    exact ⟨none,0,rfl,Ay.nil w,λh=>by simp at h⟩
  · rw [b] at f a ⊢
    refine ⟨_,cap,rfl,⟨λ_=>rfl,λj hj=>?_⟩,λ_=>hB⟩
    have k:(pA (some ⟨g,0,none⟩)).add j=⟨g,j,none⟩:=by
      show (⟨g,0,none⟩:Addr).add j=_
      unfold Addr.add;split
      · next h=>subst h;rfl
      · simp
    have hc:=Lib.cell_of_heap hg j
    rw [k,hc,<- Dz]
    have i:(cur.toList.take (l.length * 1))[j]?=(Az l)[j]?:=by rw [a]
    rw [List.getElem?_take,A7 oO] at i
    rw [i]
    simp [Az,hj]
theorem A6o {ops:Array Oper} {Q:Exit->Fr->World->Prop} {w:World} {rest:List Oper} {d ty:Nat} {pos:String} {aft:Array Edge} {s x:Operand} {t e:TypeId} {B:Nat} {i:TypeInfo} {z v u:Value} {xs:List Value} {b c by':Nat} {tb:TypeId}
    (ht:P.underlying t=some (.slice e)) (hi:P.info? e=some i) (hz:i.zero=some z) (hsize:i.size=1) (hby:i.bytes=by') (hby2:by'<=16) (hzs:z.cells.size=1)
    (hs:D3 f s=some v) (hown:Cq e B w v xs) (hx:D3 f x=some (.slice (some ⟨b,0,none⟩) 1 c)) (hb:Be w b #[u] tb) (h1:u.oneCell'=true)
    (hn:xs.length<=1000000000) (hB:B<=w.heap.size) (hd:Nat.blt d n.n=true)
    (k:∀ v' w',Cq e B w' v' (xs++[u])->Below B w w'->w.grownBy w' v.ownBlock->WL P n ops Q rest ((d,v')::f) w') :
    WL P n ops Q (⟨some d,.call ⟨.builtin .append,#[s,x],#[t,t]⟩,ty,pos,aft,none⟩::rest) f w:=by
  obtain ⟨v',w',g,l,a,-⟩:=run_append_own (P:=P) (w:=w) B t ty e i z 1 by' ht hi hz hsize hby hzs dD v xs.length xs hown ⟨b,0,none⟩ 1 c [u] rfl
    (λj y hj=>by
      have m:j=0:=by
        rcases HR j with h | h
        · exact h
        · rw [AO (by simp;omega)] at hj;cases hj
      subst m;simp only [List.getElem?_cons_zero,Br] at hj;subst hj;rw [Ff,hb.cell 0];rfl) (by simpa using h1) (by unfold maxLen;omega) (by
      have:(xs.length+1) * by'<=(xs.length+1) * 16:=Nat.mul_le_mul_left _ hby2
      omega) hB
  refine WL.run hd (w':=w') (v:=v') (λρ hρ=>?_) (k v' w' ?_ ((Nh _ _).grown a hB λk hk=>(hown.lt k hk).1) a)
  · unfold execOp
    simp only [resolve,invoke,builtin,Bq,CC,AX,List.map_toArray,C3,Da,hρ _ _ hs,hρ _ _ hx,g]
  · have o : (xs ++ [u]).length = xs.length + 1 := by simp
    unfold Cq;rw [o];exact l
theorem BM.mkI {tx:TypeId} {x:Operand} {k:IntKind} {v:Value} (hu:P.underlying tx=some (.int k)) (hx:D3 f x=some v):BM P (.makeInterface tx x) f (.iface tx v):=λρ hρ d ty pos aft g w=>by
 simp [execOp,hρ _ _ hx,Instr.makeInterface,B7 hu]
theorem FE {ops:Array Oper} {Q:Exit->Fr->World->Prop} {w:World} {rest:List Oper} {d:Option Tmp} {ty:Nat} {pos:String} {aft:Array Edge} {x:Operand} {t:TypeId} {v:Value}
  (hx:D3 f x=some (.iface t v)) (k:Q (.panic [{ v:=.iface t v,recovered:=false }]) f w):WL P n ops Q (⟨d,.panic x,ty,pos,aft,none⟩::rest) f w :=
 A9l (λρ hρ=>by simp [execOp,hρ _ _ hx,Instr.panic]) k
def Ct {α:Type} (E:TypeId) (res:Except Int α) (V:α->Value) (S:α->World->Prop) (S':World->Prop) (e:Ending) (w:World):Prop :=
 match res with
 | .ok a=>e=.returned (V a)/\S a w
 | .error k=>e=.panicked [{ v:=.iface E (Ah k),recovered:=false }]/\S' w
theorem By {ops:Array Oper} {Q:Exit->Fr->World->Prop} {w:World} {rest:List Oper} {d ty:Nat} {pos:String} {aft:Array Edge} {F:FuncId} {xs:List Operand} {ats:Array TypeId} {vs:List Value} {α:Type}
  {E:TypeId} {res:Except Int α} {V:α->Value} {S:α->World->Prop} {S':World->Prop} (hb:Dq P F) (hx:QO f xs=some vs) (hd:Nat.blt d n.n=true)
  (hc:Calls P F vs.toArray w (Ct E res V S S')) (herr:∀ k w',res=.error k->S' w'->Q (.panic [{ v:=.iface E (Ah k),recovered:=false }]) f w')
  (hok:∀ a w',res=.ok a->S a w'->WL P n ops Q rest ((d,V a)::f) w'):WL P n ops Q (⟨some d,.call ⟨.value (.func F),xs.toArray,ats⟩,ty,pos,aft,none⟩::rest) f w:=by
 cases hres:res with
 | ok a=>exact WL.c1 hb hx hd (hc.mono λe w' h=>by rw [hres] at h;exact h) λw' h=>hok a w' hres h
 | error k=>exact Gb hb hx (hc.mono λe w' h=>by rw [hres] at h;exact h) λw' h=>herr k w' hres h
theorem Ct.ok {α:Type} {E:TypeId} {res:Except Int α} {V:α->Value} {S:α->World->Prop} {S':World->Prop} {e:Ending} {w:World} (a:α) (h:res=.ok a) (he:e=.returned (V a)) (hs:S a w):Ct E res V S S' e w:=by
 unfold Ct;rw [h];exact ⟨he,hs⟩
theorem BB {α:Type} {E:TypeId} {res:Except Int α} {V:α->Value} {S:α->World->Prop} {S':World->Prop} {w:World} (k:Int) (h:res=.error k) (hs:S' w):Ct E res V S S' (.panicked [{ v:=.iface E (Ah k),recovered:=false }]) w:=by
 unfold Ct;rw [h];exact ⟨rfl,hs⟩
end
end
section
theorem BU {P:Program} {fn:Func} {R:Ending->World->Prop} {f:Fr} {w:World} (h:Ji P fn R .ret f w):Ji P fn R .normal f w:=by unfold Ji at *;exact h
theorem Ch {P:Program} {fn:Func} {R:Ending->World->Prop} {f:Fr} {w:World} {t:Tmp} {ty:TypeId} {b:Addr} {v:Value} (hr:fn.results=#[.cell t ty])
  (ht:look f t=some (.pointer (some b))) (hv:(loadVar ty b).run P w=.ok v w) (h:R (.returned v) w):Ji P fn R .ret f w:=by
 unfold Ji
 exact ⟨_,λtmps hh=>by
  have a:=hh _ _ ht
  simp only [Ba] at a
  simp [results,hr,a,asAddr,hv],h⟩
section
variable {P:Program} {n:Sh} {f:Fr}
def PZ (p:Option Addr) (c a:Nat):Option Addr:=if c=a then p else p.map (·.add a)
theorem BM.slb {tx e:TypeId} {x y z:Operand} {p:Option Addr} {m c:Nat} {i j:Int} (hu:P.underlying tx=some (.slice e)) (hs:∀ w,(sizeOf e).run P w=.ok 1 w) (hx:D3 f x=some (.slice p m c))
  (hi:D3 f y=some (Ah i)) (hj:D3 f z=some (Ah j)) (a b:Nat) (ei:i=a) (ej:j=b) (hab:a<=b) (hbc:b<=c) :
  BM P (.slice tx x (some y) (some z) none) f (.slice (PZ p c a) (b-a) (c-a)):=λρ hρ d ty pos aft g w=>by
 subst ei;subst ej
 have h1:(a:Int)<=(b:Int):=by omega
 simp [execOp,Instr.sliceAt,Instr.slice,Instr.sliceBounds,run_sliceBound,hρ _ _ hx,hρ _ _ hi,hρ _ _ hj,B7 hu,hs,hbc,hab,PZ]
theorem BM.slbF {tx e:TypeId} {x y:Operand} {p:Option Addr} {m c:Nat} {i:Int} (hu:P.underlying tx=some (.slice e)) (hs:∀ w,(sizeOf e).run P w=.ok 1 w) (hx:D3 f x=some (.slice p m c))
  (hi:D3 f y=some (Ah i)) (a:Nat) (ei:i=a) (ham:a<=m) :
  BM P (.slice tx x (some y) none none) f (.slice (PZ p c a) (m-a) (c-a)):=λρ hρ d ty pos aft g w=>by
 subst ei
 simp [execOp,Instr.sliceAt,Instr.slice,Instr.sliceBounds,run_sliceBound,hρ _ _ hx,hρ _ _ hi,B7 hu,hs,ham,PZ]
theorem Ay.part {w:World} {p:Option Addr} {l:l8_} {c a b:Nat} (h:Ay w p l) (hab:a<=b) (hb:b<=l.length) (hc:l.length<=c):Ay w (PZ p c a) ((l.drop a).take (b-a)):=by
  have d:((l.drop a).take (b-a)).length=b-a:=by rw [AT,B9];omega
  by_cases h0:a=b
  · refine ⟨λh=>?_,λj hj=>?_⟩ <;> rw [d] at * <;> omega
  · have hp := h.isp oO
    have e:PZ p c a=some ((pA p).add a):=by unfold PZ;rw [A2 oO];rw [hp];rfl
    rw [e]
    refine ⟨λ_=>rfl,λj hj=>?_⟩
    rw [d] at hj
    show w.cell? (((pA p).add a).add j)=_
    rw [JI,h.cells (a+j) oO]
    simp
theorem A2O {l:l8_} {a b:Nat} (hb:b<=l.length):((l.drop a).take (b-a)).length=b-a:=by rw [AT,B9];omega
theorem O0 {tx ty e:TypeId} {x:Operand} {p:Option Addr} {l:l8_} {a b c c' m:Nat} {w:World} (hu:P.underlying tx=some (.slice e)) (he:P.underlying e=some (.int .u8)) (ht:P.underlying ty=some .string)
  (hx:D3 f x=some (.slice (PZ p c a) m c')) (hm:m=b-a) (hb:Ay w p l) (hab:a<=b) (hbl:b<=l.length) (hc:l.length<=c):Rd P (.convert tx ty x) f w (.string (bs ((l.drop a).take (b-a)))):=by
 subst hm
 refine MG (c:=c') hu he ht ?_ (hb.part hab hbl hc)
 rw [A2O hbl];exact hx
theorem Rd.iis {op:Op} {w:World} {k:IntKind} {s:Int} (t:Int) (h:Rd P op f w (.int k s)) (e:s=t):Rd P op f w (.int k t):=e▸h
theorem EP {ops:Array Oper} {Q:Exit->Fr->World->Prop} {w:World} {rest:List Oper} {d ty:Nat} {pos:String} {aft:Array Edge} {s x:Operand} {t e:TypeId} {B:Nat} {z v u:Value} {xs:List Value} {b c by':Nat} {tb:TypeId}
  (ht:P.underlying t=some (.slice e)) (hi:(P.info? e).map (λi=>(i.zero,i.size,i.bytes))=some (some z,1,by')) (hby2:Nat.ble by' 16=true) (hzs:z.cells.size=1)
  (hs:D3 f s=some v) (hown:Cq e B w v xs) (hx:D3 f x=some (.slice (some ⟨b,0,none⟩) 1 c)) (hb:Be w b #[u] tb) (h1:u.oneCell'=true)
  (hn:xs.length<=1000000000) (hB:B<=w.heap.size) (hd:Nat.blt d n.n=true)
  (k:∀ v' w',Cq e B w' v' (xs++[u])->Below B w w'->w.grownBy w' v.ownBlock->WL P n ops Q rest ((d,v')::f) w') :
  WL P n ops Q (⟨some d,.call ⟨.builtin .append,#[s,x],#[t,t]⟩,ty,pos,aft,none⟩::rest) f w:=by
 cases hh:P.info? e with
 | none=>rw [hh] at hi;cases hi
 | some i =>
  rw [hh] at hi
  simp only [Option.map_some,Br,CR] at hi
  exact A6o ht hh hi.1 hi.2.1 hi.2.2 (by simpa using hby2) hzs hs hown hx hb h1 hn hB hd k
theorem Bc (l:l8_):(Az l).length=l.length:=by simp [Az]
theorem ED {e:TypeId} {B:Nat} {w:World} {v:Value} {l:l8_} {x:Int} (h:Cq e B w v (Az l++[.int .u8 x])) (c:UInt8) (hc:x=(c.toNat:Int)):Cq e B w v (Az (l++[c])):=by
 have:Az (l++[c])=Az l++[.int .u8 x]:=by simp [Az,hc]
 rw [this];exact h
end
end
section
open Go.RowKit Go.WideShapes Go.ChangeShapes
section
variable {P:Program} {n:Sh} {f:Fr}
theorem ZZ {ops:Array Oper} {Q:Exit->Fr->World->Prop} {w:World} {rest:List Oper} {d ty:Nat} {pos:String} {aft:Array Edge} {t e:TypeId} {sz:Nat}
  (hu:P.underlying t=some (.slice e)) (hs:∀ w,(sizeOf e).run P w=.ok sz w) (hd:Nat.blt d n.n=true)
  (k:∀ b w1,b=w.heap.size->(∀ B,B<=b->w1.ownsRow B e sz (.slice (some ⟨b,0,none⟩) 0 0) 0 [])->E6 b w w1->w1.heap.size=b+1->WL P n ops Q rest ((d,.slice (some ⟨b,0,none⟩) 0 0)::f) w1) :
  WL P n ops Q (⟨some d,.buildSlice t 0 [].toArray,ty,pos,aft,none⟩::rest) f w:=by
 refine WL.run hd (w':=w.alloc (.cells #[] e)) (v:=.slice (some ⟨w.heap.size,0,none⟩) 0 0) (λρ hρ=>?_)
  (k _ _ rfl (λB hB=>⟨by simp,.inr ⟨w.heap.size,0,#[],rfl,hB,Be.alloc _ _ _,FQ _,by unfold maxLen;omega,by simp,by simp⟩⟩) (E6.alloc _ _) (by simp))
 unfold execOp
 have a:Array.map (λ_=>(default:Value)) (Array.range 0)=#[]:=by simp
 simp [Instr.buildSlice,B7 hu,hs,Instr.fill,a,newRow]
theorem QW {ops:Array Oper} {Q:Exit->Fr->World->Prop} {w:World} {rest:List Oper} {d ty:Nat} {pos:String} {aft:Array Edge} {s x:Operand} {t e:TypeId} {B:Nat} {z v:Value} {xs:List Value} {p:Option Addr} {l:l8_} {c by':Nat}
    (ht:P.underlying t=some (.slice e)) (hi:(P.info? e).map (λi=>(i.zero,i.size,i.bytes))=some (some z,1,by')) (hby2:Nat.ble by' 16=true) (hzs:z.cells.size=1)
    (hs:D3 f s=some v) (hown:Cq e B w v xs) (hx:D3 f x=some (.slice p l.length c)) (hb:Ay w p l)
    (hn:xs.length+l.length<=1000000000) (hB:B<=w.heap.size) (hd:Nat.blt d n.n=true) (hc:l=[]->c=0\/p≠none)
    (k:∀ v' w',Cq e B w' v' (xs++Az l)->Below B w w'->w.grownBy w' v.ownBlock->WL P n ops Q rest ((d,v')::f) w') :
    WL P n ops Q (⟨some d,.call ⟨.builtin .append,#[s,x],#[t,t]⟩,ty,pos,aft,none⟩::rest) f w:=by
  cases hh:P.info? e with
  | none=>rw [hh] at hi;cases hi
  | some i =>
    rw [hh] at hi;simp only [Option.map_some,Br,CR] at hi;obtain ⟨hz,b,o⟩:=hi;have g:by'<=16:=by simpa using hby2
    cases hp:p with
    | none =>
      have hl:l=[]:=by
        cases l with
        | nil=>rfl
        | cons a r=>have:=hb.isp (by simp);rw [hp] at this;cases this
      have q:c=0:=(hc hl).resolve_right (λh=>h hp);subst hp;subst hl;subst q;have m:=run_append_owned_none (P:=P) (w:=w) B t ty e i 1 ht hh v xs.length xs hown;refine WL.run hd (w':=w) (v:=v) (λρ hρ=>?_) (k v w (by simpa [Az] using hown) (Nh _ _) ⟨rfl,rfl,rfl,FQ _,λ_ _ _=>rfl⟩);unfold execOp;simp only [resolve,invoke,builtin,Bq,CC,AX,List.map_toArray,C3,Da,hρ _ _ hs,hρ _ _ hx,Ag,m]
    | some a =>
      subst hp;obtain ⟨v',w',m,C,A,-⟩:=run_append_own (P:=P) (w:=w) B t ty e i z 1 by' ht hh hz b o hzs dD v xs.length xs hown a l.length c (Az l) (by simp [Az])
        (λj y hj=>by
          have hj':j<l.length:=by
            rcases BL j l.length with h | h
            · exact h
            · rw [AO (by rw [Bc];omega)] at hj;cases hj
          have:=hb.cells j hj';rw [show pA (some a)=a from rfl] at this;rw [this];rw [<- hj];simp [Az,hj'])
        (λu hu=>by simp only [Az,FR] at hu;obtain ⟨y,-,rfl⟩:=hu;rfl) (by unfold maxLen;omega) (by
          have:(xs.length+l.length) * by'<=(xs.length+l.length) * 16:=Nat.mul_le_mul_left _ g
          omega) hB
      refine WL.run hd (w':=w') (v:=v') (λρ hρ=>?_) (k v' w' ?_ ((Nh _ _).grown A hB λk hk=>(hown.lt k hk).1) A)
      · unfold execOp
        simp only [resolve,invoke,builtin,Bq,CC,AX,List.map_toArray,C3,Da,hρ _ _ hs,hρ _ _ hx,m]
      · have D : (xs ++ Az l).length = xs.length + l.length := by simp [Az]
        unfold Cq;rw [D];exact C
theorem LN {e:TypeId} {B:Nat} {w:World} {v:Value} {l:l8_} (h:Cq e B w v (Az l)):∃ p c,v=.slice p l.length c/\Ay w p l/\(0<l.length->B<=(pA p).block)/\l.length<=c/\(l=[]->c=0\/p≠none):=by
 obtain ⟨p,c,hv,hb,hB⟩:=h.bytes
 have b:(Az l).length=l.length:=by simp [Az]
 obtain ⟨hl,h⟩:=h
 rcases h with ⟨rfl,f⟩ | ⟨g,cap,cur,rfl,-,-,d,-⟩
 ·
  simp only [Value.slice.injEq] at hv
  obtain ⟨rfl,a,rfl⟩:=hv
  exact ⟨none,0,by rw [<- a],hb,hB,oO,λ_=>.inl rfl⟩
 ·
  simp only [Value.slice.injEq] at hv
  obtain ⟨rfl,a,rfl⟩:=hv
  exact ⟨_,_,by rw [a],hb,hB,oO,λ_=>.inr (by simp)⟩
end
theorem Df.le {w w1:World} {B:Nat} (h:B<=w.heap.size) (d:Df w w1):B<=w1.heap.size:=by rw [d.size];exact h
theorem Ay.lit {w:World} {b:Nat} {cs:Array Value} {t:TypeId} {l:l8_} (h:Be w b cs t) (e:cs=(Az l).toArray):Ay w (some ⟨b,0,none⟩) l:=by
 subst e
 refine ⟨λ_=>rfl,λj hj=>?_⟩
 have a:(pA (some ⟨b,0,none⟩)).add j=⟨b,j,none⟩:=by
  show (⟨b,0,none⟩:Addr).add j=_
  unfold Addr.add;split
  · next h=>subst h;rfl
  · simp
 rw [a,h.cell j]
 simp [Az,hj]
theorem A88 {P:Program} {n:Sh} {f:Fr} {ops:Array Oper} {Q:Exit->Fr->World->Prop} {w:World} {rest:List Oper} {d ty:Nat} {pos:String} {aft:Array Edge} {x:Operand} {t e tb:TypeId} {b len cap:Nat} {cs:Array Value} (l:l8_)
  (ht:P.underlying t=some (.slice e)) (he:P.underlying e=some (.int .u8)) (hx:D3 f x=some (.slice (some ⟨b,0,none⟩) len cap)) (hb:Be w b cs tb) (hl:cs=(Az l).toArray) (hd:Nat.blt d n.n=true)
  (k:∀ w1,Ay w1 (some ⟨b,0,none⟩) l->E6 b w w1->w1.heap.size=w.heap.size->WL P n ops Q rest ((d,.slice (some ⟨b,0,none⟩) len cap)::f) w1) :
  WL P n ops Q (⟨some d,.convert t t x,ty,pos,aft,none⟩::rest) f w:=by
 have g:w.shape? b=some (tb,cs.size):=by unfold World.shape?;rw [show w.heap[b]?=_ from hb]
 have q:=hb.lt
 have a:(w.freeze ⟨b,cs.size,none⟩ 1).heap=w.heap.modify b fun
   | .cells c elem (lo,hi)=>.cells c elem (if lo == hi then (cs.size,cs.size+1) else (min lo cs.size,max hi (cs.size+1)))
   | o=>o:=rfl
 have i:(w.freeze ⟨b,cs.size,none⟩ 1).heap[b]?=some (.cells cs tb (cs.size,cs.size+1)):=by
  rw [a,Array.getElem?_modify,A7 rfl,show w.heap[b]?=_ from hb];rfl
 have hu:E6 b w (w.freeze ⟨b,cs.size,none⟩ 1):=⟨rfl,rfl,rfl,by rw [a];simp,λk hk=>by rw [a,Array.getElem?_modify,A2 (Ne.symm hk)]⟩
 refine WL.run hd (w':=w.freeze ⟨b,cs.size,none⟩ 1) (v:=.slice (some ⟨b,0,none⟩) len cap) (λρ hρ=>?_) (k _ ?_ hu (by rw [a];simp))
 · unfold execOp;simp [hρ _ _ hx,convert,B7 ht,B7 he,markStringish,g]
 ·
  subst hl;refine ⟨λ_=>rfl,λj hj=>?_⟩;have m:(pA (some ⟨b,0,none⟩)).add j=⟨b,j,none⟩:=by
   show (⟨b,0,none⟩:Addr).add j=_
   unfold Addr.add;split
   · next h=>subst h;rfl
   · simp
  rw [m,Lib.cell_of_heap i j];simp [Az,hj]
theorem A0b {H:Type} {enc:TypeId × Value->H} {P:Program} {t:TypeId} (hl:laidOutB P=true) (hr:P.readableRec t=true) (hrow:decide (t<P.types.size)=true) {W W':World} {v:Value} {d:DataW H} {ps:List MemPlace}
  (h:DataW.Trod enc P W 0 (λ_=>true) true t v d ps) (hb:AD W W') (hlt:∀ x∈ps,x.block<W.heap.size) :
  DataW.Trod enc P W' 0 (λb=>decide (b<W.heap.size)) true t v d ps:=Below.trod hl hr (dT hrow) h hb hlt
end
section
open Go.RowKit Go.WideShapes Go.ChangeShapes
section
variable {P:Program} {n:Sh} {f:Fr}
theorem A4o {ops:Array Oper} {Q:Exit->Fr->World->Prop} {w:World} {rest:List Oper} {d ty:Nat} {pos:String} {aft:Array Edge} {x:Operand} {src dst e:TypeId} {l:l8_}
  (hs:P.underlying src=some .string) (hd':P.underlying dst=some (.slice e)) (he:P.underlying e=some (.int .u8)) (hx:D3 f x=some (.string (bs l))) (hd:Nat.blt d n.n=true)
  (k:∀ b w1 c,b=w.heap.size->Ay w1 (some ⟨b,0,none⟩) l->l.length<=c->E6 b w w1->w1.heap.size=b+1->WL P n ops Q rest ((d,.slice (some ⟨b,0,none⟩) l.length c)::f) w1) :
  WL P n ops Q (⟨some d,.convert src dst x,ty,pos,aft,none⟩::rest) f w:=by
 have g:=Lib.run_convert_string_bytes (P:=P) w src dst e (bs l) hs hd' he
 have a:(bs l).size=l.length:=by simp [bs,ByteArray.size]
 have hu:E6 w.heap.size w (Lib.bytesWorld w e (bs l)):=⟨rfl,rfl,rfl,by rw [Lib.bytesWorld_size];omega,λj hj=>by
  rcases BL j w.heap.size with h | h
  · exact Lib.bytesWorld_at_old w e (bs l) j h
  · rw [CL (by rw [Lib.bytesWorld_size];omega),CL h]⟩
 refine WL.run hd (w':=Lib.bytesWorld w e (bs l)) (v:=.slice (some ⟨w.heap.size,0,none⟩) l.length (grownCap w l.length 0 e)) (λρ hρ=>?_)
  (k _ _ _ rfl ⟨λ_=>rfl,λj hj=>?_⟩ (grownCap_ge w l.length 0 e) hu (Lib.bytesWorld_size w e (bs l)))
 · unfold execOp;simp only [hρ _ _ hx,Bq,g,AX,CC,a]
 ·
  have i:(pA (some ⟨w.heap.size,0,none⟩)).add j=⟨w.heap.size,j,none⟩:=by
   show (⟨w.heap.size,0,none⟩:Addr).add j=_
   unfold Addr.add;split
   · next h=>rw [h]
   · simp
  rw [i,Lib.bytesWorld_cell w e (bs l) j (by rw [a];exact hj)];simp [bs,List.getD,hj]
theorem Cq.lit {w:World} {b m:Nat} {cs:Array Value} {e:TypeId} (h:Be w b cs e) (hm:cs.size=m) (hl:m<=maxLen):Cq e b w (.slice (some ⟨b,0,none⟩) m m) cs.toList:=by
 subst hm
 refine ⟨by simp,.inr ⟨b,cs.size,cs,?_,FQ _,h,by simp,hl,by simp,by rw [AR (by simp)]⟩⟩
 simp
end
structure AZ {α:Type} (V:α->Value) (w:World) (p:Option Addr) (l:List α):Prop where
 isp:0<l.length->p=some (pA p)
 cells:∀ j (h:j<l.length),w.cell? ((pA p).add j)=some (V l[j])
section
variable {α:Type} {V:α->Value}
theorem AZ.lt {w:World} {p:Option Addr} {l:List α} (h:AZ V w p l) (h0:0<l.length):(pA p).block<w.heap.size:=by
 have:=h.cells 0 h0
 rcases BL (pA p).block w.heap.size with h' | h'
 · exact h'
 ·
  exfalso
  have hb:((pA p).add 0).block=(pA p).block:=Fz _ _
  unfold World.cell? at this
  rw [hb,CL h'] at this
  cases this
theorem AZ.below {w w1:World} {B:Nat} {p:Option Addr} {l:List α} (h:AZ V w p l) (hb:Below B w w1) (hp:0<l.length->(pA p).block<B):AZ V w1 p l :=
 ⟨h.isp,λj hj=>by rw [World.cell?_of_block (w:=w) (hb.block _ (by rw [Fz];exact hp oO))];exact h.cells j hj⟩
theorem AZ.upd {w w1:World} {b:Nat} {p:Option Addr} {l:List α} (h:AZ V w p l) (hu:E6 b w w1) (hp:0<l.length->(pA p).block≠b):AZ V w1 p l :=
 ⟨h.isp,λj hj=>by rw [World.cell?_of_block (w:=w) (hu.other _ (by rw [Fz];exact hp oO))];exact h.cells j hj⟩
theorem AZ.drewN {w:World} {p:Option Addr} {l:List α} (h:AZ V w p l) (m:Nat):AZ V (w.drewN m) p l:=⟨h.isp,h.cells⟩
theorem AZ.drew {w w1:World} {p:Option Addr} {l:List α} (h:AZ V w p l) (d:Df w w1):AZ V w1 p l:=by obtain ⟨m,rfl⟩:=d;exact h.drewN m
theorem AZ.nil (w:World):AZ V w none []:=⟨λh=>by simp at h,λj h=>by simp at h⟩
theorem AZ.lit {w:World} {b:Nat} {cs:Array Value} {t:TypeId} {l:List α} (h:Be w b cs t) (e:cs=(l.map V).toArray):AZ V w (some ⟨b,0,none⟩) l:=by
 subst e
 refine ⟨λ_=>rfl,λj hj=>?_⟩
 have a:(pA (some ⟨b,0,none⟩)).add j=⟨b,j,none⟩:=by
  show (⟨b,0,none⟩:Addr).add j=_
  unfold Addr.add;split
  · next h=>subst h;rfl
  · simp
 rw [a,h.cell j]
 simp [hj]
theorem Cq.row {e:TypeId} {B:Nat} {w:World} {v:Value} {l:List α} (h:Cq e B w v (l.map V)):∃ p c,v=.slice p l.length c/\AZ V w p l/\(0<l.length->B<=(pA p).block)/\l.length<=c/\(l=[]->c=0\/p≠none):=by
  have b:(l.map V).length=l.length:=by simp
  obtain ⟨hl,h⟩:=h
  rcases h with ⟨rfl,f⟩ | ⟨g,cap,cur,rfl,hB,hg,d,m,o,a⟩
  · obtain rfl : l = [] := by rw [b] at f; exact CB.1 f
    exact ⟨none,0,rfl,AZ.nil w,λh=>by simp at h,FQ _,λ_=>.inl rfl⟩
  · rw [b] at d a ⊢
    refine ⟨_,cap,rfl,⟨λ_=>rfl,λj hj=>?_⟩,λ_=>hB,d,λ_=>.inr (by simp)⟩
    have k:(pA (some ⟨g,0,none⟩)).add j=⟨g,j,none⟩:=by
      show (⟨g,0,none⟩:Addr).add j=_
      unfold Addr.add;split
      · next h=>subst h;rfl
      · simp
    have hc:=Lib.cell_of_heap hg j
    rw [k,hc,<- Dz]
    have i:(cur.toList.take (l.length * 1))[j]?=(l.map V)[j]?:=by rw [a]
    rw [List.getElem?_take,A7 oO] at i
    rw [i]
    simp [hj]
end
abbrev VB (s:l8_):Value:=.string (bs s)
end
section
open Go.RowKit Go.WideShapes Go.ChangeShapes
theorem JT (P:Program) (g o:Nat) (t:TypeId) (fz:Nat × Nat):∀ (vs:List Value) (i:Nat) (cur:Array Value) (w:World),w.heap[g]?=some (.cells cur t fz)->o+i+vs.length<=fz.1->o+i+vs.length<=cur.size->(∀ v∈vs,v.oneCell'=true) ->
  (storeCells ⟨g,o,none⟩ vs i).run P w=.ok () (w.setRow g (cur.toList.take (o+i)++vs++cur.toList.drop (o+i+vs.length)).toArray)
 | [],i,cur,w,hg,_,_,_=>by
  simp only [storeCells,Bv,Ag,Nat.add_zero,Fh,Array.toArray_toList]
  rw [setRow_self w g cur t fz hg]
  rfl
 | v::rest,i,cur,w,hg,hfz,hl,h1=>by
  have hi:o+i<cur.size:=by simp at hl;omega
  have b:(⟨g,o,none⟩:Addr).add i=⟨g,o+i,none⟩:=by unfold Addr.add;split <;> simp_all
  have a:w.cell? ⟨g,o+i,none⟩=some cur[o+i]:=by simp [World.cell?,hg,hi]
  have c:w.frozen? ⟨g,o+i,none⟩=false:=by
   obtain ⟨lo,hi'⟩:=fz
   simp only [World.frozen?,hg,SH,Aw]
   left
   simp only [A8] at hfz
   omega
  have d:(store ((⟨g,o,none⟩:Addr).add i) v).run P w=.ok () (w.setRow g (cur.setIfInBounds (o+i) v)):=by
   rw [b,run_store P w _ v _ (h1 v (by simp)),a]
   simp [c,setCell_eq_setRow w g (o+i) cur t fz v hg]
  have ih:=JT P g o t fz rest (i+1) (cur.setIfInBounds (o+i) v) (w.setRow g (cur.setIfInBounds (o+i) v)) (setRow_heap w g cur _ t _ hg) (by simp only [A8] at hfz;omega) (by simp at hl ⊢;omega) (λx hx=>h1 x (by simp [hx]))
  simp only [storeCells,Bq,d,AX,ih,setRow_setRow]
  congr 3
  have e:=list_seg_step cur.toList (o+i) v rest (by simp at hl ⊢;omega)
  simpa [Array.toList_setIfInBounds,A8l] using e
structure Raw (w:World) (b c:Nat) (e:TypeId) (l:l8_):Prop where
 cur:∃ cur:Array Value,w.heap[b]?=some (.cells cur e (cur.size,cur.size+1))/\cur.size=c/\cur.toList.take l.length=Az l
 le:l.length<=c
theorem KI {w:World} {g:Nat} {cur:Array Value} {e:TypeId} {fz:Nat × Nat} {l:l8_} (hg:w.heap[g]?=some (.cells cur e fz)) (ht:cur.toList.take l.length=Az l):Ay w (some ⟨g,0,none⟩) l:=by
 refine ⟨λ_=>rfl,λj hj=>?_⟩
 have b:(pA (some ⟨g,0,none⟩)).add j=⟨g,j,none⟩:=by
  show (⟨g,0,none⟩:Addr).add j=_
  unfold Addr.add;split
  · next h=>subst h;rfl
  · simp
 rw [b,Lib.cell_of_heap hg j,<- Dz]
 have a:(cur.toList.take l.length)[j]?=(Az l)[j]?:=by rw [ht]
 rw [List.getElem?_take,A7 hj] at a
 rw [a]
 simp [Az,hj]
theorem Raw.bytes {w:World} {b c:Nat} {e:TypeId} {l:l8_} (h:Raw w b c e l):Ay w (some ⟨b,0,none⟩) l:=by
 obtain ⟨cur,hg,-,ht⟩:=h.cur
 exact KI hg ht
section
variable {P:Program} {n:Sh} {f:Fr}
theorem A85 {ops:Array Oper} {Q:Exit->Fr->World->Prop} {w:World} {rest:List Oper} {d ty:Nat} {pos:String} {aft:Array Edge} {x:Operand} {src dst e:TypeId} {l:l8_}
  (hs:P.underlying src=some .string) (hd':P.underlying dst=some (.slice e)) (he:P.underlying e=some (.int .u8)) (hx:D3 f x=some (.string (bs l))) (hd:Nat.blt d n.n=true)
  (k:∀ b w1 c,b=w.heap.size->Raw w1 b c e l->E6 b w w1->w1.heap.size=b+1->WL P n ops Q rest ((d,.slice (some ⟨b,0,none⟩) l.length c)::f) w1) :
  WL P n ops Q (⟨some d,.convert src dst x,ty,pos,aft,none⟩::rest) f w:=by
 have g:=Lib.run_convert_string_bytes (P:=P) w src dst e (bs l) hs hd' he
 have a:(bs l).size=l.length:=by simp [bs,ByteArray.size]
 have i:=grownCap_ge w l.length 0 e
 have hu:E6 w.heap.size w (Lib.bytesWorld w e (bs l)):=⟨rfl,rfl,rfl,by rw [Lib.bytesWorld_size];omega,λj hj=>by
  rcases BL j w.heap.size with h | h
  · exact Lib.bytesWorld_at_old w e (bs l) j h
  · rw [CL (by rw [Lib.bytesWorld_size];omega),CL h]⟩
 have m:(Lib.bytesCells w e (bs l)).size=grownCap w l.length 0 e:=by
  unfold Lib.bytesCells;rw [a];simp [bs];omega
 refine WL.run hd (w':=Lib.bytesWorld w e (bs l)) (v:=.slice (some ⟨w.heap.size,0,none⟩) l.length (grownCap w l.length 0 e)) (λρ hρ=>?_)
  (k _ _ _ rfl ⟨⟨_,Lib.bytesWorld_at_new w e (bs l),m,?_⟩,i⟩ hu (Lib.bytesWorld_size w e (bs l)))
 · unfold execOp;simp only [hρ _ _ hx,Bq,g,AX,CC,a]
 · unfold Lib.bytesCells;rw [Array.toList_append,List.take_append_of_le_length (by simp [bs])];rw [AR (by simp [bs])];simp [bs,Az]
theorem A6n {ops:Array Oper} {Q:Exit->Fr->World->Prop} {w:World} {rest:List Oper} {d ty:Nat} {pos:String} {aft:Array Edge} {s x:Operand} {t e:TypeId} {z:Value} {p:Option Addr} {l m:l8_} {b c cm by':Nat}
    (ht:P.underlying t=some (.slice e)) (hi:(P.info? e).map (λi=>(i.zero,i.size,i.bytes))=some (some z,1,by')) (hby2:Nat.ble by' 16=true) (hzs:z.cells.size=1)
    (hs:D3 f s=some (.slice (some ⟨b,0,none⟩) l.length c)) (hr:Raw w b c e l) (hx:D3 f x=some (.slice p m.length cm)) (hb:Ay w p m)
    (hn:l.length+m.length<=1000000000) (hB:b<=w.heap.size) (hd:Nat.blt d n.n=true) (hc:m=[]->cm=0\/p≠none)
    (k:∀ q c' w',Ay w' q (l++m)->(l++m).length<=c'->q≠none->Below b w w'->WL P n ops Q rest ((d,.slice q (l++m).length c')::f) w') :
    WL P n ops Q (⟨some d,.call ⟨.builtin .append,#[s,x],#[t,t]⟩,ty,pos,aft,none⟩::rest) f w:=by
  cases hh:P.info? e with
  | none=>rw [hh] at hi;cases hi
  | some i =>
    rw [hh] at hi;simp only [Option.map_some,Br,CR] at hi;obtain ⟨hz,g,R⟩:=hi;have N:by'<=16:=by simpa using hby2
    obtain ⟨cur,hg,T,J⟩:=hr.cur;have D:=hr.le;have elen:(l++m).length=l.length+m.length:=by simp
    have E:(Az l).length=l.length:=by simp [Az]
    have o:(Az m).length=m.length:=by simp [Az]
    cases hp:p with
    | none =>
      have hm:m=[]:=by
        cases m with
        | nil=>rfl
        | cons a r=>have:=hb.isp (by simp);rw [hp] at this;cases this
      have K:cm=0:=(hc hm).resolve_right (λh=>h hp);subst hp;subst hm;subst K;have H:(Builtin.append_ #[t,t] ty #[.slice (some ⟨b,0,none⟩) l.length c,.slice none 0 0]).run P w=.ok (.slice (some ⟨b,0,none⟩) l.length c) w:=by
        simp [Builtin.append_,B7 ht,sizeOf,typeInfo,hh,Builtin.lenOf,Builtin.firstCells,D,storeCells]
      refine WL.run hd (w':=w) (v:=.slice (some ⟨b,0,none⟩) l.length c) (λρ hρ=>?_) ?_
      · unfold execOp
        simp only [resolve,invoke,builtin,Bq,CC,AX,List.map_toArray,C3,Da,hρ _ _ hs,hρ _ _ hx,Ag,H]
      · have := k (some ⟨b, 0, none⟩) c w (by rw [Bv]; exact hr.bytes) (by rw [Bv]; exact D) (by simp) (Nh _ _)
        rw [Bv] at this;exact this
    | some a =>
      subst hp;have A:∀ j u,(Az m)[j]?=some u->w.cell? (a.add j)=some u:=λj y hj=>by
        have hj':j<m.length:=by
          rcases BL j m.length with h | h
          · exact h
          · rw [AO (by rw [o];omega)] at hj;cases hj
        have:=hb.cells j hj';rw [show pA (some a)=a from rfl] at this;rw [this];rw [<- hj];simp [Az,hj']
      have O:∀ u∈Az m,u.oneCell'=true:=λu hu=>by simp only [Az,FR] at hu;obtain ⟨y,-,rfl⟩:=hu;rfl
      have hf:=run_firstCells_some (P:=P) w i.size m.length a m.length cm (Az m) (by rw [g,o];omega) A;have F:Az l++Az m=Az (l++m):=by simp [Az]
      by_cases hroom:l.length+m.length<=c
      · have G := JT P b l.length e (cur.size, cur.size + 1) (Az m) 0 cur w hg (by rw [o]; simp only; omega) (by rw [o]; omega) O
        simp only [Nat.add_zero] at G;have H:(Builtin.append_ #[t,t] ty #[.slice (some ⟨b,0,none⟩) l.length c,.slice (some a) m.length cm]).run P w =
            .ok (.slice (some ⟨b,0,none⟩) (l.length+m.length) c) (w.setRow b (cur.toList.take l.length++Az m++cur.toList.drop (l.length+(Az m).length)).toArray):=by
          rw [g] at hf;simp [Builtin.append_,B7 ht,sizeOf,typeInfo,hh,g,Builtin.lenOf,hroom,hf,Addr.add_lit,G]
        refine WL.run hd (w':=w.setRow b (cur.toList.take l.length++Az m++cur.toList.drop (l.length+(Az m).length)).toArray) (v:=.slice (some ⟨b,0,none⟩) (l.length+m.length) c) (λρ hρ=>?_) ?_
        · unfold execOp
          simp only [resolve,invoke,builtin,Bq,CC,AX,List.map_toArray,C3,Da,hρ _ _ hs,hρ _ _ hx,H]
        · rw [← elen]
          refine k _ _ _ (KI (setRow_heap w b cur _ e _ hg) ?_) (by rw [elen];exact hroom) (by simp) ⟨rfl,rfl,rfl,by simp [World.setRow],λj hj=>setRow_other w b j _ oO⟩;rw [J,<- F,elen]
          show (Az l++Az m++_).take _=_
          rw [List.take_append_of_le_length (by simp only [A9];omega),AR (by simp only [A9];omega)]
      · have C : ∀ j u, (Az l)[j]? = some u → w.cell? ((⟨b, 0, none⟩ : Addr).add j) = some u := fun j u hj => by
          have hj':j<l.length:=by
            rcases BL j l.length with h | h
            · exact h
            · rw [AO (by rw [E];omega)] at hj;cases hj
          have:=hr.bytes.cells j hj';rw [show pA (some (⟨b,0,none⟩:Addr))=⟨b,0,none⟩ from rfl] at this;rw [this,<- hj];simp [Az,hj']
        have B:(l.length+m.length) * i.bytes<=140737488355328:=by
          have:(l.length+m.length) * i.bytes<=(l.length+m.length) * 16:=Nat.mul_le_mul_left _ oO
          omega
        have L:=run_append_grow (P:=P) w t ty e i z ht hh hz ⟨b,0,none⟩ l.length c (Az l) (by rw [g,E];omega) C a m.length cm (Az m) (by rw [g,o];omega) A oO oO (growslice_fits oO B);have M:=grownCap_ge w (l.length+m.length) c e;refine WL.run hd (w':=w.drew.alloc (.cells ((Az l).toArray++(Az m).toArray++Builtin.zeroCells z.cells (grownCap w (l.length+m.length) c e-(l.length+m.length))) e)) (λρ hρ=>?_) (k (some ⟨w.heap.size,0,none⟩) (grownCap w (l.length+m.length) c e) _ (KI (heap_alloc_new w.drew _) ?_) (by rw [elen];exact M) (by simp) ⟨rfl,rfl,rfl,by simp,λj hj=>(E6.alloc w.drew _).other j (by show j≠w.heap.size;omega)⟩)
        · unfold execOp
          simp only [resolve,invoke,builtin,Bq,CC,AX,List.map_toArray,C3,Da,hρ _ _ hs,hρ _ _ hx,L,elen]
        · simp only [Array.toList_append, AB]
          rw [<- AB,F,List.take_append_of_le_length (by simp [Az]),AR (by simp [Az])]
end
theorem Cq.cat {e:TypeId} {B:Nat} {w:World} {v:Value} {l m:l8_} (h:Cq e B w v (Az l++Az m)):Cq e B w v (Az (l++m)):=by
 rw [show Az (l++m)=Az l++Az m by simp [Az]];exact h
end
section
open Go.RowKit Go.WideShapes Go.ChangeShapes
section
variable {P:Program} {n:Sh} {f:Fr}
theorem BM.slS {tx:TypeId} {x y z:Operand} {l:l8_} {kd ke:IntKind} {i j:Int} (hu:P.underlying tx=some .string) (hx:D3 f x=some (.string (bs l))) (hi:D3 f y=some (.int kd i)) (hj:D3 f z=some (.int ke j)) (a b:Nat) (ei:i=a) (ej:j=b) (hab:a<=b) (hb:b<=l.length) :
  BM P (.slice tx x (some y) (some z) none) f (.string (bs ((l.drop a).take (b-a)))):=λρ hρ d ty pos aft g w=>by
 subst ei;subst ej
 have h3:¬ (b<a):=by omega
 simp [execOp,Instr.sliceAt,Instr.slice,Instr.sliceBounds,Instr.sliceBound,hρ _ _ hx,hρ _ _ hi,hρ _ _ hj,asIntOf,B7 hu,hab,hb,h3,WO,BR]
theorem GF {ops:Array Oper} {Q:Exit->Fr->World->Prop} {w:World} {rest:List Oper} {d ty:Nat} {pos:String} {aft:Array Edge} {s x:Operand} {t u e:TypeId} {B:Nat} {v:Value} {xs:List Value} {l:l8_}
    (ht:P.underlying t=some (.slice e)) (hu:P.underlying u=some .string) (hi:(P.info? e).map (λi=>(i.zero,i.size,i.bytes))=some (some (.int .u8 0),1,1))
    (hs:D3 f s=some v) (hown:Cq e B w v xs) (hx:D3 f x=some (.string (bs l)))
    (hn:xs.length+l.length<=1000000000) (hB:B<=w.heap.size) (hd:Nat.blt d n.n=true)
    (k:∀ v' w',Cq e B w' v' (xs++Az l)->Below B w w'->w.grownBy w' v.ownBlock->WL P n ops Q rest ((d,v')::f) w') :
    WL P n ops Q (⟨some d,.call ⟨.builtin .append,#[s,x],#[t,u]⟩,ty,pos,aft,none⟩::rest) f w:=by
  cases hh:P.info? e with
  | none=>rw [hh] at hi;cases hi
  | some i =>
    rw [hh] at hi;simp only [Option.map_some,Br,CR] at hi;obtain ⟨hz,c,g⟩:=hi;have a:(bs l).size=l.length:=BR l;have b:Lib.strCells (bs l)=Az l:=by simp [Lib.strCells,Az,bs]
    obtain ⟨v',w',o,j,m,-⟩:=Lib.run_append_own_string (P:=P) w B t u ty e i ht hu hh hz c g v xs.length xs hown (bs l) (by rw [a];unfold maxLen;omega) (by rw [a];omega) hB;rw [a,b] at j;refine WL.run hd (w':=w') (v:=v') (λρ hρ=>?_) (k v' w' ?_ ((Nh _ _).grown m hB λk hk=>(hown.lt k hk).1) m)
    · unfold execOp
      simp only [resolve,invoke,builtin,Bq,CC,AX,List.map_toArray,C3,Da,hρ _ _ hs,hρ _ _ hx,o]
    · have q : (xs ++ Az l).length = xs.length + l.length := by simp [Az]
      unfold Cq;rw [q];exact j
end
end
section
open Go.RowKit Go.WideShapes Go.ChangeShapes
theorem add_lit (b o j:Nat):(⟨b,o,none⟩:Addr).add j=⟨b,o+j,none⟩:=by
 unfold Addr.add;split <;> simp_all
structure Fq (α:Type) where
 m:Nat
 V:α->List Value
 pos:0<m
 len:∀ x,(V x).length=m
 one:∀ x,∀ v∈V x,v.oneCell'=true
variable {α:Type}
def Fq.flat (L:Fq α) (l:List α):List Value:=l.flatMap L.V
theorem Fq.flat_len (L:Fq α):∀ l:List α,(L.flat l).length=l.length * L.m
 | []=>by simp [Fq.flat]
 | x::l=>by
  have:=L.flat_len l
  unfold Fq.flat at this ⊢
  simp only [CG,A9,L.len,this,A8,Nat.succ_mul];omega
theorem Fq.flat_append (L:Fq α) (l k:List α):L.flat (l++k)=L.flat l++L.flat k:=by simp [Fq.flat]
theorem Fq.flat_one (L:Fq α) (l:List α):∀ v∈L.flat l,v.oneCell'=true:=by
 intro v hv
 simp only [Fq.flat,List.mem_flatMap] at hv
 obtain ⟨x,-,h⟩:=hv
 exact L.one x v h
theorem Fq.flat_at (L:Fq α):∀ (l:List α) (j:Nat) (h:j<l.length) (i:Nat),i<L.m->(L.flat l)[j * L.m+i]?=(L.V l[j])[i]?
 | x::l,0,h,i,hi=>by
  simp only [Fq.flat,CG,Nat.zero_mul,Ey,B3]
  rw [A8f (by rw [L.len];exact hi)]
 | x::l,j+1,h,i,hi=>by
  have ih:=L.flat_at l j (by simpa using h) i hi
  simp only [Fq.flat,CG,HS] at ih ⊢
  rw [A6X (by rw [L.len,Nat.succ_mul];omega),L.len,<- ih]
  congr 1
  rw [Nat.succ_mul];omega
theorem Fq.flat_take (L:Fq α) (l:List α) (k:Nat):(L.flat l).take (k * L.m)=L.flat (l.take k):=by
 induction l generalizing k with
 | nil=>simp [Fq.flat]
 | cons x l ih =>
  cases k with
  | zero=>simp [Fq.flat]
  | succ k =>
   have:=ih k
   simp only [Fq.flat,CG,List.take_succ_cons] at this ⊢
   rw [A1R,L.len,AR (by rw [L.len,Nat.succ_mul];omega),<- this]
   congr 2
   rw [Nat.succ_mul];omega
theorem Fq.flat_drop (L:Fq α) (l:List α) (k:Nat):(L.flat l).drop (k * L.m)=L.flat (l.drop k):=by
 induction l generalizing k with
 | nil=>simp [Fq.flat]
 | cons x l ih =>
  cases k with
  | zero=>simp [Fq.flat]
  | succ k =>
   have:=ih k
   simp only [Fq.flat,CG,List.drop_succ_cons] at this ⊢
   rw [List.drop_append,L.len,List.drop_of_length_le (by rw [L.len,Nat.succ_mul];omega),CJ,<- this]
   congr 1
   rw [Nat.succ_mul];omega
structure Bi (L:Fq α) (w:World) (p:Option Addr) (l:List α):Prop where
 isp:0<l.length->p=some (pA p)
 cells:∀ j (h:j<l.length) i,i<L.m->w.cell? ((pA p).add (j * L.m+i))=(L.V l[j])[i]?
section
variable {L:Fq α}
theorem Bi.flat {w:World} {p:Option Addr} {l:List α} (h:Bi L w p l):∀ k v,(L.flat l)[k]?=some v->w.cell? ((pA p).add k)=some v:=by
 intro k v hk
 have a:k<(L.flat l).length:=by
  rcases BL k (L.flat l).length with h | h
  · exact h
  · rw [AO h] at hk;cases hk
 rw [L.flat_len] at a
 have hj:k / L.m<l.length:=(Nat.div_lt_iff_lt_mul L.pos).2 a
 have hi:=Nat.mod_lt k L.pos
 have e:k / L.m * L.m+k % L.m=k:=Nat.div_add_mod' k L.m
 have b:=L.flat_at l (k / L.m) hj (k % L.m) hi
 have c:=h.cells (k / L.m) hj (k % L.m) hi
 rw [e] at b c
 rw [c,<- b,hk]
theorem Gl {w:World} {p:Option Addr} {l:List α} (hp:0<l.length->p=some (pA p)) (h:∀ k v,(L.flat l)[k]?=some v->w.cell? ((pA p).add k)=some v):Bi L w p l :=
 ⟨hp,λj hj i hi=>by
  have h1:=L.flat_at l j hj i hi
  have h2:i<(L.V l[j]).length:=by rw [L.len];exact hi
  rw [A6 h2] at h1 ⊢
  exact h _ _ h1⟩
theorem Bi.lt {w:World} {p:Option Addr} {l:List α} (h:Bi L w p l) (h0:0<l.length):(pA p).block<w.heap.size:=by
 have hc:=h.cells 0 h0 0 L.pos
 rw [A6 (by rw [L.len];exact L.pos)] at hc
 rcases BL (pA p).block w.heap.size with h' | h'
 · exact h'
 ·
  exfalso
  have hb:((pA p).add (0 * L.m+0)).block=(pA p).block:=Fz _ _
  unfold World.cell? at hc
  rw [hb,CL h'] at hc
  cases hc
theorem Bi.same {w w1:World} {p:Option Addr} {l:List α} (h:Bi L w p l) (hb:0<l.length->w1.heap[(pA p).block]?=w.heap[(pA p).block]?):Bi L w1 p l :=
 ⟨h.isp,λj hj i hi=>by rw [World.cell?_of_block (w:=w) (by rw [Fz];exact hb oO)];exact h.cells j hj i hi⟩
theorem Bi.below {w w1:World} {B:Nat} {p:Option Addr} {l:List α} (h:Bi L w p l) (hb:Below B w w1) (hp:0<l.length->(pA p).block<B):Bi L w1 p l:=h.same λh0=>hb.block _ (hp h0)
abbrev Is:=@Bi.below
theorem Bi.upd {w w1:World} {b:Nat} {p:Option Addr} {l:List α} (h:Bi L w p l) (hu:E6 b w w1) (hp:0<l.length->(pA p).block≠b):Bi L w1 p l:=h.same λh0=>hu.other _ (hp h0)
theorem Bi.drewN {w:World} {p:Option Addr} {l:List α} (h:Bi L w p l) (m:Nat):Bi L (w.drewN m) p l:=⟨h.isp,h.cells⟩
theorem Bi.drew {w w1:World} {p:Option Addr} {l:List α} (h:Bi L w p l) (d:Df w w1):Bi L w1 p l:=by obtain ⟨m,rfl⟩:=d;exact h.drewN m
theorem Bi.nil (w:World):Bi L w none []:=⟨λh=>by simp at h,λj h=>by simp at h⟩
def Gz (m:Nat) (p:Option Addr) (c a:Nat):Option Addr:=if c=a then p else p.map (·.add (a * m))
theorem Bi.part {w:World} {p:Option Addr} {l:List α} {c a b:Nat} (h:Bi L w p l) (hab:a<=b) (hb:b<=l.length) (hc:l.length<=c):Bi L w (Gz L.m p c a) ((l.drop a).take (b-a)):=by
  have d:((l.drop a).take (b-a)).length=b-a:=by rw [AT,B9];omega
  by_cases h0:a=b
  · refine ⟨λh=>?_,λj hj=>?_⟩ <;> rw [d] at * <;> omega
  · have hp := h.isp oO
    have e:Gz L.m p c a=some ((pA p).add (a * L.m)):=by unfold Gz;rw [A2 oO];rw [hp];rfl
    rw [e]
    refine ⟨λ_=>rfl,λj hj i hi=>?_⟩
    rw [d] at hj
    show w.cell? (((pA p).add (a * L.m)).add (j * L.m+i))=_
    rw [JI,show a * L.m+(j * L.m+i)=(a+j) * L.m+i by rw [Nat.add_mul];omega,h.cells (a+j) oO i hi]
    simp
def AJ (L:Fq α) (e:TypeId) (B:Nat) (w:World) (v:Value) (l:List α):Prop :=
 (v=.slice none 0 0/\l=[])\/∃ g cap cur,v=.slice (some ⟨g,0,none⟩) l.length cap/\B<=g/\w.heap[g]?=some (.cells cur e (0,0))/\l.length<=cap/\cap<=maxLen/\cap * L.m<=cur.size/\cur.toList.take (l.length * L.m)=L.flat l
theorem AJ.nil (L:Fq α) (e:TypeId) (B:Nat) (w:World):AJ L e B w (.slice none 0 0) []:=.inl ⟨rfl,rfl⟩
theorem AJ.of {e:TypeId} {B:Nat} {w:World} {v:Value} {l:List α} (h:w.ownsRow B e L.m v l.length (L.flat l)):AJ L e B w v l:=by
 obtain ⟨hl,h⟩:=h
 rcases h with ⟨rfl,a⟩ | ⟨g,cap,cur,b,c,d,f,i,k,j⟩
 · exact .inl ⟨rfl,CB.1 a⟩
 · exact .inr ⟨g,cap,cur,b,c,d,f,i,oO,j⟩
theorem AJ.row {e:TypeId} {B:Nat} {w:World} {v:Value} {l:List α} (h:AJ L e B w v l):∃ p c,v=.slice p l.length c/\Bi L w p l/\(∀ a,p=some a->B<=a.block)/\l.length<=c/\(l=[]->c=0\/p≠none)/\v.ownBlock=p.map (·.block)/\c<=maxLen/\(p=none\/∃ g,p=some ⟨g,0,none⟩):=by
  rcases h with ⟨rfl,rfl⟩ | ⟨g,cap,cur,rfl,hB,hg,f,i,o,b⟩
  · exact ⟨none,0,rfl,Bi.nil w,λa h=>(by cases h),FQ _,λ_=>.inl rfl,rfl,(by unfold maxLen;omega),.inl rfl⟩
  · refine ⟨_, cap, rfl, Gl (fun _ => rfl) fun k v hk => ?_, fun a h => (by cases h; exact hB), f, fun _ => .inr (by simp), rfl, i, .inr ⟨g, rfl⟩⟩
    show w.cell? ((⟨g,0,none⟩:Addr).add k)=_
    rw [add_lit,Ey,Lib.cell_of_heap hg k,<- Dz]
    have j:(cur.toList.take (l.length * L.m))[k]?=(L.flat l)[k]?:=by rw [b]
    have d:k<(L.flat l).length:=by
      rcases BL k (L.flat l).length with h | h
      · exact h
      · rw [AO h] at hk;cases hk
    rw [L.flat_len] at d
    rw [List.getElem?_take,A7 d] at j
    rw [j,hk]
theorem AJ.same {e:TypeId} {B:Nat} {w w1:World} {v:Value} {l:List α} (h:AJ L e B w v l) (hb:∀ g,v.ownBlock=some g->w1.heap[g]?=w.heap[g]?):AJ L e B w1 v l:=by
 refine h.imp id λ⟨g,cap,cur,a,b,c,d⟩=>⟨g,cap,cur,a,b,?_,d⟩
 rw [hb g (by rw [a];rfl)];exact c
theorem AJ.lt {e:TypeId} {B:Nat} {w:World} {v:Value} {l:List α} (h:AJ L e B w v l):∀ g,v.ownBlock=some g->B<=g/\g<w.heap.size:=by
 intro g hg
 rcases h with ⟨rfl,rfl⟩ | ⟨g',cap,cur,rfl,hB,a,b⟩
 · cases hg
 ·
  cases hg
  exact ⟨hB,(BJ.1 a).1⟩
theorem AJ.base {e:TypeId} {B C:Nat} {w:World} {v:Value} {l:List α} (h:AJ L e B w v l) (hC:∀ g,v.ownBlock=some g->C<=g):AJ L e C w v l :=
 h.imp id λ⟨g,cap,cur,h1,h2,h3⟩=>⟨g,cap,cur,h1,hC g (by rw [h1];rfl),h3⟩
theorem AJ.drew {e:TypeId} {B:Nat} {w w1:World} {v:Value} {l:List α} (h:AJ L e B w v l) (d:Df w w1):AJ L e B w1 v l:=by obtain ⟨m,rfl⟩:=d;exact h
theorem AJ.below {e:TypeId} {B:Nat} {w w1:World} {v:Value} {l:List α} (h:AJ L e B w v l) (hb:AD w w1):AJ L e B w1 v l:=h.same λg hg=>hb.block g (h.lt g hg).2
theorem AJ.new {e:TypeId} {B b:Nat} {w w1:World} {v:Value} {l:List α} (h:AJ L e B w v l) (eb:b=w.heap.size) (hu:E6 b w w1):AJ L e B w1 v l:=h.same λg hg=>hu.other g (by have:=(h.lt g hg).2;omega)
abbrev GK:=@AJ.new
theorem AJ.upd {e:TypeId} {B r:Nat} {w w1:World} {v:Value} {l:List α} (h:AJ L e B w v l) (hu:E6 r w w1) (hr:∀ g,v.ownBlock=some g->g≠r):AJ L e B w1 v l:=h.same λg hg=>hu.other g (hr g hg)
abbrev I4:=@AJ.upd
theorem D0 {e:TypeId} {B r:Nat} {w w1:World} {v:Value} {l:List α} (h:AJ L e B w v l) (hu:E6 r w w1) (hr:r<B):AJ L e B w1 v l:=h.same λg hg=>hu.other g (by have:=(h.lt g hg).1;omega)
theorem AJ.one {e:TypeId} {B:Nat} {w:World} {v:Value} {l:List α} (h:AJ L e B w v l):v.oneCell'=true:=by
 rcases h with ⟨rfl,-⟩ | ⟨g,cap,cur,rfl,-⟩ <;> rfl
end
structure B0C (S:List Nat) (w w1:World):Prop where
 os:w1.os=w.os
 tape:w1.tape=w.tape
 output:w1.output=w.output
 size:w.heap.size<=w1.heap.size
 block:∀ k,k<w.heap.size->k ∉ S->w1.heap[k]?=w.heap[k]?
structure AL (B:Nat) (S:List Nat) (w w1:World):Prop where
 os:w1.os=w.os
 tape:w1.tape=w.tape
 output:w1.output=w.output
 size:w.heap.size<=w1.heap.size
 block:∀ k,k<B->k ∉ S->w1.heap[k]?=w.heap[k]?
theorem AL.trans {B:Nat} {S:List Nat} {a b c:World} (h:AL B S a b) (k:AL B S b c):AL B S a c :=
 ⟨k.os.trans h.os,k.tape.trans h.tape,k.output.trans h.output,BA h.size k.size,λi hi hr=>(k.block i hi hr).trans (h.block i hi hr)⟩
abbrev CI:=@AL.trans
theorem AL.mono {B B':Nat} {S:List Nat} {a b:World} (h:AL B' S a b) (hB:B<=B'):AL B S a b:=⟨h.os,h.tape,h.output,h.size,λi hi hS=>h.block i oO hS⟩
theorem DB {B c:Nat} {S:List Nat} {w w1:World} {cs:Array Value} {t:TypeId} (h:Be w c cs t) (hT:AL B S w w1) (hc:c<B) (hS:c ∉ S):Be w1 c cs t:=(hT.block c hc hS).trans h
theorem YU {L:Fq α} {B:Nat} {S:List Nat} {w w1:World} {p:Option Addr} {l:List α} (h:Bi L w p l) (hT:AL B S w w1) (hp:0<l.length->(pA p).block<B/\(pA p).block ∉ S):Bi L w1 p l:=h.same λh0=>hT.block _ (hp h0).1 (hp h0).2
abbrev rk_:=@YU
theorem AL.of_below {B B':Nat} {S:List Nat} {a b:World} (h:Below B' a b) (hB:B<=B'):AL B S a b:=⟨h.os,h.tape,h.output,h.size,λi hi _=>h.block i oO⟩
theorem kB {S:List Nat} {a b d:World} (h:AL a.heap.size S a b) (hb:AD b d):AL a.heap.size S a d:=AL.trans h (AL.of_below hb h.size)
abbrev kb_:=@AL.of_below
theorem Tf {B:Nat} {S:List Nat} {a b:World} (h:Df a b):AL B S a b:=kb_ (h.below (Nh B _)) (FQ _)
abbrev QL:=@Tf
theorem OY {B c:Nat} {S:List Nat} {a b:World} (h:E6 c a b) (hc:B<=c):AL B S a b:=⟨h.os,h.tape,h.output,h.size,λi hi _=>h.other i oO⟩
abbrev Ik:=@OY
theorem OZ {B c:Nat} {S:List Nat} {a b:World} (h:E6 c a b) (hc:c∈S):AL B S a b:=⟨h.os,h.tape,h.output,h.size,λi _ hS=>h.other i (λe=>hS (e▸hc))⟩
theorem kU {N c:Nat} {S:List Nat} {a b d:World} (h:AL N S a b) (u:E6 c b d) (k:N<=c\/c∈S:=by first | exact .inl (by omega) | exact .inr (by simp)):AL N S a d:=h.trans (k.elim (OY u) (OZ u))
abbrev Hc:=@OZ
theorem Ce {B:Nat} {S:List Nat} {a b:World} {row:Option Nat} (h:a.grownBy b row) (hr:∀ g,row=some g->g∈S\/B<=g) (hB:B<=a.heap.size):AL B S a b :=
 ⟨h.os,h.tape,h.output,h.size,λi hi hS=>h.block i oO λe=>by rcases hr i e.symm with h | h <;> first | exact hS h | omega⟩
theorem AL.below {B C:Nat} {S:List Nat} {w w1:World} (h:AL B S w w1) (hB:C<=B) (hS:∀ k∈S,C<=k):Below C w w1 :=
 ⟨h.os,h.tape,h.output,h.size,λk hk=>h.block k oO λhm=>by have:=hS k hm;omega⟩
theorem AL.refl (B:Nat) (S:List Nat) (w:World):AL B S w w:=⟨rfl,rfl,rfl,FQ _,λ_ _ _=>rfl⟩
section
variable {P:Program} {n:Sh} {f:Fr} {L:Fq α}
theorem A4r {ops:Array Oper} {Q:Exit->Fr->World->Prop} {w:World} {rest:List Oper} {d ty:Nat} {pos:String} {aft:Array Edge} {s x:Operand} {t e:TypeId} {B:Nat} {z v:Value} {xs l:List α} {p:Option Addr} {c by':Nat}
  (ht:P.underlying t=some (.slice e)) (hi:(P.info? e).map (λi=>(i.zero,i.size,i.bytes))=some (some z,L.m,by')) (hby2:Nat.ble by' 1000=true) (hzs:z.cells.size=L.m)
  (hs:D3 f s=some v) (hown:AJ L e B w v xs) (hx:D3 f x=some (.slice p l.length c)) (hb:Bi L w p l)
  (hn:xs.length+l.length<=4611686018427387904) (hbt:(xs.length+l.length) * by'<=140737488355328) (hB:B<=w.heap.size) (hd:Nat.blt d n.n=true) (hc:l=[]->c=0\/p≠none)
  (k:∀ v' w',AJ L e B w' v' (xs++l)->Below B w w'->w.grownBy w' v.ownBlock->(∀ g,v'.ownBlock=some g->v.ownBlock=some g\/w.heap.size<=g)->WL P n ops Q rest ((d,v')::f) w') :
  WL P n ops Q (⟨some d,.call ⟨.builtin .append,#[s,x],#[t,t]⟩,ty,pos,aft,none⟩::rest) f w:=by
 cases hh:P.info? e with
 | none=>rw [hh] at hi;cases hi
 | some i =>
  rw [hh] at hi;simp only [Option.map_some,Br,CR] at hi;obtain ⟨hz,b,E⟩:=hi;have a1:by'<=1000:=by simpa using hby2
  have A:=L.flat_len xs;have o:=L.flat_len l;have M:(xs++l).length=xs.length+l.length:=by simp
  have fin:∀ (w':World) (g cap:Nat) (cur:Array Value),B<=g->w'.heap[g]?=some (.cells cur e (0,0))->xs.length+l.length<=cap->cap<=maxLen->cap * L.m<=cur.size->cur.toList.take ((xs.length+l.length) * L.m)=L.flat xs++L.flat l ->
    AJ L e B w' (.slice (some ⟨g,0,none⟩) (xs.length+l.length) cap) (xs++l):=λw' g cap cur h1 C F D N h6 =>
   .inr ⟨g,cap,cur,by rw [M],h1,C,by rw [M];exact F,D,N,by rw [M,h6,L.flat_append]⟩
  have run:∀ (v':Value) (w':World),(Builtin.append_ #[t,t] ty #[v,.slice p l.length c]).run P w=.ok v' w'->AJ L e B w' v' (xs++l)->w.grownBy w' v.ownBlock->(∀ g,v'.ownBlock=some g->v.ownBlock=some g\/w.heap.size<=g) ->
    WL P n ops Q (⟨some d,.call ⟨.builtin .append,#[s,x],#[t,t]⟩,ty,pos,aft,none⟩::rest) f w:=λv' w' C F D N=>by
   refine WL.run hd (w':=w') (v:=v') (λρ hρ=>?_) (k v' w' F ((Nh _ _).grown D hB λk hk=>(hown.lt k hk).1) D N);unfold execOp;simp only [resolve,invoke,builtin,Bq,CC,AX,List.map_toArray,C3,Da,hρ _ _ hs,hρ _ _ hx,C]
  cases hp:p with
  | none =>
   have hl:l=[]:=by
    cases l with
    | nil=>rfl
    | cons a r=>have:=hb.isp (by simp);rw [hp] at this;cases this
   have T:c=0:=(hc hl).resolve_right (λh=>h hp);subst hp;subst hl;subst T;refine run v w ?_ (by rw [Bv];exact hown) ⟨rfl,rfl,rfl,FQ _,λ_ _ _=>rfl⟩ λg hg=>.inl hg
   rcases hown with ⟨rfl,rfl⟩ | ⟨g,cap,cur,rfl,-,-,J,-⟩
   · simp [Builtin.append_,B7 ht,sizeOf,typeInfo,hh,Builtin.lenOf,Builtin.firstCells]
   · simp [Builtin.append_,B7 ht,sizeOf,typeInfo,hh,Builtin.lenOf,Builtin.firstCells,J,storeCells]
  | some a =>
   subst hp;have q:(xs.length+l.length) * i.bytes<=140737488355328:=by rw [E];exact hbt
   rcases hown with ⟨rfl,rfl⟩ | ⟨g,cap,cur,rfl,U,hg,J,V,X,K⟩
   ·
    obtain ⟨v',w',C,F,D,-⟩:=run_append_own (P:=P) (w:=w) w.heap.size t ty e i z L.m by' ht hh hz b E hzs L.pos (.slice none 0 0) 0 [] (World.ownsRow_nil w w.heap.size e L.m) a l.length c (L.flat l) o
     (λj y hj=>hb.flat j y hj) (L.flat_one l) (by unfold maxLen;omega) (by simp only [Ag] at q;rw [E] at q;exact q) (FQ _)
    have G:AJ L e w.heap.size w' v' ([]++l):=AJ.of (by rw [CJ];simpa using F);exact run v' w' C (G.base λg hg=>BA hB (G.lt g hg).1) D λg hg=>.inr (G.lt g hg).1
   ·
    by_cases hroom:xs.length+l.length<=cap
    ·
     have O:xs.length * i.size+(L.flat l).length<=cur.size:=by
      rw [b,o,<- Nat.add_mul];exact BA (Cz _ hroom) X
     have C:=run_append_room (P:=P) w t ty e i ht hh g xs.length cap cur hg a l.length c (L.flat l) (by rw [b];exact o) (λj y hj=>hb.flat j y hj) (L.flat_one l) hroom O;refine run _ _ C (fin _ g cap _ U (setRow_heap w g cur _ e _ hg) hroom V ?_ ?_) ⟨rfl,rfl,rfl,by simp,λk _ hk=>setRow_other w g k _ (λe=>hk (by simp [Value.ownBlock,e]))⟩ λg hg=>.inl hg
     ·
      simp only [List.size_toArray,A9,AT,B9,Array.length_toList]
      omega
     ·
      show (cur.toList.take (xs.length * i.size)++L.flat l++_).take _=_
      rw [b,K,List.take_append_of_le_length (by rw [A9,A,o,Nat.add_mul];omega),AR (by rw [A9,A,o,Nat.add_mul];omega)]
    ·
     have H:∀ j u,(L.flat xs)[j]?=some u->w.cell? ((⟨g,0,none⟩:Addr).add j)=some u:=λj u hj=>by
      have Y:j<(L.flat xs).length:=by
       rcases BL j (L.flat xs).length with h | h
       · exact h
       · rw [AO h] at hj;cases hj
      rw [add_lit,Ey,Lib.cell_of_heap hg j,<- Dz];have C:(cur.toList.take (xs.length * L.m))[j]?=(L.flat xs)[j]?:=by rw [K]
      rw [List.getElem?_take,A7 (by rw [<- A];exact Y)] at C;rw [C,hj]
     have Z:=run_append_grow (P:=P) w t ty e i z ht hh hz ⟨g,0,none⟩ xs.length cap (L.flat xs) (by rw [b];exact A) H a l.length c (L.flat l) (by rw [b];exact o) (λj y hj=>hb.flat j y hj) oO oO (growslice_fits oO q);have a0:=grownCap_ge w (xs.length+l.length) cap e;have R:grownCap w (xs.length+l.length) cap e<=maxLen:=grownCap_le_maxLen w (xs.length+l.length) cap e (by unfold maxLen;omega);refine run _ _ Z (fin _ w.heap.size _ _ hB (heap_alloc_new w.drew _) a0 R ?_ ?_) ⟨rfl,rfl,rfl,by simp,λk hk _=>(E6.alloc w.drew _).other k (by show k≠w.heap.size;omega)⟩ λg hg=>.inr (by simp only [Value.ownBlock,Br] at hg;omega)
     · simp only [Array.size_append,List.size_toArray,size_zeroCells,hzs,A,o,<- Nat.add_mul];exact Nat.le_of_eq (Bk (· * L.m) oO)
     · simp only [Array.toList_append,AB];rw [<- AB,List.take_append_of_le_length (by rw [A9,A,o,Nat.add_mul];omega),AR (by rw [A9,A,o,Nat.add_mul];omega)]
theorem CV {ops:Array Oper} {Q:Exit->Fr->World->Prop} {w:World} {rest:List Oper} {d ty:Nat} {pos:String} {aft:Array Edge} {s x:Operand} {t e:TypeId} {B:Nat} {z v:Value} {xs l:List α} {p:Option Addr} {c by':Nat}
  (ht:P.underlying t=some (.slice e)) (hi:(P.info? e).map (λi=>(i.zero,i.size,i.bytes))=some (some z,L.m,by')) (hby2:Nat.ble by' 1000=true) (hzs:z.cells.size=L.m)
  (hs:D3 f s=some v) (hown:AJ L e B w v xs) (hx:D3 f x=some (.slice p l.length c)) (hb:Bi L w p l)
  (hn:xs.length+l.length<=10000000) (hB:B<=w.heap.size) (hd:Nat.blt d n.n=true) (hc:l=[]->c=0\/p≠none)
  (k:∀ v' w',AJ L e B w' v' (xs++l)->Below B w w'->w.grownBy w' v.ownBlock->(∀ g,v'.ownBlock=some g->v.ownBlock=some g\/w.heap.size<=g)->WL P n ops Q rest ((d,v')::f) w') :
  WL P n ops Q (⟨some d,.call ⟨.builtin .append,#[s,x],#[t,t]⟩,ty,pos,aft,none⟩::rest) f w:=by
 refine A4r ht hi hby2 hzs hs hown hx hb oO ?_ hB hd hc k
 have a:by'<=1000:=by simpa using hby2
 have:(xs.length+l.length) * by'<=(xs.length+l.length) * 1000:=Nat.mul_le_mul_left _ a
 omega
theorem Dy {t:TypeId} {x:Operand} {p:Option Addr} {l:List α} {w:World} {dd:TypeDesc} (hu:P.underlying t=some dd) (hdd:dd.isRow=true) (hi:(P.info? t).map (·.size)=some L.m) (hb:Bi L w p l) (k:Nat) (hk:k<l.length)
  (hx:D3 f x=some (.pointer (some ((pA p).add (k * L.m))))):Rd P (.load t x) f w (.agg (L.V l[k]).toArray):=λρ hρ d ty pos aft g=>by
 have hl:(loadCells ((pA p).add (k * L.m)) (L.V l[k]).length).run P w=.ok (L.V l[k]).toArray w :=
  run_loadCells_list (P:=P) w ((pA p).add (k * L.m)) (L.V l[k]) (λj v hv=>by
   have hj:j<L.m:=by
    rcases BL j L.m with h | h
    · exact h
    · rw [AO (by rw [L.len];exact h)] at hv;cases hv
   rw [JI,hb.cells k hk j hj,hv])
 cases hq:P.info? t with
 | none=>simp [hq] at hi
 | some i =>
  have hs:i.size=(L.V l[k]).length:=by rw [L.len];simpa [hq] using hi
  have a:(isAgg t).run P w=.ok true w:=by
   unfold isAgg
   rw [Bq,B7 hu w]
   cases dd <;> simp_all
  unfold execOp
  simp [hρ _ _ hx,Instr.loadAt,Instr.sureAddr,loadVar,Bq,a,sizeOf,typeInfo,hq,hs,hl]
theorem KG (L:Fq α) (l:List α) (k:Nat) (hk:k<l.length) (x:α):(L.flat l).take (k * L.m)++L.V x++(L.flat l).drop (k * L.m+L.m)=L.flat (l.set k x):=by
 rw [L.flat_take,show k * L.m+L.m=(k+1) * L.m by rw [Nat.succ_mul],L.flat_drop,List.set_eq_take_append_cons_drop,A7 hk]
 simp [Fq.flat]
end
end
section
open Go.RowKit Go.WideShapes Go.ChangeShapes
theorem rvE {a b:Value} (h:a=b):Ending.returned a=.returned b:=by rw [h]
theorem EQ {P:Program} {fn:Func} {R:Ending->World->Prop} {f:Fr} {w:World} {t u:Tmp} {ty:TypeId} {b:Addr} {v x:Value} (hr:fn.results=#[.cell t ty,.tmp u])
  (ht:look f t=some (.pointer (some b))) (hv:(loadVar ty b).run P w=.ok v w) (hx:look f u=some x) (h:R (.returned (.tuple #[v,x])) w):Ji P fn R .ret f w:=by
 unfold Ji
 exact ⟨_,λtmps hh=>by
  have a:=hh _ _ ht;have c:=hh _ _ hx
  simp only [Ba] at a c
  simp [results,hr,a,c,asAddr,hv],h⟩
section
variable {P:Program} {n:Sh} {f:Fr}
theorem BM.eqSN {x:Operand} {tx ty e:TypeId} {p:Option Addr} {m c:Nat} (hu:P.underlying tx=some (.slice e)) (hx:D3 f x=some (.slice p m c)):BM P (.binOp .eql tx x (.const (.slice none 0 0)) ty) f (.bool p.isNone):=λρ hρ d ty' pos aft g w=>by
 have h4:ρ (.const (.slice none 0 0))=.slice none 0 0:=hρ _ _ rfl
 simp [execOp,hρ _ _ hx,h4,eqGuard,Lib.run_eql_slice_nil w tx e p m c 0 0 hu]
theorem BM.max2 {x y:Operand} {k k':IntKind} {a b:Int} {ats:Array TypeId} (hx:D3 f x=some (.int k a)) (hy:D3 f y=some (.int k' b)):BM P (.call ⟨.builtin .max,#[x,y],ats⟩) f (.int k (if b > a then b else a)):=λρ hρ d ty pos aft g w=>by
 simp [execOp,resolve,invoke,builtin,hρ _ _ hx,hρ _ _ hy,run_max_int2]
theorem BM.min2 {x y:Operand} {k k':IntKind} {a b:Int} {ats:Array TypeId} (hx:D3 f x=some (.int k a)) (hy:D3 f y=some (.int k' b)):BM P (.call ⟨.builtin .min,#[x,y],ats⟩) f (.int k (if b<a then b else a)):=λρ hρ d ty pos aft g w=>by
 simp [execOp,resolve,invoke,builtin,hρ _ _ hx,hρ _ _ hy,run_min_int2]
theorem BM.slmF {tx e:TypeId} {x y:Operand} {p:Option Addr} {l c sz:Nat} {i:Int} (hu:P.underlying tx=some (.slice e)) (hs:∀ w,(sizeOf e).run P w=.ok sz w) (hx:D3 f x=some (.slice p l c))
  (hi:D3 f y=some (Ah i)) (a:Nat) (ei:i=a) (ham:a<=l):BM P (.slice tx x (some y) none none) f (.slice (Gz sz p c a) (l-a) (c-a)):=λρ hρ d ty pos aft g w=>by
 subst ei
 simp [execOp,Instr.sliceAt,Instr.slice,Instr.sliceBounds,run_sliceBound,hρ _ _ hx,hρ _ _ hi,B7 hu,hs,ham,Gz]
theorem BM.slmT {tx e:TypeId} {x z:Operand} {p:Option Addr} {l c sz:Nat} {j:Int} (hu:P.underlying tx=some (.slice e)) (hs:∀ w,(sizeOf e).run P w=.ok sz w) (hx:D3 f x=some (.slice p l c))
  (hj:D3 f z=some (Ah j)) (b:Nat) (ej:j=b) (hbc:b<=c):BM P (.slice tx x none (some z) none) f (.slice (Gz sz p c 0) b c):=λρ hρ d ty pos aft g w=>by
 subst ej
 simp [execOp,Instr.sliceAt,Instr.slice,Instr.sliceBounds,run_sliceBound,hρ _ _ hx,hρ _ _ hj,B7 hu,hs,hbc,Gz]
theorem Bi.partT {α:Type} {L:Fq α} {w:World} {p:Option Addr} {l:List α} {c:Nat} (h:Bi L w p l) (b:Nat) (hb:b<=l.length) (hc:l.length<=c):Bi L w (Gz L.m p c 0) (l.take b):=by
 have:=h.part (c:=c) (a:=0) (b:=b) (G8 _) hb hc
 rw [Nt,Nat.sub_zero] at this
 exact this
theorem BM.ixm {tx e:TypeId} {x y:Operand} {p:Option Addr} {l c sz:Nat} {i:Int} {k:IntKind} (hu:P.underlying tx=some (.slice e)) (hs:∀ w,(sizeOf e).run P w=.ok sz w) (hx:D3 f x=some (.slice p l c))
  (hi:D3 f y=some (.int k i)) (hp:p=some (pA p)) (j:Nat) (e':i=j) (hj:j<l):BM P (.indexAddr tx x y) f (.pointer (some ((pA p).add (j * sz)))) :=
 BM.ixa hu hs (by rw [hx];rw [<- hp]) hi j e' hj
theorem Bi.field {α:Type} {L:Fq α} {w:World} {p:Option Addr} {l:List α} (h:Bi L w p l) (k:Nat) (hk:k<l.length) (i:Nat) (hi:i<L.m):w.cell? (((pA p).add (k * L.m)).add i)=(L.V l[k])[i]?:=by
 rw [JI];exact h.cells k hk i hi
theorem Jv (w:World) (d:Nat) (t e:TypeId) (a:Option Addr) (h:P.underlying t=some (.pointer e)) :
  (Op.equalIn (d+1) t (.pointer a) (.pointer none)).run P w=.ok a.isNone w:=by
 cases a <;> simp [Op.equalIn,B7 h]
theorem BM.eqP {x:Operand} {tx ty e:TypeId} {a:Option Addr} (hu:P.underlying tx=some (.pointer e)) (hx:D3 f x=some (.pointer a)):BM P (.binOp .eql tx x (.const (.pointer none)) ty) f (.bool a.isNone):=λρ hρ d ty' pos aft g w=>by
 have h4:ρ (.const (.pointer none))=.pointer none:=hρ _ _ rfl
 have h5:(binOp .eql tx (.pointer a) (.pointer none)).run P w=.ok (.bool a.isNone) w:=by
  simp only [binOp]
  simp [Op.equal,Op.maxDepth,Jv w 9999 tx e a hu]
 simp [execOp,hρ _ _ hx,h4,eqGuard,h5]
theorem BM.neP {x:Operand} {tx ty e:TypeId} {a:Option Addr} (hu:P.underlying tx=some (.pointer e)) (hx:D3 f x=some (.pointer a)):BM P (.binOp .neq tx x (.const (.pointer none)) ty) f (.bool (!a.isNone)):=λρ hρ d ty' pos aft g w=>by
 have h4:ρ (.const (.pointer none))=.pointer none:=hρ _ _ rfl
 have h5:(binOp .neq tx (.pointer a) (.pointer none)).run P w=.ok (.bool (!a.isNone)) w:=by
  simp only [binOp]
  simp [Op.equal,Op.maxDepth,Jv w 9999 tx e a hu]
 simp [execOp,hρ _ _ hx,h4,eqGuard,h5]
end
end
section
open Go.ChangeShapes Go.WideShapes Go.ChangeAt Go.RowKit
structure Lf {α:Type} (p:Option Addr) (l:List α) (c:Nat):Prop where
 le:l.length<=c
 cap:c<=maxLen
 nil:l=[]->c=0\/p≠none
 none:p=none->l=[]/\c=0
theorem Lf.z {α:Type}:Lf (α:=α) Option.none [] 0:=⟨FQ _,by unfold maxLen;omega,λ_=>.inl rfl,λ_=>⟨rfl,rfl⟩⟩
theorem Mr {α:Type} (P:Nat->α->Prop):∀ n,(∀ i,i<n->∃ o,P i o)->∃ l:List α,l.length=n/\∀ i (h:i<l.length),P i l[i]
  | 0,_=>⟨[],rfl,λi h=>by simp at h⟩
  | n+1,h=>by
    obtain ⟨l,hl,hp⟩:=Mr P n (λi hi=>h i oO)
    obtain ⟨o,ho⟩:=h n oO
    refine ⟨l++[o],by simp [hl],λi hi=>?_⟩
    rw [A9,Ck] at hi
    rcases BL i l.length with h1 | h1
    · rw [GM h1];exact hp i h1
    · obtain rfl : i = l.length := by omega
      rw [Gx (FQ _)]
      simp only [Ku,B3]
      rw [hl];exact ho
def A6q {H:Type} (d:DataW H) (n:Nat):Prop:=n=0\/∃ elems spare,d=.slice elems spare/\n=elems.length
abbrev E5 (k:Int):Value:=Ah k
section
variable {H:Type} {enc:TypeId × Value->H} {P:Program} {w:World} {base:Nat} {sp:Nat->Bool} {held:Bool} {fuel:Nat} {t e:TypeId} {cs:List Value} {x:DataW H × List MemPlace} {α:Type}
theorem MW {L:Fq α} {Ok:α->Prop} (hu:P.underlying t=some (.slice e)) (hc:P.cellsOf e=L.m) (hel:∀ {n cs x},DataW.trod enc P w base sp held n e cs=some x->∃ o,cs=L.V o/\Ok o)
    (h:DataW.trod enc P w base sp held fuel t cs=some x):∃ p l c,cs=[.slice p (l:List α).length c]/\Bi L w p l/\Lf p l c/\(∀ y∈l,Ok y)/\A6q x.1 l.length:=by
  rcases Go.Deep.open_slice hu h with ⟨rfl,rfl⟩ | ⟨a,len,cap,k,n,D,Pl,rfl,-,hl,hm,hk,rfl,hx⟩
  · exact ⟨none,[],0,rfl,Bi.nil w,.z,λy hy=>by simp at hy,.inl rfl⟩
  · have s : len ≤ k := by rw [hk]; split <;> omega
    obtain ⟨l,b,hp⟩:=Mr (λi o=>(∀ q,q<L.m->w.cell? (a.add (i * L.m+q))=(L.V o)[q]?)/\Ok o) len (λi hi=>by
      obtain ⟨cs,d,f⟩:=hx i oO
      obtain ⟨o,rfl,ho⟩:=hel f
      rw [hc] at d
      obtain ⟨-,-,g⟩:=World.cells?_some d
      exact ⟨o,λq hq=>by rw [<- JI];exact g q hq,ho⟩)
    refine ⟨some a,l,cap,by rw [b],⟨λ_=>rfl,λj hj q hq=>(hp j hj).1 q hq⟩,⟨oO,hm,λ_=>.inr (by simp),λh=>by cases h⟩,λy hy=>?_,.inr ⟨_,_,rfl,by simp [b]⟩⟩
    obtain ⟨i,hi,rfl⟩:=List.getElem_of_mem hy
    exact (hp i hi).2
theorem RA {V:α->Value} {Ok:α->Prop} (hu:P.underlying t=some (.slice e)) (hc:P.cellsOf e=1) (hel:∀ {n v x},DataW.trod enc P w base sp held n e [v]=some x->∃ o,v=V o/\Ok o)
    (h:DataW.trod enc P w base sp held fuel t cs=some x):∃ p l c,cs=[.slice p (l:List α).length c]/\AZ V w p l/\Lf p l c/\(∀ y∈l,Ok y)/\A6q x.1 l.length:=by
  rcases Go.Deep.open_slice1 hu hc h with ⟨rfl,rfl⟩ | ⟨a,len,cap,k,n,F,D,Pl,rfl,-,hl,hm,hk,rfl,hx⟩
  · exact ⟨none,[],0,rfl,AZ.nil w,.z,λy hy=>by simp at hy,.inl rfl⟩
  · have g : len ≤ k := by rw [hk]; split <;> omega
    obtain ⟨l,b,hp⟩:=Mr (λi o=>w.cell? (a.add i)=some (V o)/\Ok o) len (λi hi=>by
      obtain ⟨d,f⟩:=hx i oO
      obtain ⟨o,ho,hk⟩:=hel f
      exact ⟨o,by rw [d,ho],hk⟩)
    refine ⟨some a,l,cap,by rw [b],⟨λ_=>rfl,λj hj=>(hp j hj).1⟩,⟨oO,hm,λ_=>.inr (by simp),λh=>by cases h⟩,λy hy=>?_,.inr ⟨_,_,rfl,by simp [b]⟩⟩
    obtain ⟨i,hi,rfl⟩:=List.getElem_of_mem hy
    exact (hp i hi).2
theorem A0S (hu:P.underlying t=some (.slice e)) (he:P.underlying e=some (.int .i64)) (hc:P.cellsOf e=1)
  (h:DataW.trod enc P w base sp held fuel t cs=some x):∃ p l c,cs=[.slice p (l:List Int).length c]/\AZ E5 w p l/\Lf p l c/\(∀ y∈l,(Lit.int .i64 y).wf=true)/\A6q x.1 l.length :=
 RA hu hc (λ{n v x} h=>by
  obtain ⟨a,e,-,w⟩:=BS he h
  simp only [DT,and_true] at e
  exact ⟨a,e,w⟩) h
theorem A2Q (hu:P.underlying t=some (.slice e)) (he:P.underlying e=some (.int .u8)) (hc:P.cellsOf e=1)
  (h:DataW.trod enc P w base sp held fuel t cs=some x):∃ p l c,cs=[.slice p (l:l8_).length c]/\Ay w p l/\Lf p l c/\(∀ y∈l,True)/\A6q x.1 l.length:=by
 obtain ⟨p,l,c,d,b,f,g,i⟩:=RA (V:=λc:UInt8=>.int .u8 (c.toNat:Int)) (Ok:=λ_=>True) hu hc (λ{n v x} h=>by
  obtain ⟨a,e,-,w⟩:=BS he h
  simp only [DT,and_true] at e
  have hb:0<=a/\a<=255:=by simp only [Lit.wf,A4,Ad] at w;exact w
  refine ⟨a.toNat.toUInt8,?_,tT⟩
  rw [e]
  have:(a.toNat.toUInt8).toNat=a.toNat % 256:=by simp
  rw [this];congr 1;omega) h
 exact ⟨p,l,c,d,⟨b.isp,b.cells⟩,f,g,i⟩
end
end
section
open Go.ChangeShapes Go.WideShapes Go.ChangeAt Go.RowKit
structure BH where
 fX:Int
 fY:Int
def D4 (x:BH):List Value:=[Ah x.fX,Ah x.fY]
def Ep:Fq BH:=⟨2,D4,dD,λ_=>rfl,λx u hu=>At.1 (show (D4 x).all Value.oneCell'=true from rfl) u hu⟩
structure Kq (w:World) (x:BH):Prop where
 wf_fX:(Lit.int .i64 x.fX).wf=true
 wf_fY:(Lit.int .i64 x.fY).wf=true
theorem Kq.below {w w1:World} {x:BH} (h:Kq w x) (hb:AD w w1):Kq w1 x :=
 ⟨h.wf_fX,h.wf_fY⟩
theorem ZR:Tryz.prog.cellsOf 57=2:=by kernel_rfl
theorem cells3:Tryz.prog.cellsOf 3=1:=by kernel_rfl
theorem NI {H:Type} {enc:TypeId × Value->H} {w:World} {base:Nat} {sp:Nat->Bool} {held:Bool} {fuel:Nat} {cs:List Value} {x:DataW H × List MemPlace}
  (h:DataW.trod enc Tryz.prog w base sp held fuel 57 cs=some x):∃ o:BH,cs=D4 o/\Kq w o:=by
 obtain ⟨xs,n,rfl,-,hl,a,hf⟩:=DataW.trod_struct CQ h
 rw [ZR] at hl
 have b:xs.length=2:=a
 match cs,hl with
 | [c0,c1],_ =>
  have g:∀ (i:Nat) (f:Field) (q:Nat) (c:List Value),_->Tryz.prog.cellsOf f.type=q->(([c0,c1]:List Value).drop f.offset).take q=c->DataW.trod enc Tryz.prog w base sp held n f.type c=xs[i]?:=λi f q c d e j=>by
   have:=hf i f d
   rw [e,j] at this
   exact this
  have f0:=(g 0 _ 1 [c0] rfl cells3 rfl).trans (A6 oO)
  obtain ⟨afX,efX,-,wfX⟩:=BS JL f0
  have f1:=(g 1 _ 1 [c1] rfl cells3 rfl).trans (A6 oO)
  obtain ⟨afY,efY,-,wfY⟩:=BS JL f1
  simp only [DT,and_true] at efX efY
  refine ⟨⟨afX,afY⟩,?_,⟨wfX,wfY⟩⟩
  rw [efX,efY]
  rfl
structure Cm where
 fKind:Int
 fP_0:BH
 fP_1:BH
 fP_2:BH
def Iu (x:Cm):List Value:=[Ah x.fKind]++D4 x.fP_0++D4 x.fP_1++D4 x.fP_2
def EX:Fq Cm:=⟨7,Iu,dD,λ_=>rfl,λx u hu=>At.1 (show (Iu x).all Value.oneCell'=true from rfl) u hu⟩
structure MF (w:World) (x:Cm):Prop where
 wf_fKind:(Lit.int .i64 x.fKind).wf=true
 ok_fP_0:Kq w x.fP_0
 ok_fP_1:Kq w x.fP_1
 ok_fP_2:Kq w x.fP_2
theorem MF.below {w w1:World} {x:Cm} (h:MF w x) (hb:AD w w1):MF w1 x :=
 ⟨h.wf_fKind,h.ok_fP_0.below hb,h.ok_fP_1.below hb,h.ok_fP_2.below hb⟩
theorem V9:Tryz.prog.cellsOf 94=7:=by kernel_rfl
theorem A68:Tryz.prog.cellsOf 92=6:=by kernel_rfl
theorem Wi {H:Type} {enc:TypeId × Value->H} {w:World} {base:Nat} {sp:Nat->Bool} {held:Bool} {fuel:Nat} {cs:List Value} {x:DataW H × List MemPlace}
  (h:DataW.trod enc Tryz.prog w base sp held fuel 94 cs=some x):∃ o:Cm,cs=Iu o/\MF w o:=by
 obtain ⟨xs,n,rfl,-,hl,b,hf⟩:=DataW.trod_struct I3 h
 rw [V9] at hl
 have d:xs.length=2:=b
 match cs,hl with
 | [c0,c1,c2,c3,c4,c5,c6],_ =>
  have g:∀ (i:Nat) (f:Field) (q:Nat) (c:List Value),_->Tryz.prog.cellsOf f.type=q->(([c0,c1,c2,c3,c4,c5,c6]:List Value).drop f.offset).take q=c->DataW.trod enc Tryz.prog w base sp held n f.type c=xs[i]?:=λi f q c e j k=>by
   have:=hf i f e
   rw [j,k] at this
   exact this
  have f0:=(g 0 _ 1 [c0] rfl cells3 rfl).trans (A6 oO)
  obtain ⟨afKind,efKind,-,wfKind⟩:=BS JL f0
  have f1:=(g 1 _ 6 [c1,c2,c3,c4,c5,c6] rfl A68 rfl).trans (A6 oO)
  obtain ⟨m,s,rfl,-,-,l,a⟩:=DataW.trod_array K4 f1
  rw [ZR] at a
  have yz1_0:=(show DataW.trod enc Tryz.prog w base sp held _ 57 [c1,c2]=_ from a 0 dD).trans (A6 oO)
  obtain ⟨afP_0,efP_0,wfP_0⟩:=NI yz1_0
  have yz1_1:=(show DataW.trod enc Tryz.prog w base sp held _ 57 [c3,c4]=_ from a 1 dD).trans (A6 oO)
  obtain ⟨afP_1,efP_1,wfP_1⟩:=NI yz1_1
  have yz1_2:=(show DataW.trod enc Tryz.prog w base sp held _ 57 [c5,c6]=_ from a 2 dD).trans (A6 oO)
  obtain ⟨afP_2,efP_2,wfP_2⟩:=NI yz1_2
  simp only [DT,and_true] at efKind
  refine ⟨⟨afKind,afP_0,afP_1,afP_2⟩,?_,⟨wfKind,wfP_0,wfP_1,wfP_2⟩⟩
  show _=([Ah afKind]:List Value)++D4 afP_0++D4 afP_1++D4 afP_2
  rw [<- efP_0,<- efP_1,<- efP_2]
  rw [efKind]
  rfl
structure Cj where
 fSpace:Int
 fPart_0:Int
 fPart_1:Int
 fPart_2:Int
 fPart_3:Int
def DV (x:Cj):List Value:=[Ah x.fSpace,Ah x.fPart_0,Ah x.fPart_1,Ah x.fPart_2,Ah x.fPart_3]
def Gj:Fq Cj:=⟨5,DV,dD,λ_=>rfl,λx u hu=>At.1 (show (DV x).all Value.oneCell'=true from rfl) u hu⟩
structure N9 (w:World) (x:Cj):Prop where
 wf_fSpace:(Lit.int .i64 x.fSpace).wf=true
 wf_fPart_0:(Lit.int .i64 x.fPart_0).wf=true
 wf_fPart_1:(Lit.int .i64 x.fPart_1).wf=true
 wf_fPart_2:(Lit.int .i64 x.fPart_2).wf=true
 wf_fPart_3:(Lit.int .i64 x.fPart_3).wf=true
theorem N9.below {w w1:World} {x:Cj} (h:N9 w x) (hb:AD w w1):N9 w1 x :=
 ⟨h.wf_fSpace,h.wf_fPart_0,h.wf_fPart_1,h.wf_fPart_2,h.wf_fPart_3⟩
theorem ZU:Tryz.prog.cellsOf 37=5:=by kernel_rfl
theorem A6d:Tryz.prog.cellsOf 35=4:=by kernel_rfl
theorem Yj {H:Type} {enc:TypeId × Value->H} {w:World} {base:Nat} {sp:Nat->Bool} {held:Bool} {fuel:Nat} {cs:List Value} {x:DataW H × List MemPlace}
  (h:DataW.trod enc Tryz.prog w base sp held fuel 37 cs=some x):∃ o:Cj,cs=DV o/\N9 w o:=by
 obtain ⟨xs,n,rfl,-,hl,b,hf⟩:=DataW.trod_struct H5 h
 rw [ZU] at hl
 have d:xs.length=2:=b
 match cs,hl with
 | [c0,c1,c2,c3,c4],_ =>
  have g:∀ (i:Nat) (f:Field) (q:Nat) (c:List Value),_->Tryz.prog.cellsOf f.type=q->(([c0,c1,c2,c3,c4]:List Value).drop f.offset).take q=c->DataW.trod enc Tryz.prog w base sp held n f.type c=xs[i]?:=λi f q c e j k=>by
   have:=hf i f e
   rw [j,k] at this
   exact this
  have f0:=(g 0 _ 1 [c0] rfl cells3 rfl).trans (A6 oO)
  obtain ⟨afSpace,efSpace,-,wfSpace⟩:=BS JL f0
  have f1:=(g 1 _ 4 [c1,c2,c3,c4] rfl A6d rfl).trans (A6 oO)
  obtain ⟨m,s,rfl,-,-,l,a⟩:=DataW.trod_array Vt f1
  rw [cells3] at a
  have yz1_0:=(show DataW.trod enc Tryz.prog w base sp held _ 3 [c1]=_ from a 0 dD).trans (A6 oO)
  obtain ⟨afPart_0,efPart_0,-,wfPart_0⟩:=BS JL yz1_0
  have yz1_1:=(show DataW.trod enc Tryz.prog w base sp held _ 3 [c2]=_ from a 1 dD).trans (A6 oO)
  obtain ⟨afPart_1,efPart_1,-,wfPart_1⟩:=BS JL yz1_1
  have yz1_2:=(show DataW.trod enc Tryz.prog w base sp held _ 3 [c3]=_ from a 2 dD).trans (A6 oO)
  obtain ⟨afPart_2,efPart_2,-,wfPart_2⟩:=BS JL yz1_2
  have yz1_3:=(show DataW.trod enc Tryz.prog w base sp held _ 3 [c4]=_ from a 3 dD).trans (A6 oO)
  obtain ⟨afPart_3,efPart_3,-,wfPart_3⟩:=BS JL yz1_3
  simp only [DT,and_true] at efSpace efPart_0 efPart_1 efPart_2 efPart_3
  refine ⟨⟨afSpace,afPart_0,afPart_1,afPart_2,afPart_3⟩,?_,⟨wfSpace,wfPart_0,wfPart_1,wfPart_2,wfPart_3⟩⟩
  rw [efSpace,efPart_0,efPart_1,efPart_2,efPart_3]
  rfl
structure Bm where
 pfPath:Option Addr
 fPath:List Cm
 cfPath:Nat
 fEvenOdd:Bool
def ZP (x:Bm):List Value:=[.slice x.pfPath x.fPath.length x.cfPath,.bool x.fEvenOdd]
def G0:Fq Bm:=⟨2,ZP,dD,λ_=>rfl,λx u hu=>At.1 (show (ZP x).all Value.oneCell'=true from rfl) u hu⟩
structure Hs (w:World) (x:Bm):Prop where
 row_fPath:Bi EX w x.pfPath x.fPath
 sl_fPath:Lf x.pfPath x.fPath x.cfPath
 all_fPath:∀ y∈x.fPath,MF w y
theorem Hs.below {w w1:World} {x:Bm} (h:Hs w x) (hb:AD w w1):Hs w1 x :=
 ⟨h.row_fPath.below hb (λh0=>h.row_fPath.lt h0),h.sl_fPath,λy hy=>(h.all_fPath y hy).below hb⟩
theorem Hs.drew {w w1:World} {x:Bm} (h:Hs w x) (d:Df w w1):Hs w1 x:=h.below (d.below (Nh _ _))
theorem ZQ:Tryz.prog.cellsOf 61=2:=by kernel_rfl
theorem ZV:Tryz.prog.cellsOf 34=1:=by kernel_rfl
theorem cells4:Tryz.prog.cellsOf 4=1:=by kernel_rfl
theorem A0V {H:Type} {enc:TypeId × Value->H} {w:World} {base:Nat} {sp:Nat->Bool} {held:Bool} {fuel:Nat} {cs:List Value} {x:DataW H × List MemPlace}
  (h:DataW.trod enc Tryz.prog w base sp held fuel 61 cs=some x):∃ o:Bm,cs=ZP o/\Hs w o:=by
 obtain ⟨xs,n,rfl,-,hl,a,hf⟩:=DataW.trod_struct Na h
 rw [ZQ] at hl
 have b:xs.length=2:=a
 match cs,hl with
 | [c0,c1],_ =>
  have g:∀ (i:Nat) (f:Field) (q:Nat) (c:List Value),_->Tryz.prog.cellsOf f.type=q->(([c0,c1]:List Value).drop f.offset).take q=c->DataW.trod enc Tryz.prog w base sp held n f.type c=xs[i]?:=λi f q c d e j=>by
   have:=hf i f d
   rw [e,j] at this
   exact this
  have f0:=(g 0 _ 1 [c0] rfl ZV rfl).trans (A6 oO)
  obtain ⟨pfPath,afPath,lfPath,efPath,rfPath,sfPath,kfPath,-⟩:=MW (L:=EX) (Ok:=λo=>MF w o) Fk V9 (λh=>Wi h) f0
  have f1:=(g 1 _ 1 [c1] rfl cells4 rfl).trans (A6 oO)
  obtain ⟨afEvenOdd,efEvenOdd,-⟩:=DataW.trod_bool u4_ f1
  simp only [DT,and_true] at efPath efEvenOdd
  refine ⟨⟨pfPath,afPath,lfPath,afEvenOdd⟩,?_,⟨rfPath,sfPath,kfPath⟩⟩
  rw [efPath,efEvenOdd]
  rfl
structure DP where
 fWidth:Int
 fCap:Int
 fJoin:Int
 fMiter:Int
 pfDash:Option Addr
 fDash:List Int
 cfDash:Nat
 fPhase:Int
def Ex (x:DP):List Value:=[Ah x.fWidth,Ah x.fCap,Ah x.fJoin,Ah x.fMiter,.slice x.pfDash x.fDash.length x.cfDash,Ah x.fPhase]
def Wb:Fq DP:=⟨6,Ex,dD,λ_=>rfl,λx u hu=>At.1 (show (Ex x).all Value.oneCell'=true from rfl) u hu⟩
structure Qi (w:World) (x:DP):Prop where
 wf_fWidth:(Lit.int .i64 x.fWidth).wf=true
 wf_fCap:(Lit.int .i64 x.fCap).wf=true
 wf_fJoin:(Lit.int .i64 x.fJoin).wf=true
 wf_fMiter:(Lit.int .i64 x.fMiter).wf=true
 row_fDash:AZ E5 w x.pfDash x.fDash
 sl_fDash:Lf x.pfDash x.fDash x.cfDash
 wfs_fDash:∀ y∈x.fDash,(Lit.int .i64 y).wf=true
 wf_fPhase:(Lit.int .i64 x.fPhase).wf=true
theorem Qi.below {w w1:World} {x:DP} (h:Qi w x) (hb:AD w w1):Qi w1 x :=
 ⟨h.wf_fWidth,h.wf_fCap,h.wf_fJoin,h.wf_fMiter,h.row_fDash.below hb (λh0=>h.row_fDash.lt h0),h.sl_fDash,h.wfs_fDash,h.wf_fPhase⟩
theorem ZT:Tryz.prog.cellsOf 41=6:=by kernel_rfl
theorem A6b:Tryz.prog.cellsOf 39=1:=by kernel_rfl
theorem A2R {H:Type} {enc:TypeId × Value->H} {w:World} {base:Nat} {sp:Nat->Bool} {held:Bool} {fuel:Nat} {cs:List Value} {x:DataW H × List MemPlace}
  (h:DataW.trod enc Tryz.prog w base sp held fuel 41 cs=some x):∃ o:DP,cs=Ex o/\Qi w o:=by
 obtain ⟨xs,n,rfl,-,hl,a,hf⟩:=DataW.trod_struct D7 h
 rw [ZT] at hl
 have b:xs.length=6:=a
 match cs,hl with
 | [c0,c1,c2,c3,c4,c5],_ =>
  have g:∀ (i:Nat) (f:Field) (q:Nat) (c:List Value),_->Tryz.prog.cellsOf f.type=q->(([c0,c1,c2,c3,c4,c5]:List Value).drop f.offset).take q=c->DataW.trod enc Tryz.prog w base sp held n f.type c=xs[i]?:=λi f q c d e j=>by
   have:=hf i f d
   rw [e,j] at this
   exact this
  have f0:=(g 0 _ 1 [c0] rfl cells3 rfl).trans (A6 oO)
  obtain ⟨afWidth,efWidth,-,wfWidth⟩:=BS JL f0
  have f1:=(g 1 _ 1 [c1] rfl cells3 rfl).trans (A6 oO)
  obtain ⟨afCap,efCap,-,wfCap⟩:=BS JL f1
  have f2:=(g 2 _ 1 [c2] rfl cells3 rfl).trans (A6 oO)
  obtain ⟨afJoin,efJoin,-,wfJoin⟩:=BS JL f2
  have f3:=(g 3 _ 1 [c3] rfl cells3 rfl).trans (A6 oO)
  obtain ⟨afMiter,efMiter,-,wfMiter⟩:=BS JL f3
  have f4:=(g 4 _ 1 [c4] rfl A6b rfl).trans (A6 oO)
  obtain ⟨pfDash,afDash,lfDash,efDash,rfDash,sfDash,kfDash,-⟩:=A0S Dm JL cells3 f4
  have f5:=(g 5 _ 1 [c5] rfl cells3 rfl).trans (A6 oO)
  obtain ⟨afPhase,efPhase,-,wfPhase⟩:=BS JL f5
  simp only [DT,and_true] at efWidth efCap efJoin efMiter efDash efPhase
  refine ⟨⟨afWidth,afCap,afJoin,afMiter,pfDash,afDash,lfDash,afPhase⟩,?_,⟨wfWidth,wfCap,wfJoin,wfMiter,rfDash,sfDash,kfDash,wfPhase⟩⟩
  rw [efWidth,efCap,efJoin,efMiter,efDash,efPhase]
  rfl
structure AN where
 fKind:Int
 pfPath:Option Addr
 fPath:List Cm
 cfPath:Nat
 fColor:Cj
 pfClips:Option Addr
 fClips:List Bm
 cfClips:Nat
 fPen:DP
 fFont:Int
 fMatrix_0:Int
 fMatrix_1:Int
 fMatrix_2:Int
 fMatrix_3:Int
 fMatrix_4:Int
 fMatrix_5:Int
 pfBytes:Option Addr
 fBytes:l8_
 cfBytes:Nat
def F4 (x:AN):List Value:=[Ah x.fKind,.slice x.pfPath x.fPath.length x.cfPath]++DV x.fColor++[.slice x.pfClips x.fClips.length x.cfClips]++Ex x.fPen++[Ah x.fFont,Ah x.fMatrix_0,Ah x.fMatrix_1,Ah x.fMatrix_2,Ah x.fMatrix_3,Ah x.fMatrix_4,Ah x.fMatrix_5,.slice x.pfBytes x.fBytes.length x.cfBytes]
def JW:Fq AN:=⟨22,F4,dD,λ_=>rfl,λx u hu=>At.1 (show (F4 x).all Value.oneCell'=true from rfl) u hu⟩
structure HY (w:World) (x:AN):Prop where
 wf_fKind:(Lit.int .i64 x.fKind).wf=true
 row_fPath:Bi EX w x.pfPath x.fPath
 sl_fPath:Lf x.pfPath x.fPath x.cfPath
 all_fPath:∀ y∈x.fPath,MF w y
 ok_fColor:N9 w x.fColor
 row_fClips:Bi G0 w x.pfClips x.fClips
 sl_fClips:Lf x.pfClips x.fClips x.cfClips
 all_fClips:∀ y∈x.fClips,Hs w y
 ok_fPen:Qi w x.fPen
 wf_fFont:(Lit.int .i64 x.fFont).wf=true
 wf_fMatrix_0:(Lit.int .i64 x.fMatrix_0).wf=true
 wf_fMatrix_1:(Lit.int .i64 x.fMatrix_1).wf=true
 wf_fMatrix_2:(Lit.int .i64 x.fMatrix_2).wf=true
 wf_fMatrix_3:(Lit.int .i64 x.fMatrix_3).wf=true
 wf_fMatrix_4:(Lit.int .i64 x.fMatrix_4).wf=true
 wf_fMatrix_5:(Lit.int .i64 x.fMatrix_5).wf=true
 row_fBytes:Ay w x.pfBytes x.fBytes
 sl_fBytes:Lf x.pfBytes x.fBytes x.cfBytes
theorem HY.below {w w1:World} {x:AN} (h:HY w x) (hb:AD w w1):HY w1 x :=
 ⟨h.wf_fKind,h.row_fPath.below hb (λh0=>h.row_fPath.lt h0),h.sl_fPath,λy hy=>(h.all_fPath y hy).below hb,h.ok_fColor.below hb,h.row_fClips.below hb (λh0=>h.row_fClips.lt h0),h.sl_fClips,λy hy=>(h.all_fClips y hy).below hb,h.ok_fPen.below hb,h.wf_fFont,h.wf_fMatrix_0,h.wf_fMatrix_1,h.wf_fMatrix_2,h.wf_fMatrix_3,h.wf_fMatrix_4,h.wf_fMatrix_5,h.row_fBytes.below hb (λh0=>h.row_fBytes.lt h0),h.sl_fBytes⟩
theorem ZS:Tryz.prog.cellsOf 44=22:=by kernel_rfl
theorem A6c:Tryz.prog.cellsOf 38=1:=by kernel_rfl
theorem A6a:Tryz.prog.cellsOf 42=6:=by kernel_rfl
theorem A7U:Tryz.prog.cellsOf 5=1:=by kernel_rfl
theorem A6f:Tryz.prog.cellsOf 22=1:=by kernel_rfl
theorem A0U {H:Type} {enc:TypeId × Value->H} {w:World} {base:Nat} {sp:Nat->Bool} {held:Bool} {fuel:Nat} {cs:List Value} {x:DataW H × List MemPlace}
  (h:DataW.trod enc Tryz.prog w base sp held fuel 44 cs=some x):∃ o:AN,cs=F4 o/\HY w o:=by
 obtain ⟨xs,n,rfl,-,hl,b,hf⟩:=DataW.trod_struct Db h
 rw [ZS] at hl
 have d:xs.length=8:=b
 match cs,hl with
 | [c0,c1,c2,c3,c4,c5,c6,c7,c8,c9,c10,c11,c12,c13,c14,c15,c16,c17,c18,c19,c20,c21],_ =>
  have g:∀ (i:Nat) (f:Field) (q:Nat) (c:List Value),_->Tryz.prog.cellsOf f.type=q->(([c0,c1,c2,c3,c4,c5,c6,c7,c8,c9,c10,c11,c12,c13,c14,c15,c16,c17,c18,c19,c20,c21]:List Value).drop f.offset).take q=c->DataW.trod enc Tryz.prog w base sp held n f.type c=xs[i]?:=λi f q c e j k=>by
   have:=hf i f e
   rw [j,k] at this
   exact this
  have f0:=(g 0 _ 1 [c0] rfl cells3 rfl).trans (A6 oO)
  obtain ⟨afKind,efKind,-,wfKind⟩:=BS JL f0
  have f1:=(g 1 _ 1 [c1] rfl ZV rfl).trans (A6 oO)
  obtain ⟨pfPath,afPath,lfPath,efPath,rfPath,sfPath,kfPath,-⟩:=MW (L:=EX) (Ok:=λo=>MF w o) Fk V9 (λh=>Wi h) f1
  have f2:=(g 2 _ 5 [c2,c3,c4,c5,c6] rfl ZU rfl).trans (A6 oO)
  obtain ⟨afColor,efColor,wfColor⟩:=Yj f2
  have f3:=(g 3 _ 1 [c7] rfl A6c rfl).trans (A6 oO)
  obtain ⟨pfClips,afClips,lfClips,efClips,rfClips,sfClips,kfClips,-⟩:=MW (L:=G0) (Ok:=λo=>Hs w o) Fj ZQ (λh=>A0V h) f3
  have f4:=(g 4 _ 6 [c8,c9,c10,c11,c12,c13] rfl ZT rfl).trans (A6 oO)
  obtain ⟨afPen,efPen,wfPen⟩:=A2R f4
  have f5:=(g 5 _ 1 [c14] rfl cells3 rfl).trans (A6 oO)
  obtain ⟨afFont,efFont,-,wfFont⟩:=BS JL f5
  have f6:=(g 6 _ 6 [c15,c16,c17,c18,c19,c20] rfl A6a rfl).trans (A6 oO)
  obtain ⟨m,s,rfl,-,-,l,a⟩:=DataW.trod_array DM f6
  rw [cells3] at a
  have yz1_0:=(show DataW.trod enc Tryz.prog w base sp held _ 3 [c15]=_ from a 0 dD).trans (A6 oO)
  obtain ⟨afMatrix_0,efMatrix_0,-,wfMatrix_0⟩:=BS JL yz1_0
  have yz1_1:=(show DataW.trod enc Tryz.prog w base sp held _ 3 [c16]=_ from a 1 dD).trans (A6 oO)
  obtain ⟨afMatrix_1,efMatrix_1,-,wfMatrix_1⟩:=BS JL yz1_1
  have yz1_2:=(show DataW.trod enc Tryz.prog w base sp held _ 3 [c17]=_ from a 2 dD).trans (A6 oO)
  obtain ⟨afMatrix_2,efMatrix_2,-,wfMatrix_2⟩:=BS JL yz1_2
  have yz1_3:=(show DataW.trod enc Tryz.prog w base sp held _ 3 [c18]=_ from a 3 dD).trans (A6 oO)
  obtain ⟨afMatrix_3,efMatrix_3,-,wfMatrix_3⟩:=BS JL yz1_3
  have yz1_4:=(show DataW.trod enc Tryz.prog w base sp held _ 3 [c19]=_ from a 4 dD).trans (A6 oO)
  obtain ⟨afMatrix_4,efMatrix_4,-,wfMatrix_4⟩:=BS JL yz1_4
  have yz1_5:=(show DataW.trod enc Tryz.prog w base sp held _ 3 [c20]=_ from a 5 dD).trans (A6 oO)
  obtain ⟨afMatrix_5,efMatrix_5,-,wfMatrix_5⟩:=BS JL yz1_5
  have f7:=(g 7 _ 1 [c21] rfl A6f rfl).trans (A6 oO)
  obtain ⟨pfBytes,afBytes,lfBytes,efBytes,rfBytes,sfBytes,kfBytes,-⟩:=A2Q BI Ln A7U f7
  simp only [DT,and_true] at efKind efPath efClips efFont efMatrix_0 efMatrix_1 efMatrix_2 efMatrix_3 efMatrix_4 efMatrix_5 efBytes
  refine ⟨⟨afKind,pfPath,afPath,lfPath,afColor,pfClips,afClips,lfClips,afPen,afFont,afMatrix_0,afMatrix_1,afMatrix_2,afMatrix_3,afMatrix_4,afMatrix_5,pfBytes,afBytes,lfBytes⟩,?_,⟨wfKind,rfPath,sfPath,kfPath,wfColor,rfClips,sfClips,kfClips,wfPen,wfFont,wfMatrix_0,wfMatrix_1,wfMatrix_2,wfMatrix_3,wfMatrix_4,wfMatrix_5,rfBytes,sfBytes⟩⟩
  show _=([Ah afKind,.slice pfPath afPath.length lfPath]:List Value)++DV afColor++([.slice pfClips afClips.length lfClips]:List Value)++Ex afPen++([Ah afFont,Ah afMatrix_0,Ah afMatrix_1,Ah afMatrix_2,Ah afMatrix_3,Ah afMatrix_4,Ah afMatrix_5,.slice pfBytes afBytes.length lfBytes]:List Value)
  rw [<- efColor,<- efPen]
  rw [efKind,efPath,efClips,efFont,efMatrix_0,efMatrix_1,efMatrix_2,efMatrix_3,efMatrix_4,efMatrix_5,efBytes]
  rfl
structure Kr where
 fWidth:Int
 fHeight:Int
 pfItems:Option Addr
 fItems:List AN
 cfItems:Nat
def HK (x:Kr):List Value:=[Ah x.fWidth,Ah x.fHeight,.slice x.pfItems x.fItems.length x.cfItems]
structure LM (w:World) (x:Kr):Prop where
 wf_fWidth:(Lit.int .i64 x.fWidth).wf=true
 wf_fHeight:(Lit.int .i64 x.fHeight).wf=true
 row_fItems:Bi JW w x.pfItems x.fItems
 sl_fItems:Lf x.pfItems x.fItems x.cfItems
 all_fItems:∀ y∈x.fItems,HY w y
theorem LM.below {w w1:World} {x:Kr} (h:LM w x) (hb:AD w w1):LM w1 x :=
 ⟨h.wf_fWidth,h.wf_fHeight,h.row_fItems.below hb (λh0=>h.row_fItems.lt h0),h.sl_fItems,λy hy=>(h.all_fItems y hy).below hb⟩
theorem A69:Tryz.prog.cellsOf 47=3:=by kernel_rfl
theorem A6e:Tryz.prog.cellsOf 29=1:=by kernel_rfl
theorem A0T {H:Type} {enc:TypeId × Value->H} {w:World} {base:Nat} {sp:Nat->Bool} {held:Bool} {fuel:Nat} {cs:List Value} {x:DataW H × List MemPlace}
  (h:DataW.trod enc Tryz.prog w base sp held fuel 47 cs=some x):∃ o:Kr,cs=HK o/\LM w o:=by
 obtain ⟨xs,n,rfl,-,hl,a,hf⟩:=DataW.trod_struct O8 h
 rw [A69] at hl
 have b:xs.length=3:=a
 match cs,hl with
 | [c0,c1,c2],_ =>
  have g:∀ (i:Nat) (f:Field) (q:Nat) (c:List Value),_->Tryz.prog.cellsOf f.type=q->(([c0,c1,c2]:List Value).drop f.offset).take q=c->DataW.trod enc Tryz.prog w base sp held n f.type c=xs[i]?:=λi f q c d e j=>by
   have:=hf i f d
   rw [e,j] at this
   exact this
  have f0:=(g 0 _ 1 [c0] rfl cells3 rfl).trans (A6 oO)
  obtain ⟨afWidth,efWidth,-,wfWidth⟩:=BS JL f0
  have f1:=(g 1 _ 1 [c1] rfl cells3 rfl).trans (A6 oO)
  obtain ⟨afHeight,efHeight,-,wfHeight⟩:=BS JL f1
  have f2:=(g 2 _ 1 [c2] rfl A6e rfl).trans (A6 oO)
  obtain ⟨pfItems,afItems,lfItems,efItems,rfItems,sfItems,kfItems,-⟩:=MW (L:=JW) (Ok:=λo=>HY w o) JQ ZS (λh=>A0U h) f2
  simp only [DT,and_true] at efWidth efHeight efItems
  refine ⟨⟨afWidth,afHeight,pfItems,afItems,lfItems⟩,?_,⟨wfWidth,wfHeight,rfItems,sfItems,kfItems⟩⟩
  rw [efWidth,efHeight,efItems]
  rfl
end
section
open Go.RowKit Go.WideShapes Go.ChangeShapes
section
variable {P:Program} {n:Sh} {f:Fr}
theorem TA {F:FuncId} (hb:Dq P F) {ρ:Operand->Value} (hρ:Agr f ρ) {x:Operand} {first cap args:Array Value} (hf:D3 f x=some (.func (.func F) first cap)) {xs:List Operand} {vs:List Value} (hx:QO f xs=some vs) (ha:first++vs.toArray++cap=args)
  {ats:Array TypeId} (d:Option Tmp) (ty:TypeId) (pos:String) (aft:Array Edge) (g:Option (Nat × Bool)) (w:World) :
  (execOp ρ ⟨d,.call ⟨.value x,xs.toArray,ats⟩,ty,pos,aft,g⟩).run P w=.ok (.enter F args) w:=by
 obtain ⟨fn,c,i,j⟩:=hb
 have e:=Kp hρ _ _ hx
 have b:ρ x=.func (.func F) first cap:=hρ _ _ hf
 have a:xs.toArray.map ρ=vs.toArray:=by simp [e]
 subst ha
 unfold execOp
 simp only [resolve,a,b]
 simp [Deferred.ofValue,invoke,callFunc,run_program,c,i,j]
theorem A4p {ops:Array Oper} {Q:Exit->Fr->World->Prop} {w:World} {rest:List Oper} {d ty:Nat} {pos:String} {aft:Array Edge} {F:FuncId} {x:Operand} {first cap args:Array Value} {xs:List Operand} {ats:Array TypeId} {vs:List Value} {α:Sort _}
  {V:α->Value} {S:α->World->Prop} (hb:Dq P F) (hf:D3 f x=some (.func (.func F) first cap)) (hx:QO f xs=some vs) (ha:first++vs.toArray++cap=args) (hd:Nat.blt d n.n=true)
  (hc:Calls P F args w λe w'=>∃ t,e=.returned (V t)/\S t w') (k:∀ t w',S t w'->WL P n ops Q rest ((d,V t)::f) w') :
  WL P n ops Q (⟨some d,.call ⟨.value x,xs.toArray,ats⟩,ty,pos,aft,none⟩::rest) f w:=by
 unfold WL at *
 intro a ha'
 refine wpList_plain rfl λK hK=>?_
 unfold Oper.wp
 rw [TA hb ha'.agr hf hx ha,Oper.upon_enter]
 refine hc.mono ?_
 rintro e w' ⟨t,rfl,hS⟩
 exact hK _ _ (k t w' hS _ (ha'.put hd _))
theorem YP {ops:Array Oper} {Q:Exit->Fr->World->Prop} {w:World} {rest:List Oper} {d ty:Nat} {pos:String} {aft:Array Edge} {F:FuncId} {x:Operand} {first cap args:Array Value} {xs:List Operand} {ats:Array TypeId} {vs:List Value}
  {V:Value} {S:World->Prop} (hb:Dq P F) (hf:D3 f x=some (.func (.func F) first cap)) (hx:QO f xs=some vs) (ha:first++vs.toArray++cap=args) (hd:Nat.blt d n.n=true)
  (hc:Calls P F args w λe w'=>e=.returned V/\S w') (k:∀ w',S w'->WL P n ops Q rest ((d,V)::f) w') :
  WL P n ops Q (⟨some d,.call ⟨.value x,xs.toArray,ats⟩,ty,pos,aft,none⟩::rest) f w :=
 A4p (α:=Unit) (V:=λ_=>V) (S:=λ_=>S) hb hf hx ha hd (hc.mono λ_ _ h=>⟨(),h⟩) (λ_=>k)
end
end
section
theorem Ci:Tryz.prog.follows .mixedOrders=true:=by kernel_rfl
theorem BQ {F:FuncId} (h:(match Tryz.prog.funcs[F]? with | some fn=>!(fn.body.isNone || fn.name == "runtime.NumGoroutine") | none=>false)=true:=by kernel_rfl):Dq Tryz.prog F:=by
  cases hf:Tryz.prog.funcs[F]? with
  | none=>rw [hf] at h;cases h
  | some fn=>rw [hf] at h;exact IV hf (by simpa using h)
theorem As {n:Sh} {f:Fr} {ops:Array Oper} {Q:Exit->Fr->World->Prop} {w:World} {rest:List Oper} {d ty:Nat} {pos:String} {aft:Array Edge} {F:FuncId} {xs:List Operand} {ats:Array TypeId} {vs:List Value} {V:Value} {S:World->Prop} (hc:Calls Tryz.prog F vs.toArray w λe w'=>e=.returned V/\S w') (k:∀ w',S w'->WL Tryz.prog n ops Q rest ((d,V)::f) w') (hb:Dq Tryz.prog F:=by exact BQ) (hx:QO f xs=some vs:=by rfl) (hd:Nat.blt d n.n=true:=by rfl):WL Tryz.prog n ops Q (⟨some d,.call ⟨.value (.func F),xs.toArray,ats⟩,ty,pos,aft,none⟩::rest) f w:=WL.c1 hb hx hd hc k
theorem Zy:Dq Tryz.prog 120:=IV Tryz.func120 (by kernel_rfl)
theorem A8V:Dq Tryz.prog 16:=IV Tryz.func16 (by kernel_rfl)
theorem A9X:Dq Tryz.prog 25:=IV Tryz.func25 (by kernel_rfl)
theorem A8U:Dq Tryz.prog 36:=IV Tryz.func36 (by kernel_rfl)
theorem L7:Dq Tryz.prog 43:=IV Tryz.func43 (by kernel_rfl)
theorem Yw:Dq Tryz.prog 6:=IV Tryz.func6 (by kernel_rfl)
theorem hb8:Dq Tryz.prog 8:=IV Tryz.func8 (by kernel_rfl)
theorem hb9:Dq Tryz.prog 9:=IV Tryz.func9 (by kernel_rfl)
theorem F5:(Tryz.prog.info? 37).map (·.size)=some 5:=by kernel_rfl
theorem A9a:Tryz.prog.built 37=λCy=>Instr.fill (([(0,1),(1,4)]:List (Nat × Nat)).toArray[·]?) [Value.int .i64 0,Value.int .i64 0,Value.int .i64 0,Value.int .i64 0,Value.int .i64 0].toArray Cy:=by kernel_rfl
theorem Im:(Tryz.prog.info? 41).map (·.size)=some 6:=by kernel_rfl
theorem A99:Tryz.prog.built 41=λCy=>Instr.fill (([(0,1),(1,1),(2,1),(3,1),(4,1),(5,1)]:List (Nat × Nat)).toArray[·]?) [Value.int .i64 0,Value.int .i64 0,Value.int .i64 0,Value.int .i64 0,Value.slice none 0 0,Value.int .i64 0].toArray Cy:=by kernel_rfl
theorem OI:(Tryz.prog.info? 44).map (·.size)=some 22:=by kernel_rfl
theorem A6J:(Tryz.prog.info? 47).map (·.size)=some 3:=by kernel_rfl
theorem A8R:(Tryz.prog.info? 53).map (·.size)=some 2:=by kernel_rfl
theorem Cb:(Tryz.prog.info? 57).map (·.size)=some 2:=by kernel_rfl
theorem LY:Tryz.prog.built 57=λCy=>Instr.fill (([(0,1),(1,1)]:List (Nat × Nat)).toArray[·]?) [Value.int .i64 0,Value.int .i64 0].toArray Cy:=by kernel_rfl
theorem Wx:(Tryz.prog.info? 61).map (·.size)=some 2:=by kernel_rfl
theorem Xb:Tryz.prog.built 61=λCy=>Instr.fill (([(0,1),(1,1)]:List (Nat × Nat)).toArray[·]?) [Value.slice none 0 0,Value.bool false].toArray Cy:=by kernel_rfl
theorem Q9:(Tryz.prog.info? 68).map (·.size)=some 25:=by kernel_rfl
theorem Q8:(Tryz.prog.info? 80).map (·.size)=some 16:=by kernel_rfl
theorem Jb:(Tryz.prog.info? 94).map (·.size)=some 7:=by kernel_rfl
theorem Bb:(Tryz.prog.info? 99).map (·.size)=some 6:=by kernel_rfl
theorem Hj:Tryz.prog.built 99=λCy=>Instr.fill (([(0,1),(1,1),(2,1),(3,1),(4,1),(5,1)]:List (Nat × Nat)).toArray[·]?) [Value.int .i64 0,Value.int .i64 0,Value.string ⟨#[]⟩,Value.slice none 0 0,Value.slice none 0 0,Value.slice none 0 0].toArray Cy:=by kernel_rfl
theorem A7X:Tryz.prog.built 112=λCy=>Instr.fill (([(0,1),(1,1),(2,1)]:List (Nat × Nat)).toArray[·]?) [Value.slice none 0 0,Value.int .i64 0,Value.bool false].toArray Cy:=by kernel_rfl
theorem BG:(Tryz.prog.info? 147).map (·.size)=some 3:=by kernel_rfl
theorem Jt:Tryz.prog.built 147=λCy=>Instr.fill (([(0,1),(1,1),(2,1)]:List (Nat × Nat)).toArray[·]?) [Value.int .i64 0,Value.int .i64 0,Value.string ⟨#[]⟩].toArray Cy:=by kernel_rfl
theorem A7W:Tryz.prog.built 180=λCy=>Instr.fill (([(0,1),(1,1)]:List (Nat × Nat)).toArray[·]?) [Value.slice none 0 0,Value.int .i64 0].toArray Cy:=by kernel_rfl
end
section
theorem Bw {a b:Value} (h:a=b):Ending.returned a=.returned b:=by rw [h]
def Yu {α:Type} (q:α->Bool) (l:List α):Int:=if l.any q then (l.findIdx q:Int) else -1
theorem Zx {α:Type} {q:α->Bool} {l:List α} {i:Nat} (hi:i<l.length) (hn:∀ j (h:j<l.length),j<i->q l[j]=false) (hq:q l[i]=true):Yu q l=(i:Int):=by
 have a:l.any q=true:=List.any_eq_true.2 ⟨_,AM hi,hq⟩
 have b:l.findIdx q=i:=by
  refine (List.findIdx_eq hi).2 ⟨hq,λj hj=>?_⟩
  exact hn j oO hj
 rw [Yu,A7 a,b]
theorem Zw {α:Type} {q:α->Bool} {l:List α} (hn:∀ j (h:j<l.length),q l[j]=false):Yu q l=-1:=by
 have a:¬ l.any q=true:=λh=>by
  obtain ⟨x,hx,hq⟩:=List.any_eq_true.1 h
  obtain ⟨j,hj,rfl⟩:=List.mem_iff_getElem.1 hx
  rw [hn j hj] at hq;cases hq
 rw [Yu,A2 a]
theorem A5Q {α:Type} (q:α->Bool) (l:List α):decide (Yu q l ≥ 0)=l.any q:=by
 unfold Yu
 cases l.any q <;> simp
theorem RZ {F:FuncId} (hF:Dq Tryz.prog F) (p:Option Addr) (l:List BH) (c:Nat) (q:BH->Bool) (w:World) (hr:Bi Ep w p l) (hl:l.length<=9223372036854775807)
  (hq:∀ j (h:j<l.length) w1,AD w w1->Calls Tryz.prog F #[.agg (D4 l[j]).toArray] w1 λe w'=>e=.returned (.bool (q l[j]))/\AD w1 w') :
  C9 171 #[.slice p l.length c,.func (.func F) #[] #[]] w (Ah (Yu q l)):=by
 refine Av func171 rfl ntmps171 ?_
 have g:=DR w
 refine A5<|Ab rfl<|Aj<|A5<|A3 rfl<|A1 (.lenS Gp rfl)<|A3 rfl<|A0<|AU<|Cf (α:=Nat) (λt=>[(0,.slice p l.length c),(1,.func (.func F) #[] #[]),(7,Ah (l.length:Int)),(8,Ah (t:Int))]) (λt w'=>AD w w'/\Bi Ep w' p l/\t<=l.length/\∀ j (h:j<l.length),j<t->q l[j]=false) (λt=>l.length-t) (0) ⟨rfl,rfl,rfl,rfl,tT⟩ (⟨g,hr,G8 _,λj _ h=>D6 h oO⟩) (λt w1 hR=>?_)
 obtain ⟨i,rfl⟩:=eX t
 obtain ⟨hT,hb1,hi,a⟩:=hR
 refine A5<|A1 (.lss rfl rfl)<|A0<|Aj<|Ae rfl (λf=>?_) (λf=>?_)
 have k:=dT f
 refine Ap<|Aj<|AU<|A5<|A3 rfl<|Ab rfl<|A5<|A3 rfl<|A3 rfl<|A3 rfl<|A1 (.ixm Gp Fa rfl rfl (hb1.isp oO) (i) (rfl) oO)<|Ai (Dy CQ rfl Cb hb1 (i) oO rfl)<|YP hF rfl rfl rfl rfl (hq i oO _ hT) (λv d=>?_)
 have m:=Is hb1 d (λo=>hb1.lt o)
 have b:=DN hT d
 refine A0<|Ae rfl (λs=>?_) (λs=>?_)
 refine A5<|A3 rfl<|Ab rfl<|AI ?_
 first
 | exact ⟨Bw (Bk _ (Zx oO a aS).symm),b⟩
 | exact ⟨Bw (Bk _ (Zw (λj h=>a j h oO)).symm),b⟩
 refine Ap<|Ak<|A1 (.iis (((i+1:Nat):Int)) (.add rfl rfl (Bn oO)) oO)<|A3 rfl<|A0<|?_
 exact ⟨i+1,⟨rfl,rfl,rfl,rfl,tT⟩,⟨b,m,oM,λj h hj=>by
  rcases Cp.1 hj with u | rfl;exact a j h u
  assumption⟩,oM⟩
 have k:=dF f
 refine C7<|A5<|Ab rfl<|AI ?_
 first
 | exact ⟨Bw (Bk _ (Zx oO a aS).symm),hT⟩
 | exact ⟨Bw (Bk _ (Zw (λj h=>a j h oO)).symm),hT⟩
theorem OF {F:FuncId} (hF:Dq Tryz.prog F) (p:Option Addr) (l:List BH) (c:Nat) (q:BH->Bool) (w:World) (hr:Bi Ep w p l) (hl:l.length<=9223372036854775807)
  (hq:∀ j (h:j<l.length) w1,AD w w1->Calls Tryz.prog F #[.agg (D4 l[j]).toArray] w1 λe w'=>e=.returned (.bool (q l[j]))/\AD w1 w') :
  C9 143 #[.slice p l.length c,.func (.func F) #[] #[]] w (.bool (l.any q)):=by
 refine Av func143 rfl ntmps143 ?_
 have a:=DR w
 refine A5<|Ab rfl<|A5<|A3 rfl<|A3 rfl<|As (RZ hF p l c q _ hr hl hq) (λw1 b=>?_)
 have d:=DN a b
 refine A1 (.geq rfl rfl)<|Ab rfl<|AI ?_
 exact ⟨Bw (Bk _ (A5Q q l)),d⟩
end
section
def Nk (n:Int):Bool:=decide (n ≥ 65536) && decide (n<=943718400) && decide (n % 65536=0)
theorem Rf (n:Int) (h:n ≥ 65536):n.tmod 65536=n % 65536:=Int.tmod_eq_emod_of_nonneg oO
theorem VR (n:Int) (w:World):Calls Tryz.prog 23 #[Ah n] w λe w'=>e=.returned (.bool (Nk n))/\w=w':=by
 refine Av func23 rfl ntmps23<|A5<|Ab rfl<|A5<|A3 rfl<|A1 (.geq rfl rfl)<|A3 rfl<|B5 rfl rfl rfl (λb=>?_) (λb=>?_)
 have c:=dT b
 refine A3 rfl<|Au b<|A1 (.leq rfl rfl)<|A1 (.pkT rfl b rfl)<|A3 rfl<|B5 rfl rfl rfl (λa=>?_) (λa=>?_)
 have d:=dT a
 refine A3 rfl<|Au a<|A1 (.rem rfl rfl oO (Int.tmod_eq_emod_of_nonneg oO))<|Au a<|A1 (.eql rfl rfl)<|A1 (.pkT rfl a rfl)<|Ab rfl<|AI ?_
 exact ⟨Bw (by unfold Nk;have:=Rf n;simp_all <;> omega),rfl⟩
 have d:=dF a
 refine Ac a<|Ac a<|A1 (.pkF rfl a rfl)<|Ab rfl<|AI ?_
 exact ⟨Bw (by unfold Nk;have:=Rf n;simp_all <;> omega),rfl⟩
 have c:=dF b
 refine Ac b<|A1 (.pkF rfl b rfl)<|A3 rfl<|Ac rfl<|Ac rfl<|Ac rfl<|A1 (.pkF rfl rfl rfl)<|Ab rfl<|AI ?_
 exact ⟨Bw (by unfold Nk;have:=Rf n;simp_all <;> omega),rfl⟩
def BP (x:BH):Bool:=Am x.fX && Am x.fY
def Hu (x:BH):Bool:=decide (x.fX=0) && decide (x.fY=0)
theorem KC (x:BH) (w:World):C9 33 #[.agg (D4 x).toArray] w (.bool (BP x)):=by
 refine Av func33 rfl ntmps33 ?_
 have f:=DR w
 refine A5<|D5 rfl rfl (λm l g b d k=>?_)
 have c:=uB f g d
 refine Ab rfl<|A5<|A1 (.fa CQ rfl B6 dD rfl)<|Ai (Af (BE _) rfl b rfl)<|As (Gs _ _) (λo i=>?_)
 obtain rfl:=i
 refine A3 rfl<|B5 rfl rfl rfl (λa=>?_) (λa=>?_)
 refine A1 (.fa CQ rfl B6 dD rfl)<|Au a<|Ai (Af (BE _) rfl b rfl)<|Au a<|As (Gs _ _) (λq j=>?_)
 obtain rfl:=j
 refine A1 (.pkT rfl a rfl)<|Ab rfl<|AI ?_
 exact ⟨Bw (by unfold BP;simp_all),c⟩
 refine Ac a<|Ac a<|A1 (.pkF rfl a rfl)<|Ab rfl<|AI ?_
 exact ⟨Bw (by unfold BP;simp_all),c⟩
theorem Ye (x:BH) (w:World):C9 144 #[.agg (D4 x).toArray] w (.bool (!BP x)):=by
 refine Av func144 rfl ntmps144 ?_
 have f:=DR w
 refine A5<|D5 rfl rfl (λo m g b d l=>?_)
 have c:=uB f g d
 refine Ab rfl<|A5<|A1 (.fa CQ rfl B6 dD rfl)<|Ai (Af (BE _) rfl b rfl)<|As (Jd _ _) (λq i=>?_)
 obtain rfl:=i
 refine A1 (.not rfl)<|A3 rfl<|B5 rfl rfl rfl (λa=>?_) (λa=>?_)
 have j:=(nF a)
 refine A1 (.fa CQ rfl B6 dD rfl)<|EK rfl rfl rfl (by rw [(nF a)] <;> rfl)<|Ai (Af (BE _) rfl b rfl)<|EK rfl rfl rfl (by rw [(nF a)] <;> rfl)<|As (Jd _ _) (λs k=>?_)
 obtain rfl:=k
 refine EK rfl rfl rfl (by rw [(nF a)] <;> rfl)<|A1 (.not rfl)<|A1 (.pkF rfl (by rw [(nF a)] <;> rfl) rfl)<|Ab rfl<|AI ?_
 exact ⟨Bw (by unfold BP;simp_all),c⟩
 have j:=(nT a)
 refine EO rfl rfl rfl (by rw [(nT a)] <;> rfl)<|EO rfl rfl rfl (by rw [(nT a)] <;> rfl)<|EO rfl rfl rfl (by rw [(nT a)] <;> rfl)<|A1 (.pkT rfl (by rw [(nT a)] <;> rfl) rfl)<|Ab rfl<|AI ?_
 exact ⟨Bw (by unfold BP;simp_all),c⟩
def Hn (k:Int):Int:=if k=1\/k=2 then 1 else if k=3 then 3 else if k=4 then 0 else -1
def ON (k last:Int):Bool:=if k=1 then decide (last≠1) else decide (last≠0) && decide (last≠4)
theorem Pp (p:Option Addr) (l:List BH) (c:Nat) (w:World) (hr:Bi Ep w p l) (hl:l.length<=9223372036854775807) :
  C9 104 #[.slice p l.length c] w (.bool (l.all BP)):=by
 refine Av func104 rfl ntmps104 ?_
 have a:=DR w
 refine A5<|Ab rfl<|A5<|A3 rfl<|As (OF BQ p l c (λx=>!BP x) _ hr hl (λj h f _=>Ye _ _)) (λf b=>?_)
 have d:=DN a b
 refine A1 (.not rfl)<|Ab rfl<|AI ?_
 exact ⟨Bw (by rw [List.all_eq_not_any_not]),d⟩
end
section
theorem A55 {w:World} {b:Nat} {t:TypeId} {s:Cm} (h:Be w b (Iu s).toArray t) (a:Nat) (ha:a<=3) :
  Bi Ep w (some (if 3=a then (⟨b,1,none⟩:Addr) else (⟨b,1,none⟩:Addr).add (a * 2))) ([s.fP_0,s.fP_1,s.fP_2].drop a):=by
 refine Gl (λ_=>rfl) λk v hk=>?_
 have c:∀ i,w.cell? ⟨b,1+i+k,none⟩=((Iu s).drop (1+i))[k]?:=λi=>by rw [h.cell,List.getElem?_drop];simp
 obtain rfl | rfl | rfl | rfl:a=0\/a=1\/a=2\/a=3:=by omega
 ·
  show w.cell? (((⟨b,1,none⟩:Addr).add (0 * 2)).add k)=_
  rw [add_lit,add_lit,c];exact hk
 ·
  show w.cell? (((⟨b,1,none⟩:Addr).add (1 * 2)).add k)=_
  rw [add_lit,add_lit,c];exact hk
 ·
  show w.cell? (((⟨b,1,none⟩:Addr).add (2 * 2)).add k)=_
  rw [add_lit,add_lit,c];exact hk
 · simp [Fq.flat] at hk
def HV (s:Cm) (last:Int):Bool:=decide (0<=Hn s.fKind) && ON s.fKind last && [s.fP_0,s.fP_1,s.fP_2].all BP && ([s.fP_0,s.fP_1,s.fP_2].drop (Hn s.fKind).toNat).all Hu
def DE:Int->List Cm->Bool
 | _,[]=>true
 | k,s::r=>HV s k && DE s.fKind r
def EZ (l:List Cm):Bool:=decide (l.length<=4096) && DE 0 l
theorem XL (k:Int) (l:List Cm) (i:Nat) (h:i<l.length):DE k (l.drop i)=(HV l[i] k && DE l[i].fKind (l.drop (i+1))):=by rw [Ar h];rfl
end
section
open Go.RowKit Go.WideShapes Go.ChangeShapes
theorem Ns:∀ (xs ys:List Int),xs.length=ys.length->((List.range xs.length).all λi=>xs.getD i 0 == ys.getD i 0)=(xs == ys)
 | [],[],_=>rfl
 | x::xs,y::ys,h=>by
  have ih:=Ns xs ys (by simpa using h)
  rw [A8,List.range_succ_eq_map,B8,List.all_map]
  simp only [List.getD_cons_zero,Function.comp_def,List.getD_cons_succ,ih]
  simp [List.cons_beq_cons]
 | [],_::_,h=>by simp at h
 | _::_,[],h=>by simp at h
def JX (n:Int):Value:=Ah n
theorem H8 {P:Program} (w:World) (d:Nat) (t e:TypeId) (n:Nat) (ht:P.underlying t=some (.array n e)) (he:P.underlying e=some (.int .i64)) (hsz:∀ w,(sizeOf e).run P w=.ok 1 w)
  (xs ys:List Int) (hx:xs.length=n) (hy:ys.length=n) :
  (Op.equalIn (d+2) t (.agg (xs.map JX).toArray) (.agg (ys.map JX).toArray)).run P w=.ok (xs == ys) w:=by
 rw [<- Ns xs ys (hx.trans hy.symm),hx,List.range_eq_range',Op.equalIn]
 simp only [Bq,B7 ht,AX,hsz,Std.Legacy.Range.forIn_eq_forIn_range',Std.Legacy.Range.size,Nat.sub_zero,Nat.add_sub_cancel,Nat.div_one]
 have hl:∀ i∈List.range' 0 n 1,i<n:=λi hi=>by simpa using (List.mem_range'_1.1 hi).2
 generalize List.range' 0 n 1=l at hl ⊢
 induction l with
 | nil=>simp
 | cons i l ih =>
  have hi:i<n:=hl i (by simp)
  have px:(part e (xs.map JX).toArray (i * 1)).run P w=.ok (JX (xs.getD i 0)) w:=by
   simp [part,isAgg,B7 he,List.getD,A6 (show i<xs.length by omega)]
  have py:(part e (ys.map JX).toArray (i * 1)).run P w=.ok (JX (ys.getD i 0)) w:=by
   simp [part,isAgg,B7 he,List.getD,A6 (show i<ys.length by omega)]
  have pe:(Op.equalIn (d+1) e (JX (xs.getD i 0)) (JX (ys.getD i 0))).run P w=.ok (xs.getD i 0 == ys.getD i 0) w:=by
   rw [JX,JX,run_equalIn_int w d e .i64 .i64 _ _ he]
  simp only [List.forIn_cons,Bq,px,py,pe,AX,B8]
  cases hb:(xs.getD i 0 == ys.getD i 0)
  · simp
  ·
   simp only [Bool.not_true,BN,if_false,CC,AX,BV]
   exact ih λj hj=>hl j (by simp [hj])
theorem Uz {P:Program} (w:World) (t e:TypeId) (n:Nat) (ht:P.underlying t=some (.array n e)) (he:P.underlying e=some (.int .i64)) (hsz:∀ w,(sizeOf e).run P w=.ok 1 w)
  (xs ys:List Int) (hx:xs.length=n) (hy:ys.length=n) :
  (binOp .neq t (.agg (xs.map JX).toArray) (.agg (ys.map JX).toArray)).run P w=.ok (.bool (!(xs == ys))) w:=by
 rw [run_neq_struct,H8 w 9998 t e n ht he hsz xs ys hx hy]
 rfl
section
variable {P:Program} {n:Sh} {f:Fr}
theorem BM.ixr {tx e:TypeId} {x y:Operand} {p:Addr} {m sz:Nat} {i:Int} {k:IntKind} (hu:P.underlying tx=some (.array m e)) (hs:∀ w,(sizeOf e).run P w=.ok sz w) (hx:D3 f x=some (.pointer (some p)))
  (hi:D3 f y=some (.int k i)) (j:Nat) (e':i=j) (hj:j<m):BM P (.indexAddr tx x y) f (.pointer (some (p.add (j * sz)))):=λρ hρ d ty pos aft g w=>by
 subst e'
 simp [execOp,Instr.indexAt,Instr.sureAddr,hρ _ _ hx,hρ _ _ hi,asIntOf,B7 hu,hs,hj]
theorem BM.ixr1 {tx e:TypeId} {x y:Operand} {p:Addr} {m:Nat} {i:Int} {k:IntKind} (hu:P.underlying tx=some (.array m e)) (hs:∀ w,(sizeOf e).run P w=.ok 1 w) (hx:D3 f x=some (.pointer (some p)))
  (hi:D3 f y=some (.int k i)) (j:Nat) (e':i=j) (hj:j<m):BM P (.indexAddr tx x y) f (.pointer (some (p.add j))):=by
 have h:=BM.ixr (P:=P) (f:=f) hu hs hx hi j e' hj
 rwa [Nat.mul_one] at h
theorem Cx {α:Type} {L:Fq α} {t tb:TypeId} {x:Operand} {b o:Nat} {cs:Array Value} {w:World} {dd:TypeDesc} (hu:P.underlying t=some dd) (hdd:dd.isRow=true) (hi:(P.info? t).map (·.size)=some L.m) (hb:Be w b cs tb) (y:α)
  (e:(cs.toList.drop o).take L.m=L.V y) (hx:D3 f x=some (.pointer (some ⟨b,o,none⟩))):Rd P (.load t x) f w (.agg (L.V y).toArray):=by
 have hr:Bi L w (some ⟨b,o,none⟩) [y]:=by
  refine Gl (λ_=>rfl) λk v hk=>?_
  show w.cell? ((⟨b,o,none⟩:Addr).add k)=_
  have hk':(L.V y)[k]?=some v:=by simpa [Fq.flat] using hk
  have a:k<L.m:=by
   rcases BL k L.m with h | h
   · exact h
   · rw [AO (by rw [L.len];exact h)] at hk';cases hk'
  rw [add_lit,hb.cell,<- hk',<- e,List.getElem?_take_of_lt a,List.getElem?_drop]
  simp
 have h:=Dy (P:=P) (f:=f) (x:=x) hu hdd hi hr 0 (by simp) (by
  rw [hx];show _=some (Value.pointer (some ((⟨b,o,none⟩:Addr).add (0 * L.m))));rw [add_lit,Nat.zero_mul,Nat.add_zero])
 exact h
theorem A8b {α β:Type} {L:Fq α} {L':Fq β} {t:TypeId} {x:Operand} {p:Option Addr} {l:List α} {w:World} {dd:TypeDesc} (hu:P.underlying t=some dd) (hdd:dd.isRow=true) (hi:(P.info? t).map (·.size)=some L'.m) (hb:Bi L w p l) (k:Nat) (hk:k<l.length) (o:Nat) (y:β)
  (e:((L.V l[k]).drop o).take L'.m=L'.V y) (hx:D3 f x=some (.pointer (some (((pA p).add (k * L.m)).add o)))):Rd P (.load t x) f w (.agg (L'.V y).toArray):=by
 have hr:Bi L' w (some (((pA p).add (k * L.m)).add o)) [y]:=by
  refine Gl (λ_=>rfl) λj v hj=>?_
  show w.cell? ((((pA p).add (k * L.m)).add o).add j)=_
  have hj':(L'.V y)[j]?=some v:=by simpa [Fq.flat] using hj
  have a:j<L'.m:=by
   rcases BL j L'.m with h | h
   · exact h
   · rw [AO (by rw [L'.len];exact h)] at hj';cases hj'
  have b:o+j<L.m:=by
   rcases BL (o+j) L.m with h | h
   · exact h
   · rw [<- e,List.getElem?_take_of_lt a,List.getElem?_drop,AO (by rw [L.len];exact h)] at hj';cases hj'
  rw [JI,hb.field k hk (o+j) b,<- hj',<- e,List.getElem?_take_of_lt a,List.getElem?_drop]
 have h:=Dy (P:=P) (f:=f) (x:=x) hu hdd hi hr 0 (by simp) (by
  rw [hx];show _=some (Value.pointer (some ((((pA p).add (k * L.m)).add o).add (0 * L'.m))));rw [Nat.zero_mul,JI,JI,Nat.add_zero])
 exact h
end
end
section
def okP (s:Cm) (j:Nat) (hj:j < [s.fP_0,s.fP_1,s.fP_2].length):Bool:=BP ([s.fP_0,s.fP_1,s.fP_2][j]) && (decide ((j:Int)<Hn s.fKind) || Hu ([s.fP_0,s.fP_1,s.fP_2][j]))
theorem Rg (k:Int):Hn k=0\/Hn k=1\/Hn k=3\/Hn k=-1:=by unfold Hn;split;simp;split;simp;split <;> simp
theorem A7q {s:Cm} {j:Nat} {k:Int} (hj:j < [s.fP_0,s.fP_1,s.fP_2].length) (h:okP s j hj=false):HV s k=false:=by
 have a:=Rg s.fKind
 have hj':j<3:=hj
 unfold okP at h;unfold HV
 obtain rfl | rfl | rfl:j=0\/j=1\/j=2:=by omega
 all_goals (rcases a with e | e | e | e <;> rw [e] at h ⊢ <;> simp at h ⊢ <;> (intros;simp_all))
theorem A5r {s:Cm} {k:Int} (hn:0<=Hn s.fKind) (h:∀ j (hj:j < [s.fP_0,s.fP_1,s.fP_2].length),okP s j hj=true):HV s k=ON s.fKind k:=by
 have d:=Rg s.fKind
 have a:=h 0 (by simp);have b:=h 1 (by simp);have c:=h 2 (by simp)
 unfold okP at a b c;unfold HV
 rcases d with e | e | e | e <;> rw [e] at a b c hn ⊢ <;> simp at a b c hn ⊢ <;> simp_all
def LV (l:List Cm) (i:Nat):Int:=if i=0 then 0 else ((l[i-1]?).map Cm.fKind).getD 0
theorem S3 {l:List Cm} {i:Nat} (h:i<l.length):LV l (i+1)=l[i].fKind:=by unfold LV;rw [A2 oO];simp [A6 h]
theorem A1a {l:List Cm} {i:Nat} (h:i<l.length) (h0:0<i):LV l i=(l[i-1]'oO).fKind:=by
 obtain ⟨j,rfl⟩:∃ j,i=j+1:=⟨i-1,oO⟩
 exact S3 oO
theorem A5W (k last:Int):ON k last=(!(decide (k=1) && decide (last=1)) && !(!decide (k=1) && (decide (last=0) || decide (last=4)))):=by
 unfold ON;by_cases h:k=1 <;> simp [h]
theorem I9 {w:World} {b:Nat} {t:TypeId} {s:Cm} (h:Be w b (Iu s).toArray t):Bi Ep w (some ⟨b,1,none⟩) [s.fP_0,s.fP_1,s.fP_2]:=A55 h 0 dD
theorem Nl (p : Option Addr) (l : List Cm) (c : Nat) (w : World) (hr : Bi EX w p l) (hl : l.length ≤ 9223372036854775807) :
    C9 20 #[.slice p l.length c] w (.bool (EZ l)):=by
  have az:0<l.length->(pA p).block<w.heap.size:=λq=>hr.lt q
  refine Av func20 rfl ntmps20 ?_;have a3:=DR w;refine A5<|Ab rfl<|Aj<|A5<|A3 rfl<|A1 (.lenS Fk rfl)<|A1 (.gtr rfl rfl)<|A0<|Ae rfl (λh1=>?_) (λh1=>?_)
  · have ak := dT h1
    refine A5<|Ab rfl<|AI ?_;exact ⟨Bw (by unfold EZ;rw [An oO,IC]),a3⟩
  have ak:=dF h1;have h4:l.length<=4096:=by omega
  refine Ap<|Aj<|A5<|Ab rfl<|AU<|Cf (α:=Nat) (λt=>[(0,.slice p l.length c),(3,Ah (t:Int))]) (λt w'=>AD w w'/\Bi EX w' p l/\t<=l.length/\DE (LV l t) (l.drop t)=DE 0 l) (λt=>l.length-t) (0) ⟨rfl,rfl,tT⟩ (⟨a3,hr,G8 _,rfl⟩) (λt F hR=>?_);obtain ⟨i,rfl⟩:=eX t;obtain ⟨hT,hb1,hi,hz⟩:=hR;refine Aj<|A5<|A3 rfl<|A3 rfl<|A1 (.lenS Fk rfl)<|A1 (.lss rfl rfl)<|A0<|Ae rfl (λG=>?_) (λG=>?_)
  · have am := dT G
    have H:i<l.length:=by omega
    have v:=XL (LV l i) l i H;refine Ap<|Aj<|AU<|A5<|A3 rfl<|A3 rfl<|A1 (.ixm Fk K5 rfl rfl (hb1.isp oO) (i) (rfl) oO)<|Ai (Dy I3 rfl Jb hb1 (i) oO rfl)<|C1 Nv rfl (λE aC J a7 K aA=>?_);have L:=λq=>J▸hb1.lt q
    have an:=Bi.upd hb1 K (λq=>IU (L q));have ao:=uB hT J K;have ay:=DW J hT.size;refine AH rfl rfl a7 Jb rfl rfl (λw7 P Q aB=>?_);have ap:=Bi.upd an Q (λq=>IU (L q));have a4:=CP ao oO Q;refine A0<|A5<|Ab rfl<|De (α:=Unit) (λt=>[(0,.slice p l.length c),(3,Ah (i:Int)),(4,ptV E),(5,Ah (Hn l[i].fKind))]) (λt w'=>w7=w'/\0<=Hn l[i].fKind) ?_ (λt F hR=>?_);refine A5<|A1 (.fa I3 rfl B6 dD rfl)<|Ai (Af (BE _) rfl P rfl)<|A0<|AU<|Aj<|A5<|A1 (.eql rfl rfl)<|Ab rfl<|Ae rfl (λB=>?_) (λB=>?_)
    · have a8 := dT B
      refine Ap<|E3 rfl B<|Ap ?_
      (have e : Hn l[i].fKind = 1 := by unfold Hn; first | rw [A7 (.inl aS)] | rw [A7 (.inr aS)]
       exact ⟨(),⟨rfl,rfl,rfl,M5 rfl e.symm,tT⟩,rfl,oO⟩)
    have a8:=dF B;refine Ak<|A1 (.eql rfl rfl)<|Ab rfl<|Ae rfl (λT=>?_) (λT=>?_)
    · have a9 := dT T
      refine Ap ?_
      (have e : Hn l[i].fKind = 1 := by unfold Hn; first | rw [A7 (.inl aS)] | rw [A7 (.inr aS)]
       exact ⟨(),⟨rfl,rfl,rfl,M5 rfl e.symm,tT⟩,rfl,oO⟩)
    have a9:=dF T;refine A5<|A1 (.eql rfl rfl)<|Ab rfl<|Ae rfl (λV=>?_) (λV=>?_)
    · have aa := dT V
      refine Ak<|Ab rfl ?_
      (have e : Hn l[i].fKind = 3 := by unfold Hn; rw [A2 oO, A7 aS]
       exact ⟨(),⟨rfl,rfl,rfl,M5 rfl e.symm,tT⟩,rfl,oO⟩)
    have aa:=dF V;refine A5<|A1 (.eql rfl rfl)<|Ab rfl<|Ae rfl (λX=>?_) (λX=>?_)
    · have ab := dT X
      refine Ak<|Ab rfl ?_
      (have e : Hn l[i].fKind = 0 := by unfold Hn; rw [A2 oO, A2 oO, A7 aS]
       exact ⟨(),⟨rfl,rfl,rfl,M5 rfl e.symm,tT⟩,rfl,oO⟩)
    have ab:=dF X;refine A5<|Ab rfl<|AI ?_;exact ⟨Bw (by
      have e:Hn l[i].fKind=-1:=by unfold Hn;rw [A2 oO,A2 oO,A2 oO]
      unfold EZ;rw [<- hz,v];unfold HV;rw [e];simp),a4⟩
    obtain ⟨rfl,aq⟩:=hR;refine Aj<|A5<|Ab rfl<|AU<|Cf (α:=Nat) (λt=>[(0,.slice p l.length c),(3,Ah (i:Int)),(4,ptV E),(5,Ah (Hn l[i].fKind)),(6,Ah (t:Int))]) (λt w'=>AD w w'/\Bi EX w' p l/\Be w' E (Iu l[i]).toArray 94/\t<=3/\∀ j (hj:j < [l[i].fP_0,l[i].fP_1,l[i].fP_2].length),j<t->okP l[i] j hj=true) (λt=>3-t) (0) ⟨rfl,rfl,rfl,rfl,rfl,tT⟩ (⟨a4,ap,P,dD,λj _ h=>D6 h oO⟩) (λt F hR=>?_);obtain ⟨k,rfl⟩:=eX t;obtain ⟨C,hb2,D,aD,a0⟩:=hR;refine Aj<|A5<|A3 rfl<|A1 (.lss rfl rfl)<|A0<|Ae rfl (λa1=>?_) (λa1=>?_)
    · have ac := dT a1
      have a5:k < [l[i].fP_0,l[i].fP_1,l[i].fP_2].length:=by simp;omega
      refine Ap<|Aj<|AU<|De (α:=Unit) (λt=>[(0,.slice p l.length c),(3,Ah (i:Int)),(4,ptV E),(5,Ah (Hn l[i].fKind)),(6,Ah (k:Int)),(60,.bool (!okP l[i] k a5))]) (λt w'=>AD w w'/\Bi EX w' p l/\Be w' E (Iu l[i]).toArray 94) ?_ (λt F hR=>?_);refine Ak<|A3 rfl<|A1 (.fa I3 rfl Ux dD rfl)<|A1 (.ixr K4 Fa rfl rfl (k) (rfl) oO)<|Ai (Dy CQ rfl Cb (I9 D) (k) oO rfl)<|As (KC ([l[i].fP_0,l[i].fP_1,l[i].fP_2][k]) _) (λaE x=>?_);have g:=D.bl x;have s:=Is hb2 x (λq=>hb2.lt q);have u:=DN C x;refine A1 (.not rfl)<|A3 rfl<|B5 rfl rfl rfl (λb=>?_) (λb=>?_)
      · have ad := (nF b)
        refine A3 rfl<|EK rfl rfl rfl (by rw [(nF b)] <;> rfl)<|A3 rfl<|EK rfl rfl rfl (by rw [(nF b)] <;> rfl)<|A1 (.geq rfl rfl)<|EK rfl rfl rfl (by rw [(nF b)] <;> rfl)<|A3 rfl<|B5 rfl rfl rfl (λa=>?_) (λa=>?_)
        · have ae := dT a
          refine A3 rfl<|Au a<|A1 (.fa I3 rfl Ux dD rfl)<|Au a<|A1 (.ixr K4 Fa rfl rfl (k) (rfl) oO)<|Au a<|A1 (.fa CQ rfl B6 dD rfl)<|Au a<|Ai (AS (BE _) rfl (((I9 g).field (k) oO 0 dD).trans rfl))<|Au a<|A1 (.neq rfl rfl)<|Au a<|A3 rfl<|B5 rfl rfl rfl (λd=>?_) (λd=>?_)
          · have af := Kk d
            refine A3 rfl<|Au d<|A1 (.fa I3 rfl Ux dD rfl)<|Au d<|A1 (.ixr K4 Fa rfl rfl (k) (rfl) oO)<|Au d<|A1 (.fa CQ rfl B6 dD rfl)<|Au d<|Ai (AS (BE _) rfl (((I9 g).field (k) oO 1 dD).trans rfl))<|Au d<|A1 (.neq rfl rfl)<|Au a<|A1 (.pkF rfl d rfl)<|EK rfl rfl rfl (by rw [(nF b)] <;> rfl)<|A1 (.pkT rfl a rfl)<|A1 (.pkF rfl (by rw [(nF b)] <;> rfl) rfl)<|A0<|?_;exact ⟨(),⟨rfl,rfl,rfl,rfl,rfl,CD rfl (by unfold okP Hu;simp_all <;> omega),tT⟩,u,s,g⟩
          have af:=Kj d;refine Ac d<|Ac d<|Ac d<|Ac d<|Ac d<|Au a<|A1 (.pkT rfl d rfl)<|EK rfl rfl rfl (by rw [(nF b)] <;> rfl)<|A1 (.pkT rfl a rfl)<|A1 (.pkF rfl (by rw [(nF b)] <;> rfl) rfl)<|A0<|?_;exact ⟨(),⟨rfl,rfl,rfl,rfl,rfl,CD rfl (by unfold okP Hu;simp_all <;> omega),tT⟩,u,s,g⟩
        have ae:=dF a;refine Ac a<|Ac a<|Ac a<|Ac a<|Ac a<|Ac a<|G9<|G9<|G9<|G9<|G9<|G9<|Ac a<|EK rfl rfl rfl (by rw [(nF b)] <;> rfl)<|A1 (.pkF rfl a rfl)<|A1 (.pkF rfl (by rw [(nF b)] <;> rfl) rfl)<|A0<|?_;exact ⟨(),⟨rfl,rfl,rfl,rfl,rfl,CD rfl (by unfold okP Hu;simp_all <;> omega),tT⟩,u,s,g⟩
      have ad:=(nT b);refine EO rfl rfl rfl (by rw [(nT b)] <;> rfl)<|EO rfl rfl rfl (by rw [(nT b)] <;> rfl)<|EO rfl rfl rfl (by rw [(nT b)] <;> rfl)<|G9<|G9<|G9<|G9<|G9<|G9<|G9<|G9<|G9<|G9<|G9<|G9<|G9<|G9<|EO rfl rfl rfl (by rw [(nT b)] <;> rfl)<|A1 (.pkT rfl (by rw [(nT b)] <;> rfl) rfl)<|A0<|?_;exact ⟨(),⟨rfl,rfl,rfl,rfl,rfl,CD rfl (by unfold okP Hu;simp_all <;> omega),tT⟩,u,s,g⟩;obtain ⟨a6,ar,au⟩:=hR;refine Ae rfl (λav=>?_) (λav=>?_);refine A5<|Ab rfl<|AI ?_;exact ⟨Bw (by unfold EZ;rw [<- hz,v,A7q (k:=LV l i) a5 (by simp_all),IC,Nu]),a6⟩;refine Ap<|Ak<|A3 rfl<|A1 (.iis (((k+1:Nat):Int)) (.add rfl rfl (Bn oO)) oO)<|Ab rfl ?_;exact ⟨k+1,⟨rfl,rfl,rfl,rfl,rfl,tT⟩,⟨a6,ar,au,oM,λj hj h=>by
        rcases Cp.1 h with G | rfl
        · exact a0 j hj G
        · simp_all⟩,oM⟩
    have ac:=dF a1;have y:=A5r (k:=LV l i) aq (λj hj=>a0 j hj (by simp at hj;omega));refine C7<|A5<|Ab rfl<|De (α:=Unit) (λt=>[(0,.slice p l.length c),(3,Ah (i:Int)),(4,ptV E),(7,Ah (LV l i))]) (λt w'=>F=w') ?_ (λt F hR=>?_);refine A5<|A3 rfl<|A1 (.gtr rfl rfl)<|A0<|Ae rfl (λa2=>?_) (λa2=>?_)
    · have ag := dT a2
      refine Ak<|A3 rfl<|A3 rfl<|A1 (.iis (((i-1:Nat):Int)) (.sub rfl rfl (Bn oO)) oO)<|A1 (.ixm Fk K5 rfl rfl (hb2.isp oO) (i-1) (rfl) oO)<|A1 (.fa I3 rfl B6 dD rfl)<|Ai (AS (BE _) rfl ((hb2.field (i-1) oO 0 dD).trans rfl))<|Ab rfl ?_;exact ⟨(),⟨rfl,rfl,rfl,M5 rfl (A1a H oO).symm,tT⟩,rfl⟩
    have ag:=dF a2;refine Ap ?_;exact ⟨(),⟨rfl,rfl,rfl,M5 rfl (by rw [show i=0 by omega];rfl),tT⟩,rfl⟩;obtain rfl:=hR;refine Aj ?_;have A:=A5W l[i].fKind (LV l i);refine Fx 75 (decide (l[i].fKind=1) && decide (LV l i=1)) ?_ ?_;refine Ak<|A1 (.fa I3 rfl B6 dD rfl)<|Ai (Af (BE _) rfl D rfl)<|A1 (.eql rfl rfl)<|A3 rfl<|B5 rfl rfl rfl (λm=>?_) (λm=>?_)
    · have ah := dT m
      refine A3 rfl<|Au m<|A1 (.eql rfl rfl)<|A1 (.pkT rfl m rfl)<|A0<|?_;exact ⟨Gm (CD rfl (by simp_all)),rfl⟩
    have ah:=dF m;refine Ac m<|A1 (.pkF rfl m rfl)<|A0<|?_;exact ⟨Gm (CD rfl (by simp_all)),rfl⟩;refine Ae rfl (λaw=>?_) (λaw=>?_);refine A5<|Ab rfl<|AI ?_;exact ⟨Bw (by unfold EZ;rw [<- hz,v,y,A];first | (simp_all;done) | (simp_all <;> (intros;omega))),C⟩;refine Ap<|Fx 86 (!decide (l[i].fKind=1) && (decide (LV l i=0) || decide (LV l i=4))) ?_ ?_;refine Ak<|A1 (.fa I3 rfl B6 dD rfl)<|Ai (Af (BE _) rfl D rfl)<|A1 (.neq rfl rfl)<|A3 rfl<|B5 rfl rfl rfl (λf=>?_) (λf=>?_)
    · have ai := Kj f
      refine A3 rfl<|Au f<|A1 (.eql rfl rfl)<|Au f<|A3 rfl<|B5 rfl rfl rfl (λo=>?_) (λo=>?_)
      · have aj := dF o
        refine A3 rfl<|Au o<|A1 (.eql rfl rfl)<|Au f<|A1 (.pkF rfl o rfl)<|A1 (.pkT rfl f rfl)<|A0<|?_;exact ⟨Gm (CD rfl (by simp_all)),rfl⟩
      have aj:=dT o;refine Ac o<|Au f<|A1 (.pkT rfl o rfl)<|A1 (.pkT rfl f rfl)<|A0<|?_;exact ⟨Gm (CD rfl (by simp_all)),rfl⟩
    have ai:=Kk f;refine Ac f<|Ac f<|G9<|G9<|Ac f<|A1 (.pkF rfl f rfl)<|A0<|?_;exact ⟨Gm (CD rfl (by simp_all)),rfl⟩;refine Ae rfl (λax=>?_) (λax=>?_);refine A5<|Ab rfl<|AI ?_;exact ⟨Bw (by unfold EZ;rw [<- hz,v,y,A];first | (simp_all;done) | (simp_all <;> (intros;omega))),C⟩;refine Ap<|Ak<|A3 rfl<|A1 (.iis (((i+1:Nat):Int)) (.add rfl rfl (Bn oO)) oO)<|Ab rfl ?_;exact ⟨i+1,⟨rfl,rfl,tT⟩,⟨C,hb2,oM,by rw [S3 H,<- hz,v,y,A];simp_all <;> (intros;omega)⟩,oM⟩
  have am:=dF G;refine C7<|A5<|Ab rfl<|AI ?_;exact ⟨Bw (by unfold EZ;rw [<- hz,Bf oO,Al h4];rfl),hT⟩
end
section
def Ki (x:DP):Bool:=decide (x.fWidth=0) && decide (x.fCap=0) && decide (x.fJoin=0) && decide (x.fMiter=0) && decide ((x.fDash.length:Int)=0) && decide (x.fPhase=0)
def KS (x:DP):Bool:=decide (x.fWidth<0) || !Am x.fWidth || decide (x.fCap<0) || decide (x.fCap > 2) || decide (x.fJoin<0) || decide (x.fJoin > 2) || decide (x.fMiter<65536) || !Am x.fMiter || decide (x.fPhase<0) || !Am x.fPhase || decide ((x.fDash.length:Int) > 11)
def IB (n:Int):Bool:=decide (0<=n) && Am n
def KT (x:DP):Bool:=!KS x && x.fDash.all IB && (x.fDash.isEmpty || x.fDash.any λn=>decide (0<n))
def A73 (l:List Int):Int:=l.foldl (· + ·) 0
theorem VA (l:List Int):A73 l=l.sum:=by
 unfold A73;rw [List.sum_eq_foldl]
theorem Pb:∀ (l:List Int),(∀ n∈l,IB n=true)->0<=l.sum/\l.sum<=2147483647 * (l.length:Int)/\(0<l.sum↔(l.any λn=>decide (0<n))=true)
 | [],_=>by simp
 | n::l,h=>by
  have h1:=Pb l λm hm=>h m (List.mem_cons_of_mem _ hm)
  have h2:=h n (List.mem_cons_self ..)
  simp only [IB,Am,A4,Ad] at h2
  obtain ⟨a,b,c⟩:=h1
  refine ⟨by simp only [List.sum_cons];omega,by simp only [List.sum_cons,A8];omega,?_⟩
  simp only [List.sum_cons,List.any_cons,BC,Ad]
  rw [<- c];omega
theorem Vb {α:Type} {q:α->Bool} {l:List α} (h:∀ j (hj:j<l.length),q l[j]=true):l.all q=true:=At.2 λx hx=>by
 obtain ⟨j,hj,rfl⟩:=List.mem_iff_getElem.1 hx
 exact h j hj
theorem QT {α:Type} {q:α->Bool} {l:List α} {j:Nat} (hj:j<l.length) (h:q l[j]=false):l.all q=false:=by
 rw [Kw];intro e
 rw [At.1 e _ (AM hj)] at h;cases h
end
section
theorem CY:(Tryz.prog.info? 42).map (·.size)=some 6:=by kernel_rfl
def Cy (c:Cj):List Int:=[c.fPart_0,c.fPart_1,c.fPart_2,c.fPart_3]
theorem MU {w:World} {b:Nat} {t:TypeId} {c:Cj} (h:Be w b (DV c).toArray t):AZ E5 w (some ⟨b,1,none⟩) (Cy c):=⟨λ_=>rfl,λj hj=>by
 show w.cell? ((⟨b,1,none⟩:Addr).add j)=_
 have h':j<4:=hj
 rw [add_lit,h.cell]
 obtain rfl | rfl | rfl | rfl:j=0\/j=1\/j=2\/j=3:=by omega
 all_goals rfl⟩
def Jl (n:Int):Bool:=!(!decide (n=1) && !decide (n=3) && !decide (n=4))
def Jw (c:Cj) (i:Nat) (h:i<(Cy c).length):Bool:=decide (0<=(Cy c)[i]) && decide ((Cy c)[i]<=65536) && (decide ((i:Int)<c.fSpace) || decide ((Cy c)[i]=0))
def Fw (c:Cj):Bool:=Jl c.fSpace && (Jw c 0 (by simp [Cy]) && Jw c 1 (by simp [Cy]) && Jw c 2 (by simp [Cy]) && Jw c 3 (by simp [Cy]))
theorem A1x {c:Cj} {i:Nat} (h:i<(Cy c).length) (e:Jw c i h=false):Fw c=false:=by
 have h':i<4:=h
 unfold Fw
 obtain rfl | rfl | rfl | rfl:i=0\/i=1\/i=2\/i=3:=by omega
 all_goals (rw [e];simp)
theorem YH {c:Cj} (hs:Jl c.fSpace=true) (h:∀ i (hi:i<(Cy c).length),Jw c i hi=true):Fw c=true:=by
 unfold Fw;rw [hs,h,h,h,h];rfl
theorem UC (x:DP) (w:World) (hr:AZ E5 w x.pfDash x.fDash):C9 22 #[.agg (Ex x).toArray] w (.bool (KT x)):=by
 have af:0<x.fDash.length->(pA x.pfDash).block<w.heap.size:=λD=>hr.lt D
 refine Av func22 rfl ntmps22 ?_
 have J:=DR w
 refine A5<|D5 rfl rfl (λb1 a5 E a F ag=>?_)
 have L:=λD=>E▸hr.lt D
 have u:=AZ.upd hr F (λD=>IU (L D))
 have G:=uB J E F
 have ae:=DW E J.size
 refine Ab rfl<|Aj<|Fx 61 (KS x) ?_ ?_
 refine Ak<|A1 (.fa D7 rfl B6 dD rfl)<|Ai (Af (BE _) rfl a rfl)<|A1 (.lss rfl rfl)<|A3 rfl<|B5 rfl rfl rfl (λs=>?_) (λs=>?_)
 have a6:=dF s
 refine A1 (.fa D7 rfl B6 dD rfl)<|Au s<|Ai (Af (BE _) rfl a rfl)<|Au s<|As (Gs _ _) (λw6 a7=>?_)
 obtain rfl:=a7
 refine Au s<|A1 (.not rfl)<|A1 (.pkF rfl s rfl)<|A3 rfl<|B5 rfl rfl rfl (λv=>?_) (λv=>?_)
 have a8:=(nF v)
 refine A1 (.fa D7 rfl B6 dD rfl)<|EK rfl rfl rfl (by rw [(nF v)] <;> rfl)<|Ai (Af (BE _) rfl a rfl)<|EK rfl rfl rfl (by rw [(nF v)] <;> rfl)<|A1 (.lss rfl rfl)<|A1 (.pkF rfl (by rw [(nF v)] <;> rfl) rfl)<|A3 rfl<|B5 rfl rfl rfl (λy=>?_) (λy=>?_)
 have a9:=dF y
 refine A1 (.fa D7 rfl B6 dD rfl)<|Au y<|Ai (Af (BE _) rfl a rfl)<|Au y<|A1 (.gtr rfl rfl)<|A1 (.pkF rfl y rfl)<|A3 rfl<|B5 rfl rfl rfl (λB=>?_) (λB=>?_)
 have aa:=dF B
 refine A1 (.fa D7 rfl B6 dD rfl)<|Au B<|Ai (Af (BE _) rfl a rfl)<|Au B<|A1 (.lss rfl rfl)<|A1 (.pkF rfl B rfl)<|A3 rfl<|B5 rfl rfl rfl (λk=>?_) (λk=>?_)
 have P:=dF k
 refine A1 (.fa D7 rfl B6 dD rfl)<|Au k<|Ai (Af (BE _) rfl a rfl)<|Au k<|A1 (.gtr rfl rfl)<|A1 (.pkF rfl k rfl)<|A3 rfl<|B5 rfl rfl rfl (λm=>?_) (λm=>?_)
 have Q:=dF m
 refine A1 (.fa D7 rfl B6 dD rfl)<|Au m<|Ai (Af (BE _) rfl a rfl)<|Au m<|A1 (.lss rfl rfl)<|A1 (.pkF rfl m rfl)<|A3 rfl<|B5 rfl rfl rfl (λd=>?_) (λd=>?_)
 have T:=dF d
 refine A1 (.fa D7 rfl B6 dD rfl)<|Au d<|Ai (Af (BE _) rfl a rfl)<|Au d<|As (Gs _ _) (λah U=>?_)
 obtain rfl:=U
 refine Au d<|A1 (.not rfl)<|A1 (.pkF rfl d rfl)<|A3 rfl<|B5 rfl rfl rfl (λo=>?_) (λo=>?_)
 have V:=(nF o)
 refine A1 (.fa D7 rfl B6 dD rfl)<|EK rfl rfl rfl (by rw [(nF o)] <;> rfl)<|Ai (Af (BE _) rfl a rfl)<|EK rfl rfl rfl (by rw [(nF o)] <;> rfl)<|A1 (.lss rfl rfl)<|A1 (.pkF rfl (by rw [(nF o)] <;> rfl) rfl)<|A3 rfl<|B5 rfl rfl rfl (λf=>?_) (λf=>?_)
 have X:=dF f
 refine A1 (.fa D7 rfl B6 dD rfl)<|Au f<|Ai (Af (BE _) rfl a rfl)<|Au f<|As (Gs _ _) (λai a0=>?_)
 obtain rfl:=a0
 refine Au f<|A1 (.not rfl)<|A1 (.pkF rfl f rfl)<|A3 rfl<|B5 rfl rfl rfl (λg=>?_) (λg=>?_)
 have a1:=(nF g)
 refine A1 (.fa D7 rfl HX dD rfl)<|EK rfl rfl rfl (by rw [(nF g)] <;> rfl)<|Ai (Af (L8 _) rfl a rfl)<|EK rfl rfl rfl (by rw [(nF g)] <;> rfl)<|A1 (.lenS Dm rfl)<|EK rfl rfl rfl (by rw [(nF g)] <;> rfl)<|A1 (.gtr rfl rfl)<|A1 (.pkF rfl (by rw [(nF g)] <;> rfl) rfl)<|A0<|?_
 exact ⟨Gm (CD rfl (by unfold KS;first | (simp_all;done) | (simp_all <;> (intros;omega)))),rfl⟩
 have a1:=(nT g)
 refine EO rfl rfl rfl (by rw [(nT g)] <;> rfl)<|EO rfl rfl rfl (by rw [(nT g)] <;> rfl)<|EO rfl rfl rfl (by rw [(nT g)] <;> rfl)<|A1 (.pkT rfl (by rw [(nT g)] <;> rfl) rfl)<|A0<|?_
 exact ⟨Gm (CD rfl (by unfold KS;first | (simp_all;done) | (simp_all <;> (intros;omega)))),rfl⟩
 have X:=dT f
 refine Ac f<|Ac f<|Ac f<|A1 (.pkT rfl f rfl)<|A3 rfl<|Ac rfl<|Ac rfl<|Ac rfl<|Ac rfl<|A1 (.pkT rfl rfl rfl)<|A0<|?_
 exact ⟨Gm (CD rfl (by unfold KS;first | (simp_all;done) | (simp_all <;> (intros;omega)))),rfl⟩
 have V:=(nT o)
 refine EO rfl rfl rfl (by rw [(nT o)] <;> rfl)<|EO rfl rfl rfl (by rw [(nT o)] <;> rfl)<|A1 (.pkT rfl (by rw [(nT o)] <;> rfl) rfl)<|A3 rfl<|Ac rfl<|Ac rfl<|Ac rfl<|Ac rfl<|A1 (.pkT rfl rfl rfl)<|A3 rfl<|Ac rfl<|Ac rfl<|Ac rfl<|Ac rfl<|A1 (.pkT rfl rfl rfl)<|A0<|?_
 exact ⟨Gm (CD rfl (by unfold KS;first | (simp_all;done) | (simp_all <;> (intros;omega)))),rfl⟩
 have T:=dT d
 refine Ac d<|Ac d<|Ac d<|A1 (.pkT rfl d rfl)<|A3 rfl<|Ac rfl<|Ac rfl<|Ac rfl<|A1 (.pkT rfl rfl rfl)<|A3 rfl<|Ac rfl<|Ac rfl<|Ac rfl<|Ac rfl<|A1 (.pkT rfl rfl rfl)<|A3 rfl<|Ac rfl<|Ac rfl<|Ac rfl<|Ac rfl<|A1 (.pkT rfl rfl rfl)<|A0<|?_
 exact ⟨Gm (CD rfl (by unfold KS;first | (simp_all;done) | (simp_all <;> (intros;omega)))),rfl⟩
 have Q:=dT m
 refine Ac m<|Ac m<|A1 (.pkT rfl m rfl)<|A3 rfl<|Ac rfl<|Ac rfl<|Ac rfl<|Ac rfl<|A1 (.pkT rfl rfl rfl)<|A3 rfl<|Ac rfl<|Ac rfl<|Ac rfl<|A1 (.pkT rfl rfl rfl)<|A3 rfl<|Ac rfl<|Ac rfl<|Ac rfl<|Ac rfl<|A1 (.pkT rfl rfl rfl)<|A3 rfl<|Ac rfl<|Ac rfl<|Ac rfl<|Ac rfl<|A1 (.pkT rfl rfl rfl)<|A0<|?_
 exact ⟨Gm (CD rfl (by unfold KS;first | (simp_all;done) | (simp_all <;> (intros;omega)))),rfl⟩
 have P:=dT k
 refine Ac k<|Ac k<|A1 (.pkT rfl k rfl)<|A3 rfl<|Ac rfl<|Ac rfl<|Ac rfl<|A1 (.pkT rfl rfl rfl)<|A3 rfl<|Ac rfl<|Ac rfl<|Ac rfl<|Ac rfl<|A1 (.pkT rfl rfl rfl)<|A3 rfl<|Ac rfl<|Ac rfl<|Ac rfl<|A1 (.pkT rfl rfl rfl)<|A3 rfl<|Ac rfl<|Ac rfl<|Ac rfl<|Ac rfl<|A1 (.pkT rfl rfl rfl)<|A3 rfl<|Ac rfl<|Ac rfl<|Ac rfl<|Ac rfl<|A1 (.pkT rfl rfl rfl)<|A0<|?_
 exact ⟨Gm (CD rfl (by unfold KS;first | (simp_all;done) | (simp_all <;> (intros;omega)))),rfl⟩
 have aa:=dT B
 refine Ac B<|Ac B<|A1 (.pkT rfl B rfl)<|A3 rfl<|Ac rfl<|Ac rfl<|Ac rfl<|A1 (.pkT rfl rfl rfl)<|A3 rfl<|Ac rfl<|Ac rfl<|Ac rfl<|A1 (.pkT rfl rfl rfl)<|A3 rfl<|Ac rfl<|Ac rfl<|Ac rfl<|Ac rfl<|A1 (.pkT rfl rfl rfl)<|A3 rfl<|Ac rfl<|Ac rfl<|Ac rfl<|A1 (.pkT rfl rfl rfl)<|A3 rfl<|Ac rfl<|Ac rfl<|Ac rfl<|Ac rfl<|A1 (.pkT rfl rfl rfl)<|A3 rfl<|Ac rfl<|Ac rfl<|Ac rfl<|Ac rfl<|A1 (.pkT rfl rfl rfl)<|A0<|?_
 exact ⟨Gm (CD rfl (by unfold KS;first | (simp_all;done) | (simp_all <;> (intros;omega)))),rfl⟩
 have a9:=dT y
 refine Ac y<|Ac y<|A1 (.pkT rfl y rfl)<|A3 rfl<|Ac rfl<|Ac rfl<|Ac rfl<|A1 (.pkT rfl rfl rfl)<|A3 rfl<|Ac rfl<|Ac rfl<|Ac rfl<|A1 (.pkT rfl rfl rfl)<|A3 rfl<|Ac rfl<|Ac rfl<|Ac rfl<|A1 (.pkT rfl rfl rfl)<|A3 rfl<|Ac rfl<|Ac rfl<|Ac rfl<|Ac rfl<|A1 (.pkT rfl rfl rfl)<|A3 rfl<|Ac rfl<|Ac rfl<|Ac rfl<|A1 (.pkT rfl rfl rfl)<|A3 rfl<|Ac rfl<|Ac rfl<|Ac rfl<|Ac rfl<|A1 (.pkT rfl rfl rfl)<|A3 rfl<|Ac rfl<|Ac rfl<|Ac rfl<|Ac rfl<|A1 (.pkT rfl rfl rfl)<|A0<|?_
 exact ⟨Gm (CD rfl (by unfold KS;first | (simp_all;done) | (simp_all <;> (intros;omega)))),rfl⟩
 have a8:=(nT v)
 refine EO rfl rfl rfl (by rw [(nT v)] <;> rfl)<|EO rfl rfl rfl (by rw [(nT v)] <;> rfl)<|A1 (.pkT rfl (by rw [(nT v)] <;> rfl) rfl)<|A3 rfl<|Ac rfl<|Ac rfl<|Ac rfl<|A1 (.pkT rfl rfl rfl)<|A3 rfl<|Ac rfl<|Ac rfl<|Ac rfl<|A1 (.pkT rfl rfl rfl)<|A3 rfl<|Ac rfl<|Ac rfl<|Ac rfl<|A1 (.pkT rfl rfl rfl)<|A3 rfl<|Ac rfl<|Ac rfl<|Ac rfl<|A1 (.pkT rfl rfl rfl)<|A3 rfl<|Ac rfl<|Ac rfl<|Ac rfl<|Ac rfl<|A1 (.pkT rfl rfl rfl)<|A3 rfl<|Ac rfl<|Ac rfl<|Ac rfl<|A1 (.pkT rfl rfl rfl)<|A3 rfl<|Ac rfl<|Ac rfl<|Ac rfl<|Ac rfl<|A1 (.pkT rfl rfl rfl)<|A3 rfl<|Ac rfl<|Ac rfl<|Ac rfl<|Ac rfl<|A1 (.pkT rfl rfl rfl)<|A0<|?_
 exact ⟨Gm (CD rfl (by unfold KS;first | (simp_all;done) | (simp_all <;> (intros;omega)))),rfl⟩
 have a6:=dT s
 refine Ac s<|Ac s<|Ac s<|A1 (.pkT rfl s rfl)<|A3 rfl<|Ac rfl<|Ac rfl<|Ac rfl<|A1 (.pkT rfl rfl rfl)<|A3 rfl<|Ac rfl<|Ac rfl<|Ac rfl<|A1 (.pkT rfl rfl rfl)<|A3 rfl<|Ac rfl<|Ac rfl<|Ac rfl<|A1 (.pkT rfl rfl rfl)<|A3 rfl<|Ac rfl<|Ac rfl<|Ac rfl<|A1 (.pkT rfl rfl rfl)<|A3 rfl<|Ac rfl<|Ac rfl<|Ac rfl<|A1 (.pkT rfl rfl rfl)<|A3 rfl<|Ac rfl<|Ac rfl<|Ac rfl<|Ac rfl<|A1 (.pkT rfl rfl rfl)<|A3 rfl<|Ac rfl<|Ac rfl<|Ac rfl<|A1 (.pkT rfl rfl rfl)<|A3 rfl<|Ac rfl<|Ac rfl<|Ac rfl<|Ac rfl<|A1 (.pkT rfl rfl rfl)<|A3 rfl<|Ac rfl<|Ac rfl<|Ac rfl<|Ac rfl<|A1 (.pkT rfl rfl rfl)<|A0<|?_
 exact ⟨Gm (CD rfl (by unfold KS;first | (simp_all;done) | (simp_all <;> (intros;omega)))),rfl⟩
 refine Ae rfl (λab=>?_) (λab=>?_)
 refine A5<|Ab rfl<|AI ?_
 exact ⟨Bw (by unfold KT;rw [show KS x=true by assumption];rfl),G⟩
 have hp:KS x=false:=by assumption
 refine Ap<|A5<|A1 (.fa D7 rfl HX dD rfl)<|Ai (Af (L8 _) rfl a rfl)<|A1 (.lenS Dm rfl)<|A1 (.eql rfl rfl)<|Ab rfl<|Aj<|A5<|Ab rfl<|AU<|Cf (α:=Nat) (λt=>[(1,ptV b1),(3,.bool (decide ((x.fDash.length:Int)=0) || (x.fDash.take t).any λn=>decide (0<n))),(4,Ah (t:Int))]) (λt w'=>a5=w'/\t<=x.fDash.length/\∀ j (hj:j<x.fDash.length),j<t->IB x.fDash[j]=true) (λt=>x.fDash.length-t) (0) ⟨rfl,CD rfl (by simp),rfl,tT⟩ (⟨rfl,G8 _,λj _ h=>D6 h oO⟩) (λt w1 hR=>?_)
 obtain ⟨i,rfl⟩:=eX t
 obtain ⟨rfl,hi,C⟩:=hR
 have aj:x.fDash.length<=11:=by simp only [KS,Ee,Aw] at hp;omega
 refine Aj<|A5<|A3 rfl<|A1 (.fa D7 rfl HX dD rfl)<|Ai (Af (L8 _) rfl a rfl)<|A1 (.lenS Dm rfl)<|A1 (.lss rfl rfl)<|A0<|Ae rfl (λH=>?_) (λH=>?_)
 have a2:=dT H
 have K:((x.fDash.take (i+1)).any λn=>decide (0<n))=(((x.fDash.take i).any λn=>decide (0<n)) || decide (0<x.fDash[i]'oO)):=by
  rw [List.take_add_one,A6 oO,Option.toList_some,List.any_append];simp
 refine Ap<|Aj<|AU<|Aj<|Fx 87 (!IB (x.fDash[i]'oO)) ?_ ?_
 refine Ak<|A1 (.fa D7 rfl HX dD rfl)<|Ai (Af (L8 _) rfl a rfl)<|A3 rfl<|A1 (.ixb Dm B6 rfl rfl (u.isp oO) (i) (rfl) oO)<|Ai (AS (BE _) rfl (u.cells (i) oO))<|A1 (.lss rfl rfl)<|A3 rfl<|B5 rfl rfl rfl (λb=>?_) (λb=>?_)
 have a3:=dF b
 refine A1 (.fa D7 rfl HX dD rfl)<|Au b<|Ai (Af (L8 _) rfl a rfl)<|Au b<|A3 rfl<|Au b<|A1 (.ixb Dm B6 rfl rfl (u.isp oO) (i) (rfl) oO)<|Au b<|Ai (AS (BE _) rfl (u.cells (i) oO))<|Au b<|As (Gs _ _) (λak a4=>?_)
 obtain rfl:=a4
 refine Au b<|A1 (.not rfl)<|A1 (.pkF rfl b rfl)<|A0<|?_
 exact ⟨Gm (CD rfl (by unfold IB;simp_all <;> omega)),rfl⟩
 have a3:=dT b
 refine Ac b<|Ac b<|Ac b<|Ac b<|Ac b<|Ac b<|A1 (.pkT rfl b rfl)<|A0<|?_
 exact ⟨Gm (CD rfl (by unfold IB;simp_all <;> omega)),rfl⟩
 refine Ae rfl (λac=>?_) (λac=>?_)
 refine A5<|Ab rfl<|AI ?_
 exact ⟨Bw (by unfold KT;rw [QT (q:=IB) (j:=i) oO (by simpa using (show (!IB (x.fDash[i]'oO))=true by assumption)),Nu,IC]),G⟩
 refine Ap<|Ak<|A3 rfl<|A3 rfl<|B5 rfl rfl rfl (λc=>?_) (λc=>?_)
 refine A1 (.fa D7 rfl HX dD rfl)<|Au c<|Ai (Af (L8 _) rfl a rfl)<|Au c<|A3 rfl<|Au c<|A1 (.ixb Dm B6 rfl rfl (u.isp oO) (i) (rfl) oO)<|Au c<|Ai (AS (BE _) rfl (u.cells (i) oO))<|Au c<|A1 (.gtr rfl rfl)<|A1 (.pkF rfl c rfl)<|Ab rfl<|Ak<|A3 rfl<|A1 (.iis (((i+1:Nat):Int)) (.add rfl rfl (Bn oO)) oO)<|Ab rfl ?_
 exact ⟨i+1,⟨rfl,CD rfl (by rw [K,<- Bool.or_assoc];generalize (decide ((x.fDash.length:Int)=0) || (x.fDash.take i).any λn=>decide (0<n))=A at *;simp_all),rfl,tT⟩,⟨rfl,oM,λj hj h=>by
  rcases Cp.1 h with h2 | rfl;exact C j hj h2
  simp_all⟩,oM⟩
 refine Ac c<|Ac c<|Ac c<|Ac c<|Ac c<|A1 (.pkT rfl c rfl)<|Ab rfl<|Ak<|A3 rfl<|A1 (.iis (((i+1:Nat):Int)) (.add rfl rfl (Bn oO)) oO)<|Ab rfl ?_
 exact ⟨i+1,⟨rfl,CD rfl (by rw [K,<- Bool.or_assoc];generalize (decide ((x.fDash.length:Int)=0) || (x.fDash.take i).any λn=>decide (0<n))=A at *;simp_all),rfl,tT⟩,⟨rfl,oM,λj hj h=>by
  rcases Cp.1 h with h2 | rfl;exact C j hj h2
  simp_all⟩,oM⟩
 have a2:=dF H
 have hd:=Vb (q:=IB) (l:=x.fDash) λj hj=>C j hj oO
 have ad:KT x=(x.fDash.isEmpty || x.fDash.any λn=>decide (0<n)):=by unfold KT;rw [hp,hd];rfl
 refine C7<|A5<|A3 rfl<|Ab rfl<|AI ?_
 exact ⟨Bw (by
  rw [ad,AR (show x.fDash.length<=i by omega)]
  congr 2;cases x.fDash <;> simp <;> omega),G⟩
end
section
theorem VS (p q:Option Addr) (l m:List Int) (c d:Nat) (w:World) (hra:AZ E5 w p l) (hrb:AZ E5 w q m) (hl:l.length<=9223372036854775807) :
  C9 38 #[.slice p l.length c,.slice q m.length d] w (.bool (decide (l=m))):=by
 refine Av func38 rfl ntmps38 ?_
 have f:=DR w
 refine A5<|Ab rfl<|Aj<|A5<|A3 rfl<|A1 (.lenS Dm rfl)<|A3 rfl<|A1 (.lenS Dm rfl)<|A1 (.neq rfl rfl)<|A0<|Ae rfl (λi=>?_) (λi=>?_)
 have o:=Kj i
 refine A5<|Ab rfl<|AI ?_
 exact ⟨Bw (by rw [An (λe=>by subst e;exact D6 rfl aS)]),f⟩
 have o:=Kk i
 refine Ap<|Aj<|A5<|Ab rfl<|AU<|Cf (α:=Nat) (λt=>[(0,.slice p l.length c),(1,.slice q m.length d),(5,Ah (t:Int))]) (λt w'=>AD w w'/\AZ E5 w' p l/\AZ E5 w' q m/\t<=l.length/\l.take t=m.take t) (λt=>l.length-t) (0) ⟨rfl,rfl,rfl,tT⟩ (⟨f,hra,hrb,G8 _,by simp⟩) (λt A hR=>?_)
 obtain ⟨s,rfl⟩:=eX t
 obtain ⟨hT,ha,hb,hs,a⟩:=hR
 refine Aj<|A5<|A3 rfl<|A3 rfl<|A1 (.lenS Dm rfl)<|A1 (.lss rfl rfl)<|A0<|Ae rfl (λj=>?_) (λj=>?_)
 have u:=dT j
 refine Ap<|Aj<|AU<|Aj<|Eg Ci kR<|AA (.mv rfl) rfl<|AA (.mv rfl) rfl<|AA (.ixb Dm B6 rfl rfl (ha.isp oO) (s) oO oO) rfl<|Du (λm=>AS (BE _) rfl ((ha.drewN m).cells (s) oO)) rfl<|AA (.mv rfl) rfl<|AA (.mv rfl) rfl<|AA (.ixb Dm B6 rfl rfl (hb.isp oO) (s) oO oO) rfl<|Du (λm=>AS (BE _) rfl ((hb.drewN m).cells (s) oO)) rfl<|AA (.neq rfl rfl) rfl<|Dk (λB b=>?_)
 have v:=ha.drew b
 have x:=hb.drew b
 have g:=Df.below hT b
 refine Ae rfl (λk=>?_) (λk=>?_)
 have y:=Kj k
 refine A5<|Ab rfl<|AI ?_
 exact ⟨Bw (by rw [An (λe=>by subst e;exact D6 rfl aS)]),g⟩
 have y:=Kk k
 refine Ap<|Ak<|A3 rfl<|A1 (.iis (((s+1:Nat):Int)) (.add rfl rfl (Bn oO)) oO)<|Ab rfl ?_
 exact ⟨s+1,⟨rfl,rfl,rfl,tT⟩,⟨g,v,x,oM,by
  rw [List.take_add_one,List.take_add_one,A6 oO,A6 oO,a]
  congr 3⟩,oM⟩
 have u:=dF j
 refine C7<|A5<|Ab rfl<|AI ?_
 exact ⟨Bw (by rw [Al (by rw [AR oO,AR oO] at a;exact a)]),hT⟩
def Hz (x y:DP):Bool:=decide (x.fWidth=y.fWidth) && decide (x.fCap=y.fCap) && decide (x.fJoin=y.fJoin) && decide (x.fMiter=y.fMiter) && decide (x.fDash=y.fDash) && decide (x.fPhase=y.fPhase)
theorem PT (x y:DP) (w:World) (hx:AZ E5 w x.pfDash x.fDash) (hy:AZ E5 w y.pfDash y.fDash) (hl:x.fDash.length<=9223372036854775807) :
  C9 21 #[.agg (Ex x).toArray,.agg (Ex y).toArray] w (.bool (Hz x y)):=by
 refine Av func21 rfl ntmps21 ?_
 have T:=DR w
 refine A5<|D5 rfl rfl (λb1 a1 s t m X=>?_)
 have D:=λg=>s▸hx.lt g
 have B:=AZ.upd hx m (λg=>IU (D g))
 have E:=λg=>s▸hy.lt g
 have C:=AZ.upd hy m (λg=>IU (E g))
 have U:=uB T s m
 refine D5 rfl rfl (λb7 a2 q i l a0=>?_)
 have V:=Bx q t.lt
 have k:=t.un l V
 have v:=λg=>q▸B.lt g
 have F:=AZ.upd B l (λg=>IU (v g))
 have A:=λg=>q▸C.lt g
 have G:=AZ.upd C l (λg=>IU (A g))
 have j:=uB U q l
 refine Ab rfl<|A5<|A1 (.fa D7 rfl B6 dD rfl)<|Ai (Af (BE _) rfl k rfl)<|A1 (.fa D7 rfl B6 dD rfl)<|Ai (Af (BE _) rfl i rfl)<|A1 (.eql rfl rfl)<|A3 rfl<|B5 rfl rfl rfl (λa=>?_) (λa=>?_)
 have H:=dT a
 refine A1 (.fa D7 rfl B6 dD rfl)<|Au a<|Ai (Af (BE _) rfl k rfl)<|Au a<|A1 (.fa D7 rfl B6 dD rfl)<|Au a<|Ai (Af (BE _) rfl i rfl)<|Au a<|A1 (.eql rfl rfl)<|A1 (.pkT rfl a rfl)<|A3 rfl<|B5 rfl rfl rfl (λb=>?_) (λb=>?_)
 have J:=dT b
 refine A1 (.fa D7 rfl B6 dD rfl)<|Au b<|Ai (Af (BE _) rfl k rfl)<|Au b<|A1 (.fa D7 rfl B6 dD rfl)<|Au b<|Ai (Af (BE _) rfl i rfl)<|Au b<|A1 (.eql rfl rfl)<|A1 (.pkT rfl b rfl)<|A3 rfl<|B5 rfl rfl rfl (λc=>?_) (λc=>?_)
 have K:=dT c
 refine A1 (.fa D7 rfl B6 dD rfl)<|Au c<|Ai (Af (BE _) rfl k rfl)<|Au c<|A1 (.fa D7 rfl B6 dD rfl)<|Au c<|Ai (Af (BE _) rfl i rfl)<|Au c<|A1 (.eql rfl rfl)<|A1 (.pkT rfl c rfl)<|A3 rfl<|B5 rfl rfl rfl (λd=>?_) (λd=>?_)
 have L:=dT d
 refine A1 (.fa D7 rfl HX dD rfl)<|Au d<|Ai (Af (L8 _) rfl k rfl)<|Au d<|A1 (.fa D7 rfl HX dD rfl)<|Au d<|Ai (Af (L8 _) rfl i rfl)<|Au d<|As (VS _ _ _ _ _ _ _ F G hl) (λa3 o=>?_)
 have P:=k.bl o
 have Q:=i.bl o
 have u:=DN j o
 refine A1 (.pkT rfl d rfl)<|A3 rfl<|B5 rfl rfl rfl (λf=>?_) (λf=>?_)
 refine A1 (.fa D7 rfl B6 dD rfl)<|Au f<|Ai (Af (BE _) rfl P rfl)<|Au f<|A1 (.fa D7 rfl B6 dD rfl)<|Au f<|Ai (Af (BE _) rfl Q rfl)<|Au f<|A1 (.eql rfl rfl)<|A1 (.pkT rfl f rfl)<|Ab rfl<|AI ?_
 exact ⟨Bw (by unfold Hz;simp_all),u⟩
 refine Ac f<|Ac f<|Ac f<|Ac f<|A1 (.pkF rfl f rfl)<|Ab rfl<|AI ?_
 exact ⟨Bw (by unfold Hz;simp_all),u⟩
 have L:=dF d
 refine Ac d<|Ac d<|Ac d<|Ac d<|A1 (.pkF rfl d rfl)<|A3 rfl<|Ac rfl<|Ac rfl<|Ac rfl<|Ac rfl<|Ac rfl<|A1 (.pkF rfl rfl rfl)<|Ab rfl<|AI ?_
 exact ⟨Bw (by unfold Hz;simp_all),j⟩
 have K:=dF c
 refine Ac c<|Ac c<|Ac c<|Ac c<|A1 (.pkF rfl c rfl)<|A3 rfl<|Ac rfl<|Ac rfl<|Ac rfl<|Ac rfl<|Ac rfl<|A1 (.pkF rfl rfl rfl)<|A3 rfl<|Ac rfl<|Ac rfl<|Ac rfl<|Ac rfl<|Ac rfl<|A1 (.pkF rfl rfl rfl)<|Ab rfl<|AI ?_
 exact ⟨Bw (by unfold Hz;simp_all),j⟩
 have J:=dF b
 refine Ac b<|Ac b<|Ac b<|Ac b<|A1 (.pkF rfl b rfl)<|A3 rfl<|Ac rfl<|Ac rfl<|Ac rfl<|Ac rfl<|Ac rfl<|A1 (.pkF rfl rfl rfl)<|A3 rfl<|Ac rfl<|Ac rfl<|Ac rfl<|Ac rfl<|Ac rfl<|A1 (.pkF rfl rfl rfl)<|A3 rfl<|Ac rfl<|Ac rfl<|Ac rfl<|Ac rfl<|Ac rfl<|A1 (.pkF rfl rfl rfl)<|Ab rfl<|AI ?_
 exact ⟨Bw (by unfold Hz;simp_all),j⟩
 have H:=dF a
 refine Ac a<|Ac a<|Ac a<|Ac a<|A1 (.pkF rfl a rfl)<|A3 rfl<|Ac rfl<|Ac rfl<|Ac rfl<|Ac rfl<|Ac rfl<|A1 (.pkF rfl rfl rfl)<|A3 rfl<|Ac rfl<|Ac rfl<|Ac rfl<|Ac rfl<|Ac rfl<|A1 (.pkF rfl rfl rfl)<|A3 rfl<|Ac rfl<|Ac rfl<|Ac rfl<|Ac rfl<|Ac rfl<|A1 (.pkF rfl rfl rfl)<|A3 rfl<|Ac rfl<|Ac rfl<|Ac rfl<|Ac rfl<|Ac rfl<|A1 (.pkF rfl rfl rfl)<|Ab rfl<|AI ?_
 exact ⟨Bw (by unfold Hz;simp_all),j⟩
def A7k:DP:=⟨0,0,0,0,none,[],0,0⟩
theorem A0O (x:DP):Hz x A7k=Ki x:=by
 unfold Hz Ki A7k
 have:decide (x.fDash=[])=decide ((x.fDash.length:Int)=0):=by
  cases x.fDash with
  | nil=>simp
  | cons a l=>simp;omega
 rw [this]
theorem AZ.none {w:World}:AZ E5 w none []:=⟨λh=>by simp at h,λj h=>by simp at h⟩
def Fo (x:Bm):Bool:=!x.fPath.isEmpty && EZ x.fPath
end
section
theorem A93:Tryz.prog.eqGuardType Tryz.prog.depth 42=false:=by kernel_rfl
theorem A8N (a0:Int) (a1:Int) (a2:Int) (a3:Int) (a4:Int) (a5:Int) (b0:Int) (b1:Int) (b2:Int) (b3:Int) (b4:Int) (b5:Int) (w:World):(binOp .neq 42 (.agg #[Ah a0,Ah a1,Ah a2,Ah a3,Ah a4,Ah a5]) (.agg #[Ah b0,Ah b1,Ah b2,Ah b3,Ah b4,Ah b5])).run Tryz.prog w=.ok (.bool (!decide (a0=b0/\a1=b1/\a2=b2/\a3=b3/\a4=b4/\a5=b5))) w:=by
 refine (Uz w 42 3 6 DM JL B6 [a0,a1,a2,a3,a4,a5] [b0,b1,b2,b3,b4,b5] rfl rfl).trans ?_
 rw [show ([a0,a1,a2,a3,a4,a5] == [b0,b1,b2,b3,b4,b5])=decide (a0=b0/\a1=b1/\a2=b2/\a3=b3/\a4=b4/\a5=b5) from by rw [B1];simp]
theorem A98:Tryz.prog.built 42 []=some #[Ah 0,Ah 0,Ah 0,Ah 0,Ah 0,Ah 0]:=by kernel_rfl
def Ej (x:AN):List Int:=[x.fMatrix_0,x.fMatrix_1,x.fMatrix_2,x.fMatrix_3,x.fMatrix_4,x.fMatrix_5]
def RV:Fq AN:=⟨6,λx=>[Ah x.fMatrix_0,Ah x.fMatrix_1,Ah x.fMatrix_2,Ah x.fMatrix_3,Ah x.fMatrix_4,Ah x.fMatrix_5],dD,λ_=>rfl,λx u hu=>At.1 (show ([Ah x.fMatrix_0,Ah x.fMatrix_1,Ah x.fMatrix_2,Ah x.fMatrix_3,Ah x.fMatrix_4,Ah x.fMatrix_5]:List Value).all Value.oneCell'=true from rfl) u hu⟩
theorem Mq {w:World} {b:Nat} {t:TypeId} {x:AN} (h:Be w b (F4 x).toArray t):AZ E5 w (some ⟨b,15,none⟩) (Ej x):=⟨λ_=>rfl,λj hj=>by
 show w.cell? ((⟨b,15,none⟩:Addr).add j)=_
 have h':j<6:=hj
 rw [add_lit,h.cell]
 obtain rfl | rfl | rfl | rfl | rfl | rfl:j=0\/j=1\/j=2\/j=3\/j=4\/j=5:=by omega
 all_goals rfl⟩
def OC (x:AN):Bool:=decide (x.fMatrix_0=0/\x.fMatrix_1=0/\x.fMatrix_2=0/\x.fMatrix_3=0/\x.fMatrix_4=0/\x.fMatrix_5=0)
def GW (x:AN):Bool:=decide (0<=x.fFont) && decide (x.fFont<=13) && decide ((x.fBytes.length:Int) ≥ 1) && decide ((x.fBytes.length:Int)<=65535) && (Ej x).all Am
def ET (l:List Bm):Bool:=decide ((l.length:Int)<=16) && l.all Fo
def LS (x:AN):Bool:=decide (x.fFont=0) && OC x && decide ((x.fBytes.length:Int)=0) && !decide ((x.fPath.length:Int)=0) && EZ x.fPath
def E8 (x:AN):Bool:=Fw x.fColor && ET x.fClips &&
  (if x.fKind = 4 then GW x && decide ((x.fPath.length : Int) = 0) && Ki x.fPen
   else LS x && (if x.fKind=1\/x.fKind=2 then Ki x.fPen else if x.fKind=3 then KT x.fPen else false))
theorem Lf.len {α:Type} {p:Option Addr} {l:List α} {c:Nat} (h:Lf p l c):l.length<=9223372036854775807:=BA (BA h.le h.cap) (by unfold maxLen;decide)
end
section
def HM:Nat->Nat->l8_
 | 0,_=>[]
 | k+1,f=>if f=0 then [] else ch (48+((f * 10 / 65536:Nat):Int))::HM k (f * 10 % 65536)
theorem UZ (k:Nat):∀ f:Nat,k<=16->f<65536->2 ^ (16-k) ∣ f->HM k f=HM (k+1) f:=by
  induction k with
  | zero =>
    intro f _ hf hd
    obtain ⟨c,hc⟩:=hd
    have:f=0:=by simp at hc;omega
    simp [HM,this]
  | succ k ih =>
    intro f hk hf hd
    rw [HM,HM]
    split
    · rfl
    · rw [ih (f * 10 % 65536) oO oO]
      have e:16-k=(16-(k+1))+1:=by omega
      have a:2 ^ (16-k) ∣ f * 10:=by
        rw [e,Nat.pow_succ]
        exact Nat.mul_dvd_mul hd ⟨5,rfl⟩
      have b:2 ^ (16-k) ∣ 65536:=by
        rw [show (65536:Nat)=2 ^ 16 from rfl]
        exact Nat.pow_dvd_pow 2 oO
      exact (Nat.dvd_mod_iff b).2 a
def Jc (f:Nat):l8_:=HM 16 f
theorem LA:Jc 0=[]:=rfl
theorem NQ (f:Nat) (h0:0<f) (h:f<65536):Jc f=ch (48+((f * 10 / 65536:Nat):Int))::Jc (f * 10 % 65536):=by
 unfold Jc
 rw [HM,A2 oO,UZ 15 (f * 10 % 65536) oO oO (by
  have a:2 ^ (16-15) ∣ f * 10:=⟨f * 5,oO⟩
  exact (Nat.dvd_mod_iff dD).2 a)]
theorem A1m (k:Nat):∀ f,(HM k f).length<=k:=by
 induction k with
 | zero=>intro f;simp [HM]
 | succ k ih =>
  intro f;rw [HM];split
  · simp
  · have:=ih (f * 10 % 65536);simp;omega
theorem N0 (f:Nat):(Jc f).length<=16:=A1m 16 f
end
end Go.Proofs.YthmhfjeojkbpfaaGreatDoor
namespace Go.Proofs
open Go.Proofs.Tryz
open Go.Shelf
def Tryz.lays161_ren : Go.Shelf.Ren := ⟨fun | 161 => 158 | 231 => 130 | 227 => 132 | 233 => 133 | 235 => 135 | 228 => 163 | 197 => 165 | 151 => 166 | 260 => 193 | 152 => 161 | 137 => 58 | 119 => 184 | 224 => 185 | 225 => 186 | 217 => 86 | 266 => 118 | n => n, fun | 9 => 9 | 4 => 4 | 3 => 3 | 5 => 5 | 117 => 193 | 116 => 192 | 0 => 0 | 124 => 196 | 105 => 212 | 21 => 21 | 119 => 244 | 46 => 143 | 139 => 247 | 138 => 246 | n => n, fun | 3 => 1 | 4 => 2 | n => n⟩
theorem Tryz.lays161 : Go.Proofs.Lays.n161 Tryz.prog Tryz.lays161_ren := {
  mixed := by kernel_rfl
  f119 := Tryz.func184.trans (congrArg some (by kernel_rfl))
  f137 := Tryz.func58.trans (congrArg some (by kernel_rfl))
  f151 := Tryz.func166.trans (congrArg some (by kernel_rfl))
  f152 := Tryz.func161.trans (congrArg some (by kernel_rfl))
  f161 := Tryz.func158.trans (congrArg some (by kernel_rfl))
  f197 := Tryz.func165.trans (congrArg some (by kernel_rfl))
  f217 := Tryz.func86.trans (congrArg some (by kernel_rfl))
  f224 := Tryz.func185.trans (congrArg some (by kernel_rfl))
  f225 := Tryz.func186.trans (congrArg some (by kernel_rfl))
  f227 := Tryz.func132.trans (congrArg some (by kernel_rfl))
  f228 := Tryz.func163.trans (congrArg some (by kernel_rfl))
  f231 := Tryz.func130.trans (congrArg some (by kernel_rfl))
  f233 := Tryz.func133.trans (congrArg some (by kernel_rfl))
  f235 := Tryz.func135.trans (congrArg some (by kernel_rfl))
  f260 := Tryz.func193.trans (congrArg some (by kernel_rfl))
  f266 := Tryz.func118.trans (congrArg some (by kernel_rfl))
  t0 := Tryz.underlying0
  a0 := Tryz.isAgg0
  z0 := Tryz.sizeOf0
  v0 := Tryz.zeroValue0
  t3 := Tryz.underlying3
  a3 := Tryz.isAgg3
  z3 := Tryz.sizeOf3
  v3 := Tryz.zeroValue3
  t4 := Tryz.underlying4
  a4 := Tryz.isAgg4
  z4 := Tryz.sizeOf4
  v4 := Tryz.zeroValue4
  t5 := Tryz.underlying5
  a5 := Tryz.isAgg5
  z5 := Tryz.sizeOf5
  v5 := Tryz.zeroValue5
  t9 := Tryz.underlying9
  a9 := Tryz.isAgg9
  z9 := Tryz.sizeOf9
  v9 := Tryz.zeroValue9
  t21 := Tryz.underlying21
  a21 := Tryz.isAgg21
  z21 := Tryz.sizeOf21
  v21 := Tryz.zeroValue21
  t46 := Tryz.underlying143
  a46 := Tryz.isAgg143
  z46 := Tryz.sizeOf143
  v46 := Tryz.zeroValue143
  t105 := Tryz.underlying212
  a105 := Tryz.isAgg212
  z105 := Tryz.sizeOf212
  v105 := Tryz.zeroValue212
  t116 := Tryz.underlying192
  a116 := Tryz.isAgg192
  z116 := Tryz.sizeOf192
  t117 := Tryz.underlying193
  a117 := Tryz.isAgg193
  z117 := Tryz.sizeOf193
  v117 := Tryz.zeroValue193
  t119 := Tryz.underlying244
  a119 := Tryz.isAgg244
  z119 := Tryz.sizeOf244
  t124 := Tryz.underlying196
  a124 := Tryz.isAgg196
  z124 := Tryz.sizeOf196
  v124 := Tryz.zeroValue196
  t138 := Tryz.underlying246
  a138 := Tryz.isAgg246
  z138 := Tryz.sizeOf246
  v138 := Tryz.zeroValue246
  t139 := Tryz.underlying247
  a139 := Tryz.isAgg247
  z139 := Tryz.sizeOf247
  v139 := Tryz.zeroValue247
  g3 := by kernel_rfl
  g4 := by kernel_rfl }
open Go.RowKit in
theorem Tryz.strings_TrimLeft_one (s : ByteArray) (c : UInt8) (hc : c.toNat < 128) (w : World) :
    Calls Tryz.prog 158 #[.string s, .string ⟨#[c]⟩] w fun e w' => e = .returned (.string ⟨(Lib.trimLeftB s.data.toList c).toArray⟩) ∧ w' = w := Any.strings_TrimLeft_one Tryz.lays161 s c hc w
def Tryz.lays160_ren : Go.Shelf.Ren := ⟨fun | 160 => 96 | 232 => 131 | 231 => 130 | 227 => 132 | 234 => 134 | 233 => 133 | 236 => 136 | 235 => 135 | 228 => 163 | 271 => 167 | 151 => 166 | 197 => 165 | 120 => 194 | 152 => 161 | 260 => 193 | 137 => 58 | 119 => 184 | 224 => 185 | 225 => 186 | 217 => 86 | 266 => 118 | n => n, fun | 9 => 9 | 4 => 4 | 3 => 3 | 5 => 5 | 117 => 193 | 116 => 192 | 0 => 0 | 124 => 196 | 21 => 21 | 105 => 212 | 46 => 143 | 119 => 244 | 139 => 247 | 138 => 246 | n => n, fun | 3 => 1 | 4 => 2 | n => n⟩
theorem Tryz.lays160 : Go.Proofs.Lays.n160 Tryz.prog Tryz.lays160_ren := {
  mixed := by kernel_rfl
  f119 := Tryz.func184.trans (congrArg some (by kernel_rfl))
  f120 := Tryz.func194.trans (congrArg some (by kernel_rfl))
  f137 := Tryz.func58.trans (congrArg some (by kernel_rfl))
  f151 := Tryz.func166.trans (congrArg some (by kernel_rfl))
  f152 := Tryz.func161.trans (congrArg some (by kernel_rfl))
  f160 := Tryz.func96.trans (congrArg some (by kernel_rfl))
  f197 := Tryz.func165.trans (congrArg some (by kernel_rfl))
  f217 := Tryz.func86.trans (congrArg some (by kernel_rfl))
  f224 := Tryz.func185.trans (congrArg some (by kernel_rfl))
  f225 := Tryz.func186.trans (congrArg some (by kernel_rfl))
  f227 := Tryz.func132.trans (congrArg some (by kernel_rfl))
  f228 := Tryz.func163.trans (congrArg some (by kernel_rfl))
  f231 := Tryz.func130.trans (congrArg some (by kernel_rfl))
  f232 := Tryz.func131.trans (congrArg some (by kernel_rfl))
  f233 := Tryz.func133.trans (congrArg some (by kernel_rfl))
  f234 := Tryz.func134.trans (congrArg some (by kernel_rfl))
  f235 := Tryz.func135.trans (congrArg some (by kernel_rfl))
  f236 := Tryz.func136.trans (congrArg some (by kernel_rfl))
  f260 := Tryz.func193.trans (congrArg some (by kernel_rfl))
  f266 := Tryz.func118.trans (congrArg some (by kernel_rfl))
  f271 := Tryz.func167.trans (congrArg some (by kernel_rfl))
  t0 := Tryz.underlying0
  a0 := Tryz.isAgg0
  z0 := Tryz.sizeOf0
  v0 := Tryz.zeroValue0
  t3 := Tryz.underlying3
  a3 := Tryz.isAgg3
  z3 := Tryz.sizeOf3
  v3 := Tryz.zeroValue3
  t4 := Tryz.underlying4
  a4 := Tryz.isAgg4
  z4 := Tryz.sizeOf4
  v4 := Tryz.zeroValue4
  t5 := Tryz.underlying5
  a5 := Tryz.isAgg5
  z5 := Tryz.sizeOf5
  v5 := Tryz.zeroValue5
  t9 := Tryz.underlying9
  a9 := Tryz.isAgg9
  z9 := Tryz.sizeOf9
  v9 := Tryz.zeroValue9
  t21 := Tryz.underlying21
  a21 := Tryz.isAgg21
  z21 := Tryz.sizeOf21
  v21 := Tryz.zeroValue21
  t46 := Tryz.underlying143
  a46 := Tryz.isAgg143
  z46 := Tryz.sizeOf143
  v46 := Tryz.zeroValue143
  t105 := Tryz.underlying212
  a105 := Tryz.isAgg212
  z105 := Tryz.sizeOf212
  v105 := Tryz.zeroValue212
  t116 := Tryz.underlying192
  a116 := Tryz.isAgg192
  z116 := Tryz.sizeOf192
  t117 := Tryz.underlying193
  a117 := Tryz.isAgg193
  z117 := Tryz.sizeOf193
  v117 := Tryz.zeroValue193
  t119 := Tryz.underlying244
  a119 := Tryz.isAgg244
  z119 := Tryz.sizeOf244
  t124 := Tryz.underlying196
  a124 := Tryz.isAgg196
  z124 := Tryz.sizeOf196
  v124 := Tryz.zeroValue196
  t138 := Tryz.underlying246
  a138 := Tryz.isAgg246
  z138 := Tryz.sizeOf246
  v138 := Tryz.zeroValue246
  t139 := Tryz.underlying247
  a139 := Tryz.isAgg247
  z139 := Tryz.sizeOf247
  v139 := Tryz.zeroValue247
  g3 := by kernel_rfl
  g4 := by kernel_rfl }
def Tryz.lays119_ren : Go.Shelf.Ren := ⟨fun | 119 => 184 | n => n, fun | 21 => 21 | 4 => 4 | n => n, fun | n => n⟩
theorem Tryz.lays119 : Go.Proofs.Lays.n119 Tryz.prog Tryz.lays119_ren := {
  mixed := by kernel_rfl
  f119 := Tryz.func184.trans (congrArg some (by kernel_rfl))
  t4 := Tryz.underlying4
  a4 := Tryz.isAgg4
  z4 := Tryz.sizeOf4
  v4 := Tryz.zeroValue4
  t21 := Tryz.underlying21
  a21 := Tryz.isAgg21
  z21 := Tryz.sizeOf21
  v21 := Tryz.zeroValue21 }
theorem Tryz.utf8_ValidRune (r : Int) (w : World) :
    Calls Tryz.prog 184 #[.int .i32 r] w fun e w' => e = .returned (.bool (Lib.validRune r)) ∧ w' = w := Any.utf8_ValidRune Tryz.lays119 r w
def Tryz.lays137_ren : Go.Shelf.Ren := ⟨fun | 137 => 58 | 217 => 86 | 266 => 118 | n => n, fun | 9 => 9 | 5 => 5 | 3 => 3 | n => n, fun | n => n⟩
theorem Tryz.lays137 : Go.Proofs.Lays.n137 Tryz.prog Tryz.lays137_ren := {
  mixed := by kernel_rfl
  f137 := Tryz.func58.trans (congrArg some (by kernel_rfl))
  f217 := Tryz.func86.trans (congrArg some (by kernel_rfl))
  f266 := Tryz.func118.trans (congrArg some (by kernel_rfl))
  t3 := Tryz.underlying3
  a3 := Tryz.isAgg3
  z3 := Tryz.sizeOf3
  v3 := Tryz.zeroValue3
  t5 := Tryz.underlying5
  a5 := Tryz.isAgg5
  z5 := Tryz.sizeOf5
  v5 := Tryz.zeroValue5
  t9 := Tryz.underlying9
  a9 := Tryz.isAgg9
  z9 := Tryz.sizeOf9
  v9 := Tryz.zeroValue9 }
open Go.RowKit in
theorem Tryz.strings_IndexByte (s : ByteArray) (c : Int) (w : World) :
    Calls Tryz.prog 58 #[.string s, .int .u8 c] w fun e w' => e = .returned (.int .i64 (Lib.indexByte s.data.toList c.toNat.toUInt8)) ∧ w' = w := Any.strings_IndexByte Tryz.lays137 s c w
def Tryz.lays219_ren : Go.Shelf.Ren := ⟨fun | 219 => 199 | 217 => 86 | 225 => 186 | 224 => 185 | 267 => 206 | 266 => 118 | 314 => 209 | n => n, fun | 9 => 9 | 3 => 3 | 4 => 4 | 5 => 5 | 46 => 143 | 146 => 239 | 51 => 238 | n => n, fun | 1 => 0 | n => n⟩
theorem Tryz.lays219 : Go.Proofs.Lays.n219 Tryz.prog Tryz.lays219_ren := {
  mixed := by kernel_rfl
  f217 := Tryz.func86.trans (congrArg some (by kernel_rfl))
  f219 := Tryz.func199.trans (congrArg some (by kernel_rfl))
  f224 := Tryz.func185.trans (congrArg some (by kernel_rfl))
  f225 := Tryz.func186.trans (congrArg some (by kernel_rfl))
  f266 := Tryz.func118.trans (congrArg some (by kernel_rfl))
  f267 := Tryz.func206.trans (congrArg some (by kernel_rfl))
  f314 := Tryz.func209.trans (congrArg some (by kernel_rfl))
  t3 := Tryz.underlying3
  a3 := Tryz.isAgg3
  z3 := Tryz.sizeOf3
  v3 := Tryz.zeroValue3
  t4 := Tryz.underlying4
  a4 := Tryz.isAgg4
  z4 := Tryz.sizeOf4
  v4 := Tryz.zeroValue4
  t5 := Tryz.underlying5
  a5 := Tryz.isAgg5
  z5 := Tryz.sizeOf5
  v5 := Tryz.zeroValue5
  t9 := Tryz.underlying9
  a9 := Tryz.isAgg9
  z9 := Tryz.sizeOf9
  v9 := Tryz.zeroValue9
  t46 := Tryz.underlying143
  a46 := Tryz.isAgg143
  z46 := Tryz.sizeOf143
  v46 := Tryz.zeroValue143
  t51 := Tryz.underlying238
  a51 := Tryz.isAgg238
  z51 := Tryz.sizeOf238
  v51 := Tryz.zeroValue238
  t146 := Tryz.underlying239
  a146 := Tryz.isAgg239
  z146 := Tryz.sizeOf239
  v146 := Tryz.zeroValue239
  g1 := by kernel_rfl }
open Go.RowKit Go.Lib in
theorem Tryz.stringslite_Index_one (s : ByteArray) (c : UInt8) (w : World) :
    Calls Tryz.prog 199 #[.string s, .string ⟨#[c]⟩] w fun e w' => e = .returned (.int .i64 (Lib.indexByte s.data.toList c)) ∧ w' = w := Any.stringslite_Index_one Tryz.lays219 s c w
def Tryz.lays152_ren : Go.Shelf.Ren := ⟨fun | 152 => 161 | 137 => 58 | 119 => 184 | 224 => 185 | 225 => 186 | 217 => 86 | 266 => 118 | n => n, fun | 9 => 9 | 21 => 21 | 3 => 3 | 4 => 4 | 5 => 5 | 0 => 0 | 46 => 143 | n => n, fun | n => n⟩
theorem Tryz.lays152 : Go.Proofs.Lays.n152 Tryz.prog Tryz.lays152_ren := {
  mixed := by kernel_rfl
  f119 := Tryz.func184.trans (congrArg some (by kernel_rfl))
  f137 := Tryz.func58.trans (congrArg some (by kernel_rfl))
  f152 := Tryz.func161.trans (congrArg some (by kernel_rfl))
  f217 := Tryz.func86.trans (congrArg some (by kernel_rfl))
  f224 := Tryz.func185.trans (congrArg some (by kernel_rfl))
  f225 := Tryz.func186.trans (congrArg some (by kernel_rfl))
  f266 := Tryz.func118.trans (congrArg some (by kernel_rfl))
  t0 := Tryz.underlying0
  a0 := Tryz.isAgg0
  z0 := Tryz.sizeOf0
  v0 := Tryz.zeroValue0
  t3 := Tryz.underlying3
  a3 := Tryz.isAgg3
  z3 := Tryz.sizeOf3
  v3 := Tryz.zeroValue3
  t4 := Tryz.underlying4
  a4 := Tryz.isAgg4
  z4 := Tryz.sizeOf4
  v4 := Tryz.zeroValue4
  t5 := Tryz.underlying5
  a5 := Tryz.isAgg5
  z5 := Tryz.sizeOf5
  v5 := Tryz.zeroValue5
  t9 := Tryz.underlying9
  a9 := Tryz.isAgg9
  z9 := Tryz.sizeOf9
  v9 := Tryz.zeroValue9
  t21 := Tryz.underlying21
  a21 := Tryz.isAgg21
  z21 := Tryz.sizeOf21
  v21 := Tryz.zeroValue21
  t46 := Tryz.underlying143
  a46 := Tryz.isAgg143
  z46 := Tryz.sizeOf143
  v46 := Tryz.zeroValue143 }
open Go.RowKit Go.Lib in
theorem Tryz.strings_IndexRune_ascii (s : ByteArray) (r : Int) (w : World) (h0 : 0 ≤ r) (h1 : r < 128) :
    Calls Tryz.prog 161 #[.string s, .int .i32 r] w fun e w' => e = .returned (.int .i64 (Lib.indexByte s.data.toList r.toNat.toUInt8)) ∧ w' = w := Any.strings_IndexRune_ascii Tryz.lays152 s r w h0 h1
def Tryz.lays226_ren : Go.Shelf.Ren := ⟨fun | 226 => 162 | n => n, fun | 3 => 3 | 4 => 4 | n => n, fun | n => n⟩
theorem Tryz.lays226 : Go.Proofs.Lays.n226 Tryz.prog Tryz.lays226_ren := {
  mixed := by kernel_rfl
  f226 := Tryz.func162.trans (congrArg some (by kernel_rfl))
  t3 := Tryz.underlying3
  a3 := Tryz.isAgg3
  z3 := Tryz.sizeOf3
  v3 := Tryz.zeroValue3
  t4 := Tryz.underlying4
  a4 := Tryz.isAgg4
  z4 := Tryz.sizeOf4
  v4 := Tryz.zeroValue4 }
open Go.RowKit Go.Lib in
theorem Tryz.strings_shouldUseASCIISet (n : Int) (w : World) :
    Calls Tryz.prog 162 #[.int .i64 n] w fun e w' => e = .returned (.bool (decide (8 < n))) ∧ w' = w := Any.strings_shouldUseASCIISet Tryz.lays226 n w
def Tryz.lays153_ren : Go.Shelf.Ren := ⟨fun | 153 => 127 | 152 => 161 | 226 => 162 | 227 => 132 | 228 => 163 | 137 => 58 | 119 => 184 | 224 => 185 | 225 => 186 | 217 => 86 | 266 => 118 | n => n, fun | 9 => 9 | 3 => 3 | 4 => 4 | 5 => 5 | 21 => 21 | 117 => 193 | 116 => 192 | 0 => 0 | 46 => 143 | 124 => 196 | n => n, fun | n => n⟩
theorem Tryz.lays153 : Go.Proofs.Lays.n153 Tryz.prog Tryz.lays153_ren := {
  mixed := by kernel_rfl
  f119 := Tryz.func184.trans (congrArg some (by kernel_rfl))
  f137 := Tryz.func58.trans (congrArg some (by kernel_rfl))
  f152 := Tryz.func161.trans (congrArg some (by kernel_rfl))
  f153 := Tryz.func127.trans (congrArg some (by kernel_rfl))
  f217 := Tryz.func86.trans (congrArg some (by kernel_rfl))
  f224 := Tryz.func185.trans (congrArg some (by kernel_rfl))
  f225 := Tryz.func186.trans (congrArg some (by kernel_rfl))
  f226 := Tryz.func162.trans (congrArg some (by kernel_rfl))
  f227 := Tryz.func132.trans (congrArg some (by kernel_rfl))
  f228 := Tryz.func163.trans (congrArg some (by kernel_rfl))
  f266 := Tryz.func118.trans (congrArg some (by kernel_rfl))
  t0 := Tryz.underlying0
  a0 := Tryz.isAgg0
  z0 := Tryz.sizeOf0
  v0 := Tryz.zeroValue0
  t3 := Tryz.underlying3
  a3 := Tryz.isAgg3
  z3 := Tryz.sizeOf3
  v3 := Tryz.zeroValue3
  t4 := Tryz.underlying4
  a4 := Tryz.isAgg4
  z4 := Tryz.sizeOf4
  v4 := Tryz.zeroValue4
  t5 := Tryz.underlying5
  a5 := Tryz.isAgg5
  z5 := Tryz.sizeOf5
  v5 := Tryz.zeroValue5
  t9 := Tryz.underlying9
  a9 := Tryz.isAgg9
  z9 := Tryz.sizeOf9
  v9 := Tryz.zeroValue9
  t21 := Tryz.underlying21
  a21 := Tryz.isAgg21
  z21 := Tryz.sizeOf21
  v21 := Tryz.zeroValue21
  t46 := Tryz.underlying143
  a46 := Tryz.isAgg143
  z46 := Tryz.sizeOf143
  v46 := Tryz.zeroValue143
  t116 := Tryz.underlying192
  a116 := Tryz.isAgg192
  z116 := Tryz.sizeOf192
  t117 := Tryz.underlying193
  a117 := Tryz.isAgg193
  z117 := Tryz.sizeOf193
  v117 := Tryz.zeroValue193
  t124 := Tryz.underlying196
  a124 := Tryz.isAgg196
  z124 := Tryz.sizeOf196
  v124 := Tryz.zeroValue196 }
open Go.RowKit Go.Lib in
theorem Tryz.strings_IndexAny_long (hv116 : ∀ w, (zeroValue 192).run Tryz.prog w = .ok (.agg (Array.replicate 256 (.bool false))) w) (s chars : ByteArray) (w : World) (h2 : 2 ≤ chars.size) (h8 : 8 < s.size) (hs : s.size < 4294967281) (hcs : chars.size < 4294967281) (hascii : ∀ (j : Nat) b, chars.data.toList[j]? = some b → b.toNat < 128) :
    Calls Tryz.prog 127 #[.string s, .string chars] w fun e w' => e = .returned (.int .i64 (Lib.indexAny s.data.toList chars.data.toList)) ∧ w' = ((w.alloc (.cells (Lib.setCells chars.data.toList) 192)).alloc (.cells (Lib.setCells chars.data.toList) 192)) := Any.strings_IndexAny_long Tryz.lays153 hv116 (by kernel_rfl) s chars w h2 h8 hs hcs hascii
def Tryz.lays105_ren : Go.Shelf.Ren := ⟨fun | 105 => 164 | 212 => 187 | 99 => 188 | 165 => 189 | 166 => 190 | 170 => 191 | 169 => 192 | 263 => 200 | 264 => 201 | 206 => 202 | 240 => 203 | 241 => 204 | 276 => 207 | 277 => 208 | n => n, fun | 9 => 9 | 3 => 3 | 4 => 4 | 20 => 20 | 0 => 0 | 46 => 143 | 109 => 225 | 5 => 5 | 72 => 230 | 76 => 234 | 51 => 238 | 146 => 239 | 53 => 90 | 148 => 241 | 70 => 228 | 37 => 22 | 75 => 233 | 127 => 243 | 164 => 249 | 80 => 121 | n => n, fun | n => n⟩
theorem Tryz.lays105 : Go.Proofs.Lays.n105 Tryz.prog Tryz.lays105_ren := {
  mixed := by kernel_rfl
  f99 := Tryz.func188.trans (congrArg some (by kernel_rfl))
  f105 := Tryz.func164.trans (congrArg some (by kernel_rfl))
  f165 := Tryz.func189.trans (congrArg some (by kernel_rfl))
  f166 := Tryz.func190.trans (congrArg some (by kernel_rfl))
  f169 := Tryz.func192.trans (congrArg some (by kernel_rfl))
  f170 := Tryz.func191.trans (congrArg some (by kernel_rfl))
  f206 := Tryz.func202.trans (congrArg some (by kernel_rfl))
  f212 := Tryz.func187.trans (congrArg some (by kernel_rfl))
  f240 := Tryz.func203.trans (congrArg some (by kernel_rfl))
  f241 := Tryz.func204.trans (congrArg some (by kernel_rfl))
  f263 := Tryz.func200.trans (congrArg some (by kernel_rfl))
  f264 := Tryz.func201.trans (congrArg some (by kernel_rfl))
  f276 := Tryz.func207.trans (congrArg some (by kernel_rfl))
  f277 := Tryz.func208.trans (congrArg some (by kernel_rfl))
  t0 := Tryz.underlying0
  a0 := Tryz.isAgg0
  z0 := Tryz.sizeOf0
  v0 := Tryz.zeroValue0
  t3 := Tryz.underlying3
  a3 := Tryz.isAgg3
  z3 := Tryz.sizeOf3
  v3 := Tryz.zeroValue3
  t4 := Tryz.underlying4
  a4 := Tryz.isAgg4
  z4 := Tryz.sizeOf4
  v4 := Tryz.zeroValue4
  t5 := Tryz.underlying5
  a5 := Tryz.isAgg5
  z5 := Tryz.sizeOf5
  v5 := Tryz.zeroValue5
  t9 := Tryz.underlying9
  a9 := Tryz.isAgg9
  z9 := Tryz.sizeOf9
  v9 := Tryz.zeroValue9
  t20 := Tryz.underlying20
  a20 := Tryz.isAgg20
  z20 := Tryz.sizeOf20
  v20 := Tryz.zeroValue20
  t37 := Tryz.underlying22
  a37 := Tryz.isAgg22
  z37 := Tryz.sizeOf22
  v37 := Tryz.zeroValue22
  t46 := Tryz.underlying143
  a46 := Tryz.isAgg143
  z46 := Tryz.sizeOf143
  v46 := Tryz.zeroValue143
  t51 := Tryz.underlying238
  a51 := Tryz.isAgg238
  z51 := Tryz.sizeOf238
  v51 := Tryz.zeroValue238
  t53 := Tryz.underlying90
  a53 := Tryz.isAgg90
  z53 := Tryz.sizeOf90
  v53 := Tryz.zeroValue90
  t70 := Tryz.underlying228
  a70 := Tryz.isAgg228
  z70 := Tryz.sizeOf228
  v70 := Tryz.zeroValue228
  t72 := Tryz.underlying230
  a72 := Tryz.isAgg230
  z72 := Tryz.sizeOf230
  v72 := Tryz.zeroValue230
  t75 := Tryz.underlying233
  a75 := Tryz.isAgg233
  z75 := Tryz.sizeOf233
  v75 := Tryz.zeroValue233
  t76 := Tryz.underlying234
  a76 := Tryz.isAgg234
  z76 := Tryz.sizeOf234
  v76 := Tryz.zeroValue234
  t109 := Tryz.underlying225
  a109 := Tryz.isAgg225
  z109 := Tryz.sizeOf225
  v109 := Tryz.zeroValue225
  t127 := Tryz.underlying243
  a127 := Tryz.isAgg243
  z127 := Tryz.sizeOf243
  v127 := Tryz.zeroValue243
  t146 := Tryz.underlying239
  a146 := Tryz.isAgg239
  z146 := Tryz.sizeOf239
  v146 := Tryz.zeroValue239
  t148 := Tryz.underlying241
  a148 := Tryz.isAgg241
  z148 := Tryz.sizeOf241
  v148 := Tryz.zeroValue241
  t164 := Tryz.underlying249
  a164 := Tryz.isAgg249
  z164 := Tryz.sizeOf249
  v164 := Tryz.zeroValue249 }
theorem Tryz.Builder_Extra_105 : Builder.Extra Tryz.prog Tryz.lays105_ren := {
  sizeBuilder := by kernel_rfl
  liesBuilder := by kernel_rfl
  t5 := Tryz.underlying5
  a5 := Tryz.isAgg5
  z5 := Tryz.sizeOf5
  v5 := Tryz.zeroValue5
  infoByte := by kernel_rfl
  cellsByte := by kernel_rfl
  sizeByte := by kernel_rfl
  neB5 := by decide }
open Go.RowKit Go.Lib in
theorem Tryz.strings_Repeat (s : ByteArray) (c : Nat) (w : World) (hc : c ≤ 9223372036854775807) (hlen : s.size * c ≤ 140737488355328) :
    Calls Tryz.prog 164 #[.string s, .int .i64 c] w fun e w' => e = .returned (.string ⟨(Lib.repeatL s.data.toList c).toArray⟩) ∧ Below w.heap.size w w' := Any.strings_Repeat Tryz.lays105 Tryz.Builder_Extra_105 s c w hc hlen
end Go.Proofs
