/-
  The law TreeInherits: a page that lacks a box or fonts has those of the nearest node above it; its own come first. No condition beyond the row's own.
-/
import Derived.Test.YtiddobdioipidaaGreatDoorTi7
set_option maxHeartbeats 6400000
set_option maxRecDepth 100000
namespace Go.Proofs.YtiddobdioipidaaGreatDoor
open Go.RowKit
open Go.Proofs.Tryz
variable {pa pb:Addr} {aft:Array Edge} {ops:Array Oper} {ats:Array TypeId} {args cs:Array Value} {st:Bool} {Q:Exit->Fr->World->Prop} {f:Fr} {F:FuncId} {D a:Int} {ks:List (List UInt8)} {ns:List Int} {A d l s:List UInt8} {vs xs:List Value} {B M N bf c i id j wk:Nat} {S T:Nat->Prop} {x y:Operand} {dp kp lp p:Option Addr} {P:Program} {pos:String} {α ι:Type} {E e ta tb tx ty:TypeId} {u v z:Value} {w w' w1:World} {S':World->Prop}
section
open Go.ChangeShapes Go.WideShapes Go.ChangeAt Go.RowKit
open Go.ChangeMaps (open_string shut_string)
theorem Ko (H:Type) (enc:TypeId × Value->H) (W:World) (base:Nat) (args:Array Value) (ds gs:List (DataW H)) (before:List MemPlace)
  (hval:∀ (j:Nat) t v,Tryz.f3.params[j]?=some t->args[j]?=some v->Value.okWide Tryz.prog W .any base t v)
  (hW:DataW.Whole enc Tryz.prog Tryz.f3.params.toList Rows.treeInheritsSpec.vars false W args.toList ds gs before) (hL:laidMetH Tryz.prog Rows.treeInheritsRow.laid W) (hS:W.ShapedOpen Tryz.prog) :
  Calls Tryz.prog 3 args W λe W'=>∃ v,e=.returned v/\Rows.treeInheritsSpec.post enc Tryz.prog Tryz.f3 false true false false W args v W':=by
 have hW':=hW
 obtain ⟨p,q,a,hV,rfl,M,N⟩:=hW
 have hA:DataW.TrodAll enc Tryz.prog W 0 (λ_=>true) true Tryz.f3.params.toList args.toList ds p:=a
 rw [Tryz.params3] at hA hval
 obtain ⟨c,O,Y,P,Z,q0,d,rfl,rfl,f,y⟩:=trodAll_cons hA
 obtain ⟨g,Q,d1,R,p1,q1,i,rfl,rfl,A,B⟩:=trodAll_cons y
 obtain ⟨k,T,d2,U,p2,q2,l,rfl,rfl,m,C⟩:=trodAll_cons B
 obtain ⟨rfl,rfl,rfl⟩:=trodAll_nil C
 obtain rfl:args=#[c,g,k]:=by cases args;simp_all
 obtain ⟨rfl,rfl⟩:=trodVars_none hV
 obtain ⟨D,E,F,rfl,hb0,o,s,V⟩:=Q7 B1 FK kR (hval 0 22 c rfl rfl) f
 obtain ⟨G,rfl,rfl,rfl,b⟩:=open_int FK (hval 1 5 g rfl rfl) A
 obtain ⟨J,K,L,rfl,hb2,u,w,X⟩:=Q7 B1 FK kR (hval 2 22 k rfl rfl) m
 clear a
 simp only [FB] at hW'
 refine (O5 D E F G J K L W (A5j hL hS) hb0 o s b hb2 u w).mono λe W' ⟨he,bel⟩=>?_
 subst he
 exact ⟨_,rfl,_,_,_,[],_,[],hW',trodAll_mk1 (shut_bool u4_ _),(trodAll_cons_mk (RR XI kR kR f bel (λx hx=>hW'.lt x (by first | exact hx | (simp only [B9];simp_all)))) (trodAll_cons_mk (shut_int FK b) (trodAll_cons_mk (RR XI kR kR m bel (λx hx=>hW'.lt x (by first | exact hx | (simp only [B9];simp_all)))) trodAll_mk0))),rfl,bel.frame _,λh=>by cases h⟩
theorem Kn (os:Os):laidMet Tryz.prog Rows.treeInheritsRow.laid ((O6 os).forCall (λ_ _=>0) ⟨#[],#[.slice none 0 0,.int .u8 0,.slice none 0 0],[]⟩).memory :=
 laidMet_of_run' 8 kR kR
theorem MA (os:Os) {H:Type} (enc:TypeId × Value->H):∃ places,DataW.whole enc Tryz.prog ((O6 os).forCall (λ_ _=>0) ⟨#[],#[.slice none 0 0,.int .u8 0,.slice none 0 0],[]⟩).memory Tryz.f3.params.toList Rows.treeInheritsSpec.vars false #[Value.slice none 0 0,.int .u8 0,.slice none 0 0].toList 8=some ([.nil,.lit (.int .u8 0),.nil],[],places) :=
 ⟨[],kR⟩
theorem LX (os:Os) (started:os.Started) (H:Type) (enc:TypeId × Value->H) (F:Stop.Interp) :
    ReturnsInHanded {} Tryz.checked os 3 .any ((OpenSpec.ofChange Rows.treeInheritsSpec).preRow enc Tryz.prog Tryz.f3 Rows.treeInheritsRow.domain false Rows.treeInheritsRow.laid) (((OpenSpec.ofChange Rows.treeInheritsSpec).at F).post enc Tryz.prog Tryz.f3 false true false false):=by
  obtain ⟨places,hx⟩:=MA os enc
  refine returnsInHanded_of_row (C:=Tryz.checked) (s:=OpenSpec.ofChange Rows.treeInheritsSpec) own started kR func3
    (witness_row_at (enc:=enc) (C:=Tryz.checked) false (O6 os) #[.slice none 0 0,.int .u8 0,.slice none 0 0] rfl kR kR kR
      (OpenSpec.preRow_of_cond 8 hx kR (λk hk=>by cases hk) kR (Kn os))) ?_
  intro W base args ds gs before a hW _ b _ hL hS _
  exact Ko H enc W base args ds gs before a hW hL hS
theorem Na:Rows.TreeInheritsSaid :=
  OpenClaim.holds_of_cond 3 Tryz.f3 rfl rfl rfl rfl rfl rfl rfl ⟨rfl,rfl,rfl,rfl,rfl⟩ rfl rfl rfl rfl rfl kR func3 kR
    (dT kR) (by unfold Func.isWrapper;first | (rw [A7 (by decide +kernel)];kernel_rfl) | (rw [A2 (by decide +kernel)];exact ⟨rfl,rfl⟩))
    (λos started H enc _ F=>by rw [OpenClaim.pre_eq_preRow];exact LX os started H enc F)
theorem MC (f:FuncId) (fn:Func) (hf:Tryz.pinned.checked.prog.funcNamed "mezzotint/mezzotintlaw24.TreeInherits"=some f) (hfn:Tryz.pinned.checked.prog.funcs[f]?=some fn) :
  true=Tryz.pinned.checked.prog.looks []/\∀ (j:Nat) t,fn.params[j]?=some t->Tryz.pinned.checked.prog.wantsStandIn t=false:=by
 obtain rfl:f=3:=C3 ((show Tryz.prog.funcNamed "mezzotint/mezzotintlaw24.TreeInherits"=some 3 by kernel_rfl).symm.trans hf) |>.symm
 obtain rfl:fn=Tryz.f3:=(C3 (func3.symm.trans hfn)).symm
 refine ⟨kR,λj t ht=>?_⟩
 rw [Tryz.params3] at ht
 have a:=Array.mem_of_getElem? ht
 simp only [List.mem_toArray,A6,A5,As] at a
 rcases a with rfl | rfl | rfl
 · exact (show Tryz.prog.wantsStandIn 22=false by kernel_rfl)
 · exact (show Tryz.prog.wantsStandIn 5=false by kernel_rfl)
 · exact (show Tryz.prog.wantsStandIn 22=false by kernel_rfl)
theorem TreeInherits_holds:Rows.TreeInheritsCardSaid :=
 Claim7.holds_tied_plain_at .later [] _ _ _ _ Na (λ_ h=>by cases h) kR (λ_ h=>by cases h) treeInherits_row_tie rfl ⟨rfl,rfl⟩ kR rfl MC kR
#print axioms TreeInherits_holds
end
end Go.Proofs.YtiddobdioipidaaGreatDoor
