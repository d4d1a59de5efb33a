/-
  The walk over what is known of a frame: calls that end by a value that lies in memory, or by a panic. Over any program.
-/
import Derived.Test.YtjghbcjnplcleaaGreatDoorFwP
import Derived.Test.YtjghbcjnplcleaaGreatDoorFwD
import Derived.Test.YtjghbcjnplcleaaGreatDoorFwM
namespace Go.Proofs.YtjghbcjnplcleaaGreatDoor
open Go.RowKit
/-- a call's end: a value of which S tells, or a panic by an error's number -/
def EndsV {α : Type} (E : TypeId) (res : Except Int α) (S : α → Value → World → Prop) (S' : World → Prop) (e : Ending) (w : World) : Prop :=
  match res with
  | .ok a => ∃ v, e = .returned v ∧ S a v w
  | .error k => e = .panicked [{ v := .iface E (.int .i64 k), recovered := false }] ∧ S' w
theorem EndsV.ok {α : Type} {E : TypeId} {res : Except Int α} {S : α → Value → World → Prop} {S' : World → Prop} {e : Ending} {w : World} (a : α) (v : Value) (h : res = .ok a) (he : e = .returned v) (hs : S a v w) : EndsV E res S S' e w := by
  unfold EndsV; rw [h]; exact ⟨v, he, hs⟩
theorem EndsV.err {α : Type} {E : TypeId} {res : Except Int α} {S : α → Value → World → Prop} {S' : World → Prop} {w : World} (k : Int) (h : res = .error k) (hs : S' w) : EndsV E res S S' (.panicked [{ v := .iface E (.int .i64 k), recovered := false }]) w := by
  unfold EndsV; rw [h]; exact ⟨rfl, hs⟩
section
variable {P : Program} {n : Sh} {f : Fr}
theorem WL.cx {ops : Array Oper} {Q : Exit → Fr → World → Prop} {w : World} {rest : List Oper} {d ty : Nat} {pos : String} {aft : Array Edge} {F : FuncId} {xs : List Operand} {ats : Array TypeId} {vs : List Value} {α : Type}
    {E : TypeId} {res : Except Int α} {S : α → Value → World → Prop} {S' : World → Prop} (hb : HasBody P F) (hx : evs f xs = some vs) (hd : Nat.blt d n.n = true)
    (hc : Calls P F vs.toArray w (EndsV E res S S')) (herr : ∀ k w', res = .error k → S' w' → Q (.panic [{ v := .iface E (.int .i64 k), recovered := false }]) f w')
    (hok : ∀ a v w', res = .ok a → S a v w' → WL P n ops Q rest ((d, v) :: f) w') : WL P n ops Q (⟨some d, .call ⟨.value (.func F), xs.toArray, ats⟩, ty, pos, aft, none⟩ :: rest) f w := by
  cases hres : res with
  | ok a => exact WL.call (V := fun v : Value => v) hb hx hd (hc.mono fun e w' h => by rw [hres] at h; exact h) fun v w' h => hok a v w' hres h
  | error k => exact WL.cp hb hx (hc.mono fun e w' h => by rw [hres] at h; exact h) fun w' h => herr k w' hres h
end
theorem OwnM.touch' {α : Type} {L : Lay α} {e : TypeId} {B r : Nat} {w w1 : World} {v : Value} {l : List α} (h : OwnM L e B w v l) (hT : Touch w.heap.size r w w1) (hr : r < B) : OwnM L e B w1 v l :=
  h.same fun g hg => hT.block g (h.lt g hg).2 (by have := (h.lt g hg).1; omega)

section
variable {P : Program} {f : Fr}
theorem Pure.eqNil {x : Operand} {tx ty u : TypeId} {v : Value} (ht : P.underlying tx = some (.interface (P.methodsAt tx))) (hx : evo f x = some (.iface u v)) : Pure P (.binOp .eql tx x (.const .nilIface) ty) f (.bool false) := fun ρ hρ d ty' pos aft g w => by
  have h4 : ρ (.const .nilIface) = .nilIface := hρ _ _ rfl
  simp [execOp, hρ _ _ hx, h4, eqGuard, run_eql_held_nil w tx u v ht]
theorem Pure.eqNil0 {x : Operand} {tx ty : TypeId} (ht : P.underlying tx = some (.interface (P.methodsAt tx))) (hx : evo f x = some .nilIface) : Pure P (.binOp .eql tx x (.const .nilIface) ty) f (.bool true) := fun ρ hρ d ty' pos aft g w => by
  have h4 : ρ (.const .nilIface) = .nilIface := hρ _ _ rfl
  simp [execOp, hρ _ _ hx, h4, eqGuard_nil_constR, run_eql_nil_nil w tx ht]
end

end Go.Proofs.YtjghbcjnplcleaaGreatDoor
