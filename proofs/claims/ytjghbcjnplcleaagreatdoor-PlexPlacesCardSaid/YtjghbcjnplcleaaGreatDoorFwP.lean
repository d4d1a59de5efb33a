/-
  The walk over what is known of a frame: function values that are called, arrays in memory that are sliced. Over any program.
-/
import Derived.Test.YtjghbcjnplcleaaGreatDoorFwN
namespace Go.Proofs.YtjghbcjnplcleaaGreatDoor
open Go.RowKit Go.WideShapes Go.ChangeShapes
section
variable {P : Program} {n : Sh} {f : Fr}
theorem run_callV {F : FuncId} (hb : HasBody P F) {ρ : Operand → Value} (hρ : Agr f ρ) {x : Operand} {first cap args : Array Value} (hf : evo f x = some (.func (.func F) first cap)) {xs : List Operand} {vs : List Value} (hx : evs f xs = some vs) (ha : first ++ vs.toArray ++ cap = args)
    {ats : Array TypeId} (d : Option Tmp) (ty : TypeId) (pos : String) (aft : Array Edge) (g : Option (Nat × Bool)) (w : World) :
    (execOp ρ ⟨d, .call ⟨.value x, xs.toArray, ats⟩, ty, pos, aft, g⟩).run P w = .ok (.enter F args) w := by
  obtain ⟨fn, h1, h2, h3⟩ := hb
  have e := evs_map hρ _ _ hx
  have hfn : ρ x = .func (.func F) first cap := hρ _ _ hf
  have hargs : xs.toArray.map ρ = vs.toArray := by simp [e]
  subst ha
  unfold execOp
  simp only [resolve, hargs, hfn]
  simp [Deferred.ofValue, invoke, callFunc, run_program, h1, h2, h3]
/-- a function value is called -/
theorem WL.callv {ops : Array Oper} {Q : Exit → Fr → World → Prop} {w : World} {rest : List Oper} {d ty : Nat} {pos : String} {aft : Array Edge} {F : FuncId} {x : Operand} {first cap args : Array Value} {xs : List Operand} {ats : Array TypeId} {vs : List Value} {α : Sort _}
    {V : α → Value} {S : α → World → Prop} (hb : HasBody P F) (hf : evo f x = some (.func (.func F) first cap)) (hx : evs f xs = some vs) (ha : first ++ vs.toArray ++ cap = args) (hd : Nat.blt d n.n = true)
    (hc : Calls P F args w fun e w' => ∃ t, e = .returned (V t) ∧ S t w') (k : ∀ t w', S t w' → WL P n ops Q rest ((d, V t) :: f) w') :
    WL P n ops Q (⟨some d, .call ⟨.value x, xs.toArray, ats⟩, ty, pos, aft, none⟩ :: rest) f w := by
  unfold WL at *
  intro a ha'
  refine wpList_plain rfl fun K hK => ?_
  unfold Oper.wp
  rw [run_callV hb ha'.agr hf hx ha, Oper.upon_enter]
  refine hc.mono ?_
  rintro e w' ⟨t, rfl, hS⟩
  exact hK _ _ (k t w' hS _ (ha'.put hd _))
theorem WL.cv1 {ops : Array Oper} {Q : Exit → Fr → World → Prop} {w : World} {rest : List Oper} {d ty : Nat} {pos : String} {aft : Array Edge} {F : FuncId} {x : Operand} {first cap args : Array Value} {xs : List Operand} {ats : Array TypeId} {vs : List Value}
    {V : Value} {S : World → Prop} (hb : HasBody P F) (hf : evo f x = some (.func (.func F) first cap)) (hx : evs f xs = some vs) (ha : first ++ vs.toArray ++ cap = args) (hd : Nat.blt d n.n = true)
    (hc : Calls P F args w fun e w' => e = .returned V ∧ S w') (k : ∀ w', S w' → WL P n ops Q rest ((d, V) :: f) w') :
    WL P n ops Q (⟨some d, .call ⟨.value x, xs.toArray, ats⟩, ty, pos, aft, none⟩ :: rest) f w :=
  WL.callv (α := Unit) (V := fun _ => V) (S := fun _ => S) hb hf hx ha hd (hc.mono fun _ _ h => ⟨(), h⟩) (fun _ => k)
/-- an array in memory, sliced -/
theorem Pure.sla {tx e : TypeId} {x : Operand} {p : Addr} {m sz : Nat} (hu : P.underlying tx = some (.array m e)) (hs : ∀ w, (sizeOf e).run P w = .ok sz w) (hx : evo f x = some (.pointer (some p))) :
    Pure P (.slice tx x none none none) f (.slice (some (if m = 0 then p else p.add (0 * sz))) m m) := fun ρ hρ d ty pos aft g w => by
  simp [execOp, Instr.sliceAt, Instr.sureAddr, Instr.sliceBounds, hρ _ _ hx, run_underlying hu, hs, Sem.run_bind]
theorem Pure.slaF {tx e : TypeId} {x y : Operand} {p : Addr} {m sz : Nat} {i : Int} (hu : P.underlying tx = some (.array m e)) (hs : ∀ w, (sizeOf e).run P w = .ok sz w) (hx : evo f x = some (.pointer (some p)))
    (hi : evo f y = some (.int .i64 i)) (a : Nat) (ei : i = a) (ham : a ≤ m) : Pure P (.slice tx x (some y) none none) f (.slice (some (if m = a then p else p.add (a * sz))) (m - a) (m - a)) := fun ρ hρ d ty pos aft g w => by
  subst ei
  simp [execOp, Instr.sliceAt, Instr.sureAddr, Instr.sliceBounds, run_sliceBound, hρ _ _ hx, hρ _ _ hi, run_underlying hu, hs, ham, Sem.run_bind]
theorem Pure.slaT {tx e : TypeId} {x z : Operand} {p : Addr} {m sz : Nat} {j : Int} (hu : P.underlying tx = some (.array m e)) (hs : ∀ w, (sizeOf e).run P w = .ok sz w) (hx : evo f x = some (.pointer (some p)))
    (hj : evo f z = some (.int .i64 j)) (b : Nat) (ej : j = b) (hbm : b ≤ m) : Pure P (.slice tx x none (some z) none) f (.slice (some (if m = 0 then p else p.add (0 * sz))) b m) := fun ρ hρ d ty pos aft g w => by
  subst ej
  simp [execOp, Instr.sliceAt, Instr.sureAddr, Instr.sliceBounds, run_sliceBound, hρ _ _ hx, hρ _ _ hj, run_underlying hu, hs, hbm, Sem.run_bind]
end

end Go.Proofs.YtjghbcjnplcleaaGreatDoor
