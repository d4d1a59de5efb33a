/-
  The walk over what is known of a frame: nil tests, rows of structs made and copied. Over any program.
-/
import Derived.Test.YtjghbcjnplcleaaGreatDoorFwM
import Derived.Lib.SliceRun
namespace Go.Proofs.YtjghbcjnplcleaaGreatDoor
open Go.RowKit Go.WideShapes Go.ChangeShapes

/-- results, respelt -/
theorem rvE {a b : Value} (h : a = b) : Ending.returned a = .returned b := by rw [h]
theorem rbE {a b : Bool} (h : a = b) : Ending.returned (.bool a) = .returned (.bool b) := by rw [h]
theorem riE {k : IntKind} {a b : Int} (h : a = b) : Ending.returned (.int k a) = .returned (.int k b) := by rw [h]
/-- two results, the first of which lies in memory -/
theorem W.retc2 {P : Program} {fn : Func} {R : Ending → World → Prop} {f : Fr} {w : World} {t u : Tmp} {ty : TypeId} {b : Addr} {v x : Value} (hr : fn.results = #[.cell t ty, .tmp u])
    (ht : look f t = some (.pointer (some b))) (hv : (loadVar ty b).run P w = .ok v w) (hx : look f u = some x) (h : R (.returned (.tuple #[v, x])) w) : Post P fn R .ret f w := by
  unfold Post
  exact ⟨_, fun tmps hh => by
    have e1 := hh _ _ ht; have e2 := hh _ _ hx
    simp only [Array.getD_eq_getD_getElem?] at e1 e2
    simp [results, hr, e1, e2, asAddr, hv], h⟩
section
variable {P : Program} {n : Sh} {f : Fr}
theorem Pure.eqSN {x : Operand} {tx ty e : TypeId} {p : Option Addr} {m c : Nat} (hu : P.underlying tx = some (.slice e)) (hx : evo f x = some (.slice p m c)) : Pure P (.binOp .eql tx x (.const (.slice none 0 0)) ty) f (.bool p.isNone) := fun ρ hρ d ty' pos aft g w => by
  have h4 : ρ (.const (.slice none 0 0)) = .slice none 0 0 := hρ _ _ rfl
  simp [execOp, hρ _ _ hx, h4, eqGuard, Lib.run_eql_slice_nil w tx e p m c 0 0 hu]
theorem Pure.neSN {x : Operand} {tx ty e : TypeId} {p : Option Addr} {m c : Nat} (hu : P.underlying tx = some (.slice e)) (hx : evo f x = some (.slice p m c)) : Pure P (.binOp .neq tx x (.const (.slice none 0 0)) ty) f (.bool (!p.isNone)) := fun ρ hρ d ty' pos aft g w => by
  have h4 : ρ (.const (.slice none 0 0)) = .slice none 0 0 := hρ _ _ rfl
  simp [execOp, hρ _ _ hx, h4, eqGuard, run_neq_slice_nil_any w tx e p m c 0 0 hu]
theorem Pure.max2 {x y : Operand} {k k' : IntKind} {a b : Int} {ats : Array TypeId} (hx : evo f x = some (.int k a)) (hy : evo f y = some (.int k' b)) : Pure P (.call ⟨.builtin .max, #[x, y], ats⟩) f (.int k (if b > a then b else a)) := fun ρ hρ d ty pos aft g w => by
  simp [execOp, resolve, invoke, builtin, hρ _ _ hx, hρ _ _ hy, run_max_int2]
theorem Pure.min2 {x y : Operand} {k k' : IntKind} {a b : Int} {ats : Array TypeId} (hx : evo f x = some (.int k a)) (hy : evo f y = some (.int k' b)) : Pure P (.call ⟨.builtin .min, #[x, y], ats⟩) f (.int k (if b < a then b else a)) := fun ρ hρ d ty pos aft g w => by
  simp [execOp, resolve, invoke, builtin, hρ _ _ hx, hρ _ _ hy, run_min_int2]
theorem Pure.capS {at' e : TypeId} {x : Operand} {p : Option Addr} {l c : Nat} (hu : P.underlying at' = some (.slice e)) (hx : evo f x = some (.slice p l c)) : Pure P (.call ⟨.builtin .cap, #[x], #[at']⟩) f (.int .i64 (c : Int)) := fun ρ hρ d ty pos aft g w => by
  simp [execOp, resolve, invoke, builtin, Builtin.cap_, run_underlying hu, hρ _ _ hx, goInt]
theorem Pure.slmF {tx e : TypeId} {x y : Operand} {p : Option Addr} {l c sz : Nat} {i : Int} (hu : P.underlying tx = some (.slice e)) (hs : ∀ w, (sizeOf e).run P w = .ok sz w) (hx : evo f x = some (.slice p l c))
    (hi : evo f y = some (.int .i64 i)) (a : Nat) (ei : i = a) (ham : a ≤ l) : Pure P (.slice tx x (some y) none none) f (.slice (pPartM sz p c a) (l - a) (c - a)) := fun ρ hρ d ty pos aft g w => by
  subst ei
  simp [execOp, Instr.sliceAt, Instr.slice, Instr.sliceBounds, run_sliceBound, hρ _ _ hx, hρ _ _ hi, run_underlying hu, hs, ham, pPartM]
theorem Pure.slmT {tx e : TypeId} {x z : Operand} {p : Option Addr} {l c sz : Nat} {j : Int} (hu : P.underlying tx = some (.slice e)) (hs : ∀ w, (sizeOf e).run P w = .ok sz w) (hx : evo f x = some (.slice p l c))
    (hj : evo f z = some (.int .i64 j)) (b : Nat) (ej : j = b) (hbc : b ≤ c) : Pure P (.slice tx x none (some z) none) f (.slice (pPartM sz p c 0) b c) := fun ρ hρ d ty pos aft g w => by
  subst ej
  simp [execOp, Instr.sliceAt, Instr.slice, Instr.sliceBounds, run_sliceBound, hρ _ _ hx, hρ _ _ hj, run_underlying hu, hs, hbc, pPartM]
theorem Pure.slm3 {tx e : TypeId} {x z u : Operand} {p : Option Addr} {l c sz : Nat} {j m : Int} (hu : P.underlying tx = some (.slice e)) (hs : ∀ w, (sizeOf e).run P w = .ok sz w) (hx : evo f x = some (.slice p l c))
    (hj : evo f z = some (.int .i64 j)) (hm : evo f u = some (.int .i64 m)) (b : Nat) (ej : j = b) (em : m = b) (hbc : b ≤ c) : Pure P (.slice tx x none (some z) (some u)) f (.slice (pPartM sz p b 0) b b) := fun ρ hρ d ty pos aft g w => by
  subst ej; subst em
  simp [execOp, Instr.sliceAt, Instr.slice, Instr.sliceBounds, run_sliceBound, hρ _ _ hx, hρ _ _ hj, hρ _ _ hm, run_underlying hu, hs, hbc, pPartM]
theorem pPartM_zero (m : Nat) (p : Option Addr) (c : Nat) : pPartM m p c 0 = p := by
  unfold pPartM
  split
  · rfl
  · cases p with
    | none => rfl
    | some a => simp [add_zero_addr]
theorem RowM.partF {α : Type} {L : Lay α} {w : World} {p : Option Addr} {l : List α} {c a : Nat} (h : RowM L w p l) (ha : a ≤ l.length) (hc : l.length ≤ c) : RowM L w (pPartM L.m p c a) (l.drop a) := by
  have := h.part (c := c) (a := a) (b := l.length) ha (Nat.le_refl _) hc
  rw [List.take_of_length_le (by rw [List.length_drop]; exact Nat.le_refl _)] at this
  exact this
theorem RowM.partT {α : Type} {L : Lay α} {w : World} {p : Option Addr} {l : List α} {c : Nat} (h : RowM L w p l) (b : Nat) (hb : b ≤ l.length) (hc : l.length ≤ c) : RowM L w (pPartM L.m p c 0) (l.take b) := by
  have := h.part (c := c) (a := 0) (b := b) (Nat.zero_le _) hb hc
  rw [List.drop_zero, Nat.sub_zero] at this
  exact this
/-- the address of an element of several cells -/
theorem Pure.ixm {tx e : TypeId} {x y : Operand} {p : Option Addr} {l c sz : Nat} {i : Int} {k : IntKind} (hu : P.underlying tx = some (.slice e)) (hs : ∀ w, (sizeOf e).run P w = .ok sz w) (hx : evo f x = some (.slice p l c))
    (hi : evo f y = some (.int k i)) (hp : p = some (pA p)) (j : Nat) (e' : i = j) (hj : j < l) : Pure P (.indexAddr tx x y) f (.pointer (some ((pA p).add (j * sz)))) :=
  Pure.ixa hu hs (by rw [hx]; rw [← hp]) hi j e' hj
theorem RowM.field {α : Type} {L : Lay α} {w : World} {p : Option Addr} {l : List α} (h : RowM L w p l) (k : Nat) (hk : k < l.length) (i : Nat) (hi : i < L.m) : w.cell? (((pA p).add (k * L.m)).add i) = (L.V l[k])[i]? := by
  rw [add_add]; exact h.cells k hk i hi
theorem run_equalIn_ptr_nil (w : World) (d : Nat) (t e : TypeId) (a : Option Addr) (h : P.underlying t = some (.pointer e)) :
    (Op.equalIn (d + 1) t (.pointer a) (.pointer none)).run P w = .ok a.isNone w := by
  cases a <;> simp [Op.equalIn, run_underlying h]
theorem Pure.eqP {x : Operand} {tx ty e : TypeId} {a : Option Addr} (hu : P.underlying tx = some (.pointer e)) (hx : evo f x = some (.pointer a)) : Pure P (.binOp .eql tx x (.const (.pointer none)) ty) f (.bool a.isNone) := fun ρ hρ d ty' pos aft g w => by
  have h4 : ρ (.const (.pointer none)) = .pointer none := hρ _ _ rfl
  have h5 : (binOp .eql tx (.pointer a) (.pointer none)).run P w = .ok (.bool a.isNone) w := by
    simp only [binOp]
    simp [Op.equal, Op.maxDepth, run_equalIn_ptr_nil w 9999 tx e a hu]
  simp [execOp, hρ _ _ hx, h4, eqGuard, h5]
theorem Pure.neP {x : Operand} {tx ty e : TypeId} {a : Option Addr} (hu : P.underlying tx = some (.pointer e)) (hx : evo f x = some (.pointer a)) : Pure P (.binOp .neq tx x (.const (.pointer none)) ty) f (.bool (!a.isNone)) := fun ρ hρ d ty' pos aft g w => by
  have h4 : ρ (.const (.pointer none)) = .pointer none := hρ _ _ rfl
  have h5 : (binOp .neq tx (.pointer a) (.pointer none)).run P w = .ok (.bool (!a.isNone)) w := by
    simp only [binOp]
    simp [Op.equal, Op.maxDepth, run_equalIn_ptr_nil w 9999 tx e a hu]
  simp [execOp, hρ _ _ hx, h4, eqGuard, h5]
end

end Go.Proofs.YtjghbcjnplcleaaGreatDoor
