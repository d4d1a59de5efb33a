/-
  The walk over what is known of a frame: deferred calls, recover. Over any program.
-/
import Derived.Test.YtjghbcjnplcleaaGreatDoorFwS
import Derived.Recover
namespace Go.Proofs.YtjghbcjnplcleaaGreatDoor
open Go.RowKit

section
variable {P : Program} {n : Sh} {fn : Func} {R : Ending → World → Prop} {f : Fr} {w : World}

/-- the slots hold what is known -/
def Holds (f : Fr) (tmps : Array Value) : Prop := ∀ i u, look f i = some u → tmps.getD i undef = u
/-- where a function that defers comes to its door -/
def PostD (P : Program) (fn : Func) (R : Ending → World → Prop) (D : List Deferred) : Exit → Fr → World → Prop
  | .normal, f, w | .ret, f, w => ∀ tmps, Holds f tmps → Leaves P fn tmps R D .returning w
  | .panic chain, f, w => ∀ tmps, Holds f tmps → Leaves P fn tmps R D (.panicking chain) w
  | .outgrown, _, w => R .outgrown w
  | _, _, _ => False
def WD (P : Program) (n : Sh) (fn : Func) (R : Ending → World → Prop) (c : Code) (f : Fr) (w : World) : Prop := ∀ a, Rep n f a → c.wp P (bodyPostD P fn R) a w
theorem postD_of {e : Exit} {a : Act} {w : World} (h : lift n (PostD P fn R n.D) e a w) : bodyPostD P fn R e a w := by
  obtain ⟨f, hr, hQ⟩ := h
  cases e with
  | normal => have := hQ a.tmps hr.2.2; rw [← hr.1] at this; exact this
  | ret => have := hQ a.tmps hr.2.2; rw [← hr.1] at this; exact this
  | panic ch => have := hQ a.tmps hr.2.2; rw [← hr.1] at this; exact this
  | outgrown => exact hQ
  | exit i => exact hQ.elim
  | goto l => exact hQ.elim
theorem WD.of {c : Code} (h : W P n c (PostD P fn R n.D) f w) : WD P n fn R c f w := by
  unfold W at h
  exact fun a ha => wp_mono (h a ha) fun _ _ _ => postD_of
theorem WD.seq {x y : Code} (h : W P n x (nx (fun f w => WD P n fn R y f w) (PostD P fn R n.D)) f w) : WD P n fn R (.seq x y) f w := by
  unfold W at h
  intro a ha
  refine wp_seq (wp_mono (h a ha) ?_)
  rintro e a' w' ⟨f', hr, hQ⟩
  cases e with
  | normal => exact hQ a' hr
  | exit i => exact postD_of (P := P) (fn := fn) (R := R) (n := n) (w := w') (e := .exit i) ⟨f', hr, hQ⟩
  | goto l => exact postD_of (P := P) (fn := fn) (R := R) (n := n) (w := w') (e := .goto l) ⟨f', hr, hQ⟩
  | ret => exact postD_of (P := P) (fn := fn) (R := R) (n := n) (w := w') (e := .ret) ⟨f', hr, hQ⟩
  | panic ch => exact postD_of (P := P) (fn := fn) (R := R) (n := n) (w := w') (e := .panic ch) ⟨f', hr, hQ⟩
  | outgrown => exact postD_of (P := P) (fn := fn) (R := R) (n := n) (w := w') (e := .outgrown) ⟨f', hr, hQ⟩
/-- a closure is made and deferred -/
theorem WD.defer {y : Code} {id d ty ty2 : Nat} {pos pos2 : String} {aft aft2 : Array Edge} {F : FuncId} {caps : List Operand} {vs : List Value} (hcap : evs f caps = some vs) (hd : Nat.blt d n.n = true)
    (h : WD P ⟨n.n, ⟨.fn (.func F) vs.toArray, #[]⟩ :: n.D⟩ fn R y ((d, .func (.func F) #[] vs.toArray) :: f) w) :
    WD P n fn R (.seq (.region id [⟨some d, .makeFunc (.func F) #[] caps.toArray, ty, pos, aft, none⟩, ⟨none, .defer ⟨.value (.tmp d), #[], #[]⟩, ty2, pos2, aft2, none⟩].toArray false) y) f w := by
  intro a ha
  refine wp_seq (wp_region_lit ?_)
  have hmk : (Instr.makeFunc (.func F) #[] (vs.toArray)).run P w = .ok (.func (.func F) #[] vs.toArray) w := rfl
  have e1 : caps.toArray.map a.eval = vs.toArray := by rw [List.map_toArray, evs_map ha.agr _ _ hcap]
  have ha2 := ha.put hd (.func (.func F) #[] vs.toArray)
  have e2 : (a.put (some d) (.func (.func F) #[] vs.toArray)).eval (.tmp d) = .func (.func F) #[] vs.toArray := ha2.agr _ _ (by simp [evo, look, Nat.beq_refl])
  unfold wpList
  rw [if_pos (by simp [Region.wanted])]
  refine Or.inl ?_
  unfold Oper.wp execOp
  simp only [e1, Sem.run_bind, hmk, Result.andThen_ok, Sem.run_pure, List.map_toArray, List.map_nil]
  rw [Oper.upon_value]
  unfold wpList
  rw [if_pos (by simp [Region.wanted])]
  refine Or.inl ?_
  unfold Oper.wp execOp
  simp only [resolve, Deferred.ofValue, e2, Sem.run_bind, Sem.run_pure, Result.andThen_ok, Array.append_empty, List.map_toArray, List.map_nil]
  rw [Oper.upon_defer]
  exact wpList_nil (h _ ⟨by show _ :: _ = _ :: _; rw [ha2.1], ha2.2.1, ha2.2.2⟩)
theorem W.enterD {F : FuncId} {c : Code} {args : Array Value} (hf : P.funcs[F]? = some fn) (hb : fn.body = some c)
    {k : Nat} (hn : fn.ntmps = k) (hl : args.size ≤ k) (h : WD P ⟨k, []⟩ fn R c (number 0 args.toList) w) : Calls P F args w R := by
  refine calls_of_wp_defers hf hb (h _ ⟨rfl, by simp [hn]; omega, ?_⟩)
  intro i v hv
  obtain ⟨j, e, hj⟩ := number_look _ _ _ _ hv
  obtain rfl : i = j := by omega
  have hlt : i < args.size := by
    rcases Nat.lt_or_ge i args.size with h | h
    · exact h
    · rw [List.getElem?_eq_none (by simpa using h)] at hj; cases hj
  have hj' : args[i]? = some v := by rw [← Array.getElem?_toList]; exact hj
  simp only [Array.getD_eq_getD_getElem?]
  rw [Array.getElem?_append_left hlt, hj']; rfl
theorem run_callFunc_body {F : FuncId} {g : Func} (h1 : P.funcs[F]? = some g) (h2 : g.body ≠ none) (h3 : g.name ≠ "runtime.NumGoroutine") (args : Array Value) (w : World) : (callFunc F args).run P w = .ok (.enter F args) w := by
  cases hb : g.body with
  | none => exact absurd hb h2
  | some c => simp [callFunc, h1, h3, hb]
/-- no deferred call is left -/
theorem PostD.ret0 {v : Value} (hv : ResOk P fn f w v) (h : R (.returned v) w) : PostD P fn R [] .ret f w := fun tmps ht => ⟨v, hv tmps ht, h⟩
theorem PostD.pn0 {chain : List PanicEntry} (h : R (.panicked chain) w) : PostD P fn R [] (.panic chain) f w := fun _ _ => h
theorem PostD.norm {D : List Deferred} (h : PostD P fn R D .ret f w) : PostD P fn R D .normal f w := h
/-- the door of a function with one deferred closure that hands nothing back: behind a return -/
theorem PostD.ret {F : FuncId} {vs : List Value} (hb : HasBody P F) (S : World → Prop)
    (hc : CallsD P F vs.toArray .returning w fun e u' w' => u' = .returning ∧ (∃ v, e = .returned v) ∧ S w')
    (hr : ∀ w', S w' → ∃ v, ResOk P fn f w' v ∧ R (.returned v) w') : PostD P fn R [⟨.fn (.func F) vs.toArray, #[]⟩] .ret f w := by
  intro tmps ht
  obtain ⟨g, h1, h2, h3⟩ := hb
  refine leaves_cons (f := F) (args := vs.toArray) (by simp) ?_ (hc.mono ?_)
  · simp only [invoke, Array.empty_append]
    exact run_callFunc_body h1 h2 h3 _ _
  · rintro e u' w' ⟨rfl, ⟨v, rfl⟩, hS⟩
    obtain ⟨v, hv, hR⟩ := hr w' hS
    exact ⟨v, hv tmps ht, hR⟩
/-- .. behind a panic that it catches -/
theorem PostD.caught {F : FuncId} {vs : List Value} {v0 : Value} (hb : HasBody P F) (S : World → Prop)
    (hc : CallsD P F vs.toArray (.panicking [{ v := v0, recovered := false }]) w fun e u' w' => u' = .panicking [{ v := v0, recovered := true }] ∧ (∃ v, e = .returned v) ∧ S w')
    (hr : ∀ w', S w' → ∃ v, ResOk P fn f w' v ∧ R (.returned v) w') : PostD P fn R [⟨.fn (.func F) vs.toArray, #[]⟩] (.panic [{ v := v0, recovered := false }]) f w := by
  intro tmps ht
  obtain ⟨g, h1, h2, h3⟩ := hb
  refine leaves_cons (f := F) (args := vs.toArray) (by simp) ?_ (hc.mono ?_)
  · simp only [invoke, Array.empty_append]
    exact run_callFunc_body h1 h2 h3 _ _
  · rintro e u' w' ⟨rfl, ⟨v, rfl⟩, hS⟩
    obtain ⟨v, hv, hR⟩ := hr w' hS
    exact ⟨v, hv tmps ht, hR⟩

-- the closure that recovers

/-- what recover hands back, and the mode of the frame behind it -/
def recM : FrameMode → Value × FrameMode
  | .panicking ({ v, recovered := false, goexit := false } :: older) => (v, .panicking ({ v, recovered := true } :: older))
  | m => (.nilIface, m)
theorem recoverD_recM (c₀ : Frame) (cs : List Frame) : recoverD (c₀ :: cs) = some ((recM c₀.mode).1, { c₀ with mode := (recM c₀.mode).2 } :: cs) ∨ recoverD (c₀ :: cs) = none ∧ recM c₀.mode = (.nilIface, c₀.mode) := by
  unfold recoverD recM
  simp only
  split
  · next h => rw [h]; exact Or.inl rfl
  · next h =>
    refine Or.inr ⟨rfl, ?_⟩
    split
    · next h2 => exact absurd h2 (h _ _)
    · rfl
theorem wpS_region_rec {id d ty : Nat} {pos : String} {aft : Array Edge} {ats : Array TypeId} {l : List Oper} {Q : Exit → Act → List Frame → World → Prop} {a : Act} {c₀ : Frame} {cs : List Frame} {Q0 : Exit → Act → World → Prop}
    (h : wpList P (⟨some d, .call ⟨.builtin .recover, #[], ats⟩, ty, pos, aft, none⟩ :: l).toArray Q0 l (a.put (some d) (recM c₀.mode).1) w)
    (hmono : ∀ e a w, Q0 e a w → Q e a ({ c₀ with mode := (recM c₀.mode).2 } :: cs) w) :
    (Code.region id (⟨some d, .call ⟨.builtin .recover, #[], ats⟩, ty, pos, aft, none⟩ :: l).toArray false).wpS P Q a (c₀ :: cs) w := by
  intro b k hb hro
  generalize ho : (⟨some d, .call ⟨.builtin .recover, #[], ats⟩, ty, pos, aft, none⟩ : Oper) = o at h ⊢
  have h' : wpOps P (o :: l).toArray Q0 (List.range' 1 l.length) (a.put (some d) (recM c₀.mode).1) w := by
    rw [wpOps_eq_wpList l 1 (fun j => by simp [Nat.add_comm 1 j])]; exact h
  obtain ⟨e, a', w', hq, harr⟩ := wp_ops _ _ _ h' b k ({ c₀ with mode := (recM c₀.mode).2 } :: cs)
  refine ⟨e, a', _, w', hmono _ _ _ hq, .of_steps (.head step_region (.one (step_lone_go ?_))) harr⟩
  have hrange : List.range (o :: l).toArray.size = 0 :: List.range' 1 l.length := by
    rw [List.range_eq_range']; simp [List.range'_succ]
  rw [hrange]
  have hg := stepG_op (P := P) (b := b) (k := k) (cs := c₀ :: cs) (w := w) (a := a) (ops := (o :: l).toArray) (i := 0) (rest := List.range' 1 l.length) (o := o) (by simp) (by subst ho; simp [Region.wanted])
  have hfin : ∀ v, (b.at a (.inRegion (o :: l).toArray (0 :: List.range' 1 l.length) :: k)).finish v = b.at (a.put (some d) v) (.inRegion (o :: l).toArray (List.range' 1 l.length) :: k) := by
    intro v; rw [Frame.finish_at]; subst ho; rfl
  have hk : (b.at a (.inRegion (o :: l).toArray (0 :: List.range' 1 l.length) :: k)).kind = .deferred := hb
  have htr := tryRecover_deferred hk (c₀ :: cs)
  have hrun : (execOp a.eval o).run P w = .ok .recover w := by
    subst ho; simp [execOp, resolve, invoke, builtin]
  rw [hg, ← hfin]
  rcases recoverD_recM c₀ cs with hrec | ⟨hrec, hm⟩
  · rw [hrec] at htr
    simp only [Frame.at] at htr ⊢
    simp [stepG.apply, hrun, htr]
  · rw [hrec] at htr
    rw [hm]
    simp only [Frame.at] at htr ⊢
    simp [stepG.apply, hrun, htr]
/-- a deferred closure whose first statement recovers -/
theorem CallsD.rec {F : FuncId} {id d ty k : Nat} {pos : String} {aft : Array Edge} {ats : Array TypeId} {l : List Oper} {y : Code} {args : Array Value} {u : FrameMode} {R : Ending → World → Prop} (hf : P.funcs[F]? = some fn)
    (hb : fn.body = some (.seq (.region id (⟨some d, .call ⟨.builtin .recover, #[], ats⟩, ty, pos, aft, none⟩ :: l).toArray false) y)) (hn : fn.ntmps = k) (hl : args.size ≤ k) (hd : Nat.blt d k = true)
    (h : WL P ⟨k, []⟩ (⟨some d, .call ⟨.builtin .recover, #[], ats⟩, ty, pos, aft, none⟩ :: l).toArray (nx (fun f w => W P ⟨k, []⟩ y (Post P fn R) f w) (Post P fn R)) l ((d, (recM u).1) :: number 0 args.toList) w) :
    CallsD P F args u w fun e u' w' => u' = (recM u).2 ∧ R e w' := by
  refine callsD_of_wpS hf hb fun c₀ cs hu => wpS_seq ?_
  have hrep : Rep ⟨k, []⟩ (number 0 args.toList) { tmps := args ++ Array.replicate (fn.ntmps - args.size) undef, defers := [] } := by
    refine ⟨rfl, by simp [hn]; omega, fun i v hv => ?_⟩
    obtain ⟨j, e, hj⟩ := number_look _ _ _ _ hv
    obtain rfl : i = j := by omega
    have hlt : i < args.size := by
      rcases Nat.lt_or_ge i args.size with h | h
      · exact h
      · rw [List.getElem?_eq_none (by simpa using h)] at hj; cases hj
    have hj' : args[i]? = some v := by rw [← Array.getElem?_toList]; exact hj
    simp only [Array.getD_eq_getD_getElem?]
    rw [Array.getElem?_append_left hlt, hj']; rfl
  subst hu
  have hlast : ∀ e a w, lift ⟨k, []⟩ (Post P fn R) e a w → bodyPostS P fn c₀ cs (fun e u' w' => u' = (recM c₀.mode).2 ∧ R e w') e a ({ c₀ with mode := (recM c₀.mode).2 } :: cs) w := by
    rintro e a w ⟨f, hr, hQ⟩
    unfold Post at hQ
    cases e with
    | normal => obtain ⟨v, h1, h2⟩ := hQ; exact ⟨hr.1, _, rfl, v, h1 _ hr.2.2, rfl, h2⟩
    | ret => obtain ⟨v, h1, h2⟩ := hQ; exact ⟨hr.1, _, rfl, v, h1 _ hr.2.2, rfl, h2⟩
    | panic ch => exact ⟨hr.1, _, rfl, rfl, hQ⟩
    | outgrown => exact ⟨_, rfl, hQ⟩
    | exit i => exact hQ.elim
    | goto l => exact hQ.elim
  unfold WL at h
  have := h _ (hrep.put hd (recM c₀.mode).1)
  refine wpS_region_rec this ?_
  rintro e a w ⟨f, hr, hQ⟩
  cases e with
  | normal =>
    have hQ' : W P ⟨k, []⟩ y (Post P fn R) f w := hQ
    unfold W at hQ'
    exact wpS_of_wp (wp_mono (hQ' a hr) fun e a w hh => hlast e a w hh)
  | _ => exact hlast _ _ _ ⟨f, hr, hQ⟩
/-- nothing panics here -/
def noPn (Q : Exit → Fr → World → Prop) : Exit → Fr → World → Prop
  | .panic _, _, _ => False
  | e, f, w => Q e f w
theorem W.noPn {c : Code} {Q : Exit → Fr → World → Prop} (h : W P n c (noPn Q) f w) : W P n c Q f w := h.mono fun e f w h => by
  cases e with
  | panic ch => exact h.elim
  | normal => exact h
  | ret => exact h
  | exit i => exact h
  | goto l => exact h
  | outgrown => exact h
/-- an interface's value against nil -/
theorem Pure.neNil {x : Operand} {tx ty u : TypeId} {v : Value} (ht : P.underlying tx = some (.interface (P.methodsAt tx))) (hx : evo f x = some (.iface u v)) : Pure P (.binOp .neq tx x (.const .nilIface) ty) f (.bool true) := fun ρ hρ d ty' pos aft g w => by
  have h4 : ρ (.const .nilIface) = .nilIface := hρ _ _ rfl
  simp [execOp, hρ _ _ hx, h4, eqGuard, run_neq_held_nil w tx u v ht]
theorem Pure.neNil0 {x : Operand} {tx ty : TypeId} (ht : P.underlying tx = some (.interface (P.methodsAt tx))) (hx : evo f x = some .nilIface) : Pure P (.binOp .neq tx x (.const .nilIface) ty) f (.bool false) := fun ρ hρ d ty' pos aft g w => by
  have h4 : ρ (.const .nilIface) = .nilIface := hρ _ _ rfl
  simp [execOp, hρ _ _ hx, h4, eqGuard_nil_constR, run_neq_nil_nil w tx ht]
/-- x.(T), where it holds -/
theorem Pure.tas {x : Operand} {tx t : TypeId} {v : Value} {k : IntKind} (hu : P.underlying t = some (.int k)) (hx : evo f x = some (.iface t v)) : Pure P (.typeAssert x tx t true) f (.tuple #[v, .bool true]) := fun ρ hρ d ty' pos aft g w => by
  simp [execOp, hρ _ _ hx, Instr.typeAssert, run_underlying hu]
theorem ldCell {t tb : TypeId} {b o : Nat} {cs : Array Value} {v : Value} {w : World} (hb : Blk w b cs tb) (ha : (isAgg t).run P w = .ok false w) (hv : cs[o]? = some v) : (loadVar t ⟨b, o, none⟩).run P w = .ok v w := by
  have hc := (hb.cell o).trans hv
  simp [loadVar, ha, hc]
theorem ResOk.cells3 {a b c : Tmp} {ta tb tc : TypeId} {pa pb pc : Addr} {x y z : Value} (hr : fn.results = #[.cell a ta, .cell b tb, .cell c tc]) (ha : look f a = some (.pointer (some pa))) (hb : look f b = some (.pointer (some pb))) (hc : look f c = some (.pointer (some pc)))
    (hx : (loadVar ta pa).run P w = .ok x w) (hy : (loadVar tb pb).run P w = .ok y w) (hz : (loadVar tc pc).run P w = .ok z w) : ResOk P fn f w (.tuple #[x, y, z]) := fun tmps hh => by
  have e1 := hh _ _ ha; have e2 := hh _ _ hb; have e3 := hh _ _ hc
  simp only [Array.getD_eq_getD_getElem?] at e1 e2 e3
  simp [results, hr, e1, e2, e3, asAddr, hx, hy, hz]
end

end Go.Proofs.YtjghbcjnplcleaaGreatDoor
