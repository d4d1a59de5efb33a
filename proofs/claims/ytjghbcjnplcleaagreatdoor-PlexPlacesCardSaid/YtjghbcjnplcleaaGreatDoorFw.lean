/-
  The walk over what is known of a frame: a list of slots and their values in the place of the whole frame. Over any program.
-/
import Derived.WalkKit
import Derived.Deep.QuietTactic
import Derived.StillTail
import Derived.Test.YtjghbcjnplcleaaGreatDoorMem
import Derived.Test.YtjghbcjnplcleaaGreatDoorDecA
namespace Go.Proofs.YtjghbcjnplcleaaGreatDoor
open Go.RowKit

/-- what is known of a frame: slots and values, the latest first -/
abbrev Fr := List (Nat × Value)
def look : Fr → Nat → Option Value
  | [], _ => none
  | (j, v) :: r, i => bif Nat.beq j i then some v else look r i
def evo (f : Fr) : Operand → Option Value
  | .tmp t => look f t
  | .const v => some v
  | .global g => some (.pointer (some ⟨g, 0, none⟩))
  | .func k => some (.func (.func k) #[] #[])
def Sub : Fr → Fr → Prop
  | [], _ => True
  | (j, v) :: g, f => look f j = some v ∧ Sub g f
theorem Sub.look {g f : Fr} (h : Sub g f) {i : Nat} {v : Value} (hv : look g i = some v) : look f i = some v := by
  induction g with
  | nil => cases hv
  | cons p g ih =>
    obtain ⟨j, u⟩ := p
    unfold Go.Proofs.YtjghbcjnplcleaaGreatDoor.look at hv
    cases hb : Nat.beq j i with
    | true =>
      rw [hb] at hv
      obtain rfl : j = i := Nat.eq_of_beq_eq_true hb
      rw [h.1]; exact hv
    | false => rw [hb] at hv; exact ih h.2 hv

/-- a frame's shape: its slots, its deferred calls -/
structure Sh where
  n : Nat
  D : List Deferred
/-- a frame of this shape of which this is known -/
def Rep (n : Sh) (f : Fr) (a : Act) : Prop := a.defers = n.D ∧ a.tmps.size = n.n ∧ ∀ i v, look f i = some v → a.tmps.getD i undef = v
theorem Rep.sub {n : Sh} {f g : Fr} {a : Act} (h : Rep n f a) (hs : Sub g f) : Rep n g a := ⟨h.1, h.2.1, fun i v hv => h.2.2 i v (hs.look hv)⟩
theorem Rep.put {n : Sh} {f : Fr} {a : Act} (h : Rep n f a) {d : Nat} (hd : Nat.blt d n.n = true) (v : Value) : Rep n ((d, v) :: f) (a.put (some d) v) := by
  have hdn : d < n.n := by simpa [Nat.blt_eq] using hd
  refine ⟨h.1, by simp [Act.put, h.2.1], fun i u hu => ?_⟩
  show (a.tmps.setIfInBounds d v).getD i undef = u
  unfold look at hu
  cases hb : Nat.beq d i with
  | true =>
    obtain rfl : d = i := Nat.eq_of_beq_eq_true hb
    simp only [hb, cond_true, Option.some.injEq] at hu
    subst hu
    simp [Array.getD, h.2.1, hdn]
  | false =>
    simp only [hb, cond_false] at hu
    have hne : d ≠ i := fun e => by rw [e, Nat.beq_refl] at hb; cases hb
    have := h.2.2 i u hu
    simp only [Array.getD_eq_getD_getElem?] at this ⊢
    rw [Array.getElem?_setIfInBounds_ne hne]; exact this
theorem Rep.put0 {n : Sh} {f : Fr} {a : Act} (h : Rep n f a) (v : Value) : Rep n f (a.put none v) := h
/-- an evaluation of operands that agrees with what is known -/
def Agr (f : Fr) (ρ : Operand → Value) : Prop := ∀ x v, evo f x = some v → ρ x = v
theorem Rep.agr {n : Sh} {f : Fr} {a : Act} (h : Rep n f a) : Agr f a.eval := by
  intro x v hx
  cases x with
  | tmp t => exact h.2.2 t v hx
  | const u => exact Option.some.inj hx
  | global g => exact Option.some.inj hx
  | func k => exact Option.some.inj hx

section
variable {P : Program} {n : Sh}

def lift (n : Sh) (Q : Exit → Fr → World → Prop) : Exit → Act → World → Prop := fun e a w => ∃ f, Rep n f a ∧ Q e f w
def W (P : Program) (n : Sh) (c : Code) (Q : Exit → Fr → World → Prop) (f : Fr) (w : World) : Prop := ∀ a, Rep n f a → c.wp P (lift n Q) a w
def WL (P : Program) (n : Sh) (ops : Array Oper) (Q : Exit → Fr → World → Prop) (l : List Oper) (f : Fr) (w : World) : Prop := ∀ a, Rep n f a → wpList P ops (lift n Q) l a w
/-- what comes next -/
def nx (K : Fr → World → Prop) (Q : Exit → Fr → World → Prop) : Exit → Fr → World → Prop
  | .normal, f, w => K f w
  | e, f, w => Q e f w
def inb (id : Nat) (Q : Exit → Fr → World → Prop) : Exit → Fr → World → Prop
  | .exit i, f, w => bif Nat.beq i id then Q .normal f w else Q (.exit i) f w
  | e, f, w => Q e f w

theorem W.weaken {c : Code} {Q : Exit → Fr → World → Prop} {f : Fr} {w : World} (g : Fr) (hs : Sub g f) (h : W P n c Q g w) : W P n c Q f w :=
  fun a ha => h a (ha.sub hs)
theorem W.mono {c : Code} {Q Q' : Exit → Fr → World → Prop} {f : Fr} {w : World} (h : W P n c Q f w) (hq : ∀ e f w, Q e f w → Q' e f w) : W P n c Q' f w :=
  fun a ha => wp_mono (h a ha) fun _ _ _ ⟨f', hr, hQ⟩ => ⟨f', hr, hq _ _ _ hQ⟩

theorem W.seq {x y : Code} {Q : Exit → Fr → World → Prop} {f : Fr} {w : World} (h : W P n x (nx (fun f w => W P n y Q f w) Q) f w) : W P n (.seq x y) Q f w := by
  intro a ha
  refine wp_seq (wp_mono (h a ha) ?_)
  rintro e a' w' ⟨f', hr, hQ⟩
  cases e with
  | normal => exact hQ a' hr
  | _ => exact ⟨f', hr, hQ⟩
/-- a cut: what stands behind is walked once, from what the relation tells -/
theorem W.cut {α : Type} (R : α → Fr) (S : α → World → Prop) {x y : Code} {Q : Exit → Fr → World → Prop} {f : Fr} {w : World}
    (h1 : W P n x (nx (fun f' w' => ∃ t, Sub (R t) f' ∧ S t w') Q) f w) (h2 : ∀ t w', S t w' → W P n y Q (R t) w') : W P n (.seq x y) Q f w := by
  refine W.seq (h1.mono ?_)
  intro e f' w' h
  cases e with
  | normal => obtain ⟨t, hs, ht⟩ := h; exact (h2 t w' ht).weaken _ hs
  | _ => exact h
theorem W.skip {Q : Exit → Fr → World → Prop} {f : Fr} {w : World} (h : Q .normal f w) : W P n .skip Q f w := fun _ ha => wp_skip ⟨f, ha, h⟩
theorem W.exit {Q : Exit → Fr → World → Prop} {f : Fr} {w : World} {id : Nat} (h : Q (.exit id) f w) : W P n (.exit id) Q f w := fun _ ha => wp_exit ⟨f, ha, h⟩
theorem W.ret {Q : Exit → Fr → World → Prop} {f : Fr} {w : World} (h : Q .ret f w) : W P n .ret Q f w := fun _ ha => wp_ret ⟨f, ha, h⟩
theorem W.block {Q : Exit → Fr → World → Prop} {f : Fr} {w : World} {id : Nat} {c : Code} (h : W P n c (inb id Q) f w) : W P n (.block id c) Q f w := by
  intro a ha
  refine wp_block (wp_mono (h a ha) ?_)
  rintro e a' w' ⟨f', hr, hQ⟩
  cases e with
  | exit i =>
    simp only [Exit.inBlock]
    by_cases hi : i = id
    · subst hi
      rw [if_pos rfl]
      simp only [inb, Nat.beq_refl, cond_true] at hQ
      exact ⟨f', hr, hQ⟩
    · rw [if_neg hi]
      have hb : Nat.beq i id = false := by
        cases h : Nat.beq i id with
        | false => rfl
        | true => exact absurd (Nat.eq_of_beq_eq_true h) hi
      simp only [inb, hb, cond_false] at hQ
      exact ⟨f', hr, hQ⟩
  | _ => exact ⟨f', hr, hQ⟩
theorem W.cond {Q : Exit → Fr → World → Prop} {f : Fr} {w : World} {c : Operand} {x y : Code} {t : Bool} (hc : evo f c = some (.bool t))
    (ht : t = true → W P n x Q f w) (hf : t = false → W P n y Q f w) : W P n (.cond c x y) Q f w :=
  fun a ha => wp_cond_split (ha.agr _ _ hc) (fun h => ht h a ha) (fun h => hf h a ha)
theorem W.condT {Q : Exit → Fr → World → Prop} {f : Fr} {w : World} {c : Operand} {x y : Code} {t : Bool} (hc : evo f c = some (.bool t)) (e : t = true)
    (h : W P n x Q f w) : W P n (.cond c x y) Q f w := W.cond hc (fun _ => h) (fun h' => by rw [e] at h'; cases h')
theorem W.condF {Q : Exit → Fr → World → Prop} {f : Fr} {w : World} {c : Operand} {x y : Code} {t : Bool} (hc : evo f c = some (.bool t)) (e : t = false)
    (h : W P n y Q f w) : W P n (.cond c x y) Q f w := W.cond hc (fun h' => by rw [e] at h'; cases h') (fun _ => h)
theorem W.loop {α : Type} (R : α → Fr) (S : α → World → Prop) (m : α → Nat) (t : α) {c : Code} {Q : Exit → Fr → World → Prop} {f : Fr} {w : World}
    (h0 : Sub (R t) f) (h1 : S t w) (round : ∀ t w, S t w → W P n c (nx (fun f' w' => ∃ u, Sub (R u) f' ∧ S u w' ∧ m u < m t) Q) (R t) w) : W P n (.loop c) Q f w := by
  intro a ha b k cs
  have key : ∀ k' t a w, m t = k' → Rep n (R t) a → S t w → ∃ e a' w', lift n Q e a' w' ∧ Arrives P (lone (b.at a (.code c :: .inLoop c :: k)) cs w) b k cs e a' w' := by
    intro k'
    induction k' using Nat.strongRecOn with
    | _ k' ih =>
      intro t a w hm hr hS
      obtain ⟨e, a1, w1, ⟨f1, hr1, hq⟩, harr⟩ := round t w hS a hr b (.inLoop c :: k) cs
      cases e with
      | normal =>
        obtain ⟨u, hs, hSu, hlt⟩ := hq
        obtain ⟨e2, a2, w2, hq2, harr2⟩ := ih (m u) (hm ▸ hlt) u a1 w1 rfl (hr1.sub hs) hSu
        exact ⟨e2, a2, w2, hq2, .of_steps (Steps.trans harr (.one step_inLoop)) harr2⟩
      | exit id => exact ⟨_, a1, w1, ⟨f1, hr1, hq⟩, .pass (x := .inLoop c) rfl (fun _ _ => .inl (by simp)) harr⟩
      | goto l => exact ⟨_, a1, w1, ⟨f1, hr1, hq⟩, .pass (x := .inLoop c) rfl (fun _ _ => .inl (by simp)) harr⟩
      | ret => exact ⟨_, a1, w1, ⟨f1, hr1, hq⟩, .pass (x := .inLoop c) rfl (fun _ _ => .inl (by simp)) harr⟩
      | panic ch => exact ⟨_, a1, w1, ⟨f1, hr1, hq⟩, .pass (x := .inLoop c) rfl (fun _ _ => .inl (by simp)) harr⟩
      | outgrown => exact ⟨_, a1, w1, ⟨f1, hr1, hq⟩, .pass (x := .inLoop c) rfl (fun _ _ => .inl (by simp)) harr⟩
  obtain ⟨e, a', w', hq, harr⟩ := key _ t a w rfl (ha.sub h0) h1
  exact ⟨e, a', w', hq, .of_steps (.one step_loop) harr⟩

theorem W.reg {Q : Exit → Fr → World → Prop} {f : Fr} {w : World} {id : Nat} {l : List Oper} (h : WL P n l.toArray Q l f w) : W P n (.region id l.toArray false) Q f w :=
  fun a ha => wp_region_lit (h a ha)

-- entering and leaving a function

def number : Nat → List Value → Fr
  | _, [] => []
  | k, v :: r => (k, v) :: number (k + 1) r
theorem number_look (l : List Value) : ∀ k i v, look (number k l) i = some v → ∃ j, i = k + j ∧ l[j]? = some v := by
  induction l with
  | nil => intro k i v h; cases h
  | cons u r ih =>
    intro k i v h
    unfold number look at h
    cases hb : Nat.beq k i with
    | true =>
      simp only [hb, cond_true, Option.some.injEq] at h
      exact ⟨0, (Nat.eq_of_beq_eq_true hb).symm, by simp [h]⟩
    | false =>
      simp only [hb, cond_false] at h
      obtain ⟨j, e, hj⟩ := ih (k + 1) i v h
      exact ⟨j + 1, by omega, by simpa using hj⟩

/-- what a function hands back -/
def ResOk (P : Program) (fn : Func) (f : Fr) (w : World) (v : Value) : Prop := ∀ tmps : Array Value, (∀ i u, look f i = some u → tmps.getD i undef = u) → (results fn tmps).run P w = .ok v w
def Post (P : Program) (fn : Func) (R : Ending → World → Prop) : Exit → Fr → World → Prop
  | .normal, f, w | .ret, f, w => ∃ v, ResOk P fn f w v ∧ R (.returned v) w
  | .panic chain, _, w => R (.panicked chain) w
  | .outgrown, _, w => R .outgrown w
  | _, _, _ => False

theorem W.enter {F : FuncId} {fn : Func} {c : Code} {args : Array Value} {w : World} {R : Ending → World → Prop} (hf : P.funcs[F]? = some fn) (hb : fn.body = some c)
    {k : Nat} (hn : fn.ntmps = k) (hl : args.size ≤ k) (h : W P ⟨k, []⟩ c (Post P fn R) (number 0 args.toList) w) : Calls P F args w R := by
  refine calls_of_wp hf hb (wp_mono (h _ ⟨rfl, by simp [hn]; omega, ?_⟩) ?_)
  · intro i v hv
    obtain ⟨j, e, hj⟩ := number_look _ _ _ _ hv
    obtain rfl : i = j := by omega
    have hlt : i < args.size := by
      rcases Nat.lt_or_ge i args.size with h | h
      · exact h
      · rw [List.getElem?_eq_none (by simpa using h)] at hj; cases hj
    have hj' : args[i]? = some v := by rw [← Array.getElem?_toList]; exact hj
    simp only [Array.getD_eq_getD_getElem?]
    rw [Array.getElem?_append_left hlt, hj']; rfl
  · rintro e a' w' ⟨f', hr, hQ⟩
    cases e with
    | normal => obtain ⟨v, h1, h2⟩ := hQ; exact ⟨hr.1, v, h1 _ hr.2.2, h2⟩
    | ret => obtain ⟨v, h1, h2⟩ := hQ; exact ⟨hr.1, v, h1 _ hr.2.2, h2⟩
    | panic ch => exact ⟨hr.1, hQ⟩
    | outgrown => exact hQ
    | exit i => exact hQ.elim
    | goto l => exact hQ.elim

theorem W.ret0 {fn : Func} {R : Ending → World → Prop} {f : Fr} {w : World} (hr : fn.results = #[]) (h : R (.returned (.tuple #[])) w) : Post P fn R .ret f w :=
  ⟨_, fun _ _ => results_none hr _ _ _, h⟩
theorem W.ret1 {fn : Func} {R : Ending → World → Prop} {f : Fr} {w : World} {t : Tmp} {v : Value} (hr : fn.results = #[.tmp t]) (hv : look f t = some v)
    (h : R (.returned v) w) : Post P fn R .ret f w :=
  ⟨v, fun tmps ht => by rw [results_tmp hr, ht _ _ hv], h⟩
theorem W.ret2 {fn : Func} {R : Ending → World → Prop} {f : Fr} {w : World} {t u : Tmp} {v x : Value} (hr : fn.results = #[.tmp t, .tmp u]) (hv : look f t = some v) (hx : look f u = some x)
    (h : R (.returned (.tuple #[v, x])) w) : Post P fn R .ret f w :=
  ⟨_, fun tmps ht => by rw [results_tmp2 hr, ht _ _ hv, ht _ _ hx], h⟩
theorem W.ret3 {fn : Func} {R : Ending → World → Prop} {f : Fr} {w : World} {t u s : Tmp} {v x y : Value} (hr : fn.results = #[.tmp t, .tmp u, .tmp s]) (hv : look f t = some v) (hx : look f u = some x) (hy : look f s = some y)
    (h : R (.returned (.tuple #[v, x, y])) w) : Post P fn R .ret f w :=
  ⟨_, fun tmps ht => by rw [show (results fn tmps).run P w = .ok (.tuple #[tmps.getD t undef, tmps.getD u undef, tmps.getD s undef]) w by simp [results, hr], ht _ _ hv, ht _ _ hx, ht _ _ hy], h⟩
/-- the first result lies in memory -/
theorem W.retc3 {fn : Func} {R : Ending → World → Prop} {f : Fr} {w : World} {t u s : Tmp} {ty : TypeId} {b : Addr} {v x y : Value} (hr : fn.results = #[.cell t ty, .tmp u, .tmp s])
    (ht : look f t = some (.pointer (some b))) (hv : (loadVar ty b).run P w = .ok v w) (hx : look f u = some x) (hy : look f s = some y)
    (h : R (.returned (.tuple #[v, x, y])) w) : Post P fn R .ret f w :=
  ⟨_, fun tmps hh => by
    have e1 := hh _ _ ht; have e2 := hh _ _ hx; have e3 := hh _ _ hy
    simp only [Array.getD_eq_getD_getElem?] at e1 e2 e3
    simp [results, hr, e1, e2, e3, asAddr, hv], h⟩

-- operations

/-- an operation that yields a value whatever the world -/
def Pure (P : Program) (op : Op) (f : Fr) (v : Value) : Prop := ∀ ρ, Agr f ρ → ∀ d ty pos aft g w, (execOp ρ ⟨d, op, ty, pos, aft, g⟩).run P w = .ok (.value v) w

theorem WL.nil {ops : Array Oper} {Q : Exit → Fr → World → Prop} {f : Fr} {w : World} (h : Q .normal f w) : WL P n ops Q [] f w := fun _ ha => wpList_nil ⟨f, ha, h⟩
/-- any operation by its run -/
theorem WL.run {ops : Array Oper} {Q : Exit → Fr → World → Prop} {f : Fr} {w w' : World} {rest : List Oper} {d ty : Nat} {pos : String} {aft : Array Edge} {op : Op} {v : Value} (hd : Nat.blt d n.n = true)
    (h : ∀ ρ, Agr f ρ → (execOp ρ ⟨some d, op, ty, pos, aft, none⟩).run P w = .ok (.value v) w') (k : WL P n ops Q rest ((d, v) :: f) w') : WL P n ops Q (⟨some d, op, ty, pos, aft, none⟩ :: rest) f w := by
  intro a ha
  refine wpList_plain rfl fun K hK => ?_
  unfold Oper.wp
  rw [h _ ha.agr]
  exact hK _ _ (k _ (ha.put hd v))
/-- an operation that yields nothing -/
theorem WL.act {ops : Array Oper} {Q : Exit → Fr → World → Prop} {f : Fr} {w w' : World} {rest : List Oper} {ty : Nat} {pos : String} {aft : Array Edge} {op : Op}
    (h : ∀ ρ, Agr f ρ → (execOp ρ ⟨none, op, ty, pos, aft, none⟩).run P w = .ok .skip w') (k : WL P n ops Q rest f w') : WL P n ops Q (⟨none, op, ty, pos, aft, none⟩ :: rest) f w := by
  intro a ha
  refine wpList_plain rfl fun K hK => ?_
  unfold Oper.wp
  rw [h _ ha.agr]
  exact hK _ _ (k _ ha)
theorem WL.p {ops : Array Oper} {Q : Exit → Fr → World → Prop} {f : Fr} {w : World} {rest : List Oper} {d ty : Nat} {pos : String} {aft : Array Edge} {op : Op} {v : Value}
    (h : Pure P op f v) (hd : Nat.blt d n.n = true) (k : WL P n ops Q rest ((d, v) :: f) w) : WL P n ops Q (⟨some d, op, ty, pos, aft, none⟩ :: rest) f w :=
  WL.run hd (fun ρ hρ => h ρ hρ _ _ _ _ _ _) k
/-- a guard: is the operation wanted -/
theorem WL.gd {ops : Array Oper} {Q : Exit → Fr → World → Prop} {f : Fr} {w : World} {rest : List Oper} {d ty : Nat} {pos : String} {aft : Array Edge} {op : Op} {j dj : Nat} {b t : Bool}
    (hj : (ops[j]?).bind (·.dst) = some dj) (ht : look f dj = some (.bool t)) (hd : Nat.blt d n.n = true)
    (hy : t = b → WL P n ops Q (⟨some d, op, ty, pos, aft, none⟩ :: rest) f w) (hn : t = !b → WL P n ops Q rest ((d, undef) :: f) w) :
    WL P n ops Q (⟨some d, op, ty, pos, aft, some (j, b)⟩ :: rest) f w := by
  intro a ha
  have hval := ha.2.2 _ _ ht
  have hyl : yielded ops a.tmps j = some t := by
    unfold yielded
    cases ho : ops[j]? with
    | none => rw [ho] at hj; cases hj
    | some o =>
      rw [ho] at hj
      simp only [Option.bind_some] at hj
      have h1 : a.tmps[dj]? = some (.bool t) := by
        cases h : a.tmps[dj]? with
        | none => rw [Array.getD_eq_getD_getElem?, h] at hval; cases hval
        | some v => rw [Array.getD_eq_getD_getElem?, h] at hval; exact congrArg some hval
      simp [hj, h1]
  by_cases hb : t = b
  · have := hy hb a ha
    unfold wpList at this ⊢
    simp only [Region.wanted, hyl, hb, beq_self_eq_true, if_true] at this ⊢
    exact this
  · have hb' : t = !b := by revert hb; cases t <;> cases b <;> decide
    have := hn hb' _ (ha.put hd undef)
    unfold wpList
    have hw : (some t == some b) = false := by revert hb; cases t <;> cases b <;> decide
    simp only [Region.wanted, hyl, hw]
    exact this
theorem WL.gy {ops : Array Oper} {Q : Exit → Fr → World → Prop} {f : Fr} {w : World} {rest : List Oper} {d ty : Nat} {pos : String} {aft : Array Edge} {op : Op} {j dj : Nat} {b t : Bool}
    (hj : (ops[j]?).bind (·.dst) = some dj) (ht : look f dj = some (.bool t)) (hd : Nat.blt d n.n = true) (e : t = b)
    (hy : WL P n ops Q (⟨some d, op, ty, pos, aft, none⟩ :: rest) f w) : WL P n ops Q (⟨some d, op, ty, pos, aft, some (j, b)⟩ :: rest) f w :=
  WL.gd hj ht hd (fun _ => hy) (fun h => by rw [e] at h; cases b <;> cases h)
theorem WL.gn {ops : Array Oper} {Q : Exit → Fr → World → Prop} {f : Fr} {w : World} {rest : List Oper} {d ty : Nat} {pos : String} {aft : Array Edge} {op : Op} {j dj : Nat} {b t : Bool}
    (hj : (ops[j]?).bind (·.dst) = some dj) (ht : look f dj = some (.bool t)) (hd : Nat.blt d n.n = true) (e : t = !b)
    (hn : WL P n ops Q rest ((d, undef) :: f) w) : WL P n ops Q (⟨some d, op, ty, pos, aft, some (j, b)⟩ :: rest) f w :=
  WL.gd hj ht hd (fun h => by rw [e] at h; cases b <;> cases h) (fun _ => hn)

end


theorem fbs_toList (l : List UInt8) : (bs l).toList = l := by simp [bs]
theorem fbs_extract (l : List UInt8) (a b : Nat) : (bs l).extract a b = bs ((l.drop a).take (b - a)) := by
  apply ByteArray.ext
  simp [bs, List.extract_eq_take_drop]
theorem beq_dec (l m : List UInt8) : (l == m) = decide (l = m) := by rw [Bool.eq_iff_iff]; simp
theorem i64w {r : Int} (h : -9223372036854775808 ≤ r ∧ r ≤ 9223372036854775807) : IntKind.i64.wrap r = r := by rw [IntKind.wrap_i64]; omega
theorem u8w {r : Int} (h : 0 ≤ r ∧ r ≤ 255) : IntKind.u8.wrap r = r := by rw [IntKind.wrap_u8']; omega

theorem u16w {r : Int} (h : 0 ≤ r ∧ r ≤ 65535) : IntKind.u16.wrap r = r := by rw [IntKind.wrap_u16]; omega
theorem u32w {r : Int} (h : 0 ≤ r ∧ r ≤ 4294967295) : IntKind.u32.wrap r = r := by rw [IntKind.wrap_u32']; omega
theorem u64w {r : Int} (h : 0 ≤ r ∧ r ≤ 18446744073709551615) : IntKind.u64.wrap r = r := by rw [IntKind.wrap_u64]; omega
theorem i32w {r : Int} (h : -2147483648 ≤ r ∧ r ≤ 2147483647) : IntKind.i32.wrap r = r := by rw [IntKind.wrap_i32]; omega
theorem i16w {r : Int} (h : -32768 ≤ r ∧ r ≤ 32767) : IntKind.i16.wrap r = r := by
  have e : IntKind.i16.wrap r = (if 32768 ≤ r % 65536 then r % 65536 - 65536 else r % 65536) := by simp [IntKind.wrap, IntKind.bits, IntKind.signed]
  rw [e]; split <;> omega
theorem i64q {a b : Int} (h0 : 0 ≤ a) (h1 : a ≤ 9223372036854775807) (hb : 1 ≤ b) : IntKind.i64.wrap (a.tdiv b) = a / b := by
  rw [Int.tdiv_eq_ediv_of_nonneg h0]
  exact i64w ⟨by have := Int.ediv_nonneg h0 (by omega : 0 ≤ b); omega, by have := Int.ediv_le_self b h0; omega⟩
theorem u64q {a b : Int} (h0 : 0 ≤ a) (h1 : a ≤ 18446744073709551615) (hb : 1 ≤ b) : IntKind.u64.wrap (a.tdiv b) = a / b := by
  rw [Int.tdiv_eq_ediv_of_nonneg h0]
  exact u64w ⟨Int.ediv_nonneg h0 (by omega : 0 ≤ b), by have := Int.ediv_le_self b h0; omega⟩
theorem u8q {a b : Int} (h0 : 0 ≤ a) (h1 : a ≤ 255) (hb : 1 ≤ b) : IntKind.u8.wrap (a.tdiv b) = a / b := by
  rw [Int.tdiv_eq_ediv_of_nonneg h0]
  exact u8w ⟨Int.ediv_nonneg h0 (by omega : 0 ≤ b), by have := Int.ediv_le_self b h0; omega⟩

section
variable {P : Program} {n : Sh} {f : Fr}

theorem Pure.mv {x : Operand} {v : Value} (hx : evo f x = some v) : Pure P (.move x) f v := fun ρ hρ d ty pos aft g w => by
  simp [execOp, hρ _ _ hx]
theorem Pure.as {x : Operand} {v : Value} (hx : evo f x = some v) : Pure P (.assign x) f v := fun ρ hρ d ty pos aft g w => by
  simp [execOp, hρ _ _ hx]
theorem Pure.pick {c x y : Operand} {t : Bool} {v : Value} (hc : evo f c = some (.bool t)) (h1 : t = true → evo f x = some v) (h2 : t = false → evo f y = some v) : Pure P (.pick c x y) f v := fun ρ hρ d ty pos aft g w => by
  cases t
  · simp [execOp, hρ _ _ hc, asBool, hρ _ _ (h2 rfl)]
  · simp [execOp, hρ _ _ hc, asBool, hρ _ _ (h1 rfl)]
theorem Pure.pkT {c x y : Operand} {t : Bool} {v : Value} (hc : evo f c = some (.bool t)) (e : t = true) (h1 : evo f x = some v) : Pure P (.pick c x y) f v :=
  .pick hc (fun _ => h1) (fun h => by rw [e] at h; cases h)
theorem Pure.pkF {c x y : Operand} {t : Bool} {v : Value} (hc : evo f c = some (.bool t)) (e : t = false) (h1 : evo f y = some v) : Pure P (.pick c x y) f v :=
  .pick hc (fun h => by rw [e] at h; cases h) (fun _ => h1)

section ints
variable {x y : Operand} {k : IntKind} {a b r : Int} {tx ty : TypeId}
theorem Pure.add (hx : evo f x = some (.int k a)) (hy : evo f y = some (.int k b)) (hr : k.wrap (a + b) = r) : Pure P (.binOp .add tx x y ty) f (.int k r) := fun ρ hρ d ty pos aft g w => by
  simp [execOp, hρ _ _ hx, hρ _ _ hy, eqGuard, binOp, Op.intArith, hr]
theorem Pure.sub (hx : evo f x = some (.int k a)) (hy : evo f y = some (.int k b)) (hr : k.wrap (a - b) = r) : Pure P (.binOp .sub tx x y ty) f (.int k r) := fun ρ hρ d ty pos aft g w => by
  simp [execOp, hρ _ _ hx, hρ _ _ hy, eqGuard, binOp, Op.intArith, hr]
theorem Pure.mul (hx : evo f x = some (.int k a)) (hy : evo f y = some (.int k b)) (hr : k.wrap (a * b) = r) : Pure P (.binOp .mul tx x y ty) f (.int k r) := fun ρ hρ d ty pos aft g w => by
  simp [execOp, hρ _ _ hx, hρ _ _ hy, eqGuard, binOp, Op.intArith, hr]
theorem Pure.quo (hx : evo f x = some (.int k a)) (hy : evo f y = some (.int k b)) (h0 : b ≠ 0) (hr : k.wrap (a.tdiv b) = r) : Pure P (.binOp .quo tx x y ty) f (.int k r) := fun ρ hρ d ty pos aft g w => by
  simp [execOp, hρ _ _ hx, hρ _ _ hy, eqGuard, binOp, Op.intDiv, h0, hr]
theorem Pure.rem (hx : evo f x = some (.int k a)) (hy : evo f y = some (.int k b)) (h0 : b ≠ 0) (hr : a.tmod b = r) : Pure P (.binOp .rem tx x y ty) f (.int k r) := fun ρ hρ d ty pos aft g w => by
  simp [execOp, hρ _ _ hx, hρ _ _ hy, eqGuard, binOp, Op.intDiv, h0, hr]
theorem Pure.lss (hx : evo f x = some (.int k a)) (hy : evo f y = some (.int k b)) : Pure P (.binOp .lss tx x y ty) f (.bool (decide (a < b))) := fun ρ hρ d ty pos aft g w => by
  simp [execOp, hρ _ _ hx, hρ _ _ hy, eqGuard, binOp, Op.intCmp]
theorem Pure.leq (hx : evo f x = some (.int k a)) (hy : evo f y = some (.int k b)) : Pure P (.binOp .leq tx x y ty) f (.bool (decide (a ≤ b))) := fun ρ hρ d ty pos aft g w => by
  simp [execOp, hρ _ _ hx, hρ _ _ hy, eqGuard, binOp, Op.intCmp]
theorem Pure.gtr (hx : evo f x = some (.int k a)) (hy : evo f y = some (.int k b)) : Pure P (.binOp .gtr tx x y ty) f (.bool (decide (b < a))) := fun ρ hρ d ty pos aft g w => by
  simp [execOp, hρ _ _ hx, hρ _ _ hy, eqGuard, binOp, Op.intCmp]
theorem Pure.geq (hx : evo f x = some (.int k a)) (hy : evo f y = some (.int k b)) : Pure P (.binOp .geq tx x y ty) f (.bool (decide (b ≤ a))) := fun ρ hρ d ty pos aft g w => by
  simp [execOp, hρ _ _ hx, hρ _ _ hy, eqGuard, binOp, Op.intCmp]
theorem Pure.eql (hx : evo f x = some (.int k a)) (hy : evo f y = some (.int k b)) : Pure P (.binOp .eql tx x y ty) f (.bool (decide (a = b))) := fun ρ hρ d ty pos aft g w => by
  simp [execOp, hρ _ _ hx, hρ _ _ hy, eqGuard, binOp, Op.intCmp]; rfl
theorem Pure.neq (hx : evo f x = some (.int k a)) (hy : evo f y = some (.int k b)) : Pure P (.binOp .neq tx x y ty) f (.bool (!decide (a = b))) := fun ρ hρ d ty pos aft g w => by
  simp [execOp, hρ _ _ hx, hρ _ _ hy, eqGuard, binOp, Op.intCmp]; rfl
theorem Pure.neg (hx : evo f x = some (.int k a)) (hr : k.wrap (-a) = r) : Pure P (.unOp .neg tx x) f (.int k r) := fun ρ hρ d ty pos aft g w => by
  simp [execOp, hρ _ _ hx, Op.unary, Op.intArith, hr]
theorem Pure.not {t : Bool} (hx : evo f x = some (.bool t)) : Pure P (.unOp .not tx x) f (.bool (!t)) := fun ρ hρ d ty pos aft g w => by
  simp [execOp, hρ _ _ hx, Op.unary]
theorem Pure.cvt {k' k0 : IntKind} (hs : P.underlying tx = some (.int k0)) (ht : P.underlying ty = some (.int k')) (hx : evo f x = some (.int k a)) (hr : k'.wrap a = r) : Pure P (.convert tx ty x) f (.int k' r) := fun ρ hρ d ty' pos aft g w => by
  simp [execOp, hρ _ _ hx, convert, run_underlying hs, run_underlying ht, Conv.intToInt, hr]
theorem Pure.eqb {s t : Bool} (hu : P.underlying tx = some .bool) (hx : evo f x = some (.bool s)) (hy : evo f y = some (.bool t)) : Pure P (.binOp .eql tx x y ty) f (.bool (decide (s = t))) := fun ρ hρ d ty pos aft g w => by
  have h := run_eql_bool w tx s t hu
  simp only [execOp, hρ _ _ hx, hρ _ _ hy, Sem.run_bind]
  have hg : (eqGuard .eql tx x y (.bool s) (.bool t)).run P w = .ok () w := by simp [eqGuard]
  simp only [hg, Result.andThen_ok, h]
  cases s <;> cases t <;> rfl
theorem Pure.neb {s t : Bool} (hu : P.underlying tx = some .bool) (hx : evo f x = some (.bool s)) (hy : evo f y = some (.bool t)) : Pure P (.binOp .neq tx x y ty) f (.bool (!decide (s = t))) := fun ρ hρ d ty pos aft g w => by
  have h := run_neq_bool w tx s t hu
  simp only [execOp, hρ _ _ hx, hρ _ _ hy, Sem.run_bind]
  have hg : (eqGuard .neq tx x y (.bool s) (.bool t)).run P w = .ok () w := by simp [eqGuard]
  simp only [hg, Result.andThen_ok, h]
  cases s <;> cases t <;> rfl
end ints

section strings
variable {x y : Operand} {l m : List UInt8} {tx ty : TypeId}
theorem Pure.len {at' : TypeId} (hu : P.underlying at' = some .string) (hx : evo f x = some (.string (bs l))) : Pure P (.call ⟨.builtin .len, #[x], #[at']⟩) f (.int .i64 (l.length : Int)) := fun ρ hρ d ty pos aft g w => by
  simp [execOp, resolve, invoke, builtin, Builtin.len_, run_underlying hu, hρ _ _ hx, goInt, bs_size]
theorem Pure.ix {i : Int} (hu : P.underlying tx = some .string) (hx : evo f x = some (.string (bs l))) (hi : evo f y = some (.int .i64 i)) (k : Nat) (e : i = k) (hk : k < l.length) : Pure P (.index tx x y) f (.int .u8 (l[k].toNat : Int)) := fun ρ hρ d ty pos aft g w => by
  subst e
  have h1 : (bs l)[k]? = some l[k] := by
    have : k < (bs l).size := by rw [bs_size]; exact hk
    rw [getElem?_pos (bs l) k this]; rfl
  simp [execOp, Instr.index, hρ _ _ hx, hρ _ _ hi, asIntOf, run_underlying hu, h1]
theorem Pure.slF {i : Int} (hu : P.underlying tx = some .string) (hx : evo f x = some (.string (bs l))) (hi : evo f y = some (.int .i64 i)) (k : Nat) (e : i = k) (hk : k ≤ l.length) : Pure P (.slice tx x (some y) none none) f (.string (bs (l.drop k))) := fun ρ hρ d ty pos aft g w => by
  subst e
  have h2 : (l.drop k).take (l.length - k) = l.drop k := List.take_of_length_le (by simp)
  simp [execOp, Instr.sliceAt, Instr.slice, Instr.sliceBounds, Instr.sliceBound, hρ _ _ hx, hρ _ _ hi, asIntOf, run_underlying hu, hk, fbs_extract, bs_size, h2]
theorem Pure.slT {i : Int} (hu : P.underlying tx = some .string) (hx : evo f x = some (.string (bs l))) (hi : evo f y = some (.int .i64 i)) (k : Nat) (e : i = k) (hk : k ≤ l.length) : Pure P (.slice tx x none (some y) none) f (.string (bs (l.take k))) := fun ρ hρ d ty pos aft g w => by
  subst e
  simp [execOp, Instr.sliceAt, Instr.slice, Instr.sliceBounds, Instr.sliceBound, hρ _ _ hx, hρ _ _ hi, asIntOf, run_underlying hu, hk, fbs_extract, bs_size]
theorem Pure.cat (hx : evo f x = some (.string (bs l))) (hy : evo f y = some (.string (bs m))) (hlen : l.length + m.length ≤ 9223372036854775807) : Pure P (.binOp .add tx x y ty) f (.string (bs (l ++ m))) := fun ρ hρ d ty pos aft g w => by
  have h : (l.length : Int) + (m.length : Int) ≤ 9223372036854775807 := by omega
  simp [execOp, hρ _ _ hx, hρ _ _ hy, eqGuard, binOp, Op.stringOp, bs_append, bs_size, h]
theorem Pure.eqs (hx : evo f x = some (.string (bs l))) (hy : evo f y = some (.string (bs m))) : Pure P (.binOp .eql tx x y ty) f (.bool (decide (l = m))) := fun ρ hρ d ty pos aft g w => by
  simp [execOp, hρ _ _ hx, hρ _ _ hy, eqGuard, binOp, Op.stringOp, fbs_toList, beq_dec]
theorem Pure.nes (hx : evo f x = some (.string (bs l))) (hy : evo f y = some (.string (bs m))) : Pure P (.binOp .neq tx x y ty) f (.bool (!decide (l = m))) := fun ρ hρ d ty pos aft g w => by
  simp [execOp, hρ _ _ hx, hρ _ _ hy, eqGuard, binOp, Op.stringOp, fbs_toList, beq_dec]
/-- a part of several results -/
theorem Pure.ext {i : Nat} {vs : Array Value} {v : Value} (hx : evo f x = some (.tuple vs)) (hv : vs[i]? = some v) : Pure P (.extract x i) f v := fun ρ hρ d ty pos aft g w => by
  simp [execOp, hρ _ _ hx, Instr.extract, hv]
end strings

-- calls

/-- a function with a body of its own -/
def HasBody (P : Program) (F : FuncId) : Prop := ∃ fn, P.funcs[F]? = some fn ∧ fn.body ≠ none ∧ fn.name ≠ "runtime.NumGoroutine"
theorem hasBody {F : FuncId} {fn : Func} (hf : P.funcs[F]? = some fn) (hb : (fn.body.isNone || fn.name == "runtime.NumGoroutine") = false) : HasBody P F := by
  simp only [Bool.or_eq_false_iff] at hb
  exact ⟨fn, hf, fun h => by rw [h] at hb; exact absurd hb.1 (by decide), fun h => by rw [h] at hb; exact absurd hb.2 (by decide)⟩
/-- the values of operands -/
def evs (f : Fr) : List Operand → Option (List Value)
  | [] => some []
  | x :: r => match evo f x, evs f r with
    | some v, some vs => some (v :: vs)
    | _, _ => none
theorem evs_map {ρ : Operand → Value} (hρ : Agr f ρ) : ∀ (xs : List Operand) (vs : List Value), evs f xs = some vs → xs.map ρ = vs
  | [], vs, h => by simp only [evs, Option.some.injEq] at h; subst h; rfl
  | x :: r, vs, h => by
    unfold evs at h
    cases hx : evo f x with
    | none => rw [hx] at h; cases h
    | some v =>
      cases hr : evs f r with
      | none => rw [hx, hr] at h; cases h
      | some us =>
        rw [hx, hr] at h
        simp only [Option.some.injEq] at h
        subst h
        simp [hρ _ _ hx, evs_map hρ r us hr]
theorem run_callOp {F : FuncId} (hb : HasBody P F) {ρ : Operand → Value} (hρ : Agr f ρ) {xs : List Operand} {vs : List Value} (hx : evs f xs = some vs) {ats : Array TypeId} (d : Option Tmp) (ty : TypeId) (pos : String) (aft : Array Edge) (g : Option (Nat × Bool)) (w : World) :
    (execOp ρ ⟨d, .call ⟨.value (.func F), xs.toArray, ats⟩, ty, pos, aft, g⟩).run P w = .ok (.enter F vs.toArray) w := by
  obtain ⟨fn, h1, h2, h3⟩ := hb
  have e := evs_map hρ _ _ hx
  have hfn : ρ (.func F) = .func (.func F) #[] #[] := hρ _ _ rfl
  have hargs : xs.toArray.map ρ = vs.toArray := by simp [e]
  unfold execOp
  simp only [resolve, hargs, hfn]
  simp [Deferred.ofValue, invoke, callFunc, run_program, h1, h2, h3]

/-- a call, by a contract -/
theorem WL.call {ops : Array Oper} {Q : Exit → Fr → World → Prop} {w : World} {rest : List Oper} {d ty : Nat} {pos : String} {aft : Array Edge} {F : FuncId} {xs : List Operand} {ats : Array TypeId} {vs : List Value} {α : Sort _}
    {V : α → Value} {S : α → World → Prop} (hb : HasBody P F) (hx : evs f xs = some vs) (hd : Nat.blt d n.n = true)
    (hc : Calls P F vs.toArray w fun e w' => ∃ t, e = .returned (V t) ∧ S t w') (k : ∀ t w', S t w' → WL P n ops Q rest ((d, V t) :: f) w') :
    WL P n ops Q (⟨some d, .call ⟨.value (.func F), xs.toArray, ats⟩, ty, pos, aft, none⟩ :: rest) f w := by
  intro a ha
  refine wpList_plain rfl fun K hK => ?_
  unfold Oper.wp
  rw [run_callOp hb ha.agr hx, Oper.upon_enter]
  refine hc.mono ?_
  rintro e w' ⟨t, rfl, hS⟩
  exact hK _ _ (k t w' hS _ (ha.put hd _))
/-- a call that panics, by a contract -/
theorem WL.cp {ops : Array Oper} {Q : Exit → Fr → World → Prop} {w : World} {rest : List Oper} {d : Option Tmp} {ty : Nat} {pos : String} {aft : Array Edge} {F : FuncId} {xs : List Operand} {ats : Array TypeId} {vs : List Value}
    {ch : List PanicEntry} {S : World → Prop} (hb : HasBody P F) (hx : evs f xs = some vs)
    (hc : Calls P F vs.toArray w fun e w' => e = .panicked ch ∧ S w') (k : ∀ w', S w' → Q (.panic ch) f w') :
    WL P n ops Q (⟨d, .call ⟨.value (.func F), xs.toArray, ats⟩, ty, pos, aft, none⟩ :: rest) f w := by
  intro a ha
  refine wpList_plain rfl fun K hK => ?_
  unfold Oper.wp
  rw [run_callOp hb ha.agr hx, Oper.upon_enter]
  refine hc.mono ?_
  rintro e w' ⟨rfl, hS⟩
  exact ⟨f, ha, k w' hS⟩
/-- a panic of the text's own -/
theorem WL.pn {ops : Array Oper} {Q : Exit → Fr → World → Prop} {w : World} {rest : List Oper} {d : Option Tmp} {ty : Nat} {pos : String} {aft : Array Edge} {op : Op} {v : Value}
    (h : ∀ ρ, Agr f ρ → (execOp ρ ⟨d, op, ty, pos, aft, none⟩).run P w = .halt (.panic v) w) (k : Q (.panic [{ v, recovered := false }]) f w) :
    WL P n ops Q (⟨d, op, ty, pos, aft, none⟩ :: rest) f w := by
  intro a ha
  refine wpList_plain rfl fun K hK => ?_
  unfold Oper.wp
  rw [h _ ha.agr, Oper.upon_panic]
  exact ⟨f, ha, k⟩
/-- a call, by a contract that tells one value -/
theorem WL.c1 {ops : Array Oper} {Q : Exit → Fr → World → Prop} {w : World} {rest : List Oper} {d ty : Nat} {pos : String} {aft : Array Edge} {F : FuncId} {xs : List Operand} {ats : Array TypeId} {vs : List Value}
    {V : Value} {S : World → Prop} (hb : HasBody P F) (hx : evs f xs = some vs) (hd : Nat.blt d n.n = true)
    (hc : Calls P F vs.toArray w fun e w' => e = .returned V ∧ S w') (k : ∀ w', S w' → WL P n ops Q rest ((d, V) :: f) w') :
    WL P n ops Q (⟨some d, .call ⟨.value (.func F), xs.toArray, ats⟩, ty, pos, aft, none⟩ :: rest) f w :=
  WL.call (α := Unit) (V := fun _ => V) (S := fun _ => S) hb hx hd (hc.mono fun _ _ h => ⟨(), h⟩) (fun _ => k)

-- memory

/-- a block of cells that may be written -/
def Blk (w : World) (b : Nat) (cs : Array Value) (t : TypeId) : Prop := w.heap[b]? = some (.cells cs t (0, 0))
/-- w1 is w but for one block, which may be new -/
structure Upd (b : Nat) (w w1 : World) : Prop where
  os : w1.os = w.os
  tape : w1.tape = w.tape
  output : w1.output = w.output
  size : w.heap.size ≤ w1.heap.size
  other : ∀ k, k ≠ b → w1.heap[k]? = w.heap[k]?
theorem Blk.lt {w : World} {b : Nat} {cs : Array Value} {t : TypeId} (h : Blk w b cs t) : b < w.heap.size := (Array.getElem?_eq_some_iff.1 h).1
theorem Upd.below {B b : Nat} {w0 w w1 : World} (hb : Below B w0 w) (hB : B ≤ b) (h : Upd b w w1) : Below B w0 w1 :=
  ⟨h.os.trans hb.os, h.tape.trans hb.tape, h.output.trans hb.output, Nat.le_trans hb.size h.size, fun k hk => (h.other k (by omega)).trans (hb.block k hk)⟩
theorem Blk.upd {w w1 : World} {b c : Nat} {cs : Array Value} {t : TypeId} (h : Blk w c cs t) (hu : Upd b w w1) (hne : c ≠ b) : Blk w1 c cs t := (hu.other c hne).trans h
theorem Blk.below {w w1 : World} {B c : Nat} {cs : Array Value} {t : TypeId} (h : Blk w c cs t) (hb : Below B w w1) (hc : c < B) : Blk w1 c cs t := (hb.block c hc).trans h
theorem Upd.alloc (w : World) (o : Obj) : Upd w.heap.size w (w.alloc o) := ⟨rfl, rfl, rfl, by simp, fun k hk => by
  show (w.heap.push o)[k]? = _
  rw [Array.getElem?_push, if_neg hk]⟩
theorem Upd.setRow (w : World) (b : Nat) (cs : Array Value) : Upd b w (w.setRow b cs) := ⟨rfl, rfl, rfl, by simp [World.setRow], fun k hk => by
  simp only [World.setRow, Array.getElem?_modify]
  rw [if_neg (by omega)]⟩
theorem Upd.setCell (w : World) (b o : Nat) (v : Value) : Upd b w (w.setCell ⟨b, o, none⟩ v) := ⟨rfl, rfl, rfl, by simp [World.setCell], fun k hk => by
  simp only [World.setCell, Array.getElem?_modify]
  rw [if_neg (by omega)]⟩
theorem Blk.alloc (w : World) (cs : Array Value) (t : TypeId) : Blk (w.alloc (.cells cs t)) w.heap.size cs t := by
  show (w.heap.push _)[w.heap.size]? = _
  simp
theorem Blk.setCell {w : World} {b : Nat} {cs : Array Value} {t : TypeId} (h : Blk w b cs t) (o : Nat) (v : Value) : Blk (w.setCell ⟨b, o, none⟩ v) b (cs.setIfInBounds o v) t := by
  unfold Blk at *
  simp [World.setCell, Array.getElem?_modify, h]
theorem Blk.cell {w : World} {b : Nat} {cs : Array Value} {t : TypeId} (h : Blk w b cs t) (o : Nat) : w.cell? ⟨b, o, none⟩ = cs[o]? := cell_of_row w b o cs t (0, 0) h
theorem Blk.free {w : World} {b : Nat} {cs : Array Value} {t : TypeId} (h : Blk w b cs t) (o : Nat) : w.frozen? ⟨b, o, none⟩ = false := by
  unfold Blk at h
  simp [World.frozen?, h]

section mem
variable {ops : Array Oper} {Q : Exit → Fr → World → Prop} {w : World} {rest : List Oper} {d ty : Nat} {pos : String} {aft : Array Edge}
/-- a new variable -/
theorem WL.alloc {t : TypeId} {z : Value} (hz : ∀ w, (zeroValue t).run P w = .ok z w) (hd : Nat.blt d n.n = true)
    (k : ∀ b w1, b = w.heap.size → Blk w1 b z.cells t → Upd b w w1 → w1.heap.size = b + 1 → WL P n ops Q rest ((d, .pointer (some ⟨b, 0, none⟩)) :: f) w1) :
    WL P n ops Q (⟨some d, .alloc t, ty, pos, aft, none⟩ :: rest) f w :=
  WL.run hd (w' := w.alloc (.cells z.cells t)) (v := .pointer (some ⟨w.heap.size, 0, none⟩)) (fun ρ hρ => by
    simp [execOp, Instr.alloc, hz, newVar, newRow]) (k _ _ rfl (Blk.alloc _ _ _) (Upd.alloc _ _) (by simp))
/-- a new variable with a value -/
theorem WL.box {t : TypeId} {x : Operand} {v : Value} (hx : evo f x = some v) (hd : Nat.blt d n.n = true)
    (k : ∀ b w1, b = w.heap.size → Blk w1 b v.cells t → Upd b w w1 → w1.heap.size = b + 1 → WL P n ops Q rest ((d, .pointer (some ⟨b, 0, none⟩)) :: f) w1) :
    WL P n ops Q (⟨some d, .box t x, ty, pos, aft, none⟩ :: rest) f w :=
  WL.run hd (w' := w.alloc (.cells v.cells t)) (v := .pointer (some ⟨w.heap.size, 0, none⟩)) (fun ρ hρ => by
    simp [execOp, Instr.box, hρ _ _ hx, newVar, newRow]) (k _ _ rfl (Blk.alloc _ _ _) (Upd.alloc _ _) (by simp))
/-- a variable of several cells is stored -/
theorem WL.stA {t tb : TypeId} {x y : Operand} {b : Nat} {old cs : Array Value} (hx : evo f x = some (.pointer (some ⟨b, 0, none⟩))) (hy : evo f y = some (.agg cs)) (hb : Blk w b old tb)
    (hi : (P.info? t).map (·.size) = some cs.size) (ho : old.size = cs.size) (h1 : cs.all (·.oneCell') = true)
    (k : ∀ w1, Blk w1 b cs tb → Upd b w w1 → w1.heap.size = w.heap.size → WL P n ops Q rest f w1) :
    WL P n ops Q (⟨none, .store t x y, ty, pos, aft, none⟩ :: rest) f w :=
  WL.act (w' := w.setRow b cs) (fun ρ hρ => by
    unfold execOp
    simp only [hρ _ _ hx, hρ _ _ hy, Instr.storeAt, Instr.sureAddr, Sem.run_bind, Sem.run_pure, Result.andThen_ok, run_storeVar_row w b tb t old cs hb hi ho h1])
    (k _ (setRow_heap w b old cs tb (0, 0) hb) (Upd.setRow _ _ _) (by simp [World.setRow]))
/-- a variable of several cells is read -/
theorem WL.ldA {t tb : TypeId} {x : Operand} {b : Nat} {cs : Array Value} {dd : TypeDesc} (hx : evo f x = some (.pointer (some ⟨b, 0, none⟩))) (hb : Blk w b cs tb)
    (hu : P.underlying t = some dd) (hdd : (match dd with | .struct _ | .array _ _ => true | _ => false) = true) (hi : (P.info? t).map (·.size) = some cs.size) (hd : Nat.blt d n.n = true)
    (k : WL P n ops Q rest ((d, .agg cs) :: f) w) : WL P n ops Q (⟨some d, .load t x, ty, pos, aft, none⟩ :: rest) f w :=
  WL.run hd (fun ρ hρ => by
    unfold execOp
    simp only [hρ _ _ hx, Instr.loadAt, Instr.sureAddr, Sem.run_bind, Sem.run_pure, Result.andThen_ok, run_loadVar_row w b tb t cs (0, 0) dd hb hu hdd hi]) k
/-- a struct's value out of its parts -/
theorem Pure.build {t : TypeId} {ps : List (Nat × Operand)} {vs : List Value} {cs : Array Value} (hx : evs f (ps.map (·.2)) = some vs) (hb : P.built t ((ps.map (·.1)).zip vs) = some cs) : Pure P (.build t ps.toArray) f (.agg cs) := fun ρ hρ d ty pos aft g w => by
  have e := evs_map hρ _ _ hx
  have e2 : (ps.toArray.map fun (i, x) => (i, ρ x)).toList = (ps.map (·.1)).zip vs := by
    rw [← e]
    simp only [List.map_map, Array.toList_map]
    clear hx hb e
    induction ps with
    | nil => rfl
    | cons p r ih => simpa using ih
  unfold execOp
  simp only [Sem.run_bind, run_build w t _ cs (by rw [e2]; exact hb), Result.andThen_ok, Sem.run_pure]
end mem
end

section
variable {P : Program} {n : Sh} {f : Fr}

/-- an operation that only reads: its value in this world -/
def Rd (P : Program) (op : Op) (f : Fr) (w : World) (v : Value) : Prop := ∀ ρ, Agr f ρ → ∀ d ty pos aft g, (execOp ρ ⟨d, op, ty, pos, aft, g⟩).run P w = .ok (.value v) w
theorem Pure.rd {op : Op} {v : Value} {w : World} (h : Pure P op f v) : Rd P op f w v := fun ρ hρ d ty pos aft g => h ρ hρ d ty pos aft g w
theorem Rd.ld {t tb : TypeId} {x : Operand} {b o : Nat} {cs : Array Value} {v : Value} {w : World} (ha : (isAgg t).run P w = .ok false w) (hx : evo f x = some (.pointer (some ⟨b, o, none⟩))) (hb : Blk w b cs tb) (hv : cs[o]? = some v) :
    Rd P (.load t x) f w v := fun ρ hρ d ty pos aft g => by
  have hc := (hb.cell o).trans hv
  simp [execOp, hρ _ _ hx, Instr.loadAt, Instr.sureAddr, loadVar, ha, hc]
theorem Rd.ldc {t : TypeId} {x : Operand} {p : Addr} {v : Value} {w : World} (ha : (isAgg t).run P w = .ok false w) (hx : evo f x = some (.pointer (some p))) (hv : w.cell? p = some v) :
    Rd P (.load t x) f w v := fun ρ hρ d ty pos aft g => by
  simp [execOp, hρ _ _ hx, Instr.loadAt, Instr.sureAddr, loadVar, ha, hv]
theorem Rd.ldA {t tb : TypeId} {x : Operand} {b : Nat} {cs : Array Value} {dd : TypeDesc} {w : World} (hx : evo f x = some (.pointer (some ⟨b, 0, none⟩))) (hb : Blk w b cs tb)
    (hu : P.underlying t = some dd) (hdd : (match dd with | .struct _ | .array _ _ => true | _ => false) = true) (hi : (P.info? t).map (·.size) = some cs.size) : Rd P (.load t x) f w (.agg cs) := fun ρ hρ d ty pos aft g => by
  unfold execOp
  simp only [hρ _ _ hx, Instr.loadAt, Instr.sureAddr, Sem.run_bind, Sem.run_pure, Result.andThen_ok, run_loadVar_row w b tb t cs (0, 0) dd hb hu hdd hi]
/-- the length of a slice -/
theorem Pure.lenS {at' e : TypeId} {x : Operand} {p : Option Addr} {l c : Nat} (hu : P.underlying at' = some (.slice e)) (hx : evo f x = some (.slice p l c)) : Pure P (.call ⟨.builtin .len, #[x], #[at']⟩) f (.int .i64 (l : Int)) := fun ρ hρ d ty pos aft g w => by
  simp [execOp, resolve, invoke, builtin, Builtin.len_, run_underlying hu, hρ _ _ hx, goInt]
/-- the address of a slice's element -/
theorem Pure.ixa {tx e : TypeId} {x y : Operand} {p : Addr} {l c sz : Nat} {i : Int} {k : IntKind} (hu : P.underlying tx = some (.slice e)) (hs : ∀ w, (sizeOf e).run P w = .ok sz w) (hx : evo f x = some (.slice (some p) l c))
    (hi : evo f y = some (.int k i)) (j : Nat) (e' : i = j) (hj : j < l) : Pure P (.indexAddr tx x y) f (.pointer (some (p.add (j * sz)))) := fun ρ hρ d ty pos aft g w => by
  subst e'
  simp [execOp, Instr.indexAt, hρ _ _ hx, hρ _ _ hi, asIntOf, run_underlying hu, hs, hj]
/-- the address of a field -/
theorem Pure.fa {s : TypeId} {x : Operand} {p : Addr} {i : Nat} {fs : Array Field} {fd : Field} {sz : Nat} (hu : P.underlying s = some (.struct fs)) (hf : fs[i]? = some fd) (hs : ∀ w, (sizeOf fd.type).run P w = .ok sz w) (h0 : sz ≠ 0)
    (hx : evo f x = some (.pointer (some p))) : Pure P (.fieldAddr s x i) f (.pointer (some (p.add fd.offset))) := fun ρ hρ d ty pos aft g w => by
  simp [execOp, Instr.fieldAt, hρ _ _ hx, run_underlying hu, hf, Instr.sureAddr, fieldPlace, hs, h0]
/-- a check against nil -/
theorem Pure.nck {x : Operand} {p : Addr} (hx : evo f x = some (.pointer (some p))) : Pure P (.nilCheck x) f (.pointer (some p)) := fun ρ hρ d ty pos aft g w => by
  simp [execOp, hρ _ _ hx]
/-- a field of a struct's value -/
theorem Pure.fld {s : TypeId} {x : Operand} {i : Nat} {fs : Array Field} {fd : Field} {cs : Array Value} {v : Value} (hu : P.underlying s = some (.struct fs)) (hf : fs[i]? = some fd) (ha : ∀ w, (isAgg fd.type).run P w = .ok false w)
    (hx : evo f x = some (.agg cs)) (hv : cs[fd.offset]? = some v) : Pure P (.field s x i) f v := fun ρ hρ d ty pos aft g w => by
  simp [execOp, Instr.field, hρ _ _ hx, run_underlying hu, hf, asAgg, part, ha, hv]

theorem WL.r {ops : Array Oper} {Q : Exit → Fr → World → Prop} {w : World} {rest : List Oper} {d ty : Nat} {pos : String} {aft : Array Edge} {op : Op} {v : Value}
    (h : Rd P op f w v) (hd : Nat.blt d n.n = true) (k : WL P n ops Q rest ((d, v) :: f) w) : WL P n ops Q (⟨some d, op, ty, pos, aft, none⟩ :: rest) f w :=
  WL.run hd (fun ρ hρ => h ρ hρ _ _ _ _ _) k
/-- one cell is stored -/
theorem WL.st {ops : Array Oper} {Q : Exit → Fr → World → Prop} {w : World} {rest : List Oper} {ty : Nat} {pos : String} {aft : Array Edge} {t tb : TypeId} {x y : Operand} {b o : Nat} {cs : Array Value} {v : Value}
    (hs : ∀ w, (sizeOf t).run P w = .ok 1 w) (hx : evo f x = some (.pointer (some ⟨b, o, none⟩))) (hy : evo f y = some v) (h1 : v.oneCell' = true) (hb : Blk w b cs tb) (ho : o < cs.size)
    (k : ∀ w1, Blk w1 b (cs.setIfInBounds o v) tb → Upd b w w1 → w1.heap.size = w.heap.size → WL P n ops Q rest f w1) : WL P n ops Q (⟨none, .store t x y, ty, pos, aft, none⟩ :: rest) f w :=
  WL.act (w' := w.setCell ⟨b, o, none⟩ v) (fun ρ hρ => by
    have hc : w.cell? ⟨b, o, none⟩ = some cs[o] := by rw [hb.cell o]; simp [ho]
    have hf := hb.free o
    have hst := run_store P w ⟨b, o, none⟩ v .plain h1
    have hcs : v.cells = #[v] := by cases v <;> first | rfl | cases h1
    have h0 : (⟨b, o, none⟩ : Addr).add 0 = ⟨b, o, none⟩ := by simp [Addr.add]
    simp [execOp, hρ _ _ hx, hρ _ _ hy, Instr.storeAt, Instr.sureAddr, storeVar, hcs, hs, storeCells, h0, hst, hc, hf])
    (k _ (hb.setCell o v) (Upd.setCell w b o v) (by simp [World.setCell]))

/-- a guard that was passed over itself -/
theorem yielded_undef {a : Act} {ops : Array Oper} {j dj : Nat} (ha : Rep n f a) (hj : (ops[j]?).bind (·.dst) = some dj) (ht : look f dj = some undef) : yielded ops a.tmps j = none := by
  have hval := ha.2.2 _ _ ht
  unfold yielded
  cases ho : ops[j]? with
  | none => rw [ho] at hj; cases hj
  | some o =>
    rw [ho] at hj
    simp only [Option.bind_some] at hj
    cases h : a.tmps[dj]? with
    | none => simp [hj, h]
    | some v =>
      rw [Array.getD_eq_getD_getElem?, h] at hval
      simp only [Option.getD_some] at hval
      subst hval
      simp [hj, h, undef]
theorem WL.gu {ops : Array Oper} {Q : Exit → Fr → World → Prop} {w : World} {rest : List Oper} {d ty : Nat} {pos : String} {aft : Array Edge} {op : Op} {j dj : Nat} {b : Bool}
    (hj : (ops[j]?).bind (·.dst) = some dj) (ht : look f dj = some undef) (hd : Nat.blt d n.n = true)
    (hn : WL P n ops Q rest ((d, undef) :: f) w) : WL P n ops Q (⟨some d, op, ty, pos, aft, some (j, b)⟩ :: rest) f w := by
  intro a ha
  have hyl := yielded_undef ha hj ht
  have := hn _ (ha.put hd undef)
  unfold wpList
  simp only [Region.wanted, hyl]
  exact this

/-- more is known -/
def Le (g f : Fr) : Prop := ∀ i v, look g i = some v → look f i = some v
theorem Le.refl (f : Fr) : Le f f := fun _ _ h => h
theorem Le.cons {g f : Fr} {d : Nat} {v : Value} (hd : look g d = none) (h : Le g f) : Le g ((d, v) :: f) := by
  intro i u hu
  unfold look
  cases hb : Nat.beq d i with
  | true =>
    obtain rfl : d = i := Nat.eq_of_beq_eq_true hb
    rw [hd] at hu; cases hu
  | false => exact h i u hu
theorem Le.put {g f : Fr} (h : Le g f) {d : Nat} {v : Value} (hd : look f d = some v) : Le ((d, v) :: g) f := by
  intro i u hu
  unfold look at hu
  cases hb : Nat.beq d i with
  | true =>
    rw [hb] at hu
    obtain rfl : d = i := Nat.eq_of_beq_eq_true hb
    rw [hd]; exact hu
  | false => rw [hb] at hu; exact h i u hu
/-- a cut behind a test: the test's slot holds this -/
theorem W.cutB {x y : Code} {Q : Exit → Fr → World → Prop} {w : World} (c : Nat) (T : Bool)
    (h1 : W P n x (nx (fun f' w' => (look f' c = some (.bool T) ∧ Le f f') ∧ w' = w) Q) f w) (h2 : W P n y Q ((c, .bool T) :: f) w) : W P n (.seq x y) Q f w := by
  refine W.seq (h1.mono ?_)
  intro e f' w' h
  cases e with
  | normal =>
    obtain ⟨⟨hc, hle⟩, rfl⟩ := h
    exact fun a ha => h2 a ⟨ha.1, ha.2.1, fun i v hv => ha.2.2 i v (hle.put hc i v hv)⟩
  | _ => exact h
theorem ndT {p : Prop} [Decidable p] (h : (!decide p) = true) : ¬ p := by simpa using h
theorem ndF {p : Prop} [Decidable p] (h : (!decide p) = false) : p := by simpa using h
theorem nT {t : Bool} (h : (!t) = true) : t = false := by simpa using h
theorem nF {t : Bool} (h : (!t) = false) : t = true := by simpa using h
theorem lk_b {f : Fr} {i : Nat} {s t : Bool} (h : look f i = some (.bool s)) (e : s = t) : look f i = some (.bool t) := by rw [h, e]
theorem lk_i {f : Fr} {i : Nat} {k : IntKind} {s t : Int} (h : look f i = some (.int k s)) (e : s = t) : look f i = some (.int k t) := by rw [h, e]
theorem lk_s {f : Fr} {i : Nat} {s t : List UInt8} (h : look f i = some (.string (bs s))) (e : s = t) : look f i = some (.string (bs t)) := by rw [h, e]

-- regions that draw their order

/-- w1 is w after some draws -/
def Drew (w w1 : World) : Prop := ∃ m, w1 = w.drewN m
theorem Drew.refl (w : World) : Drew w w := ⟨0, rfl⟩
theorem Drew.trans {a b c : World} (h : Drew a b) (k : Drew b c) : Drew a c := by
  obtain ⟨m, rfl⟩ := h; obtain ⟨j, rfl⟩ := k; exact ⟨m + j, by rw [World.drewN_drewN]⟩
theorem Drew.below {B : Nat} {w0 w w1 : World} (h : Below B w0 w) (d : Drew w w1) : Below B w0 w1 := by
  obtain ⟨m, rfl⟩ := d; exact ⟨h.os, h.tape, h.output, h.size, h.block⟩
theorem Drew.size {w w1 : World} (d : Drew w w1) : w1.heap.size = w.heap.size := by obtain ⟨m, rfl⟩ := d; rfl
theorem Blk.drew {w w1 : World} {b : Nat} {cs : Array Value} {t : TypeId} (h : Blk w b cs t) (d : Drew w w1) : Blk w1 b cs t := by obtain ⟨m, rfl⟩ := d; exact h
/-- the first N operations only read; what stands behind comes in the text's order -/
def WS (P : Program) (n : Sh) (ops : Array Oper) (Q : Exit → Fr → World → Prop) (tail : List Oper) (w : World) (l : List Oper) (f : Fr) : Prop :=
  ∀ a, Rep n f a → wpStill P ops w (fun a' => wpList P ops (lift n Q) tail a' w) l a
theorem W.regT {Q : Exit → Fr → World → Prop} {w : World} {id : Nat} {l : List Oper} (N : Nat) (hm : P.follows .mixedOrders = true) (hB : Region.lexTailB .any l.toArray N = true)
    (h : ∀ w1, Drew w w1 → WS P n l.toArray Q (l.drop N) w1 (l.take N) f) : W P n (.region id l.toArray true) Q f w :=
  fun a ha => wp_region_still_tail N hm hB (h _ ⟨1, rfl⟩ a ha)
section
variable {ops : Array Oper} {Q : Exit → Fr → World → Prop} {w : World} {tail rest : List Oper} {d ty : Nat} {pos : String} {aft : Array Edge} {op : Op} {v : Value}
theorem WS.nil (h : WL P n ops Q tail f w) : WS P n ops Q tail w [] f := fun a ha => wpStill_nil (h a ha)
theorem WS.r (h : Rd P op f w v) (hd : Nat.blt d n.n = true) (k : WS P n ops Q tail w rest ((d, v) :: f)) : WS P n ops Q tail w (⟨some d, op, ty, pos, aft, none⟩ :: rest) f := by
  intro a ha
  unfold wpStill
  rw [if_pos (by simp [Region.wanted])]
  unfold Oper.still
  rw [h _ ha.agr]
  exact ⟨rfl, k _ (ha.put hd v)⟩
theorem WS.p (h : Pure P op f v) (hd : Nat.blt d n.n = true) (k : WS P n ops Q tail w rest ((d, v) :: f)) : WS P n ops Q tail w (⟨some d, op, ty, pos, aft, none⟩ :: rest) f := WS.r h.rd hd k
end

/-- .. in a region that draws its order -/
theorem W.cutBQ {x y : Code} {Q : Exit → Fr → World → Prop} {w : World} (c : Nat) (T : Bool)
    (h1 : W P n x (nx (fun f' w' => (look f' c = some (.bool T) ∧ Le f f') ∧ Drew w w') Q) f w) (h2 : ∀ w1, Drew w w1 → W P n y Q ((c, .bool T) :: f) w1) : W P n (.seq x y) Q f w := by
  refine W.seq (h1.mono ?_)
  intro e f' w' h
  cases e with
  | normal =>
    obtain ⟨⟨hc, hle⟩, hdr⟩ := h
    exact fun a ha => h2 _ hdr a ⟨ha.1, ha.2.1, fun i v hv => ha.2.2 i v (hle.put hc i v hv)⟩
  | _ => exact h
def WQ (P : Program) (n : Sh) (ops : Array Oper) (Q : Exit → Fr → World → Prop) (w : World) (l : List Oper) (f : Fr) : Prop :=
  ∀ a, Rep n f a → wpQuiet P ops (fun w' => ∃ m, w' = w.drewN m) (fun a' => ∀ w', (∃ m, w' = w.drewN m) → lift n Q .normal a' w') l a
theorem W.regQ {Q : Exit → Fr → World → Prop} {w : World} {id : Nat} {l : List Oper} (hm : P.follows .mixedOrders = true) (hB : Region.lexB .any l.toArray = true) (h : WQ P n l.toArray Q w l f) : W P n (.region id l.toArray true) Q f w :=
  fun a ha => wp_region_quiet_lit hm hB (h a ha)
section
variable {ops : Array Oper} {Q : Exit → Fr → World → Prop} {w : World} {rest : List Oper} {d ty : Nat} {pos : String} {aft : Array Edge} {op : Op} {v : Value}
theorem WQ.nil (h : ∀ w1, Drew w w1 → Q .normal f w1) : WQ P n ops Q w [] f := fun _ ha => wpQuiet_nil fun w' e => ⟨f, ha, h w' e⟩
theorem WQ.r (h : ∀ m, Rd P op f (w.drewN m) v) (hd : Nat.blt d n.n = true) (k : WQ P n ops Q w rest ((d, v) :: f)) : WQ P n ops Q w (⟨some d, op, ty, pos, aft, none⟩ :: rest) f := by
  intro a ha
  unfold wpQuiet
  rw [if_pos (by simp [Region.wanted])]
  refine ⟨v, ?_, k _ (ha.put hd v)⟩
  rintro w' ⟨m, rfl⟩
  unfold Oper.quietAt
  rw [h m _ ha.agr]
  exact ⟨rfl, rfl⟩
theorem WQ.p (h : Pure P op f v) (hd : Nat.blt d n.n = true) (k : WQ P n ops Q w rest ((d, v) :: f)) : WQ P n ops Q w (⟨some d, op, ty, pos, aft, none⟩ :: rest) f := WQ.r (fun _ => h.rd) hd k
theorem WQ.gd {j dj : Nat} {b t : Bool} (hj : (ops[j]?).bind (·.dst) = some dj) (ht : look f dj = some (.bool t)) (hd : Nat.blt d n.n = true)
    (hy : t = b → WQ P n ops Q w (⟨some d, op, ty, pos, aft, none⟩ :: rest) f) (hn : t = !b → WQ P n ops Q w rest ((d, undef) :: f)) :
    WQ P n ops Q w (⟨some d, op, ty, pos, aft, some (j, b)⟩ :: rest) f := by
  intro a ha
  have hval := ha.2.2 _ _ ht
  have hyl : yielded ops a.tmps j = some t := by
    unfold yielded
    cases ho : ops[j]? with
    | none => rw [ho] at hj; cases hj
    | some o =>
      rw [ho] at hj
      simp only [Option.bind_some] at hj
      have h1 : a.tmps[dj]? = some (.bool t) := by
        cases h : a.tmps[dj]? with
        | none => rw [Array.getD_eq_getD_getElem?, h] at hval; cases hval
        | some v => rw [Array.getD_eq_getD_getElem?, h] at hval; exact congrArg some hval
      simp [hj, h1]
  by_cases hb : t = b
  · have := hy hb a ha
    unfold wpQuiet at this ⊢
    simp only [Region.wanted, hyl, hb, beq_self_eq_true, if_true] at this ⊢
    exact this
  · have hb' : t = !b := by revert hb; cases t <;> cases b <;> decide
    have := hn hb' _ (ha.put hd undef)
    unfold wpQuiet
    have hw : (some t == some b) = false := by revert hb; cases t <;> cases b <;> decide
    simp only [Region.wanted, hyl, hw]
    exact this
theorem WQ.gy {j dj : Nat} {b t : Bool} (hj : (ops[j]?).bind (·.dst) = some dj) (ht : look f dj = some (.bool t)) (hd : Nat.blt d n.n = true) (e : t = b)
    (hy : WQ P n ops Q w (⟨some d, op, ty, pos, aft, none⟩ :: rest) f) : WQ P n ops Q w (⟨some d, op, ty, pos, aft, some (j, b)⟩ :: rest) f :=
  WQ.gd hj ht hd (fun _ => hy) (fun h => by rw [e] at h; cases b <;> cases h)
theorem WQ.gn {j dj : Nat} {b t : Bool} (hj : (ops[j]?).bind (·.dst) = some dj) (ht : look f dj = some (.bool t)) (hd : Nat.blt d n.n = true) (e : t = !b)
    (hn : WQ P n ops Q w rest ((d, undef) :: f)) : WQ P n ops Q w (⟨some d, op, ty, pos, aft, some (j, b)⟩ :: rest) f :=
  WQ.gd hj ht hd (fun h => by rw [e] at h; cases b <;> cases h) (fun _ => hn)
theorem WQ.gu {j dj : Nat} {b : Bool} (hj : (ops[j]?).bind (·.dst) = some dj) (ht : look f dj = some undef) (hd : Nat.blt d n.n = true)
    (hn : WQ P n ops Q w rest ((d, undef) :: f)) : WQ P n ops Q w (⟨some d, op, ty, pos, aft, some (j, b)⟩ :: rest) f := by
  intro a ha
  have hyl := yielded_undef ha hj ht
  have := hn _ (ha.put hd undef)
  unfold wpQuiet
  simp only [Region.wanted, hyl]
  exact this
/-- a call that only reads -/
theorem WQ.c1 {F : FuncId} {xs : List Operand} {ats : Array TypeId} {vs : List Value} (hb : HasBody P F) (hx : evs f xs = some vs) (hd : Nat.blt d n.n = true)
    (hc : ∀ m, Calls P F vs.toArray (w.drewN m) fun e w' => e = .returned v ∧ ∃ k, w' = w.drewN k) (k : WQ P n ops Q w rest ((d, v) :: f)) :
    WQ P n ops Q w (⟨some d, .call ⟨.value (.func F), xs.toArray, ats⟩, ty, pos, aft, none⟩ :: rest) f := by
  intro a ha
  unfold wpQuiet
  rw [if_pos (by simp [Region.wanted])]
  refine ⟨v, ?_, k _ (ha.put hd v)⟩
  rintro w' ⟨m, rfl⟩
  unfold Oper.quietAt
  rw [run_callOp hb ha.agr hx]
  exact ⟨rfl, hc m⟩
end
end
/-- two structs, equal or not -/
theorem Pure.eqAgg {P : Program} {f : Fr} {x y : Operand} {t ty : TypeId} {xs ys : Array Value} {r : Bool} (hx : evo f x = some (.agg xs)) (hy : evo f y = some (.agg ys)) (hm : P.eqGuardType P.depth t = false)
    (h : ∀ w, (binOp .eql t (.agg xs) (.agg ys)).run P w = .ok (.bool r) w) : Pure P (.binOp .eql t x y ty) f (.bool r) := fun ρ hρ d ty' pos aft g w => by
  simp [execOp, hρ _ _ hx, hρ _ _ hy, run_eqGuard_agg w .eql t x y xs ys hm, h]
theorem Pure.neAgg {P : Program} {f : Fr} {x y : Operand} {t ty : TypeId} {xs ys : Array Value} {r : Bool} (hx : evo f x = some (.agg xs)) (hy : evo f y = some (.agg ys)) (hm : P.eqGuardType P.depth t = false)
    (h : ∀ w, (binOp .neq t (.agg xs) (.agg ys)).run P w = .ok (.bool r) w) : Pure P (.binOp .neq t x y ty) f (.bool r) := fun ρ hρ d ty' pos aft g w => by
  simp [execOp, hρ _ _ hx, hρ _ _ hy, run_eqGuard_agg w .neq t x y xs ys hm, h]
/-- a test whose outcome is known otherwise -/
theorem Pure.bis {P : Program} {op : Op} {f : Fr} {s : Bool} (t : Bool) (h : Pure P op f (.bool s)) (e : s = t) : Pure P op f (.bool t) := e ▸ h
/-- a number spelled otherwise -/
theorem Pure.iis {P : Program} {op : Op} {f : Fr} {k : IntKind} {s : Int} (t : Int) (h : Pure P op f (.int k s)) (e : s = t) : Pure P op f (.int k t) := e ▸ h
/-- a string spelled otherwise -/
theorem Pure.sis {P : Program} {op : Op} {f : Fr} {s : List UInt8} (t : List UInt8) (h : Pure P op f (.string (bs s))) (e : s = t) : Pure P op f (.string (bs t)) := e ▸ h
/-- all of one cell -/
def ones : List Value → Bool
  | [] => true
  | v :: r => v.oneCell' && ones r
theorem ones_mem : ∀ {l : List Value}, ones l = true → ∀ v ∈ l, v.oneCell' = true
  | [], _, v, hv => by cases hv
  | u :: r, h, v, hv => by
    simp only [ones, Bool.and_eq_true] at h
    rcases List.mem_cons.1 hv with rfl | hv
    · exact h.1
    · exact ones_mem h.2 v hv
/-- parts put into a struct's cells, a cell each -/
def put1 : List Value → List (Nat × Value) → List Value
  | z, [] => z
  | z, (i, v) :: r => put1 (z.set i v) r
/-- the i-th field is the i-th cell, for the first n -/
def idPlaces : Nat → Nat → List (Nat × Nat) → Bool
  | _, 0, l => l.isEmpty
  | k, n + 1, p :: l => Nat.beq p.1 k && Nat.beq p.2 1 && idPlaces (k + 1) n l
  | _, _ + 1, [] => false
theorem idPlaces_at : ∀ (n k : Nat) (l : List (Nat × Nat)), idPlaces k n l = true → ∀ i, i < n → l[i]? = some (k + i, 1)
  | 0, _, _, _, _, hi => by omega
  | n + 1, k, [], h, _, _ => by cases h
  | n + 1, k, p :: l, h, i, hi => by
    simp only [idPlaces, Bool.and_eq_true] at h
    obtain ⟨⟨h1, h2⟩, h3⟩ := h
    cases i with
    | zero =>
      have e1 := Nat.eq_of_beq_eq_true h1
      have e2 := Nat.eq_of_beq_eq_true h2
      simp; exact Prod.ext e1 e2
    | succ i =>
      have := idPlaces_at n (k + 1) l h3 i (by omega)
      rw [List.getElem?_cons_succ, this]
      congr 2; omega
theorem oneCells {v : Value} (h : v.oneCell' = true) : v.cells = #[v] := by cases v <;> first | rfl | cases h
def idxOk (n : Nat) : List (Nat × Value) → Bool
  | [] => true
  | (i, v) :: r => Nat.blt i n && v.oneCell' && idxOk n r
theorem fill_put1 {pl : List (Nat × Nat)} {n : Nat} (hp : idPlaces 0 n pl = true) : ∀ (parts : List (Nat × Value)) (z : List Value), z.length = n → idxOk n parts = true → Instr.fill (pl.toArray[·]?) z.toArray parts = some (put1 z parts).toArray
  | [], z, _, _ => rfl
  | (i, v) :: r, z, hz, ho => by
    simp only [idxOk, Bool.and_eq_true] at ho
    obtain ⟨⟨h1, h2⟩, h3⟩ := ho
    have hi : i < n := by simpa [Nat.blt_eq] using h1
    have hpl := idPlaces_at n 0 pl hp i hi
    have hc := oneCells h2
    have ih := fill_put1 hp r (z.set i v) (by simpa using hz) h3
    simp only [Nat.zero_add] at hpl
    have hpl' : pl.toArray[i]? = some (i, 1) := by simpa using hpl
    have hf : (#[v].zipIdx.foldl (fun cs (x : Value × Nat) => cs.setIfInBounds (i + x.2) x.1) z.toArray) = (z.set i v).toArray := by simp [Array.zipIdx]
    refine Eq.trans ?_ ih
    conv => lhs; unfold Instr.fill
    simp only [hpl', hc]
    rw [if_neg (by simp; omega)]
    exact congrArg (fun c => Instr.fill (pl.toArray[·]?) c r) hf
theorem Pure.buildL {P : Program} {f : Fr} {t : TypeId} {ps : List (Nat × Operand)} {vs zl l : List Value} {pl : List (Nat × Nat)} (hb : P.built t = fun parts => Instr.fill (pl.toArray[·]?) zl.toArray parts) (hp : idPlaces 0 zl.length pl = true)
    (hx : evs f (ps.map (·.2)) = some vs) (ho : idxOk zl.length ((ps.map (·.1)).zip vs) = true) (hl : put1 zl ((ps.map (·.1)).zip vs) = l) : Pure P (.build t ps.toArray) f (.agg l.toArray) :=
  Pure.build hx (by rw [hb, ← hl]; exact fill_put1 hp _ _ rfl ho)
theorem WL.stL {P : Program} {n : Sh} {f : Fr} {ops : Array Oper} {Q : Exit → Fr → World → Prop} {w : World} {rest : List Oper} {ty : Nat} {pos : String} {aft : Array Edge} {t tb : TypeId} {x y : Operand} {b : Nat} {old l : List Value} (hx : evo f x = some (.pointer (some ⟨b, 0, none⟩))) (hy : evo f y = some (.agg l.toArray)) (hb : Blk w b old.toArray tb)
    (hi : (P.info? t).map (·.size) = some l.length) (ho : old.length = l.length) (h1 : ones l = true)
    (k : ∀ w1, Blk w1 b l.toArray tb → Upd b w w1 → w1.heap.size = w.heap.size → WL P n ops Q rest f w1) :
    WL P n ops Q (⟨none, .store t x y, ty, pos, aft, none⟩ :: rest) f w :=
  WL.stA hx hy hb (by simpa using hi) (by simpa using ho) (by simpa using ones_mem h1) k
theorem ldRow {P : Program} {w : World} {b : Nat} {cs : Array Value} {t tb : TypeId} {dd : TypeDesc} (hb : Blk w b cs tb) (hu : P.underlying t = some dd)
    (hd : (match dd with | .struct _ | .array _ _ => true | _ => false) = true) (hi : (P.info? t).map (·.size) = some cs.size) : (loadVar t ⟨b, 0, none⟩).run P w = .ok (.agg cs) w := run_loadVar_row w b tb t cs (0, 0) dd hb hu hd hi
-- regions that draw their order: every order of what matters
theorem pn_is {P : Program} {fn : Func} {R : Ending → World → Prop} {c : List PanicEntry} {f : Fr} {w : World} (h : R (.panicked c) w) : Post P fn R (.panic c) f w := h
theorem pn_post {P : Program} {fn : Func} {R : Ending → World → Prop} {c : List PanicEntry} {f g : Fr} {w : World} (h : Post P fn R (.panic c) f w) : Post P fn R (.panic c) g w := h
theorem upon_post {P : Program} {o : Oper} {a : Act} {w : World} {K : Act → World → Prop} {Q Q' : Exit → Act → World → Prop} (h : o.wp P a w K Q) (hq : ∀ e a w, e ≠ .normal → Q e a w → Q' e a w) : o.wp P a w K Q' := by
  unfold Oper.wp at *
  generalize (execOp a.eval o).run P w = r at *
  cases r with
  | ok m w' =>
    cases m <;> simp only [Oper.upon] at h ⊢ <;>
      first
        | exact h
        | exact Calls.mono h (fun e w'' he => by
            cases e with
            | returned v => exact he
            | panicked c => exact hq _ _ _ (by simp) he
            | outgrown => obtain ⟨a', w3, h3⟩ := he; exact ⟨a', w3, hq _ _ _ (by simp) h3⟩)
  | halt x w' => cases x <;> simp only [Oper.upon] at h ⊢ <;> first | exact h | exact hq _ _ _ (by simp) h
def WY (P : Program) (n : Sh) (ops : Array Oper) (Q : Exit → Fr → World → Prop) (fuel : Nat) (listed : Array Bool) (f : Fr) (w : World) : Prop := ∀ a, Rep n f a → wpAny P .any ops (lift n Q) fuel listed a w
section
variable {P : Program} {n : Sh} {f : Fr} {ops : Array Oper} {Q : Exit → Fr → World → Prop} {w : World} {fuel : Nat} {listed : Array Bool}
theorem W.regY {id : Nat} {l : List Oper} (N : Nat) (hN : l.length = N) (hm : P.follows .mixedOrders = true) (h : ∀ w1, Drew w w1 → WY P n l.toArray Q N (Array.replicate N false) f w1) : W P n (.region id l.toArray true) Q f w :=
  fun a ha => wp_region_any hm (by
    subst hN
    have := h (w.drewN 1) ⟨1, rfl⟩ a ha
    rw [show l.toArray.size = l.length by simp]
    exact this)
theorem WY.take (i : Nat) {d ty : Nat} {pos : String} {aft : Array Edge} {op : Op} {v : Value} (hi : ops[i]? = some ⟨some d, op, ty, pos, aft, none⟩) (hs : Region.noSelect ops = true) (hf : Region.free .any ops listed i = true)
    (hr : (Region.ready .any ops listed).contains i = true) (hQ : ∀ c f w, Q (.panic c) f w → Q (.panic c) [] w) (hp : Pure P op f v) (hd : Nat.blt d n.n = true)
    (k : WY P n ops Q fuel (listed.setIfInBounds i true) ((d, v) :: f) w) : WY P n ops Q (fuel + 1) listed f w := by
  intro a ha
  refine wpAny_take hi hs hf hr ?_ (.inl ⟨by simp [Region.wanted], fun w => hp _ ha.agr _ _ _ _ _ w⟩) (k _ (ha.put hd v))
  rintro c b w' ⟨g, hg, hq⟩
  have hg1 := hg.1
  have hg2 := hg.2.1
  refine ⟨[], ⟨?_, ?_, fun i u hu => by cases hu⟩, hQ c g w' hq⟩
  · exact hg1
  · simpa [Act.put] using hg2
def BrAll (P : Program) (n : Sh) (ops : Array Oper) (Q : Exit → Fr → World → Prop) (fuel : Nat) (listed : Array Bool) (f : Fr) (w : World) : List Nat → Prop
  | [] => True
  | i :: r => (∃ o, ops[i]? = some o ∧ WL P n ops (nx (fun f' w' => WY P n ops Q fuel (listed.setIfInBounds i true) f' w') Q) [o] f w) ∧ BrAll P n ops Q fuel listed f w r
theorem BrAll.mem : ∀ {rs : List Nat}, BrAll P n ops Q fuel listed f w rs → ∀ i ∈ rs, ∃ o, ops[i]? = some o ∧ WL P n ops (nx (fun f' w' => WY P n ops Q fuel (listed.setIfInBounds i true) f' w') Q) [o] f w
  | [], _, _, h => by cases h
  | j :: r, h, i, hi => by
    rcases List.mem_cons.1 hi with rfl | hi
    · exact h.1
    · exact BrAll.mem h.2 i hi
theorem WY.br (rs : List Nat) (hr : Region.ready .any ops listed = rs) (hne : rs.isEmpty = false) (h : BrAll P n ops Q fuel listed f w rs) : WY P n ops Q (fuel + 1) listed f w := by
  intro a ha
  refine wpAny_all hr (by cases rs with | nil => cases hne | cons _ _ => simp) fun i hi => ?_
  obtain ⟨o, ho, hw⟩ := h.mem i hi
  have := hw a ha
  unfold wpOp
  simp only [ho]
  have conv : ∀ (e : Exit) (a : Act) (w : World), lift n (nx (fun f' w' => WY P n ops Q fuel (listed.setIfInBounds i true) f' w') Q) e a w → Exit.then (wpAny P .any ops (lift n Q) fuel (listed.setIfInBounds i true)) (lift n Q) e a w := by
    rintro e a w ⟨g, hg, hq⟩
    cases e with
    | normal => exact hq a hg
    | _ => exact ⟨g, hg, hq⟩
  unfold wpList at this
  split
  · next hwt =>
    rw [if_pos hwt] at this
    refine this.imp (fun h => ?_) fun ⟨h1, a', w', h2⟩ => ⟨h1, a', w', conv _ _ _ h2⟩
    have h' : o.wp P a w (wpAny P .any ops (lift n Q) fuel (listed.setIfInBounds i true)) (lift n (nx (fun f' w' => WY P n ops Q fuel (listed.setIfInBounds i true) f' w') Q)) :=
      Oper.wp_mono (fun a w h => conv .normal a w h) h
    exact upon_post h' fun e a w he h => by
      cases e with
      | normal => exact absurd rfl he
      | _ => exact conv _ a w h
  · next hwt =>
    rw [if_neg hwt] at this
    exact conv .normal _ _ this
theorem WY.done (hr : Region.ready .any ops listed = []) (h : Q .normal f w) : WY P n ops Q fuel listed f w := fun _ ha => wpAny_done hr ⟨f, ha, h⟩ fuel
end
attribute [irreducible] Post W WL WQ WS WY
end Go.Proofs.YtjghbcjnplcleaaGreatDoor
