/-
  What the claim leans on, part 2: pruned and joined by my own tool out of the texts that stand in wip/ as templates.
-/
import Derived.Test.YtjghbcjnplcleaaGreatDoorPc1
namespace Go.Proofs.YtjghbcjnplcleaaGreatDoor
open Go.RowKit
open Go.Proofs.Tryz
section
/-- what is known of a frame: slots and values, the latest first -/
abbrev Fr := List (Nat × Value)
def look : Fr → Nat → Option Value
 | [], _ => none
 | (j, v) :: r, i => bif Nat.beq j i then some v else look r i
def evo (f : Fr) : Operand → Option Value
 | .tmp t => look f t
 | .const v => some v
 | .global g => some (.pointer (some ⟨g, 0, none⟩))
 | .func k => some (.func (.func k) #[] #[])
def Sub : Fr → Fr → Prop
 | [], _ => True
 | (j, v) :: g, f => look f j = some v ∧ Sub g f
theorem Sub.look {g f : Fr} (h : Sub g f) {i : Nat} {v : Value} (hv : look g i = some v) : look f i = some v := by
 induction g with
 | nil => cases hv
 | cons p g ih =>
  obtain ⟨j, u⟩ := p
  unfold Go.Proofs.YtjghbcjnplcleaaGreatDoor.look at hv
  cases hb : Nat.beq j i with
  | true =>
   rw [hb] at hv
   obtain rfl : j = i := Nat.eq_of_beq_eq_true hb
   rw [h.1]; exact hv
  | false => rw [hb] at hv; exact ih h.2 hv
/-- a frame's shape: its slots, its deferred calls -/
structure Sh where
 n : Nat
 D : List Deferred
/-- a frame of this shape of which this is known -/
def Rep (n : Sh) (f : Fr) (a : Act) : Prop := a.defers = n.D ∧ a.tmps.size = n.n ∧ ∀ i v, look f i = some v → a.tmps.getD i undef = v
theorem Rep.sub {n : Sh} {f g : Fr} {a : Act} (h : Rep n f a) (hs : Sub g f) : Rep n g a := ⟨h.1, h.2.1, fun i v hv => h.2.2 i v (hs.look hv)⟩
theorem Rep.put {n : Sh} {f : Fr} {a : Act} (h : Rep n f a) {d : Nat} (hd : Nat.blt d n.n = true) (v : Value) : Rep n ((d, v) :: f) (a.put (some d) v) := by
 have hdn : d < n.n := by simpa [Nat.blt_eq] using hd
 refine ⟨h.1, by simp [Act.put, h.2.1], fun i u hu => ?_⟩
 show (a.tmps.setIfInBounds d v).getD i undef = u
 unfold look at hu
 cases hb : Nat.beq d i with
 | true =>
  obtain rfl : d = i := Nat.eq_of_beq_eq_true hb
  simp only [hb, cond_true, Option.some.injEq] at hu
  subst hu
  simp [Array.getD, h.2.1, hdn]
 | false =>
  simp only [hb, cond_false] at hu
  have hne : d ≠ i := fun e => by rw [e, Nat.beq_refl] at hb; cases hb
  have := h.2.2 i u hu
  simp only [Array.getD_eq_getD_getElem?] at this ⊢
  rw [Array.getElem?_setIfInBounds_ne hne]; exact this
/-- an evaluation of operands that agrees with what is known -/
def Agr (f : Fr) (ρ : Operand → Value) : Prop := ∀ x v, evo f x = some v → ρ x = v
theorem Rep.agr {n : Sh} {f : Fr} {a : Act} (h : Rep n f a) : Agr f a.eval := by
 intro x v hx
 cases x with
 | tmp t => exact h.2.2 t v hx
 | const u => exact Option.some.inj hx
 | global g => exact Option.some.inj hx
 | func k => exact Option.some.inj hx
section
variable {P : Program} {n : Sh}
def lift (n : Sh) (Q : Exit → Fr → World → Prop) : Exit → Act → World → Prop := fun e a w => ∃ f, Rep n f a ∧ Q e f w
def W (P : Program) (n : Sh) (c : Code) (Q : Exit → Fr → World → Prop) (f : Fr) (w : World) : Prop := ∀ a, Rep n f a → c.wp P (lift n Q) a w
def WL (P : Program) (n : Sh) (ops : Array Oper) (Q : Exit → Fr → World → Prop) (l : List Oper) (f : Fr) (w : World) : Prop := ∀ a, Rep n f a → wpList P ops (lift n Q) l a w
/-- what comes next -/
def nx (K : Fr → World → Prop) (Q : Exit → Fr → World → Prop) : Exit → Fr → World → Prop
 | .normal, f, w => K f w
 | e, f, w => Q e f w
def inb (id : Nat) (Q : Exit → Fr → World → Prop) : Exit → Fr → World → Prop
 | .exit i, f, w => bif Nat.beq i id then Q .normal f w else Q (.exit i) f w
 | e, f, w => Q e f w
theorem W.weaken {c : Code} {Q : Exit → Fr → World → Prop} {f : Fr} {w : World} (g : Fr) (hs : Sub g f) (h : W P n c Q g w) : W P n c Q f w :=
 fun a ha => h a (ha.sub hs)
theorem W.mono {c : Code} {Q Q' : Exit → Fr → World → Prop} {f : Fr} {w : World} (h : W P n c Q f w) (hq : ∀ e f w, Q e f w → Q' e f w) : W P n c Q' f w :=
 fun a ha => wp_mono (h a ha) fun _ _ _ ⟨f', hr, hQ⟩ => ⟨f', hr, hq _ _ _ hQ⟩
theorem W.seq {x y : Code} {Q : Exit → Fr → World → Prop} {f : Fr} {w : World} (h : W P n x (nx (fun f w => W P n y Q f w) Q) f w) : W P n (.seq x y) Q f w := by
 intro a ha
 refine wp_seq (wp_mono (h a ha) ?_)
 rintro e a' w' ⟨f', hr, hQ⟩
 cases e with
 | normal => exact hQ a' hr
 | _ => exact ⟨f', hr, hQ⟩
theorem dT {p : Prop} [Decidable p] (h : decide p = true) : p := of_decide_eq_true h
theorem dF {p : Prop} [Decidable p] (h : decide p = false) : ¬p := of_decide_eq_false h
theorem oO {p : Prop} (h : p := by omega) : p := h
theorem aS {p : Prop} (h : p := by assumption) : p := h
theorem dD {p : Prop} (h : p := by decide) : p := h
theorem kR {p : Prop} (h : p := by kernel_rfl) : p := h
theorem oL {p : Prop} (h : p := by simp only [List.length_append, List.length_cons, List.length_nil, List.length_drop] at *; omega) : p := h
theorem oD {p : Prop} (h : p := by first | decide | exact Nat.le_of_ble_eq_true rfl) : p := h
theorem oM {p : Prop} (h : p := by ((try simp only) <;> omega)) : p := h
/-- a cut: what stands behind is walked once, from what the relation tells -/
theorem W.cut {α : Type} (R : α → Fr) (S : α → World → Prop) {x y : Code} {Q : Exit → Fr → World → Prop} {f : Fr} {w : World}
  (h1 : W P n x (nx (fun f' w' => ∃ t, Sub (R t) f' ∧ S t w') Q) f w) (h2 : ∀ t w', S t w' → W P n y Q (R t) w') : W P n (.seq x y) Q f w := by
 refine W.seq (h1.mono ?_)
 intro e f' w' h
 cases e with
 | normal => obtain ⟨t, hs, ht⟩ := h; exact (h2 t w' ht).weaken _ hs
 | _ => exact h
theorem W.skip {Q : Exit → Fr → World → Prop} {f : Fr} {w : World} (h : Q .normal f w) : W P n .skip Q f w := fun _ ha => wp_skip ⟨f, ha, h⟩
theorem W.exit {Q : Exit → Fr → World → Prop} {f : Fr} {w : World} {id : Nat} (h : Q (.exit id) f w) : W P n (.exit id) Q f w := fun _ ha => wp_exit ⟨f, ha, h⟩
theorem W.ret {Q : Exit → Fr → World → Prop} {f : Fr} {w : World} (h : Q .ret f w) : W P n .ret Q f w := fun _ ha => wp_ret ⟨f, ha, h⟩
theorem W.block {Q : Exit → Fr → World → Prop} {f : Fr} {w : World} {id : Nat} {c : Code} (h : W P n c (inb id Q) f w) : W P n (.block id c) Q f w := by
 intro a ha
 refine wp_block (wp_mono (h a ha) ?_)
 rintro e a' w' ⟨f', hr, hQ⟩
 cases e with
 | exit i =>
  simp only [Exit.inBlock]
  by_cases hi : i = id
  ·
   subst hi
   rw [if_pos rfl]
   simp only [inb, Nat.beq_refl, cond_true] at hQ
   exact ⟨f', hr, hQ⟩
  ·
   rw [if_neg hi]
   have hb : Nat.beq i id = false := by
    cases h : Nat.beq i id with
    | false => rfl
    | true => exact absurd (Nat.eq_of_beq_eq_true h) hi
   simp only [inb, hb, cond_false] at hQ
   exact ⟨f', hr, hQ⟩
 | _ => exact ⟨f', hr, hQ⟩
theorem W.cond {Q : Exit → Fr → World → Prop} {f : Fr} {w : World} {c : Operand} {x y : Code} {t : Bool} (hc : evo f c = some (.bool t))
  (ht : t = true → W P n x Q f w) (hf : t = false → W P n y Q f w) : W P n (.cond c x y) Q f w :=
 fun a ha => wp_cond_split (ha.agr _ _ hc) (fun h => ht h a ha) (fun h => hf h a ha)
theorem W.condT {Q : Exit → Fr → World → Prop} {f : Fr} {w : World} {c : Operand} {x y : Code} {t : Bool} (hc : evo f c = some (.bool t)) (e : t = true)
  (h : W P n x Q f w) : W P n (.cond c x y) Q f w := W.cond hc (fun _ => h) (fun h' => by rw [e] at h'; cases h')
theorem W.condF {Q : Exit → Fr → World → Prop} {f : Fr} {w : World} {c : Operand} {x y : Code} {t : Bool} (hc : evo f c = some (.bool t)) (e : t = false)
  (h : W P n y Q f w) : W P n (.cond c x y) Q f w := W.cond hc (fun h' => by rw [e] at h'; cases h') (fun _ => h)
theorem W.loop {α : Type} (R : α → Fr) (S : α → World → Prop) (m : α → Nat) (t : α) {c : Code} {Q : Exit → Fr → World → Prop} {f : Fr} {w : World}
  (h0 : Sub (R t) f) (h1 : S t w) (round : ∀ t w, S t w → W P n c (nx (fun f' w' => ∃ u, Sub (R u) f' ∧ S u w' ∧ m u < m t) Q) (R t) w) : W P n (.loop c) Q f w := by
 intro a ha b k cs
 have key : ∀ k' t a w, m t = k' → Rep n (R t) a → S t w → ∃ e a' w', lift n Q e a' w' ∧ Arrives P (lone (b.at a (.code c :: .inLoop c :: k)) cs w) b k cs e a' w' := by
  intro k'
  induction k' using Nat.strongRecOn with
  | _ k' ih =>
   intro t a w hm hr hS
   obtain ⟨e, a1, w1, ⟨f1, hr1, hq⟩, harr⟩ := round t w hS a hr b (.inLoop c :: k) cs
   cases e with
   | normal =>
    obtain ⟨u, hs, hSu, hlt⟩ := hq
    obtain ⟨e2, a2, w2, hq2, harr2⟩ := ih (m u) (hm ▸ hlt) u a1 w1 rfl (hr1.sub hs) hSu
    exact ⟨e2, a2, w2, hq2, .of_steps (Steps.trans harr (.one step_inLoop)) harr2⟩
   | exit id => exact ⟨_, a1, w1, ⟨f1, hr1, hq⟩, .pass (x := .inLoop c) rfl (fun _ _ => .inl (by simp)) harr⟩
   | goto l => exact ⟨_, a1, w1, ⟨f1, hr1, hq⟩, .pass (x := .inLoop c) rfl (fun _ _ => .inl (by simp)) harr⟩
   | ret => exact ⟨_, a1, w1, ⟨f1, hr1, hq⟩, .pass (x := .inLoop c) rfl (fun _ _ => .inl (by simp)) harr⟩
   | panic ch => exact ⟨_, a1, w1, ⟨f1, hr1, hq⟩, .pass (x := .inLoop c) rfl (fun _ _ => .inl (by simp)) harr⟩
   | outgrown => exact ⟨_, a1, w1, ⟨f1, hr1, hq⟩, .pass (x := .inLoop c) rfl (fun _ _ => .inl (by simp)) harr⟩
 obtain ⟨e, a', w', hq, harr⟩ := key _ t a w rfl (ha.sub h0) h1
 exact ⟨e, a', w', hq, .of_steps (.one step_loop) harr⟩
theorem W.reg {Q : Exit → Fr → World → Prop} {f : Fr} {w : World} {id : Nat} {l : List Oper} (h : WL P n l.toArray Q l f w) : W P n (.region id l.toArray false) Q f w :=
 fun a ha => wp_region_lit (h a ha)
theorem W.sr {P : Program} {n : Sh} {id : Nat} {l : List Oper} {y : Code} {Q : Exit → Fr → World → Prop} {f : Fr} {w : World} (h : WL P n l.toArray (nx (fun f w => W P n y Q f w) Q) l f w) : W P n (.seq (.region id l.toArray false) y) Q f w := W.seq (W.reg h)
def number : Nat → List Value → Fr
 | _, [] => []
 | k, v :: r => (k, v) :: number (k + 1) r
theorem number_look (l : List Value) : ∀ k i v, look (number k l) i = some v → ∃ j, i = k + j ∧ l[j]? = some v := by
 induction l with
 | nil => intro k i v h; cases h
 | cons u r ih =>
  intro k i v h
  unfold number look at h
  cases hb : Nat.beq k i with
  | true =>
   simp only [hb, cond_true, Option.some.injEq] at h
   exact ⟨0, (Nat.eq_of_beq_eq_true hb).symm, by simp [h]⟩
  | false =>
   simp only [hb, cond_false] at h
   obtain ⟨j, e, hj⟩ := ih (k + 1) i v h
   exact ⟨j + 1, by omega, by simpa using hj⟩
/-- what a function hands back -/
def ResOk (P : Program) (fn : Func) (f : Fr) (w : World) (v : Value) : Prop := ∀ tmps : Array Value, (∀ i u, look f i = some u → tmps.getD i undef = u) → (results fn tmps).run P w = .ok v w
def Post (P : Program) (fn : Func) (R : Ending → World → Prop) : Exit → Fr → World → Prop
 | .normal, f, w | .ret, f, w => ∃ v, ResOk P fn f w v ∧ R (.returned v) w
 | .panic chain, _, w => R (.panicked chain) w
 | .outgrown, _, w => R .outgrown w
 | _, _, _ => False
theorem W.enter {F : FuncId} {fn : Func} {c : Code} {args : Array Value} {w : World} {R : Ending → World → Prop} (hf : P.funcs[F]? = some fn) (hb : fn.body = some c)
  {k : Nat} (hn : fn.ntmps = k) (hl : args.size ≤ k) (h : W P ⟨k, []⟩ c (Post P fn R) (number 0 args.toList) w) : Calls P F args w R := by
 refine calls_of_wp hf hb (wp_mono (h _ ⟨rfl, by simp [hn]; omega, ?_⟩) ?_)
 ·
  intro i v hv
  obtain ⟨j, e, hj⟩ := number_look _ _ _ _ hv
  obtain rfl : i = j := by omega
  have hlt : i < args.size := by
   rcases Nat.lt_or_ge i args.size with h | h
   ·
    exact h
   ·
    rw [List.getElem?_eq_none (by simpa using h)] at hj; cases hj
  have hj' : args[i]? = some v := by rw [← Array.getElem?_toList]; exact hj
  simp only [Array.getD_eq_getD_getElem?]
  rw [Array.getElem?_append_left hlt, hj']; rfl
 ·
  rintro e a' w' ⟨f', hr, hQ⟩
  cases e with
  | normal => obtain ⟨v, h1, h2⟩ := hQ; exact ⟨hr.1, v, h1 _ hr.2.2, h2⟩
  | ret => obtain ⟨v, h1, h2⟩ := hQ; exact ⟨hr.1, v, h1 _ hr.2.2, h2⟩
  | panic ch => exact ⟨hr.1, hQ⟩
  | outgrown => exact hQ
  | exit i => exact hQ.elim
  | goto l => exact hQ.elim
theorem W.ret0 {fn : Func} {R : Ending → World → Prop} {f : Fr} {w : World} (hr : fn.results = #[]) (h : R (.returned (.tuple #[])) w) : Post P fn R .ret f w :=
 ⟨_, fun _ _ => results_none hr _ _ _, h⟩
theorem W.ret1 {fn : Func} {R : Ending → World → Prop} {f : Fr} {w : World} {t : Tmp} {v : Value} (hr : fn.results = #[.tmp t]) (hv : look f t = some v)
  (h : R (.returned v) w) : Post P fn R .ret f w :=
 ⟨v, fun tmps ht => by rw [results_tmp hr, ht _ _ hv], h⟩
theorem W.ret2 {fn : Func} {R : Ending → World → Prop} {f : Fr} {w : World} {t u : Tmp} {v x : Value} (hr : fn.results = #[.tmp t, .tmp u]) (hv : look f t = some v) (hx : look f u = some x)
  (h : R (.returned (.tuple #[v, x])) w) : Post P fn R .ret f w :=
 ⟨_, fun tmps ht => by rw [results_tmp2 hr, ht _ _ hv, ht _ _ hx], h⟩
theorem W.ret3 {fn : Func} {R : Ending → World → Prop} {f : Fr} {w : World} {t u s : Tmp} {v x y : Value} (hr : fn.results = #[.tmp t, .tmp u, .tmp s]) (hv : look f t = some v) (hx : look f u = some x) (hy : look f s = some y)
  (h : R (.returned (.tuple #[v, x, y])) w) : Post P fn R .ret f w :=
 ⟨_, fun tmps ht => by rw [show (results fn tmps).run P w = .ok (.tuple #[tmps.getD t undef, tmps.getD u undef, tmps.getD s undef]) w by simp [results, hr], ht _ _ hv, ht _ _ hx, ht _ _ hy], h⟩
/-- the first result lies in memory -/
theorem W.retc3 {fn : Func} {R : Ending → World → Prop} {f : Fr} {w : World} {t u s : Tmp} {ty : TypeId} {b : Addr} {v x y : Value} (hr : fn.results = #[.cell t ty, .tmp u, .tmp s])
  (ht : look f t = some (.pointer (some b))) (hv : (loadVar ty b).run P w = .ok v w) (hx : look f u = some x) (hy : look f s = some y)
  (h : R (.returned (.tuple #[v, x, y])) w) : Post P fn R .ret f w :=
 ⟨_, fun tmps hh => by
  have e1 := hh _ _ ht; have e2 := hh _ _ hx; have e3 := hh _ _ hy
  simp only [Array.getD_eq_getD_getElem?] at e1 e2 e3
  simp [results, hr, e1, e2, e3, asAddr, hv], h⟩
/-- an operation that yields a value whatever the world -/
def Pure (P : Program) (op : Op) (f : Fr) (v : Value) : Prop := ∀ ρ, Agr f ρ → ∀ d ty pos aft g w, (execOp ρ ⟨d, op, ty, pos, aft, g⟩).run P w = .ok (.value v) w
theorem WL.nil {ops : Array Oper} {Q : Exit → Fr → World → Prop} {f : Fr} {w : World} (h : Q .normal f w) : WL P n ops Q [] f w := fun _ ha => wpList_nil ⟨f, ha, h⟩
/-- any operation by its run -/
theorem WL.run {ops : Array Oper} {Q : Exit → Fr → World → Prop} {f : Fr} {w w' : World} {rest : List Oper} {d ty : Nat} {pos : String} {aft : Array Edge} {op : Op} {v : Value} (hd : Nat.blt d n.n = true)
  (h : ∀ ρ, Agr f ρ → (execOp ρ ⟨some d, op, ty, pos, aft, none⟩).run P w = .ok (.value v) w') (k : WL P n ops Q rest ((d, v) :: f) w') : WL P n ops Q (⟨some d, op, ty, pos, aft, none⟩ :: rest) f w := by
 intro a ha
 refine wpList_plain rfl fun K hK => ?_
 unfold Oper.wp
 rw [h _ ha.agr]
 exact hK _ _ (k _ (ha.put hd v))
/-- an operation that yields nothing -/
theorem WL.act {ops : Array Oper} {Q : Exit → Fr → World → Prop} {f : Fr} {w w' : World} {rest : List Oper} {ty : Nat} {pos : String} {aft : Array Edge} {op : Op}
  (h : ∀ ρ, Agr f ρ → (execOp ρ ⟨none, op, ty, pos, aft, none⟩).run P w = .ok .skip w') (k : WL P n ops Q rest f w') : WL P n ops Q (⟨none, op, ty, pos, aft, none⟩ :: rest) f w := by
 intro a ha
 refine wpList_plain rfl fun K hK => ?_
 unfold Oper.wp
 rw [h _ ha.agr]
 exact hK _ _ (k _ ha)
theorem WL.p {ops : Array Oper} {Q : Exit → Fr → World → Prop} {f : Fr} {w : World} {rest : List Oper} {d ty : Nat} {pos : String} {aft : Array Edge} {op : Op} {v : Value}
  (h : Pure P op f v) (hd : Nat.blt d n.n = true) (k : WL P n ops Q rest ((d, v) :: f) w) : WL P n ops Q (⟨some d, op, ty, pos, aft, none⟩ :: rest) f w :=
 WL.run hd (fun ρ hρ => h ρ hρ _ _ _ _ _ _) k
/-- a guard: is the operation wanted -/
theorem WL.gd {ops : Array Oper} {Q : Exit → Fr → World → Prop} {f : Fr} {w : World} {rest : List Oper} {d ty : Nat} {pos : String} {aft : Array Edge} {op : Op} {j dj : Nat} {b t : Bool}
    (hj : (ops[j]?).bind (·.dst) = some dj) (ht : look f dj = some (.bool t)) (hd : Nat.blt d n.n = true)
    (hy : t = b → WL P n ops Q (⟨some d, op, ty, pos, aft, none⟩ :: rest) f w) (hn : t = !b → WL P n ops Q rest ((d, undef) :: f) w) :
    WL P n ops Q (⟨some d, op, ty, pos, aft, some (j, b)⟩ :: rest) f w := by
  intro a ha
  have hval := ha.2.2 _ _ ht
  have hyl : yielded ops a.tmps j = some t := by
    unfold yielded
    cases ho : ops[j]? with
    | none => rw [ho] at hj; cases hj
    | some o =>
      rw [ho] at hj
      simp only [Option.bind_some] at hj
      have h1 : a.tmps[dj]? = some (.bool t) := by
        cases h : a.tmps[dj]? with
        | none => rw [Array.getD_eq_getD_getElem?, h] at hval; cases hval
        | some v => rw [Array.getD_eq_getD_getElem?, h] at hval; exact congrArg some hval
      simp [hj, h1]
  by_cases hb : t = b
  · have := hy hb a ha
    unfold wpList at this ⊢
    simp only [Region.wanted, hyl, hb, beq_self_eq_true, if_true] at this ⊢
    exact this
  · have hb' : t = !b := by revert hb; cases t <;> cases b <;> decide
    have := hn hb' _ (ha.put hd undef)
    unfold wpList
    have hw : (some t == some b) = false := by revert hb; cases t <;> cases b <;> decide
    simp only [Region.wanted, hyl, hw]
    exact this
theorem WL.gy {ops : Array Oper} {Q : Exit → Fr → World → Prop} {f : Fr} {w : World} {rest : List Oper} {d ty : Nat} {pos : String} {aft : Array Edge} {op : Op} {j dj : Nat} {b t : Bool}
  (hj : (ops[j]?).bind (·.dst) = some dj) (ht : look f dj = some (.bool t)) (hd : Nat.blt d n.n = true) (e : t = b)
  (hy : WL P n ops Q (⟨some d, op, ty, pos, aft, none⟩ :: rest) f w) : WL P n ops Q (⟨some d, op, ty, pos, aft, some (j, b)⟩ :: rest) f w :=
 WL.gd hj ht hd (fun _ => hy) (fun h => by rw [e] at h; cases b <;> cases h)
theorem WL.gn {ops : Array Oper} {Q : Exit → Fr → World → Prop} {f : Fr} {w : World} {rest : List Oper} {d ty : Nat} {pos : String} {aft : Array Edge} {op : Op} {j dj : Nat} {b t : Bool}
  (hj : (ops[j]?).bind (·.dst) = some dj) (ht : look f dj = some (.bool t)) (hd : Nat.blt d n.n = true) (e : t = !b)
  (hn : WL P n ops Q rest ((d, undef) :: f) w) : WL P n ops Q (⟨some d, op, ty, pos, aft, some (j, b)⟩ :: rest) f w :=
 WL.gd hj ht hd (fun h => by rw [e] at h; cases b <;> cases h) (fun _ => hn)
end
theorem fbs_toList (l : List UInt8) : (bs l).toList = l := by simp [bs]
theorem fbs_extract (l : List UInt8) (a b : Nat) : (bs l).extract a b = bs ((l.drop a).take (b - a)) := by
 apply ByteArray.ext
 simp [bs, List.extract_eq_take_drop]
theorem beq_dec (l m : List UInt8) : (l == m) = decide (l = m) := by rw [Bool.eq_iff_iff]; simp
theorem i64w {r : Int} (h : -9223372036854775808 ≤ r ∧ r ≤ 9223372036854775807) : IntKind.i64.wrap r = r := by rw [IntKind.wrap_i64]; omega
theorem u8w {r : Int} (h : 0 ≤ r ∧ r ≤ 255) : IntKind.u8.wrap r = r := by rw [IntKind.wrap_u8']; omega
theorem u8q {a b : Int} (h0 : 0 ≤ a) (h1 : a ≤ 255) (hb : 1 ≤ b) : IntKind.u8.wrap (a.tdiv b) = a / b := by
 rw [Int.tdiv_eq_ediv_of_nonneg h0]
 exact u8w ⟨Int.ediv_nonneg h0 (by omega : 0 ≤ b), by have := Int.ediv_le_self b h0; omega⟩
section
variable {P : Program} {n : Sh} {f : Fr}
theorem Pure.mv {x : Operand} {v : Value} (hx : evo f x = some v) : Pure P (.move x) f v := fun ρ hρ d ty pos aft g w => by
 simp [execOp, hρ _ _ hx]
theorem WL.m {P : Program} {n : Sh} {ops : Array Oper} {Q : Exit → Fr → World → Prop} {f : Fr} {w : World} {rest : List Oper} {d ty : Nat} {pos : String} {aft : Array Edge} {x : Operand} {v : Value} (h : evo f x = some v) (hd : Nat.blt d n.n = true) (k : WL P n ops Q rest ((d, v) :: f) w) : WL P n ops Q (⟨some d, .move x, ty, pos, aft, none⟩ :: rest) f w := WL.p (.mv h) hd k
theorem Pure.as {x : Operand} {v : Value} (hx : evo f x = some v) : Pure P (.assign x) f v := fun ρ hρ d ty pos aft g w => by
 simp [execOp, hρ _ _ hx]
theorem WL.z {P : Program} {n : Sh} {ops : Array Oper} {Q : Exit → Fr → World → Prop} {f : Fr} {w : World} {d ty : Nat} {pos : String} {aft : Array Edge} {x : Operand} {v : Value} (h : evo f x = some v) (hd : Nat.blt d n.n = true) (k : Q .normal ((d, v) :: f) w) : WL P n ops Q [⟨some d, .assign x, ty, pos, aft, none⟩] f w := WL.p (.as h) hd (WL.nil k)
theorem WL.a {P : Program} {n : Sh} {ops : Array Oper} {Q : Exit → Fr → World → Prop} {f : Fr} {w : World} {rest : List Oper} {d ty : Nat} {pos : String} {aft : Array Edge} {x : Operand} {v : Value} (h : evo f x = some v) (hd : Nat.blt d n.n = true) (k : WL P n ops Q rest ((d, v) :: f) w) : WL P n ops Q (⟨some d, .assign x, ty, pos, aft, none⟩ :: rest) f w := WL.p (.as h) hd k
theorem Pure.pick {c x y : Operand} {t : Bool} {v : Value} (hc : evo f c = some (.bool t)) (h1 : t = true → evo f x = some v) (h2 : t = false → evo f y = some v) : Pure P (.pick c x y) f v := fun ρ hρ d ty pos aft g w => by
 cases t
 ·
  simp [execOp, hρ _ _ hc, asBool, hρ _ _ (h2 rfl)]
 ·
  simp [execOp, hρ _ _ hc, asBool, hρ _ _ (h1 rfl)]
theorem Pure.pkT {c x y : Operand} {t : Bool} {v : Value} (hc : evo f c = some (.bool t)) (e : t = true) (h1 : evo f x = some v) : Pure P (.pick c x y) f v :=
 .pick hc (fun _ => h1) (fun h => by rw [e] at h; cases h)
theorem Pure.pkF {c x y : Operand} {t : Bool} {v : Value} (hc : evo f c = some (.bool t)) (e : t = false) (h1 : evo f y = some v) : Pure P (.pick c x y) f v :=
 .pick hc (fun h => by rw [e] at h; cases h) (fun _ => h1)
section ints
variable {x y : Operand} {k : IntKind} {a b r : Int} {tx ty : TypeId}
theorem Pure.add (hx : evo f x = some (.int k a)) (hy : evo f y = some (.int k b)) (hr : k.wrap (a + b) = r) : Pure P (.binOp .add tx x y ty) f (.int k r) := fun ρ hρ d ty pos aft g w => by
 simp [execOp, hρ _ _ hx, hρ _ _ hy, eqGuard, binOp, Op.intArith, hr]
theorem Pure.sub (hx : evo f x = some (.int k a)) (hy : evo f y = some (.int k b)) (hr : k.wrap (a - b) = r) : Pure P (.binOp .sub tx x y ty) f (.int k r) := fun ρ hρ d ty pos aft g w => by
 simp [execOp, hρ _ _ hx, hρ _ _ hy, eqGuard, binOp, Op.intArith, hr]
theorem Pure.mul (hx : evo f x = some (.int k a)) (hy : evo f y = some (.int k b)) (hr : k.wrap (a * b) = r) : Pure P (.binOp .mul tx x y ty) f (.int k r) := fun ρ hρ d ty pos aft g w => by
 simp [execOp, hρ _ _ hx, hρ _ _ hy, eqGuard, binOp, Op.intArith, hr]
theorem Pure.quo (hx : evo f x = some (.int k a)) (hy : evo f y = some (.int k b)) (h0 : b ≠ 0) (hr : k.wrap (a.tdiv b) = r) : Pure P (.binOp .quo tx x y ty) f (.int k r) := fun ρ hρ d ty pos aft g w => by
 simp [execOp, hρ _ _ hx, hρ _ _ hy, eqGuard, binOp, Op.intDiv, h0, hr]
theorem Pure.rem (hx : evo f x = some (.int k a)) (hy : evo f y = some (.int k b)) (h0 : b ≠ 0) (hr : a.tmod b = r) : Pure P (.binOp .rem tx x y ty) f (.int k r) := fun ρ hρ d ty pos aft g w => by
 simp [execOp, hρ _ _ hx, hρ _ _ hy, eqGuard, binOp, Op.intDiv, h0, hr]
theorem Pure.lss (hx : evo f x = some (.int k a)) (hy : evo f y = some (.int k b)) : Pure P (.binOp .lss tx x y ty) f (.bool (decide (a < b))) := fun ρ hρ d ty pos aft g w => by
 simp [execOp, hρ _ _ hx, hρ _ _ hy, eqGuard, binOp, Op.intCmp]
theorem Pure.leq (hx : evo f x = some (.int k a)) (hy : evo f y = some (.int k b)) : Pure P (.binOp .leq tx x y ty) f (.bool (decide (a ≤ b))) := fun ρ hρ d ty pos aft g w => by
 simp [execOp, hρ _ _ hx, hρ _ _ hy, eqGuard, binOp, Op.intCmp]
theorem Pure.gtr (hx : evo f x = some (.int k a)) (hy : evo f y = some (.int k b)) : Pure P (.binOp .gtr tx x y ty) f (.bool (decide (b < a))) := fun ρ hρ d ty pos aft g w => by
 simp [execOp, hρ _ _ hx, hρ _ _ hy, eqGuard, binOp, Op.intCmp]
theorem Pure.geq (hx : evo f x = some (.int k a)) (hy : evo f y = some (.int k b)) : Pure P (.binOp .geq tx x y ty) f (.bool (decide (b ≤ a))) := fun ρ hρ d ty pos aft g w => by
 simp [execOp, hρ _ _ hx, hρ _ _ hy, eqGuard, binOp, Op.intCmp]
theorem Pure.eql (hx : evo f x = some (.int k a)) (hy : evo f y = some (.int k b)) : Pure P (.binOp .eql tx x y ty) f (.bool (decide (a = b))) := fun ρ hρ d ty pos aft g w => by
 simp [execOp, hρ _ _ hx, hρ _ _ hy, eqGuard, binOp, Op.intCmp]; rfl
theorem Pure.neq (hx : evo f x = some (.int k a)) (hy : evo f y = some (.int k b)) : Pure P (.binOp .neq tx x y ty) f (.bool (!decide (a = b))) := fun ρ hρ d ty pos aft g w => by
 simp [execOp, hρ _ _ hx, hρ _ _ hy, eqGuard, binOp, Op.intCmp]; rfl
theorem Pure.neg (hx : evo f x = some (.int k a)) (hr : k.wrap (-a) = r) : Pure P (.unOp .neg tx x) f (.int k r) := fun ρ hρ d ty pos aft g w => by
 simp [execOp, hρ _ _ hx, Op.unary, Op.intArith, hr]
theorem Pure.not {t : Bool} (hx : evo f x = some (.bool t)) : Pure P (.unOp .not tx x) f (.bool (!t)) := fun ρ hρ d ty pos aft g w => by
 simp [execOp, hρ _ _ hx, Op.unary]
theorem Pure.cvt {k' k0 : IntKind} (hs : P.underlying tx = some (.int k0)) (ht : P.underlying ty = some (.int k')) (hx : evo f x = some (.int k a)) (hr : k'.wrap a = r) : Pure P (.convert tx ty x) f (.int k' r) := fun ρ hρ d ty' pos aft g w => by
 simp [execOp, hρ _ _ hx, convert, run_underlying hs, run_underlying ht, Conv.intToInt, hr]
end ints
section strings
variable {x y : Operand} {l m : List UInt8} {tx ty : TypeId}
theorem Pure.len {at' : TypeId} (hu : P.underlying at' = some .string) (hx : evo f x = some (.string (bs l))) : Pure P (.call ⟨.builtin .len, #[x], #[at']⟩) f (.int .i64 (l.length : Int)) := fun ρ hρ d ty pos aft g w => by
 simp [execOp, resolve, invoke, builtin, Builtin.len_, run_underlying hu, hρ _ _ hx, goInt, bs_size]
theorem Pure.ix {i : Int} (hu : P.underlying tx = some .string) (hx : evo f x = some (.string (bs l))) (hi : evo f y = some (.int .i64 i)) (k : Nat) (e : i = k) (hk : k < l.length) : Pure P (.index tx x y) f (.int .u8 (l[k].toNat : Int)) := fun ρ hρ d ty pos aft g w => by
 subst e
 have h1 : (bs l)[k]? = some l[k] := by
  have : k < (bs l).size := by rw [bs_size]; exact hk
  rw [getElem?_pos (bs l) k this]; rfl
 simp [execOp, Instr.index, hρ _ _ hx, hρ _ _ hi, asIntOf, run_underlying hu, h1]
theorem Pure.slF {i : Int} (hu : P.underlying tx = some .string) (hx : evo f x = some (.string (bs l))) (hi : evo f y = some (.int .i64 i)) (k : Nat) (e : i = k) (hk : k ≤ l.length) : Pure P (.slice tx x (some y) none none) f (.string (bs (l.drop k))) := fun ρ hρ d ty pos aft g w => by
 subst e
 have h2 : (l.drop k).take (l.length - k) = l.drop k := List.take_of_length_le (by simp)
 simp [execOp, Instr.sliceAt, Instr.slice, Instr.sliceBounds, Instr.sliceBound, hρ _ _ hx, hρ _ _ hi, asIntOf, run_underlying hu, hk, fbs_extract, bs_size, h2]
theorem Pure.slT {i : Int} (hu : P.underlying tx = some .string) (hx : evo f x = some (.string (bs l))) (hi : evo f y = some (.int .i64 i)) (k : Nat) (e : i = k) (hk : k ≤ l.length) : Pure P (.slice tx x none (some y) none) f (.string (bs (l.take k))) := fun ρ hρ d ty pos aft g w => by
 subst e
 simp [execOp, Instr.sliceAt, Instr.slice, Instr.sliceBounds, Instr.sliceBound, hρ _ _ hx, hρ _ _ hi, asIntOf, run_underlying hu, hk, fbs_extract, bs_size]
theorem Pure.cat (hx : evo f x = some (.string (bs l))) (hy : evo f y = some (.string (bs m))) (hlen : l.length + m.length ≤ 9223372036854775807) : Pure P (.binOp .add tx x y ty) f (.string (bs (l ++ m))) := fun ρ hρ d ty pos aft g w => by
 have h : (l.length : Int) + (m.length : Int) ≤ 9223372036854775807 := by omega
 simp [execOp, hρ _ _ hx, hρ _ _ hy, eqGuard, binOp, Op.stringOp, bs_append, bs_size, h]
theorem Pure.eqs (hx : evo f x = some (.string (bs l))) (hy : evo f y = some (.string (bs m))) : Pure P (.binOp .eql tx x y ty) f (.bool (decide (l = m))) := fun ρ hρ d ty pos aft g w => by
 simp [execOp, hρ _ _ hx, hρ _ _ hy, eqGuard, binOp, Op.stringOp, fbs_toList, beq_dec]
theorem Pure.nes (hx : evo f x = some (.string (bs l))) (hy : evo f y = some (.string (bs m))) : Pure P (.binOp .neq tx x y ty) f (.bool (!decide (l = m))) := fun ρ hρ d ty pos aft g w => by
 simp [execOp, hρ _ _ hx, hρ _ _ hy, eqGuard, binOp, Op.stringOp, fbs_toList, beq_dec]
/-- a part of several results -/
theorem Pure.ext {i : Nat} {vs : Array Value} {v : Value} (hx : evo f x = some (.tuple vs)) (hv : vs[i]? = some v) : Pure P (.extract x i) f v := fun ρ hρ d ty pos aft g w => by
 simp [execOp, hρ _ _ hx, Instr.extract, hv]
end strings
/-- a function with a body of its own -/
def HasBody (P : Program) (F : FuncId) : Prop := ∃ fn, P.funcs[F]? = some fn ∧ fn.body ≠ none ∧ fn.name ≠ "runtime.NumGoroutine"
theorem hasBody {F : FuncId} {fn : Func} (hf : P.funcs[F]? = some fn) (hb : (fn.body.isNone || fn.name == "runtime.NumGoroutine") = false) : HasBody P F := by
 simp only [Bool.or_eq_false_iff] at hb
 exact ⟨fn, hf, fun h => by rw [h] at hb; exact absurd hb.1 dD, fun h => by rw [h] at hb; exact absurd hb.2 dD⟩
/-- the values of operands -/
def evs (f : Fr) : List Operand → Option (List Value)
 | [] => some []
 | x :: r => match evo f x, evs f r with
  | some v, some vs => some (v :: vs)
  | _, _ => none
theorem evs_map {ρ : Operand → Value} (hρ : Agr f ρ) : ∀ (xs : List Operand) (vs : List Value), evs f xs = some vs → xs.map ρ = vs
 | [], vs, h => by simp only [evs, Option.some.injEq] at h; subst h; rfl
 | x :: r, vs, h => by
  unfold evs at h
  cases hx : evo f x with
  | none => rw [hx] at h; cases h
  | some v =>
   cases hr : evs f r with
   | none => rw [hx, hr] at h; cases h
   | some us =>
    rw [hx, hr] at h
    simp only [Option.some.injEq] at h
    subst h
    simp [hρ _ _ hx, evs_map hρ r us hr]
theorem run_callOp {F : FuncId} (hb : HasBody P F) {ρ : Operand → Value} (hρ : Agr f ρ) {xs : List Operand} {vs : List Value} (hx : evs f xs = some vs) {ats : Array TypeId} (d : Option Tmp) (ty : TypeId) (pos : String) (aft : Array Edge) (g : Option (Nat × Bool)) (w : World) :
  (execOp ρ ⟨d, .call ⟨.value (.func F), xs.toArray, ats⟩, ty, pos, aft, g⟩).run P w = .ok (.enter F vs.toArray) w := by
 obtain ⟨fn, h1, h2, h3⟩ := hb
 have e := evs_map hρ _ _ hx
 have hfn : ρ (.func F) = .func (.func F) #[] #[] := hρ _ _ rfl
 have hargs : xs.toArray.map ρ = vs.toArray := by simp [e]
 unfold execOp
 simp only [resolve, hargs, hfn]
 simp [Deferred.ofValue, invoke, callFunc, run_program, h1, h2, h3]
/-- a call, by a contract -/
theorem WL.call {ops : Array Oper} {Q : Exit → Fr → World → Prop} {w : World} {rest : List Oper} {d ty : Nat} {pos : String} {aft : Array Edge} {F : FuncId} {xs : List Operand} {ats : Array TypeId} {vs : List Value} {α : Sort _}
  {V : α → Value} {S : α → World → Prop} (hb : HasBody P F) (hx : evs f xs = some vs) (hd : Nat.blt d n.n = true)
  (hc : Calls P F vs.toArray w fun e w' => ∃ t, e = .returned (V t) ∧ S t w') (k : ∀ t w', S t w' → WL P n ops Q rest ((d, V t) :: f) w') :
  WL P n ops Q (⟨some d, .call ⟨.value (.func F), xs.toArray, ats⟩, ty, pos, aft, none⟩ :: rest) f w := by
 intro a ha
 refine wpList_plain rfl fun K hK => ?_
 unfold Oper.wp
 rw [run_callOp hb ha.agr hx, Oper.upon_enter]
 refine hc.mono ?_
 rintro e w' ⟨t, rfl, hS⟩
 exact hK _ _ (k t w' hS _ (ha.put hd _))
/-- a call that panics, by a contract -/
theorem WL.cp {ops : Array Oper} {Q : Exit → Fr → World → Prop} {w : World} {rest : List Oper} {d : Option Tmp} {ty : Nat} {pos : String} {aft : Array Edge} {F : FuncId} {xs : List Operand} {ats : Array TypeId} {vs : List Value}
  {ch : List PanicEntry} {S : World → Prop} (hb : HasBody P F) (hx : evs f xs = some vs)
  (hc : Calls P F vs.toArray w fun e w' => e = .panicked ch ∧ S w') (k : ∀ w', S w' → Q (.panic ch) f w') :
  WL P n ops Q (⟨d, .call ⟨.value (.func F), xs.toArray, ats⟩, ty, pos, aft, none⟩ :: rest) f w := by
 intro a ha
 refine wpList_plain rfl fun K hK => ?_
 unfold Oper.wp
 rw [run_callOp hb ha.agr hx, Oper.upon_enter]
 refine hc.mono ?_
 rintro e w' ⟨rfl, hS⟩
 exact ⟨f, ha, k w' hS⟩
/-- a panic of the text's own -/
theorem WL.pn {ops : Array Oper} {Q : Exit → Fr → World → Prop} {w : World} {rest : List Oper} {d : Option Tmp} {ty : Nat} {pos : String} {aft : Array Edge} {op : Op} {v : Value}
  (h : ∀ ρ, Agr f ρ → (execOp ρ ⟨d, op, ty, pos, aft, none⟩).run P w = .halt (.panic v) w) (k : Q (.panic [{ v, recovered := false }]) f w) :
  WL P n ops Q (⟨d, op, ty, pos, aft, none⟩ :: rest) f w := by
 intro a ha
 refine wpList_plain rfl fun K hK => ?_
 unfold Oper.wp
 rw [h _ ha.agr, Oper.upon_panic]
 exact ⟨f, ha, k⟩
/-- a call, by a contract that tells one value -/
theorem WL.c1 {ops : Array Oper} {Q : Exit → Fr → World → Prop} {w : World} {rest : List Oper} {d ty : Nat} {pos : String} {aft : Array Edge} {F : FuncId} {xs : List Operand} {ats : Array TypeId} {vs : List Value}
  {V : Value} {S : World → Prop} (hb : HasBody P F) (hx : evs f xs = some vs) (hd : Nat.blt d n.n = true)
  (hc : Calls P F vs.toArray w fun e w' => e = .returned V ∧ S w') (k : ∀ w', S w' → WL P n ops Q rest ((d, V) :: f) w') :
  WL P n ops Q (⟨some d, .call ⟨.value (.func F), xs.toArray, ats⟩, ty, pos, aft, none⟩ :: rest) f w :=
 WL.call (α := Unit) (V := fun _ => V) (S := fun _ => S) hb hx hd (hc.mono fun _ _ h => ⟨(), h⟩) (fun _ => k)
/-- a block of cells that may be written -/
def Blk (w : World) (b : Nat) (cs : Array Value) (t : TypeId) : Prop := w.heap[b]? = some (.cells cs t (0, 0))
/-- w1 is w but for one block, which may be new -/
structure Upd (b : Nat) (w w1 : World) : Prop where
 os : w1.os = w.os
 tape : w1.tape = w.tape
 output : w1.output = w.output
 size : w.heap.size ≤ w1.heap.size
 other : ∀ k, k ≠ b → w1.heap[k]? = w.heap[k]?
theorem Blk.lt {w : World} {b : Nat} {cs : Array Value} {t : TypeId} (h : Blk w b cs t) : b < w.heap.size := (Array.getElem?_eq_some_iff.1 h).1
theorem Upd.below {B b : Nat} {w0 w w1 : World} (hb : Below B w0 w) (hB : B ≤ b) (h : Upd b w w1) : Below B w0 w1 :=
 ⟨h.os.trans hb.os, h.tape.trans hb.tape, h.output.trans hb.output, Nat.le_trans hb.size h.size, fun k hk => (h.other k oO).trans (hb.block k hk)⟩
theorem Blk.upd {w w1 : World} {b c : Nat} {cs : Array Value} {t : TypeId} (h : Blk w c cs t) (hu : Upd b w w1) (hne : c ≠ b) : Blk w1 c cs t := (hu.other c hne).trans h
theorem Blk.up {w w1 : World} {b c : Nat} {cs : Array Value} {t : TypeId} (h : Blk w c cs t) (hu : Upd b w w1) (hne : c ≠ b := by ((try simp only) <;> omega)) : Blk w1 c cs t := h.upd hu hne
theorem Blk.below {w w1 : World} {B c : Nat} {cs : Array Value} {t : TypeId} (h : Blk w c cs t) (hb : Below B w w1) (hc : c < B) : Blk w1 c cs t := (hb.block c hc).trans h
theorem Upd.alloc (w : World) (o : Obj) : Upd w.heap.size w (w.alloc o) := ⟨rfl, rfl, rfl, by simp, fun k hk => by
 show (w.heap.push o)[k]? = _
 rw [Array.getElem?_push, if_neg hk]⟩
theorem Upd.setRow (w : World) (b : Nat) (cs : Array Value) : Upd b w (w.setRow b cs) := ⟨rfl, rfl, rfl, by simp [World.setRow], fun k hk => by
 simp only [World.setRow, Array.getElem?_modify]
 rw [if_neg oO]⟩
theorem Upd.setCell (w : World) (b o : Nat) (v : Value) : Upd b w (w.setCell ⟨b, o, none⟩ v) := ⟨rfl, rfl, rfl, by simp [World.setCell], fun k hk => by
 simp only [World.setCell, Array.getElem?_modify]
 rw [if_neg oO]⟩
theorem Blk.alloc (w : World) (cs : Array Value) (t : TypeId) : Blk (w.alloc (.cells cs t)) w.heap.size cs t := by
 show (w.heap.push _)[w.heap.size]? = _
 simp
theorem Blk.setCell {w : World} {b : Nat} {cs : Array Value} {t : TypeId} (h : Blk w b cs t) (o : Nat) (v : Value) : Blk (w.setCell ⟨b, o, none⟩ v) b (cs.setIfInBounds o v) t := by
 unfold Blk at *
 simp [World.setCell, Array.getElem?_modify, h]
theorem Blk.cell {w : World} {b : Nat} {cs : Array Value} {t : TypeId} (h : Blk w b cs t) (o : Nat) : w.cell? ⟨b, o, none⟩ = cs[o]? := cell_of_row w b o cs t (0, 0) h
theorem Blk.free {w : World} {b : Nat} {cs : Array Value} {t : TypeId} (h : Blk w b cs t) (o : Nat) : w.frozen? ⟨b, o, none⟩ = false := by
 unfold Blk at h
 simp [World.frozen?, h]
section mem
variable {ops : Array Oper} {Q : Exit → Fr → World → Prop} {w : World} {rest : List Oper} {d ty : Nat} {pos : String} {aft : Array Edge}
/-- a new variable -/
theorem WL.alloc {t : TypeId} {z : Value} (hz : ∀ w, (zeroValue t).run P w = .ok z w) (hd : Nat.blt d n.n = true)
  (k : ∀ b w1, b = w.heap.size → Blk w1 b z.cells t → Upd b w w1 → w1.heap.size = b + 1 → WL P n ops Q rest ((d, .pointer (some ⟨b, 0, none⟩)) :: f) w1) :
  WL P n ops Q (⟨some d, .alloc t, ty, pos, aft, none⟩ :: rest) f w :=
 WL.run hd (w' := w.alloc (.cells z.cells t)) (v := .pointer (some ⟨w.heap.size, 0, none⟩)) (fun ρ hρ => by
  simp [execOp, Instr.alloc, hz, newVar, newRow]) (k _ _ rfl (Blk.alloc _ _ _) (Upd.alloc _ _) (by simp))
/-- a new variable with a value -/
theorem WL.box {t : TypeId} {x : Operand} {v : Value} (hx : evo f x = some v) (hd : Nat.blt d n.n = true)
  (k : ∀ b w1, b = w.heap.size → Blk w1 b v.cells t → Upd b w w1 → w1.heap.size = b + 1 → WL P n ops Q rest ((d, .pointer (some ⟨b, 0, none⟩)) :: f) w1) :
  WL P n ops Q (⟨some d, .box t x, ty, pos, aft, none⟩ :: rest) f w :=
 WL.run hd (w' := w.alloc (.cells v.cells t)) (v := .pointer (some ⟨w.heap.size, 0, none⟩)) (fun ρ hρ => by
  simp [execOp, Instr.box, hρ _ _ hx, newVar, newRow]) (k _ _ rfl (Blk.alloc _ _ _) (Upd.alloc _ _) (by simp))
/-- a variable of several cells is stored -/
theorem WL.stA {t tb : TypeId} {x y : Operand} {b : Nat} {old cs : Array Value} (hx : evo f x = some (.pointer (some ⟨b, 0, none⟩))) (hy : evo f y = some (.agg cs)) (hb : Blk w b old tb)
  (hi : (P.info? t).map (·.size) = some cs.size) (ho : old.size = cs.size) (h1 : cs.all (·.oneCell') = true)
  (k : ∀ w1, Blk w1 b cs tb → Upd b w w1 → w1.heap.size = w.heap.size → WL P n ops Q rest f w1) :
  WL P n ops Q (⟨none, .store t x y, ty, pos, aft, none⟩ :: rest) f w :=
 WL.act (w' := w.setRow b cs) (fun ρ hρ => by
  unfold execOp
  simp only [hρ _ _ hx, hρ _ _ hy, Instr.storeAt, Instr.sureAddr, Sem.run_bind, Sem.run_pure, Result.andThen_ok, run_storeVar_row w b tb t old cs hb hi ho h1])
  (k _ (setRow_heap w b old cs tb (0, 0) hb) (Upd.setRow _ _ _) (by simp [World.setRow]))
/-- a variable of several cells is read -/
theorem WL.ldA {t tb : TypeId} {x : Operand} {b : Nat} {cs : Array Value} {dd : TypeDesc} (hx : evo f x = some (.pointer (some ⟨b, 0, none⟩))) (hb : Blk w b cs tb)
  (hu : P.underlying t = some dd) (hdd : (match dd with | .struct _ | .array _ _ => true | _ => false) = true) (hi : (P.info? t).map (·.size) = some cs.size) (hd : Nat.blt d n.n = true)
  (k : WL P n ops Q rest ((d, .agg cs) :: f) w) : WL P n ops Q (⟨some d, .load t x, ty, pos, aft, none⟩ :: rest) f w :=
 WL.run hd (fun ρ hρ => by
  unfold execOp
  simp only [hρ _ _ hx, Instr.loadAt, Instr.sureAddr, Sem.run_bind, Sem.run_pure, Result.andThen_ok, run_loadVar_row w b tb t cs (0, 0) dd hb hu hdd hi]) k
/-- a struct's value out of its parts -/
theorem Pure.build {t : TypeId} {ps : List (Nat × Operand)} {vs : List Value} {cs : Array Value} (hx : evs f (ps.map (·.2)) = some vs) (hb : P.built t ((ps.map (·.1)).zip vs) = some cs) : Pure P (.build t ps.toArray) f (.agg cs) := fun ρ hρ d ty pos aft g w => by
 have e := evs_map hρ _ _ hx
 have e2 : (ps.toArray.map fun (i, x) => (i, ρ x)).toList = (ps.map (·.1)).zip vs := by
  rw [← e]
  simp only [List.map_map, Array.toList_map]
  clear hx hb e
  induction ps with
  | nil => rfl
  | cons p r ih => simpa using ih
 unfold execOp
 simp only [Sem.run_bind, run_build w t _ cs (by rw [e2]; exact hb), Result.andThen_ok, Sem.run_pure]
end mem
end
section
variable {P : Program} {n : Sh} {f : Fr}
/-- an operation that only reads: its value in this world -/
def Rd (P : Program) (op : Op) (f : Fr) (w : World) (v : Value) : Prop := ∀ ρ, Agr f ρ → ∀ d ty pos aft g, (execOp ρ ⟨d, op, ty, pos, aft, g⟩).run P w = .ok (.value v) w
theorem Pure.rd {op : Op} {v : Value} {w : World} (h : Pure P op f v) : Rd P op f w v := fun ρ hρ d ty pos aft g => h ρ hρ d ty pos aft g w
theorem Rd.ld {t tb : TypeId} {x : Operand} {b o : Nat} {cs : Array Value} {v : Value} {w : World} (ha : (isAgg t).run P w = .ok false w) (hx : evo f x = some (.pointer (some ⟨b, o, none⟩))) (hb : Blk w b cs tb) (hv : cs[o]? = some v) :
  Rd P (.load t x) f w v := fun ρ hρ d ty pos aft g => by
 have hc := (hb.cell o).trans hv
 simp [execOp, hρ _ _ hx, Instr.loadAt, Instr.sureAddr, loadVar, ha, hc]
theorem Rd.ldc {t : TypeId} {x : Operand} {p : Addr} {v : Value} {w : World} (ha : (isAgg t).run P w = .ok false w) (hx : evo f x = some (.pointer (some p))) (hv : w.cell? p = some v) :
  Rd P (.load t x) f w v := fun ρ hρ d ty pos aft g => by
 simp [execOp, hρ _ _ hx, Instr.loadAt, Instr.sureAddr, loadVar, ha, hv]
theorem Rd.ldA {t tb : TypeId} {x : Operand} {b : Nat} {cs : Array Value} {dd : TypeDesc} {w : World} (hx : evo f x = some (.pointer (some ⟨b, 0, none⟩))) (hb : Blk w b cs tb)
  (hu : P.underlying t = some dd) (hdd : (match dd with | .struct _ | .array _ _ => true | _ => false) = true) (hi : (P.info? t).map (·.size) = some cs.size) : Rd P (.load t x) f w (.agg cs) := fun ρ hρ d ty pos aft g => by
 unfold execOp
 simp only [hρ _ _ hx, Instr.loadAt, Instr.sureAddr, Sem.run_bind, Sem.run_pure, Result.andThen_ok, run_loadVar_row w b tb t cs (0, 0) dd hb hu hdd hi]
/-- the length of a slice -/
theorem Pure.lenS {at' e : TypeId} {x : Operand} {p : Option Addr} {l c : Nat} (hu : P.underlying at' = some (.slice e)) (hx : evo f x = some (.slice p l c)) : Pure P (.call ⟨.builtin .len, #[x], #[at']⟩) f (.int .i64 (l : Int)) := fun ρ hρ d ty pos aft g w => by
 simp [execOp, resolve, invoke, builtin, Builtin.len_, run_underlying hu, hρ _ _ hx, goInt]
/-- the address of a slice's element -/
theorem Pure.ixa {tx e : TypeId} {x y : Operand} {p : Addr} {l c sz : Nat} {i : Int} {k : IntKind} (hu : P.underlying tx = some (.slice e)) (hs : ∀ w, (sizeOf e).run P w = .ok sz w) (hx : evo f x = some (.slice (some p) l c))
  (hi : evo f y = some (.int k i)) (j : Nat) (e' : i = j) (hj : j < l) : Pure P (.indexAddr tx x y) f (.pointer (some (p.add (j * sz)))) := fun ρ hρ d ty pos aft g w => by
 subst e'
 simp [execOp, Instr.indexAt, hρ _ _ hx, hρ _ _ hi, asIntOf, run_underlying hu, hs, hj]
/-- the address of a field -/
theorem Pure.fa {s : TypeId} {x : Operand} {p : Addr} {i : Nat} {fs : Array Field} {fd : Field} {sz : Nat} (hu : P.underlying s = some (.struct fs)) (hf : fs[i]? = some fd) (hs : ∀ w, (sizeOf fd.type).run P w = .ok sz w) (h0 : sz ≠ 0)
  (hx : evo f x = some (.pointer (some p))) : Pure P (.fieldAddr s x i) f (.pointer (some (p.add fd.offset))) := fun ρ hρ d ty pos aft g w => by
 simp [execOp, Instr.fieldAt, hρ _ _ hx, run_underlying hu, hf, Instr.sureAddr, fieldPlace, hs, h0]
/-- a check against nil -/
theorem Pure.nck {x : Operand} {p : Addr} (hx : evo f x = some (.pointer (some p))) : Pure P (.nilCheck x) f (.pointer (some p)) := fun ρ hρ d ty pos aft g w => by
 simp [execOp, hρ _ _ hx]
theorem WL.r {ops : Array Oper} {Q : Exit → Fr → World → Prop} {w : World} {rest : List Oper} {d ty : Nat} {pos : String} {aft : Array Edge} {op : Op} {v : Value}
  (h : Rd P op f w v) (hd : Nat.blt d n.n = true) (k : WL P n ops Q rest ((d, v) :: f) w) : WL P n ops Q (⟨some d, op, ty, pos, aft, none⟩ :: rest) f w :=
 WL.run hd (fun ρ hρ => h ρ hρ _ _ _ _ _) k
/-- one cell is stored -/
theorem WL.st {ops : Array Oper} {Q : Exit → Fr → World → Prop} {w : World} {rest : List Oper} {ty : Nat} {pos : String} {aft : Array Edge} {t tb : TypeId} {x y : Operand} {b o : Nat} {cs : Array Value} {v : Value}
  (hs : ∀ w, (sizeOf t).run P w = .ok 1 w) (hx : evo f x = some (.pointer (some ⟨b, o, none⟩))) (hy : evo f y = some v) (h1 : v.oneCell' = true) (hb : Blk w b cs tb) (ho : o < cs.size)
  (k : ∀ w1, Blk w1 b (cs.setIfInBounds o v) tb → Upd b w w1 → w1.heap.size = w.heap.size → WL P n ops Q rest f w1) : WL P n ops Q (⟨none, .store t x y, ty, pos, aft, none⟩ :: rest) f w :=
 WL.act (w' := w.setCell ⟨b, o, none⟩ v) (fun ρ hρ => by
  have hc : w.cell? ⟨b, o, none⟩ = some cs[o] := by rw [hb.cell o]; simp [ho]
  have hf := hb.free o
  have hst := run_store P w ⟨b, o, none⟩ v .plain h1
  have hcs : v.cells = #[v] := by cases v <;> first | rfl | cases h1
  have h0 : (⟨b, o, none⟩ : Addr).add 0 = ⟨b, o, none⟩ := by simp [Addr.add]
  simp [execOp, hρ _ _ hx, hρ _ _ hy, Instr.storeAt, Instr.sureAddr, storeVar, hcs, hs, storeCells, h0, hst, hc, hf])
  (k _ (hb.setCell o v) (Upd.setCell w b o v) (by simp [World.setCell]))
/-- a guard that was passed over itself -/
theorem yielded_undef {a : Act} {ops : Array Oper} {j dj : Nat} (ha : Rep n f a) (hj : (ops[j]?).bind (·.dst) = some dj) (ht : look f dj = some undef) : yielded ops a.tmps j = none := by
 have hval := ha.2.2 _ _ ht
 unfold yielded
 cases ho : ops[j]? with
 | none => rw [ho] at hj; cases hj
 | some o =>
  rw [ho] at hj
  simp only [Option.bind_some] at hj
  cases h : a.tmps[dj]? with
  | none => simp [hj, h]
  | some v =>
   rw [Array.getD_eq_getD_getElem?, h] at hval
   simp only [Option.getD_some] at hval
   subst hval
   simp [hj, h, undef]
theorem WL.gu {ops : Array Oper} {Q : Exit → Fr → World → Prop} {w : World} {rest : List Oper} {d ty : Nat} {pos : String} {aft : Array Edge} {op : Op} {j dj : Nat} {b : Bool}
  (hj : (ops[j]?).bind (·.dst) = some dj) (ht : look f dj = some undef) (hd : Nat.blt d n.n = true)
  (hn : WL P n ops Q rest ((d, undef) :: f) w) : WL P n ops Q (⟨some d, op, ty, pos, aft, some (j, b)⟩ :: rest) f w := by
 intro a ha
 have hyl := yielded_undef ha hj ht
 have := hn _ (ha.put hd undef)
 unfold wpList
 simp only [Region.wanted, hyl]
 exact this
/-- more is known -/
def Le (g f : Fr) : Prop := ∀ i v, look g i = some v → look f i = some v
theorem Le.refl (f : Fr) : Le f f := fun _ _ h => h
theorem Le.cons {g f : Fr} {d : Nat} {v : Value} (hd : look g d = none) (h : Le g f) : Le g ((d, v) :: f) := by
 intro i u hu
 unfold look
 cases hb : Nat.beq d i with
 | true =>
  obtain rfl : d = i := Nat.eq_of_beq_eq_true hb
  rw [hd] at hu; cases hu
 | false => exact h i u hu
theorem Le.put {g f : Fr} (h : Le g f) {d : Nat} {v : Value} (hd : look f d = some v) : Le ((d, v) :: g) f := by
 intro i u hu
 unfold look at hu
 cases hb : Nat.beq d i with
 | true =>
  rw [hb] at hu
  obtain rfl : d = i := Nat.eq_of_beq_eq_true hb
  rw [hd]; exact hu
 | false => rw [hb] at hu; exact h i u hu
/-- a cut behind a test: the test's slot holds this -/
theorem W.cutB {x y : Code} {Q : Exit → Fr → World → Prop} {w : World} (c : Nat) (T : Bool)
  (h1 : W P n x (nx (fun f' w' => (look f' c = some (.bool T) ∧ Le f f') ∧ w' = w) Q) f w) (h2 : W P n y Q ((c, .bool T) :: f) w) : W P n (.seq x y) Q f w := by
 refine W.seq (h1.mono ?_)
 intro e f' w' h
 cases e with
 | normal =>
  obtain ⟨⟨hc, hle⟩, rfl⟩ := h
  exact fun a ha => h2 a ⟨ha.1, ha.2.1, fun i v hv => ha.2.2 i v (hle.put hc i v hv)⟩
 | _ => exact h
theorem ndT {p : Prop} [Decidable p] (h : (!decide p) = true) : ¬ p := by simpa using h
theorem ndF {p : Prop} [Decidable p] (h : (!decide p) = false) : p := by simpa using h
theorem nT {t : Bool} (h : (!t) = true) : t = false := by simpa using h
theorem nF {t : Bool} (h : (!t) = false) : t = true := by simpa using h
theorem lk_b {f : Fr} {i : Nat} {s t : Bool} (h : look f i = some (.bool s)) (e : s = t) : look f i = some (.bool t) := by rw [h, e]
theorem leF {f g : Fr} {c : Nat} {s t : Bool} (h : look g c = some (.bool s)) (e : s = t := by first | (simp; omega) | (exfalso; simp_all; omega) | (exfalso; omega)) (k : Le f g := by repeat (first | exact Le.refl _ | refine Le.cons rfl ?_)) : look g c = some (.bool t) ∧ Le f g := ⟨lk_b h e, k⟩
theorem leE {f g : Fr} {c : Nat} {t : Bool} (h : look g c = some (.bool t)) (k : Le f g := by repeat (first | exact Le.refl _ | refine Le.cons rfl ?_)) : look g c = some (.bool t) ∧ Le f g := ⟨h, k⟩
theorem lk_i {f : Fr} {i : Nat} {k : IntKind} {s t : Int} (h : look f i = some (.int k s)) (e : s = t) : look f i = some (.int k t) := by rw [h, e]
theorem lk_s {f : Fr} {i : Nat} {s t : List UInt8} (h : look f i = some (.string (bs s))) (e : s = t) : look f i = some (.string (bs t)) := by rw [h, e]
/-- w1 is w after some draws -/
def Drew (w w1 : World) : Prop := ∃ m, w1 = w.drewN m
theorem Drew.refl (w : World) : Drew w w := ⟨0, rfl⟩
theorem Drew.trans {a b c : World} (h : Drew a b) (k : Drew b c) : Drew a c := by
 obtain ⟨m, rfl⟩ := h; obtain ⟨j, rfl⟩ := k; exact ⟨m + j, by rw [World.drewN_drewN]⟩
theorem Drew.below {B : Nat} {w0 w w1 : World} (h : Below B w0 w) (d : Drew w w1) : Below B w0 w1 := by
 obtain ⟨m, rfl⟩ := d; exact ⟨h.os, h.tape, h.output, h.size, h.block⟩
theorem Drew.size {w w1 : World} (d : Drew w w1) : w1.heap.size = w.heap.size := by obtain ⟨m, rfl⟩ := d; rfl
theorem Blk.drew {w w1 : World} {b : Nat} {cs : Array Value} {t : TypeId} (h : Blk w b cs t) (d : Drew w w1) : Blk w1 b cs t := by obtain ⟨m, rfl⟩ := d; exact h
/-- the first N operations only read; what stands behind comes in the text's order -/
def WS (P : Program) (n : Sh) (ops : Array Oper) (Q : Exit → Fr → World → Prop) (tail : List Oper) (w : World) (l : List Oper) (f : Fr) : Prop :=
 ∀ a, Rep n f a → wpStill P ops w (fun a' => wpList P ops (lift n Q) tail a' w) l a
theorem W.regT {Q : Exit → Fr → World → Prop} {w : World} {id : Nat} {l : List Oper} (N : Nat) (hm : P.follows .mixedOrders = true) (hB : Region.lexTailB .any l.toArray N = true)
  (h : ∀ w1, Drew w w1 → WS P n l.toArray Q (l.drop N) w1 (l.take N) f) : W P n (.region id l.toArray true) Q f w :=
 fun a ha => wp_region_still_tail N hm hB (h _ ⟨1, rfl⟩ a ha)
section
variable {ops : Array Oper} {Q : Exit → Fr → World → Prop} {w : World} {tail rest : List Oper} {d ty : Nat} {pos : String} {aft : Array Edge} {op : Op} {v : Value}
theorem WS.nil (h : WL P n ops Q tail f w) : WS P n ops Q tail w [] f := fun a ha => wpStill_nil (h a ha)
theorem WS.r (h : Rd P op f w v) (hd : Nat.blt d n.n = true) (k : WS P n ops Q tail w rest ((d, v) :: f)) : WS P n ops Q tail w (⟨some d, op, ty, pos, aft, none⟩ :: rest) f := by
 intro a ha
 unfold wpStill
 rw [if_pos (by simp [Region.wanted])]
 unfold Oper.still
 rw [h _ ha.agr]
 exact ⟨rfl, k _ (ha.put hd v)⟩
theorem WS.p (h : Pure P op f v) (hd : Nat.blt d n.n = true) (k : WS P n ops Q tail w rest ((d, v) :: f)) : WS P n ops Q tail w (⟨some d, op, ty, pos, aft, none⟩ :: rest) f := WS.r h.rd hd k
end
/-- .. in a region that draws its order -/
theorem W.cutBQ {x y : Code} {Q : Exit → Fr → World → Prop} {w : World} (c : Nat) (T : Bool)
  (h1 : W P n x (nx (fun f' w' => (look f' c = some (.bool T) ∧ Le f f') ∧ Drew w w') Q) f w) (h2 : ∀ w1, Drew w w1 → W P n y Q ((c, .bool T) :: f) w1) : W P n (.seq x y) Q f w := by
 refine W.seq (h1.mono ?_)
 intro e f' w' h
 cases e with
 | normal =>
  obtain ⟨⟨hc, hle⟩, hdr⟩ := h
  exact fun a ha => h2 _ hdr a ⟨ha.1, ha.2.1, fun i v hv => ha.2.2 i v (hle.put hc i v hv)⟩
 | _ => exact h
def WQ (P : Program) (n : Sh) (ops : Array Oper) (Q : Exit → Fr → World → Prop) (w : World) (l : List Oper) (f : Fr) : Prop :=
 ∀ a, Rep n f a → wpQuiet P ops (fun w' => ∃ m, w' = w.drewN m) (fun a' => ∀ w', (∃ m, w' = w.drewN m) → lift n Q .normal a' w') l a
theorem W.regQ {Q : Exit → Fr → World → Prop} {w : World} {id : Nat} {l : List Oper} (hm : P.follows .mixedOrders = true) (hB : Region.lexB .any l.toArray = true) (h : WQ P n l.toArray Q w l f) : W P n (.region id l.toArray true) Q f w :=
 fun a ha => wp_region_quiet_lit hm hB (h a ha)
section
variable {ops : Array Oper} {Q : Exit → Fr → World → Prop} {w : World} {rest : List Oper} {d ty : Nat} {pos : String} {aft : Array Edge} {op : Op} {v : Value}
theorem WQ.nil (h : ∀ w1, Drew w w1 → Q .normal f w1) : WQ P n ops Q w [] f := fun _ ha => wpQuiet_nil fun w' e => ⟨f, ha, h w' e⟩
theorem WQ.r (h : ∀ m, Rd P op f (w.drewN m) v) (hd : Nat.blt d n.n = true) (k : WQ P n ops Q w rest ((d, v) :: f)) : WQ P n ops Q w (⟨some d, op, ty, pos, aft, none⟩ :: rest) f := by
 intro a ha
 unfold wpQuiet
 rw [if_pos (by simp [Region.wanted])]
 refine ⟨v, ?_, k _ (ha.put hd v)⟩
 rintro w' ⟨m, rfl⟩
 unfold Oper.quietAt
 rw [h m _ ha.agr]
 exact ⟨rfl, rfl⟩
theorem WQ.p (h : Pure P op f v) (hd : Nat.blt d n.n = true) (k : WQ P n ops Q w rest ((d, v) :: f)) : WQ P n ops Q w (⟨some d, op, ty, pos, aft, none⟩ :: rest) f := WQ.r (fun _ => h.rd) hd k
theorem WQ.gd {j dj : Nat} {b t : Bool} (hj : (ops[j]?).bind (·.dst) = some dj) (ht : look f dj = some (.bool t)) (hd : Nat.blt d n.n = true)
    (hy : t = b → WQ P n ops Q w (⟨some d, op, ty, pos, aft, none⟩ :: rest) f) (hn : t = !b → WQ P n ops Q w rest ((d, undef) :: f)) :
    WQ P n ops Q w (⟨some d, op, ty, pos, aft, some (j, b)⟩ :: rest) f := by
  intro a ha
  have hval := ha.2.2 _ _ ht
  have hyl : yielded ops a.tmps j = some t := by
    unfold yielded
    cases ho : ops[j]? with
    | none => rw [ho] at hj; cases hj
    | some o =>
      rw [ho] at hj
      simp only [Option.bind_some] at hj
      have h1 : a.tmps[dj]? = some (.bool t) := by
        cases h : a.tmps[dj]? with
        | none => rw [Array.getD_eq_getD_getElem?, h] at hval; cases hval
        | some v => rw [Array.getD_eq_getD_getElem?, h] at hval; exact congrArg some hval
      simp [hj, h1]
  by_cases hb : t = b
  · have := hy hb a ha
    unfold wpQuiet at this ⊢
    simp only [Region.wanted, hyl, hb, beq_self_eq_true, if_true] at this ⊢
    exact this
  · have hb' : t = !b := by revert hb; cases t <;> cases b <;> decide
    have := hn hb' _ (ha.put hd undef)
    unfold wpQuiet
    have hw : (some t == some b) = false := by revert hb; cases t <;> cases b <;> decide
    simp only [Region.wanted, hyl, hw]
    exact this
theorem WQ.gy {j dj : Nat} {b t : Bool} (hj : (ops[j]?).bind (·.dst) = some dj) (ht : look f dj = some (.bool t)) (hd : Nat.blt d n.n = true) (e : t = b)
  (hy : WQ P n ops Q w (⟨some d, op, ty, pos, aft, none⟩ :: rest) f) : WQ P n ops Q w (⟨some d, op, ty, pos, aft, some (j, b)⟩ :: rest) f :=
 WQ.gd hj ht hd (fun _ => hy) (fun h => by rw [e] at h; cases b <;> cases h)
theorem WQ.gn {j dj : Nat} {b t : Bool} (hj : (ops[j]?).bind (·.dst) = some dj) (ht : look f dj = some (.bool t)) (hd : Nat.blt d n.n = true) (e : t = !b)
  (hn : WQ P n ops Q w rest ((d, undef) :: f)) : WQ P n ops Q w (⟨some d, op, ty, pos, aft, some (j, b)⟩ :: rest) f :=
 WQ.gd hj ht hd (fun h => by rw [e] at h; cases b <;> cases h) (fun _ => hn)
theorem WQ.gu {j dj : Nat} {b : Bool} (hj : (ops[j]?).bind (·.dst) = some dj) (ht : look f dj = some undef) (hd : Nat.blt d n.n = true)
  (hn : WQ P n ops Q w rest ((d, undef) :: f)) : WQ P n ops Q w (⟨some d, op, ty, pos, aft, some (j, b)⟩ :: rest) f := by
 intro a ha
 have hyl := yielded_undef ha hj ht
 have := hn _ (ha.put hd undef)
 unfold wpQuiet
 simp only [Region.wanted, hyl]
 exact this
/-- a call that only reads -/
theorem WQ.c1 {F : FuncId} {xs : List Operand} {ats : Array TypeId} {vs : List Value} (hb : HasBody P F) (hx : evs f xs = some vs) (hd : Nat.blt d n.n = true)
  (hc : ∀ m, Calls P F vs.toArray (w.drewN m) fun e w' => e = .returned v ∧ ∃ k, w' = w.drewN k) (k : WQ P n ops Q w rest ((d, v) :: f)) :
  WQ P n ops Q w (⟨some d, .call ⟨.value (.func F), xs.toArray, ats⟩, ty, pos, aft, none⟩ :: rest) f := by
 intro a ha
 unfold wpQuiet
 rw [if_pos (by simp [Region.wanted])]
 refine ⟨v, ?_, k _ (ha.put hd v)⟩
 rintro w' ⟨m, rfl⟩
 unfold Oper.quietAt
 rw [run_callOp hb ha.agr hx]
 exact ⟨rfl, hc m⟩
end
end
/-- a test whose outcome is known otherwise -/
theorem Pure.bis {P : Program} {op : Op} {f : Fr} {s : Bool} (t : Bool) (h : Pure P op f (.bool s)) (e : s = t) : Pure P op f (.bool t) := e ▸ h
/-- a number spelled otherwise -/
theorem Pure.iis {P : Program} {op : Op} {f : Fr} {k : IntKind} {s : Int} (t : Int) (h : Pure P op f (.int k s)) (e : s = t) : Pure P op f (.int k t) := e ▸ h
/-- all of one cell -/
def ones : List Value → Bool
 | [] => true
 | v :: r => v.oneCell' && ones r
theorem ones_mem : ∀ {l : List Value}, ones l = true → ∀ v ∈ l, v.oneCell' = true
 | [], _, v, hv => by cases hv
 | u :: r, h, v, hv => by
  simp only [ones, Bool.and_eq_true] at h
  rcases List.mem_cons.1 hv with rfl | hv
  ·
   exact h.1
  ·
   exact ones_mem h.2 v hv
/-- parts put into a struct's cells, a cell each -/
def put1 : List Value → List (Nat × Value) → List Value
 | z, [] => z
 | z, (i, v) :: r => put1 (z.set i v) r
theorem pR {p : Prop} (h : p := by simp only [put1, List.map, List.zip, List.zipWith, List.set, List.replicate] <;> rfl) : p := h
theorem pS {p : Prop} (h : p := by simp only [put1, List.map, List.zip, List.zipWith, List.set] <;> rfl) : p := h
theorem pZ {p : Prop} (h : p := by simp only [put1, List.map, List.zip, List.zipWith] <;> rfl) : p := h
/-- the i-th field is the i-th cell, for the first n -/
def idPlaces : Nat → Nat → List (Nat × Nat) → Bool
 | _, 0, l => l.isEmpty
 | k, n + 1, p :: l => Nat.beq p.1 k && Nat.beq p.2 1 && idPlaces (k + 1) n l
 | _, _ + 1, [] => false
theorem idPlaces_at : ∀ (n k : Nat) (l : List (Nat × Nat)), idPlaces k n l = true → ∀ i, i < n → l[i]? = some (k + i, 1)
 | 0, _, _, _, _, hi => by omega
 | n + 1, k, [], h, _, _ => by cases h
 | n + 1, k, p :: l, h, i, hi => by
  simp only [idPlaces, Bool.and_eq_true] at h
  obtain ⟨⟨h1, h2⟩, h3⟩ := h
  cases i with
  | zero =>
   have e1 := Nat.eq_of_beq_eq_true h1
   have e2 := Nat.eq_of_beq_eq_true h2
   simp; exact Prod.ext e1 e2
  | succ i =>
   have := idPlaces_at n (k + 1) l h3 i oO
   rw [List.getElem?_cons_succ, this]
   congr 2; omega
theorem oneCells {v : Value} (h : v.oneCell' = true) : v.cells = #[v] := by cases v <;> first | rfl | cases h
def idxOk (n : Nat) : List (Nat × Value) → Bool
 | [] => true
 | (i, v) :: r => Nat.blt i n && v.oneCell' && idxOk n r
theorem fill_put1 {pl : List (Nat × Nat)} {n : Nat} (hp : idPlaces 0 n pl = true) : ∀ (parts : List (Nat × Value)) (z : List Value), z.length = n → idxOk n parts = true → Instr.fill (pl.toArray[·]?) z.toArray parts = some (put1 z parts).toArray
 | [], z, _, _ => rfl
 | (i, v) :: r, z, hz, ho => by
  simp only [idxOk, Bool.and_eq_true] at ho
  obtain ⟨⟨h1, h2⟩, h3⟩ := ho
  have hi : i < n := by simpa [Nat.blt_eq] using h1
  have hpl := idPlaces_at n 0 pl hp i hi
  have hc := oneCells h2
  have ih := fill_put1 hp r (z.set i v) (by simpa using hz) h3
  simp only [Nat.zero_add] at hpl
  have hpl' : pl.toArray[i]? = some (i, 1) := by simpa using hpl
  have hf : (#[v].zipIdx.foldl (fun cs (x : Value × Nat) => cs.setIfInBounds (i + x.2) x.1) z.toArray) = (z.set i v).toArray := by simp [Array.zipIdx]
  refine Eq.trans ?_ ih
  conv => lhs; unfold Instr.fill
  simp only [hpl', hc]
  rw [if_neg (by simp; omega)]
  exact congrArg (fun c => Instr.fill (pl.toArray[·]?) c r) hf
theorem Pure.buildL {P : Program} {f : Fr} {t : TypeId} {ps : List (Nat × Operand)} {vs zl l : List Value} {pl : List (Nat × Nat)} (hb : P.built t = fun parts => Instr.fill (pl.toArray[·]?) zl.toArray parts) (hp : idPlaces 0 zl.length pl = true)
  (hx : evs f (ps.map (·.2)) = some vs) (ho : idxOk zl.length ((ps.map (·.1)).zip vs) = true) (hl : put1 zl ((ps.map (·.1)).zip vs) = l) : Pure P (.build t ps.toArray) f (.agg l.toArray) :=
 Pure.build hx (by rw [hb, ← hl]; exact fill_put1 hp _ _ rfl ho)
theorem WL.stL {P : Program} {n : Sh} {f : Fr} {ops : Array Oper} {Q : Exit → Fr → World → Prop} {w : World} {rest : List Oper} {ty : Nat} {pos : String} {aft : Array Edge} {t tb : TypeId} {x y : Operand} {b : Nat} {old l : List Value} (hx : evo f x = some (.pointer (some ⟨b, 0, none⟩))) (hy : evo f y = some (.agg l.toArray)) (hb : Blk w b old.toArray tb)
  (hi : (P.info? t).map (·.size) = some l.length) (ho : old.length = l.length) (h1 : ones l = true)
  (k : ∀ w1, Blk w1 b l.toArray tb → Upd b w w1 → w1.heap.size = w.heap.size → WL P n ops Q rest f w1) :
  WL P n ops Q (⟨none, .store t x y, ty, pos, aft, none⟩ :: rest) f w :=
 WL.stA hx hy hb (by simpa using hi) (by simpa using ho) (by simpa using ones_mem h1) k
theorem ldRow {P : Program} {w : World} {b : Nat} {cs : Array Value} {t tb : TypeId} {dd : TypeDesc} (hb : Blk w b cs tb) (hu : P.underlying t = some dd)
  (hd : (match dd with | .struct _ | .array _ _ => true | _ => false) = true) (hi : (P.info? t).map (·.size) = some cs.size) : (loadVar t ⟨b, 0, none⟩).run P w = .ok (.agg cs) w := run_loadVar_row w b tb t cs (0, 0) dd hb hu hd hi
theorem pn_is {P : Program} {fn : Func} {R : Ending → World → Prop} {c : List PanicEntry} {f : Fr} {w : World} (h : R (.panicked c) w) : Post P fn R (.panic c) f w := h
theorem pn_post {P : Program} {fn : Func} {R : Ending → World → Prop} {c : List PanicEntry} {f g : Fr} {w : World} (h : Post P fn R (.panic c) f w) : Post P fn R (.panic c) g w := h
theorem upon_post {P : Program} {o : Oper} {a : Act} {w : World} {K : Act → World → Prop} {Q Q' : Exit → Act → World → Prop} (h : o.wp P a w K Q) (hq : ∀ e a w, e ≠ .normal → Q e a w → Q' e a w) : o.wp P a w K Q' := by
 unfold Oper.wp at *
 generalize (execOp a.eval o).run P w = r at *
 cases r with
 | ok m w' =>
  cases m <;> simp only [Oper.upon] at h ⊢ <;>
   first
    | exact h
    | exact Calls.mono h (fun e w'' he => by
      cases e with
      | returned v => exact he
      | panicked c => exact hq _ _ _ (by simp) he
      | outgrown => obtain ⟨a', w3, h3⟩ := he; exact ⟨a', w3, hq _ _ _ (by simp) h3⟩)
 | halt x w' => cases x <;> simp only [Oper.upon] at h ⊢ <;> first | exact h | exact hq _ _ _ (by simp) h
def WY (P : Program) (n : Sh) (ops : Array Oper) (Q : Exit → Fr → World → Prop) (fuel : Nat) (listed : Array Bool) (f : Fr) (w : World) : Prop := ∀ a, Rep n f a → wpAny P .any ops (lift n Q) fuel listed a w
section
variable {P : Program} {n : Sh} {f : Fr} {ops : Array Oper} {Q : Exit → Fr → World → Prop} {w : World} {fuel : Nat} {listed : Array Bool}
theorem W.regY {id : Nat} {l : List Oper} (N : Nat) (hN : l.length = N) (hm : P.follows .mixedOrders = true) (h : ∀ w1, Drew w w1 → WY P n l.toArray Q N (Array.replicate N false) f w1) : W P n (.region id l.toArray true) Q f w :=
 fun a ha => wp_region_any hm (by
  subst hN
  have := h (w.drewN 1) ⟨1, rfl⟩ a ha
  rw [show l.toArray.size = l.length by simp]
  exact this)
theorem WY.take (i : Nat) {d ty : Nat} {pos : String} {aft : Array Edge} {op : Op} {v : Value} (hi : ops[i]? = some ⟨some d, op, ty, pos, aft, none⟩) (hs : Region.noSelect ops = true) (hf : Region.free .any ops listed i = true)
  (hr : (Region.ready .any ops listed).contains i = true) (hQ : ∀ c f w, Q (.panic c) f w → Q (.panic c) [] w) (hp : Pure P op f v) (hd : Nat.blt d n.n = true)
  (k : WY P n ops Q fuel (listed.setIfInBounds i true) ((d, v) :: f) w) : WY P n ops Q (fuel + 1) listed f w := by
 intro a ha
 refine wpAny_take hi hs hf hr ?_ (.inl ⟨by simp [Region.wanted], fun w => hp _ ha.agr _ _ _ _ _ w⟩) (k _ (ha.put hd v))
 rintro c b w' ⟨g, hg, hq⟩
 have hg1 := hg.1
 have hg2 := hg.2.1
 refine ⟨[], ⟨?_, ?_, fun i u hu => by cases hu⟩, hQ c g w' hq⟩
 ·
  exact hg1
 ·
  simpa [Act.put] using hg2
def BrAll (P : Program) (n : Sh) (ops : Array Oper) (Q : Exit → Fr → World → Prop) (fuel : Nat) (listed : Array Bool) (f : Fr) (w : World) : List Nat → Prop
 | [] => True
 | i :: r => (∃ o, ops[i]? = some o ∧ WL P n ops (nx (fun f' w' => WY P n ops Q fuel (listed.setIfInBounds i true) f' w') Q) [o] f w) ∧ BrAll P n ops Q fuel listed f w r
theorem BrAll.mem : ∀ {rs : List Nat}, BrAll P n ops Q fuel listed f w rs → ∀ i ∈ rs, ∃ o, ops[i]? = some o ∧ WL P n ops (nx (fun f' w' => WY P n ops Q fuel (listed.setIfInBounds i true) f' w') Q) [o] f w
 | [], _, _, h => by cases h
 | j :: r, h, i, hi => by
  rcases List.mem_cons.1 hi with rfl | hi
  ·
   exact h.1
  ·
   exact BrAll.mem h.2 i hi
theorem WY.br (rs : List Nat) (hr : Region.ready .any ops listed = rs) (hne : rs.isEmpty = false) (h : BrAll P n ops Q fuel listed f w rs) : WY P n ops Q (fuel + 1) listed f w := by
 intro a ha
 refine wpAny_all hr (by cases rs with | nil => cases hne | cons _ _ => simp) fun i hi => ?_
 obtain ⟨o, ho, hw⟩ := h.mem i hi
 have := hw a ha
 unfold wpOp
 simp only [ho]
 have conv : ∀ (e : Exit) (a : Act) (w : World), lift n (nx (fun f' w' => WY P n ops Q fuel (listed.setIfInBounds i true) f' w') Q) e a w → Exit.then (wpAny P .any ops (lift n Q) fuel (listed.setIfInBounds i true)) (lift n Q) e a w := by
  rintro e a w ⟨g, hg, hq⟩
  cases e with
  | normal => exact hq a hg
  | _ => exact ⟨g, hg, hq⟩
 unfold wpList at this
 split
 ·
  next hwt =>
  rw [if_pos hwt] at this
  refine this.imp (fun h => ?_) fun ⟨h1, a', w', h2⟩ => ⟨h1, a', w', conv _ _ _ h2⟩
  have h' : o.wp P a w (wpAny P .any ops (lift n Q) fuel (listed.setIfInBounds i true)) (lift n (nx (fun f' w' => WY P n ops Q fuel (listed.setIfInBounds i true) f' w') Q)) :=
   Oper.wp_mono (fun a w h => conv .normal a w h) h
  exact upon_post h' fun e a w he h => by
   cases e with
   | normal => exact absurd rfl he
   | _ => exact conv _ a w h
 ·
  next hwt =>
  rw [if_neg hwt] at this
  exact conv .normal _ _ this
/-- the same, what is closed being reckoned at the place of use -/
theorem WY.tk (i : Nat) {d ty : Nat} {pos : String} {aft : Array Edge} {op : Op} {v : Value} (hi : ops[i]? = some ⟨some d, op, ty, pos, aft, none⟩) (hp : Pure P op f v) (hd : Nat.blt d n.n = true)
  (k : WY P n ops Q fuel (listed.setIfInBounds i true) ((d, v) :: f) w) (hs : Region.noSelect ops = true := by kernel_rfl) (hf : Region.free .any ops listed i = true := by kernel_rfl)
  (hr : (Region.ready .any ops listed).contains i = true := by kernel_rfl) (hQ : ∀ c f w, Q (.panic c) f w → Q (.panic c) [] w := by first | exact fun c f w h => pn_post h | exact fun c f w h => h) : WY P n ops Q (fuel + 1) listed f w :=
 WY.take i hi hs hf hr hQ hp hd k
theorem WY.br1 (i : Nat) {o : Oper} (hi : ops[i]? = some o) (h : WL P n ops (nx (fun f' w' => WY P n ops Q fuel (listed.setIfInBounds i true) f' w') Q) [o] f w) (hr : Region.ready .any ops listed = [i] := by kernel_rfl) : WY P n ops Q (fuel + 1) listed f w :=
 WY.br [i] hr rfl ⟨⟨_, hi, h⟩, trivial⟩
theorem WY.br2 (i : Nat) {o : Oper} (hi : ops[i]? = some o) (j : Nat) {o2 : Oper} (hj : ops[j]? = some o2) (h : WL P n ops (nx (fun f' w' => WY P n ops Q fuel (listed.setIfInBounds i true) f' w') Q) [o] f w)
  (h2 : WL P n ops (nx (fun f' w' => WY P n ops Q fuel (listed.setIfInBounds j true) f' w') Q) [o2] f w) (hr : Region.ready .any ops listed = [i, j] := by kernel_rfl) : WY P n ops Q (fuel + 1) listed f w :=
 WY.br [i, j] hr rfl ⟨⟨_, hi, h⟩, ⟨_, hj, h2⟩, trivial⟩
theorem WY.done (hr : Region.ready .any ops listed = []) (h : Q .normal f w) : WY P n ops Q fuel listed f w := fun _ ha => wpAny_done hr ⟨f, ha, h⟩ fuel
end
attribute [irreducible] Post W WL WQ WS WY
end
section
theorem mixed : Tryz.prog.follows .mixedOrders = true := by kernel_rfl
theorem hb3 : HasBody Tryz.prog 3 := hasBody func3 kR
theorem hb4 : HasBody Tryz.prog 4 := hasBody func4 kR
theorem hb5 : HasBody Tryz.prog 5 := hasBody func5 kR
theorem hb6 : HasBody Tryz.prog 6 := hasBody func6 kR
theorem hb7 : HasBody Tryz.prog 7 := hasBody func7 kR
theorem hb8 : HasBody Tryz.prog 8 := hasBody func8 kR
theorem hb9 : HasBody Tryz.prog 9 := hasBody func9 kR
theorem hb10 : HasBody Tryz.prog 10 := hasBody func10 kR
theorem hb11 : HasBody Tryz.prog 11 := hasBody func11 kR
theorem hb12 : HasBody Tryz.prog 12 := hasBody func12 kR
theorem hb13 : HasBody Tryz.prog 13 := hasBody func13 kR
theorem hb14 : HasBody Tryz.prog 14 := hasBody func14 kR
theorem hb15 : HasBody Tryz.prog 15 := hasBody func15 kR
theorem hb16 : HasBody Tryz.prog 16 := hasBody func16 kR
theorem hb17 : HasBody Tryz.prog 17 := hasBody func17 kR
theorem hb18 : HasBody Tryz.prog 18 := hasBody func18 kR
theorem hb22 : HasBody Tryz.prog 22 := hasBody func22 kR
theorem hb31 : HasBody Tryz.prog 31 := hasBody func31 kR
theorem hb32 : HasBody Tryz.prog 32 := hasBody func32 kR
theorem hb33 : HasBody Tryz.prog 33 := hasBody func33 kR
theorem hb34 : HasBody Tryz.prog 34 := hasBody func34 kR
theorem hb35 : HasBody Tryz.prog 35 := hasBody func35 kR
theorem hb36 : HasBody Tryz.prog 36 := hasBody func36 kR
theorem hb37 : HasBody Tryz.prog 37 := hasBody func37 kR
theorem hb38 : HasBody Tryz.prog 38 := hasBody func38 kR
theorem hb39 : HasBody Tryz.prog 39 := hasBody func39 kR
theorem hb40 : HasBody Tryz.prog 40 := hasBody func40 kR
theorem hb41 : HasBody Tryz.prog 41 := hasBody func41 kR
theorem hb42 : HasBody Tryz.prog 42 := hasBody func42 kR
theorem hb43 : HasBody Tryz.prog 43 := hasBody func43 kR
theorem hb45 : HasBody Tryz.prog 45 := hasBody func45 kR
theorem hb46 : HasBody Tryz.prog 46 := hasBody func46 kR
theorem hb48 : HasBody Tryz.prog 48 := hasBody func48 kR
theorem hb49 : HasBody Tryz.prog 49 := hasBody func49 kR
theorem hb60 : HasBody Tryz.prog 60 := hasBody func60 kR
theorem hb61 : HasBody Tryz.prog 61 := hasBody func61 kR
theorem hb62 : HasBody Tryz.prog 62 := hasBody func62 kR
theorem hb63 : HasBody Tryz.prog 63 := hasBody func63 kR
theorem hb66 : HasBody Tryz.prog 66 := hasBody func66 kR
theorem hb67 : HasBody Tryz.prog 67 := hasBody func67 kR
theorem hb68 : HasBody Tryz.prog 68 := hasBody func68 kR
theorem hb69 : HasBody Tryz.prog 69 := hasBody func69 kR
theorem hb70 : HasBody Tryz.prog 70 := hasBody func70 kR
theorem hb71 : HasBody Tryz.prog 71 := hasBody func71 kR
theorem hb72 : HasBody Tryz.prog 72 := hasBody func72 kR
theorem hb73 : HasBody Tryz.prog 73 := hasBody func73 kR
theorem hb74 : HasBody Tryz.prog 74 := hasBody func74 kR
theorem hb75 : HasBody Tryz.prog 75 := hasBody func75 kR
theorem hb76 : HasBody Tryz.prog 76 := hasBody func76 kR
theorem hb77 : HasBody Tryz.prog 77 := hasBody func77 kR
theorem hb78 : HasBody Tryz.prog 78 := hasBody func78 kR
theorem hb79 : HasBody Tryz.prog 79 := hasBody func79 kR
theorem hb80 : HasBody Tryz.prog 80 := hasBody func80 kR
theorem hb81 : HasBody Tryz.prog 81 := hasBody func81 kR
theorem hb91 : HasBody Tryz.prog 91 := hasBody func91 kR
theorem hb104 : HasBody Tryz.prog 104 := hasBody func104 kR
theorem hb105 : HasBody Tryz.prog 105 := hasBody func105 kR
theorem hb106 : HasBody Tryz.prog 106 := hasBody func106 kR
theorem hb107 : HasBody Tryz.prog 107 := hasBody func107 kR
theorem hb108 : HasBody Tryz.prog 108 := hasBody func108 kR
theorem hb109 : HasBody Tryz.prog 109 := hasBody func109 kR
theorem hb110 : HasBody Tryz.prog 110 := hasBody func110 kR
theorem hb111 : HasBody Tryz.prog 111 := hasBody func111 kR
theorem hb112 : HasBody Tryz.prog 112 := hasBody func112 kR
theorem hb113 : HasBody Tryz.prog 113 := hasBody func113 kR
theorem hb114 : HasBody Tryz.prog 114 := hasBody func114 kR
theorem hb115 : HasBody Tryz.prog 115 := hasBody func115 kR
theorem hb116 : HasBody Tryz.prog 116 := hasBody func116 kR
theorem hb117 : HasBody Tryz.prog 117 := hasBody func117 kR
theorem hb118 : HasBody Tryz.prog 118 := hasBody func118 kR
theorem hb149 : HasBody Tryz.prog 149 := hasBody func149 kR
theorem hb150 : HasBody Tryz.prog 150 := hasBody func150 kR
theorem hb151 : HasBody Tryz.prog 151 := hasBody func151 kR
theorem hb152 : HasBody Tryz.prog 152 := hasBody func152 kR
theorem hb153 : HasBody Tryz.prog 153 := hasBody func153 kR
theorem hb154 : HasBody Tryz.prog 154 := hasBody func154 kR
theorem hb155 : HasBody Tryz.prog 155 := hasBody func155 kR
theorem hb156 : HasBody Tryz.prog 156 := hasBody func156 kR
theorem hb157 : HasBody Tryz.prog 157 := hasBody func157 kR
theorem hb173 : HasBody Tryz.prog 173 := hasBody func173 kR
theorem hb174 : HasBody Tryz.prog 174 := hasBody func174 kR
theorem hb175 : HasBody Tryz.prog 175 := hasBody func175 kR
theorem hb176 : HasBody Tryz.prog 176 := hasBody func176 kR
theorem hb201 : HasBody Tryz.prog 201 := hasBody func201 kR
theorem hb202 : HasBody Tryz.prog 202 := hasBody func202 kR
theorem hb203 : HasBody Tryz.prog 203 := hasBody func203 kR
theorem hb204 : HasBody Tryz.prog 204 := hasBody func204 kR
theorem hb205 : HasBody Tryz.prog 205 := hasBody func205 kR
theorem hb206 : HasBody Tryz.prog 206 := hasBody func206 kR
theorem hb207 : HasBody Tryz.prog 207 := hasBody func207 kR
theorem hb234 : HasBody Tryz.prog 234 := hasBody func234 kR
theorem hb235 : HasBody Tryz.prog 235 := hasBody func235 kR
theorem hb236 : HasBody Tryz.prog 236 := hasBody func236 kR
theorem hb237 : HasBody Tryz.prog 237 := hasBody func237 kR
theorem hb238 : HasBody Tryz.prog 238 := hasBody func238 kR
theorem hb239 : HasBody Tryz.prog 239 := hasBody func239 kR
theorem hb240 : HasBody Tryz.prog 240 := hasBody func240 kR
theorem hb257 : HasBody Tryz.prog 257 := hasBody func257 kR
theorem isz31 : (Tryz.prog.info? 31).map (·.size) = some 6 := by kernel_rfl
theorem blt31 : Tryz.prog.built 31 = fun parts => Instr.fill (([(0, 1), (1, 1), (2, 1), (3, 1), (4, 1), (5, 1)] : List (Nat × Nat)).toArray[·]?) [Value.int .i64 0, Value.int .i64 0, Value.string ⟨#[]⟩, Value.slice none 0 0, Value.slice none 0 0, Value.slice none 0 0].toArray parts := by kernel_rfl
theorem blt63 : Tryz.prog.built 63 = fun parts => Instr.fill (([(0, 1), (1, 1), (2, 1)] : List (Nat × Nat)).toArray[·]?) [Value.slice none 0 0, Value.int .i64 0, Value.bool false].toArray parts := by kernel_rfl
theorem blt69 : Tryz.prog.built 69 = fun parts => Instr.fill (([(0, 1), (1, 1), (2, 1), (3, 1)] : List (Nat × Nat)).toArray[·]?) [Value.slice none 0 0, Value.int .i64 0, Value.bool false, Value.int .i64 0].toArray parts := by kernel_rfl
theorem isz143 : (Tryz.prog.info? 143).map (·.size) = some 3 := by kernel_rfl
theorem blt143 : Tryz.prog.built 143 = fun parts => Instr.fill (([(0, 1), (1, 1), (2, 1)] : List (Nat × Nat)).toArray[·]?) [Value.int .i64 0, Value.int .i64 0, Value.string ⟨#[]⟩].toArray parts := by kernel_rfl
theorem blt185 : Tryz.prog.built 185 = fun parts => Instr.fill (([(0, 1), (1, 1)] : List (Nat × Nat)).toArray[·]?) [Value.slice none 0 0, Value.int .i64 0].toArray parts := by kernel_rfl
end
section
section
variable {P : Program} {n : Sh} {f : Fr}
/-- where a slice's cells are; whatever, if it is nil -/
def pA (p : Option Addr) : Addr := p.getD ⟨0, 0, none⟩
/-- a slice of this base reads as these bytes -/
structure BytesAt (w : World) (p : Option Addr) (l : List UInt8) : Prop where
 isp : 0 < l.length → p = some (pA p)
 cells : ∀ j (h : j < l.length), w.cell? ((pA p).add j) = some (.int .u8 (l[j].toNat : Int))
theorem BytesAt.nil (w : World) : BytesAt w none [] := ⟨fun h => by simp at h, fun j h => by simp at h⟩
theorem add_zero_addr (a : Addr) : a.add 0 = a := by unfold Addr.add; split <;> simp_all
theorem add_block (a : Addr) (k : Nat) : (a.add k).block = a.block := by unfold Addr.add; split <;> simp_all
theorem add_add (a : Addr) (j k : Nat) : (a.add j).add k = a.add (j + k) := by
 unfold Addr.add
 split <;> simp_all <;> (try split) <;> simp_all <;> omega
theorem BytesAt.below {w w1 : World} {B : Nat} {p : Option Addr} {l : List UInt8} (h : BytesAt w p l) (hb : Below B w w1) (hp : 0 < l.length → (pA p).block < B) : BytesAt w1 p l :=
 ⟨h.isp, fun j hj => by rw [hb.cell (by rw [add_block]; exact hp oO)]; exact h.cells j hj⟩
theorem BytesAt.upd {w w1 : World} {b : Nat} {p : Option Addr} {l : List UInt8} (h : BytesAt w p l) (hu : Upd b w w1) (hp : 0 < l.length → (pA p).block ≠ b) : BytesAt w1 p l :=
 ⟨h.isp, fun j hj => by rw [World.cell?_of_block (w := w) (hu.other _ (by rw [add_block]; exact hp oO))]; exact h.cells j hj⟩
theorem bup {w w1 : World} {b : Nat} {p : Option Addr} {l : List UInt8} (h : BytesAt w p l) (hu : Upd b w w1) (hp : 0 < l.length → (pA p).block < b) : BytesAt w1 p l := BytesAt.upd h hu (fun h0 => Nat.ne_of_lt (hp h0))
theorem BytesAt.drewN {w : World} {p : Option Addr} {l : List UInt8} (h : BytesAt w p l) (m : Nat) : BytesAt (w.drewN m) p l := ⟨h.isp, h.cells⟩
theorem BytesAt.lt {w : World} {p : Option Addr} {l : List UInt8} (h : BytesAt w p l) (hl : 0 < l.length) : (pA p).block < w.heap.size := by
 have := h.cells 0 hl
 unfold World.cell? at this
 rw [add_block] at this
 cases hb : w.heap[(pA p).block]? with
 | none => rw [hb] at this; cases this
 | some o => exact (Array.getElem?_eq_some_iff.1 hb).1
/-- the address of a byte -/
theorem Pure.ixb {tx e : TypeId} {x y : Operand} {p : Option Addr} {l c : Nat} {i : Int} {k : IntKind} (hu : P.underlying tx = some (.slice e)) (hs : ∀ w, (sizeOf e).run P w = .ok 1 w) (hx : evo f x = some (.slice p l c))
  (hi : evo f y = some (.int k i)) (hp : p = some (pA p)) (j : Nat) (e' : i = j) (hj : j < l) : Pure P (.indexAddr tx x y) f (.pointer (some ((pA p).add j))) := by
 have h := Pure.ixa (P := P) (f := f) (p := pA p) (c := c) hu hs (hx.trans (by rw [← hp])) hi j e' hj
 rwa [Nat.mul_one] at h
theorem push_bytes (l : List UInt8) : (l.map fun b => (b.toNat : Int)).foldl (fun (r : ByteArray) n => r.push (UInt8.ofNat n.toNat)) ByteArray.empty = bs l := by
 have key : ∀ (l m : List UInt8), (l.map fun b => (b.toNat : Int)).foldl (fun (r : ByteArray) n => r.push (UInt8.ofNat n.toNat)) (bs m) = bs (m ++ l) := by
  intro l
  induction l with
  | nil => intro m; simp
  | cons c r ih =>
   intro m
   have e : (bs m).push (UInt8.ofNat ((c.toNat : Int)).toNat) = bs (m ++ [c]) := by
    rw [Int.toNat_natCast, UInt8.ofNat_toNat]
    apply ByteArray.ext
    simp [bs, ByteArray.push]
   rw [List.map_cons, List.foldl_cons, e, ih, List.append_assoc]; rfl
 have := key l []
 rw [List.nil_append] at this
 exact this
/-- bytes as a string -/
theorem Rd.b2s {tx ty e : TypeId} {x : Operand} {p : Option Addr} {l : List UInt8} {c : Nat} {w : World} (hu : P.underlying tx = some (.slice e)) (he : P.underlying e = some (.int .u8)) (ht : P.underlying ty = some .string)
  (hx : evo f x = some (.slice p l.length c)) (hb : BytesAt w p l) : Rd P (.convert tx ty x) f w (.string (bs l)) := fun ρ hρ d ty' pos aft g => by
 have hv := hρ _ _ hx
 have key : (convert tx ty (.slice p l.length c)).run P w = .ok (.string (bs l)) w := by
  cases p with
  | none =>
   have h0 : l = [] := by
    cases l with
    | nil => rfl
    | cons a r => have := hb.isp (by simp); cases this
   subst h0
   simp [convert, run_underlying hu, run_underlying he, run_underlying ht, Conv.bytesToString]
   rfl
  | some a =>
   have hl : (loadCells a l.length).run P w = .ok ((l.map fun b => (b.toNat : Int)).map (Value.int .u8)).toArray w := by
    have := run_loadCells_list (P := P) w a ((l.map fun b => (b.toNat : Int)).map (Value.int .u8)) (fun j v hj => by
     simp only [List.getElem?_map, Option.map_eq_some_iff] at hj
     obtain ⟨z, ⟨b, hb1, rfl⟩, rfl⟩ := hj
     obtain ⟨h1, rfl⟩ := List.getElem?_eq_some_iff.1 hb1
     exact hb.cells j h1)
    simpa using this
   rw [run_convert_bytes_string w tx ty e _ _ _ hu he ht, run_bytesToString w a l.length c _ hl, push_bytes]
 unfold execOp
 simp only [hv, Sem.run_bind, key, Result.andThen_ok, Sem.run_pure]
theorem BytesAt.one {w : World} {b : Nat} {x : Int} {t : TypeId} {c : UInt8} (h : Blk w b #[.int .u8 x] t) (e : x = (c.toNat : Int)) : BytesAt w (some ⟨b, 0, none⟩) [c] :=
 ⟨fun _ => rfl, fun j hj => by
  obtain rfl : j = 0 := by simp at hj; omega
  show w.cell? ((⟨b, 0, none⟩ : Addr).add 0) = _
  rw [add_zero_addr, h.cell 0, e]; rfl⟩
/-- a slice made of its parts, a cell each -/
theorem fill_seq {n : Nat} : ∀ (parts : List (Nat × Value)) (z : List Value), z.length = n → idxOk n parts = true → Instr.fill (fun i => some (i * 1, 1)) z.toArray parts = some (put1 z parts).toArray
 | [], z, _, _ => rfl
 | (i, v) :: r, z, hz, ho => by
  simp only [idxOk, Bool.and_eq_true] at ho
  obtain ⟨⟨h1, h2⟩, h3⟩ := ho
  have hi : i < n := by simpa [Nat.blt_eq] using h1
  have hc := oneCells h2
  have ih := fill_seq r (z.set i v) (by simpa using hz) h3
  have hf : (#[v].zipIdx.foldl (fun cs (x : Value × Nat) => cs.setIfInBounds (i * 1 + x.2) x.1) z.toArray) = (z.set i v).toArray := by simp [Array.zipIdx]
  refine Eq.trans ?_ ih
  conv => lhs; unfold Instr.fill
  simp only [hc]
  rw [if_neg (by simp; omega)]
  exact congrArg (fun c => Instr.fill (fun i => some (i * 1, 1)) c r) hf
theorem WL.bsl {ops : Array Oper} {Q : Exit → Fr → World → Prop} {w : World} {rest : List Oper} {d ty : Nat} {pos : String} {aft : Array Edge} {t e : TypeId} {len : Nat} {ps : List (Nat × Operand)} {vs l : List Value} {z : Value}
  (hu : P.underlying t = some (.slice e)) (hs : ∀ w, (sizeOf e).run P w = .ok 1 w) (hz : ∀ w, (zeroValue e).run P w = .ok z w) (hz1 : z.oneCell' = true) (hl0 : Nat.blt 0 len = true) (hl1 : Nat.ble len 1000 = true)
  (hx : evs f (ps.map (·.2)) = some vs) (ho : idxOk len ((ps.map (·.1)).zip vs) = true) (hl : put1 (List.replicate len z) ((ps.map (·.1)).zip vs) = l) (hd : Nat.blt d n.n = true)
  (k : ∀ b w1, b = w.heap.size → Blk w1 b l.toArray e → Upd b w w1 → w1.heap.size = b + 1 → WL P n ops Q rest ((d, .slice (some ⟨b, 0, none⟩) len len) :: f) w1) :
  WL P n ops Q (⟨some d, .buildSlice t len ps.toArray, ty, pos, aft, none⟩ :: rest) f w := by
 have h0 : 0 < len := by simpa [Nat.blt_eq] using hl0
 have h1 : len ≤ 1000 := by simpa using hl1
 refine WL.run hd (w' := w.alloc (.cells l.toArray e)) (v := .slice (some ⟨w.heap.size, 0, none⟩) len len) (fun ρ hρ => ?_) (k _ _ rfl (Blk.alloc _ _ _) (Upd.alloc _ _) (by simp))
 have e1 := evs_map hρ _ _ hx
 have e2 : (ps.toArray.map fun (i, x) => (i, ρ x)).toList = (ps.map (·.1)).zip vs := by
  rw [← e1]
  simp only [List.map_map, Array.toList_map]
  clear hx ho hl e1
  induction ps with
  | nil => rfl
  | cons p r ih => simpa using ih
 have hzc := oneCells hz1
 have hcells : (Array.range (len * 1)).map (fun x => (#[z] : Array Value)[x % (#[z] : Array Value).size]!) = (List.replicate len z).toArray := by
  apply Array.ext
  ·
   simp
  ·
   intro i h1 h2; simp [Nat.mod_one]
 have hfill := fill_seq (n := len) ((ps.map (·.1)).zip vs) (List.replicate len z) (by simp) ho
 rw [hl] at hfill
 have hfill' : Instr.fill (fun i => some (i, 1)) (List.replicate len z).toArray ((ps.map (·.1)).zip vs) = some l.toArray := by simpa using hfill
 have hcells' : (Array.range len).map (fun x => (#[z] : Array Value)[x % (#[z] : Array Value).size]!) = (List.replicate len z).toArray := by simpa using hcells
 have hne : len ≠ 0 := by omega
 have hbig : ¬ 16777216 < len := by omega
 unfold execOp
 simp only [Instr.buildSlice, Sem.run_bind, run_underlying hu, hs, Result.andThen_ok, e2, Nat.mul_one]
 rw [if_neg oO, if_neg hne]
 simp only [Sem.run_bind, hz, hzc, Sem.run_pure, Result.andThen_ok, hcells', hfill']
 simp [newRow]
end
end
section
/-- below block B nothing has turned but block r -/
structure Touch (B r : Nat) (w w1 : World) : Prop where
 os : w1.os = w.os
 tape : w1.tape = w.tape
 output : w1.output = w.output
 size : w.heap.size ≤ w1.heap.size
 block : ∀ k, k < B → k ≠ r → w1.heap[k]? = w.heap[k]?
theorem Touch.refl (B r : Nat) (w : World) : Touch B r w w := ⟨rfl, rfl, rfl, Nat.le_refl _, fun _ _ _ => rfl⟩
theorem Touch.trans {B r : Nat} {a b c : World} (h : Touch B r a b) (k : Touch B r b c) : Touch B r a c :=
 ⟨k.os.trans h.os, k.tape.trans h.tape, k.output.trans h.output, Nat.le_trans h.size k.size, fun i hi hr => (k.block i hi hr).trans (h.block i hi hr)⟩
theorem Touch.mono {B B' r : Nat} {a b : World} (h : Touch B r a b) (hB : B' ≤ B) : Touch B' r a b := ⟨h.os, h.tape, h.output, h.size, fun i hi hr => h.block i oO hr⟩
theorem Touch.of_below {B r : Nat} {a b : World} (h : Below B a b) : Touch B r a b := ⟨h.os, h.tape, h.output, h.size, fun i hi _ => h.block i hi⟩
theorem Touch.of_drew {B r : Nat} {a b : World} (h : Drew a b) : Touch B r a b := Touch.of_below (h.below (Below.refl _ _))
theorem Touch.of_upd {B r : Nat} {a b : World} (h : Upd r a b) : Touch B r a b := ⟨h.os, h.tape, h.output, h.size, fun i _ hr => h.other i hr⟩
theorem Touch.of_new {B r c : Nat} {a b : World} (h : Upd c a b) (hc : B ≤ c) : Touch B r a b := ⟨h.os, h.tape, h.output, h.size, fun i hi _ => h.other i oO⟩
/-- .. where block r is new itself -/
theorem Touch.below {B B' r : Nat} {a b : World} (h : Touch B' r a b) (hB : B ≤ B') (hr : B ≤ r) : Below B a b := ⟨h.os, h.tape, h.output, h.size, fun i hi => h.block i oO oO⟩
theorem Blk.touch {B r c : Nat} {w w1 : World} {cs : Array Value} {t : TypeId} (h : Blk w c cs t) (hT : Touch B r w w1) (hc : c < B) (hr : c ≠ r) : Blk w1 c cs t := (hT.block c hc hr).trans h
theorem BytesAt.touch {B r : Nat} {w w1 : World} {p : Option Addr} {l : List UInt8} (h : BytesAt w p l) (hT : Touch B r w w1) (hp : 0 < l.length → (pA p).block < B ∧ (pA p).block ≠ r) : BytesAt w1 p l :=
 ⟨h.isp, fun j hj => by
  obtain ⟨h1, h2⟩ := hp oO
  rw [World.cell?_of_block (w := w) (hT.block _ (by rw [add_block]; exact h1) (by rw [add_block]; exact h2))]; exact h.cells j hj⟩
theorem BytesAt.drew {w w1 : World} {p : Option Addr} {l : List UInt8} (h : BytesAt w p l) (d : Drew w w1) : BytesAt w1 p l := by obtain ⟨m, rfl⟩ := d; exact h.drewN m
section
variable {P : Program} {n : Sh} {f : Fr}
/-- a slice of the call's own, one cell an element, from block B on -/
def Own (e : TypeId) (B : Nat) (w : World) (v : Value) (xs : List Value) : Prop := w.ownsRow B e 1 v xs.length xs
theorem Own.nil (e : TypeId) (B : Nat) (w : World) : Own e B w (.slice none 0 0) [] := World.ownsRow_nil w B e 1
theorem Own.slice {e : TypeId} {B : Nat} {w : World} {v : Value} {xs : List Value} (h : Own e B w v xs) : ∃ p c, v = .slice p xs.length c := by
 obtain ⟨hl, h⟩ := h
 rcases h with ⟨rfl, h0⟩ | ⟨g, cap, cur, rfl, -⟩
 ·
  exact ⟨none, 0, by rw [h0]⟩
 ·
  exact ⟨_, cap, rfl⟩
theorem Own.touch {e : TypeId} {B r : Nat} {w w1 : World} {v : Value} {xs : List Value} (h : Own e B w v xs) (hu : Upd r w w1) (hr : r < B) : Own e B w1 v xs := by
 obtain ⟨hl, h⟩ := h
 refine ⟨hl, h.imp id fun ⟨g, cap, cur, h1, h2, h3, h4⟩ => ⟨g, cap, cur, h1, h2, (hu.other g oO).trans h3, h4⟩⟩
theorem Own.new {e : TypeId} {B b : Nat} {w w1 : World} {v : Value} {xs : List Value} (h : Own e B w v xs) (eb : b = w.heap.size) (hu : Upd b w w1) : Own e B w1 v xs := by
 obtain ⟨hl, h⟩ := h
 refine ⟨hl, h.imp id fun ⟨g, cap, cur, h1, h2, h3, h4⟩ => ⟨g, cap, cur, h1, h2, (hu.other g (by have := (Array.getElem?_eq_some_iff.1 h3).1; omega)).trans h3, h4⟩⟩
theorem Own.below {e : TypeId} {B : Nat} {w w1 : World} {v : Value} {xs : List Value} (h : Own e B w v xs) (hb : Below w.heap.size w w1) : Own e B w1 v xs := by
 obtain ⟨hl, h⟩ := h
 refine ⟨hl, h.imp id fun ⟨g, cap, cur, h1, h2, h3, h4⟩ => ⟨g, cap, cur, h1, h2, (hb.block g (Array.getElem?_eq_some_iff.1 h3).1).trans h3, h4⟩⟩
theorem Own.touch' {e : TypeId} {B r : Nat} {w w1 : World} {v : Value} {xs : List Value} (h : Own e B w v xs) (hT : Touch w.heap.size r w w1) (hr : r < B) : Own e B w1 v xs := by
 obtain ⟨hl, h⟩ := h
 refine ⟨hl, h.imp id fun ⟨g, cap, cur, h1, h2, h3, h4⟩ => ⟨g, cap, cur, h1, h2, (hT.block g (Array.getElem?_eq_some_iff.1 h3).1 oO).trans h3, h4⟩⟩
theorem Own.drew {e : TypeId} {B : Nat} {w w1 : World} {v : Value} {xs : List Value} (h : Own e B w v xs) (d : Drew w w1) : Own e B w1 v xs := by obtain ⟨m, rfl⟩ := d; exact h
/-- an own row of bytes reads as bytes -/
theorem Own.bytes {e : TypeId} {B : Nat} {w : World} {v : Value} {l : List UInt8} (h : Own e B w v (byteVals l)) : ∃ p c, v = .slice p l.length c ∧ BytesAt w p l ∧ (0 < l.length → B ≤ (pA p).block) := by
  have hbl : (byteVals l).length = l.length := by simp [byteVals]
  obtain ⟨hl, h⟩ := h
  rcases h with ⟨rfl, h0⟩ | ⟨g, cap, cur, rfl, hB, hg, hnc, hcm, hcs, htake⟩
  · obtain rfl : l = [] := by rw [hbl] at h0; exact List.length_eq_zero_iff.1 h0
    exact ⟨none, 0, rfl, BytesAt.nil w, fun h => by simp at h⟩
  · rw [hbl] at hnc htake ⊢
    refine ⟨_, cap, rfl, ⟨fun _ => rfl, fun j hj => ?_⟩, fun _ => hB⟩
    have e1 : (pA (some ⟨g, 0, none⟩)).add j = ⟨g, j, none⟩ := by
      show (⟨g, 0, none⟩ : Addr).add j = _
      unfold Addr.add; split
      · next h => subst h; rfl
      · simp
    have hc := Lib.cell_of_heap hg j
    rw [e1, hc, ← Array.getElem?_toList]
    have h2 : (cur.toList.take (l.length * 1))[j]? = (byteVals l)[j]? := by rw [htake]
    rw [List.getElem?_take, if_pos oO] at h2
    rw [h2]
    simp [byteVals, hj]
/-- one more element -/
theorem WL.app1 {ops : Array Oper} {Q : Exit → Fr → World → Prop} {w : World} {rest : List Oper} {d ty : Nat} {pos : String} {aft : Array Edge} {s x : Operand} {t e : TypeId} {B : Nat} {i : TypeInfo} {z v u : Value} {xs : List Value} {b c by' : Nat} {tb : TypeId}
    (ht : P.underlying t = some (.slice e)) (hi : P.info? e = some i) (hz : i.zero = some z) (hsize : i.size = 1) (hby : i.bytes = by') (hby2 : by' ≤ 16) (hzs : z.cells.size = 1)
    (hs : evo f s = some v) (hown : Own e B w v xs) (hx : evo f x = some (.slice (some ⟨b, 0, none⟩) 1 c)) (hb : Blk w b #[u] tb) (h1 : u.oneCell' = true)
    (hn : xs.length ≤ 1000000000) (hB : B ≤ w.heap.size) (hd : Nat.blt d n.n = true)
    (k : ∀ v' w', Own e B w' v' (xs ++ [u]) → Below B w w' → w.grownBy w' v.ownBlock → WL P n ops Q rest ((d, v') :: f) w') :
    WL P n ops Q (⟨some d, .call ⟨.builtin .append, #[s, x], #[t, t]⟩, ty, pos, aft, none⟩ :: rest) f w := by
  obtain ⟨v', w', h2, h3, h4, -⟩ := run_append_own (P := P) (w := w) B t ty e i z 1 by' ht hi hz hsize hby hzs dD v xs.length xs hown ⟨b, 0, none⟩ 1 c [u] rfl
    (fun j y hj => by
      have h0 : j = 0 := by
        rcases Nat.eq_zero_or_pos j with h | h
        · exact h
        · rw [List.getElem?_eq_none (by simp; omega)] at hj; cases hj
      subst h0
      simp only [List.getElem?_cons_zero, Option.some.injEq] at hj
      subst hj
      rw [add_zero_addr, hb.cell 0]; rfl) (by simpa using h1) (by unfold maxLen; omega) (by
      have : (xs.length + 1) * by' ≤ (xs.length + 1) * 16 := Nat.mul_le_mul_left _ hby2
      omega) hB
  refine WL.run hd (w' := w') (v := v') (fun ρ hρ => ?_) (k v' w' ?_ ((Below.refl _ _).grown h4 hB fun k hk => (hown.lt k hk).1) h4)
  · unfold execOp
    simp only [resolve, invoke, builtin, Sem.run_bind, Sem.run_pure, Result.andThen_ok, List.map_toArray, List.map_cons, List.map_nil, hρ _ _ hs, hρ _ _ hx, h2]
  · have e1 : (xs ++ [u]).length = xs.length + 1 := by simp
    unfold Own
    rw [e1]; exact h3
/-- an error's number as an interface's value -/
theorem Pure.mkI {tx : TypeId} {x : Operand} {k : IntKind} {v : Value} (hu : P.underlying tx = some (.int k)) (hx : evo f x = some v) : Pure P (.makeInterface tx x) f (.iface tx v) := fun ρ hρ d ty pos aft g w => by
 simp [execOp, hρ _ _ hx, Instr.makeInterface, run_underlying hu]
theorem WL.panic {ops : Array Oper} {Q : Exit → Fr → World → Prop} {w : World} {rest : List Oper} {d : Option Tmp} {ty : Nat} {pos : String} {aft : Array Edge} {x : Operand} {t : TypeId} {v : Value}
  (hx : evo f x = some (.iface t v)) (k : Q (.panic [{ v := .iface t v, recovered := false }]) f w) : WL P n ops Q (⟨d, .panic x, ty, pos, aft, none⟩ :: rest) f w :=
 WL.pn (fun ρ hρ => by simp [execOp, hρ _ _ hx, Instr.panic]) k
/-- what a call that may panic with an error's number comes to -/
def Ends {α : Type} (E : TypeId) (res : Except Int α) (V : α → Value) (S : α → World → Prop) (S' : World → Prop) (e : Ending) (w : World) : Prop :=
 match res with
 | .ok a => e = .returned (V a) ∧ S a w
 | .error k => e = .panicked [{ v := .iface E (.int .i64 k), recovered := false }] ∧ S' w
theorem WL.ce {ops : Array Oper} {Q : Exit → Fr → World → Prop} {w : World} {rest : List Oper} {d ty : Nat} {pos : String} {aft : Array Edge} {F : FuncId} {xs : List Operand} {ats : Array TypeId} {vs : List Value} {α : Type}
  {E : TypeId} {res : Except Int α} {V : α → Value} {S : α → World → Prop} {S' : World → Prop} (hb : HasBody P F) (hx : evs f xs = some vs) (hd : Nat.blt d n.n = true)
  (hc : Calls P F vs.toArray w (Ends E res V S S')) (herr : ∀ k w', res = .error k → S' w' → Q (.panic [{ v := .iface E (.int .i64 k), recovered := false }]) f w')
  (hok : ∀ a w', res = .ok a → S a w' → WL P n ops Q rest ((d, V a) :: f) w') : WL P n ops Q (⟨some d, .call ⟨.value (.func F), xs.toArray, ats⟩, ty, pos, aft, none⟩ :: rest) f w := by
 cases hres : res with
 | ok a => exact WL.c1 hb hx hd (hc.mono fun e w' h => by rw [hres] at h; exact h) fun w' h => hok a w' hres h
 | error k => exact WL.cp hb hx (hc.mono fun e w' h => by rw [hres] at h; exact h) fun w' h => herr k w' hres h
theorem Ends.ok {α : Type} {E : TypeId} {res : Except Int α} {V : α → Value} {S : α → World → Prop} {S' : World → Prop} {e : Ending} {w : World} (a : α) (h : res = .ok a) (he : e = .returned (V a)) (hs : S a w) : Ends E res V S S' e w := by
 unfold Ends; rw [h]; exact ⟨he, hs⟩
theorem Ends.err {α : Type} {E : TypeId} {res : Except Int α} {V : α → Value} {S : α → World → Prop} {S' : World → Prop} {w : World} (k : Int) (h : res = .error k) (hs : S' w) : Ends E res V S S' (.panicked [{ v := .iface E (.int .i64 k), recovered := false }]) w := by
 unfold Ends; rw [h]; exact ⟨rfl, hs⟩
end
end
section
theorem W.norm {P : Program} {fn : Func} {R : Ending → World → Prop} {f : Fr} {w : World} (h : Post P fn R .ret f w) : Post P fn R .normal f w := by unfold Post at *; exact h
/-- one result, which lies in memory -/
theorem W.retc1 {P : Program} {fn : Func} {R : Ending → World → Prop} {f : Fr} {w : World} {t : Tmp} {ty : TypeId} {b : Addr} {v : Value} (hr : fn.results = #[.cell t ty])
  (ht : look f t = some (.pointer (some b))) (hv : (loadVar ty b).run P w = .ok v w) (h : R (.returned v) w) : Post P fn R .ret f w := by
 unfold Post
 exact ⟨_, fun tmps hh => by
  have e1 := hh _ _ ht
  simp only [Array.getD_eq_getD_getElem?] at e1
  simp [results, hr, e1, asAddr, hv], h⟩
section
variable {P : Program} {n : Sh} {f : Fr}
/-- where a part of a slice stands -/
def pPart (p : Option Addr) (c a : Nat) : Option Addr := if c = a then p else p.map (·.add a)
theorem Pure.slb {tx e : TypeId} {x y z : Operand} {p : Option Addr} {m c : Nat} {i j : Int} (hu : P.underlying tx = some (.slice e)) (hs : ∀ w, (sizeOf e).run P w = .ok 1 w) (hx : evo f x = some (.slice p m c))
  (hi : evo f y = some (.int .i64 i)) (hj : evo f z = some (.int .i64 j)) (a b : Nat) (ei : i = a) (ej : j = b) (hab : a ≤ b) (hbc : b ≤ c) :
  Pure P (.slice tx x (some y) (some z) none) f (.slice (pPart p c a) (b - a) (c - a)) := fun ρ hρ d ty pos aft g w => by
 subst ei; subst ej
 have h1 : (a : Int) ≤ (b : Int) := by omega
 simp [execOp, Instr.sliceAt, Instr.slice, Instr.sliceBounds, run_sliceBound, hρ _ _ hx, hρ _ _ hi, hρ _ _ hj, run_underlying hu, hs, hbc, hab, pPart]
theorem BytesAt.part {w : World} {p : Option Addr} {l : List UInt8} {c a b : Nat} (h : BytesAt w p l) (hab : a ≤ b) (hb : b ≤ l.length) (hc : l.length ≤ c) : BytesAt w (pPart p c a) ((l.drop a).take (b - a)) := by
  have hlen : ((l.drop a).take (b - a)).length = b - a := by rw [List.length_take, List.length_drop]; omega
  by_cases h0 : a = b
  · refine ⟨fun h => ?_, fun j hj => ?_⟩ <;> rw [hlen] at * <;> omega
  · have hp := h.isp oO
    have e1 : pPart p c a = some ((pA p).add a) := by unfold pPart; rw [if_neg oO]; rw [hp]; rfl
    rw [e1]
    refine ⟨fun _ => rfl, fun j hj => ?_⟩
    rw [hlen] at hj
    show w.cell? (((pA p).add a).add j) = _
    rw [add_add, h.cells (a + j) oO]
    simp
theorem part_len {l : List UInt8} {a b : Nat} (hb : b ≤ l.length) : ((l.drop a).take (b - a)).length = b - a := by rw [List.length_take, List.length_drop]; omega
/-- a part of bytes as a string -/
theorem Rd.b2sPart {tx ty e : TypeId} {x : Operand} {p : Option Addr} {l : List UInt8} {a b c c' m : Nat} {w : World} (hu : P.underlying tx = some (.slice e)) (he : P.underlying e = some (.int .u8)) (ht : P.underlying ty = some .string)
  (hx : evo f x = some (.slice (pPart p c a) m c')) (hm : m = b - a) (hb : BytesAt w p l) (hab : a ≤ b) (hbl : b ≤ l.length) (hc : l.length ≤ c) : Rd P (.convert tx ty x) f w (.string (bs ((l.drop a).take (b - a)))) := by
 subst hm
 refine Rd.b2s (c := c') hu he ht ?_ (hb.part hab hbl hc)
 rw [part_len hbl]; exact hx
theorem Rd.iis {op : Op} {w : World} {k : IntKind} {s : Int} (t : Int) (h : Rd P op f w (.int k s)) (e : s = t) : Rd P op f w (.int k t) := e ▸ h
/-- one more element, from one fact of the type -/
theorem WL.appm {ops : Array Oper} {Q : Exit → Fr → World → Prop} {w : World} {rest : List Oper} {d ty : Nat} {pos : String} {aft : Array Edge} {s x : Operand} {t e : TypeId} {B : Nat} {z v u : Value} {xs : List Value} {b c by' : Nat} {tb : TypeId}
  (ht : P.underlying t = some (.slice e)) (hi : (P.info? e).map (fun i => (i.zero, i.size, i.bytes)) = some (some z, 1, by')) (hby2 : Nat.ble by' 16 = true) (hzs : z.cells.size = 1)
  (hs : evo f s = some v) (hown : Own e B w v xs) (hx : evo f x = some (.slice (some ⟨b, 0, none⟩) 1 c)) (hb : Blk w b #[u] tb) (h1 : u.oneCell' = true)
  (hn : xs.length ≤ 1000000000) (hB : B ≤ w.heap.size) (hd : Nat.blt d n.n = true)
  (k : ∀ v' w', Own e B w' v' (xs ++ [u]) → Below B w w' → w.grownBy w' v.ownBlock → WL P n ops Q rest ((d, v') :: f) w') :
  WL P n ops Q (⟨some d, .call ⟨.builtin .append, #[s, x], #[t, t]⟩, ty, pos, aft, none⟩ :: rest) f w := by
 cases hh : P.info? e with
 | none => rw [hh] at hi; cases hi
 | some i =>
  rw [hh] at hi
  simp only [Option.map_some, Option.some.injEq, Prod.mk.injEq] at hi
  exact WL.app1 ht hh hi.1 hi.2.1 hi.2.2 (by simpa using hby2) hzs hs hown hx hb h1 hn hB hd k
theorem byteVals_len (l : List UInt8) : (byteVals l).length = l.length := by simp [byteVals]
theorem Own.snoc {e : TypeId} {B : Nat} {w : World} {v : Value} {l : List UInt8} {x : Int} (h : Own e B w v (byteVals l ++ [.int .u8 x])) (c : UInt8) (hc : x = (c.toNat : Int)) : Own e B w v (byteVals (l ++ [c])) := by
 have : byteVals (l ++ [c]) = byteVals l ++ [.int .u8 x] := by simp [byteVals, hc]
 rw [this]; exact h
end
end
section
theorem ref_whole' (l : List UInt8) (w : World) (hl : l.length ≤ 1000) :
  Calls Tryz.prog 176 #[.string (bs l)] w fun e w' => ∃ v : Int, e = .returned (.tuple #[.int .i64 v, .bool (wholeT l).2]) ∧ (((wholeT l).2 = true → v = (wholeT l).1) ∧ Below w.heap.size w w') :=
 (ref_whole l w hl).mono fun _ _ ⟨⟨v, h1, h2⟩, h3⟩ => ⟨v, h1, h2, h3⟩
theorem isE_1 {c : UInt8} (h : (c.toNat : Int) = 101) : true = isE c := by
 obtain rfl : c = 101 := UInt8.toNat_inj.1 (by show c.toNat = 101; omega)
 rfl
theorem isE_2 {c : UInt8} (h : ¬ (c.toNat : Int) = 101) : decide ((c.toNat : Int) = 69) = isE c := by
 have h1 : (c == 101) = false := by rw [beq_eq_false_iff_ne]; rintro rfl; exact h rfl
 unfold isE
 rw [h1, Bool.false_or]
 by_cases h2 : c = 69
 ·
  subst h2; rfl
 ·
  rw [beq_false_of_ne h2]; exact decide_eq_false fun e => h2 (UInt8.toNat_inj.1 (by show c.toNat = 69; omega))
theorem sign_0 {q : List UInt8} (h : ¬ (0 : Int) < (q.length : Int)) : false = signQ q := by
 cases q with
 | nil => rfl
 | cons c r => exact absurd (by simp only [List.length_cons]; omega) h
theorem sign_1 {q : List UInt8} (h0 : 0 < q.length) (h : (q[0].toNat : Int) = 45) : true = signQ q := by
 cases q with
 | nil => cases h0
 | cons c r =>
  have h' : (c.toNat : Int) = 45 := h
  obtain rfl : c = 45 := UInt8.toNat_inj.1 (by show c.toNat = 45; omega)
  rfl
theorem sign_2 {q : List UInt8} (h0 : 0 < q.length) (h : ¬ (q[0].toNat : Int) = 45) : decide ((q[0].toNat : Int) = 43) = signQ q := by
 cases q with
 | nil => cases h0
 | cons c r =>
  have h1 : (c == 45) = false := by rw [beq_eq_false_iff_ne]; rintro rfl; exact h rfl
  show decide ((c.toNat : Int) = 43) = (c == 45 || c == 43)
  rw [h1, Bool.false_or]
  by_cases h2 : c = 43
  ·
   subst h2; rfl
  ·
   rw [beq_false_of_ne h2]; exact decide_eq_false fun e => h2 (UInt8.toNat_inj.1 (by show c.toNat = 43; omega))
theorem signQ_pos {q : List UInt8} (h : signQ q = true) : 0 < q.length := by
 cases q with
 | nil => cases h
 | cons c r => simp
theorem signed_T {q : List UInt8} (h : signQ q = true) : q.drop 1 = (signedL q).2 ∧ decide ((q[0]'(signQ_pos h)).toNat = (45 : Int)) = (signedL q).1 := by
 cases q with
 | nil => cases h
 | cons c r =>
  simp only [signQ, Bool.or_eq_true, beq_iff_eq] at h
  rcases h with rfl | rfl <;> exact ⟨rfl, rfl⟩
theorem signed_F {q : List UInt8} (h : signQ q = false) : signedL q = (false, q) := by
 cases q with
 | nil => rfl
 | cons c r =>
  simp only [signQ, Bool.or_eq_false_iff, beq_eq_false_iff_ne] at h
  simp [signedL, h.1, h.2]
/-- may a power not be read -/
def badPow (r : List UInt8) : Bool := decide (r.length < 1) || decide (3 < r.length) || !decide (digN r = r.length)
theorem badPow_1 {r : List UInt8} (h : (r.length : Int) < 1) : true = badPow r := by
 unfold badPow; rw [decide_eq_true (show r.length < 1 by omega)]; rfl
theorem badPow_2 {r : List UInt8} (h : (3 : Int) < (r.length : Int)) : true = badPow r := by
 unfold badPow; rw [decide_eq_true (show 3 < r.length by omega), Bool.or_true]; rfl
theorem badPow_3 {r : List UInt8} (h : ¬ (r.length : Int) < 1) (h2 : ¬ (3 : Int) < (r.length : Int)) : (!decide ((digN r : Int) = (r.length : Int))) = badPow r := by
 unfold badPow; rw [decide_eq_false (show ¬ r.length < 1 by omega), decide_eq_false (show ¬ 3 < r.length by omega)]
 simp only [Bool.false_or]
 congr 1
 by_cases e : digN r = r.length
 ·
  rw [decide_eq_true e]; exact decide_eq_true oO
 ·
  rw [decide_eq_false e]; exact decide_eq_false oO
theorem badPow_digits {r : List UInt8} (h : badPow r = false) : 1 ≤ r.length ∧ r.length ≤ 3 ∧ r.all isDig = true := by
 unfold badPow at h
 simp only [Bool.or_eq_false_iff, decide_eq_false_iff_not, Bool.not_eq_false', decide_eq_true_eq] at h
 exact ⟨by omega, by omega, (digN_iff r).1 h.2⟩
theorem powerL_bad {q : List UInt8} (h : badPow (signedL q).2 = true) : powerL q = (0, false) := by
 unfold powerL
 rw [if_pos]
 unfold badPow at h
 simp only [Bool.or_eq_true, decide_eq_true_eq, Bool.not_eq_true', decide_eq_false_iff_not] at h ⊢
 rcases h with (h | h) | h
 ·
  left; left; rw [List.length_eq_zero_iff.1 (show (signedL q).2.length = 0 by omega)]; rfl
 ·
  left; right; exact h
 ·
  right
  cases ha : (signedL q).2.all isDig with
  | false => rfl
  | true => exact absurd ((digN_iff _).2 ha) h
theorem powerL_good {q : List UInt8} (h : badPow (signedL q).2 = false) : powerL q = (if (signedL q).1 then -(natOf (signedL q).2 : Int) else natOf (signedL q).2, true) := by
 obtain ⟨h1, h2, h3⟩ := badPow_digits h
 unfold powerL
 rw [h3, if_neg]
 simp only [Bool.not_true, Bool.or_false, Bool.or_eq_true, decide_eq_true_eq, List.isEmpty_iff, not_or]
 exact ⟨fun e => by rw [e] at h1; simp at h1, by omega⟩
theorem natOf_small {r : List UInt8} (h : badPow r = false) (k : Nat) : natOf (r.take k) < 1000 := by
 obtain ⟨-, h2, h3⟩ := badPow_digits h
 have h4 := natOf_take_le r k
 have h5 := natOf_lt r (List.all_eq_true.1 h3)
 have h6 : 10 ^ r.length ≤ 10 ^ 3 := Nat.pow_le_pow_right dD h2
 omega
/-- a number out of its parts -/
theorem finL_none {m : Bool} {r : List UInt8} {k : Int} (h : mantOk r = false) : finL m r k = tokNone := by unfold finL; rw [h]; rfl
theorem finL_raw {m : Bool} {r : List UInt8} {k : Int} (h : mantOk r = true) : finL m r k =
  match rawL (wholeD ((cutDot r).1 ++ (cutDot r).2.1) ((cutDot r).1.length + k)) (restD ((cutDot r).1 ++ (cutDot r).2.1) ((cutDot r).1.length + k)) with
  | none => tokGreat
  | some n => if fitsB (if m then -n else n) then tokReal (if m then -n else n) else tokGreat := by
 unfold finL
 rw [h, if_pos rfl]
 unfold valueL
 cases rawL (wholeD ((cutDot r).1 ++ (cutDot r).2.1) ((cutDot r).1.length + k)) (restD ((cutDot r).1 ++ (cutDot r).2.1) ((cutDot r).1.length + k)) with
 | none => rfl
 | some n => rfl
set_option maxRecDepth 10000 in
theorem ref_Token_plain (l : List UInt8) (w : World) (hl : l.length ≤ 64) (hR : radixOk l = false) :
  Calls Tryz.prog 118 #[.string (bs l)] w fun e w' => e = .returned (if (wholeT l).2 then tokInt (wholeT l).1 else realR l).val ∧ Below w.heap.size w w' := by
 have hno : ∀ h : digN l < l.length, (1 : Int) ≤ digN l → (digN l : Int) ≤ 2 → (digN l : Int) + 1 < l.length → ¬ ((l[digN l].toNat : Int) = 35) := by
  intro h h1 h2 h3 e
  exact radixOk_not l hR oO oO oO h (UInt8.toNat_inj.1 (by show l[digN l].toNat = 35; omega))
 have hdl := digN_le l
 obtain ⟨R, hRe⟩ : ∃ R, R = (if (wholeT l).2 then tokInt (wholeT l).1 else realR l) := ⟨_, rfl⟩
 rw [← hRe]
 have hAt := cutE_at l
 have hNo : (∀ c ∈ l, isE c = false) → (cutE l).1.length = l.length := fun h => by rw [cutE_no l h]
 have hle := cutE_len l
 have hyes := cutE_yes_join l
 have hnoj := cutE_no_join l
 have hReal : (wholeT l).2 = false → R = realR l := fun h => by rw [hRe, h]; rfl
 unfold realR at hReal
 generalize cutE l = cc at *
 obtain ⟨p, q, f⟩ := cc
 simp only at hAt hNo hle hyes hnoj hReal
 have hf1 : (p.length : Int) < (l.length : Int) → f = true := fun h => by
  cases f with
  | true => rfl
  | false => rw [(hnoj rfl).1] at h; omega
 have hf2 : ¬ (p.length : Int) < (l.length : Int) → f = false := fun h => by
  cases f with
  | false => rfl
  | true => obtain ⟨c, -, e⟩ := hyes rfl; rw [e] at h; simp at h; omega
 have hlq : f = true → l.drop (p.length + 1) = q := fun h => by
  obtain ⟨c, -, e⟩ := hyes h
  rw [e, List.append_cons, List.drop_left' (by simp)]
 have hlp : l.take p.length = p := by
  cases f with
  | true => obtain ⟨c, -, e⟩ := hyes rfl; rw [e]; simp
  | false => rw [(hnoj rfl).1]; simp
 obtain ⟨pw, hpw⟩ : ∃ pw, pw = (if f then (powerL q).1 else 0) := ⟨_, rfl⟩
 have hpb : -1000 ≤ pw ∧ pw ≤ 1000 := by
  have := powerL_bound q
  rw [hpw]; split
  exact this
  omega
 have hPl : ∀ w, Calls Tryz.prog 173 #[.string (bs (l.take p.length))] w _ := fun w => by rw [hlp]; exact ref_plain p w oO
 have hsl := signedL_len p
 have hql := signedL_len q
 refine W.enter func118 rfl ntmps118 (Nat.le_of_ble_eq_true rfl) ?_
 have hB0 := Below.refl (w.heap.size) w
 refine W.sr <| WL.alloc zeroValue143 rfl (fun b1 wb1 eb1 hkb1 hub1 hsb1 => ?_)
 have hB2 := Upd.below hB0 (by rw [eb1]; exact hB0.size) hub1
 have hgeb1 : w.heap.size ≤ b1 := by rw [eb1]; exact hB0.size
 refine WL.a rfl rfl <| WL.z rfl rfl ?_
 refine W.seq <| W.sr <| WL.m rfl rfl <| WL.p (.len underlying9 rfl) rfl <| WL.p (.gtr rfl rfl) rfl <| WL.nil <| ?_
 refine W.cond rfl (fun h3 => ?_) (fun h3 => ?_)
 have h3' := dT h3
 omega
 have h3' := dF h3
 refine W.skip <| W.sr <| WL.m rfl rfl <| WL.c1 hb80 rfl rfl ((ref_Digits l _ oO)) (fun w4 hw4 => ?_)
 obtain rfl := hw4
 refine WL.z rfl rfl ?_
 refine W.seq ?_
 refine W.cutB 51 (false) ?_ ?_
 refine W.reg <| WL.m rfl rfl <| WL.p (.geq rfl rfl) rfl <| WL.m rfl rfl <| WL.gd rfl rfl rfl (fun g5 => ?_) (fun g5 => ?_)
 have g5' := dT g5
 refine WL.m rfl rfl <| WL.gy rfl rfl rfl g5 <| WL.p (.leq rfl rfl) rfl <| WL.p (.pkT rfl g5 rfl) rfl <| WL.m rfl rfl <| WL.gd rfl rfl rfl (fun g6 => ?_) (fun g6 => ?_)
 have g6' := dT g6
 refine WL.m rfl rfl <| WL.gy rfl rfl rfl g6 <| WL.p (.add rfl rfl (i64w oO)) rfl <| WL.gy rfl rfl rfl g6 <| WL.m rfl rfl <| WL.gy rfl rfl rfl g6 <| WL.p (.len underlying9 rfl) rfl <| WL.gy rfl rfl rfl g6 <| WL.p (.lss rfl rfl) rfl <| WL.p (.pkT rfl g6 rfl) rfl <| WL.m rfl rfl <| WL.gd rfl rfl rfl (fun g7 => ?_) (fun g7 => ?_)
 have g7' := dT g7
 refine WL.m rfl rfl <| WL.gy rfl rfl rfl g7 <| WL.m rfl rfl <| WL.gy rfl rfl rfl g7 <| WL.p (.ix underlying9 rfl rfl _ rfl oO) rfl <| WL.gy rfl rfl rfl g7 <| WL.p (.eql rfl rfl) rfl <| WL.p (.pkT rfl g7 rfl) rfl <| WL.nil <| ?_
 exact ⟨leE (lk_b rfl (by first | rfl | exact decide_eq_false (hno _ aS aS aS))), rfl⟩
 have g7' := dF g7
 refine WL.gn rfl rfl rfl g7 <| WL.gn rfl rfl rfl g7 <| WL.gn rfl rfl rfl g7 <| WL.p (.pkF rfl g7 rfl) rfl <| WL.nil <| ?_
 exact ⟨leE (lk_b rfl (by first | rfl | exact decide_eq_false (hno _ aS aS aS))), rfl⟩
 have g6' := dF g6
 refine WL.gn rfl rfl rfl g6 <| WL.gn rfl rfl rfl g6 <| WL.gn rfl rfl rfl g6 <| WL.gn rfl rfl rfl g6 <| WL.p (.pkF rfl g6 rfl) rfl <| WL.m rfl rfl <| WL.gn rfl rfl rfl rfl <| WL.gn rfl rfl rfl rfl <| WL.gn rfl rfl rfl rfl <| WL.gn rfl rfl rfl rfl <| WL.p (.pkF rfl rfl rfl) rfl <| WL.nil <| ?_
 exact ⟨leE (lk_b rfl (by first | rfl | exact decide_eq_false (hno _ aS aS aS))), rfl⟩
 have g5' := dF g5
 refine WL.gn rfl rfl rfl g5 <| WL.p (.pkF rfl g5 rfl) rfl <| WL.m rfl rfl <| WL.gn rfl rfl rfl rfl <| WL.gn rfl rfl rfl rfl <| WL.gn rfl rfl rfl rfl <| WL.gn rfl rfl rfl rfl <| WL.gn rfl rfl rfl rfl <| WL.p (.pkF rfl rfl rfl) rfl <| WL.m rfl rfl <| WL.gn rfl rfl rfl rfl <| WL.gn rfl rfl rfl rfl <| WL.gn rfl rfl rfl rfl <| WL.gn rfl rfl rfl rfl <| WL.p (.pkF rfl rfl rfl) rfl <| WL.nil <| ?_
 exact ⟨leE (lk_b rfl (by first | rfl | exact decide_eq_false (hno _ aS aS aS))), rfl⟩
 refine W.condF rfl rfl ?_
 refine W.skip <| W.sr <| WL.m rfl rfl <| WL.call hb176 rfl rfl ((ref_whole' l _ oO)) (fun v w8 hw8 => ?_)
 have hk9 := hkb1.below hw8.2 hkb1.lt
 have hB10 := btr hB2 hw8.2
 have hv := hw8.1
 refine WL.m rfl rfl <| WL.p (.ext rfl rfl) rfl <| WL.p (.ext rfl rfl) rfl <| WL.a rfl rfl <| WL.z rfl rfl ?_
 refine W.seq <| W.sr <| WL.m rfl rfl <| WL.nil <| ?_
 refine W.cond rfl (fun h11 => ?_) (fun h11 => ?_)
 refine W.sr <| WL.m rfl rfl <| ?_
 refine WL.p (.buildL (ps := _) blt143 rfl rfl rfl pS) rfl ?_
 refine WL.stL rfl rfl hk9 isz143 rfl rfl (fun w12 hkw12 huw12 hsw12 => ?_)
 have hB13 := Upd.below hB10 oO huw12
 refine WL.a rfl rfl <| WL.z rfl rfl ?_
 refine W.ret (W.retc3 rfl rfl (ldRow hkw12 underlying143 rfl isz143) rfl rfl ?_)
 exact ⟨by rw [hRe, if_pos ‹_›, ← hv ‹_›]; rfl, hB13⟩
 have hReal := hReal ‹_›
 refine W.skip <| W.sr <| WL.m rfl rfl <| WL.p (.len underlying9 rfl) rfl <| WL.z rfl rfl ?_
 refine W.cut (α := Unit) (fun t => [(0, .string (bs l)), (2, .pointer (some ⟨b1, 0, none⟩)), (14, .int .i64 (p.length : Int))]) (fun t w' => w8 = w') ?_ (fun t w1 hR => ?_)
 refine W.sr <| WL.z rfl rfl ?_
 refine W.block ?_
 refine W.loop (α := Nat) (fun t => [(0, .string (bs l)), (2, .pointer (some ⟨b1, 0, none⟩)), (14, .int .i64 (l.length : Int)), (15, .int .i64 (t : Int))]) (fun t w' => w8 = w' ∧ t ≤ l.length ∧ ∀ c ∈ l.take t, isE c = false) (fun t => l.length - t) (0) ⟨rfl, rfl, rfl, rfl, trivial⟩ (⟨rfl, Nat.zero_le _, by simp⟩) (fun t w1 hR => ?_)
 obtain ⟨rfl, ht, hE⟩ := hR
 refine W.seq <| W.sr <| WL.m rfl rfl <| WL.m rfl rfl <| WL.p (.len underlying9 rfl) rfl <| WL.p (.lss rfl rfl) rfl <| WL.nil <| ?_
 refine W.cond rfl (fun h14 => ?_) (fun h14 => ?_)
 have h14' := dT h14
 refine W.skip <| W.seq <| W.block ?_
 refine W.cutB 137 (isE (l[t]'oO)) ?_ ?_
 refine W.reg <| WL.m rfl rfl <| WL.m rfl rfl <| WL.p (.ix underlying9 rfl rfl _ rfl oO) rfl <| WL.p (.eql rfl rfl) rfl <| WL.m rfl rfl <| WL.gd rfl rfl rfl (fun g15 => ?_) (fun g15 => ?_)
 have g15' := dF g15
 refine WL.m rfl rfl <| WL.gy rfl rfl rfl g15 <| WL.m rfl rfl <| WL.gy rfl rfl rfl g15 <| WL.p (.ix underlying9 rfl rfl _ rfl oO) rfl <| WL.gy rfl rfl rfl g15 <| WL.p (.eql rfl rfl) rfl <| WL.p (.pkF rfl g15 rfl) rfl <| WL.nil <| ?_
 exact ⟨leE (lk_b rfl (by first | exact isE_1 aS | exact isE_2 aS)), rfl⟩
 have g15' := dT g15
 refine WL.gn rfl rfl rfl g15 <| WL.gn rfl rfl rfl g15 <| WL.gn rfl rfl rfl g15 <| WL.p (.pkT rfl g15 rfl) rfl <| WL.nil <| ?_
 exact ⟨leE (lk_b rfl (by first | exact isE_1 aS | exact isE_2 aS)), rfl⟩
 refine W.cond rfl (fun h16 => ?_) (fun h16 => ?_)
 refine W.sr <| WL.m rfl rfl <| WL.z rfl rfl ?_
 refine W.exit ?_
 refine ⟨(), ⟨rfl, rfl, lk_i rfl ?_, trivial⟩, rfl⟩
 exact congrArg Int.ofNat (hAt t oO hE aS).symm
 refine W.skip <| W.reg <| WL.m rfl rfl <| WL.p (.add rfl rfl (i64w oO)) rfl <| WL.z rfl rfl ?_
 exact ⟨t + 1, ⟨rfl, rfl, rfl, lk_i rfl oO, trivial⟩, ⟨rfl, by omega, isE_take l t oO hE ‹_›⟩, by omega⟩
 have h14' := dF h14
 refine W.exit ?_
 refine ⟨(), ⟨rfl, rfl, lk_i rfl ?_, trivial⟩, rfl⟩
 exact congrArg Int.ofNat (hNo (by rw [← List.take_of_length_le (show l.length ≤ t by omega)]; exact hE)).symm
 obtain rfl := hR
 refine W.sr <| WL.z rfl rfl ?_
 refine W.cut (α := Unit) (fun t => [(0, .string (bs l)), (2, .pointer (some ⟨b1, 0, none⟩)), (14, .int .i64 (p.length : Int)), (16, .int .i64 pw)]) (fun t w' => w8 = w' ∧ (f = true → (powerL q).2 = true)) ?_ (fun t w1 hR => ?_)
 refine W.sr <| WL.m rfl rfl <| WL.m rfl rfl <| WL.p (.len underlying9 rfl) rfl <| WL.p (.lss rfl rfl) rfl <| WL.nil <| ?_
 refine W.cond rfl (fun h17 => ?_) (fun h17 => ?_)
 have h17' := dT h17
 have hf := hf1 ‹_›
 refine W.cut (α := Unit) (fun t => [(0, .string (bs l)), (2, .pointer (some ⟨b1, 0, none⟩)), (14, .int .i64 (p.length : Int)), (16, .int .i64 0), (17, .string (bs q))]) (fun t w' => w8 = w') ?_ (fun t w1 hR => ?_)
 refine W.reg <| WL.m rfl rfl <| WL.m rfl rfl <| WL.p (.add rfl rfl (i64w oO)) rfl <| WL.p (.slF underlying9 rfl rfl (p.length + 1) oO oO) rfl <| WL.z rfl rfl ?_
 exact ⟨(), ⟨rfl, rfl, rfl, rfl, lk_s rfl (hlq hf), trivial⟩, rfl⟩
 obtain rfl := hR
 refine W.sr <| WL.z rfl rfl ?_
 refine W.cut (α := Unit) (fun t => [(0, .string (bs l)), (2, .pointer (some ⟨b1, 0, none⟩)), (14, .int .i64 (p.length : Int)), (16, .int .i64 0), (17, .string (bs (signedL q).2)), (18, .bool (signedL q).1)]) (fun t w' => w8 = w') ?_ (fun t w1 hR => ?_)
 refine W.cutB 159 (signQ q) ?_ ?_
 refine W.reg <| WL.m rfl rfl <| WL.p (.len underlying9 rfl) rfl <| WL.p (.gtr rfl rfl) rfl <| WL.m rfl rfl <| WL.gd rfl rfl rfl (fun g18 => ?_) (fun g18 => ?_)
 have g18' := dT g18
 refine WL.m rfl rfl <| WL.gy rfl rfl rfl g18 <| WL.p (.ix underlying9 rfl rfl 0 rfl oO) rfl <| WL.gy rfl rfl rfl g18 <| WL.p (.eql rfl rfl) rfl <| WL.gy rfl rfl rfl g18 <| WL.m rfl rfl <| WL.gd rfl rfl rfl (fun g19 => ?_) (fun g19 => ?_)
 have g19' := dF g19
 refine WL.m rfl rfl <| WL.gy rfl rfl rfl g19 <| WL.p (.ix underlying9 rfl rfl 0 rfl oO) rfl <| WL.gy rfl rfl rfl g19 <| WL.p (.eql rfl rfl) rfl <| WL.gy rfl rfl rfl g18 <| WL.p (.pkF rfl g19 rfl) rfl <| WL.p (.pkT rfl g18 rfl) rfl <| WL.nil <| ?_
 exact ⟨leE (lk_b rfl (by first | exact sign_0 aS | exact sign_1 oO aS | exact sign_2 oO aS)), rfl⟩
 have g19' := dT g19
 refine WL.gn rfl rfl rfl g19 <| WL.gn rfl rfl rfl g19 <| WL.gy rfl rfl rfl g18 <| WL.p (.pkT rfl g19 rfl) rfl <| WL.p (.pkT rfl g18 rfl) rfl <| WL.nil <| ?_
 exact ⟨leE (lk_b rfl (by first | exact sign_0 aS | exact sign_1 oO aS | exact sign_2 oO aS)), rfl⟩
 have g18' := dF g18
 refine WL.gn rfl rfl rfl g18 <| WL.gn rfl rfl rfl g18 <| WL.gn rfl rfl rfl g18 <| WL.gu rfl rfl rfl <| WL.gu rfl rfl rfl <| WL.gu rfl rfl rfl <| WL.gn rfl rfl rfl g18 <| WL.p (.pkF rfl g18 rfl) rfl <| WL.nil <| ?_
 exact ⟨leE (lk_b rfl (by first | exact sign_0 aS | exact sign_1 oO aS | exact sign_2 oO aS)), rfl⟩
 refine W.cond rfl (fun h20 => ?_) (fun h20 => ?_)
 have hq0 := signQ_pos ‹_›
 refine W.sr <| WL.m rfl rfl <| WL.p (.ix underlying9 rfl rfl 0 rfl oO) rfl <| WL.p (.eql rfl rfl) rfl <| WL.z rfl rfl ?_
 refine W.reg <| WL.m rfl rfl <| WL.p (.slF underlying9 rfl rfl 1 rfl oO) rfl <| WL.z rfl rfl ?_
 exact ⟨(), ⟨rfl, rfl, rfl, rfl, lk_s rfl (signed_T aS).1, lk_b rfl (signed_T aS).2, trivial⟩, rfl⟩
 refine W.skip ?_
 exact ⟨(), ⟨rfl, rfl, rfl, rfl, lk_s rfl (by rw [signed_F ‹_›]), lk_b rfl (by rw [signed_F ‹_›]), trivial⟩, rfl⟩
 obtain rfl := hR
 refine W.seq ?_
 refine W.cutB 179 (badPow (signedL q).2) ?_ ?_
 refine W.reg <| WL.m rfl rfl <| WL.p (.len underlying9 rfl) rfl <| WL.p (.lss rfl rfl) rfl <| WL.m rfl rfl <| WL.gd rfl rfl rfl (fun g21 => ?_) (fun g21 => ?_)
 have g21' := dF g21
 refine WL.m rfl rfl <| WL.gy rfl rfl rfl g21 <| WL.p (.len underlying9 rfl) rfl <| WL.gy rfl rfl rfl g21 <| WL.p (.gtr rfl rfl) rfl <| WL.p (.pkF rfl g21 rfl) rfl <| WL.m rfl rfl <| WL.gd rfl rfl rfl (fun g22 => ?_) (fun g22 => ?_)
 have g22' := dF g22
 refine WL.m rfl rfl <| WL.gy rfl rfl rfl g22 <| WL.c1 hb80 rfl rfl ((ref_Digits (signedL q).2 _ oO)) (fun w23 hw23 => ?_)
 obtain rfl := hw23
 refine WL.gy rfl rfl rfl g22 <| WL.m rfl rfl <| WL.gy rfl rfl rfl g22 <| WL.p (.len underlying9 rfl) rfl <| WL.gy rfl rfl rfl g22 <| WL.p (.neq rfl rfl) rfl <| WL.p (.pkF rfl g22 rfl) rfl <| WL.nil <| ?_
 exact ⟨leE (lk_b rfl (by first | exact badPow_1 aS | exact badPow_2 aS | exact badPow_3 aS aS)), rfl⟩
 have g22' := dT g22
 refine WL.gn rfl rfl rfl g22 <| WL.gn rfl rfl rfl g22 <| WL.gn rfl rfl rfl g22 <| WL.gn rfl rfl rfl g22 <| WL.p (.pkT rfl g22 rfl) rfl <| WL.nil <| ?_
 exact ⟨leE (lk_b rfl (by first | exact badPow_1 aS | exact badPow_2 aS | exact badPow_3 aS aS)), rfl⟩
 have g21' := dT g21
 refine WL.gn rfl rfl rfl g21 <| WL.gn rfl rfl rfl g21 <| WL.p (.pkT rfl g21 rfl) rfl <| WL.m rfl rfl <| WL.gn rfl rfl rfl rfl <| WL.gn rfl rfl rfl rfl <| WL.gn rfl rfl rfl rfl <| WL.gn rfl rfl rfl rfl <| WL.gn rfl rfl rfl rfl <| WL.p (.pkT rfl rfl rfl) rfl <| WL.nil <| ?_
 exact ⟨leE (lk_b rfl (by first | exact badPow_1 aS | exact badPow_2 aS | exact badPow_3 aS aS)), rfl⟩
 refine W.cond rfl (fun h24 => ?_) (fun h24 => ?_)
 refine W.sr <| WL.p (.buildL (ps := _) blt143 rfl rfl rfl pZ) rfl ?_
 refine WL.stL rfl rfl hk9 isz143 rfl rfl (fun w25 hkw25 huw25 hsw25 => ?_)
 have hB26 := Upd.below hB10 oO huw25
 refine WL.a rfl rfl <| WL.z rfl rfl ?_
 refine W.ret (W.retc3 rfl rfl (ldRow hkw25 underlying143 rfl isz143) rfl rfl ?_)
 exact ⟨by rw [hReal, hf, if_pos rfl, powerL_bad ‹_›]; rfl, hB26⟩
 have hbad : badPow (signedL q).2 = false := ‹_›
 refine W.skip <| W.seq <| W.sr <| WL.z rfl rfl ?_
 refine W.block ?_
 have hdig := List.all_eq_true.1 (badPow_digits hbad).2.2
 refine W.loop (α := Nat) (fun t => [(0, .string (bs l)), (2, .pointer (some ⟨b1, 0, none⟩)), (14, .int .i64 (p.length : Int)), (17, .string (bs (signedL q).2)), (18, .bool (signedL q).1), (16, .int .i64 (natOf ((signedL q).2.take t) : Int)), (19, .int .i64 (t : Int))]) (fun t w' => w8 = w' ∧ t ≤ (signedL q).2.length) (fun t => (signedL q).2.length - t) (0) ⟨rfl, rfl, rfl, rfl, rfl, rfl, rfl, trivial⟩ (⟨rfl, Nat.zero_le _⟩) (fun t w1 hR => ?_)
 obtain ⟨rfl, ht⟩ := hR
 have hns := natOf_small hbad t
 refine W.seq <| W.sr <| WL.m rfl rfl <| WL.m rfl rfl <| WL.p (.len underlying9 rfl) rfl <| WL.p (.lss rfl rfl) rfl <| WL.nil <| ?_
 refine W.cond rfl (fun h27 => ?_) (fun h27 => ?_)
 have h27' := dT h27
 have hd := isDig_bounds (hdig ((signedL q).2[t]'oO) (by simp))
 have hst := natOf_take (signedL q).2 t oO
 refine W.skip <| W.seq <| W.block <| W.reg <| WL.m rfl rfl <| WL.p (.mul rfl rfl (i64w oO)) rfl <| WL.m rfl rfl <| WL.m rfl rfl <| WL.p (.ix underlying9 rfl rfl _ rfl oO) rfl <| WL.p (.sub rfl rfl (u8w oO)) rfl <| WL.p (.cvt underlying5 underlying3 rfl (i64w oO)) rfl <| WL.p (.add rfl rfl (i64w oO)) rfl <| WL.z rfl rfl ?_
 refine W.reg <| WL.m rfl rfl <| WL.p (.add rfl rfl (i64w oO)) rfl <| WL.z rfl rfl ?_
 exact ⟨t + 1, ⟨rfl, rfl, rfl, rfl, rfl, lk_i rfl (by rw [hst]; omega), lk_i rfl oO, trivial⟩, ⟨rfl, by omega⟩, by omega⟩
 have h27' := dF h27
 obtain rfl : t = (signedL q).2.length := by omega
 rw [List.take_length] at hns ⊢
 refine W.exit <| W.sr <| WL.m rfl rfl <| WL.nil <| ?_
 refine W.cond rfl (fun h28 => ?_) (fun h28 => ?_)
 have hm : (signedL q).1 = true := ‹_›
 refine W.reg <| WL.m rfl rfl <| WL.p (.neg rfl (i64w oO)) rfl <| WL.z rfl rfl ?_
 exact ⟨(), ⟨rfl, rfl, rfl, lk_i rfl (by rw [hpw, hf, if_pos rfl, powerL_good hbad, hm]; rfl), trivial⟩, rfl, fun _ => by rw [powerL_good hbad]⟩
 have hm : (signedL q).1 = false := ‹_›
 refine W.skip ?_
 exact ⟨(), ⟨rfl, rfl, rfl, lk_i rfl (by rw [hpw, hf, if_pos rfl, powerL_good hbad, hm]; rfl), trivial⟩, rfl, fun _ => by rw [powerL_good hbad]⟩
 have h17' := dF h17
 refine W.skip ?_
 exact ⟨(), ⟨rfl, rfl, rfl, lk_i rfl (by rw [hpw, hf2 ‹_›]; rfl), trivial⟩, rfl, fun h => by rw [hf2 ‹_›] at h; cases h⟩
 obtain ⟨rfl, hP⟩ := hR
 have hFin : R = finL (signedL p).1 (signedL p).2 pw := by
  rw [hReal, hpw]
  cases f with
  | true => rw [if_pos rfl, if_pos (hP rfl), if_pos rfl]
  | false => rfl
 refine W.sr <| WL.m rfl rfl <| WL.m rfl rfl <| WL.p (.slT underlying9 rfl rfl _ rfl oO) rfl <| WL.c1 hb173 rfl rfl ((hPl _)) (fun w29 hw29 => ?_)
 have hk30 := hk9.below hw29 hk9.lt
 have hB31 := btr hB10 hw29
 refine WL.m rfl rfl <| WL.p (.ext rfl rfl) rfl <| WL.p (.ext rfl rfl) rfl <| WL.p (.ext rfl rfl) rfl <| WL.p (.ext rfl rfl) rfl <| WL.p (.ext rfl rfl) rfl <| WL.a rfl rfl <| WL.a rfl rfl <| WL.a rfl rfl <| WL.a rfl rfl <| WL.z rfl rfl ?_
 refine W.cut (α := Unit) (fun t => [(2, .pointer (some ⟨b1, 0, none⟩)), (16, .int .i64 pw), (20, .bool (signedL p).1), (21, .string (bs ((cutDot (signedL p).2).1 ++ (cutDot (signedL p).2).2.1))), (22, .int .i64 ((cutDot (signedL p).2).1.length : Int))]) (fun t w' => w29 = w' ∧ mantOk (signedL p).2 = true) ?_ (fun t w1 hR => ?_)
 refine W.sr <| WL.m rfl rfl <| WL.p (.not rfl) rfl <| WL.nil <| ?_
 refine W.cond rfl (fun h32 => ?_) (fun h32 => ?_)
 have h32' := (nT h32)
 have hm0 : mantOk (signedL p).2 = false := by rw [← (plain_mant _).1]; assumption
 refine W.sr <| WL.p (.buildL (ps := _) blt143 rfl rfl rfl pZ) rfl ?_
 refine WL.stL rfl rfl hk30 isz143 rfl rfl (fun w33 hkw33 huw33 hsw33 => ?_)
 have hB34 := Upd.below hB31 oO huw33
 refine WL.a rfl rfl <| WL.z rfl rfl ?_
 refine W.ret (W.retc3 rfl rfl (ldRow hkw33 underlying143 rfl isz143) rfl rfl ?_)
 exact ⟨by rw [hFin, finL_none hm0]; rfl, hB34⟩
 have h32' := (nF h32)
 have hm1 : mantOk (signedL p).2 = true := by rw [← (plain_mant _).1]; assumption
 have hq := (plain_mant _).2 hm1
 refine W.skip ?_
 exact ⟨(), ⟨rfl, rfl, rfl, lk_s rfl (by rw [hq]), lk_i rfl (by rw [hq]), trivial⟩, rfl, hm1⟩
 obtain ⟨rfl, hm1⟩ := hR
 have hcl := cutDot_len (signedL p).2
 obtain ⟨hA, hB⟩ := mantOk_digits _ hm1
 have hAB : ∀ c ∈ (cutDot (signedL p).2).1 ++ (cutDot (signedL p).2).2.1, isDig c = true := fun c hc => (List.mem_append.1 hc).elim (hA c) (hB c)
 refine W.sr <| WL.m rfl rfl <| WL.m rfl rfl <| WL.m rfl rfl <| WL.p (.add rfl rfl (i64w oO)) rfl <| WL.c1 hb174 rfl rfl ((ref_scaled _ _ _ (by rw [List.length_append]; omega) oO oO hAB)) (fun w35 hw35 => ?_)
 have hk36 := hk30.below hw35 hk30.lt
 have hB37 := btr hB31 hw35
 refine WL.m rfl rfl <| WL.p (.ext rfl rfl) rfl <| WL.p (.ext rfl rfl) rfl <| WL.a rfl rfl <| WL.z rfl rfl ?_
 refine W.seq <| W.sr <| WL.m rfl rfl <| WL.nil <| ?_
 refine W.cond rfl (fun h38 => ?_) (fun h38 => ?_)
 obtain ⟨N, hN⟩ : ∃ N, rawL (wholeD ((cutDot (signedL p).2).1 ++ (cutDot (signedL p).2).2.1) ((cutDot (signedL p).2).1.length + pw)) (restD ((cutDot (signedL p).2).1 ++ (cutDot (signedL p).2).2.1) ((cutDot (signedL p).2).1.length + pw)) = some N := Option.isSome_iff_exists.1 aS
 have hnb := rawL_bound _ _ (wholeD_digits _ _ hAB) (restD_digits _ _ hAB) N hN
 have hN2 : (rawL (wholeD ((cutDot (signedL p).2).1 ++ (cutDot (signedL p).2).2.1) ((cutDot (signedL p).2).1.length + pw)) (restD ((cutDot (signedL p).2).1 ++ (cutDot (signedL p).2).2.1) ((cutDot (signedL p).2).1.length + pw))).getD 0 = N := by rw [hN]; rfl
 have hR3 : R = if fitsB (if (signedL p).1 then -N else N) then tokReal (if (signedL p).1 then -N else N) else tokGreat := by rw [hFin, finL_raw hm1, hN]
 refine W.reg <| WL.m rfl rfl <| WL.m rfl rfl <| WL.c1 hb175 rfl rfl ((by rw [hN2]; exact ref_signed N _ _ oO oO)) (fun w39 hw39 => ?_)
 obtain rfl := hw39
 refine WL.m rfl rfl <| WL.p (.ext rfl rfl) rfl <| WL.p (.ext rfl rfl) rfl <| WL.a rfl rfl <| WL.z rfl rfl ?_
 refine W.seq <| W.sr <| WL.m rfl rfl <| WL.p (.not rfl) rfl <| WL.nil <| ?_
 refine W.cond rfl (fun h40 => ?_) (fun h40 => ?_)
 have h40' := (nT h40)
 refine W.sr <| WL.p (.buildL (ps := _) blt143 rfl rfl rfl pZ) rfl ?_
 refine WL.stL rfl rfl hk36 isz143 rfl rfl (fun w41 hkw41 huw41 hsw41 => ?_)
 have hB42 := Upd.below hB37 oO huw41
 refine WL.a rfl rfl <| WL.z rfl rfl ?_
 refine W.ret (W.retc3 rfl rfl (ldRow hkw41 underlying143 rfl isz143) rfl rfl ?_)
 exact ⟨by rw [hR3, show fitsB _ = false from ‹_›]; rfl, hB42⟩
 have h40' := (nF h40)
 refine W.skip <| W.sr <| WL.m rfl rfl <| ?_
 refine WL.p (.buildL (ps := _) blt143 rfl rfl rfl pS) rfl ?_
 refine WL.stL rfl rfl hk36 isz143 rfl rfl (fun w43 hkw43 huw43 hsw43 => ?_)
 have hB44 := Upd.below hB37 oO huw43
 refine WL.a rfl rfl <| WL.z rfl rfl ?_
 refine W.ret (W.retc3 rfl rfl (ldRow hkw43 underlying143 rfl isz143) rfl rfl ?_)
 exact ⟨by rw [hR3, show fitsB _ = true from ‹_›]; rfl, hB44⟩
 refine W.skip <| W.seq <| W.sr <| WL.m rfl rfl <| WL.p (.not rfl) rfl <| WL.nil <| ?_
 refine W.condT rfl (by rw [h38] <;> rfl) ?_
 refine W.sr <| WL.p (.buildL (ps := _) blt143 rfl rfl rfl pZ) rfl ?_
 refine WL.stL rfl rfl hk36 isz143 rfl rfl (fun w45 hkw45 huw45 hsw45 => ?_)
 have hB46 := Upd.below hB37 oO huw45
 refine WL.a rfl rfl <| WL.z rfl rfl ?_
 refine W.ret (W.retc3 rfl rfl (ldRow hkw45 underlying143 rfl isz143) rfl rfl ?_)
 refine ⟨?_, hB46⟩
 rw [hFin, finL_raw hm1]
 rw [Option.isSome_eq_false_iff, Option.isNone_iff_eq_none] at *
 simp_all; rfl
end
section
def signL (n : Int) : List UInt8 := if n < 0 then [45] else []
def wholeL (n : Int) : List UInt8 := digitsL (n.natAbs / 65536)
def restL (n : Int) : List UInt8 := fracL (n.natAbs % 65536)
theorem ret3 {a b c a' b' c' : ByteArray} (h1 : a = a') (h2 : b = b') (h3 : c = c') : Ending.returned (.tuple #[.string a, .string b, .string c]) = Ending.returned (.tuple #[.string a', .string b', .string c']) := by
 rw [h1, h2, h3]
/-- what the texts are of: n, or 0 where n does not fit -/
def norm (n : Int) : Int := if fitsB n then n else 0
end
section
theorem norm_lo (n : Int) : -2147483648 ≤ norm n := by unfold norm fitsB; split <;> simp at * <;> omega
theorem norm_hi (n : Int) : norm n ≤ 2147483647 := by unfold norm fitsB; split <;> simp at * <;> omega
theorem signL_size (n : Int) : (bs (signL n)).size ≤ 1 := by rw [bs_size]; unfold signL; split <;> simp
theorem wholeL_size (n : Int) (h : -2147483648 ≤ n) (h' : n ≤ 2147483647) : (bs (wholeL n)).size ≤ 20 := digitsL_size _ oO
theorem restL_size (n : Int) : (bs (restL n)).size ≤ 16 := by rw [bs_size]; exact fracL_len _
/-- a number's text -/
def printL (n : Int) : List UInt8 := signL n ++ wholeL n ++ (if restL n = [] then [] else 46 :: restL n)
/-- .. with a point in any case -/
def realL (n : Int) : List UInt8 := signL n ++ wholeL n ++ 46 :: (if restL n = [] then [48] else restL n)
theorem ret_str {a b : ByteArray} (h : a = b) : Ending.returned (.string a) = Ending.returned (.string b) := by rw [h]
theorem fracL_ne (f : Nat) (h : 0 < f) (h' : f < 65536) : fracL f ≠ [] := by rw [fracL_step f h h']; simp
theorem restL_iff (n : Int) : restL n = [] ↔ n.natAbs % 65536 = 0 := by
 unfold restL
 constructor
 ·
  intro h
  by_cases h0 : n.natAbs % 65536 = 0
  ·
   exact h0
  ·
   exact absurd h (fracL_ne _ oO oO)
 ·
  intro h; rw [h, fracL_zero]
end
section
theorem ref_Token (l : List UInt8) (w : World) :
  Calls Tryz.prog 118 #[.string (bs l)] w fun e w' => e = .returned (tokenL l).val ∧ Below w.heap.size w w' := by
 by_cases hl : 64 < l.length
 ·
  rw [tokenL_long l hl]; exact ref_Token_long l w hl
 ·
  cases hR : radixOk l with
  | false => rw [tokenL_plain l oO hR]; exact ref_Token_plain l w oO hR
  | true =>
   obtain ⟨A, B, hs, hc, hA0, hA2, hdig, hB⟩ := radixOk_split l hR
   rw [tokenL_radix l A B oO hR hc]
   subst hs
   match A, hA0, hA2, hdig, hl with
   | [x], _, _, hdig, hl => exact ref_Token_radix1 x B w (by simp at hl; omega) hB (hdig x (by simp))
   | [x, y], _, _, hdig, hl => exact ref_Token_radix2 x y B w (by simp at hl; omega) hB (hdig x (by simp)) (hdig y (by simp))
end
section
theorem u8_eq {c d : UInt8} (h : (c.toNat : Int) = (d.toNat : Int)) : c = d := UInt8.toNat_inj.1 oO
theorem u8_ne {c d : UInt8} (h : ¬ (c.toNat : Int) = (d.toNat : Int)) : c ≠ d := fun e => h (by rw [e])
theorem u8_dec (c d : UInt8) : decide ((c.toNat : Int) = (d.toNat : Int)) = (c == d) := by
 by_cases h : c = d
 ·
  subst h; simp
 ·
  rw [beq_false_of_ne h]; exact decide_eq_false fun e => h (u8_eq e)
theorem ref_Blank (c : UInt8) (w : World) :
  Calls Tryz.prog 35 #[.int .u8 (c.toNat : Int)] w fun e w' => e = .returned (.bool (blankB c)) ∧ w = w' := by
 obtain ⟨R, hR⟩ : ∃ R, R = blankB c := ⟨_, rfl⟩
 rw [← hR]
 unfold blankB at hR
 rw [← u8_dec c 0, ← u8_dec c 9, ← u8_dec c 10, ← u8_dec c 12, ← u8_dec c 13, ← u8_dec c 32] at hR
 refine W.enter func35 rfl ntmps35 (Nat.le_of_ble_eq_true rfl) ?_
 refine W.sr <| WL.z rfl rfl ?_
 refine W.sr <| WL.m rfl rfl <| WL.p (.eql rfl rfl) rfl <| WL.m rfl rfl <| WL.gd rfl rfl rfl (fun g1 => ?_) (fun g1 => ?_)
 have g1' := dF g1
 refine WL.m rfl rfl <| WL.gy rfl rfl rfl g1 <| WL.p (.eql rfl rfl) rfl <| WL.p (.pkF rfl g1 rfl) rfl <| WL.m rfl rfl <| WL.gd rfl rfl rfl (fun g2 => ?_) (fun g2 => ?_)
 have g2' := dF g2
 refine WL.m rfl rfl <| WL.gy rfl rfl rfl g2 <| WL.p (.eql rfl rfl) rfl <| WL.p (.pkF rfl g2 rfl) rfl <| WL.m rfl rfl <| WL.gd rfl rfl rfl (fun g3 => ?_) (fun g3 => ?_)
 have g3' := dF g3
 refine WL.m rfl rfl <| WL.gy rfl rfl rfl g3 <| WL.p (.eql rfl rfl) rfl <| WL.p (.pkF rfl g3 rfl) rfl <| WL.m rfl rfl <| WL.gd rfl rfl rfl (fun g4 => ?_) (fun g4 => ?_)
 have g4' := dF g4
 refine WL.m rfl rfl <| WL.gy rfl rfl rfl g4 <| WL.p (.eql rfl rfl) rfl <| WL.p (.pkF rfl g4 rfl) rfl <| WL.m rfl rfl <| WL.gd rfl rfl rfl (fun g5 => ?_) (fun g5 => ?_)
 have g5' := dF g5
 refine WL.m rfl rfl <| WL.gy rfl rfl rfl g5 <| WL.p (.eql rfl rfl) rfl <| WL.p (.pkF rfl g5 rfl) rfl <| WL.z rfl rfl ?_
 refine W.ret (W.ret1 rfl rfl ?_)
 exact ⟨ret_bool (by rw [hR]; simp_all), rfl⟩
 have g5' := dT g5
 refine WL.gn rfl rfl rfl g5 <| WL.p (.pkT rfl g5 rfl) rfl <| WL.z rfl rfl ?_
 refine W.ret (W.ret1 rfl rfl ?_)
 exact ⟨ret_bool (by rw [hR]; simp_all), rfl⟩
 have g4' := dT g4
 refine WL.gn rfl rfl rfl g4 <| WL.p (.pkT rfl g4 rfl) rfl <| WL.m rfl rfl <| WL.gn rfl rfl rfl rfl <| WL.gn rfl rfl rfl rfl <| WL.p (.pkT rfl rfl rfl) rfl <| WL.z rfl rfl ?_
 refine W.ret (W.ret1 rfl rfl ?_)
 exact ⟨ret_bool (by rw [hR]; simp_all), rfl⟩
 have g3' := dT g3
 refine WL.gn rfl rfl rfl g3 <| WL.p (.pkT rfl g3 rfl) rfl <| WL.m rfl rfl <| WL.gn rfl rfl rfl rfl <| WL.gn rfl rfl rfl rfl <| WL.p (.pkT rfl rfl rfl) rfl <| WL.m rfl rfl <| WL.gn rfl rfl rfl rfl <| WL.gn rfl rfl rfl rfl <| WL.p (.pkT rfl rfl rfl) rfl <| WL.z rfl rfl ?_
 refine W.ret (W.ret1 rfl rfl ?_)
 exact ⟨ret_bool (by rw [hR]; simp_all), rfl⟩
 have g2' := dT g2
 refine WL.gn rfl rfl rfl g2 <| WL.p (.pkT rfl g2 rfl) rfl <| WL.m rfl rfl <| WL.gn rfl rfl rfl rfl <| WL.gn rfl rfl rfl rfl <| WL.p (.pkT rfl rfl rfl) rfl <| WL.m rfl rfl <| WL.gn rfl rfl rfl rfl <| WL.gn rfl rfl rfl rfl <| WL.p (.pkT rfl rfl rfl) rfl <| WL.m rfl rfl <| WL.gn rfl rfl rfl rfl <| WL.gn rfl rfl rfl rfl <| WL.p (.pkT rfl rfl rfl) rfl <| WL.z rfl rfl ?_
 refine W.ret (W.ret1 rfl rfl ?_)
 exact ⟨ret_bool (by rw [hR]; simp_all), rfl⟩
 have g1' := dT g1
 refine WL.gn rfl rfl rfl g1 <| WL.p (.pkT rfl g1 rfl) rfl <| WL.m rfl rfl <| WL.gn rfl rfl rfl rfl <| WL.gn rfl rfl rfl rfl <| WL.p (.pkT rfl rfl rfl) rfl <| WL.m rfl rfl <| WL.gn rfl rfl rfl rfl <| WL.gn rfl rfl rfl rfl <| WL.p (.pkT rfl rfl rfl) rfl <| WL.m rfl rfl <| WL.gn rfl rfl rfl rfl <| WL.gn rfl rfl rfl rfl <| WL.p (.pkT rfl rfl rfl) rfl <| WL.m rfl rfl <| WL.gn rfl rfl rfl rfl <| WL.gn rfl rfl rfl rfl <| WL.p (.pkT rfl rfl rfl) rfl <| WL.z rfl rfl ?_
 refine W.ret (W.ret1 rfl rfl ?_)
 exact ⟨ret_bool (by rw [hR]; simp_all), rfl⟩
theorem ref_Delimiter (c : UInt8) (w : World) :
  Calls Tryz.prog 61 #[.int .u8 (c.toNat : Int)] w fun e w' => e = .returned (.bool (delimB c)) ∧ w = w' := by
 obtain ⟨R, hR⟩ : ∃ R, R = delimB c := ⟨_, rfl⟩
 rw [← hR]
 unfold delimB at hR
 rw [← u8_dec c 40, ← u8_dec c 41, ← u8_dec c 60, ← u8_dec c 62, ← u8_dec c 91, ← u8_dec c 93, ← u8_dec c 123, ← u8_dec c 125, ← u8_dec c 47, ← u8_dec c 37] at hR
 refine W.enter func61 rfl ntmps61 (Nat.le_of_ble_eq_true rfl) ?_
 refine W.sr <| WL.z rfl rfl ?_
 refine W.seq <| W.sr <| WL.m rfl rfl <| WL.nil <| ?_
 refine W.block <| W.seq <| W.sr <| WL.p (.eql rfl rfl) rfl <| WL.z rfl rfl ?_
 refine W.cond rfl (fun h1 => ?_) (fun h1 => ?_)
 have h1' := dT h1
 refine W.skip <| W.condT rfl h1 ?_
 refine W.sr <| WL.z rfl rfl ?_
 refine W.ret (W.ret1 rfl rfl ?_)
 exact ⟨ret_bool (by rw [hR]; simp_all), rfl⟩
 have h1' := dF h1
 refine W.sr <| WL.p (.eql rfl rfl) rfl <| WL.z rfl rfl ?_
 refine W.cond rfl (fun h2 => ?_) (fun h2 => ?_)
 have h2' := dT h2
 refine W.skip <| W.condT rfl h2 ?_
 refine W.sr <| WL.z rfl rfl ?_
 refine W.ret (W.ret1 rfl rfl ?_)
 exact ⟨ret_bool (by rw [hR]; simp_all), rfl⟩
 have h2' := dF h2
 refine W.sr <| WL.p (.eql rfl rfl) rfl <| WL.z rfl rfl ?_
 refine W.cond rfl (fun h3 => ?_) (fun h3 => ?_)
 have h3' := dT h3
 refine W.skip <| W.condT rfl h3 ?_
 refine W.sr <| WL.z rfl rfl ?_
 refine W.ret (W.ret1 rfl rfl ?_)
 exact ⟨ret_bool (by rw [hR]; simp_all), rfl⟩
 have h3' := dF h3
 refine W.sr <| WL.p (.eql rfl rfl) rfl <| WL.z rfl rfl ?_
 refine W.cond rfl (fun h4 => ?_) (fun h4 => ?_)
 have h4' := dT h4
 refine W.skip <| W.condT rfl h4 ?_
 refine W.sr <| WL.z rfl rfl ?_
 refine W.ret (W.ret1 rfl rfl ?_)
 exact ⟨ret_bool (by rw [hR]; simp_all), rfl⟩
 have h4' := dF h4
 refine W.sr <| WL.p (.eql rfl rfl) rfl <| WL.z rfl rfl ?_
 refine W.cond rfl (fun h5 => ?_) (fun h5 => ?_)
 have h5' := dT h5
 refine W.skip <| W.condT rfl h5 ?_
 refine W.sr <| WL.z rfl rfl ?_
 refine W.ret (W.ret1 rfl rfl ?_)
 exact ⟨ret_bool (by rw [hR]; simp_all), rfl⟩
 have h5' := dF h5
 refine W.sr <| WL.p (.eql rfl rfl) rfl <| WL.z rfl rfl ?_
 refine W.cond rfl (fun h6 => ?_) (fun h6 => ?_)
 have h6' := dT h6
 refine W.skip <| W.condT rfl h6 ?_
 refine W.sr <| WL.z rfl rfl ?_
 refine W.ret (W.ret1 rfl rfl ?_)
 exact ⟨ret_bool (by rw [hR]; simp_all), rfl⟩
 have h6' := dF h6
 refine W.sr <| WL.p (.eql rfl rfl) rfl <| WL.z rfl rfl ?_
 refine W.cond rfl (fun h7 => ?_) (fun h7 => ?_)
 have h7' := dT h7
 refine W.skip <| W.condT rfl h7 ?_
 refine W.sr <| WL.z rfl rfl ?_
 refine W.ret (W.ret1 rfl rfl ?_)
 exact ⟨ret_bool (by rw [hR]; simp_all), rfl⟩
 have h7' := dF h7
 refine W.sr <| WL.p (.eql rfl rfl) rfl <| WL.z rfl rfl ?_
 refine W.cond rfl (fun h8 => ?_) (fun h8 => ?_)
 have h8' := dT h8
 refine W.skip <| W.condT rfl h8 ?_
 refine W.sr <| WL.z rfl rfl ?_
 refine W.ret (W.ret1 rfl rfl ?_)
 exact ⟨ret_bool (by rw [hR]; simp_all), rfl⟩
 have h8' := dF h8
 refine W.sr <| WL.p (.eql rfl rfl) rfl <| WL.z rfl rfl ?_
 refine W.cond rfl (fun h9 => ?_) (fun h9 => ?_)
 have h9' := dT h9
 refine W.skip <| W.condT rfl h9 ?_
 refine W.sr <| WL.z rfl rfl ?_
 refine W.ret (W.ret1 rfl rfl ?_)
 exact ⟨ret_bool (by rw [hR]; simp_all), rfl⟩
 have h9' := dF h9
 refine W.reg <| WL.p (.eql rfl rfl) rfl <| WL.z rfl rfl ?_
 refine W.cond rfl (fun h10 => ?_) (fun h10 => ?_)
 have h10' := dT h10
 refine W.sr <| WL.z rfl rfl ?_
 refine W.ret (W.ret1 rfl rfl ?_)
 exact ⟨ret_bool (by rw [hR]; simp_all), rfl⟩
 have h10' := dF h10
 refine W.skip <| W.sr <| WL.z rfl rfl ?_
 refine W.ret (W.ret1 rfl rfl ?_)
 exact ⟨ret_bool (by rw [hR]; simp_all), rfl⟩
theorem ref_Regular (c : UInt8) (w : World) :
  Calls Tryz.prog 33 #[.int .u8 (c.toNat : Int)] w fun e w' => e = .returned (.bool (regB c)) ∧ w = w' := by
 refine W.enter func33 rfl ntmps33 (Nat.le_of_ble_eq_true rfl) ?_
 refine W.sr <| WL.z rfl rfl ?_
 refine W.sr <| WL.m rfl rfl <| WL.c1 hb35 rfl rfl ((ref_Blank c _)) (fun w1 hw1 => ?_)
 obtain rfl := hw1
 refine WL.p (.not rfl) rfl <| WL.m rfl rfl <| WL.gd rfl rfl rfl (fun g2 => ?_) (fun g2 => ?_)
 have g2' := (nT g2)
 refine WL.m rfl rfl <| WL.gy rfl rfl rfl (by rw [(nT g2)] <;> rfl) <| WL.c1 hb61 rfl rfl ((ref_Delimiter c _)) (fun w3 hw3 => ?_)
 obtain rfl := hw3
 refine WL.gy rfl rfl rfl (by rw [(nT g2)] <;> rfl) <| WL.p (.not rfl) rfl <| WL.p (.pkT rfl (by rw [(nT g2)] <;> rfl) rfl) rfl <| WL.z rfl rfl ?_
 refine W.ret (W.ret1 rfl rfl ?_)
 exact ⟨ret_bool (by unfold regB; simp_all), rfl⟩
 have g2' := (nF g2)
 refine WL.gn rfl rfl rfl (by rw [(nF g2)] <;> rfl) <| WL.gn rfl rfl rfl (by rw [(nF g2)] <;> rfl) <| WL.p (.pkF rfl (by rw [(nF g2)] <;> rfl) rfl) rfl <| WL.z rfl rfl ?_
 refine W.ret (W.ret1 rfl rfl ?_)
 exact ⟨ret_bool (by unfold regB; simp_all), rfl⟩
theorem ref_none (n : Int) (w : World) :
  Calls Tryz.prog 154 #[.int .i64 n] w fun e w' => e = .returned (.tuple #[.agg #[.int .i64 0, .int .i64 0, .string ⟨#[]⟩], .int .i64 0, .int .i64 n]) ∧ Below w.heap.size w w' := by
 refine W.enter func154 rfl ntmps154 (Nat.le_of_ble_eq_true rfl) ?_
 have hB0 := Below.refl (w.heap.size) w
 refine W.sr <| WL.alloc zeroValue143 rfl (fun b1 wb1 eb1 hkb1 hub1 hsb1 => ?_)
 have hB2 := Upd.below hB0 (by rw [eb1]; exact hB0.size) hub1
 have hgeb1 : w.heap.size ≤ b1 := by rw [eb1]; exact hB0.size
 refine WL.a rfl rfl <| WL.z rfl rfl ?_
 refine W.sr <| WL.p (.buildL (ps := _) blt143 rfl rfl rfl pZ) rfl ?_
 refine WL.m rfl rfl <| WL.stL rfl rfl hkb1 isz143 rfl rfl (fun w3 hkw3 huw3 hsw3 => ?_)
 have hB4 := Upd.below hB2 oO huw3
 refine WL.a rfl rfl <| WL.z rfl rfl ?_
 refine W.ret (W.retc3 rfl rfl (ldRow hkw3 underlying143 rfl isz143) rfl rfl ?_)
 exact ⟨rfl, hB4⟩
theorem takeWhile_drop (q : UInt8 → Bool) (l : List UInt8) (t : Nat) (h : t < l.length) : (l.drop t).takeWhile q = if q l[t] then l[t] :: (l.drop (t + 1)).takeWhile q else [] := by
 rw [List.drop_eq_getElem_cons h, List.takeWhile_cons]
/-- the place behind regular bytes -/
def wordAt (l : List UInt8) (t : Nat) : Nat := t + ((l.drop t).takeWhile regB).length
theorem wordAt_le (l : List UInt8) (t : Nat) (h : t ≤ l.length) : t ≤ wordAt l t ∧ wordAt l t ≤ l.length := by
 have h1 := (List.takeWhile_sublist regB (l := l.drop t)).length_le
 rw [List.length_drop] at h1
 unfold wordAt; omega
theorem ref_Word (p : Option Addr) (l : List UInt8) (c a : Nat) (w : World) (hb : BytesAt w p l) (ha : a ≤ l.length) (hl : l.length ≤ 100000000) :
  Calls Tryz.prog 12 #[.slice p l.length c, .int .i64 (a : Int)] w fun e w' => e = .returned (.int .i64 (wordAt l a : Int)) ∧ w = w' := by
 obtain ⟨R, hR⟩ : ∃ R, R = wordAt l a := ⟨_, rfl⟩
 rw [← hR]
 refine W.enter func12 rfl ntmps12 (Nat.le_of_ble_eq_true rfl) ?_
 refine W.sr <| WL.z rfl rfl ?_
 refine W.seq <| W.block ?_
 refine W.loop (α := Nat) (fun t => [(0, .slice p l.length c), (1, .int .i64 (t : Int))]) (fun t w' => w = w' ∧ t ≤ l.length ∧ wordAt l t = R) (fun t => l.length - t) (a) ⟨rfl, rfl, trivial⟩ (⟨rfl, ha, hR.symm⟩) (fun t w1 hR => ?_)
 obtain ⟨rfl, ht, hw⟩ := hR
 refine W.seq <| W.sr <| WL.m rfl rfl <| WL.m rfl rfl <| WL.p (.lenS underlying22 rfl) rfl <| WL.p (.lss rfl rfl) rfl <| WL.m rfl rfl <| WL.gd rfl rfl rfl (fun g1 => ?_) (fun g1 => ?_)
 have g1' := dT g1
 refine WL.m rfl rfl <| WL.gy rfl rfl rfl g1 <| WL.m rfl rfl <| WL.gy rfl rfl rfl g1 <| WL.p (.ixb underlying22 sizeOf5 rfl rfl (hb.isp oO) _ rfl oO) rfl <| WL.gy rfl rfl rfl g1 <| ?_
 have hs := takeWhile_drop regB l t oO
 refine WL.r (Rd.ldc (isAgg5 _) rfl (hb.cells _ oO)) rfl <| WL.gy rfl rfl rfl g1 <| WL.c1 hb33 rfl rfl ((ref_Regular _ _)) (fun w2 hw2 => ?_)
 obtain rfl := hw2
 refine WL.p (.pkT rfl g1 rfl) rfl <| WL.nil <| ?_
 refine W.cond rfl (fun h3 => ?_) (fun h3 => ?_)
 refine W.skip <| W.block <| W.reg <| WL.m rfl rfl <| WL.p (.add rfl rfl (i64w oO)) rfl <| WL.z rfl rfl ?_
 exact ⟨t + 1, ⟨rfl, lk_i rfl oO, trivial⟩, ⟨rfl, by omega, by unfold wordAt at hw ⊢; rw [hs, if_pos aS, List.length_cons] at hw; omega⟩, by omega⟩
 refine W.exit <| W.sr <| WL.m rfl rfl <| WL.z rfl rfl ?_
 refine W.ret (W.ret1 rfl rfl ?_)
 exact ⟨ret_int (by unfold wordAt at hw; rw [hs, if_neg (by simp_all), List.length_nil] at hw; omega), rfl⟩
 have g1' := dF g1
 refine WL.gn rfl rfl rfl g1 <| WL.gn rfl rfl rfl g1 <| WL.gn rfl rfl rfl g1 <| WL.gn rfl rfl rfl g1 <| WL.p (.pkF rfl g1 rfl) rfl <| WL.nil <| ?_
 refine W.condF rfl rfl ?_
 refine W.exit <| W.sr <| WL.m rfl rfl <| WL.z rfl rfl ?_
 refine W.ret (W.ret1 rfl rfl ?_)
 exact ⟨ret_int (by unfold wordAt at hw; rw [List.drop_eq_nil_of_le oO] at hw; simp at hw; omega), rfl⟩
def skipAt (m : Bool) (l : List UInt8) (t : Nat) : Nat := l.length - (skipS m (l.drop t)).length
theorem skipAt_le (m : Bool) (l : List UInt8) (t : Nat) : skipAt m l t ≤ l.length := Nat.sub_le _ _
theorem skipAt_drop (m : Bool) (l : List UInt8) (t : Nat) : l.drop (skipAt m l t) = skipS m (l.drop t) := by
 obtain ⟨k, h1, h2⟩ := skipS_suffix (l.drop t) m
 unfold skipAt
 rw [h2, List.drop_drop, List.length_drop]
 rw [List.length_drop] at h1
 by_cases h : t + k ≤ l.length
 ·
  congr 1; omega
 ·
  rw [List.drop_eq_nil_of_le oO, List.drop_eq_nil_of_le oO]
theorem skipAt_f (l : List UInt8) (t : Nat) (h : t < l.length) : skipAt false l t = if l[t] = 37 then skipAt true l (t + 1) else if blankB l[t] then skipAt false l (t + 1) else t := by
 unfold skipAt
 rw [List.drop_eq_getElem_cons h]
 simp only [skipS]
 split
 ·
  rfl
 ·
  split
  ·
   rfl
  ·
   simp; omega
theorem skipAt_t (l : List UInt8) (t : Nat) (h : t < l.length) : skipAt true l t = if endB l[t] then skipAt false l (t + 1) else skipAt true l (t + 1) := by
 unfold skipAt
 rw [List.drop_eq_getElem_cons h]
 simp only [skipS]
 split <;> rfl
theorem skipAt_end (m : Bool) (l : List UInt8) (t : Nat) (h : l.length ≤ t) : skipAt m l t = l.length := by
 unfold skipAt
 rw [List.drop_eq_nil_of_le h]; cases m <;> simp [skipS]
/-- from a comment's end on as from no comment -/
theorem skipAt_out (l : List UInt8) (t : Nat) (h : t < l.length → endB l[t]! = true) : skipAt true l t = skipAt false l t := by
 by_cases ht : t < l.length
 ·
  have he := h ht
  rw [getElem!_pos l t ht] at he
  rw [skipAt_t l t ht, if_pos he, skipAt_f l t ht, if_pos (endB_blank he), if_neg (by rintro e; rw [e] at he; cases he)]
 ·
  rw [skipAt_end true l t oO, skipAt_end false l t oO]
/-- still in a comment -/
def cmtB (l : List UInt8) (t : Nat) : Bool := decide (t < l.length) && !(decide (((l[t]!).toNat : Int) = 10) || decide (((l[t]!).toNat : Int) = 12) || decide (((l[t]!).toNat : Int) = 13))
theorem cmtB_eq (l : List UInt8) (t : Nat) : cmtB l t = (decide (t < l.length) && !endB l[t]!) := by
 unfold cmtB endB
 rw [← u8_dec _ 10, ← u8_dec _ 12, ← u8_dec _ 13]; rfl
theorem cmtB_t {l : List UInt8} {t : Nat} (h : cmtB l t = true) : ∃ ht : t < l.length, endB (l[t]'ht) = false := by
 rw [cmtB_eq] at h
 simp only [Bool.and_eq_true, decide_eq_true_eq, Bool.not_eq_true'] at h
 obtain ⟨h1, h2⟩ := h
 rw [getElem!_pos l t h1] at h2
 exact ⟨h1, h2⟩
theorem cmtB_f {l : List UInt8} {t : Nat} (h : cmtB l t = false) : skipAt true l t = skipAt false l t ∧ (∀ ht : t < l.length, (l[t]'ht) ≠ 37) := by
 rw [cmtB_eq] at h
 have h2 : t < l.length → endB l[t]! = true := fun ht => by simpa [ht] using h
 refine ⟨skipAt_out l t h2, fun ht e => ?_⟩
 have := h2 ht
 rw [getElem!_pos l t ht, e] at this
 cases this
theorem ref_Skip (p : Option Addr) (l : List UInt8) (c a : Nat) (w : World) (hb : BytesAt w p l) (ha : a ≤ l.length) (hl : l.length ≤ 100000000) :
  Calls Tryz.prog 14 #[.slice p l.length c, .int .i64 (a : Int)] w fun e w' => e = .returned (.int .i64 (skipAt false l a : Int)) ∧ w = w' := by
 obtain ⟨R, hR⟩ : ∃ R, R = skipAt false l a := ⟨_, rfl⟩
 rw [← hR]
 refine W.enter func14 rfl ntmps14 (Nat.le_of_ble_eq_true rfl) ?_
 refine W.sr <| WL.z rfl rfl ?_
 refine W.seq <| W.block ?_
 refine W.loop (α := Nat) (fun t => [(0, .slice p l.length c), (1, .int .i64 (t : Int))]) (fun t w' => w = w' ∧ t ≤ l.length ∧ skipAt false l t = R) (fun t => l.length - t) (a) ⟨rfl, rfl, trivial⟩ (⟨rfl, ha, hR.symm⟩) (fun t w1 hR => ?_)
 obtain ⟨rfl, ht, hw⟩ := hR
 obtain ⟨s, rfl⟩ : ∃ s, s = t := ⟨t, rfl⟩
 refine W.seq <| W.sr <| WL.m rfl rfl <| WL.m rfl rfl <| WL.p (.lenS underlying22 rfl) rfl <| WL.p (.lss rfl rfl) rfl <| WL.nil <| ?_
 refine W.cond rfl (fun h1 => ?_) (fun h1 => ?_)
 have h1' := dT h1
 refine W.skip <| W.block <| W.seq <| W.seq <| W.reg ?_
 have hs := skipAt_f l s oO
 have hs' : l[s]! = l[s]'oO := getElem!_pos l s oO
 refine WL.m rfl rfl <| WL.m rfl rfl <| WL.p (.ixb underlying22 sizeOf5 rfl rfl (hb.isp oO) _ rfl oO) rfl <| WL.r (Rd.ldc (isAgg5 _) rfl (hb.cells _ oO)) rfl <| WL.p (.eql rfl rfl) rfl <| WL.nil <| ?_
 refine W.cond rfl (fun h2 => ?_) (fun h2 => ?_)
 have h2' := dT h2
 refine W.seq <| W.block ?_
 refine W.loop (α := Nat) (fun t => [(0, .slice p l.length c), (1, .int .i64 (t : Int))]) (fun t w' => w = w' ∧ s ≤ t ∧ t ≤ l.length ∧ skipAt true l t = R ∧ (t = s → l[s]'oO = 37)) (fun t => l.length - t) (s) ⟨rfl, rfl, trivial⟩ (⟨rfl, by omega, by omega, by rw [skipAt_t l s oO, if_neg (by rw [show l[s] = 37 from u8_eq aS]; decide), ← hw, hs, if_pos (u8_eq aS)], fun _ => u8_eq aS⟩) (fun t w1 hR => ?_)
 obtain ⟨rfl, hst, ht2, hw2, h37⟩ := hR
 refine W.seq ?_
 refine W.cutB 38 (cmtB l t) ?_ ?_
 refine W.reg <| WL.m rfl rfl <| WL.m rfl rfl <| WL.p (.lenS underlying22 rfl) rfl <| WL.p (.lss rfl rfl) rfl <| WL.m rfl rfl <| WL.gd rfl rfl rfl (fun g3 => ?_) (fun g3 => ?_)
 have g3' := dT g3
 refine WL.m rfl rfl <| WL.gy rfl rfl rfl g3 <| WL.m rfl rfl <| WL.gy rfl rfl rfl g3 <| WL.p (.ixb underlying22 sizeOf5 rfl rfl (hb.isp oO) _ rfl oO) rfl <| WL.gy rfl rfl rfl g3 <| WL.r (Rd.ldc (isAgg5 _) rfl (hb.cells _ oO)) rfl <| WL.gy rfl rfl rfl g3 <| WL.p (.neq rfl rfl) rfl <| WL.p (.pkT rfl g3 rfl) rfl <| WL.m rfl rfl <| WL.gd rfl rfl rfl (fun g4 => ?_) (fun g4 => ?_)
 have g4' := ndT g4
 refine WL.m rfl rfl <| WL.gy rfl rfl rfl g4 <| WL.m rfl rfl <| WL.gy rfl rfl rfl g4 <| WL.p (.ixb underlying22 sizeOf5 rfl rfl (hb.isp oO) _ rfl oO) rfl <| WL.gy rfl rfl rfl g4 <| WL.r (Rd.ldc (isAgg5 _) rfl (hb.cells _ oO)) rfl <| WL.gy rfl rfl rfl g4 <| WL.p (.neq rfl rfl) rfl <| WL.p (.pkT rfl g4 rfl) rfl <| WL.m rfl rfl <| WL.gd rfl rfl rfl (fun g5 => ?_) (fun g5 => ?_)
 have g5' := ndT g5
 refine WL.m rfl rfl <| WL.gy rfl rfl rfl g5 <| WL.m rfl rfl <| WL.gy rfl rfl rfl g5 <| WL.p (.ixb underlying22 sizeOf5 rfl rfl (hb.isp oO) _ rfl oO) rfl <| WL.gy rfl rfl rfl g5 <| WL.r (Rd.ldc (isAgg5 _) rfl (hb.cells _ oO)) rfl <| WL.gy rfl rfl rfl g5 <| WL.p (.neq rfl rfl) rfl <| WL.p (.pkT rfl g5 rfl) rfl <| WL.nil <| ?_
 exact ⟨leE (lk_b rfl (by (by_cases hq : t < l.length) <;> (unfold cmtB; first | (exfalso; omega) | (rw [getElem!_pos l t hq]; simp_all; done) | (rw [decide_eq_false hq]; simp_all; done)))), rfl⟩
 have g5' := ndF g5
 refine WL.gn rfl rfl rfl g5 <| WL.gn rfl rfl rfl g5 <| WL.gn rfl rfl rfl g5 <| WL.gn rfl rfl rfl g5 <| WL.p (.pkF rfl g5 rfl) rfl <| WL.nil <| ?_
 exact ⟨leE (lk_b rfl (by (by_cases hq : t < l.length) <;> (unfold cmtB; first | (exfalso; omega) | (rw [getElem!_pos l t hq]; simp_all; done) | (rw [decide_eq_false hq]; simp_all; done)))), rfl⟩
 have g4' := ndF g4
 refine WL.gn rfl rfl rfl g4 <| WL.gn rfl rfl rfl g4 <| WL.gn rfl rfl rfl g4 <| WL.gn rfl rfl rfl g4 <| WL.p (.pkF rfl g4 rfl) rfl <| WL.m rfl rfl <| WL.gn rfl rfl rfl rfl <| WL.gn rfl rfl rfl rfl <| WL.gn rfl rfl rfl rfl <| WL.gn rfl rfl rfl rfl <| WL.gn rfl rfl rfl rfl <| WL.p (.pkF rfl rfl rfl) rfl <| WL.nil <| ?_
 exact ⟨leE (lk_b rfl (by (by_cases hq : t < l.length) <;> (unfold cmtB; first | (exfalso; omega) | (rw [getElem!_pos l t hq]; simp_all; done) | (rw [decide_eq_false hq]; simp_all; done)))), rfl⟩
 have g3' := dF g3
 refine WL.gn rfl rfl rfl g3 <| WL.gn rfl rfl rfl g3 <| WL.gn rfl rfl rfl g3 <| WL.gn rfl rfl rfl g3 <| WL.p (.pkF rfl g3 rfl) rfl <| WL.m rfl rfl <| WL.gn rfl rfl rfl rfl <| WL.gn rfl rfl rfl rfl <| WL.gn rfl rfl rfl rfl <| WL.gn rfl rfl rfl rfl <| WL.gn rfl rfl rfl rfl <| WL.p (.pkF rfl rfl rfl) rfl <| WL.m rfl rfl <| WL.gn rfl rfl rfl rfl <| WL.gn rfl rfl rfl rfl <| WL.gn rfl rfl rfl rfl <| WL.gn rfl rfl rfl rfl <| WL.gn rfl rfl rfl rfl <| WL.p (.pkF rfl rfl rfl) rfl <| WL.nil <| ?_
 exact ⟨leE (lk_b rfl (by (by_cases hq : t < l.length) <;> (unfold cmtB; first | (exfalso; omega) | (rw [getElem!_pos l t hq]; simp_all; done) | (rw [decide_eq_false hq]; simp_all; done)))), rfl⟩
 refine W.cond rfl (fun h6 => ?_) (fun h6 => ?_)
 obtain ⟨hk1, hk2⟩ := cmtB_t aS
 rw [skipAt_t l t hk1, hk2, if_neg (by simp)] at hw2
 refine W.skip <| W.block <| W.reg <| WL.m rfl rfl <| WL.p (.add rfl rfl (i64w oO)) rfl <| WL.z rfl rfl ?_
 exact ⟨t + 1, ⟨rfl, lk_i rfl oO, trivial⟩, ⟨rfl, by omega, by omega, by omega, fun h => by omega⟩, by omega⟩
 obtain ⟨hk1, hk2⟩ := cmtB_f aS
 have hk3 : t ≠ s := fun e => by subst e; exact hk2 oO (h37 rfl)
 refine W.exit <| W.exit ?_
 exact ⟨t, ⟨rfl, lk_i rfl oO, trivial⟩, ⟨rfl, by omega, by omega⟩, by omega⟩
 have h2' := dF h2
 refine W.skip <| W.seq <| W.sr <| WL.m rfl rfl <| WL.m rfl rfl <| WL.p (.ixb underlying22 sizeOf5 rfl rfl (hb.isp oO) _ rfl oO) rfl <| WL.r (Rd.ldc (isAgg5 _) rfl (hb.cells _ oO)) rfl <| WL.c1 hb35 rfl rfl ((ref_Blank _ _)) (fun w7 hw7 => ?_)
 obtain rfl := hw7
 refine WL.p (.not rfl) rfl <| WL.nil <| ?_
 refine W.cond rfl (fun h8 => ?_) (fun h8 => ?_)
 have h8' := (nT h8)
 refine W.sr <| WL.m rfl rfl <| WL.z rfl rfl ?_
 refine W.ret (W.ret1 rfl rfl ?_)
 exact ⟨ret_int (by rw [← hw, hs, if_neg (u8_ne aS), if_neg (by simp_all)]), rfl⟩
 have h8' := (nF h8)
 refine W.skip <| W.reg <| WL.m rfl rfl <| WL.p (.add rfl rfl (i64w oO)) rfl <| WL.z rfl rfl ?_
 exact ⟨s + 1, ⟨rfl, lk_i rfl oO, trivial⟩, ⟨rfl, by omega, by rw [← hw, hs, if_neg (u8_ne aS), if_pos (by simp_all)]⟩, by omega⟩
 have h1' := dF h1
 refine W.exit <| W.sr <| WL.m rfl rfl <| WL.z rfl rfl ?_
 refine W.ret (W.ret1 rfl rfl ?_)
 exact ⟨ret_int (by rw [skipAt_end false l s oO] at hw; omega), rfl⟩
end
section
theorem inf5 : (Tryz.prog.info? 5).map (fun i => (i.zero, i.size, i.bytes)) = some (some (.int .u8 0), 1, 1) := by kernel_rfl
/-- what the reference hands back -/
structure NR where
 k : Int
 n : Int
 s : List UInt8
 at' : Int
 e : Int
abbrev NR.tok (r : NR) : Value := .agg #[.int .i64 r.k, .int .i64 r.n, .string (bs r.s)]
abbrev NR.val (r : NR) : Value := .tuple #[r.tok, .int .i64 r.at', .int .i64 r.e]
def nrOf (l : List UInt8) : TokE → NR
 | .ok (t, r) => ⟨t.kind, t.n, t.text, (l.length - r.length : Nat), 0⟩
 | .error k => ⟨0, 0, [], 0, k⟩
def nameR (k : Int) (l : List UInt8) (a b : Nat) : NR := if 127 < b - a then ⟨0, 0, [], 0, 9⟩ else ⟨k, 0, (l.drop a).take (b - a), b, 0⟩
theorem ret_val {a b : Value} (h : a = b) : Ending.returned a = .returned b := by rw [h]
theorem ref_name (k : Int) (p : Option Addr) (l : List UInt8) (c a b : Nat) (w : World) (hb : BytesAt w p l) (hab : a ≤ b) (hbl : b ≤ l.length) (hc : l.length ≤ c) (hl : l.length ≤ 100000000) :
  Calls Tryz.prog 157 #[.int .i64 k, .slice p l.length c, .int .i64 (a : Int), .int .i64 (b : Int)] w fun e w' => e = .returned (nameR k l a b).val ∧ Below w.heap.size w w' := by
 refine W.enter func157 rfl ntmps157 (Nat.le_of_ble_eq_true rfl) ?_
 have hB0 := Below.refl (w.heap.size) w
 refine W.sr <| WL.alloc zeroValue143 rfl (fun b1 wb1 eb1 hkb1 hub1 hsb1 => ?_)
 have hvl3 := fun h0 => eb1 ▸ hb.lt h0
 have hv2 := bup hb hub1 hvl3
 have hB4 := Upd.below hB0 (by rw [eb1]; exact hB0.size) hub1
 have hgeb1 : w.heap.size ≤ b1 := by rw [eb1]; exact hB0.size
 refine WL.a rfl rfl <| WL.z rfl rfl ?_
 refine W.seq <| W.sr <| WL.m rfl rfl <| WL.m rfl rfl <| WL.p (.iis (((b - a : Nat) : Int)) (.sub rfl rfl (i64w oO)) oO) rfl <| WL.p (.gtr rfl rfl) rfl <| WL.nil <| ?_
 refine W.cond rfl (fun h5 => ?_) (fun h5 => ?_)
 have h5' := dT h5
 refine W.sr <| WL.c1 hb154 rfl rfl ((ref_none 9 _)) (fun w6 hw6 => ?_)
 have hk7 := hkb1.below hw6 hkb1.lt
 have hB9 := btr hB4 hw6
 refine WL.p (.ext rfl rfl) rfl <| WL.p (.ext rfl rfl) rfl <| WL.p (.ext rfl rfl) rfl <| WL.stL rfl rfl hk7 isz143 rfl rfl (fun w10 hkw10 huw10 hsw10 => ?_)
 have hB12 := Upd.below hB9 oO huw10
 refine WL.a rfl rfl <| WL.z rfl rfl ?_
 refine W.ret (W.retc3 rfl rfl (ldRow hkw10 underlying143 rfl isz143) rfl rfl ?_)
 exact ⟨ret_val (by unfold nameR; rw [if_pos oO]; rfl), hB12⟩
 have h5' := dF h5
 refine W.skip <| W.sr <| WL.m rfl rfl <| WL.m rfl rfl <| WL.m rfl rfl <| WL.m rfl rfl <| WL.p (.slb underlying22 sizeOf5 rfl rfl rfl  (a) (b) (rfl) (rfl) (hab) oO) rfl <| WL.r (Rd.b2sPart underlying22 underlying5 underlying9 rfl rfl hv2 hab hbl hc) rfl <| ?_
 refine WL.p (.buildL (ps := _) blt143 rfl rfl rfl pS) rfl ?_
 refine WL.m rfl rfl <| WL.stL rfl rfl hkb1 isz143 rfl rfl (fun w13 hkw13 huw13 hsw13 => ?_)
 have hB15 := Upd.below hB4 oO huw13
 refine WL.a rfl rfl <| WL.z rfl rfl ?_
 refine W.ret (W.retc3 rfl rfl (ldRow hkw13 underlying143 rfl isz143) rfl rfl ?_)
 exact ⟨ret_val (by unfold nameR; rw [if_neg oO]), hB15⟩
/-- a string in brackets as the reference hands it back -/
def StrOk (w : World) (B : Nat) (l : List UInt8) (o : Option (List UInt8 × List UInt8)) (v : Value) (at' err : Int) : Prop :=
 match o with
 | none => err = 14
 | some (s, r) => err = 0 ∧ Own 5 B w v (byteVals s) ∧ s.length ≤ l.length ∧ ∃ k : Nat, at' = k ∧ k ≤ l.length ∧ r = l.drop k
def hexI (h : Option Nat) : Int := match h with | none => -1 | some x => x
theorem hexS_cons (h : Option Nat) (o : List UInt8) (l : List UInt8) (t : Nat) (ht : t < l.length) : hexS h o (l.drop t) =
  if blankB l[t] then hexS h o (l.drop (t + 1))
  else if l[t] = 62 then some (match h with | none => o | some x => o ++ [ch (x * 16 : Nat)], l.drop (t + 1))
  else if 15 < hexN l[t] then none else match h with
   | none => hexS (some (hexN l[t])) o (l.drop (t + 1))
   | some x => hexS none (o ++ [ch (x * 16 + hexN l[t] : Nat)]) (l.drop (t + 1)) := by
 rw [List.drop_eq_getElem_cons ht]
 simp only [hexS]
 split
 ·
  rfl
 ·
  split
  ·
   cases h <;> rfl
  ·
   unfold hexD
   by_cases h16 : hexN l[t] < 16
   ·
    rw [if_pos h16, if_neg oO]; cases h <;> rfl
   ·
    rw [if_neg h16, if_pos oO]
theorem ch_val (x : Int) (h0 : 0 ≤ x) (h : x < 256) : ((ch x).toNat : Int) = x := by
 unfold ch
 rw [UInt8.toNat_ofNat']; omega
theorem bF {b : Bool} (h : b = false) : ¬ b = true := by rw [h]; simp
theorem ref_HexS (p : Option Addr) (l : List UInt8) (c a : Nat) (w : World) (hb : BytesAt w p l) (ha : a ≤ l.length) (hl : l.length ≤ 100000000) :
  Calls Tryz.prog 156 #[.slice p l.length c, .int .i64 (a : Int)] w fun e w' => ∃ v, e = .returned v ∧ Below w.heap.size w w' ∧ ∃ u at' err, v = .tuple #[u, .int .i64 at', .int .i64 err] ∧ StrOk w' w.heap.size l (hexS none [] (l.drop (a + 1))) u at' err := by
 obtain ⟨R, hR⟩ : ∃ R, R = hexS none [] (l.drop (a + 1)) := ⟨_, rfl⟩
 rw [← hR]
 have hvB : 0 < l.length → (pA p).block < w.heap.size := hb.lt
 refine W.enter func156 rfl ntmps156 (Nat.le_of_ble_eq_true rfl) ?_
 refine W.sr <| WL.a rfl rfl <| WL.a rfl rfl <| WL.z rfl rfl ?_
 refine W.sr <| WL.z rfl rfl ?_
 refine W.sr <| WL.z rfl rfl ?_
 refine W.seq <| W.sr <| WL.m rfl rfl <| WL.p (.add rfl rfl (i64w oO)) rfl <| WL.z rfl rfl ?_
 refine W.block ?_
 refine W.loop (α := Value × List UInt8 × Option Nat × Nat) (fun t => [(0, .slice p l.length c), (7, t.1), (8, .int .i64 (hexI t.2.2.1)), (9, .int .i64 (t.2.2.2 : Int))]) (fun t w' => Below w.heap.size w w' ∧ BytesAt w' p l ∧ Own 5 w.heap.size w' t.1 (byteVals t.2.1) ∧ hexS t.2.2.1 t.2.1 (l.drop t.2.2.2) = R ∧ (∀ x, t.2.2.1 = some x → x < 16) ∧ t.2.1.length ≤ t.2.2.2 ∧ t.2.2.2 ≤ l.length + 1) (fun t => l.length + 1 - t.2.2.2) ((.slice none 0 0, [], none, a + 1)) ⟨rfl, rfl, rfl, lk_i rfl oM, trivial⟩ (⟨Below.refl _ _, hb, Own.nil _ _ _, hR.symm, fun x hx => (by cases hx), Nat.zero_le _, by ((try simp only) <;> omega)⟩) (fun t w1 hR => ?_)
 obtain ⟨v, o, h, t⟩ := t
 obtain ⟨hB', hbv, hown, hw, hx16, hol, ht⟩ := hR
 simp only at hB' hbv hown hw hx16 hol ht ⊢
 refine W.seq <| W.sr <| WL.m rfl rfl <| WL.m rfl rfl <| WL.p (.lenS underlying22 rfl) rfl <| WL.p (.lss rfl rfl) rfl <| WL.nil <| ?_
 refine W.cond rfl (fun h1 => ?_) (fun h1 => ?_)
 have h1' := dT h1
 refine W.skip <| W.seq <| W.block <| W.seq <| W.sr <| WL.m rfl rfl <| WL.m rfl rfl <| ?_
 have hs := hexS_cons h o l t oO
 refine WL.p (.ixb underlying22 sizeOf5 rfl rfl (hbv.isp oO) _ rfl oO) rfl <| WL.r (Rd.ldc (isAgg5 _) rfl (hbv.cells _ oO)) rfl <| WL.c1 hb35 rfl rfl ((ref_Blank _ _)) (fun w2 hw2 => ?_)
 obtain rfl := hw2
 refine WL.nil <| ?_
 refine W.cond rfl (fun h3 => ?_) (fun h3 => ?_)
 refine W.exit <| W.reg <| WL.m rfl rfl <| WL.p (.add rfl rfl (i64w oO)) rfl <| WL.z rfl rfl ?_
 exact ⟨(_, o, h, t + 1), ⟨rfl, rfl, rfl, lk_i rfl oM, trivial⟩, ⟨hB', hbv, hown, by rw [← hw, hs, if_pos aS], hx16, by ((try simp only) <;> omega), by ((try simp only) <;> omega)⟩, by ((try simp only) <;> omega)⟩
 refine W.skip <| W.seq <| W.sr <| WL.m rfl rfl <| WL.m rfl rfl <| WL.p (.ixb underlying22 sizeOf5 rfl rfl (hbv.isp oO) _ rfl oO) rfl <| WL.r (Rd.ldc (isAgg5 _) rfl (hbv.cells _ oO)) rfl <| WL.p (.eql rfl rfl) rfl <| WL.nil <| ?_
 refine W.cond rfl (fun h4 => ?_) (fun h4 => ?_)
 have h4' := dT h4
 refine W.seq <| W.sr <| WL.m rfl rfl <| WL.p (.geq rfl rfl) rfl <| WL.nil <| ?_
 refine W.cond rfl (fun h5 => ?_) (fun h5 => ?_)
 have h5' := dT h5
 obtain ⟨x, rfl⟩ : ∃ x, h = some x := by cases h with | none => simp [hexI] at * | some x => exact ⟨x, rfl⟩
 have hx := hx16 x rfl
 have hxi : hexI (some x) = (x : Int) := rfl
 refine W.reg <| WL.m rfl rfl <| WL.m rfl rfl <| WL.p (.mul rfl rfl (i64w oO)) rfl <| WL.p (.cvt underlying3 underlying5 rfl (u8w oO)) rfl <| WL.bsl (ps := _) underlying22 sizeOf5 zeroValue5 rfl rfl rfl rfl rfl pR rfl (fun b6 wb6 eb6 hkb6 hub6 hsb6 => ?_)
 have ho7 := Own.new hown eb6 hub6
 have hB10 := Upd.below hB' (by rw [eb6]; exact hB'.size) hub6
 have hgeb6 : w.heap.size ≤ b6 := by rw [eb6]; exact hB'.size
 refine WL.appm underlying22 inf5 rfl rfl rfl ho7 rfl hkb6 rfl (by rw [byteVals_len]; omega) (hB10.size) rfl (fun v11 w12 how12 hbw12 hgw12 => ?_)
 have hB14 := Below.trans hB10 (hbw12.mono (Nat.le_refl _))
 have ho15 := Own.snoc how12 (ch ((x * 16 : Nat) : Int)) (by rw [ch_val _ oO oO]; push_cast; omega)
 refine WL.z rfl rfl ?_
 refine W.sr <| WL.m rfl rfl <| WL.m rfl rfl <| WL.p (.add rfl rfl (i64w oO)) rfl <| WL.a rfl rfl <| WL.a rfl rfl <| WL.z rfl rfl ?_
 refine W.ret (W.ret3 rfl rfl rfl rfl ?_)
 exact ⟨_, rfl, hB14, _, _, _, rfl, by rw [← hw, hs, if_neg (bF aS), if_pos (u8_eq aS)]; exact ⟨rfl, ho15, by simp only [List.length_append, List.length_cons, List.length_nil]; omega, t + 1, by omega, by omega, rfl⟩⟩
 have h5' := dF h5
 obtain rfl : h = none := by cases h with | none => rfl | some x => simp [hexI] at *
 refine W.skip <| W.sr <| WL.m rfl rfl <| WL.m rfl rfl <| WL.p (.add rfl rfl (i64w oO)) rfl <| WL.a rfl rfl <| WL.a rfl rfl <| WL.z rfl rfl ?_
 refine W.ret (W.ret3 rfl rfl rfl rfl ?_)
 exact ⟨_, rfl, hB', _, _, _, rfl, by rw [← hw, hs, if_neg (bF aS), if_pos (u8_eq aS)]; exact ⟨rfl, hown, by simp only [List.length_append, List.length_cons, List.length_nil]; omega, t + 1, by omega, by omega, rfl⟩⟩
 have h4' := dF h4
 refine W.skip <| W.sr <| WL.m rfl rfl <| WL.m rfl rfl <| WL.p (.ixb underlying22 sizeOf5 rfl rfl (hbv.isp oO) _ rfl oO) rfl <| WL.r (Rd.ldc (isAgg5 _) rfl (hbv.cells _ oO)) rfl <| WL.c1 hb153 rfl rfl ((ref_Hex _ _)) (fun w16 hw16 => ?_)
 obtain rfl := hw16
 refine WL.z rfl rfl ?_
 refine W.seq <| W.sr <| WL.m rfl rfl <| WL.p (.gtr rfl rfl) rfl <| WL.nil <| ?_
 refine W.cond rfl (fun h17 => ?_) (fun h17 => ?_)
 have h17' := dT h17
 refine W.sr <| WL.a rfl rfl <| WL.a rfl rfl <| WL.z rfl rfl ?_
 refine W.ret (W.ret3 rfl rfl rfl rfl ?_)
 exact ⟨_, rfl, hB', _, _, _, rfl, by rw [← hw, hs, if_neg (bF aS), if_neg (u8_ne aS), if_pos oO]; exact rfl⟩
 have h17' := dF h17
 refine W.skip <| W.sr <| WL.m rfl rfl <| WL.p (.lss rfl rfl) rfl <| WL.nil <| ?_
 refine W.cond rfl (fun h18 => ?_) (fun h18 => ?_)
 have h18' := dT h18
 obtain rfl : h = none := by cases h with | none => rfl | some x => exfalso; have : hexI (some x) = (x : Int) := rfl; omega
 refine W.reg <| WL.m rfl rfl <| WL.z rfl rfl ?_
 refine W.reg <| WL.m rfl rfl <| WL.p (.add rfl rfl (i64w oO)) rfl <| WL.z rfl rfl ?_
 exact ⟨(_, o, some (hexN (l[t]'oO)), t + 1), ⟨rfl, rfl, rfl, lk_i rfl oM, trivial⟩, ⟨hB', hbv, hown, by rw [← hw, hs, if_neg (bF aS), if_neg (u8_ne aS), if_neg oO], fun y hy => (by obtain rfl := Option.some.inj hy; omega), by ((try simp only) <;> omega), by ((try simp only) <;> omega)⟩, by ((try simp only) <;> omega)⟩
 have h18' := dF h18
 obtain ⟨x, rfl⟩ : ∃ x, h = some x := by cases h with | none => exfalso; have : hexI none = -1 := rfl; omega | some x => exact ⟨x, rfl⟩
 have hx := hx16 x rfl
 have hxi : hexI (some x) = (x : Int) := rfl
 refine W.sr <| WL.m rfl rfl <| WL.m rfl rfl <| WL.p (.mul rfl rfl (i64w oO)) rfl <| WL.m rfl rfl <| WL.p (.add rfl rfl (i64w oO)) rfl <| WL.p (.cvt underlying3 underlying5 rfl (u8w oO)) rfl <| WL.bsl (ps := _) underlying22 sizeOf5 zeroValue5 rfl rfl rfl rfl rfl pR rfl (fun b19 wb19 eb19 hkb19 hub19 hsb19 => ?_)
 have ho20 := Own.new hown eb19 hub19
 have hvl22 := fun h0 => eb19 ▸ hbv.lt h0
 have hv21 := bup hbv hub19 hvl22
 have hB23 := Upd.below hB' (by rw [eb19]; exact hB'.size) hub19
 have hgeb19 : w.heap.size ≤ b19 := by rw [eb19]; exact hB'.size
 refine WL.appm underlying22 inf5 rfl rfl rfl ho20 rfl hkb19 rfl (by rw [byteVals_len]; omega) (hB23.size) rfl (fun v24 w25 how25 hbw25 hgw25 => ?_)
 have hv26 := BytesAt.below hv21 hbw25 hvB
 have hB27 := Below.trans hB23 (hbw25.mono (Nat.le_refl _))
 have ho28 := Own.snoc how25 (ch ((x * 16 + hexN (l[t]'oO) : Nat) : Int)) (by rw [ch_val _ oO oO]; push_cast; omega)
 refine WL.z rfl rfl ?_
 refine W.reg <| WL.z rfl rfl ?_
 refine W.reg <| WL.m rfl rfl <| WL.p (.add rfl rfl (i64w oO)) rfl <| WL.z rfl rfl ?_
 exact ⟨(_, o ++ [_], none, t + 1), ⟨rfl, rfl, rfl, lk_i rfl oM, trivial⟩, ⟨hB27, hv26, ho28, by rw [← hw, hs, if_neg (bF aS), if_neg (u8_ne aS), if_neg oO], fun y hy => (by cases hy), by simp only [List.length_append, List.length_cons, List.length_nil]; omega, by ((try simp only) <;> omega)⟩, by ((try simp only) <;> omega)⟩
 have h1' := dF h1
 refine W.exit <| W.sr <| WL.a rfl rfl <| WL.a rfl rfl <| WL.z rfl rfl ?_
 refine W.ret (W.ret3 rfl rfl rfl rfl ?_)
 exact ⟨_, rfl, hB', _, _, _, rfl, by rw [← hw, List.drop_eq_nil_of_le oO]; exact rfl⟩
end
section
/-- a line feed stands there -/
def lfB (l : List UInt8) (t : Nat) : Bool := decide (t < l.length) && decide (((l[t]!).toNat : Int) = 10)
theorem lfB_t {l : List UInt8} {t : Nat} (h : lfB l t = true) : t < l.length ∧ dropLF (l.drop t) = l.drop (t + 1) := by
 unfold lfB at h
 simp only [Bool.and_eq_true, decide_eq_true_eq] at h
 obtain ⟨h1, h2⟩ := h
 rw [getElem!_pos l t h1] at h2
 have h3 : l[t] = 10 := u8_eq h2
 refine ⟨h1, ?_⟩
 rw [List.drop_eq_getElem_cons h1]
 simp [dropLF, h3]
theorem lfB_f {l : List UInt8} {t : Nat} (h : lfB l t = false) : dropLF (l.drop t) = l.drop t := by
 by_cases h1 : t < l.length
 ·
  unfold lfB at h
  rw [decide_eq_true h1, Bool.true_and, getElem!_pos l t h1] at h
  have h3 : l[t] ≠ 10 := u8_ne (dF h)
  rw [List.drop_eq_getElem_cons h1]
  simp [dropLF, h3]
 ·
  rw [List.drop_eq_nil_of_le oO]; rfl
/-- one more octal digit -/
def octT (l : List UInt8) (k t : Nat) : Bool := decide (k < 2) && (decide (t < l.length) && (decide (48 ≤ ((l[t]!).toNat : Int)) && decide (((l[t]!).toNat : Int) ≤ 55)))
theorem octT_t {l : List UInt8} {k t : Nat} (h : octT l k t = true) : k < 2 ∧ ∃ ht : t < l.length, 48 ≤ (l[t]'ht).toNat ∧ (l[t]'ht).toNat ≤ 55 ∧ ∀ n, octS (2 - k) n (l.drop t) = octS (2 - (k + 1)) (8 * n + ((l[t]'ht).toNat - 48)) (l.drop (t + 1)) := by
 unfold octT at h
 simp only [Bool.and_eq_true, decide_eq_true_eq] at h
 obtain ⟨h0, h1, h2, h3⟩ := h
 rw [getElem!_pos l t h1] at h2 h3
 refine ⟨h0, h1, by omega, by omega, fun n => ?_⟩
 rw [List.drop_eq_getElem_cons h1, show 2 - k = (2 - (k + 1)) + 1 by omega]
 have : octB l[t] = true := by simp [octB]; omega
 simp only [octS]
 rw [if_pos this]
theorem octT_f {l : List UInt8} {k t : Nat} (h : octT l k t = false) (n : Nat) : octS (2 - k) n (l.drop t) = (n, l.drop t) := by
  by_cases h0 : k < 2
  · rw [show 2 - k = (2 - (k + 1)) + 1 by omega]
    by_cases h1 : t < l.length
    · rw [List.drop_eq_getElem_cons h1]
      unfold octT at h
      rw [decide_eq_true h0, Bool.true_and, decide_eq_true h1, Bool.true_and, getElem!_pos l t h1] at h
      have : octB l[t] = false := by
        unfold octB
        rw [← h]; congr 1 <;> exact decide_eq_decide.2 oO
      simp only [octS]
      rw [if_neg (by rw [this]; simp)]
    · rw [List.drop_eq_nil_of_le oO]; rfl
  · rw [show 2 - k = 0 by omega]; rfl
theorem roundS_at (d : Nat) (o l : List UInt8) (s : Nat) (h : s < l.length) : roundS d o (l.drop s) =
  if l[s] = 40 then roundS (d + 1) (o ++ [l[s]]) (l.drop (s + 1))
  else if l[s] = 41 then (if d = 1 then some (o, l.drop (s + 1)) else roundS (d - 1) (o ++ [l[s]]) (l.drop (s + 1)))
  else if l[s] = 92 then
   match l.drop (s + 1) with
   | [] => none
   | e :: r' => roundS d (o ++ (escS e r').1) (escS e r').2
  else if l[s] = 13 then roundS d (o ++ [10]) (dropLF (l.drop (s + 1)))
  else roundS d (o ++ [l[s]]) (l.drop (s + 1)) := by
 rw [List.drop_eq_getElem_cons h]
 exact roundS.eq_def d o (l[s] :: l.drop (s + 1))
theorem round_step {d d1 d2 s t : Nat} {o l : List UInt8} {x c : UInt8} (h : s < l.length) (hx : x = l[s]) (h1 : d1 = (if x = 40 then d + 1 else d)) (h2 : x = 41 ∧ d1 = d2 + 1 ∧ 1 ≤ d2 ∨ x ≠ 41 ∧ d2 = d1)
  (h3 : x = 13 ∧ c = 10 ∧ l.drop t = dropLF (l.drop (s + 1)) ∨ x ≠ 13 ∧ c = x ∧ t = s + 1) (hc : c ≠ 92) : roundS d o (l.drop s) = roundS d2 (o ++ [c]) (l.drop t) := by
 rw [roundS_at d o l s h, ← hx]
 by_cases h40 : x = 40
 ·
  subst h40
  rw [if_pos rfl] at h1 ⊢
  obtain ⟨-, rfl⟩ := h2.resolve_left (fun h => by cases h.1)
  obtain ⟨-, rfl, rfl⟩ := h3.resolve_left (fun h => by cases h.1)
  rw [h1]
 ·
  rw [if_neg h40] at h1 ⊢
  subst h1
  by_cases h41 : x = 41
  ·
   subst h41
   rw [if_pos rfl]
   obtain ⟨-, hd, h12⟩ := h2.resolve_right (fun h => h.1 rfl)
   obtain ⟨-, rfl, rfl⟩ := h3.resolve_left (fun h => by cases h.1)
   rw [if_neg oO, show d1 - 1 = d2 by omega]
  ·
   rw [if_neg h41]
   obtain ⟨-, rfl⟩ := h2.resolve_left (fun h => h41 h.1)
   by_cases h13 : x = 13
   ·
    subst h13
    obtain ⟨-, rfl, ht⟩ := h3.resolve_right (fun h => h.1 rfl)
    rw [if_neg dD, if_pos rfl, ht]
   ·
    obtain ⟨-, rfl, rfl⟩ := h3.resolve_left (fun h => h13 h.1)
    rw [if_neg hc, if_neg h13]
theorem round_esc {d d1 d2 s t : Nat} {l : List UInt8} {x c : UInt8} (h : s < l.length) (hx : x = l[s]) (h1 : d1 = (if x = 40 then d + 1 else d)) (h2 : x = 41 ∧ d1 = d2 + 1 ∧ 1 ≤ d2 ∨ x ≠ 41 ∧ d2 = d1)
  (h3 : x = 13 ∧ c = 10 ∧ l.drop t = dropLF (l.drop (s + 1)) ∨ x ≠ 13 ∧ c = x ∧ t = s + 1) (hc : c = 92) : d2 = d ∧ t = s + 1 ∧ (∀ ht : s + 1 < l.length, ∀ o, roundS d o (l.drop s) = roundS d (o ++ (escS (l[s + 1]'ht) (l.drop (s + 2))).1) (escS (l[s + 1]'ht) (l.drop (s + 2))).2) ∧ (l.length ≤ s + 1 → ∀ o, roundS d o (l.drop s) = none) := by
 have hx2 : x = 92 := by
  rcases h3 with ⟨_, rfl, _⟩ | ⟨_, rfl, _⟩
  ·
   cases hc
  ·
   exact hc
 have ht : t = s + 1 := by
  rcases h3 with ⟨_, rfl, _⟩ | ⟨_, _, ht⟩
  ·
   cases hc
  ·
   exact ht
 subst hx2
 rw [if_neg dD] at h1
 obtain ⟨-, rfl⟩ := h2.resolve_left (fun h => by cases h.1)
 refine ⟨h1, ht, fun hl o => ?_, fun hl o => ?_⟩
 ·
  rw [roundS_at d o l s h, ← hx, if_neg dD, if_neg dD, if_pos rfl, List.drop_eq_getElem_cons hl]
 ·
  rw [roundS_at d o l s h, ← hx, if_neg dD, if_neg dD, if_pos rfl, List.drop_eq_nil_of_le hl]
theorem esc110 (r : List UInt8) : escS 110 r = ([10], r) := rfl
theorem esc114 (r : List UInt8) : escS 114 r = ([13], r) := rfl
theorem esc116 (r : List UInt8) : escS 116 r = ([9], r) := rfl
theorem esc98 (r : List UInt8) : escS 98 r = ([8], r) := rfl
theorem esc102 (r : List UInt8) : escS 102 r = ([12], r) := rfl
theorem esc10 (r : List UInt8) : escS 10 r = ([], r) := rfl
theorem esc13 (r : List UInt8) : escS 13 r = ([], dropLF r) := rfl
theorem esc_oct {y : UInt8} (r : List UInt8) (h1 : 48 ≤ (y.toNat : Int)) (h2 : (y.toNat : Int) ≤ 55) : escS y r = ([ch ((octS 2 (y.toNat - 48) r).1 % 256 : Nat)], (octS 2 (y.toNat - 48) r).2) := by
 have ne : ∀ c : UInt8, (c.toNat < 48 ∨ 55 < c.toNat) → y ≠ c := fun c hc e => by subst e; omega
 unfold escS
 rw [if_neg (ne 110 dD), if_neg (ne 114 dD), if_neg (ne 116 dD), if_neg (ne 98 dD), if_neg (ne 102 dD), if_neg (ne 10 dD), if_neg (ne 13 dD),
  if_pos (by simp only [octB, Bool.and_eq_true, decide_eq_true_eq]; omega)]
theorem esc_else {y : UInt8} (r : List UInt8) (h1 : ¬ (y.toNat : Int) = 110) (h2 : ¬ (y.toNat : Int) = 114) (h3 : ¬ (y.toNat : Int) = 116) (h4 : ¬ (y.toNat : Int) = 98) (h5 : ¬ (y.toNat : Int) = 102) (h6 : ¬ (y.toNat : Int) = 10) (h7 : ¬ (y.toNat : Int) = 13)
  (h8 : ¬ (48 ≤ (y.toNat : Int) ∧ (y.toNat : Int) ≤ 55)) : escS y r = ([y], r) := by
 unfold escS
 rw [if_neg (u8_ne (d := 110) h1), if_neg (u8_ne (d := 114) h2), if_neg (u8_ne (d := 116) h3), if_neg (u8_ne (d := 98) h4), if_neg (u8_ne (d := 102) h5), if_neg (u8_ne (d := 10) h6), if_neg (u8_ne (d := 13) h7),
  if_neg (by simp only [octB, Bool.and_eq_true, decide_eq_true_eq]; omega)]
theorem ref_Round (p : Option Addr) (l : List UInt8) (c a : Nat) (w : World) (hb : BytesAt w p l) (ha : a ≤ l.length) (hl : l.length ≤ 100000000) :
  Calls Tryz.prog 155 #[.slice p l.length c, .int .i64 (a : Int)] w fun e w' => ∃ v, e = .returned v ∧ Below w.heap.size w w' ∧ ∃ u at' err, v = .tuple #[u, .int .i64 at', .int .i64 err] ∧ StrOk w' w.heap.size l (roundS 1 [] (l.drop (a + 1))) u at' err := by
 obtain ⟨R, hR⟩ : ∃ R, R = roundS 1 [] (l.drop (a + 1)) := ⟨_, rfl⟩
 rw [← hR]
 have hvB : 0 < l.length → (pA p).block < w.heap.size := hb.lt
 refine W.enter func155 rfl ntmps155 (Nat.le_of_ble_eq_true rfl) ?_
 refine W.sr <| WL.a rfl rfl <| WL.a rfl rfl <| WL.z rfl rfl ?_
 refine W.sr <| WL.z rfl rfl ?_
 refine W.sr <| WL.z rfl rfl ?_
 refine W.sr <| WL.m rfl rfl <| WL.p (.add rfl rfl (i64w oO)) rfl <| WL.z rfl rfl ?_
 refine W.block ?_
 refine W.loop (α := Value × List UInt8 × Nat × Nat) (fun t => [(0, .slice p l.length c), (7, t.1), (8, .int .i64 (t.2.2.1 : Int)), (9, .int .i64 (t.2.2.2 : Int))]) (fun t w' => Below w.heap.size w w' ∧ BytesAt w' p l ∧ Own 5 w.heap.size w' t.1 (byteVals t.2.1) ∧ roundS t.2.2.1 t.2.1 (l.drop t.2.2.2) = R ∧ 1 ≤ t.2.2.1 ∧ t.2.2.1 ≤ t.2.2.2 ∧ t.2.1.length ≤ t.2.2.2 ∧ t.2.2.2 ≤ l.length + 1) (fun t => l.length + 1 - t.2.2.2) ((.slice none 0 0, [], 1, a + 1)) ⟨rfl, rfl, rfl, lk_i rfl oM, trivial⟩ (⟨Below.refl _ _, hb, Own.nil _ _ _, hR.symm, Nat.le_refl _, by ((try simp only) <;> omega), Nat.zero_le _, by ((try simp only) <;> omega)⟩) (fun t w1 hR => ?_)
 obtain ⟨v, o, d, s⟩ := t
 obtain ⟨hB', hbv, hown, hw, hd1, hds, hol, ht⟩ := hR
 simp only at hB' hbv hown hw hd1 hds hol ht ⊢
 refine W.block <| W.seq <| W.sr <| WL.m rfl rfl <| WL.m rfl rfl <| WL.p (.lenS underlying22 rfl) rfl <| WL.p (.geq rfl rfl) rfl <| WL.nil <| ?_
 refine W.cond rfl (fun h1 => ?_) (fun h1 => ?_)
 have h1' := dT h1
 refine W.sr <| WL.a rfl rfl <| WL.a rfl rfl <| WL.z rfl rfl ?_
 refine W.ret (W.ret3 rfl rfl rfl rfl ?_)
 exact ⟨_, rfl, hB', _, _, _, rfl, by rw [← hw, List.drop_eq_nil_of_le oO, roundS.eq_def]; exact rfl⟩
 have h1' := dF h1
 refine W.skip <| W.seq ?_
 have hlt : s < l.length := by omega
 obtain ⟨x, hx⟩ : ∃ x, x = l[s]'hlt := ⟨_, rfl⟩
 refine W.reg <| WL.m rfl rfl <| WL.m rfl rfl <| WL.p (.ixb underlying22 sizeOf5 rfl rfl (hbv.isp oO) _ rfl oO) rfl <| WL.r (Rd.ldc (isAgg5 _) rfl (hbv.cells _ oO)) rfl <| WL.z rfl rfl ?_
 refine W.sr <| WL.m rfl rfl <| WL.p (.add rfl rfl (i64w oO)) rfl <| WL.z rfl rfl ?_
 refine W.cut (α := Nat) (fun t => [(0, .slice p l.length c), (7, v), (8, .int .i64 (t : Int)), (9, .int .i64 ((s + 1 : Nat) : Int)), (10, .int .u8 (x.toNat : Int))]) (fun t w' => w1 = w' ∧ t = (if x = 40 then d + 1 else d)) ?_ (fun t w1 hR => ?_)
 refine W.sr <| WL.m rfl rfl <| WL.p (.eql rfl rfl) rfl <| WL.nil <| ?_
 refine W.cond rfl (fun h2 => ?_) (fun h2 => ?_)
 have h2' := dT h2
 refine W.reg <| WL.m rfl rfl <| WL.p (.add rfl rfl (i64w oO)) rfl <| WL.z rfl rfl ?_
 exact ⟨d + 1, ⟨rfl, rfl, lk_i rfl oM, lk_i rfl oM, lk_i rfl (by rw [hx]), trivial⟩, rfl, by rw [if_pos (u8_eq (by rw [hx]; assumption))]⟩
 have h2' := dF h2
 refine W.skip ?_
 exact ⟨d, ⟨rfl, rfl, lk_i rfl oM, lk_i rfl oM, lk_i rfl (by rw [hx]), trivial⟩, rfl, by rw [if_neg (u8_ne (by rw [hx]; assumption))]⟩
 obtain ⟨d1, rfl⟩ : ∃ d1, d1 = t := ⟨t, rfl⟩
 obtain ⟨rfl, hj1⟩ := hR
 have hj1' : d ≤ d1 ∧ d1 ≤ d + 1 := by rw [hj1]; split <;> omega
 refine W.cut (α := Nat) (fun t => [(0, .slice p l.length c), (7, v), (8, .int .i64 (t : Int)), (9, .int .i64 ((s + 1 : Nat) : Int)), (10, .int .u8 (x.toNat : Int))]) (fun t w' => w1 = w' ∧ t ≤ d1 ∧ 1 ≤ t ∧ (x = 41 ∧ d1 = t + 1 ∧ 1 ≤ t ∨ x ≠ 41 ∧ t = d1)) ?_ (fun t w1 hR => ?_)
 refine W.sr <| WL.m rfl rfl <| WL.p (.eql rfl rfl) rfl <| WL.nil <| ?_
 refine W.cond rfl (fun h3 => ?_) (fun h3 => ?_)
 have h3' := dT h3
 refine W.sr <| WL.m rfl rfl <| WL.p (.sub rfl rfl (i64w oO)) rfl <| WL.z rfl rfl ?_
 refine W.sr <| WL.m rfl rfl <| WL.p (.eql rfl rfl) rfl <| WL.nil <| ?_
 refine W.cond rfl (fun h4 => ?_) (fun h4 => ?_)
 have h4' := dT h4
 refine W.sr <| WL.m rfl rfl <| WL.m rfl rfl <| WL.a rfl rfl <| WL.a rfl rfl <| WL.z rfl rfl ?_
 refine W.ret (W.ret3 rfl rfl rfl rfl ?_)
 exact ⟨_, rfl, hB', _, _, _, rfl, by rw [← hw, roundS_at d o l s hlt, ← hx, if_neg (by rintro rfl; cases u8_eq (c := 40) (d := 41) aS), if_pos (u8_eq aS), if_pos oO]; exact ⟨rfl, hown, by omega, s + 1, by omega, by omega, rfl⟩⟩
 have h4' := dF h4
 refine W.skip ?_
 exact ⟨d1 - 1, ⟨rfl, rfl, lk_i rfl oM, lk_i rfl oM, rfl, trivial⟩, rfl, by omega, by omega, Or.inl ⟨u8_eq aS, by omega, by omega⟩⟩
 have h3' := dF h3
 refine W.skip ?_
 exact ⟨d1, ⟨rfl, rfl, lk_i rfl oM, lk_i rfl oM, rfl, trivial⟩, rfl, by omega, by omega, Or.inr ⟨u8_ne aS, rfl⟩⟩
 obtain ⟨d2, rfl⟩ : ∃ d2, d2 = t := ⟨t, rfl⟩
 obtain ⟨rfl, hj2', hj2'', hj2⟩ := hR
 refine W.cut (α := Nat × UInt8) (fun t => [(0, .slice p l.length c), (7, v), (8, .int .i64 (d2 : Int)), (9, .int .i64 (t.1 : Int)), (10, .int .u8 (t.2.toNat : Int))]) (fun t w' => w1 = w' ∧ s + 1 ≤ t.1 ∧ t.1 ≤ l.length ∧ (x = 13 ∧ t.2 = 10 ∧ l.drop t.1 = dropLF (l.drop (s + 1)) ∨ x ≠ 13 ∧ t.2 = x ∧ t.1 = s + 1)) ?_ (fun t w1 hR => ?_)
 refine W.sr <| WL.m rfl rfl <| WL.p (.eql rfl rfl) rfl <| WL.nil <| ?_
 refine W.cond rfl (fun h5 => ?_) (fun h5 => ?_)
 have h5' := dT h5
 refine W.seq ?_
 refine W.cutB 49 (lfB l (s + 1)) ?_ ?_
 refine W.reg <| WL.m rfl rfl <| WL.m rfl rfl <| WL.p (.lenS underlying22 rfl) rfl <| WL.p (.lss rfl rfl) rfl <| WL.m rfl rfl <| WL.gd rfl rfl rfl (fun g6 => ?_) (fun g6 => ?_)
 have g6' := dT g6
 refine WL.m rfl rfl <| WL.gy rfl rfl rfl g6 <| WL.m rfl rfl <| WL.gy rfl rfl rfl g6 <| WL.p (.ixb underlying22 sizeOf5 rfl rfl (hbv.isp oO) _ rfl oO) rfl <| WL.gy rfl rfl rfl g6 <| WL.r (Rd.ldc (isAgg5 _) rfl (hbv.cells _ oO)) rfl <| WL.gy rfl rfl rfl g6 <| WL.p (.eql rfl rfl) rfl <| WL.p (.pkT rfl g6 rfl) rfl <| WL.nil <| ?_
 exact ⟨leE (lk_b rfl (by (by_cases hq : s + 1 < l.length) <;> (unfold lfB; first | (exfalso; omega) | (rw [getElem!_pos l (s + 1) hq]; simp_all; done) | (rw [decide_eq_false hq]; simp_all; done)))), rfl⟩
 have g6' := dF g6
 refine WL.gn rfl rfl rfl g6 <| WL.gn rfl rfl rfl g6 <| WL.gn rfl rfl rfl g6 <| WL.gn rfl rfl rfl g6 <| WL.p (.pkF rfl g6 rfl) rfl <| WL.nil <| ?_
 exact ⟨leE (lk_b rfl (by (by_cases hq : s + 1 < l.length) <;> (unfold lfB; first | (exfalso; omega) | (rw [getElem!_pos l (s + 1) hq]; simp_all; done) | (rw [decide_eq_false hq]; simp_all; done)))), rfl⟩
 refine W.cond rfl (fun h7 => ?_) (fun h7 => ?_)
 refine W.reg <| WL.m rfl rfl <| WL.p (.add rfl rfl (i64w oO)) rfl <| WL.z rfl rfl ?_
 refine W.reg <| WL.z rfl rfl ?_
 exact ⟨(s + 2, 10), ⟨rfl, rfl, rfl, lk_i rfl oM, rfl, trivial⟩, rfl, by ((try simp only) <;> omega), (by have := (lfB_t aS).1; ((try simp only) <;> omega)), Or.inl ⟨u8_eq aS, rfl, ((lfB_t aS).2).symm⟩⟩
 refine W.skip <| W.reg <| WL.z rfl rfl ?_
 exact ⟨(s + 1, 10), ⟨rfl, rfl, rfl, lk_i rfl oM, rfl, trivial⟩, rfl, by ((try simp only) <;> omega), by ((try simp only) <;> omega), Or.inl ⟨u8_eq aS, rfl, (lfB_f aS).symm⟩⟩
 have h5' := dF h5
 refine W.skip ?_
 exact ⟨(s + 1, x), ⟨rfl, rfl, rfl, lk_i rfl oM, rfl, trivial⟩, rfl, by ((try simp only) <;> omega), by ((try simp only) <;> omega), Or.inr ⟨u8_ne aS, rfl, rfl⟩⟩
 obtain ⟨s1, x1⟩ := t
 obtain ⟨rfl, hj3', hj3'', hj3⟩ := hR
 simp only at hj3' hj3'' hj3 ⊢
 refine W.seq <| W.sr <| WL.m rfl rfl <| WL.p (.neq rfl rfl) rfl <| WL.nil <| ?_
 refine W.cond rfl (fun h8 => ?_) (fun h8 => ?_)
 have h8' := ndT h8
 have hstep := fun o => round_step (o := o) hlt hx hj1 hj2 hj3 (u8_ne aS)
 refine W.sr <| WL.m rfl rfl <| WL.m rfl rfl <| WL.bsl (ps := _) underlying22 sizeOf5 zeroValue5 rfl rfl rfl rfl rfl pR rfl (fun b9 wb9 eb9 hkb9 hub9 hsb9 => ?_)
 have ho10 := Own.new hown eb9 hub9
 have hvl12 := fun h0 => eb9 ▸ hbv.lt h0
 have hv11 := bup hbv hub9 hvl12
 have hB13 := Upd.below hB' (by rw [eb9]; exact hB'.size) hub9
 have hgeb9 : w.heap.size ≤ b9 := by rw [eb9]; exact hB'.size
 refine WL.appm underlying22 inf5 rfl rfl rfl ho10 rfl hkb9 rfl (by rw [byteVals_len]; omega) (hB13.size) rfl (fun v14 w15 how15 hbw15 hgw15 => ?_)
 have hv16 := BytesAt.below hv11 hbw15 hvB
 have hB17 := Below.trans hB13 (hbw15.mono (Nat.le_refl _))
 have ho18 := Own.snoc how15 (x1) (rfl)
 refine WL.z rfl rfl ?_
 refine W.exit ?_
 exact ⟨(_, o ++ [x1], d2, s1), ⟨rfl, rfl, rfl, lk_i rfl oM, trivial⟩, ⟨hB17, hv16, ho18, (by rw [← hw, hstep o]), by ((try simp only) <;> omega), by ((try simp only) <;> omega), by (simp only [List.length_append, List.length_cons, List.length_nil]; omega), by ((try simp only) <;> omega)⟩, by ((try simp only) <;> omega)⟩
 have h8' := ndF h8
 obtain ⟨rfl, rfl, hesc, hend⟩ := round_esc hlt hx hj1 hj2 hj3 (u8_eq aS)
 refine W.skip <| W.seq <| W.sr <| WL.m rfl rfl <| WL.m rfl rfl <| WL.p (.lenS underlying22 rfl) rfl <| WL.p (.geq rfl rfl) rfl <| WL.nil <| ?_
 refine W.cond rfl (fun h19 => ?_) (fun h19 => ?_)
 have h19' := dT h19
 refine W.sr <| WL.a rfl rfl <| WL.a rfl rfl <| WL.z rfl rfl ?_
 refine W.ret (W.ret3 rfl rfl rfl rfl ?_)
 exact ⟨_, rfl, hB', _, _, _, rfl, by rw [← hw, hend oO]; exact rfl⟩
 have h19' := dF h19
 refine W.skip <| W.seq ?_
 have hl1 : s + 1 < l.length := by omega
 obtain ⟨y, hy⟩ : ∃ y, y = l[s + 1]'hl1 := ⟨_, rfl⟩
 have he : roundS d2 o (l.drop s) = roundS d2 (o ++ (escS y (l.drop (s + 2))).1) (escS y (l.drop (s + 2))).2 := by rw [hy]; exact hesc hl1 o
 refine W.reg <| WL.m rfl rfl <| WL.m rfl rfl <| WL.p (.ixb underlying22 sizeOf5 rfl rfl (hbv.isp oO) _ rfl oO) rfl <| WL.r (Rd.iis ((y.toNat : Int)) (Rd.ldc (isAgg5 _) rfl (hbv.cells _ oO)) (by rw [hy])) rfl <| WL.z rfl rfl ?_
 refine W.sr <| WL.m rfl rfl <| WL.p (.add rfl rfl (i64w oO)) rfl <| WL.z rfl rfl ?_
 refine W.block <| W.sr <| WL.m rfl rfl <| WL.p (.eql rfl rfl) rfl <| WL.z rfl rfl ?_
 refine W.cond rfl (fun h20 => ?_) (fun h20 => ?_)
 have h20' := dT h20
 refine W.reg <| WL.m rfl rfl <| WL.bsl (ps := _) underlying22 sizeOf5 zeroValue5 rfl rfl rfl rfl rfl pR rfl (fun b21 wb21 eb21 hkb21 hub21 hsb21 => ?_)
 have ho22 := Own.new hown eb21 hub21
 have hvl24 := fun h0 => eb21 ▸ hbv.lt h0
 have hv23 := bup hbv hub21 hvl24
 have hB25 := Upd.below hB' (by rw [eb21]; exact hB'.size) hub21
 have hgeb21 : w.heap.size ≤ b21 := by rw [eb21]; exact hB'.size
 refine WL.appm underlying22 inf5 rfl rfl rfl ho22 rfl hkb21 rfl (by rw [byteVals_len]; omega) (hB25.size) rfl (fun v26 w27 how27 hbw27 hgw27 => ?_)
 have hv28 := BytesAt.below hv23 hbw27 hvB
 have hB29 := Below.trans hB25 (hbw27.mono (Nat.le_refl _))
 have ho30 := Own.snoc how27 (10) (rfl)
 refine WL.z rfl rfl ?_
 exact ⟨(_, o ++ [10], d2, s + 2), ⟨rfl, rfl, rfl, lk_i rfl oM, trivial⟩, ⟨hB29, hv28, ho30, (by rw [← hw, he, show y = 110 from u8_eq aS, esc110]), by ((try simp only) <;> omega), by ((try simp only) <;> omega), by (simp only [List.length_append, List.length_cons, List.length_nil]; omega), by ((try simp only) <;> omega)⟩, by ((try simp only) <;> omega)⟩
 have h20' := dF h20
 refine W.sr <| WL.m rfl rfl <| WL.p (.eql rfl rfl) rfl <| WL.z rfl rfl ?_
 refine W.cond rfl (fun h31 => ?_) (fun h31 => ?_)
 have h31' := dT h31
 refine W.reg <| WL.m rfl rfl <| WL.bsl (ps := _) underlying22 sizeOf5 zeroValue5 rfl rfl rfl rfl rfl pR rfl (fun b32 wb32 eb32 hkb32 hub32 hsb32 => ?_)
 have ho33 := Own.new hown eb32 hub32
 have hvl35 := fun h0 => eb32 ▸ hbv.lt h0
 have hv34 := bup hbv hub32 hvl35
 have hB36 := Upd.below hB' (by rw [eb32]; exact hB'.size) hub32
 have hgeb32 : w.heap.size ≤ b32 := by rw [eb32]; exact hB'.size
 refine WL.appm underlying22 inf5 rfl rfl rfl ho33 rfl hkb32 rfl (by rw [byteVals_len]; omega) (hB36.size) rfl (fun v37 w38 how38 hbw38 hgw38 => ?_)
 have hv39 := BytesAt.below hv34 hbw38 hvB
 have hB40 := Below.trans hB36 (hbw38.mono (Nat.le_refl _))
 have ho41 := Own.snoc how38 (13) (rfl)
 refine WL.z rfl rfl ?_
 exact ⟨(_, o ++ [13], d2, s + 2), ⟨rfl, rfl, rfl, lk_i rfl oM, trivial⟩, ⟨hB40, hv39, ho41, (by rw [← hw, he, show y = 114 from u8_eq aS, esc114]), by ((try simp only) <;> omega), by ((try simp only) <;> omega), by (simp only [List.length_append, List.length_cons, List.length_nil]; omega), by ((try simp only) <;> omega)⟩, by ((try simp only) <;> omega)⟩
 have h31' := dF h31
 refine W.sr <| WL.m rfl rfl <| WL.p (.eql rfl rfl) rfl <| WL.z rfl rfl ?_
 refine W.cond rfl (fun h42 => ?_) (fun h42 => ?_)
 have h42' := dT h42
 refine W.reg <| WL.m rfl rfl <| WL.bsl (ps := _) underlying22 sizeOf5 zeroValue5 rfl rfl rfl rfl rfl pR rfl (fun b43 wb43 eb43 hkb43 hub43 hsb43 => ?_)
 have ho44 := Own.new hown eb43 hub43
 have hvl46 := fun h0 => eb43 ▸ hbv.lt h0
 have hv45 := bup hbv hub43 hvl46
 have hB47 := Upd.below hB' (by rw [eb43]; exact hB'.size) hub43
 have hgeb43 : w.heap.size ≤ b43 := by rw [eb43]; exact hB'.size
 refine WL.appm underlying22 inf5 rfl rfl rfl ho44 rfl hkb43 rfl (by rw [byteVals_len]; omega) (hB47.size) rfl (fun v48 w49 how49 hbw49 hgw49 => ?_)
 have hv50 := BytesAt.below hv45 hbw49 hvB
 have hB51 := Below.trans hB47 (hbw49.mono (Nat.le_refl _))
 have ho52 := Own.snoc how49 (9) (rfl)
 refine WL.z rfl rfl ?_
 exact ⟨(_, o ++ [9], d2, s + 2), ⟨rfl, rfl, rfl, lk_i rfl oM, trivial⟩, ⟨hB51, hv50, ho52, (by rw [← hw, he, show y = 116 from u8_eq aS, esc116]), by ((try simp only) <;> omega), by ((try simp only) <;> omega), by (simp only [List.length_append, List.length_cons, List.length_nil]; omega), by ((try simp only) <;> omega)⟩, by ((try simp only) <;> omega)⟩
 have h42' := dF h42
 refine W.sr <| WL.m rfl rfl <| WL.p (.eql rfl rfl) rfl <| WL.z rfl rfl ?_
 refine W.cond rfl (fun h53 => ?_) (fun h53 => ?_)
 have h53' := dT h53
 refine W.reg <| WL.m rfl rfl <| WL.bsl (ps := _) underlying22 sizeOf5 zeroValue5 rfl rfl rfl rfl rfl pR rfl (fun b54 wb54 eb54 hkb54 hub54 hsb54 => ?_)
 have ho55 := Own.new hown eb54 hub54
 have hvl57 := fun h0 => eb54 ▸ hbv.lt h0
 have hv56 := bup hbv hub54 hvl57
 have hB58 := Upd.below hB' (by rw [eb54]; exact hB'.size) hub54
 have hgeb54 : w.heap.size ≤ b54 := by rw [eb54]; exact hB'.size
 refine WL.appm underlying22 inf5 rfl rfl rfl ho55 rfl hkb54 rfl (by rw [byteVals_len]; omega) (hB58.size) rfl (fun v59 w60 how60 hbw60 hgw60 => ?_)
 have hv61 := BytesAt.below hv56 hbw60 hvB
 have hB62 := Below.trans hB58 (hbw60.mono (Nat.le_refl _))
 have ho63 := Own.snoc how60 (8) (rfl)
 refine WL.z rfl rfl ?_
 exact ⟨(_, o ++ [8], d2, s + 2), ⟨rfl, rfl, rfl, lk_i rfl oM, trivial⟩, ⟨hB62, hv61, ho63, (by rw [← hw, he, show y = 98 from u8_eq aS, esc98]), by ((try simp only) <;> omega), by ((try simp only) <;> omega), by (simp only [List.length_append, List.length_cons, List.length_nil]; omega), by ((try simp only) <;> omega)⟩, by ((try simp only) <;> omega)⟩
 have h53' := dF h53
 refine W.sr <| WL.m rfl rfl <| WL.p (.eql rfl rfl) rfl <| WL.z rfl rfl ?_
 refine W.cond rfl (fun h64 => ?_) (fun h64 => ?_)
 have h64' := dT h64
 refine W.reg <| WL.m rfl rfl <| WL.bsl (ps := _) underlying22 sizeOf5 zeroValue5 rfl rfl rfl rfl rfl pR rfl (fun b65 wb65 eb65 hkb65 hub65 hsb65 => ?_)
 have ho66 := Own.new hown eb65 hub65
 have hvl68 := fun h0 => eb65 ▸ hbv.lt h0
 have hv67 := bup hbv hub65 hvl68
 have hB69 := Upd.below hB' (by rw [eb65]; exact hB'.size) hub65
 have hgeb65 : w.heap.size ≤ b65 := by rw [eb65]; exact hB'.size
 refine WL.appm underlying22 inf5 rfl rfl rfl ho66 rfl hkb65 rfl (by rw [byteVals_len]; omega) (hB69.size) rfl (fun v70 w71 how71 hbw71 hgw71 => ?_)
 have hv72 := BytesAt.below hv67 hbw71 hvB
 have hB73 := Below.trans hB69 (hbw71.mono (Nat.le_refl _))
 have ho74 := Own.snoc how71 (12) (rfl)
 refine WL.z rfl rfl ?_
 exact ⟨(_, o ++ [12], d2, s + 2), ⟨rfl, rfl, rfl, lk_i rfl oM, trivial⟩, ⟨hB73, hv72, ho74, (by rw [← hw, he, show y = 102 from u8_eq aS, esc102]), by ((try simp only) <;> omega), by ((try simp only) <;> omega), by (simp only [List.length_append, List.length_cons, List.length_nil]; omega), by ((try simp only) <;> omega)⟩, by ((try simp only) <;> omega)⟩
 have h64' := dF h64
 refine W.sr <| WL.m rfl rfl <| WL.p (.eql rfl rfl) rfl <| WL.z rfl rfl ?_
 refine W.cond rfl (fun h75 => ?_) (fun h75 => ?_)
 have h75' := dT h75
 refine W.skip ?_
 exact ⟨(_, o, d2, s + 2), ⟨rfl, rfl, rfl, lk_i rfl oM, trivial⟩, ⟨hB', hbv, hown, (by rw [← hw, he, show y = 10 from u8_eq aS, esc10, List.append_nil]), by ((try simp only) <;> omega), by ((try simp only) <;> omega), by ((try simp only) <;> omega), by ((try simp only) <;> omega)⟩, by ((try simp only) <;> omega)⟩
 have h75' := dF h75
 refine W.sr <| WL.m rfl rfl <| WL.p (.eql rfl rfl) rfl <| WL.z rfl rfl ?_
 refine W.cond rfl (fun h76 => ?_) (fun h76 => ?_)
 have h76' := dT h76
 refine W.cutB 118 (lfB l (s + 2)) ?_ ?_
 refine W.reg <| WL.m rfl rfl <| WL.m rfl rfl <| WL.p (.lenS underlying22 rfl) rfl <| WL.p (.lss rfl rfl) rfl <| WL.m rfl rfl <| WL.gd rfl rfl rfl (fun g77 => ?_) (fun g77 => ?_)
 have g77' := dT g77
 refine WL.m rfl rfl <| WL.gy rfl rfl rfl g77 <| WL.m rfl rfl <| WL.gy rfl rfl rfl g77 <| WL.p (.ixb underlying22 sizeOf5 rfl rfl (hbv.isp oO) (s + 2) oO oO) rfl <| WL.gy rfl rfl rfl g77 <| WL.r (Rd.ldc (isAgg5 _) rfl (hbv.cells (s + 2) oO)) rfl <| WL.gy rfl rfl rfl g77 <| WL.p (.eql rfl rfl) rfl <| WL.p (.pkT rfl g77 rfl) rfl <| WL.nil <| ?_
 exact ⟨leE (lk_b rfl (by (by_cases hq : s + 2 < l.length) <;> (unfold lfB; first | (exfalso; omega) | (rw [getElem!_pos l (s + 2) hq]; simp_all; done) | (rw [decide_eq_false hq]; simp_all; done)))), rfl⟩
 have g77' := dF g77
 refine WL.gn rfl rfl rfl g77 <| WL.gn rfl rfl rfl g77 <| WL.gn rfl rfl rfl g77 <| WL.gn rfl rfl rfl g77 <| WL.p (.pkF rfl g77 rfl) rfl <| WL.nil <| ?_
 exact ⟨leE (lk_b rfl (by (by_cases hq : s + 2 < l.length) <;> (unfold lfB; first | (exfalso; omega) | (rw [getElem!_pos l (s + 2) hq]; simp_all; done) | (rw [decide_eq_false hq]; simp_all; done)))), rfl⟩
 refine W.cond rfl (fun h78 => ?_) (fun h78 => ?_)
 refine W.reg <| WL.m rfl rfl <| WL.p (.add rfl rfl (i64w oO)) rfl <| WL.z rfl rfl ?_
 (have hlf := lfB_t (l := l) (t := s + 2) aS; exact ⟨(_, o, d2, s + 3), ⟨rfl, rfl, rfl, lk_i rfl oM, trivial⟩, ⟨hB', hbv, hown, (by rw [← hw, he, show y = 13 from u8_eq aS, esc13, List.append_nil, hlf.2]), by ((try simp only) <;> omega), by ((try simp only) <;> omega), by ((try simp only) <;> omega), by ((try simp only) <;> omega)⟩, by ((try simp only) <;> omega)⟩)
 refine W.skip ?_
 exact ⟨(_, o, d2, s + 2), ⟨rfl, rfl, rfl, lk_i rfl oM, trivial⟩, ⟨hB', hbv, hown, (by rw [← hw, he, show y = 13 from u8_eq aS, esc13, List.append_nil, lfB_f (l := l) (t := s + 2) aS]), by ((try simp only) <;> omega), by ((try simp only) <;> omega), by ((try simp only) <;> omega), by ((try simp only) <;> omega)⟩, by ((try simp only) <;> omega)⟩
 have h76' := dF h76
 refine W.sr <| WL.m rfl rfl <| WL.p (.geq rfl rfl) rfl <| WL.m rfl rfl <| WL.gd rfl rfl rfl (fun g79 => ?_) (fun g79 => ?_)
 have g79' := dT g79
 refine WL.m rfl rfl <| WL.gy rfl rfl rfl g79 <| WL.p (.leq rfl rfl) rfl <| WL.p (.pkT rfl g79 rfl) rfl <| WL.z rfl rfl ?_
 refine W.cond rfl (fun h80 => ?_) (fun h80 => ?_)
 have h80' := dT h80
 refine W.sr <| WL.m rfl rfl <| WL.p (.sub rfl rfl (u8w oO)) rfl <| WL.p (.cvt underlying5 underlying3 rfl (i64w oO)) rfl <| WL.z rfl rfl ?_
 refine W.seq <| W.sr <| WL.z rfl rfl ?_
 refine W.block ?_
 refine W.loop (α := Nat × Nat × Nat) (fun t => [(0, .slice p l.length c), (7, v), (8, .int .i64 (d2 : Int)), (9, .int .i64 (t.2.2 : Int)), (11, .int .i64 (t.1 : Int)), (12, .int .i64 (t.2.1 : Int))]) (fun t w' => w1 = w' ∧ s + 2 ≤ t.2.2 ∧ t.2.2 ≤ l.length ∧ (t.2.1 = 0 ∧ t.1 ≤ 7 ∨ t.2.1 = 1 ∧ t.1 ≤ 63 ∨ t.2.1 = 2 ∧ t.1 ≤ 511) ∧ octS (2 - t.2.1) t.1 (l.drop t.2.2) = octS 2 (y.toNat - 48) (l.drop (s + 2))) (fun t => 2 - t.2.1) ((y.toNat - 48, 0, s + 2)) ⟨rfl, rfl, rfl, lk_i rfl oM, lk_i rfl oM, rfl, trivial⟩ (⟨rfl, by ((try simp only) <;> omega), by ((try simp only) <;> omega), Or.inl ⟨rfl, by ((try simp only) <;> omega)⟩, rfl⟩) (fun t w1 hR => ?_)
 obtain ⟨m, k, u⟩ := t
 obtain ⟨rfl, hu1, hu2, hm, hoc⟩ := hR
 simp only at hu1 hu2 hm hoc ⊢
 refine W.seq ?_
 refine W.cutB 152 (octT l k u) ?_ ?_
 refine W.reg <| WL.m rfl rfl <| WL.p (.lss rfl rfl) rfl <| WL.m rfl rfl <| WL.gd rfl rfl rfl (fun g81 => ?_) (fun g81 => ?_)
 have g81' := dT g81
 refine WL.m rfl rfl <| WL.gy rfl rfl rfl g81 <| WL.m rfl rfl <| WL.gy rfl rfl rfl g81 <| WL.p (.lenS underlying22 rfl) rfl <| WL.gy rfl rfl rfl g81 <| WL.p (.lss rfl rfl) rfl <| WL.p (.pkT rfl g81 rfl) rfl <| WL.m rfl rfl <| WL.gd rfl rfl rfl (fun g82 => ?_) (fun g82 => ?_)
 have g82' := dT g82
 refine WL.m rfl rfl <| WL.gy rfl rfl rfl g82 <| WL.m rfl rfl <| WL.gy rfl rfl rfl g82 <| WL.p (.ixb underlying22 sizeOf5 rfl rfl (hbv.isp oO) _ rfl oO) rfl <| WL.gy rfl rfl rfl g82 <| WL.r (Rd.ldc (isAgg5 _) rfl (hbv.cells _ oO)) rfl <| WL.gy rfl rfl rfl g82 <| WL.p (.geq rfl rfl) rfl <| WL.p (.pkT rfl g82 rfl) rfl <| WL.m rfl rfl <| WL.gd rfl rfl rfl (fun g83 => ?_) (fun g83 => ?_)
 have g83' := dT g83
 refine WL.m rfl rfl <| WL.gy rfl rfl rfl g83 <| WL.m rfl rfl <| WL.gy rfl rfl rfl g83 <| WL.p (.ixb underlying22 sizeOf5 rfl rfl (hbv.isp oO) _ rfl oO) rfl <| WL.gy rfl rfl rfl g83 <| WL.r (Rd.ldc (isAgg5 _) rfl (hbv.cells _ oO)) rfl <| WL.gy rfl rfl rfl g83 <| WL.p (.leq rfl rfl) rfl <| WL.p (.pkT rfl g83 rfl) rfl <| WL.nil <| ?_
 exact ⟨leE (lk_b rfl (by (by_cases hq : u < l.length) <;> (unfold octT; first | (exfalso; omega) | (rw [getElem!_pos l u hq]; (apply Bool.eq_iff_iff.2; (try simp only [Bool.and_eq_true, Bool.or_eq_true, Bool.not_eq_true', decide_eq_true_eq, decide_eq_false_iff_not, Bool.false_eq_true, Bool.not_eq_false', false_iff, iff_false, true_iff, iff_true]); omega)) | (apply Bool.eq_iff_iff.2; (try simp only [Bool.and_eq_true, Bool.or_eq_true, Bool.not_eq_true', decide_eq_true_eq, decide_eq_false_iff_not, Bool.false_eq_true, Bool.not_eq_false', false_iff, iff_false, true_iff, iff_true]); omega)))), rfl⟩
 have g83' := dF g83
 refine WL.gn rfl rfl rfl g83 <| WL.gn rfl rfl rfl g83 <| WL.gn rfl rfl rfl g83 <| WL.gn rfl rfl rfl g83 <| WL.p (.pkF rfl g83 rfl) rfl <| WL.nil <| ?_
 exact ⟨leE (lk_b rfl (by (by_cases hq : u < l.length) <;> (unfold octT; first | (exfalso; omega) | (rw [getElem!_pos l u hq]; (apply Bool.eq_iff_iff.2; (try simp only [Bool.and_eq_true, Bool.or_eq_true, Bool.not_eq_true', decide_eq_true_eq, decide_eq_false_iff_not, Bool.false_eq_true, Bool.not_eq_false', false_iff, iff_false, true_iff, iff_true]); omega)) | (apply Bool.eq_iff_iff.2; (try simp only [Bool.and_eq_true, Bool.or_eq_true, Bool.not_eq_true', decide_eq_true_eq, decide_eq_false_iff_not, Bool.false_eq_true, Bool.not_eq_false', false_iff, iff_false, true_iff, iff_true]); omega)))), rfl⟩
 have g82' := dF g82
 refine WL.gn rfl rfl rfl g82 <| WL.gn rfl rfl rfl g82 <| WL.gn rfl rfl rfl g82 <| WL.gn rfl rfl rfl g82 <| WL.p (.pkF rfl g82 rfl) rfl <| WL.m rfl rfl <| WL.gn rfl rfl rfl rfl <| WL.gn rfl rfl rfl rfl <| WL.gn rfl rfl rfl rfl <| WL.gn rfl rfl rfl rfl <| WL.gn rfl rfl rfl rfl <| WL.p (.pkF rfl rfl rfl) rfl <| WL.nil <| ?_
 exact ⟨leE (lk_b rfl (by (by_cases hq : u < l.length) <;> (unfold octT; first | (exfalso; omega) | (rw [getElem!_pos l u hq]; (apply Bool.eq_iff_iff.2; (try simp only [Bool.and_eq_true, Bool.or_eq_true, Bool.not_eq_true', decide_eq_true_eq, decide_eq_false_iff_not, Bool.false_eq_true, Bool.not_eq_false', false_iff, iff_false, true_iff, iff_true]); omega)) | (apply Bool.eq_iff_iff.2; (try simp only [Bool.and_eq_true, Bool.or_eq_true, Bool.not_eq_true', decide_eq_true_eq, decide_eq_false_iff_not, Bool.false_eq_true, Bool.not_eq_false', false_iff, iff_false, true_iff, iff_true]); omega)))), rfl⟩
 have g81' := dF g81
 refine WL.gn rfl rfl rfl g81 <| WL.gn rfl rfl rfl g81 <| WL.gn rfl rfl rfl g81 <| WL.p (.pkF rfl g81 rfl) rfl <| WL.m rfl rfl <| WL.gn rfl rfl rfl rfl <| WL.gn rfl rfl rfl rfl <| WL.gn rfl rfl rfl rfl <| WL.gn rfl rfl rfl rfl <| WL.gn rfl rfl rfl rfl <| WL.p (.pkF rfl rfl rfl) rfl <| WL.m rfl rfl <| WL.gn rfl rfl rfl rfl <| WL.gn rfl rfl rfl rfl <| WL.gn rfl rfl rfl rfl <| WL.gn rfl rfl rfl rfl <| WL.gn rfl rfl rfl rfl <| WL.p (.pkF rfl rfl rfl) rfl <| WL.nil <| ?_
 exact ⟨leE (lk_b rfl (by (by_cases hq : u < l.length) <;> (unfold octT; first | (exfalso; omega) | (rw [getElem!_pos l u hq]; (apply Bool.eq_iff_iff.2; (try simp only [Bool.and_eq_true, Bool.or_eq_true, Bool.not_eq_true', decide_eq_true_eq, decide_eq_false_iff_not, Bool.false_eq_true, Bool.not_eq_false', false_iff, iff_false, true_iff, iff_true]); omega)) | (apply Bool.eq_iff_iff.2; (try simp only [Bool.and_eq_true, Bool.or_eq_true, Bool.not_eq_true', decide_eq_true_eq, decide_eq_false_iff_not, Bool.false_eq_true, Bool.not_eq_false', false_iff, iff_false, true_iff, iff_true]); omega)))), rfl⟩
 refine W.cond rfl (fun h84 => ?_) (fun h84 => ?_)
 obtain ⟨hk2, hul, h48, h55, hoct⟩ := octT_t aS
 refine W.skip <| W.seq <| W.block <| W.sr <| WL.m rfl rfl <| WL.p (.mul rfl rfl (i64w oO)) rfl <| WL.m rfl rfl <| WL.m rfl rfl <| WL.p (.ixb underlying22 sizeOf5 rfl rfl (hbv.isp oO) _ rfl oO) rfl <| WL.r (Rd.ldc (isAgg5 _) rfl (hbv.cells _ oO)) rfl <| WL.p (.sub rfl rfl (u8w oO)) rfl <| WL.p (.cvt underlying5 underlying3 rfl (i64w oO)) rfl <| WL.p (.add rfl rfl (i64w oO)) rfl <| WL.z rfl rfl ?_
 refine W.reg <| WL.m rfl rfl <| WL.p (.add rfl rfl (i64w oO)) rfl <| WL.z rfl rfl ?_
 refine W.reg <| WL.m rfl rfl <| WL.p (.add rfl rfl (i64w oO)) rfl <| WL.z rfl rfl ?_
 exact ⟨(8 * m + ((l[u]'hul).toNat - 48), k + 1, u + 1), ⟨rfl, rfl, rfl, lk_i rfl oM, lk_i rfl oM, lk_i rfl oM, trivial⟩, ⟨rfl, by ((try simp only) <;> omega), by ((try simp only) <;> omega), by ((try simp only) <;> omega), by rw [← hoc, hoct m]⟩, by ((try simp only) <;> omega)⟩
 have hoct := octT_f aS m
 rw [hoc] at hoct
 refine W.exit <| W.reg <| WL.m rfl rfl <| WL.m rfl rfl <| WL.p (.rem rfl rfl oO (Int.tmod_eq_emod_of_nonneg oO)) rfl <| WL.p (.cvt underlying3 underlying5 rfl (u8w oO)) rfl <| WL.bsl (ps := _) underlying22 sizeOf5 zeroValue5 rfl rfl rfl rfl rfl pR rfl (fun b85 wb85 eb85 hkb85 hub85 hsb85 => ?_)
 have ho86 := Own.new hown eb85 hub85
 have hvl88 := fun h0 => eb85 ▸ hbv.lt h0
 have hv87 := bup hbv hub85 hvl88
 have hB89 := Upd.below hB' (by rw [eb85]; exact hB'.size) hub85
 have hgeb85 : w.heap.size ≤ b85 := by rw [eb85]; exact hB'.size
 refine WL.appm underlying22 inf5 rfl rfl rfl ho86 rfl hkb85 rfl (by rw [byteVals_len]; omega) (hB89.size) rfl (fun v90 w91 how91 hbw91 hgw91 => ?_)
 have hv92 := BytesAt.below hv87 hbw91 hvB
 have hB93 := Below.trans hB89 (hbw91.mono (Nat.le_refl _))
 have ho94 := Own.snoc how91 (ch ((m % 256 : Nat) : Int)) (by rw [ch_val _ oO oO]; omega)
 refine WL.z rfl rfl ?_
 exact ⟨(_, o ++ [ch ((m % 256 : Nat) : Int)], d2, u), ⟨rfl, rfl, rfl, lk_i rfl oM, trivial⟩, ⟨hB93, hv92, ho94, (by rw [← hw, he, esc_oct _ aS aS, hoct]), by ((try simp only) <;> omega), by ((try simp only) <;> omega), by (simp only [List.length_append, List.length_cons, List.length_nil]; omega), by ((try simp only) <;> omega)⟩, by ((try simp only) <;> omega)⟩
 have h80' := dF h80
 refine W.reg <| WL.m rfl rfl <| WL.m rfl rfl <| WL.bsl (ps := _) underlying22 sizeOf5 zeroValue5 rfl rfl rfl rfl rfl pR rfl (fun b95 wb95 eb95 hkb95 hub95 hsb95 => ?_)
 have ho96 := Own.new hown eb95 hub95
 have hvl98 := fun h0 => eb95 ▸ hbv.lt h0
 have hv97 := bup hbv hub95 hvl98
 have hB99 := Upd.below hB' (by rw [eb95]; exact hB'.size) hub95
 have hgeb95 : w.heap.size ≤ b95 := by rw [eb95]; exact hB'.size
 refine WL.appm underlying22 inf5 rfl rfl rfl ho96 rfl hkb95 rfl (by rw [byteVals_len]; omega) (hB99.size) rfl (fun v100 w101 how101 hbw101 hgw101 => ?_)
 have hv102 := BytesAt.below hv97 hbw101 hvB
 have hB103 := Below.trans hB99 (hbw101.mono (Nat.le_refl _))
 have ho104 := Own.snoc how101 (y) (rfl)
 refine WL.z rfl rfl ?_
 exact ⟨(_, o ++ [y], d2, s + 2), ⟨rfl, rfl, rfl, lk_i rfl oM, trivial⟩, ⟨hB103, hv102, ho104, (by rw [← hw, he, esc_else _ oO oO oO oO oO oO oO oO]), by ((try simp only) <;> omega), by ((try simp only) <;> omega), by (simp only [List.length_append, List.length_cons, List.length_nil]; omega), by ((try simp only) <;> omega)⟩, by ((try simp only) <;> omega)⟩
 have g79' := dF g79
 refine WL.gn rfl rfl rfl g79 <| WL.p (.pkF rfl g79 rfl) rfl <| WL.z rfl rfl ?_
 refine W.condF rfl rfl ?_
 refine W.reg <| WL.m rfl rfl <| WL.m rfl rfl <| WL.bsl (ps := _) underlying22 sizeOf5 zeroValue5 rfl rfl rfl rfl rfl pR rfl (fun b105 wb105 eb105 hkb105 hub105 hsb105 => ?_)
 have ho106 := Own.new hown eb105 hub105
 have hvl108 := fun h0 => eb105 ▸ hbv.lt h0
 have hv107 := bup hbv hub105 hvl108
 have hB109 := Upd.below hB' (by rw [eb105]; exact hB'.size) hub105
 have hgeb105 : w.heap.size ≤ b105 := by rw [eb105]; exact hB'.size
 refine WL.appm underlying22 inf5 rfl rfl rfl ho106 rfl hkb105 rfl (by rw [byteVals_len]; omega) (hB109.size) rfl (fun v110 w111 how111 hbw111 hgw111 => ?_)
 have hv112 := BytesAt.below hv107 hbw111 hvB
 have hB113 := Below.trans hB109 (hbw111.mono (Nat.le_refl _))
 have ho114 := Own.snoc how111 (y) (rfl)
 refine WL.z rfl rfl ?_
 exact ⟨(_, o ++ [y], d2, s + 2), ⟨rfl, rfl, rfl, lk_i rfl oM, trivial⟩, ⟨hB113, hv112, ho114, (by rw [← hw, he, esc_else _ oO oO oO oO oO oO oO oO]), by ((try simp only) <;> omega), by ((try simp only) <;> omega), by (simp only [List.length_append, List.length_cons, List.length_nil]; omega), by ((try simp only) <;> omega)⟩, by ((try simp only) <;> omega)⟩
end
section
theorem tokenL_e (l : List UInt8) (h : (tokenL l).e ≠ 0) : (tokenL l).ok = true := by
 have hf : ∀ a b c, (finL a b c).e ≠ 0 → (finL a b c).ok = true := by
  intro a b c; unfold finL; repeat' split
  all_goals simp [tokNone, tokGreat, tokInt, tokReal]
 revert h
 unfold tokenL
 split
 ·
  simp [tokNone]
 ·
  split
  ·
   intro; assumption
  ·
   split
   ·
    simp [tokInt]
   ·
    unfold realL2
    split
    ·
     split
     ·
      exact hf _ _ _
     ·
      simp [tokNone]
    ·
     exact hf _ _ _
/-- the token from its first byte on -/
def tokC (c : UInt8) (r : List UInt8) : TokE :=
 if c = 40 then textS (roundS 1 [] r)
 else if c = 41 then .error 14
 else if c = 60 ∨ c = 62 then angleS c r
 else if c = 123 then .ok (⟨7, 0, []⟩, r)
 else if c = 125 then .ok (⟨8, 0, []⟩, r)
 else if c = 91 ∨ c = 93 then .ok (⟨3, 0, [c]⟩, r)
 else if c = 47 then slashS r
 else wordS (c :: r)
theorem tokS_end {l : List UInt8} {n s : Nat} (h : l.drop s = skipS false (l.drop n)) (hs : l.length ≤ s) : tokS (l.drop n) = .ok (⟨0, 0, []⟩, []) := by
 unfold tokS
 rw [← h, List.drop_eq_nil_of_le hs]
theorem tokS_at {l : List UInt8} {n s : Nat} (h : l.drop s = skipS false (l.drop n)) (hs : s < l.length) : tokS (l.drop n) = tokC l[s] (l.drop (s + 1)) := by
 unfold tokS
 rw [← h, List.drop_eq_getElem_cons hs]; rfl
theorem angle_eq {l : List UInt8} {s : Nat} {c d : UInt8} (hc : c ≠ 0) (hd : d = (l[s]?).getD 0) : angleS c (l.drop s) = if d = c then .ok (⟨3, 0, [c, c]⟩, l.drop (s + 1)) else if c = 60 then textS (hexS none [] (l.drop s)) else .error 14 := by
  by_cases h : s < l.length
  · rw [List.drop_eq_getElem_cons h]
    rw [List.getElem?_eq_getElem h] at hd
    obtain rfl : d = l[s] := hd
    rfl
  · rw [List.drop_eq_nil_of_le oO]
    rw [List.getElem?_eq_none oO] at hd
    obtain rfl : d = 0 := hd
    rw [if_neg (fun e => hc e.symm)]; rfl
theorem slash_eq {l : List UInt8} {s : Nat} {d : UInt8} (hd : d = (l[s]?).getD 0) : slashS (l.drop s) = if d = 47 then nameS 5 (l.drop (s + 1)) else nameS 4 (l.drop s) := by
  by_cases h : s < l.length
  · rw [List.drop_eq_getElem_cons h]
    rw [List.getElem?_eq_getElem h] at hd
    obtain rfl : d = l[s] := hd
    rfl
  · rw [List.drop_eq_nil_of_le oO]
    rw [List.getElem?_eq_none oO] at hd
    obtain rfl : d = 0 := hd
    rw [if_neg dD]; rfl
theorem tokC_word {c : UInt8} (r : List UInt8) (h1 : ¬ (c.toNat : Int) = 40) (h2 : ¬ (c.toNat : Int) = 41) (h3 : ¬ (c.toNat : Int) = 60) (h4 : ¬ (c.toNat : Int) = 62) (h5 : ¬ (c.toNat : Int) = 123) (h6 : ¬ (c.toNat : Int) = 125) (h7 : ¬ (c.toNat : Int) = 91)
  (h8 : ¬ (c.toNat : Int) = 93) (h9 : ¬ (c.toNat : Int) = 47) : tokC c r = wordS (c :: r) := by
 unfold tokC
 rw [if_neg (u8_ne (d := 40) h1), if_neg (u8_ne (d := 41) h2), if_neg (not_or.2 ⟨u8_ne (d := 60) h3, u8_ne (d := 62) h4⟩), if_neg (u8_ne (d := 123) h5), if_neg (u8_ne (d := 125) h6), if_neg (not_or.2 ⟨u8_ne (d := 91) h7, u8_ne (d := 93) h8⟩), if_neg (u8_ne (d := 47) h9)]
theorem word_take (l : List UInt8) (s : Nat) : (l.drop s).take (wordAt l s - s) = (l.drop s).takeWhile regB := by
 unfold wordAt
 rw [Nat.add_sub_cancel_left]
 conv => lhs; arg 2; rw [← List.takeWhile_append_dropWhile (p := regB) (l := l.drop s)]
 rw [List.take_left']; rfl
theorem word_drop (l : List UInt8) (s : Nat) : (l.drop s).dropWhile regB = l.drop (wordAt l s) := by
 unfold wordAt
 rw [← List.drop_drop]
 conv => rhs; arg 2; rw [← List.takeWhile_append_dropWhile (p := regB) (l := l.drop s)]
 rw [List.drop_left']; rfl
theorem nameS_at (k : Int) (l : List UInt8) (s : Nat) (hs : s ≤ l.length) : nrOf l (nameS k (l.drop s)) = nameR k l s (wordAt l s) := by
 have h1 := word_take l s
 have h2 := wordAt_le l s hs
 have h3 : ((l.drop s).takeWhile regB).length = wordAt l s - s := by unfold wordAt; omega
 unfold nameS nameR
 rw [h3, word_drop, ← h1]
 split
 ·
  rfl
 ·
  simp only [nrOf, List.length_drop]
  rw [show l.length - (l.length - wordAt l s) = wordAt l s by omega]
theorem nrOf_drop (l : List UInt8) (t : TokV) (k : Nat) (hk : k ≤ l.length) : nrOf l (.ok (t, l.drop k)) = ⟨t.kind, t.n, t.text, k, 0⟩ := by
 simp only [nrOf, List.length_drop]
 rw [show l.length - (l.length - k) = k by omega]
theorem StrOk.cases {w : World} {B : Nat} {l : List UInt8} {o : Option (List UInt8 × List UInt8)} {v : Value} {at' err : Int} (h : StrOk w B l o v at' err) :
  (o = none ∧ err = 14) ∨ ∃ (s : List UInt8) (k : Nat) (q : Option Addr) (cq : Nat), o = some (s, l.drop k) ∧ err = 0 ∧ at' = k ∧ k ≤ l.length ∧ s.length ≤ l.length ∧ v = .slice q s.length cq ∧ BytesAt w q s := by
 unfold StrOk at h
 split at h
 ·
  exact Or.inl ⟨rfl, h⟩
 ·
  next s r =>
  obtain ⟨he, ho, hl, k, hk, hkl, rfl⟩ := h
  obtain ⟨q, cq, hv, hb, -⟩ := ho.bytes
  exact Or.inr ⟨s, k, q, cq, rfl, he, hk, hkl, hl, hv, hb⟩
theorem wordS_at (l : List UInt8) (s : Nat) (hs : s ≤ l.length) (T : TokR) (hT : T = tokenL ((l.drop s).take (wordAt l s - s))) : nrOf l (wordS (l.drop s)) =
  if T.e ≠ 0 then ⟨0, 0, [], 0, T.e⟩ else if T.ok then ⟨T.kind, T.n, [], wordAt l s, 0⟩ else nameR 3 l s (wordAt l s) := by
 rw [word_take] at hT
 have : wordS (l.drop s) = if T.e ≠ 0 then .error T.e else if T.ok then .ok (⟨T.kind, T.n, []⟩, (l.drop s).dropWhile regB) else nameS 3 (l.drop s) := by rw [hT]; rfl
 rw [this]
 split
 ·
  rfl
 ·
  split
  ·
   rw [word_drop, nrOf_drop _ _ _ (wordAt_le l s hs).2]
  ·
   exact nameS_at 3 l s hs
theorem tokC40 (r : List UInt8) : tokC 40 r = textS (roundS 1 [] r) := rfl
theorem tokC41 (r : List UInt8) : tokC 41 r = .error 14 := rfl
theorem tokC60 (r : List UInt8) : tokC 60 r = angleS 60 r := rfl
theorem tokC62 (r : List UInt8) : tokC 62 r = angleS 62 r := rfl
theorem tokC123 (r : List UInt8) : tokC 123 r = .ok (⟨7, 0, []⟩, r) := rfl
theorem tokC125 (r : List UInt8) : tokC 125 r = .ok (⟨8, 0, []⟩, r) := rfl
theorem tokC91 (r : List UInt8) : tokC 91 r = .ok (⟨3, 0, [91]⟩, r) := rfl
theorem tokC93 (r : List UInt8) : tokC 93 r = .ok (⟨3, 0, [93]⟩, r) := rfl
theorem tokC47 (r : List UInt8) : tokC 47 r = slashS r := rfl
/-- the reference's next token from place a on -/
def nextR (l : List UInt8) (a : Int) : NR := if a < 0 ∨ (l.length : Int) < a then ⟨0, 0, [], 0, 21⟩ else nrOf l (tokS (l.drop a.toNat))
theorem ref_Next (a : Int) (p : Option Addr) (l : List UInt8) (c : Nat) (w : World) (hb : BytesAt w p l) (hc : l.length ≤ c) (hl : l.length ≤ 100000000) :
  Calls Tryz.prog 111 #[.slice p l.length c, .int .i64 a] w fun e w' => e = .returned (nextR l a).val ∧ Below w.heap.size w w' := by
 refine W.enter func111 rfl ntmps111 (Nat.le_of_ble_eq_true rfl) ?_
 have hB0 := Below.refl (w.heap.size) w
 refine W.sr <| WL.alloc zeroValue143 rfl (fun b1 wb1 eb1 hkb1 hub1 hsb1 => ?_)
 have hvl3 := fun h0 => eb1 ▸ hb.lt h0
 have hv2 := bup hb hub1 hvl3
 have hB4 := Upd.below hB0 (by rw [eb1]; exact hB0.size) hub1
 have hgeb1 : w.heap.size ≤ b1 := by rw [eb1]; exact hB0.size
 refine WL.a rfl rfl <| WL.z rfl rfl ?_
 refine W.seq <| W.sr <| WL.m rfl rfl <| WL.p (.lss rfl rfl) rfl <| WL.m rfl rfl <| WL.gd rfl rfl rfl (fun g5 => ?_) (fun g5 => ?_)
 have g5' := dF g5
 refine WL.m rfl rfl <| WL.gy rfl rfl rfl g5 <| WL.m rfl rfl <| WL.gy rfl rfl rfl g5 <| WL.p (.lenS underlying22 rfl) rfl <| WL.gy rfl rfl rfl g5 <| WL.p (.gtr rfl rfl) rfl <| WL.p (.pkF rfl g5 rfl) rfl <| WL.nil <| ?_
 refine W.cond rfl (fun h6 => ?_) (fun h6 => ?_)
 have h6' := dT h6
 refine W.sr <| WL.c1 hb154 rfl rfl ((ref_none _ _)) (fun w7 hw7 => ?_)
 have hk8 := hkb1.below hw7 hkb1.lt
 have hB10 := btr hB4 hw7
 refine WL.p (.ext rfl rfl) rfl <| WL.p (.ext rfl rfl) rfl <| WL.p (.ext rfl rfl) rfl <| WL.stL rfl rfl hk8 isz143 rfl rfl (fun w11 hkw11 huw11 hsw11 => ?_)
 have hB13 := Upd.below hB10 oO huw11
 refine WL.a rfl rfl <| WL.z rfl rfl ?_
 refine W.ret (W.retc3 rfl rfl (ldRow hkw11 underlying143 rfl isz143) rfl rfl ?_)
 exact ⟨ret_val (by unfold nextR; rw [if_pos oO]; (first | done | rfl)), hB13⟩
 have h6' := dF h6
 obtain ⟨n, rfl⟩ := Int.eq_ofNat_of_zero_le (a := a) oO
 have hN : nextR l (n : Int) = nrOf l (tokS (l.drop n)) := by unfold nextR; rw [if_neg oO]; rfl
 refine W.skip <| W.sr <| WL.m rfl rfl <| WL.m rfl rfl <| WL.c1 hb14 rfl rfl ((ref_Skip p l c n _ hv2 oO hl)) (fun w14 hw14 => ?_)
 obtain rfl := hw14
 have hsd := skipAt_drop false l n
 have hsl := skipAt_le false l n
 generalize skipAt false l n = s at *
 refine WL.z rfl rfl ?_
 refine W.seq <| W.sr <| WL.m rfl rfl <| WL.m rfl rfl <| WL.p (.lenS underlying22 rfl) rfl <| WL.p (.geq rfl rfl) rfl <| WL.nil <| ?_
 refine W.cond rfl (fun h15 => ?_) (fun h15 => ?_)
 have h15' := dT h15
 refine W.sr <| WL.p (.buildL (ps := _) blt143 rfl rfl rfl pZ) rfl ?_
 refine WL.m rfl rfl <| WL.p (.lenS underlying22 rfl) rfl <| WL.stL rfl rfl hkb1 isz143 rfl rfl (fun w16 hkw16 huw16 hsw16 => ?_)
 have hB18 := Upd.below hB4 oO huw16
 refine WL.a rfl rfl <| WL.z rfl rfl ?_
 refine W.ret (W.retc3 rfl rfl (ldRow hkw16 underlying143 rfl isz143) rfl rfl ?_)
 exact ⟨ret_val (by rw [hN, tokS_end hsd oO]; (first | done | rfl)), hB18⟩
 have h15' := dF h15
 refine W.skip <| W.seq ?_
 have hlt : s < l.length := by omega
 have hT := tokS_at hsd hlt
 obtain ⟨x, hx⟩ : ∃ x, x = l[s]'hlt := ⟨_, rfl⟩
 rw [← hx] at hT
 refine W.reg <| WL.m rfl rfl <| WL.m rfl rfl <| WL.p (.ixb underlying22 sizeOf5 rfl rfl (hv2.isp oO) _ rfl oO) rfl <| WL.r (Rd.iis ((x.toNat : Int)) (Rd.ldc (isAgg5 _) rfl (hv2.cells _ oO)) (by rw [hx])) rfl <| WL.z rfl rfl ?_
 refine W.sr <| WL.z rfl rfl ?_
 refine W.cut (α := UInt8) (fun t => [(0, .slice p l.length c), (1, .int .i64 (s : Int)), (4, .pointer (some ⟨b1, 0, none⟩)), (7, .int .u8 (x.toNat : Int)), (8, .int .u8 (t.toNat : Int))]) (fun t w' => wb1 = w' ∧ t = (l[s + 1]?).getD 0) ?_ (fun t w1 hR => ?_)
 refine W.sr <| WL.m rfl rfl <| WL.p (.add rfl rfl (i64w oO)) rfl <| WL.m rfl rfl <| WL.p (.lenS underlying22 rfl) rfl <| WL.p (.lss rfl rfl) rfl <| WL.nil <| ?_
 refine W.cond rfl (fun h19 => ?_) (fun h19 => ?_)
 have h19' := dT h19
 refine W.reg <| WL.m rfl rfl <| WL.m rfl rfl <| WL.p (.add rfl rfl (i64w oO)) rfl <| WL.p (.ixb underlying22 sizeOf5 rfl rfl (hv2.isp oO) (s + 1) oO oO) rfl <| WL.r (Rd.ldc (isAgg5 _) rfl (hv2.cells (s + 1) oO)) rfl <| WL.z rfl rfl ?_
 exact ⟨l[s + 1]'oO, ⟨rfl, rfl, rfl, rfl, rfl, trivial⟩, rfl, by rw [List.getElem?_eq_getElem oO]; rfl⟩
 have h19' := dF h19
 refine W.skip ?_
 exact ⟨0, ⟨rfl, rfl, rfl, rfl, rfl, trivial⟩, rfl, by rw [List.getElem?_eq_none oO]; rfl⟩
 obtain ⟨y, rfl⟩ : ∃ y, y = t := ⟨t, rfl⟩
 obtain ⟨rfl, hy⟩ := hR
 have hyl : ¬ (y.toNat : Int) = 0 → s + 1 < l.length := fun h => by
  rcases Nat.lt_or_ge (s + 1) l.length with h1 | h1
  exact h1
  rw [List.getElem?_eq_none h1] at hy; subst hy; exact absurd rfl h
 refine W.seq <| W.sr <| WL.m rfl rfl <| WL.nil <| ?_
 refine W.block <| W.seq <| W.sr <| WL.p (.eql rfl rfl) rfl <| WL.z rfl rfl ?_
 refine W.cond rfl (fun h20 => ?_) (fun h20 => ?_)
 have h20' := dT h20
 refine W.skip <| W.condT rfl h20 ?_
 refine W.seq <| W.sr <| WL.m rfl rfl <| WL.p (.eql rfl rfl) rfl <| WL.m rfl rfl <| WL.gd rfl rfl rfl (fun g21 => ?_) (fun g21 => ?_)
 have g21' := dT g21
 refine WL.m rfl rfl <| WL.gy rfl rfl rfl g21 <| WL.p (.eql rfl rfl) rfl <| WL.p (.pkT rfl g21 rfl) rfl <| WL.nil <| ?_
 refine W.cond rfl (fun h22 => ?_) (fun h22 => ?_)
 have h22' := dT h22
 refine W.sr <| WL.p (.buildL (ps := _) blt143 rfl rfl rfl pS) rfl ?_
 refine WL.m rfl rfl <| WL.p (.iis (((s + 1 + 1 : Nat) : Int)) (.add rfl rfl (i64w oO)) oO) rfl <| WL.stL rfl rfl hkb1 isz143 rfl rfl (fun w23 hkw23 huw23 hsw23 => ?_)
 have hB25 := Upd.below hB4 oO huw23
 refine WL.a rfl rfl <| WL.z rfl rfl ?_
 refine W.ret (W.retc3 rfl rfl (ldRow hkw23 underlying143 rfl isz143) rfl rfl ?_)
 exact ⟨ret_val (by rw [hN, hT, show x = 60 from u8_eq aS, tokC60, angle_eq dD hy, if_pos (show y = 60 from u8_eq aS), nrOf_drop _ _ _ oO]; (first | done | rfl)), hB25⟩
 have h22' := dF h22
 refine W.skip <| W.sr <| WL.z rfl rfl ?_
 refine W.sr <| WL.z rfl rfl ?_
 refine W.sr <| WL.z rfl rfl ?_
 refine W.seq <| W.sr <| WL.m rfl rfl <| WL.p (.eql rfl rfl) rfl <| WL.nil <| ?_
 refine W.cond rfl (fun h26 => ?_) (fun h26 => ?_)
 have h26' := dT h26
 have hX : nextR l (n : Int) = nrOf l (textS (roundS 1 [] (l.drop (s + 1)))) := by rw [hN, hT, show x = 40 from u8_eq aS, tokC40]
 refine W.reg <| WL.m rfl rfl <| WL.m rfl rfl <| WL.call hb155 rfl rfl ((ref_Round p l c s _ hv2 oO hl)) (fun v w27 hw27 => ?_)
 have hk28 := hkb1.below hw27.1 hkb1.lt
 have hB30 := btr hB4 hw27.1
 obtain ⟨u, at1, err1, rfl, hso⟩ := hw27.2
 refine WL.m rfl rfl <| WL.p (.ext rfl rfl) rfl <| WL.p (.ext rfl rfl) rfl <| WL.p (.ext rfl rfl) rfl <| WL.a rfl rfl <| WL.a rfl rfl <| WL.z rfl rfl ?_
 refine W.seq <| W.sr <| WL.m rfl rfl <| WL.p (.neq rfl rfl) rfl <| WL.nil <| ?_
 refine W.cond rfl (fun h31 => ?_) (fun h31 => ?_)
 have h31' := ndT h31
 obtain ⟨ho, rfl⟩ := hso.cases.resolve_right (fun h => by obtain ⟨_, _, _, _, _, h0, _⟩ := h; omega)
 refine W.sr <| WL.m rfl rfl <| WL.c1 hb154 rfl rfl ((ref_none _ _)) (fun w32 hw32 => ?_)
 have hk33 := hk28.below hw32 hk28.lt
 have hB35 := btr hB30 hw32
 refine WL.p (.ext rfl rfl) rfl <| WL.p (.ext rfl rfl) rfl <| WL.p (.ext rfl rfl) rfl <| WL.stL rfl rfl hk33 isz143 rfl rfl (fun w36 hkw36 huw36 hsw36 => ?_)
 have hB38 := Upd.below hB35 oO huw36
 refine WL.a rfl rfl <| WL.z rfl rfl ?_
 refine W.ret (W.retc3 rfl rfl (ldRow hkw36 underlying143 rfl isz143) rfl rfl ?_)
 exact ⟨ret_val (by rw [hX, ho]; (first | done | rfl)), hB38⟩
 have h31' := ndF h31
 obtain ⟨s1, k, q, cq, ho, rfl, rfl, hk, hs1, rfl, hq⟩ := hso.cases.resolve_left (fun h => by have := h.2; omega)
 refine W.skip <| W.seq <| W.sr <| WL.m rfl rfl <| WL.p (.lenS underlying22 rfl) rfl <| WL.p (.gtr rfl rfl) rfl <| WL.nil <| ?_
 refine W.cond rfl (fun h39 => ?_) (fun h39 => ?_)
 have h39' := dT h39
 refine W.sr <| WL.c1 hb154 rfl rfl ((ref_none _ _)) (fun w40 hw40 => ?_)
 have hk41 := hk28.below hw40 hk28.lt
 have hB43 := btr hB30 hw40
 refine WL.p (.ext rfl rfl) rfl <| WL.p (.ext rfl rfl) rfl <| WL.p (.ext rfl rfl) rfl <| WL.stL rfl rfl hk41 isz143 rfl rfl (fun w44 hkw44 huw44 hsw44 => ?_)
 have hB46 := Upd.below hB43 oO huw44
 refine WL.a rfl rfl <| WL.z rfl rfl ?_
 refine W.ret (W.retc3 rfl rfl (ldRow hkw44 underlying143 rfl isz143) rfl rfl ?_)
 exact ⟨ret_val (by rw [hX, ho]; simp only [textS]; rw [if_pos oO]; (first | done | rfl)), hB46⟩
 have h39' := dF h39
 refine W.skip <| W.sr <| WL.m rfl rfl <| WL.r (Rd.b2s (l := s1) underlying22 underlying5 underlying9 rfl (hq)) rfl <| ?_
 refine WL.p (.buildL (ps := _) blt143 rfl rfl rfl pS) rfl ?_
 refine WL.m rfl rfl <| WL.stL rfl rfl hk28 isz143 rfl rfl (fun w47 hkw47 huw47 hsw47 => ?_)
 have hB49 := Upd.below hB30 oO huw47
 refine WL.a rfl rfl <| WL.z rfl rfl ?_
 refine W.ret (W.retc3 rfl rfl (ldRow hkw47 underlying143 rfl isz143) rfl rfl ?_)
 exact ⟨ret_val (by rw [hX, ho]; simp only [textS]; rw [if_neg oO, nrOf_drop _ _ _ hk]; (first | done | rfl)), hB49⟩
 have h26' := dF h26
 have hX : nextR l (n : Int) = nrOf l (textS (hexS none [] (l.drop (s + 1)))) := by
  (exfalso; omega)
 refine W.reg <| WL.m rfl rfl <| WL.m rfl rfl <| WL.call hb156 rfl rfl ((ref_HexS p l c s _ hv2 oO hl)) (fun v w50 hw50 => ?_)
 have hk51 := hkb1.below hw50.1 hkb1.lt
 have hB53 := btr hB4 hw50.1
 obtain ⟨u, at1, err1, rfl, hso⟩ := hw50.2
 refine WL.m rfl rfl <| WL.p (.ext rfl rfl) rfl <| WL.p (.ext rfl rfl) rfl <| WL.p (.ext rfl rfl) rfl <| WL.a rfl rfl <| WL.a rfl rfl <| WL.z rfl rfl ?_
 refine W.seq <| W.sr <| WL.m rfl rfl <| WL.p (.neq rfl rfl) rfl <| WL.nil <| ?_
 refine W.cond rfl (fun h54 => ?_) (fun h54 => ?_)
 have h54' := ndT h54
 obtain ⟨ho, rfl⟩ := hso.cases.resolve_right (fun h => by obtain ⟨_, _, _, _, _, h0, _⟩ := h; omega)
 refine W.sr <| WL.m rfl rfl <| WL.c1 hb154 rfl rfl ((ref_none _ _)) (fun w55 hw55 => ?_)
 have hk56 := hk51.below hw55 hk51.lt
 have hB58 := btr hB53 hw55
 refine WL.p (.ext rfl rfl) rfl <| WL.p (.ext rfl rfl) rfl <| WL.p (.ext rfl rfl) rfl <| WL.stL rfl rfl hk56 isz143 rfl rfl (fun w59 hkw59 huw59 hsw59 => ?_)
 have hB61 := Upd.below hB58 oO huw59
 refine WL.a rfl rfl <| WL.z rfl rfl ?_
 refine W.ret (W.retc3 rfl rfl (ldRow hkw59 underlying143 rfl isz143) rfl rfl ?_)
 exact ⟨ret_val (by rw [hX, ho]; (first | done | rfl)), hB61⟩
 have h54' := ndF h54
 obtain ⟨s1, k, q, cq, ho, rfl, rfl, hk, hs1, rfl, hq⟩ := hso.cases.resolve_left (fun h => by have := h.2; omega)
 refine W.skip <| W.seq <| W.sr <| WL.m rfl rfl <| WL.p (.lenS underlying22 rfl) rfl <| WL.p (.gtr rfl rfl) rfl <| WL.nil <| ?_
 refine W.cond rfl (fun h62 => ?_) (fun h62 => ?_)
 have h62' := dT h62
 refine W.sr <| WL.c1 hb154 rfl rfl ((ref_none _ _)) (fun w63 hw63 => ?_)
 have hk64 := hk51.below hw63 hk51.lt
 have hB66 := btr hB53 hw63
 refine WL.p (.ext rfl rfl) rfl <| WL.p (.ext rfl rfl) rfl <| WL.p (.ext rfl rfl) rfl <| WL.stL rfl rfl hk64 isz143 rfl rfl (fun w67 hkw67 huw67 hsw67 => ?_)
 have hB69 := Upd.below hB66 oO huw67
 refine WL.a rfl rfl <| WL.z rfl rfl ?_
 refine W.ret (W.retc3 rfl rfl (ldRow hkw67 underlying143 rfl isz143) rfl rfl ?_)
 exact ⟨ret_val (by rw [hX, ho]; simp only [textS]; rw [if_pos oO]; (first | done | rfl)), hB69⟩
 have h62' := dF h62
 refine W.skip <| W.sr <| WL.m rfl rfl <| WL.r (Rd.b2s (l := s1) underlying22 underlying5 underlying9 rfl (hq)) rfl <| ?_
 refine WL.p (.buildL (ps := _) blt143 rfl rfl rfl pS) rfl ?_
 refine WL.m rfl rfl <| WL.stL rfl rfl hk51 isz143 rfl rfl (fun w70 hkw70 huw70 hsw70 => ?_)
 have hB72 := Upd.below hB53 oO huw70
 refine WL.a rfl rfl <| WL.z rfl rfl ?_
 refine W.ret (W.retc3 rfl rfl (ldRow hkw70 underlying143 rfl isz143) rfl rfl ?_)
 exact ⟨ret_val (by rw [hX, ho]; simp only [textS]; rw [if_neg oO, nrOf_drop _ _ _ hk]; (first | done | rfl)), hB72⟩
 have g21' := dF g21
 refine WL.gn rfl rfl rfl g21 <| WL.p (.pkF rfl g21 rfl) rfl <| WL.nil <| ?_
 refine W.condF rfl rfl ?_
 refine W.skip <| W.sr <| WL.z rfl rfl ?_
 refine W.sr <| WL.z rfl rfl ?_
 refine W.sr <| WL.z rfl rfl ?_
 refine W.seq <| W.sr <| WL.m rfl rfl <| WL.p (.eql rfl rfl) rfl <| WL.nil <| ?_
 refine W.cond rfl (fun h73 => ?_) (fun h73 => ?_)
 have h73' := dT h73
 have hX : nextR l (n : Int) = nrOf l (textS (roundS 1 [] (l.drop (s + 1)))) := by rw [hN, hT, show x = 40 from u8_eq aS, tokC40]
 refine W.reg <| WL.m rfl rfl <| WL.m rfl rfl <| WL.call hb155 rfl rfl ((ref_Round p l c s _ hv2 oO hl)) (fun v w74 hw74 => ?_)
 have hk75 := hkb1.below hw74.1 hkb1.lt
 have hB77 := btr hB4 hw74.1
 obtain ⟨u, at1, err1, rfl, hso⟩ := hw74.2
 refine WL.m rfl rfl <| WL.p (.ext rfl rfl) rfl <| WL.p (.ext rfl rfl) rfl <| WL.p (.ext rfl rfl) rfl <| WL.a rfl rfl <| WL.a rfl rfl <| WL.z rfl rfl ?_
 refine W.seq <| W.sr <| WL.m rfl rfl <| WL.p (.neq rfl rfl) rfl <| WL.nil <| ?_
 refine W.cond rfl (fun h78 => ?_) (fun h78 => ?_)
 have h78' := ndT h78
 obtain ⟨ho, rfl⟩ := hso.cases.resolve_right (fun h => by obtain ⟨_, _, _, _, _, h0, _⟩ := h; omega)
 refine W.sr <| WL.m rfl rfl <| WL.c1 hb154 rfl rfl ((ref_none _ _)) (fun w79 hw79 => ?_)
 have hk80 := hk75.below hw79 hk75.lt
 have hB82 := btr hB77 hw79
 refine WL.p (.ext rfl rfl) rfl <| WL.p (.ext rfl rfl) rfl <| WL.p (.ext rfl rfl) rfl <| WL.stL rfl rfl hk80 isz143 rfl rfl (fun w83 hkw83 huw83 hsw83 => ?_)
 have hB85 := Upd.below hB82 oO huw83
 refine WL.a rfl rfl <| WL.z rfl rfl ?_
 refine W.ret (W.retc3 rfl rfl (ldRow hkw83 underlying143 rfl isz143) rfl rfl ?_)
 exact ⟨ret_val (by rw [hX, ho]; (first | done | rfl)), hB85⟩
 have h78' := ndF h78
 obtain ⟨s1, k, q, cq, ho, rfl, rfl, hk, hs1, rfl, hq⟩ := hso.cases.resolve_left (fun h => by have := h.2; omega)
 refine W.skip <| W.seq <| W.sr <| WL.m rfl rfl <| WL.p (.lenS underlying22 rfl) rfl <| WL.p (.gtr rfl rfl) rfl <| WL.nil <| ?_
 refine W.cond rfl (fun h86 => ?_) (fun h86 => ?_)
 have h86' := dT h86
 refine W.sr <| WL.c1 hb154 rfl rfl ((ref_none _ _)) (fun w87 hw87 => ?_)
 have hk88 := hk75.below hw87 hk75.lt
 have hB90 := btr hB77 hw87
 refine WL.p (.ext rfl rfl) rfl <| WL.p (.ext rfl rfl) rfl <| WL.p (.ext rfl rfl) rfl <| WL.stL rfl rfl hk88 isz143 rfl rfl (fun w91 hkw91 huw91 hsw91 => ?_)
 have hB93 := Upd.below hB90 oO huw91
 refine WL.a rfl rfl <| WL.z rfl rfl ?_
 refine W.ret (W.retc3 rfl rfl (ldRow hkw91 underlying143 rfl isz143) rfl rfl ?_)
 exact ⟨ret_val (by rw [hX, ho]; simp only [textS]; rw [if_pos oO]; (first | done | rfl)), hB93⟩
 have h86' := dF h86
 refine W.skip <| W.sr <| WL.m rfl rfl <| WL.r (Rd.b2s (l := s1) underlying22 underlying5 underlying9 rfl (hq)) rfl <| ?_
 refine WL.p (.buildL (ps := _) blt143 rfl rfl rfl pS) rfl ?_
 refine WL.m rfl rfl <| WL.stL rfl rfl hk75 isz143 rfl rfl (fun w94 hkw94 huw94 hsw94 => ?_)
 have hB96 := Upd.below hB77 oO huw94
 refine WL.a rfl rfl <| WL.z rfl rfl ?_
 refine W.ret (W.retc3 rfl rfl (ldRow hkw94 underlying143 rfl isz143) rfl rfl ?_)
 exact ⟨ret_val (by rw [hX, ho]; simp only [textS]; rw [if_neg oO, nrOf_drop _ _ _ hk]; (first | done | rfl)), hB96⟩
 have h73' := dF h73
 have hX : nextR l (n : Int) = nrOf l (textS (hexS none [] (l.drop (s + 1)))) := by
  (exfalso; omega)
 refine W.reg <| WL.m rfl rfl <| WL.m rfl rfl <| WL.call hb156 rfl rfl ((ref_HexS p l c s _ hv2 oO hl)) (fun v w97 hw97 => ?_)
 have hk98 := hkb1.below hw97.1 hkb1.lt
 have hB100 := btr hB4 hw97.1
 obtain ⟨u, at1, err1, rfl, hso⟩ := hw97.2
 refine WL.m rfl rfl <| WL.p (.ext rfl rfl) rfl <| WL.p (.ext rfl rfl) rfl <| WL.p (.ext rfl rfl) rfl <| WL.a rfl rfl <| WL.a rfl rfl <| WL.z rfl rfl ?_
 refine W.seq <| W.sr <| WL.m rfl rfl <| WL.p (.neq rfl rfl) rfl <| WL.nil <| ?_
 refine W.cond rfl (fun h101 => ?_) (fun h101 => ?_)
 have h101' := ndT h101
 obtain ⟨ho, rfl⟩ := hso.cases.resolve_right (fun h => by obtain ⟨_, _, _, _, _, h0, _⟩ := h; omega)
 refine W.sr <| WL.m rfl rfl <| WL.c1 hb154 rfl rfl ((ref_none _ _)) (fun w102 hw102 => ?_)
 have hk103 := hk98.below hw102 hk98.lt
 have hB105 := btr hB100 hw102
 refine WL.p (.ext rfl rfl) rfl <| WL.p (.ext rfl rfl) rfl <| WL.p (.ext rfl rfl) rfl <| WL.stL rfl rfl hk103 isz143 rfl rfl (fun w106 hkw106 huw106 hsw106 => ?_)
 have hB108 := Upd.below hB105 oO huw106
 refine WL.a rfl rfl <| WL.z rfl rfl ?_
 refine W.ret (W.retc3 rfl rfl (ldRow hkw106 underlying143 rfl isz143) rfl rfl ?_)
 exact ⟨ret_val (by rw [hX, ho]; (first | done | rfl)), hB108⟩
 have h101' := ndF h101
 obtain ⟨s1, k, q, cq, ho, rfl, rfl, hk, hs1, rfl, hq⟩ := hso.cases.resolve_left (fun h => by have := h.2; omega)
 refine W.skip <| W.seq <| W.sr <| WL.m rfl rfl <| WL.p (.lenS underlying22 rfl) rfl <| WL.p (.gtr rfl rfl) rfl <| WL.nil <| ?_
 refine W.cond rfl (fun h109 => ?_) (fun h109 => ?_)
 have h109' := dT h109
 refine W.sr <| WL.c1 hb154 rfl rfl ((ref_none _ _)) (fun w110 hw110 => ?_)
 have hk111 := hk98.below hw110 hk98.lt
 have hB113 := btr hB100 hw110
 refine WL.p (.ext rfl rfl) rfl <| WL.p (.ext rfl rfl) rfl <| WL.p (.ext rfl rfl) rfl <| WL.stL rfl rfl hk111 isz143 rfl rfl (fun w114 hkw114 huw114 hsw114 => ?_)
 have hB116 := Upd.below hB113 oO huw114
 refine WL.a rfl rfl <| WL.z rfl rfl ?_
 refine W.ret (W.retc3 rfl rfl (ldRow hkw114 underlying143 rfl isz143) rfl rfl ?_)
 exact ⟨ret_val (by rw [hX, ho]; simp only [textS]; rw [if_pos oO]; (first | done | rfl)), hB116⟩
 have h109' := dF h109
 refine W.skip <| W.sr <| WL.m rfl rfl <| WL.r (Rd.b2s (l := s1) underlying22 underlying5 underlying9 rfl (hq)) rfl <| ?_
 refine WL.p (.buildL (ps := _) blt143 rfl rfl rfl pS) rfl ?_
 refine WL.m rfl rfl <| WL.stL rfl rfl hk98 isz143 rfl rfl (fun w117 hkw117 huw117 hsw117 => ?_)
 have hB119 := Upd.below hB100 oO huw117
 refine WL.a rfl rfl <| WL.z rfl rfl ?_
 refine W.ret (W.retc3 rfl rfl (ldRow hkw117 underlying143 rfl isz143) rfl rfl ?_)
 exact ⟨ret_val (by rw [hX, ho]; simp only [textS]; rw [if_neg oO, nrOf_drop _ _ _ hk]; (first | done | rfl)), hB119⟩
 have h20' := dF h20
 refine W.reg <| WL.p (.eql rfl rfl) rfl <| WL.z rfl rfl ?_
 refine W.cond rfl (fun h120 => ?_) (fun h120 => ?_)
 have h120' := dT h120
 refine W.seq <| W.sr <| WL.m rfl rfl <| WL.p (.eql rfl rfl) rfl <| WL.m rfl rfl <| WL.gd rfl rfl rfl (fun g121 => ?_) (fun g121 => ?_)
 have g121' := dT g121
 refine WL.m rfl rfl <| WL.gy rfl rfl rfl g121 <| WL.p (.eql rfl rfl) rfl <| WL.p (.pkT rfl g121 rfl) rfl <| WL.nil <| ?_
 refine W.cond rfl (fun h122 => ?_) (fun h122 => ?_)
 have h122' := dT h122
 refine W.sr <| WL.p (.buildL (ps := _) blt143 rfl rfl rfl pS) rfl ?_
 refine WL.m rfl rfl <| WL.p (.iis (((s + 1 + 1 : Nat) : Int)) (.add rfl rfl (i64w oO)) oO) rfl <| WL.stL rfl rfl hkb1 isz143 rfl rfl (fun w123 hkw123 huw123 hsw123 => ?_)
 have hB125 := Upd.below hB4 oO huw123
 refine WL.a rfl rfl <| WL.z rfl rfl ?_
 refine W.ret (W.retc3 rfl rfl (ldRow hkw123 underlying143 rfl isz143) rfl rfl ?_)
 exact ⟨ret_val (by rw [hN, hT, show x = 60 from u8_eq aS, tokC60, angle_eq dD hy, if_pos (show y = 60 from u8_eq aS), nrOf_drop _ _ _ oO]; (first | done | rfl)), hB125⟩
 have h122' := dF h122
 refine W.skip <| W.sr <| WL.z rfl rfl ?_
 refine W.sr <| WL.z rfl rfl ?_
 refine W.sr <| WL.z rfl rfl ?_
 refine W.seq <| W.sr <| WL.m rfl rfl <| WL.p (.eql rfl rfl) rfl <| WL.nil <| ?_
 refine W.cond rfl (fun h126 => ?_) (fun h126 => ?_)
 have h126' := dT h126
 have hX : nextR l (n : Int) = nrOf l (textS (roundS 1 [] (l.drop (s + 1)))) := by rw [hN, hT, show x = 40 from u8_eq aS, tokC40]
 refine W.reg <| WL.m rfl rfl <| WL.m rfl rfl <| WL.call hb155 rfl rfl ((ref_Round p l c s _ hv2 oO hl)) (fun v w127 hw127 => ?_)
 have hk128 := hkb1.below hw127.1 hkb1.lt
 have hB130 := btr hB4 hw127.1
 obtain ⟨u, at1, err1, rfl, hso⟩ := hw127.2
 refine WL.m rfl rfl <| WL.p (.ext rfl rfl) rfl <| WL.p (.ext rfl rfl) rfl <| WL.p (.ext rfl rfl) rfl <| WL.a rfl rfl <| WL.a rfl rfl <| WL.z rfl rfl ?_
 refine W.seq <| W.sr <| WL.m rfl rfl <| WL.p (.neq rfl rfl) rfl <| WL.nil <| ?_
 refine W.cond rfl (fun h131 => ?_) (fun h131 => ?_)
 have h131' := ndT h131
 obtain ⟨ho, rfl⟩ := hso.cases.resolve_right (fun h => by obtain ⟨_, _, _, _, _, h0, _⟩ := h; omega)
 refine W.sr <| WL.m rfl rfl <| WL.c1 hb154 rfl rfl ((ref_none _ _)) (fun w132 hw132 => ?_)
 have hk133 := hk128.below hw132 hk128.lt
 have hB135 := btr hB130 hw132
 refine WL.p (.ext rfl rfl) rfl <| WL.p (.ext rfl rfl) rfl <| WL.p (.ext rfl rfl) rfl <| WL.stL rfl rfl hk133 isz143 rfl rfl (fun w136 hkw136 huw136 hsw136 => ?_)
 have hB138 := Upd.below hB135 oO huw136
 refine WL.a rfl rfl <| WL.z rfl rfl ?_
 refine W.ret (W.retc3 rfl rfl (ldRow hkw136 underlying143 rfl isz143) rfl rfl ?_)
 exact ⟨ret_val (by rw [hX, ho]; (first | done | rfl)), hB138⟩
 have h131' := ndF h131
 obtain ⟨s1, k, q, cq, ho, rfl, rfl, hk, hs1, rfl, hq⟩ := hso.cases.resolve_left (fun h => by have := h.2; omega)
 refine W.skip <| W.seq <| W.sr <| WL.m rfl rfl <| WL.p (.lenS underlying22 rfl) rfl <| WL.p (.gtr rfl rfl) rfl <| WL.nil <| ?_
 refine W.cond rfl (fun h139 => ?_) (fun h139 => ?_)
 have h139' := dT h139
 refine W.sr <| WL.c1 hb154 rfl rfl ((ref_none _ _)) (fun w140 hw140 => ?_)
 have hk141 := hk128.below hw140 hk128.lt
 have hB143 := btr hB130 hw140
 refine WL.p (.ext rfl rfl) rfl <| WL.p (.ext rfl rfl) rfl <| WL.p (.ext rfl rfl) rfl <| WL.stL rfl rfl hk141 isz143 rfl rfl (fun w144 hkw144 huw144 hsw144 => ?_)
 have hB146 := Upd.below hB143 oO huw144
 refine WL.a rfl rfl <| WL.z rfl rfl ?_
 refine W.ret (W.retc3 rfl rfl (ldRow hkw144 underlying143 rfl isz143) rfl rfl ?_)
 exact ⟨ret_val (by rw [hX, ho]; simp only [textS]; rw [if_pos oO]; (first | done | rfl)), hB146⟩
 have h139' := dF h139
 refine W.skip <| W.sr <| WL.m rfl rfl <| WL.r (Rd.b2s (l := s1) underlying22 underlying5 underlying9 rfl (hq)) rfl <| ?_
 refine WL.p (.buildL (ps := _) blt143 rfl rfl rfl pS) rfl ?_
 refine WL.m rfl rfl <| WL.stL rfl rfl hk128 isz143 rfl rfl (fun w147 hkw147 huw147 hsw147 => ?_)
 have hB149 := Upd.below hB130 oO huw147
 refine WL.a rfl rfl <| WL.z rfl rfl ?_
 refine W.ret (W.retc3 rfl rfl (ldRow hkw147 underlying143 rfl isz143) rfl rfl ?_)
 exact ⟨ret_val (by rw [hX, ho]; simp only [textS]; rw [if_neg oO, nrOf_drop _ _ _ hk]; (first | done | rfl)), hB149⟩
 have h126' := dF h126
 have hX : nextR l (n : Int) = nrOf l (textS (hexS none [] (l.drop (s + 1)))) := by
  rw [hN, hT, show x = 60 from u8_eq aS, tokC60, angle_eq dD hy, if_neg (u8_ne (d := 60) (show ¬ (y.toNat : Int) = 60 from by omega)), if_pos rfl]
 refine W.reg <| WL.m rfl rfl <| WL.m rfl rfl <| WL.call hb156 rfl rfl ((ref_HexS p l c s _ hv2 oO hl)) (fun v w150 hw150 => ?_)
 have hk151 := hkb1.below hw150.1 hkb1.lt
 have hB153 := btr hB4 hw150.1
 obtain ⟨u, at1, err1, rfl, hso⟩ := hw150.2
 refine WL.m rfl rfl <| WL.p (.ext rfl rfl) rfl <| WL.p (.ext rfl rfl) rfl <| WL.p (.ext rfl rfl) rfl <| WL.a rfl rfl <| WL.a rfl rfl <| WL.z rfl rfl ?_
 refine W.seq <| W.sr <| WL.m rfl rfl <| WL.p (.neq rfl rfl) rfl <| WL.nil <| ?_
 refine W.cond rfl (fun h154 => ?_) (fun h154 => ?_)
 have h154' := ndT h154
 obtain ⟨ho, rfl⟩ := hso.cases.resolve_right (fun h => by obtain ⟨_, _, _, _, _, h0, _⟩ := h; omega)
 refine W.sr <| WL.m rfl rfl <| WL.c1 hb154 rfl rfl ((ref_none _ _)) (fun w155 hw155 => ?_)
 have hk156 := hk151.below hw155 hk151.lt
 have hB158 := btr hB153 hw155
 refine WL.p (.ext rfl rfl) rfl <| WL.p (.ext rfl rfl) rfl <| WL.p (.ext rfl rfl) rfl <| WL.stL rfl rfl hk156 isz143 rfl rfl (fun w159 hkw159 huw159 hsw159 => ?_)
 have hB161 := Upd.below hB158 oO huw159
 refine WL.a rfl rfl <| WL.z rfl rfl ?_
 refine W.ret (W.retc3 rfl rfl (ldRow hkw159 underlying143 rfl isz143) rfl rfl ?_)
 exact ⟨ret_val (by rw [hX, ho]; (first | done | rfl)), hB161⟩
 have h154' := ndF h154
 obtain ⟨s1, k, q, cq, ho, rfl, rfl, hk, hs1, rfl, hq⟩ := hso.cases.resolve_left (fun h => by have := h.2; omega)
 refine W.skip <| W.seq <| W.sr <| WL.m rfl rfl <| WL.p (.lenS underlying22 rfl) rfl <| WL.p (.gtr rfl rfl) rfl <| WL.nil <| ?_
 refine W.cond rfl (fun h162 => ?_) (fun h162 => ?_)
 have h162' := dT h162
 refine W.sr <| WL.c1 hb154 rfl rfl ((ref_none _ _)) (fun w163 hw163 => ?_)
 have hk164 := hk151.below hw163 hk151.lt
 have hB166 := btr hB153 hw163
 refine WL.p (.ext rfl rfl) rfl <| WL.p (.ext rfl rfl) rfl <| WL.p (.ext rfl rfl) rfl <| WL.stL rfl rfl hk164 isz143 rfl rfl (fun w167 hkw167 huw167 hsw167 => ?_)
 have hB169 := Upd.below hB166 oO huw167
 refine WL.a rfl rfl <| WL.z rfl rfl ?_
 refine W.ret (W.retc3 rfl rfl (ldRow hkw167 underlying143 rfl isz143) rfl rfl ?_)
 exact ⟨ret_val (by rw [hX, ho]; simp only [textS]; rw [if_pos oO]; (first | done | rfl)), hB169⟩
 have h162' := dF h162
 refine W.skip <| W.sr <| WL.m rfl rfl <| WL.r (Rd.b2s (l := s1) underlying22 underlying5 underlying9 rfl (hq)) rfl <| ?_
 refine WL.p (.buildL (ps := _) blt143 rfl rfl rfl pS) rfl ?_
 refine WL.m rfl rfl <| WL.stL rfl rfl hk151 isz143 rfl rfl (fun w170 hkw170 huw170 hsw170 => ?_)
 have hB172 := Upd.below hB153 oO huw170
 refine WL.a rfl rfl <| WL.z rfl rfl ?_
 refine W.ret (W.retc3 rfl rfl (ldRow hkw170 underlying143 rfl isz143) rfl rfl ?_)
 exact ⟨ret_val (by rw [hX, ho]; simp only [textS]; rw [if_neg oO, nrOf_drop _ _ _ hk]; (first | done | rfl)), hB172⟩
 have g121' := dF g121
 refine WL.gn rfl rfl rfl g121 <| WL.p (.pkF rfl g121 rfl) rfl <| WL.nil <| ?_
 refine W.condF rfl rfl ?_
 refine W.skip <| W.sr <| WL.z rfl rfl ?_
 refine W.sr <| WL.z rfl rfl ?_
 refine W.sr <| WL.z rfl rfl ?_
 refine W.seq <| W.sr <| WL.m rfl rfl <| WL.p (.eql rfl rfl) rfl <| WL.nil <| ?_
 refine W.cond rfl (fun h173 => ?_) (fun h173 => ?_)
 have h173' := dT h173
 have hX : nextR l (n : Int) = nrOf l (textS (roundS 1 [] (l.drop (s + 1)))) := by rw [hN, hT, show x = 40 from u8_eq aS, tokC40]
 refine W.reg <| WL.m rfl rfl <| WL.m rfl rfl <| WL.call hb155 rfl rfl ((ref_Round p l c s _ hv2 oO hl)) (fun v w174 hw174 => ?_)
 have hk175 := hkb1.below hw174.1 hkb1.lt
 have hB177 := btr hB4 hw174.1
 obtain ⟨u, at1, err1, rfl, hso⟩ := hw174.2
 refine WL.m rfl rfl <| WL.p (.ext rfl rfl) rfl <| WL.p (.ext rfl rfl) rfl <| WL.p (.ext rfl rfl) rfl <| WL.a rfl rfl <| WL.a rfl rfl <| WL.z rfl rfl ?_
 refine W.seq <| W.sr <| WL.m rfl rfl <| WL.p (.neq rfl rfl) rfl <| WL.nil <| ?_
 refine W.cond rfl (fun h178 => ?_) (fun h178 => ?_)
 have h178' := ndT h178
 obtain ⟨ho, rfl⟩ := hso.cases.resolve_right (fun h => by obtain ⟨_, _, _, _, _, h0, _⟩ := h; omega)
 refine W.sr <| WL.m rfl rfl <| WL.c1 hb154 rfl rfl ((ref_none _ _)) (fun w179 hw179 => ?_)
 have hk180 := hk175.below hw179 hk175.lt
 have hB182 := btr hB177 hw179
 refine WL.p (.ext rfl rfl) rfl <| WL.p (.ext rfl rfl) rfl <| WL.p (.ext rfl rfl) rfl <| WL.stL rfl rfl hk180 isz143 rfl rfl (fun w183 hkw183 huw183 hsw183 => ?_)
 have hB185 := Upd.below hB182 oO huw183
 refine WL.a rfl rfl <| WL.z rfl rfl ?_
 refine W.ret (W.retc3 rfl rfl (ldRow hkw183 underlying143 rfl isz143) rfl rfl ?_)
 exact ⟨ret_val (by rw [hX, ho]; (first | done | rfl)), hB185⟩
 have h178' := ndF h178
 obtain ⟨s1, k, q, cq, ho, rfl, rfl, hk, hs1, rfl, hq⟩ := hso.cases.resolve_left (fun h => by have := h.2; omega)
 refine W.skip <| W.seq <| W.sr <| WL.m rfl rfl <| WL.p (.lenS underlying22 rfl) rfl <| WL.p (.gtr rfl rfl) rfl <| WL.nil <| ?_
 refine W.cond rfl (fun h186 => ?_) (fun h186 => ?_)
 have h186' := dT h186
 refine W.sr <| WL.c1 hb154 rfl rfl ((ref_none _ _)) (fun w187 hw187 => ?_)
 have hk188 := hk175.below hw187 hk175.lt
 have hB190 := btr hB177 hw187
 refine WL.p (.ext rfl rfl) rfl <| WL.p (.ext rfl rfl) rfl <| WL.p (.ext rfl rfl) rfl <| WL.stL rfl rfl hk188 isz143 rfl rfl (fun w191 hkw191 huw191 hsw191 => ?_)
 have hB193 := Upd.below hB190 oO huw191
 refine WL.a rfl rfl <| WL.z rfl rfl ?_
 refine W.ret (W.retc3 rfl rfl (ldRow hkw191 underlying143 rfl isz143) rfl rfl ?_)
 exact ⟨ret_val (by rw [hX, ho]; simp only [textS]; rw [if_pos oO]; (first | done | rfl)), hB193⟩
 have h186' := dF h186
 refine W.skip <| W.sr <| WL.m rfl rfl <| WL.r (Rd.b2s (l := s1) underlying22 underlying5 underlying9 rfl (hq)) rfl <| ?_
 refine WL.p (.buildL (ps := _) blt143 rfl rfl rfl pS) rfl ?_
 refine WL.m rfl rfl <| WL.stL rfl rfl hk175 isz143 rfl rfl (fun w194 hkw194 huw194 hsw194 => ?_)
 have hB196 := Upd.below hB177 oO huw194
 refine WL.a rfl rfl <| WL.z rfl rfl ?_
 refine W.ret (W.retc3 rfl rfl (ldRow hkw194 underlying143 rfl isz143) rfl rfl ?_)
 exact ⟨ret_val (by rw [hX, ho]; simp only [textS]; rw [if_neg oO, nrOf_drop _ _ _ hk]; (first | done | rfl)), hB196⟩
 have h173' := dF h173
 have hX : nextR l (n : Int) = nrOf l (textS (hexS none [] (l.drop (s + 1)))) := by
  (exfalso; omega)
 refine W.reg <| WL.m rfl rfl <| WL.m rfl rfl <| WL.call hb156 rfl rfl ((ref_HexS p l c s _ hv2 oO hl)) (fun v w197 hw197 => ?_)
 have hk198 := hkb1.below hw197.1 hkb1.lt
 have hB200 := btr hB4 hw197.1
 obtain ⟨u, at1, err1, rfl, hso⟩ := hw197.2
 refine WL.m rfl rfl <| WL.p (.ext rfl rfl) rfl <| WL.p (.ext rfl rfl) rfl <| WL.p (.ext rfl rfl) rfl <| WL.a rfl rfl <| WL.a rfl rfl <| WL.z rfl rfl ?_
 refine W.seq <| W.sr <| WL.m rfl rfl <| WL.p (.neq rfl rfl) rfl <| WL.nil <| ?_
 refine W.cond rfl (fun h201 => ?_) (fun h201 => ?_)
 have h201' := ndT h201
 obtain ⟨ho, rfl⟩ := hso.cases.resolve_right (fun h => by obtain ⟨_, _, _, _, _, h0, _⟩ := h; omega)
 refine W.sr <| WL.m rfl rfl <| WL.c1 hb154 rfl rfl ((ref_none _ _)) (fun w202 hw202 => ?_)
 have hk203 := hk198.below hw202 hk198.lt
 have hB205 := btr hB200 hw202
 refine WL.p (.ext rfl rfl) rfl <| WL.p (.ext rfl rfl) rfl <| WL.p (.ext rfl rfl) rfl <| WL.stL rfl rfl hk203 isz143 rfl rfl (fun w206 hkw206 huw206 hsw206 => ?_)
 have hB208 := Upd.below hB205 oO huw206
 refine WL.a rfl rfl <| WL.z rfl rfl ?_
 refine W.ret (W.retc3 rfl rfl (ldRow hkw206 underlying143 rfl isz143) rfl rfl ?_)
 exact ⟨ret_val (by rw [hX, ho]; (first | done | rfl)), hB208⟩
 have h201' := ndF h201
 obtain ⟨s1, k, q, cq, ho, rfl, rfl, hk, hs1, rfl, hq⟩ := hso.cases.resolve_left (fun h => by have := h.2; omega)
 refine W.skip <| W.seq <| W.sr <| WL.m rfl rfl <| WL.p (.lenS underlying22 rfl) rfl <| WL.p (.gtr rfl rfl) rfl <| WL.nil <| ?_
 refine W.cond rfl (fun h209 => ?_) (fun h209 => ?_)
 have h209' := dT h209
 refine W.sr <| WL.c1 hb154 rfl rfl ((ref_none _ _)) (fun w210 hw210 => ?_)
 have hk211 := hk198.below hw210 hk198.lt
 have hB213 := btr hB200 hw210
 refine WL.p (.ext rfl rfl) rfl <| WL.p (.ext rfl rfl) rfl <| WL.p (.ext rfl rfl) rfl <| WL.stL rfl rfl hk211 isz143 rfl rfl (fun w214 hkw214 huw214 hsw214 => ?_)
 have hB216 := Upd.below hB213 oO huw214
 refine WL.a rfl rfl <| WL.z rfl rfl ?_
 refine W.ret (W.retc3 rfl rfl (ldRow hkw214 underlying143 rfl isz143) rfl rfl ?_)
 exact ⟨ret_val (by rw [hX, ho]; simp only [textS]; rw [if_pos oO]; (first | done | rfl)), hB216⟩
 have h209' := dF h209
 refine W.skip <| W.sr <| WL.m rfl rfl <| WL.r (Rd.b2s (l := s1) underlying22 underlying5 underlying9 rfl (hq)) rfl <| ?_
 refine WL.p (.buildL (ps := _) blt143 rfl rfl rfl pS) rfl ?_
 refine WL.m rfl rfl <| WL.stL rfl rfl hk198 isz143 rfl rfl (fun w217 hkw217 huw217 hsw217 => ?_)
 have hB219 := Upd.below hB200 oO huw217
 refine WL.a rfl rfl <| WL.z rfl rfl ?_
 refine W.ret (W.retc3 rfl rfl (ldRow hkw217 underlying143 rfl isz143) rfl rfl ?_)
 exact ⟨ret_val (by rw [hX, ho]; simp only [textS]; rw [if_neg oO, nrOf_drop _ _ _ hk]; (first | done | rfl)), hB219⟩
 have h120' := dF h120
 refine W.sr <| WL.p (.eql rfl rfl) rfl <| WL.z rfl rfl ?_
 refine W.cond rfl (fun h220 => ?_) (fun h220 => ?_)
 have h220' := dT h220
 refine W.sr <| WL.c1 hb154 rfl rfl ((ref_none _ _)) (fun w221 hw221 => ?_)
 have hk222 := hkb1.below hw221 hkb1.lt
 have hB224 := btr hB4 hw221
 refine WL.p (.ext rfl rfl) rfl <| WL.p (.ext rfl rfl) rfl <| WL.p (.ext rfl rfl) rfl <| WL.stL rfl rfl hk222 isz143 rfl rfl (fun w225 hkw225 huw225 hsw225 => ?_)
 have hB227 := Upd.below hB224 oO huw225
 refine WL.a rfl rfl <| WL.z rfl rfl ?_
 refine W.ret (W.retc3 rfl rfl (ldRow hkw225 underlying143 rfl isz143) rfl rfl ?_)
 exact ⟨ret_val (by rw [hN, hT, show x = 41 from u8_eq aS, tokC41]; (first | done | rfl)), hB227⟩
 have h220' := dF h220
 refine W.sr <| WL.p (.eql rfl rfl) rfl <| WL.z rfl rfl ?_
 refine W.cond rfl (fun h228 => ?_) (fun h228 => ?_)
 have h228' := dT h228
 refine W.seq <| W.sr <| WL.m rfl rfl <| WL.p (.neq rfl rfl) rfl <| WL.nil <| ?_
 refine W.cond rfl (fun h229 => ?_) (fun h229 => ?_)
 have h229' := ndT h229
 refine W.sr <| WL.c1 hb154 rfl rfl ((ref_none _ _)) (fun w230 hw230 => ?_)
 have hk231 := hkb1.below hw230 hkb1.lt
 have hB233 := btr hB4 hw230
 refine WL.p (.ext rfl rfl) rfl <| WL.p (.ext rfl rfl) rfl <| WL.p (.ext rfl rfl) rfl <| WL.stL rfl rfl hk231 isz143 rfl rfl (fun w234 hkw234 huw234 hsw234 => ?_)
 have hB236 := Upd.below hB233 oO huw234
 refine WL.a rfl rfl <| WL.z rfl rfl ?_
 refine W.ret (W.retc3 rfl rfl (ldRow hkw234 underlying143 rfl isz143) rfl rfl ?_)
 exact ⟨ret_val (by rw [hN, hT, show x = 62 from u8_eq aS, tokC62, angle_eq dD hy, if_neg (u8_ne (d := 62) (show ¬ (y.toNat : Int) = 62 from by omega)), if_neg dD]; (first | done | rfl)), hB236⟩
 have h229' := ndF h229
 refine W.skip <| W.sr <| WL.p (.buildL (ps := _) blt143 rfl rfl rfl pS) rfl ?_
 refine WL.m rfl rfl <| WL.p (.iis (((s + 1 + 1 : Nat) : Int)) (.add rfl rfl (i64w oO)) oO) rfl <| WL.stL rfl rfl hkb1 isz143 rfl rfl (fun w237 hkw237 huw237 hsw237 => ?_)
 have hB239 := Upd.below hB4 oO huw237
 refine WL.a rfl rfl <| WL.z rfl rfl ?_
 refine W.ret (W.retc3 rfl rfl (ldRow hkw237 underlying143 rfl isz143) rfl rfl ?_)
 exact ⟨ret_val (by rw [hN, hT, show x = 62 from u8_eq aS, tokC62, angle_eq dD hy, if_pos (show y = 62 from u8_eq aS), nrOf_drop _ _ _ oO]; (first | done | rfl)), hB239⟩
 have h228' := dF h228
 refine W.sr <| WL.p (.eql rfl rfl) rfl <| WL.z rfl rfl ?_
 refine W.cond rfl (fun h240 => ?_) (fun h240 => ?_)
 have h240' := dT h240
 refine W.sr <| WL.p (.buildL (ps := _) blt143 rfl rfl rfl pS) rfl ?_
 refine WL.m rfl rfl <| WL.p (.iis (((s + 1 : Nat) : Int)) (.add rfl rfl (i64w oO)) oO) rfl <| WL.stL rfl rfl hkb1 isz143 rfl rfl (fun w241 hkw241 huw241 hsw241 => ?_)
 have hB243 := Upd.below hB4 oO huw241
 refine WL.a rfl rfl <| WL.z rfl rfl ?_
 refine W.ret (W.retc3 rfl rfl (ldRow hkw241 underlying143 rfl isz143) rfl rfl ?_)
 exact ⟨ret_val (by rw [hN, hT, show x = 123 from u8_eq aS, tokC123, nrOf_drop _ _ _ oO]; (first | done | rfl)), hB243⟩
 have h240' := dF h240
 refine W.sr <| WL.p (.eql rfl rfl) rfl <| WL.z rfl rfl ?_
 refine W.cond rfl (fun h244 => ?_) (fun h244 => ?_)
 have h244' := dT h244
 refine W.sr <| WL.p (.buildL (ps := _) blt143 rfl rfl rfl pS) rfl ?_
 refine WL.m rfl rfl <| WL.p (.iis (((s + 1 : Nat) : Int)) (.add rfl rfl (i64w oO)) oO) rfl <| WL.stL rfl rfl hkb1 isz143 rfl rfl (fun w245 hkw245 huw245 hsw245 => ?_)
 have hB247 := Upd.below hB4 oO huw245
 refine WL.a rfl rfl <| WL.z rfl rfl ?_
 refine W.ret (W.retc3 rfl rfl (ldRow hkw245 underlying143 rfl isz143) rfl rfl ?_)
 exact ⟨ret_val (by rw [hN, hT, show x = 125 from u8_eq aS, tokC125, nrOf_drop _ _ _ oO]; (first | done | rfl)), hB247⟩
 have h244' := dF h244
 refine W.seq <| W.sr <| WL.p (.eql rfl rfl) rfl <| WL.z rfl rfl ?_
 refine W.cond rfl (fun h248 => ?_) (fun h248 => ?_)
 have h248' := dT h248
 refine W.skip <| W.condT rfl h248 ?_
 refine W.sr <| WL.m rfl rfl <| WL.bsl (ps := _) underlying22 sizeOf5 zeroValue5 rfl rfl rfl rfl rfl pR rfl (fun b249 wb249 eb249 hkb249 hub249 hsb249 => ?_)
 have hl251 : b1 < b249 := by rw [eb249]; exact hkb1.lt
 have hk250 := hkb1.upd hub249 (Nat.ne_of_lt hl251)
 have hB254 := Upd.below hB4 (by rw [eb249]; exact hB4.size) hub249
 have hgeb249 : w.heap.size ≤ b249 := by rw [eb249]; exact hB4.size
 refine WL.r (Rd.b2s (l := [x]) underlying22 underlying5 underlying9 rfl (BytesAt.one hkb249 rfl)) rfl <| ?_
 refine WL.p (.buildL (ps := _) blt143 rfl rfl rfl pS) rfl ?_
 refine WL.m rfl rfl <| WL.p (.iis (((s + 1 : Nat) : Int)) (.add rfl rfl (i64w oO)) oO) rfl <| WL.stL rfl rfl hk250 isz143 rfl rfl (fun w255 hkw255 huw255 hsw255 => ?_)
 have hB258 := Upd.below hB254 oO huw255
 refine WL.a rfl rfl <| WL.z rfl rfl ?_
 refine W.ret (W.retc3 rfl rfl (ldRow hkw255 underlying143 rfl isz143) rfl rfl ?_)
 exact ⟨ret_val (by rw [hN, hT, show x = 91 from u8_eq aS, tokC91, nrOf_drop _ _ _ oO]; (first | done | rfl)), hB258⟩
 have h248' := dF h248
 refine W.reg <| WL.p (.eql rfl rfl) rfl <| WL.z rfl rfl ?_
 refine W.cond rfl (fun h259 => ?_) (fun h259 => ?_)
 have h259' := dT h259
 refine W.sr <| WL.m rfl rfl <| WL.bsl (ps := _) underlying22 sizeOf5 zeroValue5 rfl rfl rfl rfl rfl pR rfl (fun b260 wb260 eb260 hkb260 hub260 hsb260 => ?_)
 have hl262 : b1 < b260 := by rw [eb260]; exact hkb1.lt
 have hk261 := hkb1.upd hub260 (Nat.ne_of_lt hl262)
 have hB265 := Upd.below hB4 (by rw [eb260]; exact hB4.size) hub260
 have hgeb260 : w.heap.size ≤ b260 := by rw [eb260]; exact hB4.size
 refine WL.r (Rd.b2s (l := [x]) underlying22 underlying5 underlying9 rfl (BytesAt.one hkb260 rfl)) rfl <| ?_
 refine WL.p (.buildL (ps := _) blt143 rfl rfl rfl pS) rfl ?_
 refine WL.m rfl rfl <| WL.p (.iis (((s + 1 : Nat) : Int)) (.add rfl rfl (i64w oO)) oO) rfl <| WL.stL rfl rfl hk261 isz143 rfl rfl (fun w266 hkw266 huw266 hsw266 => ?_)
 have hB269 := Upd.below hB265 oO huw266
 refine WL.a rfl rfl <| WL.z rfl rfl ?_
 refine W.ret (W.retc3 rfl rfl (ldRow hkw266 underlying143 rfl isz143) rfl rfl ?_)
 exact ⟨ret_val (by rw [hN, hT, show x = 93 from u8_eq aS, tokC93, nrOf_drop _ _ _ oO]; (first | done | rfl)), hB269⟩
 have h259' := dF h259
 refine W.sr <| WL.p (.eql rfl rfl) rfl <| WL.z rfl rfl ?_
 refine W.cond rfl (fun h270 => ?_) (fun h270 => ?_)
 have h270' := dT h270
 refine W.seq <| W.sr <| WL.m rfl rfl <| WL.p (.eql rfl rfl) rfl <| WL.nil <| ?_
 refine W.cond rfl (fun h271 => ?_) (fun h271 => ?_)
 have h271' := dT h271
 refine W.sr <| WL.m rfl rfl <| WL.m rfl rfl <| WL.p (.iis (((s + 1 + 1 : Nat) : Int)) (.add rfl rfl (i64w oO)) oO) rfl <| WL.m rfl rfl <| WL.m rfl rfl <| WL.p (.iis (((s + 1 + 1 : Nat) : Int)) (.add rfl rfl (i64w oO)) oO) rfl <| WL.c1 hb12 rfl rfl ((ref_Word p l c (s + 1 + 1) _ hv2 oO hl)) (fun w272 hw272 => ?_)
 obtain rfl := hw272
 refine WL.c1 hb157 rfl rfl ((ref_name 5 p l c (s + 1 + 1) (wordAt l (s + 1 + 1)) _ hv2 (wordAt_le l (s + 1 + 1) oO).1 (wordAt_le l (s + 1 + 1) oO).2 hc hl)) (fun w273 hw273 => ?_)
 have hk274 := hkb1.below hw273 hkb1.lt
 have hB276 := btr hB4 hw273
 refine WL.p (.ext rfl rfl) rfl <| WL.p (.ext rfl rfl) rfl <| WL.p (.ext rfl rfl) rfl <| WL.stL rfl rfl hk274 isz143 rfl rfl (fun w277 hkw277 huw277 hsw277 => ?_)
 have hB279 := Upd.below hB276 oO huw277
 refine WL.a rfl rfl <| WL.z rfl rfl ?_
 refine W.ret (W.retc3 rfl rfl (ldRow hkw277 underlying143 rfl isz143) rfl rfl ?_)
 exact ⟨ret_val (by rw [hN, hT, show x = 47 from u8_eq aS, tokC47, slash_eq hy, if_pos (show y = 47 from u8_eq aS), nameS_at _ _ _ oO]; (first | done | rfl)), hB279⟩
 have h271' := dF h271
 refine W.skip <| W.sr <| WL.m rfl rfl <| WL.m rfl rfl <| WL.p (.iis (((s + 1 : Nat) : Int)) (.add rfl rfl (i64w oO)) oO) rfl <| WL.m rfl rfl <| WL.m rfl rfl <| WL.p (.iis (((s + 1 : Nat) : Int)) (.add rfl rfl (i64w oO)) oO) rfl <| WL.c1 hb12 rfl rfl ((ref_Word p l c (s + 1) _ hv2 oO hl)) (fun w280 hw280 => ?_)
 obtain rfl := hw280
 refine WL.c1 hb157 rfl rfl ((ref_name 4 p l c (s + 1) (wordAt l (s + 1)) _ hv2 (wordAt_le l (s + 1) oO).1 (wordAt_le l (s + 1) oO).2 hc hl)) (fun w281 hw281 => ?_)
 have hk282 := hkb1.below hw281 hkb1.lt
 have hB284 := btr hB4 hw281
 refine WL.p (.ext rfl rfl) rfl <| WL.p (.ext rfl rfl) rfl <| WL.p (.ext rfl rfl) rfl <| WL.stL rfl rfl hk282 isz143 rfl rfl (fun w285 hkw285 huw285 hsw285 => ?_)
 have hB287 := Upd.below hB284 oO huw285
 refine WL.a rfl rfl <| WL.z rfl rfl ?_
 refine W.ret (W.retc3 rfl rfl (ldRow hkw285 underlying143 rfl isz143) rfl rfl ?_)
 exact ⟨ret_val (by rw [hN, hT, show x = 47 from u8_eq aS, tokC47, slash_eq hy, if_neg (u8_ne (d := 47) (show ¬ (y.toNat : Int) = 47 from by omega)), nameS_at _ _ _ oO]; (first | done | rfl)), hB287⟩
 have h270' := dF h270
 refine W.skip <| W.seq ?_
 have hX : nextR l (n : Int) = nrOf l (wordS (l.drop s)) := by rw [hN, hT, tokC_word _ oO oO oO oO oO oO oO oO oO, hx, ← List.drop_eq_getElem_cons hlt]
 have hwl := wordAt_le l s oO
 refine W.reg <| WL.m rfl rfl <| WL.m rfl rfl <| WL.c1 hb12 rfl rfl ((ref_Word p l c s _ hv2 oO hl)) (fun w288 hw288 => ?_)
 obtain rfl := hw288
 refine WL.z rfl rfl ?_
 refine W.seq ?_
 obtain ⟨T, hTk⟩ : ∃ T, T = tokenL ((l.drop s).take (wordAt l s - s)) := ⟨_, rfl⟩
 rw [wordS_at l s oO T hTk] at hX
 have hTe := tokenL_e ((l.drop s).take (wordAt l s - s))
 rw [← hTk] at hTe
 have hTc : ∀ w, Calls Tryz.prog 118 #[.string (bs ((l.drop s).take (wordAt l s - s)))] w fun e w' => e = .returned T.val ∧ Below w.heap.size w w' := fun w => by rw [hTk]; exact ref_Token _ w
 refine W.reg <| WL.m rfl rfl <| WL.m rfl rfl <| WL.m rfl rfl <| WL.p (.slb underlying22 sizeOf5 rfl rfl rfl  (s) (wordAt l s) (rfl) (rfl) oO oO) rfl <| WL.r (Rd.b2sPart underlying22 underlying5 underlying9 rfl rfl hv2 oO oO hc) rfl <| WL.c1 hb118 rfl rfl ((hTc _)) (fun w289 hw289 => ?_)
 have hk290 := hkb1.below hw289 hkb1.lt
 have hv291 := BytesAt.below hv2 hw289 (fun h0 => hv2.lt h0)
 have hB292 := btr hB4 hw289
 refine WL.m rfl rfl <| WL.p (.ext rfl rfl) rfl <| WL.p (.ext rfl rfl) rfl <| WL.p (.ext rfl rfl) rfl <| WL.alloc zeroValue143 rfl (fun b293 wb293 eb293 hkb293 hub293 hsb293 => ?_)
 have hl295 : b1 < b293 := by rw [eb293]; exact hk290.lt
 have hk294 := hk290.upd hub293 (Nat.ne_of_lt hl295)
 have hvl297 := fun h0 => eb293 ▸ hv291.lt h0
 have hv296 := bup hv291 hub293 hvl297
 have hB298 := Upd.below hB292 (by rw [eb293]; exact hB292.size) hub293
 have hgeb293 : w.heap.size ≤ b293 := by rw [eb293]; exact hB292.size
 refine WL.stL rfl rfl hkb293 isz143 rfl rfl (fun w299 hkw299 huw299 hsw299 => ?_)
 have hk300 := hk294.up huw299
 have hv301 := bup hv296 huw299 hvl297
 have hB302 := Upd.below hB298 oO huw299
 refine WL.a rfl rfl <| WL.z rfl rfl ?_
 refine W.seq <| W.sr <| WL.m rfl rfl <| WL.m rfl rfl <| WL.gd rfl rfl rfl (fun g303 => ?_) (fun g303 => ?_)
 refine WL.m rfl rfl <| WL.gy rfl rfl rfl g303 <| WL.p (.neq rfl rfl) rfl <| WL.p (.pkT rfl g303 rfl) rfl <| WL.nil <| ?_
 refine W.cond rfl (fun h304 => ?_) (fun h304 => ?_)
 have h304' := ndT h304
 refine W.sr <| WL.m rfl rfl <| WL.c1 hb154 rfl rfl ((ref_none _ _)) (fun w305 hw305 => ?_)
 have hk306 := hk300.below hw305 hk300.lt
 have hB309 := btr hB302 hw305
 refine WL.p (.ext rfl rfl) rfl <| WL.p (.ext rfl rfl) rfl <| WL.p (.ext rfl rfl) rfl <| WL.stL rfl rfl hk306 isz143 rfl rfl (fun w310 hkw310 huw310 hsw310 => ?_)
 have hB313 := Upd.below hB309 oO huw310
 refine WL.a rfl rfl <| WL.z rfl rfl ?_
 refine W.ret (W.retc3 rfl rfl (ldRow hkw310 underlying143 rfl isz143) rfl rfl ?_)
 exact ⟨ret_val (by rw [hX, if_pos aS]; (first | done | rfl)), hB313⟩
 have h304' := ndF h304
 refine W.skip <| W.seq <| W.sr <| WL.m rfl rfl <| WL.nil <| ?_
 refine W.condT rfl g303 ?_
 refine W.sr <| WL.r (Rd.ldA rfl hkw299 underlying143 rfl isz143) rfl <| WL.m rfl rfl <| WL.stL rfl rfl hk300 isz143 rfl rfl (fun w314 hkw314 huw314 hsw314 => ?_)
 have hB317 := Upd.below hB302 oO huw314
 refine WL.a rfl rfl <| WL.z rfl rfl ?_
 refine W.ret (W.retc3 rfl rfl (ldRow hkw314 underlying143 rfl isz143) rfl rfl ?_)
 exact ⟨ret_val (by rw [hX, if_neg (fun h => h aS), if_pos aS]; (first | done | rfl)), hB317⟩
 refine WL.gn rfl rfl rfl g303 <| WL.p (.pkF rfl g303 rfl) rfl <| WL.nil <| ?_
 refine W.condF rfl rfl ?_
 refine W.skip <| W.seq <| W.sr <| WL.m rfl rfl <| WL.nil <| ?_
 refine W.condF rfl g303 ?_
 refine W.skip <| W.sr <| WL.m rfl rfl <| WL.m rfl rfl <| WL.m rfl rfl <| WL.c1 hb157 rfl rfl ((ref_name 3 p l c s (wordAt l s) _ hv301 (wordAt_le l s oO).1 (wordAt_le l s oO).2 hc hl)) (fun w318 hw318 => ?_)
 have hk319 := hk300.below hw318 hk300.lt
 have hB322 := btr hB302 hw318
 refine WL.p (.ext rfl rfl) rfl <| WL.p (.ext rfl rfl) rfl <| WL.p (.ext rfl rfl) rfl <| WL.stL rfl rfl hk319 isz143 rfl rfl (fun w323 hkw323 huw323 hsw323 => ?_)
 have hB326 := Upd.below hB322 oO huw323
 refine WL.a rfl rfl <| WL.z rfl rfl ?_
 refine W.ret (W.retc3 rfl rfl (ldRow hkw323 underlying143 rfl isz143) rfl rfl ?_)
 exact ⟨ret_val (by rw [hX, if_neg (fun h => by simp_all), if_neg (bF aS)]; (first | done | rfl)), hB326⟩
 have g5' := dT g5
 refine WL.gn rfl rfl rfl g5 <| WL.gn rfl rfl rfl g5 <| WL.gn rfl rfl rfl g5 <| WL.p (.pkT rfl g5 rfl) rfl <| WL.nil <| ?_
 refine W.condT rfl rfl ?_
 refine W.sr <| WL.c1 hb154 rfl rfl ((ref_none _ _)) (fun w327 hw327 => ?_)
 have hk328 := hkb1.below hw327 hkb1.lt
 have hB330 := btr hB4 hw327
 refine WL.p (.ext rfl rfl) rfl <| WL.p (.ext rfl rfl) rfl <| WL.p (.ext rfl rfl) rfl <| WL.stL rfl rfl hk328 isz143 rfl rfl (fun w331 hkw331 huw331 hsw331 => ?_)
 have hB333 := Upd.below hB330 oO huw331
 refine WL.a rfl rfl <| WL.z rfl rfl ?_
 refine W.ret (W.retc3 rfl rfl (ldRow hkw331 underlying143 rfl isz143) rfl rfl ?_)
 exact ⟨ret_val (by unfold nextR; rw [if_pos oO]; (first | done | rfl)), hB333⟩
end
section
theorem roundS_len : ∀ (n : Nat) (d : Nat) (o l : List UInt8) (s r : List UInt8), l.length ≤ n → roundS d o l = some (s, r) → r.length ≤ l.length
 | n, d, o, [], s, r, _, h => by rw [roundS.eq_def] at h; cases h
 | 0, d, o, c :: t, s, r, hn, h => by simp at hn
 | n + 1, d, o, c :: t, s, r, hn, h => by
  simp only [List.length_cons] at hn ⊢
  rw [roundS.eq_def] at h
  simp only at h
  split at h
  ·
   have := roundS_len n _ _ t s r oO h; omega
  ·
   split at h
   ·
    split at h
    ·
     simp only [Option.some.injEq, Prod.mk.injEq] at h; rw [h.2]; omega
    ·
     have := roundS_len n _ _ t s r oO h; omega
   ·
    split at h
    ·
     split at h
     ·
      cases h
     ·
      next e r' =>
      have h2 := escS_len e r'
      simp only [List.length_cons] at hn
      have := roundS_len n _ _ _ s r oO h
      simp only [List.length_cons]; omega
    ·
     split at h
     ·
      have h2 := dropLF_len t
      have := roundS_len n _ _ _ s r oO h; omega
     ·
      have := roundS_len n _ _ t s r oO h; omega
theorem hexS_len : ∀ (l : List UInt8) (h : Option Nat) (o : List UInt8) (s r : List UInt8), hexS h o l = some (s, r) → r.length ≤ l.length
 | [], h, o, s, r, e => by simp [hexS] at e
 | c :: t, h, o, s, r, e => by
  simp only [List.length_cons]
  unfold hexS at e
  split at e
  ·
   have := hexS_len t _ _ s r e; omega
  ·
   split at e
   ·
    simp only [Option.some.injEq, Prod.mk.injEq] at e; rw [← e.2]; omega
   ·
    split at e
    ·
     cases e
    ·
     split at e
     ·
      have := hexS_len t _ _ s r e; omega
     ·
      have := hexS_len t _ _ s r e; omega
theorem textS_ok2 {o : Option (List UInt8 × List UInt8)} {t : TokV} {r : List UInt8} (h : textS o = .ok (t, r)) : ∃ s, o = some (s, r) ∧ t = ⟨6, 0, s⟩ ∧ s.length ≤ 65535 := by
 unfold textS at h
 split at h
 ·
  cases h
 ·
  next s r' =>
  split at h
  ·
   cases h
  ·
   simp only [Except.ok.injEq, Prod.mk.injEq] at h
   obtain ⟨rfl, rfl⟩ := h
   exact ⟨s, rfl, rfl, by omega⟩
theorem nameS_ok2 {k : Int} {l : List UInt8} {t : TokV} {r : List UInt8} (h : nameS k l = .ok (t, r)) : r = l.dropWhile regB ∧ t = ⟨k, 0, l.takeWhile regB⟩ ∧ (l.takeWhile regB).length ≤ 127 := by
 unfold nameS at h
 split at h
 ·
  cases h
 ·
  simp only [Except.ok.injEq, Prod.mk.injEq] at h
  exact ⟨h.2.symm, h.1.symm, by omega⟩
theorem dropWhile_len (l : List UInt8) : (l.dropWhile regB).length ≤ l.length := (List.dropWhile_sublist regB).length_le
theorem radixRes_kind (o : Option (Nat × Bool)) : (radixRes o).ok = true → (radixRes o).e = 0 → (radixRes o).kind = 1 ∨ (radixRes o).kind = 2 := by
 unfold radixRes
 split
 ·
  simp [tokNone]
 ·
  split <;> simp [tokGreat, tokInt]
theorem radixL_kind (l : List UInt8) : (radixL l).ok = true → (radixL l).e = 0 → (radixL l).kind = 1 ∨ (radixL l).kind = 2 := by
 unfold radixL
 split
 ·
  unfold radixV
  repeat' split
  all_goals first | exact radixRes_kind _ | simp [tokNone]
 ·
  simp [tokNone]
theorem tokenL_kind (l : List UInt8) (h : (tokenL l).ok = true) (he : (tokenL l).e = 0) : (tokenL l).kind = 1 ∨ (tokenL l).kind = 2 := by
 have hf : ∀ a b c, (finL a b c).ok = true → (finL a b c).e = 0 → (finL a b c).kind = 1 ∨ (finL a b c).kind = 2 := by
  intro a b c; unfold finL; repeat' split
  all_goals simp [tokNone, tokGreat, tokInt, tokReal]
 revert h he
 unfold tokenL
 split
 ·
  simp [tokNone]
 ·
  split
  ·
   exact radixL_kind l
  ·
   split
   ·
    simp [tokInt]
   ·
    unfold realL2
    split
    ·
     split
     ·
      exact hf _ _ _
     ·
      simp [tokNone]
    ·
     exact hf _ _ _
theorem reg_of_tokC {c : UInt8} (h1 : blankB c = false) (h2 : c ≠ 37) (h40 : c ≠ 40) (h41 : c ≠ 41) (h60 : ¬ (c = 60 ∨ c = 62)) (h123 : c ≠ 123) (h125 : c ≠ 125) (h91 : ¬ (c = 91 ∨ c = 93)) (h47 : c ≠ 47) : regB c = true := by
 unfold regB delimB
 rw [h1]
 simp only [not_or] at h60 h91
 simp [h2, h40, h41, h60.1, h60.2, h123, h125, h91.1, h91.2, h47]
/-- a token takes no more than there is, and it has a kind -/
theorem tokC_len {c : UInt8} {r : List UInt8} (h1 : blankB c = false) (h2 : c ≠ 37) {t : TokV} {s : List UInt8} (h : tokC c r = .ok (t, s)) : s.length ≤ r.length ∧ t.kind ≠ 0 := by
  unfold tokC at h
  split at h
  · obtain ⟨s', ho, rfl, -⟩ := textS_ok2 h
    exact ⟨roundS_len _ _ _ _ _ _ (Nat.le_refl _) ho, by simp⟩
  · split at h
    · cases h
    · split at h
      · unfold angleS at h
        split at h
        · split at h
          · simp only [Except.ok.injEq, Prod.mk.injEq] at h
            obtain ⟨rfl, rfl⟩ := h
            exact ⟨by simp, by simp⟩
          · split at h
            · obtain ⟨s', ho, rfl, -⟩ := textS_ok2 h
              exact ⟨hexS_len _ _ _ _ _ ho, by simp⟩
            · cases h
        · split at h
          · obtain ⟨s', ho, rfl, -⟩ := textS_ok2 h
            exact ⟨hexS_len _ _ _ _ _ ho, by simp⟩
          · cases h
      · split at h
        · simp only [Except.ok.injEq, Prod.mk.injEq] at h
          obtain ⟨rfl, rfl⟩ := h
          exact ⟨Nat.le_refl _, by simp⟩
        · split at h
          · simp only [Except.ok.injEq, Prod.mk.injEq] at h
            obtain ⟨rfl, rfl⟩ := h
            exact ⟨Nat.le_refl _, by simp⟩
          · split at h
            · simp only [Except.ok.injEq, Prod.mk.injEq] at h
              obtain ⟨rfl, rfl⟩ := h
              exact ⟨Nat.le_refl _, by simp⟩
            · split at h
              · unfold slashS at h
                split at h
                · split at h
                  · next d r' _ =>
                    obtain ⟨rfl, rfl, -⟩ := nameS_ok2 h
                    have := dropWhile_len r'
                    exact ⟨by simp only [List.length_cons]; omega, by simp⟩
                  · obtain ⟨rfl, rfl, -⟩ := nameS_ok2 h
                    exact ⟨dropWhile_len _, by simp⟩
                · obtain ⟨rfl, rfl, -⟩ := nameS_ok2 h
                  exact ⟨dropWhile_len _, by simp⟩
              · have hreg := reg_of_tokC h1 h2 aS aS aS aS aS aS aS
                have hdw : (c :: r).dropWhile regB = r.dropWhile regB := by simp [List.dropWhile_cons, hreg]
                have hdl := dropWhile_len r
                unfold wordS at h
                simp only at h
                split at h
                · cases h
                · next he =>
                  split at h
                  · next hk =>
                    simp only [Except.ok.injEq, Prod.mk.injEq] at h
                    obtain ⟨rfl, rfl⟩ := h
                    rw [hdw]
                    refine ⟨hdl, ?_⟩
                    have := tokenL_kind _ hk (by simpa using he)
                    intro h0
                    simp only at h0
                    omega
                  · obtain ⟨rfl, rfl, -⟩ := nameS_ok2 h
                    rw [hdw]
                    exact ⟨hdl, by simp⟩
theorem skipS_head : ∀ (l : List UInt8) (m : Bool) {c : UInt8} {r : List UInt8}, skipS m l = c :: r → blankB c = false ∧ c ≠ 37
 | [], m, c, r, h => by cases m <;> simp [skipS] at h
 | x :: t, false, c, r, h => by
  unfold skipS at h
  split at h
  ·
   exact skipS_head t true h
  ·
   split at h
   ·
    exact skipS_head t false h
   ·
    simp only [List.cons.injEq] at h
    obtain ⟨rfl, rfl⟩ := h
    exact ⟨by simp_all, by assumption⟩
 | x :: t, true, c, r, h => by
  unfold skipS at h
  split at h
  ·
   exact skipS_head t false h
  ·
   exact skipS_head t true h
/-- a step goes on: no kind at the end alone, else a byte at least is taken -/
theorem tokS_step {l : List UInt8} {t : TokV} {s : List UInt8} (h : tokS l = .ok (t, s)) : (t.kind = 0 ∧ s = []) ∨ (t.kind ≠ 0 ∧ s.length < l.length) := by
 unfold tokS at h
 split at h
 ·
  simp only [Except.ok.injEq, Prod.mk.injEq] at h
  obtain ⟨rfl, rfl⟩ := h
  exact Or.inl ⟨rfl, rfl⟩
 ·
  next c r hs =>
  have hh := skipS_head l false hs
  obtain ⟨h1, h2⟩ := tokC_len (t := t) (s := s) hh.1 hh.2 h
  have h3 := skipS_len l false
  rw [hs] at h3
  simp only [List.length_cons] at h3
  exact Or.inr ⟨h2, by omega⟩
theorem textS_err0 {o : Option (List UInt8 × List UInt8)} {k : Int} (h : textS o = .error k) : k = 14 ∨ k = 9 := by
 unfold textS at h
 split at h
 ·
  cases h; exact Or.inl rfl
 ·
  split at h
  ·
   cases h; exact Or.inr rfl
  ·
   cases h
theorem nameS_err0 {i : Int} {l : List UInt8} {k : Int} (h : nameS i l = .error k) : k = 9 := by
 unfold nameS at h
 split at h
 ·
  cases h; rfl
 ·
  cases h
theorem tokC_err0 {c : UInt8} {r : List UInt8} {k : Int} (h : tokC c r = .error k) : k ≠ 0 := by
 have ht : ∀ {o : Option (List UInt8 × List UInt8)}, textS o = .error k → k ≠ 0 := fun h => by rcases textS_err0 h with rfl | rfl <;> decide
 have hn : ∀ {i : Int} {l : List UInt8}, nameS i l = .error k → k ≠ 0 := fun h => by rw [nameS_err0 h]; decide
 unfold tokC at h
 split at h
 ·
  exact ht h
 ·
  split at h
  ·
   cases h; decide
  ·
   split at h
   ·
    unfold angleS at h
    split at h
    ·
     split at h
     ·
      cases h
     ·
      split at h
      ·
       exact ht h
      ·
       cases h; decide
    ·
     split at h
     ·
      exact ht h
     ·
      cases h; decide
   ·
    split at h
    ·
     cases h
    ·
     split at h
     ·
      cases h
     ·
      split at h
      ·
       cases h
      ·
       split at h
       ·
        unfold slashS at h
        split at h
        ·
         split at h
         ·
          exact hn h
         ·
          exact hn h
        ·
         exact hn h
       ·
        unfold wordS at h
        simp only at h
        split at h
        ·
         next he => cases h; exact he
        ·
         split at h
         ·
          cases h
         ·
          exact hn h
theorem tokS_err0 {l : List UInt8} (h : tokS l = .error 0) : False := by
 unfold tokS at h
 split at h
 ·
  cases h
 ·
  exact tokC_err0 (k := 0) h rfl
theorem nextR_step (l : List UInt8) (a : Nat) (ha : a ≤ l.length) : (nextR l a).e ≠ 0 ∨ ((nextR l a).k = 0 ∧ (nextR l a).at' = l.length) ∨ ((nextR l a).k ≠ 0 ∧ (a : Int) < (nextR l a).at' ∧ (nextR l a).at' ≤ l.length) := by
 have e : nextR l a = nrOf l (tokS (l.drop a)) := by unfold nextR; rw [if_neg oO]; rfl
 rw [e]
 cases h : tokS (l.drop a) with
 | error k =>
  by_cases hk : k = 0
  ·
   exfalso; subst hk; exact tokS_err0 h
  ·
   exact Or.inl hk
 | ok p =>
  obtain ⟨t, s⟩ := p
  right
  simp only [nrOf]
  rcases tokS_step h with ⟨h1, rfl⟩ | ⟨h1, h2⟩
  ·
   exact Or.inl ⟨h1, by simp⟩
  ·
   rw [List.length_drop] at h2
   exact Or.inr ⟨h1, by omega, by omega⟩
end
section
theorem roundS_41 (d : Nat) (o r : List UInt8) : roundS d o (41 :: r) = if d = 1 then some (o, r) else roundS (d - 1) (o ++ [41]) r := by rw [roundS.eq_def]; rfl
theorem roundS_92 (d : Nat) (o r : List UInt8) (e : UInt8) : roundS d o (92 :: e :: r) = roundS d (o ++ (escS e r).1) (escS e r).2 := by rw [roundS.eq_def]; rfl
theorem roundS_nil (d : Nat) (o : List UInt8) : roundS d o [] = none := by rw [roundS.eq_def]
theorem roundS_plain (d : Nat) (o r : List UInt8) (c : UInt8) (h1 : c ≠ 40) (h2 : c ≠ 41) (h3 : c ≠ 92) (h4 : c ≠ 13) : roundS d o (c :: r) = roundS d (o ++ [c]) r := by
 rw [roundS.eq_def]; simp only; rw [if_neg h1, if_neg h2, if_neg h3, if_neg h4]
theorem tokS_40 (r : List UInt8) : tokS (40 :: r) = textS (roundS 1 [] r) := rfl
/-- a byte, by its number in octal digits -/
def octE (c : UInt8) : List UInt8 := [92, ch (48 + (c.toNat : Int) / 64), ch (48 + (c.toNat : Int) / 8 % 8), ch (48 + (c.toNat : Int) % 8)]
theorem esc_octE : ∀ (c : UInt8) (r : List UInt8), escS (ch (48 + (c.toNat : Int) / 64)) (ch (48 + (c.toNat : Int) / 8 % 8) :: ch (48 + (c.toNat : Int) % 8) :: r) = ([c], r) := by
 intro c r
 have hc : c.toNat < 256 := UInt8.toNat_lt c
 have v1 : ((ch (48 + (c.toNat : Int) / 64)).toNat : Int) = 48 + (c.toNat : Int) / 64 := ch_val _ oO oO
 have v2 : ((ch (48 + (c.toNat : Int) / 8 % 8)).toNat : Int) = 48 + (c.toNat : Int) / 8 % 8 := ch_val _ oO oO
 have v3 : ((ch (48 + (c.toNat : Int) % 8)).toNat : Int) = 48 + (c.toNat : Int) % 8 := ch_val _ oO oO
 rw [esc_oct _ oO oO]
 have o2 : octB (ch (48 + (c.toNat : Int) / 8 % 8)) = true := by simp only [octB, Bool.and_eq_true, decide_eq_true_eq]; omega
 have o3 : octB (ch (48 + (c.toNat : Int) % 8)) = true := by simp only [octB, Bool.and_eq_true, decide_eq_true_eq]; omega
 simp only [octS, o2, o3, if_true]
 have e : ((8 * (8 * ((ch (48 + (c.toNat : Int) / 64)).toNat - 48) + ((ch (48 + (c.toNat : Int) / 8 % 8)).toNat - 48)) + ((ch (48 + (c.toNat : Int) % 8)).toNat - 48)) % 256 : Nat) = c.toNat := by omega
 rw [e]
 simp only [Prod.mk.injEq, and_true, List.cons.injEq]
 exact UInt8.toNat_inj.1 (by have := ch_val (c.toNat : Int) oO oO; omega)
/-- hexadecimal digits -/
def hexDigits : List UInt8 := [48, 49, 50, 51, 52, 53, 54, 55, 56, 57, 97, 98, 99, 100, 101, 102, 65, 66, 67, 68, 69, 70]
end
section
theorem idx_blank : ∀ c : UInt8, decide (0 ≤ Lib.indexByte [0, 9, 10, 12, 13, 32] c) = blankB c := by
 intro c
 have key : ∀ n : Fin 256, decide (0 ≤ Lib.indexByte [0, 9, 10, 12, 13, 32] (UInt8.ofNat n.1)) = blankB (UInt8.ofNat n.1) := by decide +kernel
 have := key ⟨c.toNat, UInt8.toNat_lt c⟩
 simpa using this
theorem idx_delim : ∀ c : UInt8, decide (Lib.indexByte [40, 41, 60, 62, 91, 93, 123, 125, 47, 37] c < 0) = !delimB c := by
 intro c
 have key : ∀ n : Fin 256, decide (Lib.indexByte [40, 41, 60, 62, 91, 93, 123, 125, 47, 37] (UInt8.ofNat n.1) < 0) = !delimB (UInt8.ofNat n.1) := by decide +kernel
 have := key ⟨c.toNat, UInt8.toNat_lt c⟩
 simpa using this
theorem idx_end : ∀ c : UInt8, decide (Lib.indexByte [10, 12, 13] c < 0) = !endB c := by
 intro c
 have key : ∀ n : Fin 256, decide (Lib.indexByte [10, 12, 13] (UInt8.ofNat n.1) < 0) = !endB (UInt8.ofNat n.1) := by decide +kernel
 have := key ⟨c.toNat, UInt8.toNat_lt c⟩
 simpa using this
theorem lib_ib (l : List UInt8) (c : UInt8) (w : World) : Calls Tryz.prog 60 #[.string (bs l), .int .u8 (c.toNat : Int)] w fun e w' => e = .returned (.int .i64 (Lib.indexByte l c)) ∧ w = w' := by
 refine (Tryz.strings_IndexByte (bs l) (c.toNat : Int) w).mono fun e w' h => ⟨?_, h.2.symm⟩
 rw [h.1]
 have : (bs l).data.toList = l := by simp [bs]
 rw [this]
 have : ((c.toNat : Int).toNat).toUInt8 = c := by rw [Int.toNat_natCast]; exact UInt8.ofNat_toNat
 rw [this]
theorem scan_blank (c : UInt8) (w : World) :
  Calls Tryz.prog 234 #[.int .u8 (c.toNat : Int)] w fun e w' => e = .returned (.bool (blankB c)) ∧ w = w' := by
 refine W.enter func234 rfl ntmps234 (Nat.le_of_ble_eq_true rfl) ?_
 refine W.sr <| WL.z rfl rfl ?_
 refine W.sr <| WL.m rfl rfl <| WL.c1 hb60 rfl rfl ((lib_ib [0, 9, 10, 12, 13, 32] c _)) (fun w1 hw1 => ?_)
 obtain rfl := hw1
 refine WL.p (.bis (blankB c) (.geq rfl rfl) (by exact idx_blank c)) rfl <| WL.z rfl rfl ?_
 refine W.ret (W.ret1 rfl rfl ?_)
 exact ⟨rfl, rfl⟩
theorem scan_regular (c : UInt8) (w : World) :
  Calls Tryz.prog 240 #[.int .u8 (c.toNat : Int)] w fun e w' => e = .returned (.bool (regB c)) ∧ w = w' := by
 refine W.enter func240 rfl ntmps240 (Nat.le_of_ble_eq_true rfl) ?_
 refine W.sr <| WL.z rfl rfl ?_
 refine W.sr <| WL.m rfl rfl <| WL.c1 hb234 rfl rfl ((scan_blank c _)) (fun w1 hw1 => ?_)
 obtain rfl := hw1
 refine WL.p (.not rfl) rfl <| WL.m rfl rfl <| WL.gd rfl rfl rfl (fun g2 => ?_) (fun g2 => ?_)
 have g2' := (nT g2)
 refine WL.m rfl rfl <| WL.gy rfl rfl rfl (by rw [(nT g2)] <;> rfl) <| WL.c1 hb60 rfl rfl ((lib_ib [40, 41, 60, 62, 91, 93, 123, 125, 47, 37] c _)) (fun w3 hw3 => ?_)
 obtain rfl := hw3
 refine WL.gy rfl rfl rfl (by rw [(nT g2)] <;> rfl) <| WL.p (.bis (!delimB c) (.lss rfl rfl) (by exact idx_delim c)) rfl <| WL.p (.pkT rfl (by rw [(nT g2)] <;> rfl) rfl) rfl <| WL.z rfl rfl ?_
 refine W.ret (W.ret1 rfl rfl ?_)
 exact ⟨ret_bool (by unfold regB; simp_all), rfl⟩
 have g2' := (nF g2)
 refine WL.gn rfl rfl rfl (by rw [(nF g2)] <;> rfl) <| WL.gn rfl rfl rfl (by rw [(nF g2)] <;> rfl) <| WL.p (.pkF rfl (by rw [(nF g2)] <;> rfl) rfl) rfl <| WL.z rfl rfl ?_
 refine W.ret (W.ret1 rfl rfl ?_)
 exact ⟨ret_bool (by unfold regB; simp_all), rfl⟩
/-- a reader in memory: block r, the bytes l, at place t -/
def RdOk (w : World) (r : Nat) (p : Option Addr) (l : List UInt8) (c t : Nat) : Prop := Blk w r #[.slice p l.length c, .int .i64 (t : Int)] 185 ∧ BytesAt w p l
theorem scan_more (r : Nat) (p : Option Addr) (l : List UInt8) (c t : Nat) (w : World) (h : RdOk w r p l c t) :
  Calls Tryz.prog 202 #[.pointer (some ⟨r, 0, none⟩)] w fun e w' => e = .returned (.bool (decide (t < l.length))) ∧ Drew w w' := by
 have hr := h.1
 refine W.enter func202 rfl ntmps202 (Nat.le_of_ble_eq_true rfl) ?_
 refine W.sr <| WL.z rfl rfl ?_
 refine W.seq <| W.regQ mixed kR ?_
 refine WQ.p (.mv rfl) rfl <| WQ.p (.nck rfl) rfl <| WQ.p (.fa underlying185 rfl sizeOf3 dD rfl) rfl <| WQ.r (fun m => Rd.ld (isAgg3 _) rfl hr rfl) rfl <| WQ.p (.mv rfl) rfl <| WQ.p (.nck rfl) rfl <| WQ.p (.fa underlying185 rfl sizeOf22 dD rfl) rfl <| WQ.r (fun m => Rd.ld (isAgg22 _) rfl hr rfl) rfl <| WQ.p (.lenS underlying22 rfl) rfl <| WQ.p (.lss rfl rfl) rfl <| WQ.p (.as rfl) rfl <| WQ.nil (fun w1 dw1 => ?_)
 refine W.ret (W.ret1 rfl rfl ?_)
 exact ⟨ret_bool (by (apply Bool.eq_iff_iff.2; (try simp only [Bool.and_eq_true, Bool.or_eq_true, Bool.not_eq_true', decide_eq_true_eq, decide_eq_false_iff_not, Bool.false_eq_true, Bool.not_eq_false', false_iff, iff_false, true_iff, iff_true]); omega)), by assumption⟩
theorem more_q (r : Nat) (p : Option Addr) (l : List UInt8) (c t : Nat) (w : World) (h : RdOk w r p l c t) (m : Nat) :
  Calls Tryz.prog 202 #[.pointer (some ⟨r, 0, none⟩)] (w.drewN m) fun e w' => e = .returned (.bool (decide (t < l.length))) ∧ ∃ k, w' = w.drewN k :=
 (scan_more r p l c t (w.drewN m) ⟨h.1, h.2.drewN m⟩).mono fun e w' h => ⟨h.1, Drew.trans ⟨m, rfl⟩ h.2⟩
/-- the byte there -/
def takeS (l : List UInt8) (t : Nat) : Except Int UInt8 := match l[t]? with | some x => .ok x | none => .error 14
theorem scan_take (r : Nat) (p : Option Addr) (l : List UInt8) (c t : Nat) (w : World) (h : RdOk w r p l c t) (hne : 0 < l.length → (pA p).block ≠ r) (hl : l.length ≤ 100000000) :
  Calls Tryz.prog 235 #[.pointer (some ⟨r, 0, none⟩)] w (Ends 35 (takeS l t) (fun x => .int .u8 (x.toNat : Int)) (fun _ w' => RdOk w' r p l c (t + 1) ∧ Touch w.heap.size r w w') (fun w' => Touch w.heap.size r w w')) := by
 have hr := h.1
 have hb := h.2
 refine W.enter func235 rfl ntmps235 (Nat.le_of_ble_eq_true rfl) ?_
 have hB0 := Touch.refl (w.heap.size) r w
 refine W.sr <| WL.z rfl rfl ?_
 refine W.seq <| W.sr <| WL.m rfl rfl <| WL.c1 hb202 rfl rfl ((scan_more r p l c t _ ⟨hr, hb⟩)) (fun w1 hw1 => ?_)
 have hk2 := hr.drew hw1
 have hv3 := hb.drew hw1
 have hB4 := Touch.trans hB0 (Touch.of_drew hw1)
 refine WL.p (.not rfl) rfl <| WL.nil <| ?_
 refine W.cond rfl (fun h5 => ?_) (fun h5 => ?_)
 have h5' := (nT h5)
 refine W.reg <| WL.p (.mkI underlying35 rfl) rfl <| WL.panic rfl (pn_is ?_)
 exact Ends.err 14 (by unfold takeS; rw [List.getElem?_eq_none (by simp_all)]) hB4
 have h5' := (nF h5)
 have hlt : t < l.length := by simp_all
 refine W.skip <| W.sr <| WL.m rfl rfl <| WL.p (.nck rfl) rfl <| WL.p (.fa underlying185 rfl sizeOf3 dD rfl) rfl <| WL.r (Rd.ld (isAgg3 _) rfl hk2 rfl) rfl <| WL.p (.iis (((t + 1 : Nat) : Int)) (.add rfl rfl (i64w oO)) oO) rfl <| WL.p (.nck rfl) rfl <| WL.p (.fa underlying185 rfl sizeOf3 dD rfl) rfl <| WL.st sizeOf3 rfl rfl rfl hk2 oD (fun w6 hkw6 huw6 hsw6 => ?_)
 have hkw6 : Blk w6 r _ _ := hkw6
 have huw6 : Upd r _ _ := huw6
 have hv7 := BytesAt.upd hv3 huw6 hne
 have hB8 := Touch.trans hB4 (Touch.of_upd huw6)
 refine WL.nil <| ?_
 refine W.seq <| W.regQ mixed kR ?_
 refine WQ.p (.mv rfl) rfl <| WQ.p (.nck rfl) rfl <| WQ.p (.fa underlying185 rfl sizeOf22 dD rfl) rfl <| WQ.r (fun m => Rd.ld (isAgg22 _) rfl hkw6 rfl) rfl <| WQ.p (.mv rfl) rfl <| WQ.p (.nck rfl) rfl <| WQ.p (.fa underlying185 rfl sizeOf3 dD rfl) rfl <| WQ.r (fun m => Rd.ld (isAgg3 _) rfl hkw6 rfl) rfl <| WQ.p (.iis ((t : Int)) (.sub rfl rfl (i64w oO)) oO) rfl <| WQ.p (.ixb underlying22 sizeOf5 rfl rfl (hv7.isp oO) (t) oO oO) rfl <| WQ.r (fun m => Rd.ldc (isAgg5 _) rfl ((hv7.drewN m).cells (t) oO)) rfl <| WQ.p (.as rfl) rfl <| WQ.nil (fun w9 dw9 => ?_)
 have hk10 := hkw6.drew dw9
 have hv11 := hv7.drew dw9
 have hB12 := Touch.trans hB8 (Touch.of_drew dw9)
 refine W.ret (W.ret1 rfl rfl ?_)
 exact Ends.ok (l[t]'hlt) (by unfold takeS; rw [List.getElem?_eq_getElem hlt]) rfl ⟨⟨hk10, hv11⟩, hB12⟩
/-- this byte stands there -/
def nextB (l : List UInt8) (t : Nat) (x : UInt8) : Bool := decide (t < l.length) && decide (((l[t]!).toNat : Int) = (x.toNat : Int))
theorem nextB_t {l : List UInt8} {t : Nat} {x : UInt8} (h : nextB l t x = true) : ∃ ht : t < l.length, l[t]'ht = x := by
 unfold nextB at h
 simp only [Bool.and_eq_true, decide_eq_true_eq] at h
 obtain ⟨h1, h2⟩ := h
 rw [getElem!_pos l t h1] at h2
 exact ⟨h1, u8_eq h2⟩
theorem nextB_f {l : List UInt8} {t : Nat} {x : UInt8} (h : nextB l t x = false) (ht : t < l.length) : l[t] ≠ x := by
 unfold nextB at h
 rw [decide_eq_true ht, Bool.true_and, getElem!_pos l t ht] at h
 exact u8_ne (dF h)
theorem scan_next (r : Nat) (p : Option Addr) (l : List UInt8) (c t : Nat) (x : UInt8) (w : World) (h : RdOk w r p l c t) (hne : 0 < l.length → (pA p).block ≠ r) (hl : l.length ≤ 100000000) (ht : t ≤ l.length) :
  Calls Tryz.prog 237 #[.pointer (some ⟨r, 0, none⟩), .int .u8 (x.toNat : Int)] w fun e w' => e = .returned (.bool (nextB l t x)) ∧ RdOk w' r p l c (if nextB l t x then t + 1 else t) ∧ Touch w.heap.size r w w' := by
 have hr := h.1
 have hb := h.2
 refine W.enter func237 rfl ntmps237 (Nat.le_of_ble_eq_true rfl) ?_
 have hB0 := Touch.refl (w.heap.size) r w
 refine W.sr <| WL.z rfl rfl ?_
 refine W.seq ?_
 refine W.cutBQ 20 (nextB l t x) ?_ (fun w1 dw1 => ?_)
 refine W.regQ mixed kR ?_
 refine WQ.p (.mv rfl) rfl <| WQ.c1 hb202 rfl rfl (fun m => (more_q r p l c t _ ⟨hr, hb⟩ m)) <| WQ.p (.mv rfl) rfl <| WQ.gd rfl rfl rfl (fun g2 => ?_) (fun g2 => ?_)
 have g2' := dT g2
 refine WQ.p (.mv rfl) rfl <| WQ.gy rfl rfl rfl g2 <| WQ.p (.nck rfl) rfl <| WQ.gy rfl rfl rfl g2 <| WQ.p (.fa underlying185 rfl sizeOf22 dD rfl) rfl <| WQ.gy rfl rfl rfl g2 <| WQ.r (fun m => Rd.ld (isAgg22 _) rfl hr rfl) rfl <| WQ.gy rfl rfl rfl g2 <| WQ.p (.mv rfl) rfl <| WQ.gy rfl rfl rfl g2 <| WQ.p (.nck rfl) rfl <| WQ.gy rfl rfl rfl g2 <| WQ.p (.fa underlying185 rfl sizeOf3 dD rfl) rfl <| WQ.gy rfl rfl rfl g2 <| WQ.r (fun m => Rd.ld (isAgg3 _) rfl hr rfl) rfl <| WQ.gy rfl rfl rfl g2 <| WQ.p (.ixb underlying22 sizeOf5 rfl rfl (hb.isp oO) (t) oO oO) rfl <| WQ.gy rfl rfl rfl g2 <| WQ.r (fun m => Rd.ldc (isAgg5 _) rfl ((hb.drewN m).cells (t) oO)) rfl <| WQ.gy rfl rfl rfl g2 <| WQ.p (.mv rfl) rfl <| WQ.gy rfl rfl rfl g2 <| WQ.p (.eql rfl rfl) rfl <| WQ.p (.pkT rfl g2 rfl) rfl <| WQ.nil (fun w3 dw3 => ?_)
 exact ⟨leE (lk_b rfl (by (by_cases hq : t < l.length) <;> (unfold nextB; first | (exfalso; simp_all; done) | (rw [getElem!_pos l t hq]; simp_all; done) | (rw [decide_eq_false hq]; simp_all; done)))), dw3⟩
 have g2' := dF g2
 refine WQ.gn rfl rfl rfl g2 <| WQ.gn rfl rfl rfl g2 <| WQ.gn rfl rfl rfl g2 <| WQ.gn rfl rfl rfl g2 <| WQ.gn rfl rfl rfl g2 <| WQ.gn rfl rfl rfl g2 <| WQ.gn rfl rfl rfl g2 <| WQ.gn rfl rfl rfl g2 <| WQ.gn rfl rfl rfl g2 <| WQ.gn rfl rfl rfl g2 <| WQ.gn rfl rfl rfl g2 <| WQ.p (.pkF rfl g2 rfl) rfl <| WQ.nil (fun w7 dw7 => ?_)
 exact ⟨leE (lk_b rfl (by (by_cases hq : t < l.length) <;> (unfold nextB; first | (exfalso; simp_all; done) | (rw [getElem!_pos l t hq]; simp_all; done) | (rw [decide_eq_false hq]; simp_all; done)))), dw7⟩
 have hk11 := hr.drew dw1
 have hv12 := hb.drew dw1
 have hB13 := Touch.trans hB0 (Touch.of_drew dw1)
 refine W.cond rfl (fun h14 => ?_) (fun h14 => ?_)
 refine W.sr <| WL.m rfl rfl <| WL.p (.nck rfl) rfl <| WL.p (.fa underlying185 rfl sizeOf3 dD rfl) rfl <| WL.r (Rd.ld (isAgg3 _) rfl hk11 rfl) rfl <| WL.p (.iis (((t + 1 : Nat) : Int)) (.add rfl rfl (i64w oO)) oO) rfl <| WL.p (.nck rfl) rfl <| WL.p (.fa underlying185 rfl sizeOf3 dD rfl) rfl <| WL.st sizeOf3 rfl rfl rfl hk11 oD (fun w15 hkw15 huw15 hsw15 => ?_)
 have hkw15 : Blk w15 r _ _ := hkw15
 have huw15 : Upd r _ _ := huw15
 have hv16 := BytesAt.upd hv12 huw15 hne
 have hB17 := Touch.trans hB13 (Touch.of_upd huw15)
 refine WL.nil <| ?_
 refine W.sr <| WL.z rfl rfl ?_
 refine W.ret (W.ret1 rfl rfl ?_)
 exact ⟨ret_bool (by simp_all), by rw [if_pos aS]; exact ⟨hkw15, hv16⟩, hB17⟩
 refine W.skip <| W.sr <| WL.z rfl rfl ?_
 refine W.ret (W.ret1 rfl rfl ?_)
 exact ⟨ret_bool (by simp_all), by rw [if_neg (bF aS)]; exact ⟨hk11, hv12⟩, hB13⟩
theorem ib_q (l : List UInt8) (c : UInt8) (w : World) (m : Nat) : Calls Tryz.prog 60 #[.string (bs l), .int .u8 (c.toNat : Int)] (w.drewN m) fun e w' => e = .returned (.int .i64 (Lib.indexByte l c)) ∧ ∃ k, w' = w.drewN k :=
 (lib_ib l c (w.drewN m)).mono fun e w' h => ⟨h.1, m, h.2.symm⟩
theorem scan_skip (r : Nat) (p : Option Addr) (l : List UInt8) (c a : Nat) (w : World) (h : RdOk w r p l c a) (hne : 0 < l.length → (pA p).block ≠ r) (hl : l.length ≤ 100000000) (ha : a ≤ l.length) :
  Calls Tryz.prog 201 #[.pointer (some ⟨r, 0, none⟩)] w fun e w' => e = .returned (.tuple #[]) ∧ RdOk w' r p l c (skipAt false l a) ∧ Touch w.heap.size r w w' := by
 have hr := h.1
 have hb := h.2
 obtain ⟨R, hR⟩ : ∃ R, R = skipAt false l a := ⟨_, rfl⟩
 rw [← hR]
 refine W.enter func201 rfl ntmps201 (Nat.le_of_ble_eq_true rfl) ?_
 refine W.block ?_
 refine W.loop (α := Nat) (fun t => [(0, .pointer (some ⟨r, 0, none⟩))]) (fun t w' => RdOk w' r p l c t ∧ Touch w.heap.size r w w' ∧ t ≤ l.length ∧ skipAt false l t = R) (fun t => l.length - t) (a) ⟨rfl, trivial⟩ (⟨h, Touch.refl _ _ _, ha, hR.symm⟩) (fun t w1 hR => ?_)
 obtain ⟨hrd, hT, ht, hw⟩ := hR
 obtain ⟨s, rfl⟩ : ∃ s, s = t := ⟨t, rfl⟩
 refine W.seq <| W.sr <| WL.m rfl rfl <| WL.c1 hb202 rfl rfl ((scan_more r p l c s _ ⟨hrd.1, hrd.2⟩)) (fun w1 hw1 => ?_)
 have hk2 := hrd.1.drew hw1
 have hv3 := hrd.2.drew hw1
 have hB4 := Touch.trans hT (Touch.of_drew hw1)
 refine WL.nil <| ?_
 refine W.cond rfl (fun h5 => ?_) (fun h5 => ?_)
 have h5' := dT h5
 have hs := skipAt_f l s oO
 refine W.skip <| W.block <| W.seq <| W.regQ mixed kR ?_
 refine WQ.p (.mv rfl) rfl <| WQ.p (.nck rfl) rfl <| WQ.p (.fa underlying185 rfl sizeOf22 dD rfl) rfl <| WQ.r (fun m => Rd.ld (isAgg22 _) rfl hk2 rfl) rfl <| WQ.p (.mv rfl) rfl <| WQ.p (.nck rfl) rfl <| WQ.p (.fa underlying185 rfl sizeOf3 dD rfl) rfl <| WQ.r (fun m => Rd.ld (isAgg3 _) rfl hk2 rfl) rfl <| WQ.p (.ixb underlying22 sizeOf5 rfl rfl (hv3.isp oO) (s) oO oO) rfl <| WQ.r (fun m => Rd.ldc (isAgg5 _) rfl ((hv3.drewN m).cells (s) oO)) rfl <| WQ.p (.as rfl) rfl <| WQ.nil (fun w6 dw6 => ?_)
 have hk7 := hk2.drew dw6
 have hv8 := hv3.drew dw6
 have hB9 := Touch.trans hB4 (Touch.of_drew dw6)
 refine W.block <| W.sr <| WL.m rfl rfl <| WL.c1 hb234 rfl rfl ((scan_blank _ _)) (fun w10 hw10 => ?_)
 obtain rfl := hw10
 refine WL.z rfl rfl ?_
 refine W.cond rfl (fun h11 => ?_) (fun h11 => ?_)
 refine W.reg <| WL.m rfl rfl <| WL.p (.nck rfl) rfl <| WL.p (.fa underlying185 rfl sizeOf3 dD rfl) rfl <| WL.r (Rd.ld (isAgg3 _) rfl hk7 rfl) rfl <| WL.p (.iis (((s + 1 : Nat) : Int)) (.add rfl rfl (i64w oO)) oO) rfl <| WL.p (.nck rfl) rfl <| WL.p (.fa underlying185 rfl sizeOf3 dD rfl) rfl <| WL.st sizeOf3 rfl rfl rfl hk7 oD (fun w12 hkw12 huw12 hsw12 => ?_)
 have hkw12 : Blk w12 r _ _ := hkw12
 have huw12 : Upd r _ _ := huw12
 have hv13 := BytesAt.upd hv8 huw12 hne
 have hB14 := Touch.trans hB9 (Touch.of_upd huw12)
 refine WL.nil <| ?_
 exact ⟨s + 1, ⟨rfl, trivial⟩, ⟨⟨hkw12, hv13⟩, hB14, by omega, by rw [← hw, hs, if_neg (fun e => absurd (show blankB (l[s]'oO) = true by assumption) (by rw [e]; decide)), if_pos aS]⟩, by omega⟩
 refine W.sr <| WL.m rfl rfl <| WL.p (.eql rfl rfl) rfl <| WL.z rfl rfl ?_
 refine W.cond rfl (fun h15 => ?_) (fun h15 => ?_)
 have h15' := dT h15
 refine W.block ?_
 refine W.loop (α := Nat) (fun t => [(0, .pointer (some ⟨r, 0, none⟩))]) (fun t w' => RdOk w' r p l c t ∧ Touch w.heap.size r w w' ∧ s ≤ t ∧ t ≤ l.length ∧ skipAt true l t = R ∧ (t = s → l[s]'oO = 37)) (fun t => l.length - t) (s) ⟨rfl, trivial⟩ (⟨⟨hk7, hv8⟩, hB9, by omega, by omega, by rw [skipAt_t l s oO, if_neg (by rw [show l[s] = 37 from u8_eq aS]; decide), ← hw, hs, if_pos (u8_eq aS)], fun _ => u8_eq aS⟩) (fun t w1 hR => ?_)
 obtain ⟨hrd2, hT2, hst, ht2, hw2, h37⟩ := hR
 refine W.seq ?_
 refine W.cutBQ 43 (cmtB l t) ?_ (fun w16 dw16 => ?_)
 refine W.regQ mixed kR ?_
 refine WQ.p (.mv rfl) rfl <| WQ.c1 hb202 rfl rfl (fun m => (more_q r p l c t _ ⟨hrd2.1, hrd2.2⟩ m)) <| WQ.p (.mv rfl) rfl <| WQ.gd rfl rfl rfl (fun g17 => ?_) (fun g17 => ?_)
 have g17' := dT g17
 refine WQ.p (.mv rfl) rfl <| WQ.gy rfl rfl rfl g17 <| WQ.p (.nck rfl) rfl <| WQ.gy rfl rfl rfl g17 <| WQ.p (.fa underlying185 rfl sizeOf22 dD rfl) rfl <| WQ.gy rfl rfl rfl g17 <| WQ.r (fun m => Rd.ld (isAgg22 _) rfl hrd2.1 rfl) rfl <| WQ.gy rfl rfl rfl g17 <| WQ.p (.mv rfl) rfl <| WQ.gy rfl rfl rfl g17 <| WQ.p (.nck rfl) rfl <| WQ.gy rfl rfl rfl g17 <| WQ.p (.fa underlying185 rfl sizeOf3 dD rfl) rfl <| WQ.gy rfl rfl rfl g17 <| WQ.r (fun m => Rd.ld (isAgg3 _) rfl hrd2.1 rfl) rfl <| WQ.gy rfl rfl rfl g17 <| WQ.p (.ixb underlying22 sizeOf5 rfl rfl (hrd2.2.isp oO) (t) oO oO) rfl <| WQ.gy rfl rfl rfl g17 <| WQ.r (fun m => Rd.ldc (isAgg5 _) rfl ((hrd2.2.drewN m).cells (t) oO)) rfl <| WQ.gy rfl rfl rfl g17 <| WQ.c1 hb60 rfl rfl (fun m => (ib_q [10, 12, 13] _ _ m)) <| WQ.gy rfl rfl rfl g17 <| WQ.p (.bis (!endB (l[t]'oO)) (.lss rfl rfl) (by exact idx_end _)) rfl <| WQ.p (.pkT rfl g17 rfl) rfl <| WQ.nil (fun w18 dw18 => ?_)
 exact ⟨leE (lk_b rfl (by rw [cmtB_eq]; (by_cases hq : t < l.length) <;> (first | (exfalso; omega) | (rw [getElem!_pos l t hq, decide_eq_true hq]; rfl) | (rw [decide_eq_false hq]; simp_all; done)))), dw18⟩
 have g17' := dF g17
 refine WQ.gn rfl rfl rfl g17 <| WQ.gn rfl rfl rfl g17 <| WQ.gn rfl rfl rfl g17 <| WQ.gn rfl rfl rfl g17 <| WQ.gn rfl rfl rfl g17 <| WQ.gn rfl rfl rfl g17 <| WQ.gn rfl rfl rfl g17 <| WQ.gn rfl rfl rfl g17 <| WQ.gn rfl rfl rfl g17 <| WQ.gn rfl rfl rfl g17 <| WQ.gn rfl rfl rfl g17 <| WQ.p (.pkF rfl g17 rfl) rfl <| WQ.nil (fun w22 dw22 => ?_)
 exact ⟨leE (lk_b rfl (by rw [cmtB_eq]; (by_cases hq : t < l.length) <;> (first | (exfalso; omega) | (rw [getElem!_pos l t hq, decide_eq_true hq]; rfl) | (rw [decide_eq_false hq]; simp_all; done)))), dw22⟩
 have hk26 := hrd2.1.drew dw16
 have hv27 := hrd2.2.drew dw16
 have hB28 := Touch.trans hT2 (Touch.of_drew dw16)
 refine W.cond rfl (fun h29 => ?_) (fun h29 => ?_)
 obtain ⟨hc1, hc2⟩ := cmtB_t aS
 rw [skipAt_t l t hc1, hc2, if_neg (by simp)] at hw2
 refine W.skip <| W.block <| W.reg <| WL.m rfl rfl <| WL.p (.nck rfl) rfl <| WL.p (.fa underlying185 rfl sizeOf3 dD rfl) rfl <| WL.r (Rd.ld (isAgg3 _) rfl hk26 rfl) rfl <| WL.p (.iis (((t + 1 : Nat) : Int)) (.add rfl rfl (i64w oO)) oO) rfl <| WL.p (.nck rfl) rfl <| WL.p (.fa underlying185 rfl sizeOf3 dD rfl) rfl <| WL.st sizeOf3 rfl rfl rfl hk26 oD (fun w30 hkw30 huw30 hsw30 => ?_)
 have hkw30 : Blk w30 r _ _ := hkw30
 have huw30 : Upd r _ _ := huw30
 have hv31 := BytesAt.upd hv27 huw30 hne
 have hB32 := Touch.trans hB28 (Touch.of_upd huw30)
 refine WL.nil <| ?_
 exact ⟨t + 1, ⟨rfl, trivial⟩, ⟨⟨hkw30, hv31⟩, hB32, by omega, by omega, by omega, fun h => by omega⟩, by omega⟩
 obtain ⟨hc1, hc2⟩ := cmtB_f aS
 have hc3 : t ≠ s := fun e => by subst e; exact hc2 oO (h37 rfl)
 refine W.exit ?_
 exact ⟨t, ⟨rfl, trivial⟩, ⟨⟨hk26, hv27⟩, hB28, by omega, by omega⟩, by omega⟩
 have h15' := dF h15
 refine W.ret (W.ret0 rfl  ?_)
 exact ⟨rfl, ⟨by rw [← hw, hs, if_neg (u8_ne aS), if_neg (bF aS)]; exact hk7, hv8⟩, hB9⟩
 have h5' := dF h5
 refine W.exit ?_
 refine W.norm (W.ret0 rfl ?_)
 exact ⟨rfl, ⟨by rw [show R = s by rw [← hw, skipAt_end false l s oO]; omega]; exact hk2, hv3⟩, hB4⟩
end
end Go.Proofs.YtjghbcjnplcleaaGreatDoor
