/-
  The walk over what is known of a frame: parts of slices. Over any program.
-/
import Derived.Test.YtjghbcjnplcleaaGreatDoorFwR
import Derived.Laws.Slices
namespace Go.Proofs.YtjghbcjnplcleaaGreatDoor
open Go.RowKit

theorem W.norm {P : Program} {fn : Func} {R : Ending → World → Prop} {f : Fr} {w : World} (h : Post P fn R .ret f w) : Post P fn R .normal f w := by unfold Post at *; exact h
/-- one result, which lies in memory -/
theorem W.retc1 {P : Program} {fn : Func} {R : Ending → World → Prop} {f : Fr} {w : World} {t : Tmp} {ty : TypeId} {b : Addr} {v : Value} (hr : fn.results = #[.cell t ty])
    (ht : look f t = some (.pointer (some b))) (hv : (loadVar ty b).run P w = .ok v w) (h : R (.returned v) w) : Post P fn R .ret f w := by
  unfold Post
  exact ⟨_, fun tmps hh => by
    have e1 := hh _ _ ht
    simp only [Array.getD_eq_getD_getElem?] at e1
    simp [results, hr, e1, asAddr, hv], h⟩
section
variable {P : Program} {n : Sh} {f : Fr}
/-- where a part of a slice stands -/
def pPart (p : Option Addr) (c a : Nat) : Option Addr := if c = a then p else p.map (·.add a)
theorem Pure.slb {tx e : TypeId} {x y z : Operand} {p : Option Addr} {m c : Nat} {i j : Int} (hu : P.underlying tx = some (.slice e)) (hs : ∀ w, (sizeOf e).run P w = .ok 1 w) (hx : evo f x = some (.slice p m c))
    (hi : evo f y = some (.int .i64 i)) (hj : evo f z = some (.int .i64 j)) (a b : Nat) (ei : i = a) (ej : j = b) (hab : a ≤ b) (hbc : b ≤ c) :
    Pure P (.slice tx x (some y) (some z) none) f (.slice (pPart p c a) (b - a) (c - a)) := fun ρ hρ d ty pos aft g w => by
  subst ei; subst ej
  have h1 : (a : Int) ≤ (b : Int) := by omega
  simp [execOp, Instr.sliceAt, Instr.slice, Instr.sliceBounds, run_sliceBound, hρ _ _ hx, hρ _ _ hi, hρ _ _ hj, run_underlying hu, hs, hbc, hab, pPart]
theorem Pure.slbF {tx e : TypeId} {x y : Operand} {p : Option Addr} {m c : Nat} {i : Int} (hu : P.underlying tx = some (.slice e)) (hs : ∀ w, (sizeOf e).run P w = .ok 1 w) (hx : evo f x = some (.slice p m c))
    (hi : evo f y = some (.int .i64 i)) (a : Nat) (ei : i = a) (ham : a ≤ m) :
    Pure P (.slice tx x (some y) none none) f (.slice (pPart p c a) (m - a) (c - a)) := fun ρ hρ d ty pos aft g w => by
  subst ei
  simp [execOp, Instr.sliceAt, Instr.slice, Instr.sliceBounds, run_sliceBound, hρ _ _ hx, hρ _ _ hi, run_underlying hu, hs, ham, pPart]
theorem Pure.slbT {tx e : TypeId} {x z : Operand} {p : Option Addr} {m c : Nat} {j : Int} (hu : P.underlying tx = some (.slice e)) (hs : ∀ w, (sizeOf e).run P w = .ok 1 w) (hx : evo f x = some (.slice p m c))
    (hj : evo f z = some (.int .i64 j)) (b : Nat) (ej : j = b) (hbc : b ≤ c) :
    Pure P (.slice tx x none (some z) none) f (.slice (pPart p c 0) b c) := fun ρ hρ d ty pos aft g w => by
  subst ej
  simp [execOp, Instr.sliceAt, Instr.slice, Instr.sliceBounds, run_sliceBound, hρ _ _ hx, hρ _ _ hj, run_underlying hu, hs, hbc, pPart]
theorem BytesAt.part {w : World} {p : Option Addr} {l : List UInt8} {c a b : Nat} (h : BytesAt w p l) (hab : a ≤ b) (hb : b ≤ l.length) (hc : l.length ≤ c) : BytesAt w (pPart p c a) ((l.drop a).take (b - a)) := by
  have hlen : ((l.drop a).take (b - a)).length = b - a := by rw [List.length_take, List.length_drop]; omega
  by_cases h0 : a = b
  · refine ⟨fun h => ?_, fun j hj => ?_⟩ <;> rw [hlen] at * <;> omega
  · have hp := h.isp (by omega)
    have e1 : pPart p c a = some ((pA p).add a) := by unfold pPart; rw [if_neg (by omega)]; rw [hp]; rfl
    rw [e1]
    refine ⟨fun _ => rfl, fun j hj => ?_⟩
    rw [hlen] at hj
    show w.cell? (((pA p).add a).add j) = _
    rw [add_add, h.cells (a + j) (by omega)]
    simp
theorem part_len {l : List UInt8} {a b : Nat} (hb : b ≤ l.length) : ((l.drop a).take (b - a)).length = b - a := by rw [List.length_take, List.length_drop]; omega
/-- a part of bytes as a string -/
theorem Rd.b2sPart {tx ty e : TypeId} {x : Operand} {p : Option Addr} {l : List UInt8} {a b c c' m : Nat} {w : World} (hu : P.underlying tx = some (.slice e)) (he : P.underlying e = some (.int .u8)) (ht : P.underlying ty = some .string)
    (hx : evo f x = some (.slice (pPart p c a) m c')) (hm : m = b - a) (hb : BytesAt w p l) (hab : a ≤ b) (hbl : b ≤ l.length) (hc : l.length ≤ c) : Rd P (.convert tx ty x) f w (.string (bs ((l.drop a).take (b - a)))) := by
  subst hm
  refine Rd.b2s (c := c') hu he ht ?_ (hb.part hab hbl hc)
  rw [part_len hbl]; exact hx
theorem Rd.iis {op : Op} {w : World} {k : IntKind} {s : Int} (t : Int) (h : Rd P op f w (.int k s)) (e : s = t) : Rd P op f w (.int k t) := e ▸ h
/-- one more element, from one fact of the type -/
theorem WL.appm {ops : Array Oper} {Q : Exit → Fr → World → Prop} {w : World} {rest : List Oper} {d ty : Nat} {pos : String} {aft : Array Edge} {s x : Operand} {t e : TypeId} {B : Nat} {z v u : Value} {xs : List Value} {b c by' : Nat} {tb : TypeId}
    (ht : P.underlying t = some (.slice e)) (hi : (P.info? e).map (fun i => (i.zero, i.size, i.bytes)) = some (some z, 1, by')) (hby2 : Nat.ble by' 16 = true) (hzs : z.cells.size = 1)
    (hs : evo f s = some v) (hown : Own e B w v xs) (hx : evo f x = some (.slice (some ⟨b, 0, none⟩) 1 c)) (hb : Blk w b #[u] tb) (h1 : u.oneCell' = true)
    (hn : xs.length ≤ 1000000000) (hB : B ≤ w.heap.size) (hd : Nat.blt d n.n = true)
    (k : ∀ v' w', Own e B w' v' (xs ++ [u]) → Below B w w' → w.grownBy w' v.ownBlock → WL P n ops Q rest ((d, v') :: f) w') :
    WL P n ops Q (⟨some d, .call ⟨.builtin .append, #[s, x], #[t, t]⟩, ty, pos, aft, none⟩ :: rest) f w := by
  cases hh : P.info? e with
  | none => rw [hh] at hi; cases hi
  | some i =>
    rw [hh] at hi
    simp only [Option.map_some, Option.some.injEq, Prod.mk.injEq] at hi
    exact WL.app1 ht hh hi.1 hi.2.1 hi.2.2 (by simpa using hby2) hzs hs hown hx hb h1 hn hB hd k
theorem byteVals_len (l : List UInt8) : (byteVals l).length = l.length := by simp [byteVals]
theorem Own.snoc {e : TypeId} {B : Nat} {w : World} {v : Value} {l : List UInt8} {x : Int} (h : Own e B w v (byteVals l ++ [.int .u8 x])) (c : UInt8) (hc : x = (c.toNat : Int)) : Own e B w v (byteVals (l ++ [c])) := by
  have : byteVals (l ++ [c]) = byteVals l ++ [.int .u8 x] := by simp [byteVals, hc]
  rw [this]; exact h
end

end Go.Proofs.YtjghbcjnplcleaaGreatDoor
