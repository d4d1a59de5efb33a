/-
  The walk over what is known of a frame: bytes in memory, calls that panic. Over any program.
-/
import Derived.Test.YtjghbcjnplcleaaGreatDoorFw
import Derived.Laws.BytesString
namespace Go.Proofs.YtjghbcjnplcleaaGreatDoor
open Go.RowKit

section
variable {P : Program} {n : Sh} {f : Fr}

/-- where a slice's cells are; whatever, if it is nil -/
def pA (p : Option Addr) : Addr := p.getD ⟨0, 0, none⟩
/-- a slice of this base reads as these bytes -/
structure BytesAt (w : World) (p : Option Addr) (l : List UInt8) : Prop where
  isp : 0 < l.length → p = some (pA p)
  cells : ∀ j (h : j < l.length), w.cell? ((pA p).add j) = some (.int .u8 (l[j].toNat : Int))
theorem BytesAt.nil (w : World) : BytesAt w none [] := ⟨fun h => by simp at h, fun j h => by simp at h⟩
theorem add_zero_addr (a : Addr) : a.add 0 = a := by unfold Addr.add; split <;> simp_all
theorem add_block (a : Addr) (k : Nat) : (a.add k).block = a.block := by unfold Addr.add; split <;> simp_all
theorem add_add (a : Addr) (j k : Nat) : (a.add j).add k = a.add (j + k) := by
  unfold Addr.add
  split <;> simp_all <;> (try split) <;> simp_all <;> omega
theorem BytesAt.below {w w1 : World} {B : Nat} {p : Option Addr} {l : List UInt8} (h : BytesAt w p l) (hb : Below B w w1) (hp : 0 < l.length → (pA p).block < B) : BytesAt w1 p l :=
  ⟨h.isp, fun j hj => by rw [hb.cell (by rw [add_block]; exact hp (by omega))]; exact h.cells j hj⟩
theorem BytesAt.upd {w w1 : World} {b : Nat} {p : Option Addr} {l : List UInt8} (h : BytesAt w p l) (hu : Upd b w w1) (hp : 0 < l.length → (pA p).block ≠ b) : BytesAt w1 p l :=
  ⟨h.isp, fun j hj => by rw [World.cell?_of_block (w := w) (hu.other _ (by rw [add_block]; exact hp (by omega)))]; exact h.cells j hj⟩
theorem BytesAt.drewN {w : World} {p : Option Addr} {l : List UInt8} (h : BytesAt w p l) (m : Nat) : BytesAt (w.drewN m) p l := ⟨h.isp, h.cells⟩
theorem BytesAt.lt {w : World} {p : Option Addr} {l : List UInt8} (h : BytesAt w p l) (hl : 0 < l.length) : (pA p).block < w.heap.size := by
  have := h.cells 0 hl
  unfold World.cell? at this
  rw [add_block] at this
  cases hb : w.heap[(pA p).block]? with
  | none => rw [hb] at this; cases this
  | some o => exact (Array.getElem?_eq_some_iff.1 hb).1
/-- the address of a byte -/
theorem Pure.ixb {tx e : TypeId} {x y : Operand} {p : Option Addr} {l c : Nat} {i : Int} {k : IntKind} (hu : P.underlying tx = some (.slice e)) (hs : ∀ w, (sizeOf e).run P w = .ok 1 w) (hx : evo f x = some (.slice p l c))
    (hi : evo f y = some (.int k i)) (hp : p = some (pA p)) (j : Nat) (e' : i = j) (hj : j < l) : Pure P (.indexAddr tx x y) f (.pointer (some ((pA p).add j))) := by
  have h := Pure.ixa (P := P) (f := f) (p := pA p) (c := c) hu hs (hx.trans (by rw [← hp])) hi j e' hj
  rwa [Nat.mul_one] at h
theorem push_bytes (l : List UInt8) : (l.map fun b => (b.toNat : Int)).foldl (fun (r : ByteArray) n => r.push (UInt8.ofNat n.toNat)) ByteArray.empty = bs l := by
  have key : ∀ (l m : List UInt8), (l.map fun b => (b.toNat : Int)).foldl (fun (r : ByteArray) n => r.push (UInt8.ofNat n.toNat)) (bs m) = bs (m ++ l) := by
    intro l
    induction l with
    | nil => intro m; simp
    | cons c r ih =>
      intro m
      have e : (bs m).push (UInt8.ofNat ((c.toNat : Int)).toNat) = bs (m ++ [c]) := by
        rw [Int.toNat_natCast, UInt8.ofNat_toNat]
        apply ByteArray.ext
        simp [bs, ByteArray.push]
      rw [List.map_cons, List.foldl_cons, e, ih, List.append_assoc]; rfl
  have := key l []
  rw [List.nil_append] at this
  exact this
/-- bytes as a string -/
theorem Rd.b2s {tx ty e : TypeId} {x : Operand} {p : Option Addr} {l : List UInt8} {c : Nat} {w : World} (hu : P.underlying tx = some (.slice e)) (he : P.underlying e = some (.int .u8)) (ht : P.underlying ty = some .string)
    (hx : evo f x = some (.slice p l.length c)) (hb : BytesAt w p l) : Rd P (.convert tx ty x) f w (.string (bs l)) := fun ρ hρ d ty' pos aft g => by
  have hv := hρ _ _ hx
  have key : (convert tx ty (.slice p l.length c)).run P w = .ok (.string (bs l)) w := by
    cases p with
    | none =>
      have h0 : l = [] := by
        cases l with
        | nil => rfl
        | cons a r => have := hb.isp (by simp); cases this
      subst h0
      simp [convert, run_underlying hu, run_underlying he, run_underlying ht, Conv.bytesToString]
      rfl
    | some a =>
      have hl : (loadCells a l.length).run P w = .ok ((l.map fun b => (b.toNat : Int)).map (Value.int .u8)).toArray w := by
        have := run_loadCells_list (P := P) w a ((l.map fun b => (b.toNat : Int)).map (Value.int .u8)) (fun j v hj => by
          simp only [List.getElem?_map, Option.map_eq_some_iff] at hj
          obtain ⟨z, ⟨b, hb1, rfl⟩, rfl⟩ := hj
          obtain ⟨h1, rfl⟩ := List.getElem?_eq_some_iff.1 hb1
          exact hb.cells j h1)
        simpa using this
      rw [run_convert_bytes_string w tx ty e _ _ _ hu he ht, run_bytesToString w a l.length c _ hl, push_bytes]
  unfold execOp
  simp only [hv, Sem.run_bind, key, Result.andThen_ok, Sem.run_pure]
theorem BytesAt.one {w : World} {b : Nat} {x : Int} {t : TypeId} {c : UInt8} (h : Blk w b #[.int .u8 x] t) (e : x = (c.toNat : Int)) : BytesAt w (some ⟨b, 0, none⟩) [c] :=
  ⟨fun _ => rfl, fun j hj => by
    obtain rfl : j = 0 := by simp at hj; omega
    show w.cell? ((⟨b, 0, none⟩ : Addr).add 0) = _
    rw [add_zero_addr, h.cell 0, e]; rfl⟩
/-- a slice made of its parts, a cell each -/
theorem fill_seq {n : Nat} : ∀ (parts : List (Nat × Value)) (z : List Value), z.length = n → idxOk n parts = true → Instr.fill (fun i => some (i * 1, 1)) z.toArray parts = some (put1 z parts).toArray
  | [], z, _, _ => rfl
  | (i, v) :: r, z, hz, ho => by
    simp only [idxOk, Bool.and_eq_true] at ho
    obtain ⟨⟨h1, h2⟩, h3⟩ := ho
    have hi : i < n := by simpa [Nat.blt_eq] using h1
    have hc := oneCells h2
    have ih := fill_seq r (z.set i v) (by simpa using hz) h3
    have hf : (#[v].zipIdx.foldl (fun cs (x : Value × Nat) => cs.setIfInBounds (i * 1 + x.2) x.1) z.toArray) = (z.set i v).toArray := by simp [Array.zipIdx]
    refine Eq.trans ?_ ih
    conv => lhs; unfold Instr.fill
    simp only [hc]
    rw [if_neg (by simp; omega)]
    exact congrArg (fun c => Instr.fill (fun i => some (i * 1, 1)) c r) hf
theorem WL.bsl {ops : Array Oper} {Q : Exit → Fr → World → Prop} {w : World} {rest : List Oper} {d ty : Nat} {pos : String} {aft : Array Edge} {t e : TypeId} {len : Nat} {ps : List (Nat × Operand)} {vs l : List Value} {z : Value}
    (hu : P.underlying t = some (.slice e)) (hs : ∀ w, (sizeOf e).run P w = .ok 1 w) (hz : ∀ w, (zeroValue e).run P w = .ok z w) (hz1 : z.oneCell' = true) (hl0 : Nat.blt 0 len = true) (hl1 : Nat.ble len 1000 = true)
    (hx : evs f (ps.map (·.2)) = some vs) (ho : idxOk len ((ps.map (·.1)).zip vs) = true) (hl : put1 (List.replicate len z) ((ps.map (·.1)).zip vs) = l) (hd : Nat.blt d n.n = true)
    (k : ∀ b w1, b = w.heap.size → Blk w1 b l.toArray e → Upd b w w1 → w1.heap.size = b + 1 → WL P n ops Q rest ((d, .slice (some ⟨b, 0, none⟩) len len) :: f) w1) :
    WL P n ops Q (⟨some d, .buildSlice t len ps.toArray, ty, pos, aft, none⟩ :: rest) f w := by
  have h0 : 0 < len := by simpa [Nat.blt_eq] using hl0
  have h1 : len ≤ 1000 := by simpa using hl1
  refine WL.run hd (w' := w.alloc (.cells l.toArray e)) (v := .slice (some ⟨w.heap.size, 0, none⟩) len len) (fun ρ hρ => ?_) (k _ _ rfl (Blk.alloc _ _ _) (Upd.alloc _ _) (by simp))
  have e1 := evs_map hρ _ _ hx
  have e2 : (ps.toArray.map fun (i, x) => (i, ρ x)).toList = (ps.map (·.1)).zip vs := by
    rw [← e1]
    simp only [List.map_map, Array.toList_map]
    clear hx ho hl e1
    induction ps with
    | nil => rfl
    | cons p r ih => simpa using ih
  have hzc := oneCells hz1
  have hcells : (Array.range (len * 1)).map (fun x => (#[z] : Array Value)[x % (#[z] : Array Value).size]!) = (List.replicate len z).toArray := by
    apply Array.ext
    · simp
    · intro i h1 h2; simp [Nat.mod_one]
  have hfill := fill_seq (n := len) ((ps.map (·.1)).zip vs) (List.replicate len z) (by simp) ho
  rw [hl] at hfill
  have hfill' : Instr.fill (fun i => some (i, 1)) (List.replicate len z).toArray ((ps.map (·.1)).zip vs) = some l.toArray := by simpa using hfill
  have hcells' : (Array.range len).map (fun x => (#[z] : Array Value)[x % (#[z] : Array Value).size]!) = (List.replicate len z).toArray := by simpa using hcells
  have hne : len ≠ 0 := by omega
  have hbig : ¬ 16777216 < len := by omega
  unfold execOp
  simp only [Instr.buildSlice, Sem.run_bind, run_underlying hu, hs, Result.andThen_ok, e2, Nat.mul_one]
  rw [if_neg (by omega), if_neg hne]
  simp only [Sem.run_bind, hz, hzc, Sem.run_pure, Result.andThen_ok, hcells', hfill']
  simp [newRow]
end

end Go.Proofs.YtjghbcjnplcleaaGreatDoor
