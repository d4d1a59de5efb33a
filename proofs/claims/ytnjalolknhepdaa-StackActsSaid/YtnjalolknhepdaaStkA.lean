/-
  Stacks: the program's functions, first part.
-/
import Derived.Test.YtnjalolknhepdaaFwN
import Derived.Test.YtnjalolknhepdaaFwHb
namespace Go.Proofs.Ytnjalolknhepdaa
open Go.RowKit

/-- an object -/
structure ObjV where
  kind : Int
  exec : Bool
  access : Int
  n : Int
  name : List UInt8
  ref : Int
  frm : Int
  len : Int
def objV (x : ObjV) : List Value := [.int .i64 x.kind, .bool x.exec, .int .i64 x.access, .int .i64 x.n, .string (bs x.name), .int .i64 x.ref, .int .i64 x.frm, .int .i64 x.len]
def objL : Lay ObjV := ⟨8, objV, by decide, fun _ => rfl, fun x v hv => by simp only [objV, List.mem_cons, List.not_mem_nil, or_false] at hv; rcases hv with rfl | rfl | rfl | rfl | rfl | rfl | rfl | rfl <;> rfl⟩
theorem inf39 : (Try.prog.info? 39).map (fun i => (i.zero, i.size, i.bytes)) = some (some (.agg #[.int .i64 0, .bool false, .int .i64 0, .int .i64 0, .string ⟨#[]⟩, .int .i64 0, .int .i64 0, .int .i64 0]), 8, 72) := by kernel_rfl
/-- a stack in memory -/
structure StackOk (w : World) (b : Nat) (v : Value) (most ov un : Int) (l : List ObjV) : Prop where
  blk : Blk w b #[.int .i64 most, .int .i64 ov, .int .i64 un, v] 57
  own : OwnM objL 39 (b + 1) w v l
theorem StackOk.drew {w w1 : World} {b : Nat} {v : Value} {most ov un : Int} {l : List ObjV} (h : StackOk w b v most ov un l) (d : Drew w w1) : StackOk w1 b v most ov un l := ⟨h.blk.drew d, h.own.drew d⟩
theorem stk_Len (b : Nat) (v : Value) (most ov un : Int) (l : List ObjV) (w : World) (h : StackOk w b v most ov un l) :
    Calls Try.prog 26 #[.pointer (some ⟨b, 0, none⟩)] w fun e w' => e = .returned (.int .i64 (l.length : Int)) ∧ w = w' := by
  obtain ⟨p, c, rfl, -⟩ := h.own.row
  have hr := h.blk
  refine W.enter Try.func26 rfl Try.ntmps26 (Nat.le_of_ble_eq_true rfl) ?_
  refine W.seq ?_
  refine W.reg ?_ -- 0
  refine WL.p (.as rfl) rfl <| WL.nil <| ?_
  refine W.seq ?_
  refine W.seq ?_
  refine W.reg ?_ -- 1
  refine WL.p (.mv rfl) rfl <| WL.p (.eqP Try.underlying26 rfl) rfl <| WL.nil <| ?_
  refine W.condF rfl rfl ?_
  refine W.skip ?_
  refine W.seq ?_
  refine W.reg ?_ -- 3
  refine WL.p (.mv rfl) rfl <| WL.p (.nck rfl) rfl <| WL.p (.fa Try.underlying57 rfl Try.sizeOf25 (by decide) rfl) rfl <| WL.r (Rd.ld (Try.isAgg25 _) rfl hr rfl) rfl <| WL.p (.lenS Try.underlying25 rfl) rfl <| WL.p (.as rfl) rfl <| WL.nil <| ?_
  refine W.ret (W.ret1 rfl rfl ?_)
  exact ⟨rfl, rfl⟩
def checkE (n : Int) (l : List ObjV) (un : Int) : Int := if n < 0 then 11 else if (l.length : Int) < n then un else 0
theorem stk_check (b : Nat) (v : Value) (most ov un : Int) (l : List ObjV) (n : Int) (w : World) (h : StackOk w b v most ov un l) :
    Calls Try.prog 30 #[.pointer (some ⟨b, 0, none⟩), .int .i64 n] w fun e w' => e = .returned (.int .i64 (checkE n l un)) ∧ w = w' := by
  obtain ⟨p, c, rfl, -⟩ := h.own.row
  have hr := h.blk
  refine W.enter Try.func30 rfl Try.ntmps30 (Nat.le_of_ble_eq_true rfl) ?_
  refine W.seq ?_
  refine W.reg ?_ -- 0
  refine WL.p (.as rfl) rfl <| WL.nil <| ?_
  refine W.seq ?_
  refine W.block ?_
  refine W.seq ?_
  refine W.reg ?_ -- 1
  refine WL.p (.mv rfl) rfl <| WL.p (.eqP Try.underlying26 rfl) rfl <| WL.p (.as rfl) rfl <| WL.nil <| ?_
  refine W.condF rfl rfl ?_
  refine W.seq ?_
  refine W.reg ?_ -- 3
  refine WL.p (.mv rfl) rfl <| WL.p (.lss rfl rfl) rfl <| WL.p (.as rfl) rfl <| WL.nil <| ?_
  refine W.cond rfl (fun h1 => ?_) (fun h1 => ?_) -- slot 8
  · have h1' := of_decide_eq_true h1
    refine W.seq ?_
    refine W.reg ?_ -- 4
    refine WL.p (.as rfl) rfl <| WL.nil <| ?_
    refine W.ret (W.ret1 rfl rfl ?_)
    first
    | exact ⟨riE (by unfold checkE; rw [if_pos (by omega)]), rfl⟩
    | exact ⟨riE (by unfold checkE; rw [if_neg (by omega), if_pos (by omega)]), rfl⟩
    | exact ⟨riE (by unfold checkE; rw [if_neg (by omega), if_neg (by omega)]), rfl⟩
  · have h1' := of_decide_eq_false h1
    refine W.seq ?_
    refine W.reg ?_ -- 5
    refine WL.p (.mv rfl) rfl <| WL.p (.mv rfl) rfl <| WL.p (.nck rfl) rfl <| WL.p (.fa Try.underlying57 rfl Try.sizeOf25 (by decide) rfl) rfl <| WL.r (Rd.ld (Try.isAgg25 _) rfl hr rfl) rfl <| WL.p (.lenS Try.underlying25 rfl) rfl <| WL.p (.gtr rfl rfl) rfl <| WL.p (.as rfl) rfl <| WL.nil <| ?_
    refine W.cond rfl (fun h2 => ?_) (fun h2 => ?_) -- slot 11
    · have h2' := of_decide_eq_true h2
      refine W.seq ?_
      refine W.reg ?_ -- 6
      refine WL.p (.mv rfl) rfl <| WL.p (.nck rfl) rfl <| WL.p (.fa Try.underlying57 rfl Try.sizeOf28 (by decide) rfl) rfl <| WL.r (Rd.ld (Try.isAgg28 _) rfl hr rfl) rfl <| WL.p (.as rfl) rfl <| WL.nil <| ?_
      refine W.ret (W.ret1 rfl rfl ?_)
      first
      | exact ⟨riE (by unfold checkE; rw [if_pos (by omega)]), rfl⟩
      | exact ⟨riE (by unfold checkE; rw [if_neg (by omega), if_pos (by omega)]), rfl⟩
      | exact ⟨riE (by unfold checkE; rw [if_neg (by omega), if_neg (by omega)]), rfl⟩
    · have h2' := of_decide_eq_false h2
      refine W.skip ?_
      refine W.seq ?_
      refine W.reg ?_ -- 7
      refine WL.p (.as rfl) rfl <| WL.nil <| ?_
      refine W.ret (W.ret1 rfl rfl ?_)
      first
      | exact ⟨riE (by unfold checkE; rw [if_pos (by omega)]), rfl⟩
      | exact ⟨riE (by unfold checkE; rw [if_neg (by omega), if_pos (by omega)]), rfl⟩
      | exact ⟨riE (by unfold checkE; rw [if_neg (by omega), if_neg (by omega)]), rfl⟩
/-- a copy of its own -/
theorem lib_Clone (p : Option Addr) (l : List ObjV) (c : Nat) (w : World) (h : RowM objL w p l) (hc : l = [] → c = 0 ∨ p ≠ none) (hl : l.length ≤ 10000000) :
    Calls Try.prog 32 #[.slice p l.length c] w fun e w' => ∃ v, e = .returned v ∧ Below w.heap.size w w' ∧ OwnM objL 39 w.heap.size w' v l := by
  refine W.enter Try.func32 rfl Try.ntmps32 (Nat.le_of_ble_eq_true rfl) ?_
  have hB0 := Below.refl (w.heap.size) w
  refine W.seq ?_
  refine W.reg ?_ -- 0
  refine WL.p (.as rfl) rfl <| WL.nil <| ?_
  refine W.seq ?_
  refine W.seq ?_
  refine W.reg ?_ -- 1
  refine WL.p (.mv rfl) rfl <| WL.p (.eqSN Try.underlying25 rfl) rfl <| WL.nil <| ?_
  refine W.cond rfl (fun h1 => ?_) (fun h1 => ?_) -- slot 4
  · have h1' := h1
    have hp : p = none := by cases p with | none => rfl | some a => exact absurd (show (some a).isNone = true by assumption) (by simp)
    have hl0 : l = [] := by
      cases l with
      | nil => rfl
      | cons x r => have := h.isp (by simp); rw [hp] at this; cases this
    refine W.seq ?_
    refine W.reg ?_ -- 2
    refine WL.p (.as rfl) rfl <| WL.nil <| ?_
    refine W.ret (W.ret1 rfl rfl ?_)
    first
    | exact ⟨_, rfl, hB0, by rw [hl0]; exact OwnM.nil _ _ _ _⟩
    | exact ⟨_, rfl, hB0, (OWN).base (fun g hg => Nat.le_trans (Nat.le_of_eq eb2.symm) ((OWN).lt g hg).1)⟩
  · have h1' := h1
    refine W.skip ?_
    refine W.seq ?_
    refine W.reg ?_ -- 3
    refine WL.bsl0 Try.underlying25 Try.sizeOf39 rfl (fun b2 wb2 eb2 hob2 hub2 hsb2 => ?_)
    have hvl4 := fun h0 => eb2 ▸ h.lt h0
    have hv3 := RowM.upd h hub2 (fun h0 => Nat.ne_of_lt (hvl4 h0))
    have hB5 := Upd.below hB0 (by rw [eb2]; exact hB0.size) hub2
    have hgeb2 : w.heap.size ≤ b2 := by rw [eb2]; exact hB0.size
    have hob2 := OwnM.of (L := objL) (l := []) (hob2 b2 (Nat.le_refl _))
    have hleb2 : b2 ≤ wb2.heap.size := by omega
    refine WL.p (.mv rfl) rfl <| WL.appM Try.underlying25 inf39 rfl rfl rfl hob2 rfl hv3 (by simp only [List.length_nil]; omega) (hleb2) rfl (hc) (fun v6 w7 how7 hbw7 hgw7 hfw7 => ?_)
    have hv8 := RowM.below hv3 hbw7 hvl4
    have hB9 := Below.trans hB5 (hbw7.mono (hgeb2))
    have hle10 := Nat.le_trans hleb2 hbw7.size
    refine WL.p (.as rfl) rfl <| WL.nil <| ?_
    refine W.ret (W.ret1 rfl rfl ?_)
    first
    | exact ⟨_, rfl, hB9, by rw [hl0]; exact OwnM.nil _ _ _ _⟩
    | exact ⟨_, rfl, hB9, (how7).base (fun g hg => Nat.le_trans (Nat.le_of_eq eb2.symm) ((how7).lt g hg).1)⟩

theorem lib_Clone' (p : Option Addr) (l : List ObjV) (n c : Nat) (w : World) (hn : n = l.length) (h : RowM objL w p l) (hc : l = [] → c = 0 ∨ p ≠ none) (hl : l.length ≤ 10000000) :
    Calls Try.prog 32 #[.slice p n c] w fun e w' => ∃ v, e = .returned v ∧ Below w.heap.size w w' ∧ OwnM objL 39 w.heap.size w' v l := by
  subst hn; exact lib_Clone p l c w h hc hl

end Go.Proofs.Ytnjalolknhepdaa
