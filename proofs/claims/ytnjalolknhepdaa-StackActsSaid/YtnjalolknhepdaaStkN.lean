/-
  Stacks: the calls of the law StackActs as they come in; the law's own list.
-/
import Derived.Test.YtnjalolknhepdaaStkF
import Derived.Test.YtnjalolknhepdaaStkH
import Derived.Test.YtnjalolknhepdaaStkI
import Derived.Test.YtnjalolknhepdaaStkJ
namespace Go.Proofs.Ytnjalolknhepdaa
open Go.ChangeShapes Go.WideShapes Go.ChangeAt Go.RowKit

structure ActV where
  fDo : Int
  fN : Int
  fJ : Int
  pfList : Option Addr
  fList : List ObjV
  cfList : Nat
  pfKinds : Option Addr
  fKinds : List Int
  cfKinds : Nat
def actV (x : ActV) : List Value := [.int .i64 x.fDo, .int .i64 x.fN, .int .i64 x.fJ, .slice x.pfList x.fList.length x.cfList, .slice x.pfKinds x.fKinds.length x.cfKinds]
def actL : Lay ActV := ⟨5, actV, by decide, fun _ => rfl, fun x u hu => List.all_eq_true.1 (show (actV x).all Value.oneCell' = true from rfl) u hu⟩
structure ActOk (w : World) (x : ActV) : Prop where
  wf_fDo : (Lit.int .i64 x.fDo).wf = true
  wf_fN : (Lit.int .i64 x.fN).wf = true
  wf_fJ : (Lit.int .i64 x.fJ).wf = true
  row_fList : RowM objL w x.pfList x.fList
  sl_fList : SlOk x.pfList x.fList x.cfList
  row_fKinds : RowAt intV w x.pfKinds x.fKinds
  sl_fKinds : SlOk x.pfKinds x.fKinds x.cfKinds
  wfs_fKinds : ∀ y ∈ x.fKinds, (Lit.int .i64 y).wf = true
theorem ActOk.below {w w1 : World} {x : ActV} (h : ActOk w x) (hb : Below w.heap.size w w1) : ActOk w1 x :=
  ⟨h.wf_fDo, h.wf_fN, h.wf_fJ, h.row_fList.below hb (fun h0 => h.row_fList.lt h0), h.sl_fList, h.row_fKinds.below hb (fun h0 => h.row_fKinds.lt h0), h.sl_fKinds, h.wfs_fKinds⟩
theorem ActOk.drew {w w1 : World} {x : ActV} (h : ActOk w x) (d : Drew w w1) : ActOk w1 x := h.below (d.below (Below.refl _ _))
theorem cells37 : Try.prog.cellsOf 37 = 5 := by kernel_rfl
theorem cells3 : Try.prog.cellsOf 3 = 1 := by kernel_rfl
theorem cells39 : Try.prog.cellsOf 39 = 8 := by kernel_rfl
theorem cells25 : Try.prog.cellsOf 25 = 1 := by kernel_rfl
theorem cells35 : Try.prog.cellsOf 35 = 1 := by kernel_rfl
theorem open_Act {H : Type} {enc : TypeId × Value → H} {w : World} {base : Nat} {sp : Nat → Bool} {held : Bool} {fuel : Nat} {cs : List Value} {x : DataW H × List MemPlace}
    (h : DataW.trod enc Try.prog w base sp held fuel 37 cs = some x) : ∃ o : ActV, cs = actV o ∧ ActOk w o := by
  obtain ⟨xs, n, rfl, -, hl, hlen, hf⟩ := DataW.trod_struct Try.underlying37 h
  rw [cells37] at hl
  have hlen5 : xs.length = 5 := hlen
  match cs, hl with
  | [c0, c1, c2, c3, c4], _ =>
    have g : ∀ (i : Nat) (f : Field) (q : Nat) (c : List Value), _ → Try.prog.cellsOf f.type = q → (([c0, c1, c2, c3, c4] : List Value).drop f.offset).take q = c → DataW.trod enc Try.prog w base sp held n f.type c = xs[i]? := fun i f q c h1 h2 h3 => by
      have := hf i f h1
      rw [h2, h3] at this
      exact this
    have f0 := (g 0 _ 1 [c0] rfl cells3 rfl).trans (List.getElem?_eq_getElem (by omega))
    obtain ⟨afDo, efDo, -, wfDo⟩ := DataW.trod_int Try.underlying3 f0
    have f1 := (g 1 _ 1 [c1] rfl cells3 rfl).trans (List.getElem?_eq_getElem (by omega))
    obtain ⟨afN, efN, -, wfN⟩ := DataW.trod_int Try.underlying3 f1
    have f2 := (g 2 _ 1 [c2] rfl cells3 rfl).trans (List.getElem?_eq_getElem (by omega))
    obtain ⟨afJ, efJ, -, wfJ⟩ := DataW.trod_int Try.underlying3 f2
    have f3 := (g 3 _ 1 [c3] rfl cells25 rfl).trans (List.getElem?_eq_getElem (by omega))
    obtain ⟨pfList, afList, lfList, efList, rfList, sfList, kfList, -⟩ := open_rowM (L := objL) (Ok := fun _ => True) Try.underlying25 cells39 (fun h => (open_obj h).imp fun _ h => ⟨h, trivial⟩) f3
    have f4 := (g 4 _ 1 [c4] rfl cells35 rfl).trans (List.getElem?_eq_getElem (by omega))
    obtain ⟨pfKinds, afKinds, lfKinds, efKinds, rfKinds, sfKinds, kfKinds, -⟩ := open_ints Try.underlying35 Try.underlying3 cells3 f4
    simp only [List.cons.injEq, and_true] at efDo efN efJ efList efKinds
    refine ⟨⟨afDo, afN, afJ, pfList, afList, lfList, pfKinds, afKinds, lfKinds⟩, ?_, ⟨wfDo, wfN, wfJ, rfList, sfList, rfKinds, sfKinds, kfKinds⟩⟩
    rw [efDo, efN, efJ, efList, efKinds]
    rfl

theorem law_fits (o : ObjV) (k : Int) (w : World) :
    Calls Try.prog 25 #[.agg (objV o).toArray, .int .i64 k] w fun e w' => e = .returned (.bool (fitO o k)) ∧ Below w.heap.size w w' := by
  refine W.enter Try.func25 rfl Try.ntmps25 (Nat.le_of_ble_eq_true rfl) ?_
  have hB0 := Below.refl (w.heap.size) w
  refine W.seq ?_
  refine W.reg ?_ -- 0
  refine WL.box rfl rfl (fun b1 wb1 eb1 hkb1 hub1 hsb1 => ?_)
  have hB2 := Upd.below hB0 (by rw [eb1]; exact hB0.size) hub1
  have hgeb1 : w.heap.size ≤ b1 := by rw [eb1]; exact hB0.size
  refine WL.p (.as rfl) rfl <| WL.nil <| ?_
  refine W.seq ?_
  refine W.seq ?_
  refine W.reg ?_ -- 1
  refine WL.p (.mv rfl) rfl <| WL.nil <| ?_
  refine W.block ?_
  refine W.seq ?_
  refine W.reg ?_ -- 2
  refine WL.p (.eql rfl rfl) rfl <| WL.p (.as rfl) rfl <| WL.nil <| ?_
  refine W.cond rfl (fun h3 => ?_) (fun h3 => ?_) -- slot 6
  · have h3' := of_decide_eq_true h3
    refine W.seq ?_
    refine W.reg ?_ -- 3
    refine WL.p (.fa Try.underlying39 rfl Try.sizeOf3 (by decide) rfl) rfl <| WL.r (Rd.ld (Try.isAgg3 _) rfl hkb1 rfl) rfl <| WL.p (.eql rfl rfl) rfl <| WL.p (.mv rfl) rfl <| WL.gd rfl rfl rfl (fun g4 => ?_) (fun g4 => ?_)
    · have g4' := of_decide_eq_false g4
      refine WL.p (.fa Try.underlying39 rfl Try.sizeOf3 (by decide) rfl) rfl <| WL.gy rfl rfl rfl g4 <| WL.r (Rd.ld (Try.isAgg3 _) rfl hkb1 rfl) rfl <| WL.gy rfl rfl rfl g4 <| WL.p (.eql rfl rfl) rfl <| WL.p (.pkF rfl g4 rfl) rfl <| WL.p (.as rfl) rfl <| WL.nil <| ?_
      refine W.ret (W.ret1 rfl rfl ?_)
      exact ⟨rbE (by unfold fitO; simp_all), hB2⟩
    · have g4' := of_decide_eq_true g4
      refine WL.gn rfl rfl rfl g4 <| WL.gn rfl rfl rfl g4 <| WL.p (.pkT rfl g4 rfl) rfl <| WL.p (.as rfl) rfl <| WL.nil <| ?_
      refine W.ret (W.ret1 rfl rfl ?_)
      exact ⟨rbE (by unfold fitO; simp_all), hB2⟩
  · have h3' := of_decide_eq_false h3
    refine W.seq ?_
    refine W.reg ?_ -- 4
    refine WL.p (.eql rfl rfl) rfl <| WL.p (.as rfl) rfl <| WL.nil <| ?_
    refine W.cond rfl (fun h5 => ?_) (fun h5 => ?_) -- slot 16
    · have h5' := of_decide_eq_true h5
      refine W.seq ?_
      refine W.reg ?_ -- 5
      refine WL.p (.as rfl) rfl <| WL.nil <| ?_
      refine W.ret (W.ret1 rfl rfl ?_)
      exact ⟨rbE (by unfold fitO; simp_all), hB2⟩
    · have h5' := of_decide_eq_false h5
      refine W.seq ?_
      refine W.reg ?_ -- 6
      refine WL.p (.eql rfl rfl) rfl <| WL.p (.as rfl) rfl <| WL.nil <| ?_
      refine W.cond rfl (fun h6 => ?_) (fun h6 => ?_) -- slot 18
      · have h6' := of_decide_eq_true h6
        refine W.seq ?_
        refine W.reg ?_ -- 7
        refine WL.p (.fa Try.underlying39 rfl Try.sizeOf3 (by decide) rfl) rfl <| WL.r (Rd.ld (Try.isAgg3 _) rfl hkb1 rfl) rfl <| WL.p (.eql rfl rfl) rfl <| WL.p (.mv rfl) rfl <| WL.gd rfl rfl rfl (fun g7 => ?_) (fun g7 => ?_)
        · have g7' := of_decide_eq_false g7
          refine WL.p (.fa Try.underlying39 rfl Try.sizeOf3 (by decide) rfl) rfl <| WL.gy rfl rfl rfl g7 <| WL.r (Rd.ld (Try.isAgg3 _) rfl hkb1 rfl) rfl <| WL.gy rfl rfl rfl g7 <| WL.p (.eql rfl rfl) rfl <| WL.p (.pkF rfl g7 rfl) rfl <| WL.p (.as rfl) rfl <| WL.nil <| ?_
          refine W.ret (W.ret1 rfl rfl ?_)
          exact ⟨rbE (by unfold fitO; simp_all), hB2⟩
        · have g7' := of_decide_eq_true g7
          refine WL.gn rfl rfl rfl g7 <| WL.gn rfl rfl rfl g7 <| WL.p (.pkT rfl g7 rfl) rfl <| WL.p (.as rfl) rfl <| WL.nil <| ?_
          refine W.ret (W.ret1 rfl rfl ?_)
          exact ⟨rbE (by unfold fitO; simp_all), hB2⟩
      · have h6' := of_decide_eq_false h6
        refine W.seq ?_
        refine W.reg ?_ -- 8
        refine WL.p (.eql rfl rfl) rfl <| WL.p (.as rfl) rfl <| WL.nil <| ?_
        refine W.cond rfl (fun h8 => ?_) (fun h8 => ?_) -- slot 28
        · have h8' := of_decide_eq_true h8
          refine W.seq ?_
          refine W.reg ?_ -- 9
          refine WL.p (.fa Try.underlying39 rfl Try.sizeOf3 (by decide) rfl) rfl <| WL.r (Rd.ld (Try.isAgg3 _) rfl hkb1 rfl) rfl <| WL.p (.eql rfl rfl) rfl <| WL.p (.mv rfl) rfl <| WL.gd rfl rfl rfl (fun g9 => ?_) (fun g9 => ?_)
          · have g9' := of_decide_eq_true g9
            refine WL.p (.fa Try.underlying39 rfl Try.sizeOf4 (by decide) rfl) rfl <| WL.gy rfl rfl rfl g9 <| WL.r (Rd.ld (Try.isAgg4 _) rfl hkb1 rfl) rfl <| WL.p (.pkT rfl g9 rfl) rfl <| WL.p (.as rfl) rfl <| WL.nil <| ?_
            refine W.ret (W.ret1 rfl rfl ?_)
            exact ⟨rbE (by unfold fitO; simp_all), hB2⟩
          · have g9' := of_decide_eq_false g9
            refine WL.gn rfl rfl rfl g9 <| WL.p (.pkF rfl g9 rfl) rfl <| WL.p (.as rfl) rfl <| WL.nil <| ?_
            refine W.ret (W.ret1 rfl rfl ?_)
            exact ⟨rbE (by unfold fitO; simp_all), hB2⟩
        · have h8' := of_decide_eq_false h8
          refine W.skip ?_
          refine W.seq ?_
          refine W.reg ?_ -- 10
          refine WL.p (.fa Try.underlying39 rfl Try.sizeOf3 (by decide) rfl) rfl <| WL.r (Rd.ld (Try.isAgg3 _) rfl hkb1 rfl) rfl <| WL.p (.mv rfl) rfl <| WL.p (.eql rfl rfl) rfl <| WL.p (.as rfl) rfl <| WL.nil <| ?_
          refine W.ret (W.ret1 rfl rfl ?_)
          exact ⟨rbE (by unfold fitO; simp_all), hB2⟩

/-- the list that the law keeps: it lies apart from the stack -/
structure Mod (w : World) (b : Nat) (v mv : Value) (l : List ObjV) : Prop where
  ex : ∃ p c, mv = .slice p l.length c ∧ RowM objL w p l ∧ SlOk p l c ∧ (0 < l.length → (pA p).block < w.heap.size ∧ (pA p).block ∉ b :: v.ownBlock.toList)
theorem Mod.below {w w1 : World} {b : Nat} {v mv : Value} {l : List ObjV} (h : Mod w b v mv l) (hb : Below w.heap.size w w1) : Mod w1 b v mv l := by
  obtain ⟨p, c, h1, h2, h3, h4⟩ := h.ex
  exact ⟨p, c, h1, h2.below hb (fun h0 => h2.lt h0), h3, fun h0 => ⟨Nat.lt_of_lt_of_le (h4 h0).1 hb.size, (h4 h0).2⟩⟩
theorem Mod.stk {w w1 : World} {b : Nat} {v v' mv : Value} {l : List ObjV} (h : Mod w b v mv l) (hk : Stk b v v' w w1) : Mod w1 b v' mv l := by
  obtain ⟨p, c, h1, h2, h3, h4⟩ := h.ex
  refine ⟨p, c, h1, h2.keepB hk.1 h4, h3, fun h0 => ⟨Nat.lt_of_lt_of_le (h4 h0).1 hk.1.size, ?_⟩⟩
  have h5 := h4 h0
  simp only [List.mem_cons, Option.mem_toList, not_or] at h5 ⊢
  exact ⟨h5.2.1, fun e => by rcases hk.2 _ e with h | h; exact h5.2.2 h; omega⟩

end Go.Proofs.Ytnjalolknhepdaa
