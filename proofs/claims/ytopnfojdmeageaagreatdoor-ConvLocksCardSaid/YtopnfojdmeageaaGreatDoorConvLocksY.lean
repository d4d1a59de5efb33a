/-
  The law ConvLocks: access is only ever taken away, as a card.
-/
import Derived.Test.YtopnfojdmeageaaGreatDoorCl3
namespace Go.Proofs.YtopnfojdmeageaaGreatDoor
open Go.RowKit
open Go.Proofs.Tryz
section
open Go.ChangeShapes Go.WideShapes Go.ChangeAt Go.RowKit
theorem own : ownKnob Tryz.prog.godebug = none := by kernel_rfl
theorem laidOut : laidOutB Tryz.prog = true := by kernel_rfl
def putCells (cs : Array Value) : Obj → Obj
 | .cells _ t frozen => .cells cs t frozen
 | o => o
def litCell : DataW Unit → Value
 | .lit (.int k z) => .int k z
 | .lit (.string s) => .string ⟨s.toArray⟩
 | _ => .bool false
def dataCells : DataW Unit → Array Value
 | .agg ps => (ps.map litCell).toArray
 | _ => #[]
def rangeCells : Array Value := #[.int .u8 128, .int .u8 191, .int .u8 160, .int .u8 191, .int .u8 128, .int .u8 159, .int .u8 144, .int .u8 191, .int .u8 128, .int .u8 143, .int .u8 0, .int .u8 0, .int .u8 0, .int .u8 0, .int .u8 0, .int .u8 0, .int .u8 0, .int .u8 0, .int .u8 0, .int .u8 0, .int .u8 0, .int .u8 0, .int .u8 0, .int .u8 0, .int .u8 0, .int .u8 0, .int .u8 0, .int .u8 0, .int .u8 0, .int .u8 0, .int .u8 0, .int .u8 0]
def firstCells : Array Value := (Go.Pinned.utf8FirstZ.map fun (n : Nat) => Value.int .u8 (n : Int)).toArray
noncomputable def low : Nat := (World.holding Tryz.prog default ⟨#[], #[], []⟩).heap.size
noncomputable def base0 (os : Os) : World := World.holding Tryz.prog os ⟨#[.cells Lib.caseCells5 (Tryz.lays203_ren.t 208)], #[], []⟩
/-- a world for a witness: the settled one, the listed variables holding what their initialisers lay -/
noncomputable def laidWorld (os : Os) : World :=
 { base0 os with heap := ((((((((base0 os).heap.modify 6 (putCells (dataCells Rows.laid_math_bits_deBruijn32tab))).modify 7 (putCells (dataCells Rows.laid_math_bits_deBruijn64tab))).modify 2 (putCells (dataCells Rows.laid_internal_strconv_uint64pow10))).modify 0 (putCells (dataCells Rows.laid_mezzotint_conv_types))).modify 5 (putCells rangeCells)).modify 1 (putCells #[.slice (some ⟨low, 0, none⟩) 336 336])).modify 4 (putCells firstCells)) }
theorem env_of {W : World} (h : laidMetH Tryz.prog Rows.convBackRow.laid W) (_hS : W.ShapedOpen Tryz.prog) : EnvC W := by
 have h1 : laidMet Tryz.prog Rows.convBackRow.laid W := by
  rw [MakeChecks.laidMetH_plain _ _ _ kR] at h; exact h
 exact ⟨Lib.tabIs_of_head (g := 2) (zs := Lib.pow10Tab) kR kR underlying167 underlying82 kR kR h1.tail.tail,
  Lib.tabIs_of_head (g := 7) kR kR underlying204 underlying5 kR kR h1.tail⟩
theorem laid_swap {P : Program} {w : World} {x y : String × DataW Unit} : ∀ (l : List (String × DataW Unit)) (ps : List MemPlace), DataW.LaidVars P w (l ++ [x, y]) ps → ∃ qs, DataW.LaidVars P w (l ++ [y, x]) qs ∧ qs.Perm ps
 | [], ps, h => by
  obtain ⟨n1, d1⟩ := x
  obtain ⟨n2, d2⟩ := y
  obtain ⟨g, t, cs, fu, p, q, h1, h2, h3, h4, ⟨g', t', cs', fu', p', q', h1', h2', h3', h4', h5', rfl⟩, rfl⟩ := h
  obtain rfl : q' = [] := h5'
  refine ⟨_, ⟨g', t', cs', fu', p', _, h1', h2', h3', h4', ⟨g, t, cs, fu, p, [], h1, h2, h3, h4, rfl, rfl⟩, rfl⟩, ?_⟩
  simp only [List.append_nil]
  exact List.perm_append_comm
 | (n, d) :: l, ps, h => by
  obtain ⟨g, t, cs, fu, p, q, h1, h2, h3, h4, h5, rfl⟩ := h
  obtain ⟨qs, hq, hp⟩ := laid_swap l q h5
  exact ⟨_, ⟨g, t, cs, fu, p, qs, h1, h2, h3, h4, hq, rfl⟩, List.Perm.append_left _ hp⟩
theorem laidMet_swap {P : Program} {w : World} {x y : String × DataW Unit} (l : List (String × DataW Unit)) (h : laidMet P (l ++ [x, y]) w) : laidMet P (l ++ [y, x]) w := by
 obtain ⟨ps, h1, h2, h3⟩ := h
 obtain ⟨qs, hq, hp⟩ := laid_swap l ps h1
 exact ⟨qs, hq, hp.symm.nodup h2, fun b off hm => h3 b off (hp.mem_iff.1 hm)⟩
theorem laid_all (os : Os) (args : Array Value) : laidMet Tryz.prog Rows.convBackRow.laid ((laidWorld os).forCall (fun _ _ => 0) ⟨#[], args, []⟩).memory :=
  laidMet_swap [("math/bits.deBruijn32tab", Rows.laid_math_bits_deBruijn32tab), ("math/bits.deBruijn64tab", Rows.laid_math_bits_deBruijn64tab), ("internal/strconv.uint64pow10", Rows.laid_internal_strconv_uint64pow10), ("unicode/utf8.acceptRanges", Rows.laid_unicode_utf8_acceptRanges), ("mezzotint/conv.types", Rows.laid_mezzotint_conv_types)]
    (by
      have h := laidMet_with_case (ρ := Tryz.lays203_ren) { Tryz.lays203 with } kR ⟨by kernel_rfl, by kernel_rfl, by kernel_rfl, by kernel_rfl, by kernel_rfl, by kernel_rfl⟩
        (w := ((laidWorld os).forCall (fun _ _ => 0) ⟨#[], args, []⟩).memory)
        (l := [("math/bits.deBruijn32tab", Rows.laid_math_bits_deBruijn32tab), ("math/bits.deBruijn64tab", Rows.laid_math_bits_deBruijn64tab), ("internal/strconv.uint64pow10", Rows.laid_internal_strconv_uint64pow10), ("unicode/utf8.acceptRanges", Rows.laid_unicode_utf8_acceptRanges), ("mezzotint/conv.types", Rows.laid_mezzotint_conv_types), ("unicode/utf8.first", Rows.laid_unicode_utf8_first)])
        10 kR kR kR low (Tryz.lays203_ren.t 208) (dT kR) kR kR kR
      rw [← Pinned.caseRanges_eq] at h
      exact h)
end
section
open Go.ChangeShapes Go.WideShapes Go.ChangeAt Go.RowKit
structure ThingV where
 fKind : Int
 fN : Int
 fAccess : Int
 fName : List UInt8
 fText : List UInt8
 fExec : Bool
def thingV (x : ThingV) : List Value := [.int .i64 x.fKind, .int .i64 x.fN, .int .i64 x.fAccess, .string (bs x.fName), .string (bs x.fText), .bool x.fExec]
structure ThingOk (w : World) (x : ThingV) : Prop where
 wf_fKind : (Lit.int .i64 x.fKind).wf = true
 wf_fN : (Lit.int .i64 x.fN).wf = true
 wf_fAccess : (Lit.int .i64 x.fAccess).wf = true
 len_fName : x.fName.length ≤ maxLen
 len_fText : x.fText.length ≤ maxLen
theorem ThingOk.below {w w1 : World} {x : ThingV} (h : ThingOk w x) (hb : Below w.heap.size w w1) : ThingOk w1 x :=
 ⟨h.wf_fKind, h.wf_fN, h.wf_fAccess, h.len_fName, h.len_fText⟩
theorem ThingOk.drew {w w1 : World} {x : ThingV} (h : ThingOk w x) (d : Drew w w1) : ThingOk w1 x := h.below (d.below (Below.refl _ _))
theorem cells42 : Tryz.prog.cellsOf 42 = 6 := by kernel_rfl
theorem cells3 : Tryz.prog.cellsOf 3 = 1 := by kernel_rfl
theorem cells9 : Tryz.prog.cellsOf 9 = 1 := by kernel_rfl
theorem cells4 : Tryz.prog.cellsOf 4 = 1 := by kernel_rfl
set_option maxRecDepth 20000 in
theorem open_Thing {H : Type} {enc : TypeId × Value → H} {w : World} {base : Nat} {sp : Nat → Bool} {held : Bool} {fuel : Nat} {cs : List Value} {x : DataW H × List MemPlace}
  (h : DataW.trod enc Tryz.prog w base sp held fuel 42 cs = some x) : ∃ o : ThingV, cs = thingV o ∧ ThingOk w o := by
 obtain ⟨xs, n, rfl, -, hl, hlen, hf⟩ := DataW.trod_struct underlying42 h
 rw [cells42] at hl
 have hlen6 : xs.length = 6 := hlen
 match cs, hl with
 | [c0, c1, c2, c3, c4, c5], _ =>
  have g : ∀ (i : Nat) (f : Field) (q : Nat) (c : List Value), _ → Tryz.prog.cellsOf f.type = q → (([c0, c1, c2, c3, c4, c5] : List Value).drop f.offset).take q = c → DataW.trod enc Tryz.prog w base sp held n f.type c = xs[i]? := fun i f q c h1 h2 h3 => by
   have := hf i f h1
   rw [h2, h3] at this
   exact this
  have f0 := (g 0 _ 1 [c0] rfl cells3 rfl).trans (List.getElem?_eq_getElem oO)
  obtain ⟨afKind, efKind, -, wfKind⟩ := DataW.trod_int underlying3 f0
  have f1 := (g 1 _ 1 [c1] rfl cells3 rfl).trans (List.getElem?_eq_getElem oO)
  obtain ⟨afN, efN, -, wfN⟩ := DataW.trod_int underlying3 f1
  have f2 := (g 2 _ 1 [c2] rfl cells3 rfl).trans (List.getElem?_eq_getElem oO)
  obtain ⟨afAccess, efAccess, -, wfAccess⟩ := DataW.trod_int underlying3 f2
  have f3 := (g 3 _ 1 [c3] rfl cells9 rfl).trans (List.getElem?_eq_getElem oO)
  obtain ⟨afName, efName, -, wfName⟩ := DataW.trod_string underlying9 f3
  have f4 := (g 4 _ 1 [c4] rfl cells9 rfl).trans (List.getElem?_eq_getElem oO)
  obtain ⟨afText, efText, -, wfText⟩ := DataW.trod_string underlying9 f4
  have f5 := (g 5 _ 1 [c5] rfl cells4 rfl).trans (List.getElem?_eq_getElem oO)
  obtain ⟨afExec, efExec, -⟩ := DataW.trod_bool underlying4 f5
  simp only [List.cons.injEq, and_true] at efKind efN efAccess efName efText efExec
  refine ⟨⟨afKind, afN, afAccess, afName.data.toList, afText.data.toList, afExec⟩, ?_, ⟨wfKind, wfN, wfAccess, (by rw [Array.length_toList]; exact wfName), (by rw [Array.length_toList]; exact wfText)⟩⟩
  rw [efKind, efN, efAccess, efName, efText, efExec]
  rfl
/-- the store, with the reference's memory apart from it: all that both may turn -/
structure StoM (K : Prop) (bm : Nat) (w : World) (b : Nat) (G : Nat → Prop) (S : StoV) : Prop where
 ex : ∃ F, Sto w b F S ∧ (∀ g, F g → G g) ∧ ¬ F bm
 gm : G bm
 lt : ∀ {g}, G g → g < w.heap.size
 blk : K → Blk w bm (memC 500 0) 48
section
variable {K : Prop} {bm b : Nat} {w w1 : World} {G : Nat → Prop} {S : StoV}
theorem StoM.same (h : StoM K bm w b G S) (hs : ∀ g, G g → g < w.heap.size → w1.heap[g]? = w.heap[g]?) : StoM K bm w1 b G S := by
 obtain ⟨F, h1, h2, h3⟩ := h.ex
 refine ⟨⟨F, h1.same fun g hg hl => hs g (h2 g hg) hl, h2, h3⟩, h.gm, fun {g} hg => ?_, fun k => (hs bm h.gm (h.lt h.gm)).trans (h.blk k)⟩
 have h5 := h.lt hg
 have h6 := hs g hg h5
 rcases Nat.lt_or_ge g w1.heap.size with h7 | h7
 ·
  exact h7
 ·
  rw [Array.getElem?_eq_none h7, Array.getElem?_eq_getElem h5] at h6; cases h6
theorem StoM.sto (h : StoM K bm w b G S) : ∃ F, Sto w b F S ∧ (∀ g, F g → G g) ∧ ∀ {F1 S1 w1}, Sto w1 b F1 S1 → Chg F F1 w w1 → ∃ G1, StoM K bm w1 b G1 S1 ∧ Chg G G1 w w1 := by
 obtain ⟨F, h1, h2, h3⟩ := h.ex
 refine ⟨F, h1, h2, fun {F1 S1 w1} k1 k2 => ⟨fun g => F1 g ∨ G g, ⟨⟨F1, k1, fun g => .inl, ?_⟩, .inr h.gm, fun {g} hg => ?_, fun k => (h.blk k).chg k2 h3⟩, ⟨k2.os, k2.tape, k2.output, k2.size, fun g hg hn => k2.block g hg fun e => hn (h2 g e), fun g hg => ?_⟩⟩⟩
 ·
  exact k2.nf h3 (h.lt h.gm)
 ·
  rcases hg with h5 | h5
  ·
   exact k1.lt h5
  ·
   exact Nat.lt_of_lt_of_le (h.lt h5) k2.size
 ·
  rcases hg with h5 | h5
  ·
   exact (k2.new g h5).imp (h2 g) id
  ·
   exact .inl h5
theorem StoM.mem (h : StoM K bm w b G S) (hk : KeepB w.heap.size [bm] w w1) : StoM False bm w1 b G S ∧ Chg G G w w1 := by
 obtain ⟨F, h1, h2, h3⟩ := h.ex
 refine ⟨⟨⟨F, h1.same fun g hg hl => hk.block g hl (by simp only [List.mem_singleton]; exact fun e => h3 (e ▸ hg)), h2, h3⟩, h.gm, fun {g} hg => Nat.lt_of_lt_of_le (h.lt hg) hk.size, False.elim⟩, ⟨hk.os, hk.tape, hk.output, hk.size, fun g hl hn => hk.block g hl (by simp only [List.mem_singleton]; exact fun e => hn (e ▸ h.gm)), fun g hg => .inl hg⟩⟩
theorem StoM.of {F : Nat → Prop} (h : Sto w b F S) (hb : Blk w bm (memC 500 0) 48) (hn : ¬ F bm) : StoM True bm w b (fun g => F g ∨ g = bm) S :=
 ⟨⟨F, h, fun g => .inl, hn⟩, .inr rfl, fun {g} hg => by rcases hg with h5 | rfl; exact h.lt h5; exact hb.lt, fun _ => hb⟩
end
theorem law10_access (b : Nat) (F : Nat → Prop) (S : StoV) (o : ObjV) (w : World) (h : Sto w b F S) (hok : SOk S) :
  Calls Tryz.prog 14 #[.pointer (some ⟨b, 0, none⟩), .agg (objV o).toArray] w fun e w' => e = .returned (.int .i64 (accO S o)) ∧ Below w.heap.size w w' := by
 refine W.enter func14 rfl ntmps14 (Nat.le_of_ble_eq_true rfl) ?_
 have hB0 := Below.refl (w.heap.size) w
 refine W.sr <| WL.box rfl rfl (fun b1 wb1 eb1 hkb1 hub1 hsb1 => ?_)
 have hB2 := Upd.below hB0 (by rw [eb1]; exact hB0.size) hub1
 have hgeb1 : w.heap.size ≤ b1 := by rw [eb1]; exact hB0.size
 refine WL.z rfl rfl ?_
 refine W.seq <| W.sr <| WL.p (.fa underlying27 rfl sizeOf3 dD rfl) rfl <| WL.r (Rd.ld (isAgg3 _) rfl hkb1 rfl) rfl <| WL.p (.eql rfl rfl) rfl <| WL.nil <| ?_
 refine W.cond rfl (fun h3 => ?_) (fun h3 => ?_)
 have h3' := dT h3
 refine W.sr <| WL.m rfl rfl <| WL.r (Rd.ldA rfl hkb1 underlying27 rfl isz27) rfl <| WL.c1 hb35 rfl rfl ((sto_Access b F S o _ (h.below hB2) hok)) (fun w4 hw4 => ?_)
 have hB6 := btr hB2 hw4
 refine WL.z rfl rfl ?_
 refine W.ret (W.ret1 rfl rfl ?_)
 exact ⟨riE (by unfold accO; rw [if_pos aS]), hB6⟩
 have h3' := dF h3
 refine W.skip <| W.sr <| WL.p (.fa underlying27 rfl sizeOf3 dD rfl) rfl <| WL.r (Rd.ld (isAgg3 _) rfl hkb1 rfl) rfl <| WL.z rfl rfl ?_
 refine W.ret (W.ret1 rfl rfl ?_)
 exact ⟨riE (by unfold accO; rw [if_neg aS]), hB2⟩
end
section
theorem StoM.weak {K : Prop} {bm b : Nat} {w : World} {G : Nat → Prop} {S : StoV} (h : StoM K bm w b G S) : StoM False bm w b G S := ⟨h.ex, h.gm, h.lt, False.elim⟩
theorem lk_text (l : List UInt8) (a : Int) (x : Bool) (h : strE (S0 500) l.length = 0) (h0 : 0 ≤ a) (h3 : a ≤ 3) : LockOk (textS (S0 500) l) { strO (S0 500) l.length with access := a, exec := x } := by
 have hO : strO (S0 500) l.length = ⟨6, false, 0, 0, [], 0, 0, l.length⟩ := if_pos h
 have hS : textS (S0 500) l = ⟨500 - strC l.length, [l], [], [], [], []⟩ := if_pos h
 obtain ⟨-, h5, h6⟩ := takeE_ok h
 have h7 : strC l.length ≤ 500 := h6
 have h8 : 1 ≤ strC l.length := by unfold strC; omega
 rw [hO, hS]
 refine ⟨?_, .inl rfl, h0, h3, ⟨by show (0 : Int) ≤ 500 - strC l.length; omega, by show ((1 : Nat) + (0 : Nat) + (0 : Nat) : Int) + (500 - strC l.length) ≤ 1048576; omega, fun x hx => ?_, fun x hx => by simp at hx, fun x hx => by simp at hx⟩, rfl, rfl, rfl⟩
 ·
  unfold validB withinB
  rw [if_pos rfl]
  simp
 ·
  simp only [List.mem_cons, List.not_mem_nil, or_false] at hx; subst hx; omega
theorem lk_list (k : Nat) (a : Int) (x : Bool) (hk : k ≤ 20) (h0 : 0 ≤ a) (h3 : a ≤ 3) : LockOk (arrS (S0 500) k) { arrO (S0 500) k with access := a, exec := x } := by
 have h : arrE (S0 500) k = 0 := by
  show takeE k 65535 (arrC k) 500 = 0
  unfold takeE arrC
  rw [if_neg oO, if_neg oO, if_neg oO]
 have hO : arrO (S0 500) k = ⟨7, false, 0, 0, [], 0, 0, k⟩ := if_pos h
 have hS : arrS (S0 500) k = ⟨500 - arrC k, [], [List.replicate k ob0], [], [], []⟩ := if_pos h
 have h8 : 0 ≤ arrC k ∧ arrC k ≤ 500 := by unfold arrC; omega
 rw [hO, hS]
 refine ⟨?_, .inr (.inl rfl), h0, h3, ⟨by show (0 : Int) ≤ 500 - arrC k; omega, by show ((0 : Nat) + (1 : Nat) + (0 : Nat) : Int) + (500 - arrC k) ≤ 1048576; omega, fun x hx => by simp at hx, fun x hx => ?_, fun x hx => by simp at hx⟩, rfl, rfl, rfl⟩
 ·
  unfold validB withinB
  rw [if_neg (show ¬ (7 : Int) = 6 by decide), if_pos rfl]
  simp
 ·
  simp only [List.mem_cons, List.not_mem_nil, or_false] at hx; subst hx; simp only [List.length_replicate]; omega
theorem lk_dict0 (k : Nat) (x : Bool) (hk : k ≤ 20) : LockOk (dicS (S0 500) k) { dicO (S0 500) k with exec := x } ∧ dicO (S0 500) k = ⟨8, false, 0, 0, [], 0, 0, 0⟩ := by
 have h : dicE (S0 500) k = 0 := by
  show takeE k 4096 (dicC k) 500 = 0
  unfold takeE dicC
  rw [if_neg oO, if_neg oO, if_neg oO]
 have hO : dicO (S0 500) k = ⟨8, false, 0, 0, [], 0, 0, 0⟩ := if_pos h
 have hS : dicS (S0 500) k = ⟨500 - dicC k, [], [], [⟨k, 0, []⟩], [], []⟩ := if_pos h
 have h8 : 0 ≤ dicC k ∧ dicC k ≤ 500 := by unfold dicC; omega
 rw [hO, hS]
 have hv : validB (⟨500 - dicC k, [], [], [⟨k, 0, []⟩], [], []⟩ : StoV) ⟨8, x, 0, 0, [], 0, 0, 0⟩ = true := by
  unfold validB
  rw [if_neg (show ¬ (8 : Int) = 6 by decide), if_neg (show ¬ (8 : Int) = 7 by decide), if_pos rfl]; simp
 have ha : accO (⟨500 - dicC k, [], [], [⟨k, 0, []⟩], [], []⟩ : StoV) ⟨8, x, 0, 0, [], 0, 0, 0⟩ = 0 := by
  rw [accO_dict rfl]; unfold accD isDict
  rw [hv]; rfl
 refine ⟨⟨hv, .inr (.inr rfl), by rw [ha]; decide, by rw [ha]; decide, ⟨by show (0 : Int) ≤ 500 - dicC k; omega, by show ((0 : Nat) + (0 : Nat) + (1 : Nat) : Int) + (500 - dicC k) ≤ 1048576; omega, fun x hx => by simp at hx, fun x hx => by simp at hx, fun d hd => ?_⟩, rfl, rfl, rfl⟩, rfl⟩
 simp only [List.mem_cons, List.not_mem_nil, or_false] at hd
 subst hd
 exact ⟨Int.natCast_nonneg k, by show (k : Int) ≤ 4096; omega, Int.le_refl _, show (0 : Int) ≤ 3 by decide⟩
theorem lk_dict (k : Nat) (a : Int) (x : Bool) (hk : k ≤ 20) (h0 : 0 ≤ a) (h3 : a ≤ 3) : LockOk (lockS (dicS (S0 500) k) (dicO (S0 500) k) a) { dicO (S0 500) k with exec := x } := by
 obtain ⟨h1, h2⟩ := lk_dict0 k x hk
 have h4 := lock_dict h1 (by rw [h2]) h0 h3
 have e : lockS (dicS (S0 500) k) { dicO (S0 500) k with exec := x } a = lockS (dicS (S0 500) k) (dicO (S0 500) k) a := rfl
 rw [e] at h4
 exact h4.1
theorem lk_dsok (k : Nat) (hk : k ≤ 20) : SOk (dicS (S0 500) k) ∧ (dicS (S0 500) k).changes.length ≤ 800000000000 := by
 have h := (lk_dict0 k false hk).1
 exact ⟨h.ok, by rw [h.c]; decide⟩
theorem W.retcc {P : Program} {fn : Func} {R : Ending → World → Prop} {f : Fr} {w : World} {t u s : Tmp} {ty tz : TypeId} {b c : Addr} {v x y : Value} (hr : fn.results = #[.cell t ty, .cell u tz, .tmp s])
  (ht : look f t = some (.pointer (some b))) (hv : (loadVar ty b).run P w = .ok v w) (hu : look f u = some (.pointer (some c))) (hx : (loadVar tz c).run P w = .ok x w) (hy : look f s = some y)
  (h : R (.returned (.tuple #[v, x, y])) w) : Post P fn R .ret f w := by
 unfold Post
 exact ⟨_, fun tmps hh => by
  have e1 := hh _ _ ht; have e2 := hh _ _ hu; have e3 := hh _ _ hy
  simp only [Array.getD_eq_getD_getElem?] at e1 e2 e3
  simp [results, hr, e1, e2, e3, asAddr, hv, hx], h⟩
structure LkB (kd ac : Int) (o : ObjV) (S : StoV) (e : Int) : Prop where
 tl : e = 0 → kd = 6 ∨ kd = 7 → ∀ x, LockOk S { o with access := ac, exec := x }
 d : e = 0 → kd = 8 → ∀ x, LockOk S { o with exec := x }
set_option maxHeartbeats 4000000 in
theorem law10_build' (b bm : Nat) (G : Nat → Prop) (kd nn ac : Int) (nm tx : List UInt8) (ex : Bool) (w : World) (h : StoM True bm w b G (S0 500)) :
  Calls Tryz.prog 13 #[.pointer (some ⟨b, 0, none⟩), .pointer (some ⟨bm, 0, none⟩), .agg #[.int .i64 kd, .int .i64 nn, .int .i64 ac, .string (bs nm), .string (bs tx), .bool ex]] w fun e w' => ∃ q, e = .returned q ∧ ∃ (o : ObjV) (v : ValV) (G1 : Nat → Prop) (S1 : StoV) (ok : Bool), q = .tuple #[.agg (objV o).toArray, .agg (valV v).toArray, .bool ok] ∧ StoM False bm w' b G1 S1 ∧ Chg G G1 w w' ∧ (ok = true → 6 ≤ kd → kd ≤ 8 → LockOk S1 o) := by
 refine W.enter func13 rfl ntmps13 (Nat.le_of_ble_eq_true rfl) ?_
 have hB0 := Chg.refl G w
 refine W.sr <| WL.box rfl rfl (fun b1 wb1 eb1 hkb1 hub1 hsb1 => ?_)
 have hF2 := StoM.same (w1 := wb1) h (fun k hk hl => hub1.other k oO)
 have hgeb1 : w.heap.size ≤ b1 := by rw [eb1]; exact hB0.size
 have hB3 := Chg.upd hB0 hub1 hgeb1
 have hnf4 : ¬ G b1 := fun hq => by have hq1 := (h).lt hq; omega
 refine WL.alloc zeroValue27 rfl (fun b5 wb5 eb5 hkb5 hub5 hsb5 => ?_)
 have hF6 := StoM.same (w1 := wb5) hF2 (fun k hk hl => hub5.other k oO)
 have hl8 : b1 < b5 := by rw [eb5]; exact hkb1.lt
 have hk7 := hkb1.upd hub5 (Nat.ne_of_lt hl8)
 have hgeb5 : w.heap.size ≤ b5 := by rw [eb5]; exact hB3.size
 have hB9 := Chg.upd hB3 hub5 hgeb5
 have hnf10 : ¬ G b5 := fun hq => by have hq1 := (hF2).lt hq; omega
 refine WL.alloc zeroValue53 rfl (fun b11 wb11 eb11 hkb11 hub11 hsb11 => ?_)
 have hF12 := StoM.same (w1 := wb11) hF6 (fun k hk hl => hub11.other k oO)
 have hl14 : b1 < b11 := by rw [eb11]; exact hk7.lt
 have hk13 := hk7.upd hub11 (Nat.ne_of_lt hl14)
 have hl16 : b5 < b11 := by rw [eb11]; exact hkb5.lt
 have hk15 := hkb5.upd hub11 (Nat.ne_of_lt hl16)
 have hgeb11 : w.heap.size ≤ b11 := by rw [eb11]; exact hB9.size
 have hB17 := Chg.upd hB9 hub11 hgeb11
 have hnf18 : ¬ G b11 := fun hq => by have hq1 := (hF6).lt hq; omega
 refine WL.z rfl rfl ?_
 refine W.sr <| WL.alloc zeroValue27 rfl (fun b19 wb19 eb19 hkb19 hub19 hsb19 => ?_)
 have hF20 := StoM.same (w1 := wb19) hF12 (fun k hk hl => hub19.other k oO)
 have hl22 : b1 < b19 := by rw [eb19]; exact hk13.lt
 have hk21 := hk13.upd hub19 (Nat.ne_of_lt hl22)
 have hl24 : b5 < b19 := by rw [eb19]; exact hk15.lt
 have hk23 := hk15.upd hub19 (Nat.ne_of_lt hl24)
 have hl26 : b11 < b19 := by rw [eb19]; exact hkb11.lt
 have hk25 := hkb11.upd hub19 (Nat.ne_of_lt hl26)
 have hgeb19 : w.heap.size ≤ b19 := by rw [eb19]; exact hB17.size
 have hB27 := Chg.upd hB17 hub19 hgeb19
 have hnf28 : ¬ G b19 := fun hq => by have hq1 := (hF12).lt hq; omega
 refine WL.nil <| ?_
 refine W.sr <| WL.alloc zeroValue53 rfl (fun b29 wb29 eb29 hkb29 hub29 hsb29 => ?_)
 have hF30 := StoM.same (w1 := wb29) hF20 (fun k hk hl => hub29.other k oO)
 have hl32 : b1 < b29 := by rw [eb29]; exact hk21.lt
 have hk31 := hk21.upd hub29 (Nat.ne_of_lt hl32)
 have hl34 : b5 < b29 := by rw [eb29]; exact hk23.lt
 have hk33 := hk23.upd hub29 (Nat.ne_of_lt hl34)
 have hl36 : b11 < b29 := by rw [eb29]; exact hk25.lt
 have hk35 := hk25.upd hub29 (Nat.ne_of_lt hl36)
 have hl38 : b19 < b29 := by rw [eb29]; exact hkb19.lt
 have hk37 := hkb19.upd hub29 (Nat.ne_of_lt hl38)
 have hgeb29 : w.heap.size ≤ b29 := by rw [eb29]; exact hB27.size
 have hB39 := Chg.upd hB27 hub29 hgeb29
 have hnf40 : ¬ G b29 := fun hq => by have hq1 := (hF20).lt hq; omega
 refine WL.nil <| ?_
 refine W.sr <| WL.a rfl rfl <| WL.z rfl rfl ?_
 refine W.seq <| W.sr <| WL.p (.fa underlying42 rfl sizeOf3 dD rfl) rfl <| WL.r (Rd.ld (isAgg3 _) rfl hk31 rfl) rfl <| WL.p (.lss rfl rfl) rfl <| WL.m rfl rfl <| WL.gd rfl rfl rfl (fun g41 => ?_) (fun g41 => ?_)
 have g41' := dF g41
 refine WL.p (.fa underlying42 rfl sizeOf3 dD rfl) rfl <| WL.gy rfl rfl rfl g41 <| WL.r (Rd.ld (isAgg3 _) rfl hk31 rfl) rfl <| WL.gy rfl rfl rfl g41 <| WL.p (.gtr rfl rfl) rfl <| WL.p (.pkF rfl g41 rfl) rfl <| WL.m rfl rfl <| WL.gd rfl rfl rfl (fun g42 => ?_) (fun g42 => ?_)
 have g42' := dF g42
 refine WL.p (.fa underlying42 rfl sizeOf3 dD rfl) rfl <| WL.gy rfl rfl rfl g42 <| WL.r (Rd.ld (isAgg3 _) rfl hk31 rfl) rfl <| WL.gy rfl rfl rfl g42 <| WL.p (.lss rfl rfl) rfl <| WL.p (.pkF rfl g42 rfl) rfl <| WL.m rfl rfl <| WL.gd rfl rfl rfl (fun g43 => ?_) (fun g43 => ?_)
 have g43' := dF g43
 refine WL.p (.fa underlying42 rfl sizeOf3 dD rfl) rfl <| WL.gy rfl rfl rfl g43 <| WL.r (Rd.ld (isAgg3 _) rfl hk31 rfl) rfl <| WL.gy rfl rfl rfl g43 <| WL.p (.gtr rfl rfl) rfl <| WL.p (.pkF rfl g43 rfl) rfl <| WL.m rfl rfl <| WL.gd rfl rfl rfl (fun g44 => ?_) (fun g44 => ?_)
 have g44' := dF g44
 refine WL.p (.fa underlying42 rfl sizeOf9 dD rfl) rfl <| WL.gy rfl rfl rfl g44 <| WL.r (Rd.ld (isAgg9 _) rfl hk31 rfl) rfl <| WL.gy rfl rfl rfl g44 <| WL.p (.len underlying9 rfl) rfl <| WL.gy rfl rfl rfl g44 <| WL.p (.gtr rfl rfl) rfl <| WL.p (.pkF rfl g44 rfl) rfl <| WL.m rfl rfl <| WL.gd rfl rfl rfl (fun g45 => ?_) (fun g45 => ?_)
 have g45' := dF g45
 refine WL.p (.fa underlying42 rfl sizeOf9 dD rfl) rfl <| WL.gy rfl rfl rfl g45 <| WL.r (Rd.ld (isAgg9 _) rfl hk31 rfl) rfl <| WL.gy rfl rfl rfl g45 <| WL.p (.len underlying9 rfl) rfl <| WL.gy rfl rfl rfl g45 <| WL.p (.gtr rfl rfl) rfl <| WL.p (.pkF rfl g45 rfl) rfl <| WL.nil <| ?_
 refine W.cond rfl (fun h46 => ?_) (fun h46 => ?_)
 have h46' := dT h46
 refine W.seq <| W.regH 5 rfl mixed (fun w' => w'.heap[b19]? = wb29.heap[b19]? ∧ w'.heap[b29]? = wb29.heap[b29]? ∧ True) (fun w47 dw47 => ?_)
 have hF48 := StoM.same (w1 := w47) hF30 (fun k hk hl => (by obtain ⟨m, rfl⟩ := dw47; rfl))
 have hk50 := hk33.drew dw47
 have hk51 := hk35.drew dw47
 have hk52 := hk37.drew dw47
 have hk53 := hkb29.drew dw47
 have hB54 := Chg.drew hB39 dw47
 refine WH.tk 0 rfl (fun w' hw' => Rd.ldA rfl ((hw'.1).trans hk37) underlying27 rfl isz27) ⟨(hk52).trans (hk37).symm, (hk53).trans (hkb29).symm, trivial⟩ rfl ?_
 refine WH.tk 1 rfl (fun w' hw' => Rd.ldA rfl ((hw'.2.1).trans hkb29) underlying53 rfl isz53) ⟨(hk52).trans (hk37).symm, (hk53).trans (hkb29).symm, trivial⟩ rfl ?_
 refine WH.br1 2 rfl ?_
 refine WL.stL rfl rfl hk50 isz27 rfl rfl (fun w55 hkw55 huw55 hsw55 => ?_)
 have hF56 := StoM.same (w1 := w55) hF48 (fun k hk hl => huw55.other k (fun e => hnf10 (e ▸ hk)))
 have hk58 := hk51.up huw55
 have hk59 := hk52.up huw55
 have hk60 := hk53.up huw55
 have hB61 := Chg.upd hB54 huw55 oO
 refine WL.nil <| ?_
 refine ⟨⟨(hk59).trans (hk37).symm, (hk60).trans (hkb29).symm, trivial⟩, ?_⟩
 refine WH.br1 3 rfl ?_
 refine WL.stL rfl rfl hk58 isz53 rfl rfl (fun w62 hkw62 huw62 hsw62 => ?_)
 have hF63 := StoM.same (w1 := w62) hF56 (fun k hk hl => huw62.other k (fun e => hnf18 (e ▸ hk)))
 have hk65 := hkw55.up huw62
 have hk66 := hk59.up huw62
 have hk67 := hk60.up huw62
 have hB68 := Chg.upd hB61 huw62 oO
 refine WL.nil <| ?_
 refine ⟨⟨(hk66).trans (hk37).symm, (hk67).trans (hkb29).symm, trivial⟩, ?_⟩
 refine WH.tp 4 rfl (.as rfl) ⟨(hk66).trans (hk37).symm, (hk67).trans (hkb29).symm, trivial⟩ rfl ?_
 refine WH.done kR ?_
 refine W.ret (W.retcc rfl rfl (ldRow hk65 underlying27 rfl isz27) rfl (ldRow hkw62 underlying53 rfl isz53) rfl ?_)
 exact ⟨_, rfl, ob0, val0, _, _, _, rfl, (hF63).weak, hB68, fun h7 h8 h9 => by cases h7⟩
 have h46' := dF h46
 refine W.skip ?_
 refine W.cut (α := ObjV × ValV × (Nat → Prop) × StoV × Int × Int) (fun t => [(5, .pointer (some ⟨b1, 0, none⟩)), (6, .pointer (some ⟨b5, 0, none⟩)), (7, .pointer (some ⟨b11, 0, none⟩)), (9, .pointer (some ⟨b19, 0, none⟩)), (10, .pointer (some ⟨b29, 0, none⟩)), (11, .int .i64 t.2.2.2.2.1), (12, .int .i64 t.2.2.2.2.2)]) (fun t w' => StoM False bm w' b t.2.2.1 t.2.2.2.1 ∧ Chg G t.2.2.1 w w' ∧ (Blk w' b1 #[.int .i64 kd, .int .i64 nn, .int .i64 ac, .string (bs nm), .string (bs tx), .bool ex] 42 ∧ ¬ t.2.2.1 b1) ∧ (Blk w' b5 (objV ob0).toArray 27 ∧ ¬ t.2.2.1 b5) ∧ (Blk w' b11 (valV val0).toArray 53 ∧ ¬ t.2.2.1 b11) ∧ (Blk w' b19 (objV t.1).toArray 27 ∧ ¬ t.2.2.1 b19) ∧ (Blk w' b29 (valV t.2.1).toArray 53 ∧ ¬ t.2.2.1 b29) ∧ LkB kd ac t.1 t.2.2.2.1 t.2.2.2.2.1) ?_ (fun t w1 hR => ?_)
 refine W.sr <| WL.p (.fa underlying42 rfl sizeOf3 dD rfl) rfl <| WL.r (Rd.ld (isAgg3 _) rfl hk31 rfl) rfl <| WL.nil <| ?_
 refine W.block <| W.sr <| WL.p (.eql rfl rfl) rfl <| WL.z rfl rfl ?_
 refine W.cond rfl (fun h69 => ?_) (fun h69 => ?_)
 have h69' := dT h69
 have hkd : kd = 6 := by assumption
 refine W.sr <| WL.m rfl rfl <| WL.p (.fa underlying42 rfl sizeOf9 dD rfl) rfl <| WL.r (Rd.ld (isAgg9 _) rfl hk31 rfl) rfl <| WL.s2b underlying9 underlying35 underlying5 rfl rfl (fun b70 wb70 cs67 eb70 hs67 hcs67 hub70 hsb70 => ?_)
 have hF71 := StoM.same (w1 := wb70) hF30 (fun k hk hl => hub70.other k oO)
 have hl73 : b1 < b70 := by rw [eb70]; exact hk31.lt
 have hk72 := hk31.upd hub70 (Nat.ne_of_lt hl73)
 have hl75 : b5 < b70 := by rw [eb70]; exact hk33.lt
 have hk74 := hk33.upd hub70 (Nat.ne_of_lt hl75)
 have hl77 : b11 < b70 := by rw [eb70]; exact hk35.lt
 have hk76 := hk35.upd hub70 (Nat.ne_of_lt hl77)
 have hl79 : b19 < b70 := by rw [eb70]; exact hk37.lt
 have hk78 := hk37.upd hub70 (Nat.ne_of_lt hl79)
 have hl81 : b29 < b70 := by rw [eb70]; exact hkb29.lt
 have hk80 := hkb29.upd hub70 (Nat.ne_of_lt hl81)
 have hgeb70 : w.heap.size ≤ b70 := by rw [eb70]; exact hB39.size
 have hB82 := Chg.upd hB39 hub70 hgeb70
 have hnf83 : ¬ G b70 := fun hq => by have hq1 := (hF30).lt hq; omega
 obtain ⟨F7, hs7, hsub7, hnx7⟩ := (hF71).sto
 refine WL.c1 hb12 rfl rfl ((sto_Text b F7 (S0 500) (some ⟨b70, 0, none⟩) tx _ _ hs7 (sok_0 500 dD dD) hs67 (fun _ hf => hnf83 (hsub7 _ hf)) oO)) (fun w84 hw84 => ?_)
 obtain ⟨F8, hs8, hC8⟩ := hw84
 obtain ⟨G8, hst8, hCG8⟩ := hnx7 hs8 hC8
 have hnf85 := Chg.nf hCG8 hnf4 hk72.lt
 have hnf86 := Chg.nf hCG8 hnf10 hk74.lt
 have hnf87 := Chg.nf hCG8 hnf18 hk76.lt
 have hnf88 := Chg.nf hCG8 hnf28 hk78.lt
 have hnf89 := Chg.nf hCG8 hnf40 hk80.lt
 have hk91 := Blk.chg hk72 hCG8 hnf4
 have hk92 := Blk.chg hk74 hCG8 hnf10
 have hk93 := Blk.chg hk76 hCG8 hnf18
 have hk94 := Blk.chg hk78 hCG8 hnf28
 have hk95 := Blk.chg hk80 hCG8 hnf40
 have hB96 := Chg.trans hB82 hCG8
 have hL : LkB kd ac (strO (S0 500) tx.length) (textS (S0 500) tx) (strE (S0 500) tx.length) := ⟨fun q _ x => lk_text tx ac x q oO oO, fun _ q => by omega⟩
 refine WL.m rfl rfl <| WL.p (.ext rfl rfl) rfl <| WL.p (.ext rfl rfl) rfl <| WL.stL rfl rfl hk94 isz27 rfl rfl (fun w97 hkw97 huw97 hsw97 => ?_)
 have hF98 := StoM.same (w1 := w97) hst8 (fun k hk hl => huw97.other k (fun e => hnf88 (e ▸ hk)))
 have hk99 := hk91.up huw97
 have hk100 := hk92.up huw97
 have hk101 := hk93.up huw97
 have hk102 := hk95.up huw97
 have hB103 := Chg.upd hB96 huw97 oO
 refine WL.z rfl rfl ?_
 refine W.reg <| WL.m rfl rfl <| WL.p (.fa underlying42 rfl sizeOf9 dD rfl) rfl <| WL.r (Rd.ld (isAgg9 _) rfl hk99 rfl) rfl <| WL.s2b underlying9 underlying35 underlying5 rfl rfl (fun b104 wb104 cs75 eb104 hs75 hcs75 hub104 hsb104 => ?_)
 have hF105 := StoM.same (w1 := wb104) hF98 (fun k hk hl => hub104.other k oO)
 have hl107 : b1 < b104 := by rw [eb104]; exact hk99.lt
 have hk106 := hk99.upd hub104 (Nat.ne_of_lt hl107)
 have hl109 : b5 < b104 := by rw [eb104]; exact hk100.lt
 have hk108 := hk100.upd hub104 (Nat.ne_of_lt hl109)
 have hl111 : b11 < b104 := by rw [eb104]; exact hk101.lt
 have hk110 := hk101.upd hub104 (Nat.ne_of_lt hl111)
 have hl113 : b19 < b104 := by rw [eb104]; exact hkw97.lt
 have hk112 := hkw97.upd hub104 (Nat.ne_of_lt hl113)
 have hl115 : b29 < b104 := by rw [eb104]; exact hk102.lt
 have hk114 := hk102.upd hub104 (Nat.ne_of_lt hl115)
 have hgeb104 : w.heap.size ≤ b104 := by rw [eb104]; exact hB103.size
 have hB116 := Chg.upd hB103 hub104 hgeb104
 have hnf117 : ¬ G8 b104 := fun hq => by have hq1 := (hF98).lt hq; omega
 refine WL.call hb29 rfl rfl ((mem_Text bm 500 0 (some ⟨b104, 0, none⟩) tx _ _ ((hF105).blk trivial) dD dD hs75 (fun _ => .inr (by simp)) oO (fun _ e => hnf117 (by have q9 := (hF105).gm; rw [← e] at q9; exact q9)))) (fun r w118 hw118 => ?_)
 obtain ⟨⟨v9, r9, rfl⟩, hK9⟩ := hw118
 obtain ⟨hst9, hC9⟩ := (hF105).mem hK9
 have hnf119 := Chg.nf hC9 hnf85 hk106.lt
 have hnf120 := Chg.nf hC9 hnf86 hk108.lt
 have hnf121 := Chg.nf hC9 hnf87 hk110.lt
 have hnf122 := Chg.nf hC9 hnf88 hk112.lt
 have hnf123 := Chg.nf hC9 hnf89 hk114.lt
 have hk125 := Blk.chg hk106 hC9 hnf85
 have hk126 := Blk.chg hk108 hC9 hnf86
 have hk127 := Blk.chg hk110 hC9 hnf87
 have hk128 := Blk.chg hk112 hC9 hnf88
 have hk129 := Blk.chg hk114 hC9 hnf89
 have hB130 := Chg.trans hB116 hC9
 refine WL.m rfl rfl <| WL.p (.ext rfl rfl) rfl <| WL.p (.ext rfl rfl) rfl <| WL.stL rfl rfl hk129 isz53 rfl rfl (fun w131 hkw131 huw131 hsw131 => ?_)
 have hF132 := StoM.same (w1 := w131) hst9 (fun k hk hl => huw131.other k (fun e => hnf123 (e ▸ hk)))
 have hk133 := hk125.up huw131
 have hk134 := hk126.up huw131
 have hk135 := hk127.up huw131
 have hk136 := hk128.up huw131
 have hB137 := Chg.upd hB130 huw131 oO
 refine WL.z rfl rfl ?_
 exact ⟨(⟨_, _, _, _, _, _, _, _⟩, ⟨_, _, _, _, _, _, _, _, _, _⟩, G8, _, _, _), ⟨rfl, rfl, rfl, rfl, rfl, rfl, rfl, trivial⟩, (hF132).weak, hB137, ⟨hk133, hnf119⟩, ⟨hk134, hnf120⟩, ⟨hk135, hnf121⟩, ⟨hk136, hnf122⟩, ⟨hkw131, hnf123⟩, by first | exact hL | exact ⟨fun _ q => by omega, fun _ q => by omega⟩⟩
 have h69' := dF h69
 refine W.sr <| WL.p (.eql rfl rfl) rfl <| WL.z rfl rfl ?_
 refine W.cond rfl (fun h138 => ?_) (fun h138 => ?_)
 have h138' := dT h138
 have hkd : kd = 7 := by assumption
 refine W.seq <| W.sr <| WL.p (.fa underlying42 rfl sizeOf3 dD rfl) rfl <| WL.r (Rd.ld (isAgg3 _) rfl hk31 rfl) rfl <| WL.p (.lss rfl rfl) rfl <| WL.m rfl rfl <| WL.gd rfl rfl rfl (fun g139 => ?_) (fun g139 => ?_)
 have g139' := dF g139
 refine WL.p (.fa underlying42 rfl sizeOf3 dD rfl) rfl <| WL.gy rfl rfl rfl g139 <| WL.r (Rd.ld (isAgg3 _) rfl hk31 rfl) rfl <| WL.gy rfl rfl rfl g139 <| WL.p (.gtr rfl rfl) rfl <| WL.p (.pkF rfl g139 rfl) rfl <| WL.nil <| ?_
 refine W.cond rfl (fun h140 => ?_) (fun h140 => ?_)
 have h140' := dT h140
 refine W.seq <| W.regH 5 rfl mixed (fun w' => w'.heap[b19]? = wb29.heap[b19]? ∧ w'.heap[b29]? = wb29.heap[b29]? ∧ True) (fun w141 dw141 => ?_)
 have hF142 := StoM.same (w1 := w141) hF30 (fun k hk hl => (by obtain ⟨m, rfl⟩ := dw141; rfl))
 have hk144 := hk33.drew dw141
 have hk145 := hk35.drew dw141
 have hk146 := hk37.drew dw141
 have hk147 := hkb29.drew dw141
 have hB148 := Chg.drew hB39 dw141
 refine WH.tk 0 rfl (fun w' hw' => Rd.ldA rfl ((hw'.1).trans hk37) underlying27 rfl isz27) ⟨(hk146).trans (hk37).symm, (hk147).trans (hkb29).symm, trivial⟩ rfl ?_
 refine WH.tk 1 rfl (fun w' hw' => Rd.ldA rfl ((hw'.2.1).trans hkb29) underlying53 rfl isz53) ⟨(hk146).trans (hk37).symm, (hk147).trans (hkb29).symm, trivial⟩ rfl ?_
 refine WH.br1 2 rfl ?_
 refine WL.stL rfl rfl hk144 isz27 rfl rfl (fun w149 hkw149 huw149 hsw149 => ?_)
 have hF150 := StoM.same (w1 := w149) hF142 (fun k hk hl => huw149.other k (fun e => hnf10 (e ▸ hk)))
 have hk152 := hk145.up huw149
 have hk153 := hk146.up huw149
 have hk154 := hk147.up huw149
 have hB155 := Chg.upd hB148 huw149 oO
 refine WL.nil <| ?_
 refine ⟨⟨(hk153).trans (hk37).symm, (hk154).trans (hkb29).symm, trivial⟩, ?_⟩
 refine WH.br1 3 rfl ?_
 refine WL.stL rfl rfl hk152 isz53 rfl rfl (fun w156 hkw156 huw156 hsw156 => ?_)
 have hF157 := StoM.same (w1 := w156) hF150 (fun k hk hl => huw156.other k (fun e => hnf18 (e ▸ hk)))
 have hk159 := hkw149.up huw156
 have hk160 := hk153.up huw156
 have hk161 := hk154.up huw156
 have hB162 := Chg.upd hB155 huw156 oO
 refine WL.nil <| ?_
 refine ⟨⟨(hk160).trans (hk37).symm, (hk161).trans (hkb29).symm, trivial⟩, ?_⟩
 refine WH.tp 4 rfl (.as rfl) ⟨(hk160).trans (hk37).symm, (hk161).trans (hkb29).symm, trivial⟩ rfl ?_
 refine WH.done kR ?_
 refine W.ret (W.retcc rfl rfl (ldRow hk159 underlying27 rfl isz27) rfl (ldRow hkw156 underlying53 rfl isz53) rfl ?_)
 exact ⟨_, rfl, ob0, val0, _, _, _, rfl, (hF157).weak, hB162, fun h7 h8 h9 => by cases h7⟩
 have h140' := dF h140
 obtain ⟨k, rfl⟩ := Int.eq_ofNat_of_zero_le (show 0 ≤ nn by omega)
 refine W.skip <| W.sr <| WL.m rfl rfl <| WL.p (.fa underlying42 rfl sizeOf3 dD rfl) rfl <| WL.r (Rd.ld (isAgg3 _) rfl hk31 rfl) rfl <| ?_
 obtain ⟨F7, hs7, hsub7, hnx7⟩ := (hF30).sto
 refine WL.c1 hb30 rfl rfl ((sto_Array b F7 (S0 500) (k : Int) _ hs7 (sok_0 500 dD dD) oO)) (fun w163 hw163 => ?_)
 obtain ⟨F8, hs8, hC8⟩ := hw163
 obtain ⟨G8, hst8, hCG8⟩ := hnx7 hs8 hC8
 have hnf164 := Chg.nf hCG8 hnf4 hk31.lt
 have hnf165 := Chg.nf hCG8 hnf10 hk33.lt
 have hnf166 := Chg.nf hCG8 hnf18 hk35.lt
 have hnf167 := Chg.nf hCG8 hnf28 hk37.lt
 have hnf168 := Chg.nf hCG8 hnf40 hkb29.lt
 have hk169 := Blk.chg hk31 hCG8 hnf4
 have hk170 := Blk.chg hk33 hCG8 hnf10
 have hk171 := Blk.chg hk35 hCG8 hnf18
 have hk172 := Blk.chg hk37 hCG8 hnf28
 have hk173 := Blk.chg hkb29 hCG8 hnf40
 have hB174 := Chg.trans hB39 hCG8
 have hbmlt := (hst8).lt (hst8).gm
 have hL : LkB kd ac (arrO (S0 500) k) (arrS (S0 500) k) (arrE (S0 500) k) := ⟨fun _ _ x => lk_list k ac x oO oO oO, fun _ q => by omega⟩
 refine WL.m rfl rfl <| WL.p (.ext rfl rfl) rfl <| WL.p (.ext rfl rfl) rfl <| WL.stL rfl rfl hk172 isz27 rfl rfl (fun w175 hkw175 huw175 hsw175 => ?_)
 have hF176 := StoM.same (w1 := w175) hst8 (fun k hk hl => huw175.other k (fun e => hnf167 (e ▸ hk)))
 have hk177 := hk169.up huw175
 have hk178 := hk170.up huw175
 have hk179 := hk171.up huw175
 have hk180 := hk173.up huw175
 have hB181 := Chg.upd hB174 huw175 oO
 refine WL.z rfl rfl ?_
 refine W.reg <| WL.m rfl rfl <| WL.p (.fa underlying42 rfl sizeOf3 dD rfl) rfl <| WL.r (Rd.ld (isAgg3 _) rfl hk177 rfl) rfl <| WL.mkN (L := valL) (val0) (k) underlying86 inf53 rfl rfl rfl rfl oO dD rfl (fun w182 how182 hbw182 => ?_)
 have hF183 := StoM.same (w1 := w182) hF176 (fun k hk hl => hbw182.block k hl)
 have hk184 := hk177.below hbw182 hk177.lt
 have hk185 := hk178.below hbw182 hk178.lt
 have hk186 := hk179.below hbw182 hk179.lt
 have hk187 := hkw175.below hbw182 hkw175.lt
 have hk188 := hk180.below hbw182 hk180.lt
 have hB189 := Chg.low hB181 hbw182
 have hlew182 := hbw182.size
 obtain ⟨p6, c6, hv6, hrow6, hge6, -, hcn6, -⟩ := (how182).row
 simp only [Value.slice.injEq] at hv6
 obtain ⟨rfl, -, rfl⟩ := hv6
 refine WL.call hb31 rfl rfl ((mem_List' bm 500 0 _ (List.replicate k val0) k _ _ (by simp) ((hF183).blk trivial) dD dD hrow6 hcn6 oO (fun _ e => by have q7 : _ = bm := e; simp only [pA, Option.getD_some] at q7; omega))) (fun r w190 hw190 => ?_)
 obtain ⟨⟨v9, r9, rfl⟩, hK9⟩ := hw190
 obtain ⟨hst9, hC9⟩ := (hF183).mem hK9
 have hnf191 := Chg.nf hC9 hnf164 hk184.lt
 have hnf192 := Chg.nf hC9 hnf165 hk185.lt
 have hnf193 := Chg.nf hC9 hnf166 hk186.lt
 have hnf194 := Chg.nf hC9 hnf167 hk187.lt
 have hnf195 := Chg.nf hC9 hnf168 hk188.lt
 have hk196 := Blk.chg hk184 hC9 hnf164
 have hk197 := Blk.chg hk185 hC9 hnf165
 have hk198 := Blk.chg hk186 hC9 hnf166
 have hk199 := Blk.chg hk187 hC9 hnf167
 have hk200 := Blk.chg hk188 hC9 hnf168
 have hB201 := Chg.trans hB189 hC9
 refine WL.m rfl rfl <| WL.p (.ext rfl rfl) rfl <| WL.p (.ext rfl rfl) rfl <| WL.stL rfl rfl hk200 isz53 rfl rfl (fun w202 hkw202 huw202 hsw202 => ?_)
 have hF203 := StoM.same (w1 := w202) hst9 (fun k hk hl => huw202.other k (fun e => hnf195 (e ▸ hk)))
 have hk204 := hk196.up huw202
 have hk205 := hk197.up huw202
 have hk206 := hk198.up huw202
 have hk207 := hk199.up huw202
 have hB208 := Chg.upd hB201 huw202 oO
 refine WL.z rfl rfl ?_
 exact ⟨(⟨_, _, _, _, _, _, _, _⟩, ⟨_, _, _, _, _, _, _, _, _, _⟩, G8, _, _, _), ⟨rfl, rfl, rfl, rfl, rfl, rfl, rfl, trivial⟩, (hF203).weak, hB208, ⟨hk204, hnf191⟩, ⟨hk205, hnf192⟩, ⟨hk206, hnf193⟩, ⟨hk207, hnf194⟩, ⟨hkw202, hnf195⟩, by first | exact hL | exact ⟨fun _ q => by omega, fun _ q => by omega⟩⟩
 have g139' := dT g139
 refine WL.gn rfl rfl rfl g139 <| WL.gn rfl rfl rfl g139 <| WL.p (.pkT rfl g139 rfl) rfl <| WL.nil <| ?_
 refine W.condT rfl rfl ?_
 refine W.seq <| W.regH 5 rfl mixed (fun w' => w'.heap[b19]? = wb29.heap[b19]? ∧ w'.heap[b29]? = wb29.heap[b29]? ∧ True) (fun w209 dw209 => ?_)
 have hF210 := StoM.same (w1 := w209) hF30 (fun k hk hl => (by obtain ⟨m, rfl⟩ := dw209; rfl))
 have hk212 := hk33.drew dw209
 have hk213 := hk35.drew dw209
 have hk214 := hk37.drew dw209
 have hk215 := hkb29.drew dw209
 have hB216 := Chg.drew hB39 dw209
 refine WH.tk 0 rfl (fun w' hw' => Rd.ldA rfl ((hw'.1).trans hk37) underlying27 rfl isz27) ⟨(hk214).trans (hk37).symm, (hk215).trans (hkb29).symm, trivial⟩ rfl ?_
 refine WH.tk 1 rfl (fun w' hw' => Rd.ldA rfl ((hw'.2.1).trans hkb29) underlying53 rfl isz53) ⟨(hk214).trans (hk37).symm, (hk215).trans (hkb29).symm, trivial⟩ rfl ?_
 refine WH.br1 2 rfl ?_
 refine WL.stL rfl rfl hk212 isz27 rfl rfl (fun w217 hkw217 huw217 hsw217 => ?_)
 have hF218 := StoM.same (w1 := w217) hF210 (fun k hk hl => huw217.other k (fun e => hnf10 (e ▸ hk)))
 have hk220 := hk213.up huw217
 have hk221 := hk214.up huw217
 have hk222 := hk215.up huw217
 have hB223 := Chg.upd hB216 huw217 oO
 refine WL.nil <| ?_
 refine ⟨⟨(hk221).trans (hk37).symm, (hk222).trans (hkb29).symm, trivial⟩, ?_⟩
 refine WH.br1 3 rfl ?_
 refine WL.stL rfl rfl hk220 isz53 rfl rfl (fun w224 hkw224 huw224 hsw224 => ?_)
 have hF225 := StoM.same (w1 := w224) hF218 (fun k hk hl => huw224.other k (fun e => hnf18 (e ▸ hk)))
 have hk227 := hkw217.up huw224
 have hk228 := hk221.up huw224
 have hk229 := hk222.up huw224
 have hB230 := Chg.upd hB223 huw224 oO
 refine WL.nil <| ?_
 refine ⟨⟨(hk228).trans (hk37).symm, (hk229).trans (hkb29).symm, trivial⟩, ?_⟩
 refine WH.tp 4 rfl (.as rfl) ⟨(hk228).trans (hk37).symm, (hk229).trans (hkb29).symm, trivial⟩ rfl ?_
 refine WH.done kR ?_
 refine W.ret (W.retcc rfl rfl (ldRow hk227 underlying27 rfl isz27) rfl (ldRow hkw224 underlying53 rfl isz53) rfl ?_)
 exact ⟨_, rfl, ob0, val0, _, _, _, rfl, (hF225).weak, hB230, fun h7 h8 h9 => by cases h7⟩
 have h138' := dF h138
 refine W.sr <| WL.p (.eql rfl rfl) rfl <| WL.z rfl rfl ?_
 refine W.cond rfl (fun h231 => ?_) (fun h231 => ?_)
 have h231' := dT h231
 have hkd : kd = 8 := by assumption
 refine W.seq <| W.sr <| WL.p (.fa underlying42 rfl sizeOf3 dD rfl) rfl <| WL.r (Rd.ld (isAgg3 _) rfl hk31 rfl) rfl <| WL.p (.lss rfl rfl) rfl <| WL.m rfl rfl <| WL.gd rfl rfl rfl (fun g232 => ?_) (fun g232 => ?_)
 have g232' := dF g232
 refine WL.p (.fa underlying42 rfl sizeOf3 dD rfl) rfl <| WL.gy rfl rfl rfl g232 <| WL.r (Rd.ld (isAgg3 _) rfl hk31 rfl) rfl <| WL.gy rfl rfl rfl g232 <| WL.p (.gtr rfl rfl) rfl <| WL.p (.pkF rfl g232 rfl) rfl <| WL.nil <| ?_
 refine W.cond rfl (fun h233 => ?_) (fun h233 => ?_)
 have h233' := dT h233
 refine W.seq <| W.regH 5 rfl mixed (fun w' => w'.heap[b19]? = wb29.heap[b19]? ∧ w'.heap[b29]? = wb29.heap[b29]? ∧ True) (fun w234 dw234 => ?_)
 have hF235 := StoM.same (w1 := w234) hF30 (fun k hk hl => (by obtain ⟨m, rfl⟩ := dw234; rfl))
 have hk237 := hk33.drew dw234
 have hk238 := hk35.drew dw234
 have hk239 := hk37.drew dw234
 have hk240 := hkb29.drew dw234
 have hB241 := Chg.drew hB39 dw234
 refine WH.tk 0 rfl (fun w' hw' => Rd.ldA rfl ((hw'.1).trans hk37) underlying27 rfl isz27) ⟨(hk239).trans (hk37).symm, (hk240).trans (hkb29).symm, trivial⟩ rfl ?_
 refine WH.tk 1 rfl (fun w' hw' => Rd.ldA rfl ((hw'.2.1).trans hkb29) underlying53 rfl isz53) ⟨(hk239).trans (hk37).symm, (hk240).trans (hkb29).symm, trivial⟩ rfl ?_
 refine WH.br1 2 rfl ?_
 refine WL.stL rfl rfl hk237 isz27 rfl rfl (fun w242 hkw242 huw242 hsw242 => ?_)
 have hF243 := StoM.same (w1 := w242) hF235 (fun k hk hl => huw242.other k (fun e => hnf10 (e ▸ hk)))
 have hk245 := hk238.up huw242
 have hk246 := hk239.up huw242
 have hk247 := hk240.up huw242
 have hB248 := Chg.upd hB241 huw242 oO
 refine WL.nil <| ?_
 refine ⟨⟨(hk246).trans (hk37).symm, (hk247).trans (hkb29).symm, trivial⟩, ?_⟩
 refine WH.br1 3 rfl ?_
 refine WL.stL rfl rfl hk245 isz53 rfl rfl (fun w249 hkw249 huw249 hsw249 => ?_)
 have hF250 := StoM.same (w1 := w249) hF243 (fun k hk hl => huw249.other k (fun e => hnf18 (e ▸ hk)))
 have hk252 := hkw242.up huw249
 have hk253 := hk246.up huw249
 have hk254 := hk247.up huw249
 have hB255 := Chg.upd hB248 huw249 oO
 refine WL.nil <| ?_
 refine ⟨⟨(hk253).trans (hk37).symm, (hk254).trans (hkb29).symm, trivial⟩, ?_⟩
 refine WH.tp 4 rfl (.as rfl) ⟨(hk253).trans (hk37).symm, (hk254).trans (hkb29).symm, trivial⟩ rfl ?_
 refine WH.done kR ?_
 refine W.ret (W.retcc rfl rfl (ldRow hk252 underlying27 rfl isz27) rfl (ldRow hkw249 underlying53 rfl isz53) rfl ?_)
 exact ⟨_, rfl, ob0, val0, _, _, _, rfl, (hF250).weak, hB255, fun h7 h8 h9 => by cases h7⟩
 have h233' := dF h233
 obtain ⟨k, rfl⟩ := Int.eq_ofNat_of_zero_le (show 0 ≤ nn by omega)
 refine W.skip <| W.sr <| WL.m rfl rfl <| WL.p (.fa underlying42 rfl sizeOf3 dD rfl) rfl <| WL.r (Rd.ld (isAgg3 _) rfl hk31 rfl) rfl <| ?_
 obtain ⟨F7, hs7, hsub7, hnx7⟩ := (hF30).sto
 refine WL.c1 hb32 rfl rfl ((sto_Dict b F7 (S0 500) (k : Int) _ hs7 (sok_0 500 dD dD) oO)) (fun w256 hw256 => ?_)
 obtain ⟨F8, hs8, hC8⟩ := hw256
 obtain ⟨G8, hst8, hCG8⟩ := hnx7 hs8 hC8
 have hnf257 := Chg.nf hCG8 hnf4 hk31.lt
 have hnf258 := Chg.nf hCG8 hnf10 hk33.lt
 have hnf259 := Chg.nf hCG8 hnf18 hk35.lt
 have hnf260 := Chg.nf hCG8 hnf28 hk37.lt
 have hnf261 := Chg.nf hCG8 hnf40 hkb29.lt
 have hk262 := Blk.chg hk31 hCG8 hnf4
 have hk263 := Blk.chg hk33 hCG8 hnf10
 have hk264 := Blk.chg hk35 hCG8 hnf18
 have hk265 := Blk.chg hk37 hCG8 hnf28
 have hk266 := Blk.chg hkb29 hCG8 hnf40
 have hB267 := Chg.trans hB39 hCG8
 refine WL.m rfl rfl <| WL.p (.ext rfl rfl) rfl <| WL.p (.ext rfl rfl) rfl <| WL.stL rfl rfl hk265 isz27 rfl rfl (fun w268 hkw268 huw268 hsw268 => ?_)
 have hF269 := StoM.same (w1 := w268) hst8 (fun k hk hl => huw268.other k (fun e => hnf260 (e ▸ hk)))
 have hk270 := hk262.up huw268
 have hk271 := hk263.up huw268
 have hk272 := hk264.up huw268
 have hk273 := hk266.up huw268
 have hB274 := Chg.upd hB267 huw268 oO
 refine WL.z rfl rfl ?_
 refine W.sr <| WL.m rfl rfl <| WL.p (.fa underlying42 rfl sizeOf3 dD rfl) rfl <| WL.r (Rd.ld (isAgg3 _) rfl hk270 rfl) rfl <| WL.call hb33 rfl rfl ((mem_Dict bm 500 0 k _ ((hF269).blk trivial) dD dD oO (by unfold takeE; rw [if_neg oO, if_neg oO, if_neg oO]))) (fun r w275 hw275 => ?_)
 obtain ⟨⟨bd9, s91, s92, m9, a9, o9, rfl, hd9, hd10⟩, hK9⟩ := hw275
 have nbd9 : ¬ G8 bd9 := fun hq => by have q8 := (hF269).lt hq; omega
 have r5 := Nat.lt_of_lt_of_le (hk270).lt hd9
 have r6 := Nat.lt_of_lt_of_le (hk271).lt hd9
 have r7 := Nat.lt_of_lt_of_le (hk272).lt hd9
 have r9 := Nat.lt_of_lt_of_le (hkw268).lt hd9
 have r10 := Nat.lt_of_lt_of_le (hk273).lt hd9
 have r11 := Nat.le_trans hB274.size hd9
 obtain ⟨hst9, hC9⟩ := (hF269).mem hK9
 have hnf276 := Chg.nf hC9 hnf257 hk270.lt
 have hnf277 := Chg.nf hC9 hnf258 hk271.lt
 have hnf278 := Chg.nf hC9 hnf259 hk272.lt
 have hnf279 := Chg.nf hC9 hnf260 hkw268.lt
 have hnf280 := Chg.nf hC9 hnf261 hk273.lt
 have hk281 := Blk.chg hk270 hC9 hnf257
 have hk282 := Blk.chg hk271 hC9 hnf258
 have hk283 := Blk.chg hk272 hC9 hnf259
 have hk284 := Blk.chg hkw268 hC9 hnf260
 have hk285 := Blk.chg hk273 hC9 hnf261
 have hB286 := Chg.trans hB274 hC9
 refine WL.m rfl rfl <| WL.p (.ext rfl rfl) rfl <| WL.p (.ext rfl rfl) rfl <| WL.stL rfl rfl hk285 isz53 rfl rfl (fun w287 hkw287 huw287 hsw287 => ?_)
 have hF288 := StoM.same (w1 := w287) hst9 (fun k hk hl => huw287.other k (fun e => hnf280 (e ▸ hk)))
 have hk289 := hk281.up huw287
 have hk290 := hk282.up huw287
 have hk291 := hk283.up huw287
 have hk292 := hk284.up huw287
 have hk293 := hd10.upd huw287 oM
 have hB294 := Chg.upd hB286 huw287 oO
 refine WL.z rfl rfl ?_
 refine W.sr <| WL.m rfl rfl <| WL.r (Rd.ldA rfl hk292 underlying27 rfl isz27) rfl <| WL.p (.fa underlying42 rfl sizeOf3 dD rfl) rfl <| WL.r (Rd.ld (isAgg3 _) rfl hk289 rfl) rfl <| ?_
 obtain ⟨F9, hs9, hsub9, hnx9⟩ := (hF288).sto
 refine WL.c1 hb34 rfl rfl ((sto_Lock b F9 _ (dicO (S0 500) k) ac _ hs9 (lk_dsok k oO).1 (lk_dsok k oO).2)) (fun w295 hw295 => ?_)
 obtain ⟨F10, hs10, hC10⟩ := hw295
 obtain ⟨G10, hst10, hCG10⟩ := hnx9 hs10 hC10
 have hnf296 := Chg.nf hCG10 hnf276 hk289.lt
 have hnf297 := Chg.nf hCG10 hnf277 hk290.lt
 have hnf298 := Chg.nf hCG10 hnf278 hk291.lt
 have hnf299 := Chg.nf hCG10 hnf279 hk292.lt
 have hnf300 := Chg.nf hCG10 hnf280 hkw287.lt
 have hnf301 := Chg.nf hCG10 nbd9 hk293.lt
 have hk302 := Blk.chg hk289 hCG10 hnf276
 have hk303 := Blk.chg hk290 hCG10 hnf277
 have hk304 := Blk.chg hk291 hCG10 hnf278
 have hk305 := Blk.chg hk292 hCG10 hnf279
 have hk306 := Blk.chg hkw287 hCG10 hnf280
 have hk307 := Blk.chg hk293 hCG10 nbd9
 have hB308 := Chg.trans hB294 hCG10
 have hL : LkB kd ac (dicO (S0 500) k) (lockS (dicS (S0 500) k) (dicO (S0 500) k) ac) (dicE (S0 500) k) := ⟨fun _ q => by omega, fun _ _ x => lk_dict k ac x oO oO oO⟩
 refine WL.nil <| ?_
 refine W.sr <| WL.m rfl rfl <| WL.p (.bis (true) (.eql rfl rfl) (by rfl)) rfl <| WL.nil <| ?_
 refine W.condT rfl rfl ?_
 refine W.reg <| WL.p (.fa underlying53 rfl sizeOf51 dD rfl) rfl <| WL.r (Rd.ld (isAgg51 _) rfl hk306 rfl) rfl <| WL.p (.fa underlying42 rfl sizeOf3 dD rfl) rfl <| WL.r (Rd.ld (isAgg3 _) rfl hk302 rfl) rfl <| WL.p (.nck rfl) rfl <| WL.p (.fa underlying90 rfl sizeOf3 dD rfl) rfl <| WL.st sizeOf3 rfl rfl rfl hk307 oD (fun w309 hkw309 huw309 hsw309 => ?_)
 have hkw309 : Blk w309 bd9 _ _ := hkw309
 have huw309 : Upd bd9 _ _ := huw309
 have hF310 := StoM.same (w1 := w309) hst10 (fun k hk hl => huw309.other k (fun e => hnf301 (e ▸ hk)))
 have hk311 := hk302.up huw309
 have hk312 := hk303.up huw309
 have hk313 := hk304.up huw309
 have hk314 := hk305.up huw309
 have hk315 := hk306.up huw309
 have hB316 := Chg.upd hB308 huw309 oO
 refine WL.nil <| ?_
 exact ⟨(⟨_, _, _, _, _, _, _, _⟩, ⟨_, _, _, _, _, _, _, _, _, _⟩, G10, _, _, _), ⟨rfl, rfl, rfl, rfl, rfl, rfl, rfl, trivial⟩, (hF310).weak, hB316, ⟨hk311, hnf296⟩, ⟨hk312, hnf297⟩, ⟨hk313, hnf298⟩, ⟨hk314, hnf299⟩, ⟨hk315, hnf300⟩, by first | exact hL | exact ⟨fun _ q => by omega, fun _ q => by omega⟩⟩
 have g232' := dT g232
 refine WL.gn rfl rfl rfl g232 <| WL.gn rfl rfl rfl g232 <| WL.p (.pkT rfl g232 rfl) rfl <| WL.nil <| ?_
 refine W.condT rfl rfl ?_
 refine W.seq <| W.regH 5 rfl mixed (fun w' => w'.heap[b19]? = wb29.heap[b19]? ∧ w'.heap[b29]? = wb29.heap[b29]? ∧ True) (fun w317 dw317 => ?_)
 have hF318 := StoM.same (w1 := w317) hF30 (fun k hk hl => (by obtain ⟨m, rfl⟩ := dw317; rfl))
 have hk320 := hk33.drew dw317
 have hk321 := hk35.drew dw317
 have hk322 := hk37.drew dw317
 have hk323 := hkb29.drew dw317
 have hB324 := Chg.drew hB39 dw317
 refine WH.tk 0 rfl (fun w' hw' => Rd.ldA rfl ((hw'.1).trans hk37) underlying27 rfl isz27) ⟨(hk322).trans (hk37).symm, (hk323).trans (hkb29).symm, trivial⟩ rfl ?_
 refine WH.tk 1 rfl (fun w' hw' => Rd.ldA rfl ((hw'.2.1).trans hkb29) underlying53 rfl isz53) ⟨(hk322).trans (hk37).symm, (hk323).trans (hkb29).symm, trivial⟩ rfl ?_
 refine WH.br1 2 rfl ?_
 refine WL.stL rfl rfl hk320 isz27 rfl rfl (fun w325 hkw325 huw325 hsw325 => ?_)
 have hF326 := StoM.same (w1 := w325) hF318 (fun k hk hl => huw325.other k (fun e => hnf10 (e ▸ hk)))
 have hk328 := hk321.up huw325
 have hk329 := hk322.up huw325
 have hk330 := hk323.up huw325
 have hB331 := Chg.upd hB324 huw325 oO
 refine WL.nil <| ?_
 refine ⟨⟨(hk329).trans (hk37).symm, (hk330).trans (hkb29).symm, trivial⟩, ?_⟩
 refine WH.br1 3 rfl ?_
 refine WL.stL rfl rfl hk328 isz53 rfl rfl (fun w332 hkw332 huw332 hsw332 => ?_)
 have hF333 := StoM.same (w1 := w332) hF326 (fun k hk hl => huw332.other k (fun e => hnf18 (e ▸ hk)))
 have hk335 := hkw325.up huw332
 have hk336 := hk329.up huw332
 have hk337 := hk330.up huw332
 have hB338 := Chg.upd hB331 huw332 oO
 refine WL.nil <| ?_
 refine ⟨⟨(hk336).trans (hk37).symm, (hk337).trans (hkb29).symm, trivial⟩, ?_⟩
 refine WH.tp 4 rfl (.as rfl) ⟨(hk336).trans (hk37).symm, (hk337).trans (hkb29).symm, trivial⟩ rfl ?_
 refine WH.done kR ?_
 refine W.ret (W.retcc rfl rfl (ldRow hk335 underlying27 rfl isz27) rfl (ldRow hkw332 underlying53 rfl isz53) rfl ?_)
 exact ⟨_, rfl, ob0, val0, _, _, _, rfl, (hF333).weak, hB338, fun h7 h8 h9 => by cases h7⟩
 have h231' := dF h231
 refine W.sr <| WL.p (.fa underlying42 rfl sizeOf3 dD rfl) rfl <| WL.r (Rd.ld (isAgg3 _) rfl hk31 rfl) rfl <| WL.p (.fa underlying42 rfl sizeOf3 dD rfl) rfl <| WL.r (Rd.ld (isAgg3 _) rfl hk31 rfl) rfl <| WL.p (.fa underlying42 rfl sizeOf9 dD rfl) rfl <| WL.r (Rd.ld (isAgg9 _) rfl hk31 rfl) rfl <| ?_
 refine WL.p (.buildL (ps := _) blt27 rfl rfl rfl pS) rfl ?_
 refine WL.stL rfl rfl hk37 isz27 rfl rfl (fun w339 hkw339 huw339 hsw339 => ?_)
 have hF340 := StoM.same (w1 := w339) hF30 (fun k hk hl => huw339.other k (fun e => hnf28 (e ▸ hk)))
 have hk341 := hk31.up huw339
 have hk342 := hk33.up huw339
 have hk343 := hk35.up huw339
 have hk344 := hkb29.up huw339
 have hB345 := Chg.upd hB39 huw339 oO
 refine WL.nil <| ?_
 refine W.reg <| WL.p (.fa underlying42 rfl sizeOf3 dD rfl) rfl <| WL.r (Rd.ld (isAgg3 _) rfl hk341 rfl) rfl <| WL.p (.fa underlying42 rfl sizeOf3 dD rfl) rfl <| WL.r (Rd.ld (isAgg3 _) rfl hk341 rfl) rfl <| WL.p (.fa underlying42 rfl sizeOf9 dD rfl) rfl <| WL.r (Rd.ld (isAgg9 _) rfl hk341 rfl) rfl <| ?_
 refine WL.p (.buildL (ps := _) blt53 rfl rfl rfl pS) rfl ?_
 refine WL.stL rfl rfl hk344 isz53 rfl rfl (fun w346 hkw346 huw346 hsw346 => ?_)
 have hF347 := StoM.same (w1 := w346) hF340 (fun k hk hl => huw346.other k (fun e => hnf40 (e ▸ hk)))
 have hk348 := hk341.up huw346
 have hk349 := hk342.up huw346
 have hk350 := hk343.up huw346
 have hk351 := hkw339.up huw346
 have hB352 := Chg.upd hB345 huw346 oO
 refine WL.nil <| ?_
 exact ⟨(⟨_, _, _, _, _, _, _, _⟩, ⟨_, _, _, _, _, _, _, _, _, _⟩, G, _, _, _), ⟨rfl, rfl, rfl, rfl, rfl, rfl, rfl, trivial⟩, (hF347).weak, hB352, ⟨hk348, hnf4⟩, ⟨hk349, hnf10⟩, ⟨hk350, hnf18⟩, ⟨hk351, hnf28⟩, ⟨hkw346, hnf40⟩, by first | exact hL | exact ⟨fun _ q => by omega, fun _ q => by omega⟩⟩
 obtain ⟨o1, v1, G1, S1, e1, e2⟩ := t
 obtain ⟨jst, jB, ⟨j5, n5⟩, ⟨j6, n6⟩, ⟨j7, n7⟩, ⟨j9, n9⟩, ⟨j10, n10⟩, jL⟩ := hR
 refine W.cut (α := ObjV × ValV) (fun t => [(5, .pointer (some ⟨b1, 0, none⟩)), (6, .pointer (some ⟨b5, 0, none⟩)), (7, .pointer (some ⟨b11, 0, none⟩)), (9, .pointer (some ⟨b19, 0, none⟩)), (10, .pointer (some ⟨b29, 0, none⟩)), (11, .int .i64 e1), (12, .int .i64 e2)]) (fun t w' => StoM False bm w' b G1 S1 ∧ Chg G G1 w w' ∧ Blk w' b1 #[.int .i64 kd, .int .i64 nn, .int .i64 ac, .string (bs nm), .string (bs tx), .bool ex] 42 ∧ Blk w' b5 (objV ob0).toArray 27 ∧ Blk w' b11 (valV val0).toArray 53 ∧ Blk w' b19 (objV t.1).toArray 27 ∧ Blk w' b29 (valV t.2).toArray 53 ∧ (e1 = 0 → 6 ≤ kd → kd ≤ 8 → ∀ x, LockOk S1 { t.1 with exec := x })) ?_ (fun t w1 hR => ?_)
 refine W.sr <| WL.p (.fa underlying42 rfl sizeOf3 dD rfl) rfl <| WL.r (Rd.ld (isAgg3 _) rfl j5 rfl) rfl <| WL.p (.eql rfl rfl) rfl <| WL.m rfl rfl <| WL.gd rfl rfl rfl (fun g353 => ?_) (fun g353 => ?_)
 have g353' := dF g353
 refine WL.p (.fa underlying42 rfl sizeOf3 dD rfl) rfl <| WL.gy rfl rfl rfl g353 <| WL.r (Rd.ld (isAgg3 _) rfl j5 rfl) rfl <| WL.gy rfl rfl rfl g353 <| WL.p (.eql rfl rfl) rfl <| WL.p (.pkF rfl g353 rfl) rfl <| WL.nil <| ?_
 refine W.cond rfl (fun h354 => ?_) (fun h354 => ?_)
 have h354' := dT h354
 refine W.regH 8 rfl mixed (fun w' => w'.heap[b1]? = w1.heap[b1]? ∧ True) (fun w355 dw355 => ?_)
 have hF356 := StoM.same (w1 := w355) jst (fun k hk hl => (by obtain ⟨m, rfl⟩ := dw355; rfl))
 have hk357 := j5.drew dw355
 have hk358 := j6.drew dw355
 have hk359 := j7.drew dw355
 have hk360 := j9.drew dw355
 have hk361 := j10.drew dw355
 have hB362 := Chg.drew jB dw355
 refine WH.tp 0 rfl (.fa underlying42 rfl sizeOf3 dD rfl) ⟨(hk357).trans (j5).symm, trivial⟩ rfl ?_
 refine WH.tk 1 rfl (fun w' hw' => Rd.ld (isAgg3 _) rfl ((hw'.1).trans j5) rfl) ⟨(hk357).trans (j5).symm, trivial⟩ rfl ?_
 refine WH.tp 2 rfl (.fa underlying42 rfl sizeOf3 dD rfl) ⟨(hk357).trans (j5).symm, trivial⟩ rfl ?_
 refine WH.tk 3 rfl (fun w' hw' => Rd.ld (isAgg3 _) rfl ((hw'.1).trans j5) rfl) ⟨(hk357).trans (j5).symm, trivial⟩ rfl ?_
 refine WH.tp 4 rfl (.fa underlying27 rfl sizeOf3 dD rfl) ⟨(hk357).trans (j5).symm, trivial⟩ rfl ?_
 refine WH.br1 5 rfl ?_
 refine WL.st sizeOf3 rfl rfl rfl hk360 oD (fun w363 hkw363 huw363 hsw363 => ?_)
 have hkw363 : Blk w363 b19 _ _ := hkw363
 have huw363 : Upd b19 _ _ := huw363
 have hF364 := StoM.same (w1 := w363) hF356 (fun k hk hl => huw363.other k (fun e => n9 (e ▸ hk)))
 have hk365 := hk357.up huw363
 have hk366 := hk358.up huw363
 have hk367 := hk359.up huw363
 have hk368 := hk361.up huw363
 have hB369 := Chg.upd hB362 huw363 oO
 refine WL.nil <| ?_
 refine ⟨⟨(hk365).trans (j5).symm, trivial⟩, ?_⟩
 refine WH.tp 6 rfl (.fa underlying53 rfl sizeOf3 dD rfl) ⟨(hk365).trans (j5).symm, trivial⟩ rfl ?_
 refine WH.br1 7 rfl ?_
 refine WL.st sizeOf3 rfl rfl rfl hk368 oD (fun w370 hkw370 huw370 hsw370 => ?_)
 have hkw370 : Blk w370 b29 _ _ := hkw370
 have huw370 : Upd b29 _ _ := huw370
 have hF371 := StoM.same (w1 := w370) hF364 (fun k hk hl => huw370.other k (fun e => n10 (e ▸ hk)))
 have hk372 := hk365.up huw370
 have hk373 := hk366.up huw370
 have hk374 := hk367.up huw370
 have hk375 := hkw363.up huw370
 have hB376 := Chg.upd hB369 huw370 oO
 refine WL.nil <| ?_
 refine ⟨⟨(hk372).trans (j5).symm, trivial⟩, ?_⟩
 refine WH.done kR ?_
 exact ⟨({ o1 with access := ac }, { v1 with access := ac }), ⟨rfl, rfl, rfl, rfl, rfl, rfl, rfl, trivial⟩, hF371, hB376, hk372, hk373, hk374, hk375, hkw370, fun q1 q2 q3 x => jL.tl q1 oO x⟩
 have h354' := dF h354
 refine W.skip ?_
 exact ⟨(o1, v1), ⟨rfl, rfl, rfl, rfl, rfl, rfl, rfl, trivial⟩, jst, jB, j5, j6, j7, j9, j10, fun q1 q2 q3 x => jL.d q1 oO x⟩
 have g353' := dT g353
 refine WL.gn rfl rfl rfl g353 <| WL.gn rfl rfl rfl g353 <| WL.p (.pkT rfl g353 rfl) rfl <| WL.nil <| ?_
 refine W.condT rfl rfl ?_
 refine W.regH 8 rfl mixed (fun w' => w'.heap[b1]? = w1.heap[b1]? ∧ True) (fun w377 dw377 => ?_)
 have hF378 := StoM.same (w1 := w377) jst (fun k hk hl => (by obtain ⟨m, rfl⟩ := dw377; rfl))
 have hk379 := j5.drew dw377
 have hk380 := j6.drew dw377
 have hk381 := j7.drew dw377
 have hk382 := j9.drew dw377
 have hk383 := j10.drew dw377
 have hB384 := Chg.drew jB dw377
 refine WH.tp 0 rfl (.fa underlying42 rfl sizeOf3 dD rfl) ⟨(hk379).trans (j5).symm, trivial⟩ rfl ?_
 refine WH.tk 1 rfl (fun w' hw' => Rd.ld (isAgg3 _) rfl ((hw'.1).trans j5) rfl) ⟨(hk379).trans (j5).symm, trivial⟩ rfl ?_
 refine WH.tp 2 rfl (.fa underlying42 rfl sizeOf3 dD rfl) ⟨(hk379).trans (j5).symm, trivial⟩ rfl ?_
 refine WH.tk 3 rfl (fun w' hw' => Rd.ld (isAgg3 _) rfl ((hw'.1).trans j5) rfl) ⟨(hk379).trans (j5).symm, trivial⟩ rfl ?_
 refine WH.tp 4 rfl (.fa underlying27 rfl sizeOf3 dD rfl) ⟨(hk379).trans (j5).symm, trivial⟩ rfl ?_
 refine WH.br1 5 rfl ?_
 refine WL.st sizeOf3 rfl rfl rfl hk382 oD (fun w385 hkw385 huw385 hsw385 => ?_)
 have hkw385 : Blk w385 b19 _ _ := hkw385
 have huw385 : Upd b19 _ _ := huw385
 have hF386 := StoM.same (w1 := w385) hF378 (fun k hk hl => huw385.other k (fun e => n9 (e ▸ hk)))
 have hk387 := hk379.up huw385
 have hk388 := hk380.up huw385
 have hk389 := hk381.up huw385
 have hk390 := hk383.up huw385
 have hB391 := Chg.upd hB384 huw385 oO
 refine WL.nil <| ?_
 refine ⟨⟨(hk387).trans (j5).symm, trivial⟩, ?_⟩
 refine WH.tp 6 rfl (.fa underlying53 rfl sizeOf3 dD rfl) ⟨(hk387).trans (j5).symm, trivial⟩ rfl ?_
 refine WH.br1 7 rfl ?_
 refine WL.st sizeOf3 rfl rfl rfl hk390 oD (fun w392 hkw392 huw392 hsw392 => ?_)
 have hkw392 : Blk w392 b29 _ _ := hkw392
 have huw392 : Upd b29 _ _ := huw392
 have hF393 := StoM.same (w1 := w392) hF386 (fun k hk hl => huw392.other k (fun e => n10 (e ▸ hk)))
 have hk394 := hk387.up huw392
 have hk395 := hk388.up huw392
 have hk396 := hk389.up huw392
 have hk397 := hkw385.up huw392
 have hB398 := Chg.upd hB391 huw392 oO
 refine WL.nil <| ?_
 refine ⟨⟨(hk394).trans (j5).symm, trivial⟩, ?_⟩
 refine WH.done kR ?_
 exact ⟨({ o1 with access := ac }, { v1 with access := ac }), ⟨rfl, rfl, rfl, rfl, rfl, rfl, rfl, trivial⟩, hF393, hB398, hk394, hk395, hk396, hk397, hkw392, fun q1 q2 q3 x => jL.tl q1 oO x⟩
 obtain ⟨o2, v2⟩ := t
 obtain ⟨kst, kB, k5, k6, k7, k9, k10, kL⟩ := hR
 refine W.seq <| W.regH 8 rfl mixed (fun w' => w'.heap[b1]? = w1.heap[b1]? ∧ True) (fun w399 dw399 => ?_)
 have hF400 := StoM.same (w1 := w399) kst (fun k hk hl => (by obtain ⟨m, rfl⟩ := dw399; rfl))
 have hk401 := k5.drew dw399
 have hk402 := k6.drew dw399
 have hk403 := k7.drew dw399
 have hk404 := k9.drew dw399
 have hk405 := k10.drew dw399
 have hB406 := Chg.drew kB dw399
 refine WH.tp 0 rfl (.fa underlying42 rfl sizeOf4 dD rfl) ⟨(hk401).trans (k5).symm, trivial⟩ rfl ?_
 refine WH.tk 1 rfl (fun w' hw' => Rd.ld (isAgg4 _) rfl ((hw'.1).trans k5) rfl) ⟨(hk401).trans (k5).symm, trivial⟩ rfl ?_
 refine WH.tp 2 rfl (.fa underlying42 rfl sizeOf4 dD rfl) ⟨(hk401).trans (k5).symm, trivial⟩ rfl ?_
 refine WH.tk 3 rfl (fun w' hw' => Rd.ld (isAgg4 _) rfl ((hw'.1).trans k5) rfl) ⟨(hk401).trans (k5).symm, trivial⟩ rfl ?_
 refine WH.tp 4 rfl (.fa underlying27 rfl sizeOf4 dD rfl) ⟨(hk401).trans (k5).symm, trivial⟩ rfl ?_
 refine WH.br1 5 rfl ?_
 refine WL.st sizeOf4 rfl rfl rfl hk404 oD (fun w407 hkw407 huw407 hsw407 => ?_)
 have hkw407 : Blk w407 b19 _ _ := hkw407
 have huw407 : Upd b19 _ _ := huw407
 have hF408 := StoM.same (w1 := w407) hF400 (fun k hk hl => huw407.other k (fun e => n9 (e ▸ hk)))
 have hk409 := hk401.up huw407
 have hk410 := hk402.up huw407
 have hk411 := hk403.up huw407
 have hk412 := hk405.up huw407
 have hB413 := Chg.upd hB406 huw407 oO
 refine WL.nil <| ?_
 refine ⟨⟨(hk409).trans (k5).symm, trivial⟩, ?_⟩
 refine WH.tp 6 rfl (.fa underlying53 rfl sizeOf4 dD rfl) ⟨(hk409).trans (k5).symm, trivial⟩ rfl ?_
 refine WH.br1 7 rfl ?_
 refine WL.st sizeOf4 rfl rfl rfl hk412 oD (fun w414 hkw414 huw414 hsw414 => ?_)
 have hkw414 : Blk w414 b29 _ _ := hkw414
 have huw414 : Upd b29 _ _ := huw414
 have hF415 := StoM.same (w1 := w414) hF408 (fun k hk hl => huw414.other k (fun e => n10 (e ▸ hk)))
 have hk416 := hk409.up huw414
 have hk417 := hk410.up huw414
 have hk418 := hk411.up huw414
 have hk419 := hkw407.up huw414
 have hB420 := Chg.upd hB413 huw414 oO
 refine WL.nil <| ?_
 refine ⟨⟨(hk416).trans (k5).symm, trivial⟩, ?_⟩
 refine WH.done kR ?_
 refine W.seq <| W.regH 11 rfl mixed (fun w' => w'.heap[b19]? = w414.heap[b19]? ∧ w'.heap[b29]? = w414.heap[b29]? ∧ True) (fun w421 dw421 => ?_)
 have hF422 := StoM.same (w1 := w421) hF415 (fun k hk hl => (by obtain ⟨m, rfl⟩ := dw421; rfl))
 have hk424 := hk417.drew dw421
 have hk425 := hk418.drew dw421
 have hk426 := hk419.drew dw421
 have hk427 := hkw414.drew dw421
 have hB428 := Chg.drew hB420 dw421
 refine WH.tk 0 rfl (fun w' hw' => Rd.ldA rfl ((hw'.1).trans hk419) underlying27 rfl isz27) ⟨(hk426).trans (hk419).symm, (hk427).trans (hkw414).symm, trivial⟩ rfl ?_
 refine WH.tk 1 rfl (fun w' hw' => Rd.ldA rfl ((hw'.2.1).trans hkw414) underlying53 rfl isz53) ⟨(hk426).trans (hk419).symm, (hk427).trans (hkw414).symm, trivial⟩ rfl ?_
 refine WH.tp 2 rfl (.mv rfl) ⟨(hk426).trans (hk419).symm, (hk427).trans (hkw414).symm, trivial⟩ rfl ?_
 refine WH.tp 3 rfl (.eql rfl rfl) ⟨(hk426).trans (hk419).symm, (hk427).trans (hkw414).symm, trivial⟩ rfl ?_
 refine WH.tp 4 rfl (.mv rfl) ⟨(hk426).trans (hk419).symm, (hk427).trans (hkw414).symm, trivial⟩ rfl ?_
 refine WH.cs (dj := 169) true rfl (fun g429 => ?_) (fun g429 => ?_)
 have g429' := dT g429
 refine WH.ty 5 rfl rfl rfl g429 (fun _ _ => Pure.rd (.mv rfl)) ⟨(hk426).trans (hk419).symm, (hk427).trans (hkw414).symm, trivial⟩ rfl ?_
 refine WH.ty 6 rfl rfl rfl g429 (fun _ _ => Pure.rd (.eql rfl rfl)) ⟨(hk426).trans (hk419).symm, (hk427).trans (hkw414).symm, trivial⟩ rfl ?_
 refine WH.tp 7 rfl (.pkT rfl g429 rfl) ⟨(hk426).trans (hk419).symm, (hk427).trans (hkw414).symm, trivial⟩ rfl ?_
 refine WH.br1 8 rfl ?_
 refine WL.stL rfl rfl hk424 isz27 rfl rfl (fun w430 hkw430 huw430 hsw430 => ?_)
 have hF431 := StoM.same (w1 := w430) hF422 (fun k hk hl => huw430.other k (fun e => n6 (e ▸ hk)))
 have hk433 := hk425.up huw430
 have hk434 := hk426.up huw430
 have hk435 := hk427.up huw430
 have hB436 := Chg.upd hB428 huw430 oO
 refine WL.nil <| ?_
 refine ⟨⟨(hk434).trans (hk419).symm, (hk435).trans (hkw414).symm, trivial⟩, ?_⟩
 refine WH.br1 9 rfl ?_
 refine WL.stL rfl rfl hk433 isz53 rfl rfl (fun w437 hkw437 huw437 hsw437 => ?_)
 have hF438 := StoM.same (w1 := w437) hF431 (fun k hk hl => huw437.other k (fun e => n7 (e ▸ hk)))
 have hk440 := hkw430.up huw437
 have hk441 := hk434.up huw437
 have hk442 := hk435.up huw437
 have hB443 := Chg.upd hB436 huw437 oO
 refine WL.nil <| ?_
 refine ⟨⟨(hk441).trans (hk419).symm, (hk442).trans (hkw414).symm, trivial⟩, ?_⟩
 refine WH.tp 10 rfl (.as rfl) ⟨(hk441).trans (hk419).symm, (hk442).trans (hkw414).symm, trivial⟩ rfl ?_
 refine WH.done kR ?_
 refine W.ret (W.retcc rfl rfl (ldRow hk440 underlying27 rfl isz27) rfl (ldRow hkw437 underlying53 rfl isz53) rfl ?_)
 exact ⟨_, rfl, { o2 with exec := ex }, { v2 with exec := ex }, _, _, _, rfl, (hF438).weak, hB443, fun h7 h8 h9 => by first | (cases h7; done) | exact kL (by first | assumption | simp_all) h8 h9 _⟩
 have g429' := dF g429
 refine WH.tn 5 rfl rfl rfl g429 ⟨(hk426).trans (hk419).symm, (hk427).trans (hkw414).symm, trivial⟩ rfl ?_
 refine WH.tn 6 rfl rfl rfl g429 ⟨(hk426).trans (hk419).symm, (hk427).trans (hkw414).symm, trivial⟩ rfl ?_
 refine WH.tp 7 rfl (.pkF rfl g429 rfl) ⟨(hk426).trans (hk419).symm, (hk427).trans (hkw414).symm, trivial⟩ rfl ?_
 refine WH.br1 8 rfl ?_
 refine WL.stL rfl rfl hk424 isz27 rfl rfl (fun w444 hkw444 huw444 hsw444 => ?_)
 have hF445 := StoM.same (w1 := w444) hF422 (fun k hk hl => huw444.other k (fun e => n6 (e ▸ hk)))
 have hk447 := hk425.up huw444
 have hk448 := hk426.up huw444
 have hk449 := hk427.up huw444
 have hB450 := Chg.upd hB428 huw444 oO
 refine WL.nil <| ?_
 refine ⟨⟨(hk448).trans (hk419).symm, (hk449).trans (hkw414).symm, trivial⟩, ?_⟩
 refine WH.br1 9 rfl ?_
 refine WL.stL rfl rfl hk447 isz53 rfl rfl (fun w451 hkw451 huw451 hsw451 => ?_)
 have hF452 := StoM.same (w1 := w451) hF445 (fun k hk hl => huw451.other k (fun e => n7 (e ▸ hk)))
 have hk454 := hkw444.up huw451
 have hk455 := hk448.up huw451
 have hk456 := hk449.up huw451
 have hB457 := Chg.upd hB450 huw451 oO
 refine WL.nil <| ?_
 refine ⟨⟨(hk455).trans (hk419).symm, (hk456).trans (hkw414).symm, trivial⟩, ?_⟩
 refine WH.tp 10 rfl (.as rfl) ⟨(hk455).trans (hk419).symm, (hk456).trans (hkw414).symm, trivial⟩ rfl ?_
 refine WH.done kR ?_
 refine W.ret (W.retcc rfl rfl (ldRow hk454 underlying27 rfl isz27) rfl (ldRow hkw451 underlying53 rfl isz53) rfl ?_)
 exact ⟨_, rfl, { o2 with exec := ex }, { v2 with exec := ex }, _, _, _, rfl, (hF452).weak, hB457, fun h7 h8 h9 => by first | (cases h7; done) | exact kL (by first | assumption | simp_all) h8 h9 _⟩
 have g45' := dT g45
 refine WL.gn rfl rfl rfl g45 <| WL.gn rfl rfl rfl g45 <| WL.gn rfl rfl rfl g45 <| WL.p (.pkT rfl g45 rfl) rfl <| WL.nil <| ?_
 refine W.condT rfl rfl ?_
 refine W.seq <| W.regH 5 rfl mixed (fun w' => w'.heap[b19]? = wb29.heap[b19]? ∧ w'.heap[b29]? = wb29.heap[b29]? ∧ True) (fun w458 dw458 => ?_)
 have hF459 := StoM.same (w1 := w458) hF30 (fun k hk hl => (by obtain ⟨m, rfl⟩ := dw458; rfl))
 have hk461 := hk33.drew dw458
 have hk462 := hk35.drew dw458
 have hk463 := hk37.drew dw458
 have hk464 := hkb29.drew dw458
 have hB465 := Chg.drew hB39 dw458
 refine WH.tk 0 rfl (fun w' hw' => Rd.ldA rfl ((hw'.1).trans hk37) underlying27 rfl isz27) ⟨(hk463).trans (hk37).symm, (hk464).trans (hkb29).symm, trivial⟩ rfl ?_
 refine WH.tk 1 rfl (fun w' hw' => Rd.ldA rfl ((hw'.2.1).trans hkb29) underlying53 rfl isz53) ⟨(hk463).trans (hk37).symm, (hk464).trans (hkb29).symm, trivial⟩ rfl ?_
 refine WH.br1 2 rfl ?_
 refine WL.stL rfl rfl hk461 isz27 rfl rfl (fun w466 hkw466 huw466 hsw466 => ?_)
 have hF467 := StoM.same (w1 := w466) hF459 (fun k hk hl => huw466.other k (fun e => hnf10 (e ▸ hk)))
 have hk469 := hk462.up huw466
 have hk470 := hk463.up huw466
 have hk471 := hk464.up huw466
 have hB472 := Chg.upd hB465 huw466 oO
 refine WL.nil <| ?_
 refine ⟨⟨(hk470).trans (hk37).symm, (hk471).trans (hkb29).symm, trivial⟩, ?_⟩
 refine WH.br1 3 rfl ?_
 refine WL.stL rfl rfl hk469 isz53 rfl rfl (fun w473 hkw473 huw473 hsw473 => ?_)
 have hF474 := StoM.same (w1 := w473) hF467 (fun k hk hl => huw473.other k (fun e => hnf18 (e ▸ hk)))
 have hk476 := hkw466.up huw473
 have hk477 := hk470.up huw473
 have hk478 := hk471.up huw473
 have hB479 := Chg.upd hB472 huw473 oO
 refine WL.nil <| ?_
 refine ⟨⟨(hk477).trans (hk37).symm, (hk478).trans (hkb29).symm, trivial⟩, ?_⟩
 refine WH.tp 4 rfl (.as rfl) ⟨(hk477).trans (hk37).symm, (hk478).trans (hkb29).symm, trivial⟩ rfl ?_
 refine WH.done kR ?_
 refine W.ret (W.retcc rfl rfl (ldRow hk476 underlying27 rfl isz27) rfl (ldRow hkw473 underlying53 rfl isz53) rfl ?_)
 exact ⟨_, rfl, ob0, val0, _, _, _, rfl, (hF474).weak, hB479, fun h7 h8 h9 => by cases h7⟩
 have g44' := dT g44
 refine WL.gn rfl rfl rfl g44 <| WL.gn rfl rfl rfl g44 <| WL.gn rfl rfl rfl g44 <| WL.p (.pkT rfl g44 rfl) rfl <| WL.m rfl rfl <| WL.gn rfl rfl rfl rfl <| WL.gn rfl rfl rfl rfl <| WL.gn rfl rfl rfl rfl <| WL.gn rfl rfl rfl rfl <| WL.p (.pkT rfl rfl rfl) rfl <| WL.nil <| ?_
 refine W.condT rfl rfl ?_
 refine W.seq <| W.regH 5 rfl mixed (fun w' => w'.heap[b19]? = wb29.heap[b19]? ∧ w'.heap[b29]? = wb29.heap[b29]? ∧ True) (fun w480 dw480 => ?_)
 have hF481 := StoM.same (w1 := w480) hF30 (fun k hk hl => (by obtain ⟨m, rfl⟩ := dw480; rfl))
 have hk483 := hk33.drew dw480
 have hk484 := hk35.drew dw480
 have hk485 := hk37.drew dw480
 have hk486 := hkb29.drew dw480
 have hB487 := Chg.drew hB39 dw480
 refine WH.tk 0 rfl (fun w' hw' => Rd.ldA rfl ((hw'.1).trans hk37) underlying27 rfl isz27) ⟨(hk485).trans (hk37).symm, (hk486).trans (hkb29).symm, trivial⟩ rfl ?_
 refine WH.tk 1 rfl (fun w' hw' => Rd.ldA rfl ((hw'.2.1).trans hkb29) underlying53 rfl isz53) ⟨(hk485).trans (hk37).symm, (hk486).trans (hkb29).symm, trivial⟩ rfl ?_
 refine WH.br1 2 rfl ?_
 refine WL.stL rfl rfl hk483 isz27 rfl rfl (fun w488 hkw488 huw488 hsw488 => ?_)
 have hF489 := StoM.same (w1 := w488) hF481 (fun k hk hl => huw488.other k (fun e => hnf10 (e ▸ hk)))
 have hk491 := hk484.up huw488
 have hk492 := hk485.up huw488
 have hk493 := hk486.up huw488
 have hB494 := Chg.upd hB487 huw488 oO
 refine WL.nil <| ?_
 refine ⟨⟨(hk492).trans (hk37).symm, (hk493).trans (hkb29).symm, trivial⟩, ?_⟩
 refine WH.br1 3 rfl ?_
 refine WL.stL rfl rfl hk491 isz53 rfl rfl (fun w495 hkw495 huw495 hsw495 => ?_)
 have hF496 := StoM.same (w1 := w495) hF489 (fun k hk hl => huw495.other k (fun e => hnf18 (e ▸ hk)))
 have hk498 := hkw488.up huw495
 have hk499 := hk492.up huw495
 have hk500 := hk493.up huw495
 have hB501 := Chg.upd hB494 huw495 oO
 refine WL.nil <| ?_
 refine ⟨⟨(hk499).trans (hk37).symm, (hk500).trans (hkb29).symm, trivial⟩, ?_⟩
 refine WH.tp 4 rfl (.as rfl) ⟨(hk499).trans (hk37).symm, (hk500).trans (hkb29).symm, trivial⟩ rfl ?_
 refine WH.done kR ?_
 refine W.ret (W.retcc rfl rfl (ldRow hk498 underlying27 rfl isz27) rfl (ldRow hkw495 underlying53 rfl isz53) rfl ?_)
 exact ⟨_, rfl, ob0, val0, _, _, _, rfl, (hF496).weak, hB501, fun h7 h8 h9 => by cases h7⟩
 have g43' := dT g43
 refine WL.gn rfl rfl rfl g43 <| WL.gn rfl rfl rfl g43 <| WL.p (.pkT rfl g43 rfl) rfl <| WL.m rfl rfl <| WL.gn rfl rfl rfl rfl <| WL.gn rfl rfl rfl rfl <| WL.gn rfl rfl rfl rfl <| WL.gn rfl rfl rfl rfl <| WL.p (.pkT rfl rfl rfl) rfl <| WL.m rfl rfl <| WL.gn rfl rfl rfl rfl <| WL.gn rfl rfl rfl rfl <| WL.gn rfl rfl rfl rfl <| WL.gn rfl rfl rfl rfl <| WL.p (.pkT rfl rfl rfl) rfl <| WL.nil <| ?_
 refine W.condT rfl rfl ?_
 refine W.seq <| W.regH 5 rfl mixed (fun w' => w'.heap[b19]? = wb29.heap[b19]? ∧ w'.heap[b29]? = wb29.heap[b29]? ∧ True) (fun w502 dw502 => ?_)
 have hF503 := StoM.same (w1 := w502) hF30 (fun k hk hl => (by obtain ⟨m, rfl⟩ := dw502; rfl))
 have hk505 := hk33.drew dw502
 have hk506 := hk35.drew dw502
 have hk507 := hk37.drew dw502
 have hk508 := hkb29.drew dw502
 have hB509 := Chg.drew hB39 dw502
 refine WH.tk 0 rfl (fun w' hw' => Rd.ldA rfl ((hw'.1).trans hk37) underlying27 rfl isz27) ⟨(hk507).trans (hk37).symm, (hk508).trans (hkb29).symm, trivial⟩ rfl ?_
 refine WH.tk 1 rfl (fun w' hw' => Rd.ldA rfl ((hw'.2.1).trans hkb29) underlying53 rfl isz53) ⟨(hk507).trans (hk37).symm, (hk508).trans (hkb29).symm, trivial⟩ rfl ?_
 refine WH.br1 2 rfl ?_
 refine WL.stL rfl rfl hk505 isz27 rfl rfl (fun w510 hkw510 huw510 hsw510 => ?_)
 have hF511 := StoM.same (w1 := w510) hF503 (fun k hk hl => huw510.other k (fun e => hnf10 (e ▸ hk)))
 have hk513 := hk506.up huw510
 have hk514 := hk507.up huw510
 have hk515 := hk508.up huw510
 have hB516 := Chg.upd hB509 huw510 oO
 refine WL.nil <| ?_
 refine ⟨⟨(hk514).trans (hk37).symm, (hk515).trans (hkb29).symm, trivial⟩, ?_⟩
 refine WH.br1 3 rfl ?_
 refine WL.stL rfl rfl hk513 isz53 rfl rfl (fun w517 hkw517 huw517 hsw517 => ?_)
 have hF518 := StoM.same (w1 := w517) hF511 (fun k hk hl => huw517.other k (fun e => hnf18 (e ▸ hk)))
 have hk520 := hkw510.up huw517
 have hk521 := hk514.up huw517
 have hk522 := hk515.up huw517
 have hB523 := Chg.upd hB516 huw517 oO
 refine WL.nil <| ?_
 refine ⟨⟨(hk521).trans (hk37).symm, (hk522).trans (hkb29).symm, trivial⟩, ?_⟩
 refine WH.tp 4 rfl (.as rfl) ⟨(hk521).trans (hk37).symm, (hk522).trans (hkb29).symm, trivial⟩ rfl ?_
 refine WH.done kR ?_
 refine W.ret (W.retcc rfl rfl (ldRow hk520 underlying27 rfl isz27) rfl (ldRow hkw517 underlying53 rfl isz53) rfl ?_)
 exact ⟨_, rfl, ob0, val0, _, _, _, rfl, (hF518).weak, hB523, fun h7 h8 h9 => by cases h7⟩
 have g42' := dT g42
 refine WL.gn rfl rfl rfl g42 <| WL.gn rfl rfl rfl g42 <| WL.p (.pkT rfl g42 rfl) rfl <| WL.m rfl rfl <| WL.gn rfl rfl rfl rfl <| WL.gn rfl rfl rfl rfl <| WL.gn rfl rfl rfl rfl <| WL.p (.pkT rfl rfl rfl) rfl <| WL.m rfl rfl <| WL.gn rfl rfl rfl rfl <| WL.gn rfl rfl rfl rfl <| WL.gn rfl rfl rfl rfl <| WL.gn rfl rfl rfl rfl <| WL.p (.pkT rfl rfl rfl) rfl <| WL.m rfl rfl <| WL.gn rfl rfl rfl rfl <| WL.gn rfl rfl rfl rfl <| WL.gn rfl rfl rfl rfl <| WL.gn rfl rfl rfl rfl <| WL.p (.pkT rfl rfl rfl) rfl <| WL.nil <| ?_
 refine W.condT rfl rfl ?_
 refine W.seq <| W.regH 5 rfl mixed (fun w' => w'.heap[b19]? = wb29.heap[b19]? ∧ w'.heap[b29]? = wb29.heap[b29]? ∧ True) (fun w524 dw524 => ?_)
 have hF525 := StoM.same (w1 := w524) hF30 (fun k hk hl => (by obtain ⟨m, rfl⟩ := dw524; rfl))
 have hk527 := hk33.drew dw524
 have hk528 := hk35.drew dw524
 have hk529 := hk37.drew dw524
 have hk530 := hkb29.drew dw524
 have hB531 := Chg.drew hB39 dw524
 refine WH.tk 0 rfl (fun w' hw' => Rd.ldA rfl ((hw'.1).trans hk37) underlying27 rfl isz27) ⟨(hk529).trans (hk37).symm, (hk530).trans (hkb29).symm, trivial⟩ rfl ?_
 refine WH.tk 1 rfl (fun w' hw' => Rd.ldA rfl ((hw'.2.1).trans hkb29) underlying53 rfl isz53) ⟨(hk529).trans (hk37).symm, (hk530).trans (hkb29).symm, trivial⟩ rfl ?_
 refine WH.br1 2 rfl ?_
 refine WL.stL rfl rfl hk527 isz27 rfl rfl (fun w532 hkw532 huw532 hsw532 => ?_)
 have hF533 := StoM.same (w1 := w532) hF525 (fun k hk hl => huw532.other k (fun e => hnf10 (e ▸ hk)))
 have hk535 := hk528.up huw532
 have hk536 := hk529.up huw532
 have hk537 := hk530.up huw532
 have hB538 := Chg.upd hB531 huw532 oO
 refine WL.nil <| ?_
 refine ⟨⟨(hk536).trans (hk37).symm, (hk537).trans (hkb29).symm, trivial⟩, ?_⟩
 refine WH.br1 3 rfl ?_
 refine WL.stL rfl rfl hk535 isz53 rfl rfl (fun w539 hkw539 huw539 hsw539 => ?_)
 have hF540 := StoM.same (w1 := w539) hF533 (fun k hk hl => huw539.other k (fun e => hnf18 (e ▸ hk)))
 have hk542 := hkw532.up huw539
 have hk543 := hk536.up huw539
 have hk544 := hk537.up huw539
 have hB545 := Chg.upd hB538 huw539 oO
 refine WL.nil <| ?_
 refine ⟨⟨(hk543).trans (hk37).symm, (hk544).trans (hkb29).symm, trivial⟩, ?_⟩
 refine WH.tp 4 rfl (.as rfl) ⟨(hk543).trans (hk37).symm, (hk544).trans (hkb29).symm, trivial⟩ rfl ?_
 refine WH.done kR ?_
 refine W.ret (W.retcc rfl rfl (ldRow hk542 underlying27 rfl isz27) rfl (ldRow hkw539 underlying53 rfl isz53) rfl ?_)
 exact ⟨_, rfl, ob0, val0, _, _, _, rfl, (hF540).weak, hB545, fun h7 h8 h9 => by cases h7⟩
 have g41' := dT g41
 refine WL.gn rfl rfl rfl g41 <| WL.gn rfl rfl rfl g41 <| WL.p (.pkT rfl g41 rfl) rfl <| WL.m rfl rfl <| WL.gn rfl rfl rfl rfl <| WL.gn rfl rfl rfl rfl <| WL.gn rfl rfl rfl rfl <| WL.p (.pkT rfl rfl rfl) rfl <| WL.m rfl rfl <| WL.gn rfl rfl rfl rfl <| WL.gn rfl rfl rfl rfl <| WL.gn rfl rfl rfl rfl <| WL.p (.pkT rfl rfl rfl) rfl <| WL.m rfl rfl <| WL.gn rfl rfl rfl rfl <| WL.gn rfl rfl rfl rfl <| WL.gn rfl rfl rfl rfl <| WL.gn rfl rfl rfl rfl <| WL.p (.pkT rfl rfl rfl) rfl <| WL.m rfl rfl <| WL.gn rfl rfl rfl rfl <| WL.gn rfl rfl rfl rfl <| WL.gn rfl rfl rfl rfl <| WL.gn rfl rfl rfl rfl <| WL.p (.pkT rfl rfl rfl) rfl <| WL.nil <| ?_
 refine W.condT rfl rfl ?_
 refine W.seq <| W.regH 5 rfl mixed (fun w' => w'.heap[b19]? = wb29.heap[b19]? ∧ w'.heap[b29]? = wb29.heap[b29]? ∧ True) (fun w546 dw546 => ?_)
 have hF547 := StoM.same (w1 := w546) hF30 (fun k hk hl => (by obtain ⟨m, rfl⟩ := dw546; rfl))
 have hk549 := hk33.drew dw546
 have hk550 := hk35.drew dw546
 have hk551 := hk37.drew dw546
 have hk552 := hkb29.drew dw546
 have hB553 := Chg.drew hB39 dw546
 refine WH.tk 0 rfl (fun w' hw' => Rd.ldA rfl ((hw'.1).trans hk37) underlying27 rfl isz27) ⟨(hk551).trans (hk37).symm, (hk552).trans (hkb29).symm, trivial⟩ rfl ?_
 refine WH.tk 1 rfl (fun w' hw' => Rd.ldA rfl ((hw'.2.1).trans hkb29) underlying53 rfl isz53) ⟨(hk551).trans (hk37).symm, (hk552).trans (hkb29).symm, trivial⟩ rfl ?_
 refine WH.br1 2 rfl ?_
 refine WL.stL rfl rfl hk549 isz27 rfl rfl (fun w554 hkw554 huw554 hsw554 => ?_)
 have hF555 := StoM.same (w1 := w554) hF547 (fun k hk hl => huw554.other k (fun e => hnf10 (e ▸ hk)))
 have hk557 := hk550.up huw554
 have hk558 := hk551.up huw554
 have hk559 := hk552.up huw554
 have hB560 := Chg.upd hB553 huw554 oO
 refine WL.nil <| ?_
 refine ⟨⟨(hk558).trans (hk37).symm, (hk559).trans (hkb29).symm, trivial⟩, ?_⟩
 refine WH.br1 3 rfl ?_
 refine WL.stL rfl rfl hk557 isz53 rfl rfl (fun w561 hkw561 huw561 hsw561 => ?_)
 have hF562 := StoM.same (w1 := w561) hF555 (fun k hk hl => huw561.other k (fun e => hnf18 (e ▸ hk)))
 have hk564 := hkw554.up huw561
 have hk565 := hk558.up huw561
 have hk566 := hk559.up huw561
 have hB567 := Chg.upd hB560 huw561 oO
 refine WL.nil <| ?_
 refine ⟨⟨(hk565).trans (hk37).symm, (hk566).trans (hkb29).symm, trivial⟩, ?_⟩
 refine WH.tp 4 rfl (.as rfl) ⟨(hk565).trans (hk37).symm, (hk566).trans (hkb29).symm, trivial⟩ rfl ?_
 refine WH.done kR ?_
 refine W.ret (W.retcc rfl rfl (ldRow hk564 underlying27 rfl isz27) rfl (ldRow hkw561 underlying53 rfl isz53) rfl ?_)
 exact ⟨_, rfl, ob0, val0, _, _, _, rfl, (hF562).weak, hB567, fun h7 h8 h9 => by cases h7⟩
end
section
def sgL : Lay (List UInt8) := ⟨1, fun s => [.string (bs s)], by decide, fun _ => rfl, fun x u hu => by simp only [List.mem_singleton] at hu; subst hu; rfl⟩
theorem Chg.more {F F1 F2 : Nat → Prop} {w w1 : World} (h : Chg F F1 w w1) (hn : ∀ g, F2 g → F g ∨ w.heap.size ≤ g) : Chg F F2 w w1 := ⟨h.os, h.tape, h.output, h.size, h.block, hn⟩
theorem lk_mod (x : UInt8) : x.toNat % 3 < lkNames.length := Nat.mod_lt _ dD
theorem lk_do {S : StoV} {o : ObjV} (h : LockOk S o) {s : List UInt8} (hs : s ∈ lkNames) : doO S s [o] = (oneL (unaO S s o), (unaO S s o).2) ∧ doS S s [o] = unaS S s o := do_one h.v (lk_known s hs).1
theorem lk_ns {s : List UInt8} (hs : s ∈ lkNames) : s ≠ s_type := by
 intro e; subst e; revert hs; decide
theorem lk_rc {S : StoV} {o : ObjV} (h : LockOk S o) : doO S rcheckL [o] = ([truO (decide (accO S o ≤ 1))], 0) ∧ doS S rcheckL [o] = S := by
 obtain ⟨h1, h2⟩ := do_one (s := rcheckL) h.v dD
 obtain ⟨h3, h4⟩ := chk_r h
 rw [h1, h2, h3, h4]; exact ⟨rfl, rfl⟩
theorem lk_wc {S : StoV} {o : ObjV} (h : LockOk S o) : doO S s_wc [o] = ([truO (decide (accO S o = 0))], 0) ∧ doS S s_wc [o] = S := by
 obtain ⟨h1, h2⟩ := do_one (s := s_wc) h.v dD
 obtain ⟨h3, h4⟩ := chk_w h
 rw [h1, h2, h3, h4]; exact ⟨rfl, rfl⟩
theorem lk_on {S : StoV} {o : ObjV} (h : LockOk S o) : ∀ x ∈ [o], -9223372036854775808 ≤ x.n ∧ x.n ≤ 9223372036854775807 := fun x hx => by
 simp only [List.mem_singleton] at hx; subst hx; rw [h.n0]; decide
theorem lk_b1 (x : Int) : decide ((truO (decide (x ≤ 1))).n = 1) = decide (x ≤ 1) := by by_cases h : x ≤ 1 <;> simp [truO, h]
theorem lk_b2 (x : Int) : decide ((truO (decide (x = 0))).n = 1) = decide (x = 0) := by by_cases h : x = 0 <;> simp [truO, h]
set_option maxHeartbeats 4000000 in
theorem lawx_ConvLocks (kd nn ac : Int) (nm tx : List UInt8) (ex : Bool) (p : Option Addr) (l : List UInt8) (c : Nat) (w : World) (hE : EnvC w) (hb : BytesAt w p l) :
  Calls Tryz.prog 5 #[.agg #[.int .i64 kd, .int .i64 nn, .int .i64 ac, .string (bs nm), .string (bs tx), .bool ex], .slice p l.length c] w fun e w' => e = .returned (.bool true) ∧ Below w.heap.size w w' := by
 have hva : 0 < l.length → ¬ NoF (pA p).block := fun _ h => h
 refine W.enter func5 rfl ntmps5 (Nat.le_of_ble_eq_true rfl) ?_
 have hB0 := Chg.refl NoF w
 refine W.sr <| WL.box rfl rfl (fun b1 wb1 eb1 hkb1 hub1 hsb1 => ?_)
 have hvl3 := fun h0 => eb1 ▸ hb.lt h0
 have hv2 := bup hb hub1 hvl3
 have hgeb1 : w.heap.size ≤ b1 := by rw [eb1]; exact hB0.size
 have hB4 := Chg.upd hB0 hub1 hgeb1
 have hnf5 : ¬ NoF b1 := fun hq => hq
 refine WL.z rfl rfl ?_
 refine W.sr <| WL.call hb6 rfl rfl ((sto_New 500 _ dD dD)) (fun r w6 hw6 => ?_)
 obtain ⟨hB1, b, F, rfl, hst1, hge1⟩ := hw6
 have hC1 : Chg NoF F wb1 w6 := (Chg.of_below hB1).grow (fun g hg => .inr (hge1 g hg))
 have hnf7 := Chg.nf hC1 hnf5 hkb1.lt
 have hk8 := Blk.chg hkb1 hC1 hnf5
 have hnf10 := fun h0 => Chg.nf hC1 (hva h0) (hv2.lt h0)
 have hv9 := BytesAt.chg hv2 hC1 hva
 have hB11 := Chg.trans hB4 hC1
 refine WL.m rfl rfl <| WL.p (.ext rfl rfl) rfl <| WL.p (.ext rfl rfl) rfl <| WL.a rfl rfl <| WL.z rfl rfl ?_
 refine W.sr <| WL.p (.buildL (ps := _) blt48 rfl rfl rfl pS) rfl ?_
 refine WL.box rfl rfl (fun b12 wb12 eb12 hkb12 hub12 hsb12 => ?_)
 have hF13 := Sto.same (w1 := wb12) hst1 (fun k hk hl => hub12.other k oO)
 have hl15 : b1 < b12 := by rw [eb12]; exact hk8.lt
 have hk14 := hk8.upd hub12 (Nat.ne_of_lt hl15)
 have hvl17 := fun h0 => eb12 ▸ hv9.lt h0
 have hv16 := bup hv9 hub12 hvl17
 have hgeb12 : w.heap.size ≤ b12 := by rw [eb12]; exact hB11.size
 have hB18 := Chg.upd hB11 hub12 hgeb12
 have hnf19 : ¬ F b12 := fun hq => by have hq1 := (hst1).lt hq; omega
 refine WL.z rfl rfl ?_
 refine W.sr <| WL.m rfl rfl <| WL.m rfl rfl <| WL.r (Rd.ldA rfl hk14 underlying42 rfl isz42) rfl <| ?_
 have hstM := StoM.of hF13 hkb12 hnf19
 have hn2 : ¬ (F b1 ∨ b1 = b12) := by rintro (h | h); exact hnf7 h; omega
 have hBM := (hB18).more (F2 := fun g => F g ∨ g = b12) (fun g hg => by rcases hg with h | rfl; exact (hB18).new g h; exact .inr oO)
 have hnfa : 0 < l.length → ¬ (F (pA p).block ∨ (pA p).block = b12) := fun h0 => by rintro (h | h); exact hnf10 h0 h; have h9 := hb.lt h0; omega
 refine WL.call hb13 rfl rfl ((law10_build' b b12 _ kd nn ac nm tx ex _ hstM)) (fun r w20 hw20 => ?_)
 obtain ⟨o0, v0, G1, SA, ok, rfl, hst2, hC2, hL0⟩ := hw20
 obtain ⟨F2, hsF, hsub, -⟩ := hst2.ex
 have hnf21 := Chg.nf hC2 hn2 hk14.lt
 have hk23 := Blk.chg hk14 hC2 hn2
 have hnf25 := fun h0 => Chg.nf hC2 (hnfa h0) (hv16.lt h0)
 have hv24 := BytesAt.chg hv16 hC2 hnfa
 have hB26 := Chg.trans hBM hC2
 have hn2b : ¬ F2 b1 := fun h => hnf21 (hsub _ h)
 have hBM2 := (hB26).more (F2 := F2) (fun g hg => (hB26).new g (hsub g hg))
 have hnfb : 0 < l.length → ¬ F2 (pA p).block := fun h0 h => hnf25 h0 (hsub _ h)
 refine WL.m rfl rfl <| WL.p (.ext rfl rfl) rfl <| WL.p (.ext rfl rfl) rfl <| WL.p (.ext rfl rfl) rfl <| WL.alloc zeroValue27 rfl (fun b27 wb27 eb27 hkb27 hub27 hsb27 => ?_)
 have hF28 := Sto.same (w1 := wb27) hsF (fun k hk hl => hub27.other k oO)
 have hl30 : b1 < b27 := by rw [eb27]; exact hk23.lt
 have hk29 := hk23.upd hub27 (Nat.ne_of_lt hl30)
 have hvl32 := fun h0 => eb27 ▸ hv24.lt h0
 have hv31 := bup hv24 hub27 hvl32
 have hgeb27 : w.heap.size ≤ b27 := by rw [eb27]; exact hBM2.size
 have hB33 := Chg.upd hBM2 hub27 hgeb27
 have hnf34 : ¬ F2 b27 := fun hq => by have hq1 := (hsF).lt hq; omega
 refine WL.alloc zeroValue53 rfl (fun b35 wb35 eb35 hkb35 hub35 hsb35 => ?_)
 have hF36 := Sto.same (w1 := wb35) hF28 (fun k hk hl => hub35.other k oO)
 have hl38 : b1 < b35 := by rw [eb35]; exact hk29.lt
 have hk37 := hk29.upd hub35 (Nat.ne_of_lt hl38)
 have hl40 : b27 < b35 := by rw [eb35]; exact hkb27.lt
 have hk39 := hkb27.upd hub35 (Nat.ne_of_lt hl40)
 have hvl42 := fun h0 => eb35 ▸ hv31.lt h0
 have hv41 := bup hv31 hub35 hvl42
 have hgeb35 : w.heap.size ≤ b35 := by rw [eb35]; exact hB33.size
 have hB43 := Chg.upd hB33 hub35 hgeb35
 have hnf44 : ¬ F2 b35 := fun hq => by have hq1 := (hF28).lt hq; omega
 refine WL.stL rfl rfl hk39 isz27 rfl rfl (fun w45 hkw45 huw45 hsw45 => ?_)
 have hF46 := Sto.same (w1 := w45) hF36 (fun k hk hl => huw45.other k (fun e => hnf34 (e ▸ hk)))
 have hk47 := hk37.up huw45
 have hk48 := hkb35.up huw45
 have hv49 := bup hv41 huw45 hvl32
 have hB50 := Chg.upd hB43 huw45 oO
 refine WL.stL rfl rfl hk48 isz53 rfl rfl (fun w51 hkw51 huw51 hsw51 => ?_)
 have hF52 := Sto.same (w1 := w51) hF46 (fun k hk hl => huw51.other k (fun e => hnf44 (e ▸ hk)))
 have hk53 := hk47.up huw51
 have hk54 := hkw45.up huw51
 have hv55 := bup hv49 huw51 hvl42
 have hB56 := Chg.upd hB50 huw51 oO
 refine WL.z rfl rfl ?_
 refine W.seq <| W.sr <| WL.c1 hb9 rfl rfl ((law10_answers _ (hE.chg hB56 freeN))) (fun w57 hw57 => ?_)
 have hF58 := Sto.same (w1 := w57) hF52 (fun k hk hl => hw57.block k hl)
 have hk59 := hk53.below hw57 hk53.lt
 have hk60 := hk54.below hw57 hk54.lt
 have hk61 := hkw51.below hw57 hkw51.lt
 have hv62 := BytesAt.below hv55 hw57 (fun h0 => hv55.lt h0)
 have hB63 := Chg.low hB56 hw57
 refine WL.p (.not rfl) rfl <| WL.m rfl rfl <| WL.gy rfl rfl rfl rfl <| WL.m rfl rfl <| WL.gy rfl rfl rfl rfl <| WL.p (.not rfl) rfl <| WL.p (.pkF rfl rfl rfl) rfl <| WL.m rfl rfl <| WL.gd rfl rfl rfl (fun g64 => ?_) (fun g64 => ?_)
 have g64' := (nF g64)
 refine WL.p (.fa underlying42 rfl sizeOf3 dD rfl) rfl <| WL.gy rfl rfl rfl (by rw [(nF g64)] <;> rfl) <| WL.r (Rd.ld (isAgg3 _) rfl hk59 rfl) rfl <| WL.gy rfl rfl rfl (by rw [(nF g64)] <;> rfl) <| WL.p (.lss rfl rfl) rfl <| WL.p (.pkF rfl (by rw [(nF g64)] <;> rfl) rfl) rfl <| WL.m rfl rfl <| WL.gd rfl rfl rfl (fun g65 => ?_) (fun g65 => ?_)
 have g65' := dF g65
 refine WL.p (.fa underlying42 rfl sizeOf3 dD rfl) rfl <| WL.gy rfl rfl rfl g65 <| WL.r (Rd.ld (isAgg3 _) rfl hk59 rfl) rfl <| WL.gy rfl rfl rfl g65 <| WL.p (.gtr rfl rfl) rfl <| WL.p (.pkF rfl g65 rfl) rfl <| WL.m rfl rfl <| WL.gd rfl rfl rfl (fun g66 => ?_) (fun g66 => ?_)
 have g66' := dF g66
 refine WL.m rfl rfl <| WL.gy rfl rfl rfl g66 <| WL.p (.lenS underlying35 rfl) rfl <| WL.gy rfl rfl rfl g66 <| WL.p (.gtr rfl rfl) rfl <| WL.p (.pkF rfl g66 rfl) rfl <| WL.nil <| ?_
 refine W.cond rfl (fun h67 => ?_) (fun h67 => ?_)
 have h67' := dT h67
 refine W.sr <| WL.c1 hb9 rfl rfl ((law10_answers _ (hE.chg hB63 freeN))) (fun w68 hw68 => ?_)
 have hB74 := Chg.low hB63 hw68
 refine WL.z rfl rfl ?_
 refine W.ret (W.ret1 rfl rfl ?_)
 exact ⟨rbE rfl, (hB74).none⟩
 have h67' := dF h67
 refine W.skip <| W.seq ?_
 have hL1 : LockOk SA o0 := hL0 (by first | assumption | simp_all) oO oO
 refine W.reg <| WL.bsl (ps := _) underlying56 sizeOf9 zeroValue9 rfl rfl rfl rfl rfl pR rfl (fun b75 wb75 eb75 hkb75 hub75 hsb75 => ?_)
 have hF76 := Sto.same (w1 := wb75) hF58 (fun k hk hl => hub75.other k oO)
 have hl78 : b1 < b75 := by rw [eb75]; exact hk59.lt
 have hl80 : b27 < b75 := by rw [eb75]; exact hk60.lt
 have hk79 := hk60.upd hub75 (Nat.ne_of_lt hl80)
 have hl82 : b35 < b75 := by rw [eb75]; exact hk61.lt
 have hvl84 := fun h0 => eb75 ▸ hv62.lt h0
 have hv83 := bup hv62 hub75 hvl84
 have hgeb75 : w.heap.size ≤ b75 := by rw [eb75]; exact hB63.size
 have hB85 := Chg.upd hB63 hub75 hgeb75
 have hnf86 : ¬ F2 b75 := fun hq => by have hq1 := (hF58).lt hq; omega
 have hxl := RowM.lit (L := sgL) (l := lkNames) hkb75 rfl
 have hxn : 0 < lkNames.length → ¬ F2 b75 := fun _ => hnf86
 refine WL.z rfl rfl ?_
 refine W.seq <| W.sr <| WL.z rfl rfl ?_
 refine W.block ?_
 refine W.loop (α := Nat × ObjV × StoV × (Nat → Prop)) (fun t => [(1, .slice p l.length c), (4, .bool false), (5, .pointer (some ⟨b, 0, none⟩)), (8, .pointer (some ⟨b27, 0, none⟩)), (11, .slice (some ⟨b75, 0, none⟩) 3 3), (12, .int .i64 (t.1 : Int))]) (fun t w' => Sto w' b t.2.2.2 t.2.2.1 ∧ Chg NoF t.2.2.2 w w' ∧ (Blk w' b27 (objV t.2.1).toArray 27 ∧ ¬ t.2.2.2 b27) ∧ (BytesAt w' p l ∧ (0 < l.length → ¬ t.2.2.2 (pA p).block)) ∧ (RowM sgL w' (some ⟨b75, 0, none⟩) lkNames ∧ (0 < lkNames.length → ¬ t.2.2.2 b75)) ∧ LockOk t.2.2.1 t.2.1 ∧ t.1 ≤ l.length) (fun t => l.length - t.1) ((0, o0, SA, F2)) ⟨rfl, rfl, rfl, rfl, rfl, rfl, trivial⟩ (⟨hF76, hB85, ⟨hk79, hnf34⟩, ⟨hv83, hnfb⟩, ⟨hxl, hxn⟩, hL1, Nat.zero_le _⟩) (fun t w1 hR => ?_)
 obtain ⟨i, o, S, FL⟩ := t
 obtain ⟨lst, lB, ⟨l8, nl8⟩, ⟨la, nla⟩, ⟨lls, nls⟩, hLK, hil⟩ := hR
 refine W.seq <| W.sr <| WL.m rfl rfl <| WL.m rfl rfl <| WL.p (.lenS underlying35 rfl) rfl <| WL.p (.lss rfl rfl) rfl <| WL.nil <| ?_
 refine W.cond rfl (fun h87 => ?_) (fun h87 => ?_)
 have h87' := dT h87
 have hil2 : i < l.length := by omega
 have h255 : l[i].toNat < 256 := l[i].toNat_lt
 have hlk3 : l[i].toNat % 3 < lkNames.length := lk_mod l[i]
 refine W.skip <| W.seq <| W.block <| W.sr <| WL.m rfl rfl <| WL.r (Rd.ldA rfl l8 underlying27 rfl isz27) rfl <| WL.c1 hb14 rfl rfl ((law10_access b FL S o _ lst hLK.ok)) (fun w88 hw88 => ?_)
 have hF89 := Sto.same (w1 := w88) lst (fun k hk hl => hw88.block k hl)
 have hk90 := l8.below hw88 l8.lt
 have hv91 := BytesAt.below la hw88 (fun h0 => la.lt h0)
 have hv92 := RowM.below lls hw88 (fun h0 => lls.lt h0)
 have hB93 := Chg.low lB hw88
 refine WL.z rfl rfl ?_
 refine W.seq <| W.regH 18 rfl mixed (fun w' => w'.heap[b27]? = w88.heap[b27]? ∧ BytesAt w' p l ∧ RowM sgL w' (some ⟨b75, 0, none⟩) lkNames ∧ True) (fun w94 dw94 => ?_)
 have hF95 := Sto.same (w1 := w94) hF89 (fun k hk hl => (by obtain ⟨m, rfl⟩ := dw94; rfl))
 have hk96 := hk90.drew dw94
 have hv97 := hv91.drew dw94
 have hv98 := hv92.drew dw94
 have hB99 := Chg.drew hB93 dw94
 refine WH.tp 0 rfl (.mv rfl) ⟨(hk96).trans (hk90).symm, hv97, hv98, trivial⟩ rfl ?_
 refine WH.tp 1 rfl (.mv rfl) ⟨(hk96).trans (hk90).symm, hv97, hv98, trivial⟩ rfl ?_
 refine WH.tp 2 rfl (.mv rfl) ⟨(hk96).trans (hk90).symm, hv97, hv98, trivial⟩ rfl ?_
 refine WH.tp 3 rfl (.mv rfl) ⟨(hk96).trans (hk90).symm, hv97, hv98, trivial⟩ rfl ?_
 refine WH.tp 4 rfl (.ixb underlying35 sizeOf5 rfl rfl (hv97.isp oO) (i) (rfl) oO) ⟨(hk96).trans (hk90).symm, hv97, hv98, trivial⟩ rfl ?_
 refine WH.tk 5 rfl (fun w' hw' => Rd.ldc (isAgg5 _) rfl ((hw'.2.1).cells (i) oO)) ⟨(hk96).trans (hk90).symm, hv97, hv98, trivial⟩ rfl ?_
 refine WH.tp 6 rfl (.cvt underlying5 underlying3 rfl (i64w oO)) ⟨(hk96).trans (hk90).symm, hv97, hv98, trivial⟩ rfl ?_
 refine WH.tp 7 rfl (.iis (((l[i].toNat % 3 : Nat) : Int)) (.rem rfl rfl oO (Int.tmod_eq_emod_of_nonneg oO)) oO) ⟨(hk96).trans (hk90).symm, hv97, hv98, trivial⟩ rfl ?_
 refine WH.tp 8 rfl (.ixm underlying56 sizeOf9 rfl rfl (hv98.isp (by first | omega | (simp only [List.length_cons, List.length_nil]; omega))) (l[i].toNat % 3) (rfl) (lk_mod l[i])) ⟨(hk96).trans (hk90).symm, hv97, hv98, trivial⟩ rfl ?_
 refine WH.tk 9 rfl (fun w' hw' => Rd.ldc (isAgg9 _) rfl (((hw'.2.2.1).field (l[i].toNat % 3) (by first | omega | (simp only [List.length_cons, List.length_nil]; omega)) 0 dD).trans rfl)) ⟨(hk96).trans (hk90).symm, hv97, hv98, trivial⟩ rfl ?_
 refine WH.tk 10 rfl (fun w' hw' => Rd.ldA rfl ((hw'.1).trans hk90) underlying27 rfl isz27) ⟨(hk96).trans (hk90).symm, hv97, hv98, trivial⟩ rfl ?_
 refine WH.br1 11 rfl ?_
 refine WL.bslM (L := objL) (ps := _) ([o]) underlying30 sizeOf27 zeroValue27 rfl rfl rfl rfl rfl (by first | rfl | decide) rfl rfl (fun b100 wb100 eb100 hob100 hub100 hsb100 => ?_)
 have hF101 := Sto.same (w1 := wb100) hF95 (fun k hk hl => hub100.other k oO)
 have hl103 : b27 < b100 := by rw [eb100]; exact hk96.lt
 have hk102 := hk96.upd hub100 (Nat.ne_of_lt hl103)
 have hvl105 := fun h0 => eb100 ▸ hv97.lt h0
 have hv104 := bup hv97 hub100 hvl105
 have hvl107 := fun h0 => eb100 ▸ hv98.lt h0
 have hv106 := RowM.upd hv98 hub100 (fun h0 => Nat.ne_of_lt (hvl107 h0))
 have hgeb100 : w.heap.size ≤ b100 := by rw [eb100]; exact hB99.size
 have hB108 := Chg.upd hB99 hub100 hgeb100
 have hnf109 : ¬ FL b100 := fun hq => by have hq1 := (hF95).lt hq; omega
 have hleb100 : b100 ≤ wb100.heap.size := by omega
 refine WL.nil <| ?_
 refine ⟨⟨(hk102).trans (hk90).symm, hv104, hv106, trivial⟩, ?_⟩
 refine WH.br1 12 rfl ?_
 obtain ⟨s, hs, hse⟩ : ∃ s, s ∈ lkNames ∧ s = lkNames[l[i].toNat % 3]'(lk_mod l[i]) := ⟨_, List.getElem_mem _, rfl⟩
 refine WL.call hb8 rfl rfl ((conv_Do b FL S (lkNames[l[i].toNat % 3]'(lk_mod l[i])) _ [o] _ _ hF101 hLK.ok (hE.chg hB108 freeN) (hE.free hB108 freeN) (hob100).rowp (fun _ => hnf109) (show (1 : Nat) ≤ _ by decide) (by rw [hLK.c]; decide) (lk_ns (hse ▸ hs)) (lk_on hLK))) (fun r w110 hw110 => ?_)
 obtain ⟨v3, F3, rfl, ho3, hn3, hst3, hC3⟩ := hw110
 obtain ⟨d1, d2⟩ := lk_do hLK hs
 rw [hse] at d1 d2
 rw [d1] at ho3
 rw [d2] at hst3
 have ho3 : OwnM objL 27 _ w110 v3 (oneL (unaO S _ o)) := ho3
 have hb8lt := (hk102).lt
 obtain ⟨p3, c3, rfl, hrow3, hge3, -⟩ := ho3.row
 have hvn3 := vnf_of hrow3 hn3
 have hnf112 := Chg.nf hC3 nl8 hk102.lt
 have hk116 := Blk.chg hk102 hC3 nl8
 have hnf118 := fun h0 => Chg.nf hC3 (nla h0) (hv104.lt h0)
 have hv117 := BytesAt.chg hv104 hC3 nla
 have hnf120 := fun h0 => Chg.nf hC3 (nls h0) (hv106.lt h0)
 have hv119 := RowM.chg hv106 hC3 nls
 have hB121 := Chg.trans hB108 hC3
 refine WL.nil <| ?_
 refine ⟨⟨(hk116).trans (hk90).symm, hv117, hv119, trivial⟩, ?_⟩
 refine WH.tp 13 rfl (.mv rfl) ⟨(hk116).trans (hk90).symm, hv117, hv119, trivial⟩ rfl ?_
 refine WH.tp 14 rfl (.ext rfl rfl) ⟨(hk116).trans (hk90).symm, hv117, hv119, trivial⟩ rfl ?_
 refine WH.tp 15 rfl (.iis ((unaO S s o).2) (.ext rfl rfl) (by rw [d1, hse])) ⟨(hk116).trans (hk90).symm, hv117, hv119, trivial⟩ rfl ?_
 refine WH.tp 16 rfl (.as rfl) ⟨(hk116).trans (hk90).symm, hv117, hv119, trivial⟩ rfl ?_
 refine WH.tp 17 rfl (.as rfl) ⟨(hk116).trans (hk90).symm, hv117, hv119, trivial⟩ rfl ?_
 refine WH.done kR ?_
 refine W.seq <| W.sr <| WL.m rfl rfl <| WL.p (.eql rfl rfl) rfl <| WL.nil <| ?_
 refine W.cond rfl (fun h122 => ?_) (fun h122 => ?_)
 have h122' := dT h122
 have he0 : (unaO S s o).2 = 0 := by assumption
 have hLK2 := lk_step hLK hs he0
 obtain ⟨o2, ho2⟩ : ∃ o2, o2 = (unaO S s o).1 := ⟨_, rfl⟩
 obtain ⟨S2, hS2⟩ : ∃ S2, S2 = unaS S s o := ⟨_, rfl⟩
 have hst4 : Sto w110 b F3 S2 := by rw [hS2, hse]; exact hst3
 have h0l : 0 < (oneL (unaO S (lkNames[l[i].toNat % 3]'(lk_mod l[i])) o)).length := by rw [← hse, oneL, if_pos he0]; exact Nat.zero_lt_one
 have hoe : (oneL (unaO S (lkNames[l[i].toNat % 3]'(lk_mod l[i])) o))[0] = o2 := (List.getElem_of_eq (show oneL (unaO S (lkNames[l[i].toNat % 3]'(lk_mod l[i])) o) = [(unaO S s o).1] by rw [← hse, oneL, if_pos he0]) h0l).trans ho2.symm
 rw [← ho2, ← hS2] at hLK2
 have hle2 := hLK2.2
 refine W.reg <| WL.m rfl rfl <| WL.p (.ixm underlying30 sizeOf27 rfl rfl (hrow3.isp (by first | omega | (simp only [List.length_cons, List.length_nil]; omega))) (0) (rfl) (h0l)) rfl <| WL.r (Rd.ldS underlying27 rfl isz27 hrow3 (0) (by first | omega | (simp only [List.length_cons, List.length_nil]; omega)) rfl) rfl <| WL.stL rfl rfl hk116 isz27 rfl rfl (fun w123 hkw123 huw123 hsw123 => ?_)
 have hF124 := Sto.same (w1 := w123) hst4 (fun k hk hl => huw123.other k (fun e => hnf112 (e ▸ hk)))
 have hv125 := bup hv117 huw123 hvl32
 have hv126 := RowM.upd hv119 huw123 (fun _ => by show b75 ≠ b27; omega)
 have hv127 := RowM.upd hrow3 huw123 (fun h0 => by have h1 := hge3 _ (hrow3.isp h0); omega)
 have hB128 := Chg.upd hB121 huw123 oO
 refine WL.nil <| ?_
 refine W.seq ?_
 have hk8 : Blk w123 b27 (objV o2).toArray 27 := by have h := hkw123; rw [hoe] at h; exact h
 refine W.reg <| WL.m rfl rfl <| WL.r (Rd.ldA rfl hk8 underlying27 rfl isz27) rfl <| WL.c1 hb14 rfl rfl ((law10_access b F3 S2 o2 _ hF124 hLK2.1.ok)) (fun w129 hw129 => ?_)
 have hF130 := Sto.same (w1 := w129) hF124 (fun k hk hl => hw129.block k hl)
 have hk131 := hk8.below hw129 hk8.lt
 have hv132 := BytesAt.below hv125 hw129 (fun h0 => hv125.lt h0)
 have hv133 := RowM.below hv126 hw129 (fun h0 => hv126.lt h0)
 have hv134 := RowM.below hv127 hw129 (fun h0 => hv127.lt h0)
 have hB135 := Chg.low hB128 hw129
 refine WL.z rfl rfl ?_
 refine W.sr <| WL.m rfl rfl <| WL.r (Rd.ldA rfl hk131 underlying27 rfl isz27) rfl <| WL.bslM (L := objL) (ps := _) ([o2]) underlying30 sizeOf27 zeroValue27 rfl rfl rfl rfl rfl (by first | rfl | decide) rfl rfl (fun b136 wb136 eb136 hob136 hub136 hsb136 => ?_)
 have hF137 := Sto.same (w1 := wb136) hF130 (fun k hk hl => hub136.other k oO)
 have hl139 : b27 < b136 := by rw [eb136]; exact hk131.lt
 have hk138 := hk131.upd hub136 (Nat.ne_of_lt hl139)
 have hvl141 := fun h0 => eb136 ▸ hv132.lt h0
 have hv140 := bup hv132 hub136 hvl141
 have hvl143 := fun h0 => eb136 ▸ hv133.lt h0
 have hv142 := RowM.upd hv133 hub136 (fun h0 => Nat.ne_of_lt (hvl143 h0))
 have hvl145 := fun h0 => eb136 ▸ hv134.lt h0
 have hv144 := RowM.upd hv134 hub136 (fun h0 => Nat.ne_of_lt (hvl145 h0))
 have hgeb136 : w.heap.size ≤ b136 := by rw [eb136]; exact hB135.size
 have hB146 := Chg.upd hB135 hub136 hgeb136
 have hnf147 : ¬ F3 b136 := fun hq => by have hq1 := (hF130).lt hq; omega
 have hleb136 : b136 ≤ wb136.heap.size := by omega
 refine WL.call hb8 rfl rfl ((conv_Do b F3 S2 rcheckL _ [o2] _ _ hF137 hLK2.1.ok (hE.chg hB146 freeN) (hE.free hB146 freeN) (hob136).rowp (fun _ => hnf147) (show (1 : Nat) ≤ _ by decide) (by rw [hLK2.1.c]; decide) dD (lk_on hLK2.1))) (fun r w148 hw148 => ?_)
 obtain ⟨v5, F5, rfl, ho5, hn5, hst5, hC5⟩ := hw148
 obtain ⟨d3, d4⟩ := lk_rc hLK2.1
 rw [d3] at ho5
 rw [d4] at hst5
 have ho5 : OwnM objL 27 _ w148 v5 [truO (decide (accO S2 o2 ≤ 1))] := ho5
 obtain ⟨p5, c5, rfl, hrow5, -⟩ := ho5.row
 have hvn5 := vnf_of hrow5 hn5
 have hnf149 := Chg.nf hC5 hnf112 hk138.lt
 have hk151 := Blk.chg hk138 hC5 hnf112
 have hnf153 := fun h0 => Chg.nf hC5 (hnf118 h0) (hv140.lt h0)
 have hv152 := BytesAt.chg hv140 hC5 hnf118
 have hnf155 := fun h0 => Chg.nf hC5 (hnf120 h0) (hv142.lt h0)
 have hv154 := RowM.chg hv142 hC5 hnf120
 have hnf157 := fun h0 => Chg.nf hC5 (hvn3 h0) (hv144.lt h0)
 have hv156 := RowM.chg hv144 hC5 hvn3
 have hB158 := Chg.trans hB146 hC5
 refine WL.m rfl rfl <| WL.p (.ext rfl rfl) rfl <| WL.p (.iis (0) (.ext rfl rfl) (by rw [d3])) rfl <| WL.a rfl rfl <| WL.z rfl rfl ?_
 refine W.sr <| WL.m rfl rfl <| WL.r (Rd.ldA rfl hk151 underlying27 rfl isz27) rfl <| WL.bslM (L := objL) (ps := _) ([o2]) underlying30 sizeOf27 zeroValue27 rfl rfl rfl rfl rfl (by first | rfl | decide) rfl rfl (fun b159 wb159 eb159 hob159 hub159 hsb159 => ?_)
 have hF160 := Sto.same (w1 := wb159) hst5 (fun k hk hl => hub159.other k oO)
 have hl162 : b27 < b159 := by rw [eb159]; exact hk151.lt
 have hk161 := hk151.upd hub159 (Nat.ne_of_lt hl162)
 have hvl164 := fun h0 => eb159 ▸ hv152.lt h0
 have hv163 := bup hv152 hub159 hvl164
 have hvl166 := fun h0 => eb159 ▸ hv154.lt h0
 have hv165 := RowM.upd hv154 hub159 (fun h0 => Nat.ne_of_lt (hvl166 h0))
 have hvl168 := fun h0 => eb159 ▸ hv156.lt h0
 have hv167 := RowM.upd hv156 hub159 (fun h0 => Nat.ne_of_lt (hvl168 h0))
 have hvl170 := fun h0 => eb159 ▸ hrow5.lt h0
 have hv169 := RowM.upd hrow5 hub159 (fun h0 => Nat.ne_of_lt (hvl170 h0))
 have hgeb159 : w.heap.size ≤ b159 := by rw [eb159]; exact hB158.size
 have hB171 := Chg.upd hB158 hub159 hgeb159
 have hnf172 : ¬ F5 b159 := fun hq => by have hq1 := (hst5).lt hq; omega
 have hleb159 : b159 ≤ wb159.heap.size := by omega
 refine WL.call hb8 rfl rfl ((conv_Do b F5 S2 s_wc _ [o2] _ _ hF160 hLK2.1.ok (hE.chg hB171 freeN) (hE.free hB171 freeN) (hob159).rowp (fun _ => hnf172) (show (1 : Nat) ≤ _ by decide) (by rw [hLK2.1.c]; decide) dD (lk_on hLK2.1))) (fun r w173 hw173 => ?_)
 obtain ⟨v6, F6, rfl, ho6, hn6, hst6, hC6⟩ := hw173
 obtain ⟨d5, d6⟩ := lk_wc hLK2.1
 rw [d5] at ho6
 rw [d6] at hst6
 have ho6 : OwnM objL 27 _ w173 v6 [truO (decide (accO S2 o2 = 0))] := ho6
 obtain ⟨p6, c6, rfl, hrow6, -⟩ := ho6.row
 have hvn6 := vnf_of hrow6 hn6
 have hnf174 := Chg.nf hC6 hnf149 hk161.lt
 have hk176 := Blk.chg hk161 hC6 hnf149
 have hnf178 := fun h0 => Chg.nf hC6 (hnf153 h0) (hv163.lt h0)
 have hv177 := BytesAt.chg hv163 hC6 hnf153
 have hnf180 := fun h0 => Chg.nf hC6 (hnf155 h0) (hv165.lt h0)
 have hv179 := RowM.chg hv165 hC6 hnf155
 have hnf182 := fun h0 => Chg.nf hC6 (hnf157 h0) (hv167.lt h0)
 have hnf184 := fun h0 => Chg.nf hC6 (hvn5 h0) (hv169.lt h0)
 have hv183 := RowM.chg hv169 hC6 hvn5
 have hB185 := Chg.trans hB171 hC6
 refine WL.m rfl rfl <| WL.p (.ext rfl rfl) rfl <| WL.p (.iis (0) (.ext rfl rfl) (by rw [d5])) rfl <| WL.a rfl rfl <| WL.z rfl rfl ?_
 refine W.sr <| WL.m rfl rfl <| WL.m rfl rfl <| WL.p (.bis (false) (.lss rfl rfl) (by simp; omega)) rfl <| WL.m rfl rfl <| WL.gy rfl rfl rfl rfl <| WL.m rfl rfl <| WL.gy rfl rfl rfl rfl <| WL.p (.neq rfl rfl) rfl <| WL.p (.pkF rfl rfl rfl) rfl <| WL.m rfl rfl <| WL.gd rfl rfl rfl (fun g186 => ?_) (fun g186 => ?_)
 have g186' := ndF g186
 refine WL.m rfl rfl <| WL.gy rfl rfl rfl g186 <| WL.p (.neq rfl rfl) rfl <| WL.p (.pkF rfl g186 rfl) rfl <| WL.m rfl rfl <| WL.gd rfl rfl rfl (fun g187 => ?_) (fun g187 => ?_)
 have g187' := ndF g187
 refine WL.m rfl rfl <| WL.gy rfl rfl rfl g187 <| WL.p (.ixm underlying30 sizeOf27 rfl rfl (hv183.isp (by first | omega | (simp only [List.length_cons, List.length_nil]; omega))) (0) (rfl) (Nat.zero_lt_one)) rfl <| WL.gy rfl rfl rfl g187 <| WL.p (.fa underlying27 rfl sizeOf3 dD rfl) rfl <| WL.gy rfl rfl rfl g187 <| WL.r (Rd.iis ((truO (decide (accO S2 o2 ≤ 1))).n) (Rd.ldc (isAgg3 _) rfl ((hv183.field (0) (by first | omega | (simp only [List.length_cons, List.length_nil]; omega)) 3 dD).trans rfl)) (by rfl)) rfl <| WL.gy rfl rfl rfl g187 <| WL.p (.eql rfl rfl) rfl <| WL.gy rfl rfl rfl g187 <| WL.m rfl rfl <| WL.gy rfl rfl rfl g187 <| WL.p (.leq rfl rfl) rfl <| WL.gy rfl rfl rfl g187 <| WL.p (.bis (false) (.neb underlying4 rfl rfl) (by rw [lk_b1]; simp)) rfl <| WL.p (.pkF rfl g187 rfl) rfl <| WL.m rfl rfl <| WL.gy rfl rfl rfl rfl <| WL.m rfl rfl <| WL.gy rfl rfl rfl rfl <| WL.p (.ixm underlying30 sizeOf27 rfl rfl (hrow6.isp (by first | omega | (simp only [List.length_cons, List.length_nil]; omega))) (0) (rfl) (Nat.zero_lt_one)) rfl <| WL.gy rfl rfl rfl rfl <| WL.p (.fa underlying27 rfl sizeOf3 dD rfl) rfl <| WL.gy rfl rfl rfl rfl <| WL.r (Rd.iis ((truO (decide (accO S2 o2 = 0))).n) (Rd.ldc (isAgg3 _) rfl ((hrow6.field (0) (by first | omega | (simp only [List.length_cons, List.length_nil]; omega)) 3 dD).trans rfl)) (by rfl)) rfl <| WL.gy rfl rfl rfl rfl <| WL.p (.eql rfl rfl) rfl <| WL.gy rfl rfl rfl rfl <| WL.m rfl rfl <| WL.gy rfl rfl rfl rfl <| WL.p (.eql rfl rfl) rfl <| WL.gy rfl rfl rfl rfl <| WL.p (.bis (false) (.neb underlying4 rfl rfl) (by rw [lk_b2]; simp)) rfl <| WL.p (.pkF rfl rfl rfl) rfl <| WL.nil <| ?_
 refine W.condF rfl rfl ?_
 refine W.skip <| W.reg <| WL.m rfl rfl <| WL.p (.add rfl rfl (i64w oO)) rfl <| WL.z rfl rfl ?_
 exact ⟨(i + 1, o2, S2, F6), ⟨rfl, rfl, rfl, rfl, rfl, rfl, trivial⟩, ⟨hst6, hB185, ⟨hk176, hnf174⟩, ⟨hv177, hnf178⟩, ⟨hv179, hnf180⟩, hLK2.1, by show i + 1 ≤ l.length; omega⟩, by show l.length - (i + 1) < l.length - i; omega⟩
 have g187' := ndT g187
 refine WL.gn rfl rfl rfl g187 <| WL.gn rfl rfl rfl g187 <| WL.gn rfl rfl rfl g187 <| WL.gn rfl rfl rfl g187 <| WL.gn rfl rfl rfl g187 <| WL.gn rfl rfl rfl g187 <| WL.gn rfl rfl rfl g187 <| WL.p (.pkT rfl g187 rfl) rfl <| WL.m rfl rfl <| WL.gn rfl rfl rfl rfl <| WL.gn rfl rfl rfl rfl <| WL.gn rfl rfl rfl rfl <| WL.gn rfl rfl rfl rfl <| WL.gn rfl rfl rfl rfl <| WL.gn rfl rfl rfl rfl <| WL.gn rfl rfl rfl rfl <| WL.gn rfl rfl rfl rfl <| WL.p (.pkT rfl rfl rfl) rfl <| WL.nil <| ?_
 refine W.condT rfl rfl ?_
 refine W.sr <| WL.z rfl rfl ?_
 refine W.ret (W.ret1 rfl rfl ?_)
 exact ⟨rbE (by first | rfl | simp_all), (hB185).none⟩
 have g186' := ndT g186
 refine WL.gn rfl rfl rfl g186 <| WL.p (.pkT rfl g186 rfl) rfl <| WL.m rfl rfl <| WL.gn rfl rfl rfl rfl <| WL.gn rfl rfl rfl rfl <| WL.gn rfl rfl rfl rfl <| WL.gn rfl rfl rfl rfl <| WL.gn rfl rfl rfl rfl <| WL.gn rfl rfl rfl rfl <| WL.gn rfl rfl rfl rfl <| WL.gn rfl rfl rfl rfl <| WL.p (.pkT rfl rfl rfl) rfl <| WL.m rfl rfl <| WL.gn rfl rfl rfl rfl <| WL.gn rfl rfl rfl rfl <| WL.gn rfl rfl rfl rfl <| WL.gn rfl rfl rfl rfl <| WL.gn rfl rfl rfl rfl <| WL.gn rfl rfl rfl rfl <| WL.gn rfl rfl rfl rfl <| WL.gn rfl rfl rfl rfl <| WL.p (.pkT rfl rfl rfl) rfl <| WL.nil <| ?_
 refine W.condT rfl rfl ?_
 refine W.sr <| WL.z rfl rfl ?_
 refine W.ret (W.ret1 rfl rfl ?_)
 exact ⟨rbE (by first | rfl | simp_all), (hB185).none⟩
 have h122' := dF h122
 have he0 : (unaO S s o).2 ≠ 0 := by assumption
 obtain ⟨o2, ho2⟩ : ∃ o2, o2 = o := ⟨_, rfl⟩
 obtain ⟨S2, hS2⟩ : ∃ S2, S2 = unaS S s o := ⟨_, rfl⟩
 have hst4 : Sto w110 b F3 S2 := by rw [hS2, hse]; exact hst3
 have hLK2 : LockOk S2 o2 ∧ accO S o ≤ accO S2 o2 := by rw [hS2, ho2, lk_fail hs he0]; exact ⟨hLK, Int.le_refl _⟩
 have hle2 := hLK2.2
 have hk8 : Blk w110 b27 (objV o2).toArray 27 := by rw [ho2]; exact hk116
 refine W.skip <| W.sr <| WL.m rfl rfl <| WL.r (Rd.ldA rfl hk8 underlying27 rfl isz27) rfl <| WL.c1 hb14 rfl rfl ((law10_access b F3 S2 o2 _ hst4 hLK2.1.ok)) (fun w188 hw188 => ?_)
 have hF189 := Sto.same (w1 := w188) hst4 (fun k hk hl => hw188.block k hl)
 have hk190 := hk8.below hw188 hk8.lt
 have hv191 := BytesAt.below hv117 hw188 (fun h0 => hv117.lt h0)
 have hv192 := RowM.below hv119 hw188 (fun h0 => hv119.lt h0)
 have hB193 := Chg.low hB121 hw188
 refine WL.z rfl rfl ?_
 refine W.sr <| WL.m rfl rfl <| WL.r (Rd.ldA rfl hk190 underlying27 rfl isz27) rfl <| WL.bslM (L := objL) (ps := _) ([o2]) underlying30 sizeOf27 zeroValue27 rfl rfl rfl rfl rfl (by first | rfl | decide) rfl rfl (fun b194 wb194 eb194 hob194 hub194 hsb194 => ?_)
 have hF195 := Sto.same (w1 := wb194) hF189 (fun k hk hl => hub194.other k oO)
 have hl197 : b27 < b194 := by rw [eb194]; exact hk190.lt
 have hk196 := hk190.upd hub194 (Nat.ne_of_lt hl197)
 have hvl199 := fun h0 => eb194 ▸ hv191.lt h0
 have hv198 := bup hv191 hub194 hvl199
 have hvl201 := fun h0 => eb194 ▸ hv192.lt h0
 have hv200 := RowM.upd hv192 hub194 (fun h0 => Nat.ne_of_lt (hvl201 h0))
 have hgeb194 : w.heap.size ≤ b194 := by rw [eb194]; exact hB193.size
 have hB202 := Chg.upd hB193 hub194 hgeb194
 have hnf203 : ¬ F3 b194 := fun hq => by have hq1 := (hF189).lt hq; omega
 have hleb194 : b194 ≤ wb194.heap.size := by omega
 refine WL.call hb8 rfl rfl ((conv_Do b F3 S2 rcheckL _ [o2] _ _ hF195 hLK2.1.ok (hE.chg hB202 freeN) (hE.free hB202 freeN) (hob194).rowp (fun _ => hnf203) (show (1 : Nat) ≤ _ by decide) (by rw [hLK2.1.c]; decide) dD (lk_on hLK2.1))) (fun r w204 hw204 => ?_)
 obtain ⟨v5, F5, rfl, ho5, hn5, hst5, hC5⟩ := hw204
 obtain ⟨d3, d4⟩ := lk_rc hLK2.1
 rw [d3] at ho5
 rw [d4] at hst5
 have ho5 : OwnM objL 27 _ w204 v5 [truO (decide (accO S2 o2 ≤ 1))] := ho5
 obtain ⟨p5, c5, rfl, hrow5, -⟩ := ho5.row
 have hvn5 := vnf_of hrow5 hn5
 have hnf205 := Chg.nf hC5 hnf112 hk196.lt
 have hk207 := Blk.chg hk196 hC5 hnf112
 have hnf209 := fun h0 => Chg.nf hC5 (hnf118 h0) (hv198.lt h0)
 have hv208 := BytesAt.chg hv198 hC5 hnf118
 have hnf211 := fun h0 => Chg.nf hC5 (hnf120 h0) (hv200.lt h0)
 have hv210 := RowM.chg hv200 hC5 hnf120
 have hB212 := Chg.trans hB202 hC5
 refine WL.m rfl rfl <| WL.p (.ext rfl rfl) rfl <| WL.p (.iis (0) (.ext rfl rfl) (by rw [d3])) rfl <| WL.a rfl rfl <| WL.z rfl rfl ?_
 refine W.sr <| WL.m rfl rfl <| WL.r (Rd.ldA rfl hk207 underlying27 rfl isz27) rfl <| WL.bslM (L := objL) (ps := _) ([o2]) underlying30 sizeOf27 zeroValue27 rfl rfl rfl rfl rfl (by first | rfl | decide) rfl rfl (fun b213 wb213 eb213 hob213 hub213 hsb213 => ?_)
 have hF214 := Sto.same (w1 := wb213) hst5 (fun k hk hl => hub213.other k oO)
 have hl216 : b27 < b213 := by rw [eb213]; exact hk207.lt
 have hk215 := hk207.upd hub213 (Nat.ne_of_lt hl216)
 have hvl218 := fun h0 => eb213 ▸ hv208.lt h0
 have hv217 := bup hv208 hub213 hvl218
 have hvl220 := fun h0 => eb213 ▸ hv210.lt h0
 have hv219 := RowM.upd hv210 hub213 (fun h0 => Nat.ne_of_lt (hvl220 h0))
 have hvl222 := fun h0 => eb213 ▸ hrow5.lt h0
 have hv221 := RowM.upd hrow5 hub213 (fun h0 => Nat.ne_of_lt (hvl222 h0))
 have hgeb213 : w.heap.size ≤ b213 := by rw [eb213]; exact hB212.size
 have hB223 := Chg.upd hB212 hub213 hgeb213
 have hnf224 : ¬ F5 b213 := fun hq => by have hq1 := (hst5).lt hq; omega
 have hleb213 : b213 ≤ wb213.heap.size := by omega
 refine WL.call hb8 rfl rfl ((conv_Do b F5 S2 s_wc _ [o2] _ _ hF214 hLK2.1.ok (hE.chg hB223 freeN) (hE.free hB223 freeN) (hob213).rowp (fun _ => hnf224) (show (1 : Nat) ≤ _ by decide) (by rw [hLK2.1.c]; decide) dD (lk_on hLK2.1))) (fun r w225 hw225 => ?_)
 obtain ⟨v6, F6, rfl, ho6, hn6, hst6, hC6⟩ := hw225
 obtain ⟨d5, d6⟩ := lk_wc hLK2.1
 rw [d5] at ho6
 rw [d6] at hst6
 have ho6 : OwnM objL 27 _ w225 v6 [truO (decide (accO S2 o2 = 0))] := ho6
 obtain ⟨p6, c6, rfl, hrow6, -⟩ := ho6.row
 have hvn6 := vnf_of hrow6 hn6
 have hnf226 := Chg.nf hC6 hnf205 hk215.lt
 have hk228 := Blk.chg hk215 hC6 hnf205
 have hnf230 := fun h0 => Chg.nf hC6 (hnf209 h0) (hv217.lt h0)
 have hv229 := BytesAt.chg hv217 hC6 hnf209
 have hnf232 := fun h0 => Chg.nf hC6 (hnf211 h0) (hv219.lt h0)
 have hv231 := RowM.chg hv219 hC6 hnf211
 have hnf234 := fun h0 => Chg.nf hC6 (hvn5 h0) (hv221.lt h0)
 have hv233 := RowM.chg hv221 hC6 hvn5
 have hB235 := Chg.trans hB223 hC6
 refine WL.m rfl rfl <| WL.p (.ext rfl rfl) rfl <| WL.p (.iis (0) (.ext rfl rfl) (by rw [d5])) rfl <| WL.a rfl rfl <| WL.z rfl rfl ?_
 refine W.sr <| WL.m rfl rfl <| WL.m rfl rfl <| WL.p (.bis (false) (.lss rfl rfl) (by simp; omega)) rfl <| WL.m rfl rfl <| WL.gy rfl rfl rfl rfl <| WL.m rfl rfl <| WL.gy rfl rfl rfl rfl <| WL.p (.neq rfl rfl) rfl <| WL.p (.pkF rfl rfl rfl) rfl <| WL.m rfl rfl <| WL.gd rfl rfl rfl (fun g236 => ?_) (fun g236 => ?_)
 have g236' := ndF g236
 refine WL.m rfl rfl <| WL.gy rfl rfl rfl g236 <| WL.p (.neq rfl rfl) rfl <| WL.p (.pkF rfl g236 rfl) rfl <| WL.m rfl rfl <| WL.gd rfl rfl rfl (fun g237 => ?_) (fun g237 => ?_)
 have g237' := ndF g237
 refine WL.m rfl rfl <| WL.gy rfl rfl rfl g237 <| WL.p (.ixm underlying30 sizeOf27 rfl rfl (hv233.isp (by first | omega | (simp only [List.length_cons, List.length_nil]; omega))) (0) (rfl) (Nat.zero_lt_one)) rfl <| WL.gy rfl rfl rfl g237 <| WL.p (.fa underlying27 rfl sizeOf3 dD rfl) rfl <| WL.gy rfl rfl rfl g237 <| WL.r (Rd.iis ((truO (decide (accO S2 o2 ≤ 1))).n) (Rd.ldc (isAgg3 _) rfl ((hv233.field (0) (by first | omega | (simp only [List.length_cons, List.length_nil]; omega)) 3 dD).trans rfl)) (by rfl)) rfl <| WL.gy rfl rfl rfl g237 <| WL.p (.eql rfl rfl) rfl <| WL.gy rfl rfl rfl g237 <| WL.m rfl rfl <| WL.gy rfl rfl rfl g237 <| WL.p (.leq rfl rfl) rfl <| WL.gy rfl rfl rfl g237 <| WL.p (.bis (false) (.neb underlying4 rfl rfl) (by rw [lk_b1]; simp)) rfl <| WL.p (.pkF rfl g237 rfl) rfl <| WL.m rfl rfl <| WL.gy rfl rfl rfl rfl <| WL.m rfl rfl <| WL.gy rfl rfl rfl rfl <| WL.p (.ixm underlying30 sizeOf27 rfl rfl (hrow6.isp (by first | omega | (simp only [List.length_cons, List.length_nil]; omega))) (0) (rfl) (Nat.zero_lt_one)) rfl <| WL.gy rfl rfl rfl rfl <| WL.p (.fa underlying27 rfl sizeOf3 dD rfl) rfl <| WL.gy rfl rfl rfl rfl <| WL.r (Rd.iis ((truO (decide (accO S2 o2 = 0))).n) (Rd.ldc (isAgg3 _) rfl ((hrow6.field (0) (by first | omega | (simp only [List.length_cons, List.length_nil]; omega)) 3 dD).trans rfl)) (by rfl)) rfl <| WL.gy rfl rfl rfl rfl <| WL.p (.eql rfl rfl) rfl <| WL.gy rfl rfl rfl rfl <| WL.m rfl rfl <| WL.gy rfl rfl rfl rfl <| WL.p (.eql rfl rfl) rfl <| WL.gy rfl rfl rfl rfl <| WL.p (.bis (false) (.neb underlying4 rfl rfl) (by rw [lk_b2]; simp)) rfl <| WL.p (.pkF rfl rfl rfl) rfl <| WL.nil <| ?_
 refine W.condF rfl rfl ?_
 refine W.skip <| W.reg <| WL.m rfl rfl <| WL.p (.add rfl rfl (i64w oO)) rfl <| WL.z rfl rfl ?_
 exact ⟨(i + 1, o2, S2, F6), ⟨rfl, rfl, rfl, rfl, rfl, rfl, trivial⟩, ⟨hst6, hB235, ⟨hk228, hnf226⟩, ⟨hv229, hnf230⟩, ⟨hv231, hnf232⟩, hLK2.1, by show i + 1 ≤ l.length; omega⟩, by show l.length - (i + 1) < l.length - i; omega⟩
 have g237' := ndT g237
 refine WL.gn rfl rfl rfl g237 <| WL.gn rfl rfl rfl g237 <| WL.gn rfl rfl rfl g237 <| WL.gn rfl rfl rfl g237 <| WL.gn rfl rfl rfl g237 <| WL.gn rfl rfl rfl g237 <| WL.gn rfl rfl rfl g237 <| WL.p (.pkT rfl g237 rfl) rfl <| WL.m rfl rfl <| WL.gn rfl rfl rfl rfl <| WL.gn rfl rfl rfl rfl <| WL.gn rfl rfl rfl rfl <| WL.gn rfl rfl rfl rfl <| WL.gn rfl rfl rfl rfl <| WL.gn rfl rfl rfl rfl <| WL.gn rfl rfl rfl rfl <| WL.gn rfl rfl rfl rfl <| WL.p (.pkT rfl rfl rfl) rfl <| WL.nil <| ?_
 refine W.condT rfl rfl ?_
 refine W.sr <| WL.z rfl rfl ?_
 refine W.ret (W.ret1 rfl rfl ?_)
 exact ⟨rbE (by first | rfl | simp_all), (hB235).none⟩
 have g236' := ndT g236
 refine WL.gn rfl rfl rfl g236 <| WL.p (.pkT rfl g236 rfl) rfl <| WL.m rfl rfl <| WL.gn rfl rfl rfl rfl <| WL.gn rfl rfl rfl rfl <| WL.gn rfl rfl rfl rfl <| WL.gn rfl rfl rfl rfl <| WL.gn rfl rfl rfl rfl <| WL.gn rfl rfl rfl rfl <| WL.gn rfl rfl rfl rfl <| WL.gn rfl rfl rfl rfl <| WL.p (.pkT rfl rfl rfl) rfl <| WL.m rfl rfl <| WL.gn rfl rfl rfl rfl <| WL.gn rfl rfl rfl rfl <| WL.gn rfl rfl rfl rfl <| WL.gn rfl rfl rfl rfl <| WL.gn rfl rfl rfl rfl <| WL.gn rfl rfl rfl rfl <| WL.gn rfl rfl rfl rfl <| WL.gn rfl rfl rfl rfl <| WL.p (.pkT rfl rfl rfl) rfl <| WL.nil <| ?_
 refine W.condT rfl rfl ?_
 refine W.sr <| WL.z rfl rfl ?_
 refine W.ret (W.ret1 rfl rfl ?_)
 exact ⟨rbE (by first | rfl | simp_all), (hB235).none⟩
 have h87' := dF h87
 refine W.exit <| W.sr <| WL.z rfl rfl ?_
 refine W.ret (W.ret1 rfl rfl ?_)
 exact ⟨rbE (by first | rfl | simp_all), (lB).none⟩
 have g66' := dT g66
 refine WL.gn rfl rfl rfl g66 <| WL.gn rfl rfl rfl g66 <| WL.p (.pkT rfl g66 rfl) rfl <| WL.nil <| ?_
 refine W.condT rfl rfl ?_
 refine W.sr <| WL.c1 hb9 rfl rfl ((law10_answers _ (hE.chg hB63 freeN))) (fun w238 hw238 => ?_)
 have hB244 := Chg.low hB63 hw238
 refine WL.z rfl rfl ?_
 refine W.ret (W.ret1 rfl rfl ?_)
 exact ⟨rbE (by first | rfl | simp_all), (hB244).none⟩
 have g65' := dT g65
 refine WL.gn rfl rfl rfl g65 <| WL.gn rfl rfl rfl g65 <| WL.p (.pkT rfl g65 rfl) rfl <| WL.m rfl rfl <| WL.gn rfl rfl rfl rfl <| WL.gn rfl rfl rfl rfl <| WL.gn rfl rfl rfl rfl <| WL.p (.pkT rfl rfl rfl) rfl <| WL.nil <| ?_
 refine W.condT rfl rfl ?_
 refine W.sr <| WL.c1 hb9 rfl rfl ((law10_answers _ (hE.chg hB63 freeN))) (fun w245 hw245 => ?_)
 have hB251 := Chg.low hB63 hw245
 refine WL.z rfl rfl ?_
 refine W.ret (W.ret1 rfl rfl ?_)
 exact ⟨rbE (by first | rfl | simp_all), (hB251).none⟩
 have g64' := (nT g64)
 refine WL.gn rfl rfl rfl (by rw [(nT g64)] <;> rfl) <| WL.gn rfl rfl rfl (by rw [(nT g64)] <;> rfl) <| WL.p (.pkT rfl (by rw [(nT g64)] <;> rfl) rfl) rfl <| WL.m rfl rfl <| WL.gn rfl rfl rfl rfl <| WL.gn rfl rfl rfl rfl <| WL.gn rfl rfl rfl rfl <| WL.p (.pkT rfl rfl rfl) rfl <| WL.m rfl rfl <| WL.gn rfl rfl rfl rfl <| WL.gn rfl rfl rfl rfl <| WL.gn rfl rfl rfl rfl <| WL.p (.pkT rfl rfl rfl) rfl <| WL.nil <| ?_
 refine W.condT rfl rfl ?_
 refine W.sr <| WL.c1 hb9 rfl rfl ((law10_answers _ (hE.chg hB63 freeN))) (fun w252 hw252 => ?_)
 have hB258 := Chg.low hB63 hw252
 refine WL.z rfl rfl ?_
 refine W.ret (W.ret1 rfl rfl ?_)
 exact ⟨rbE (by first | rfl | simp_all), (hB258).none⟩
end
section
open Go.ChangeShapes Go.WideShapes Go.ChangeAt Go.RowKit
open Go.ChangeMaps (open_string shut_string)
theorem law_ConvLocks (t : ThingV) (p : Option Addr) (l : List UInt8) (c : Nat) (w : World) (hE : EnvC w) (_ht : ThingOk w t) (hb : BytesAt w p l) (_hc : l.length ≤ c) (_hn : l = [] → c = 0 ∨ p ≠ none) :
  Calls Tryz.prog 5 #[.agg (thingV t).toArray, .slice p l.length c] w fun e w' => e = .returned (.bool true) ∧ Below w.heap.size w w' :=
 lawx_ConvLocks t.fKind t.fN t.fAccess t.fName t.fText t.fExec p l c w hE hb
set_option maxRecDepth 100000 in
theorem contract_ConvLocks (H : Type) (enc : TypeId × Value → H) (W : World) (base : Nat) (args : Array Value) (ds gs : List (DataW H)) (before : List MemPlace)
  (hval : ∀ (j : Nat) t v, Tryz.f5.params[j]? = some t → args[j]? = some v → Value.okWide Tryz.prog W .any base t v)
  (hW : DataW.Whole enc Tryz.prog Tryz.f5.params.toList Rows.convLocksSpec.vars false W args.toList ds gs before) (hL : laidMetH Tryz.prog Rows.convLocksRow.laid W) (hS : W.ShapedOpen Tryz.prog) :
  Calls Tryz.prog 5 args W fun e W' => ∃ v, e = .returned v ∧ Rows.convLocksSpec.post enc Tryz.prog Tryz.f5 false true false false W args v W' := by
 have hW' := hW
 obtain ⟨p, q, hA0, hV, rfl, hfz, hnd⟩ := hW
 have hA : DataW.TrodAll enc Tryz.prog W 0 (fun _ => true) true Tryz.f5.params.toList args.toList ds p := hA0
 rw [Tryz.params5] at hA hval
 obtain ⟨v0, vs0, d0, ds0, p0, q0, hargs0, rfl, rfl, h0, r0⟩ := trodAll_cons hA
 obtain ⟨v1, vs1, d1, ds1, p1, q1, hargs1, rfl, rfl, h1, r1⟩ := trodAll_cons r0
 obtain ⟨rfl, rfl, rfl⟩ := trodAll_nil r1
 obtain rfl : args = #[v0, v1] := by cases args; simp_all
 obtain ⟨rfl, rfl⟩ := trodVars_none hV
 obtain ⟨cs0, rfl, -⟩ := okWide_struct underlying42 (hval 0 42 v0 rfl rfl)
 have hh0 := h0
 obtain ⟨fu0, ft0⟩ := hh0
 obtain ⟨y0, ec0, hr0⟩ := open_Thing ft0
 obtain rfl : cs0 = (thingV y0).toArray := by rw [← ec0]; rfl
 obtain ⟨s1, l1, c1, rfl, hb1, hc1, hn1, hm1⟩ := open_bytes underlying35 underlying5 kR (hval 1 35 v1 rfl rfl) h1
 clear hA0
 simp only [List.append_nil] at hW'
 refine (law_ConvLocks y0 s1 l1 c1 W (env_of hL hS) hr0 hb1 hc1 hn1).mono fun e W' ⟨he, bel⟩ => ?_
 subst he
 exact ⟨_, rfl, _, _, _, [], _, [], hW', trodAll_mk1 (shut_bool underlying4 _), (trodAll_cons_mk (trod_keep laidOut kR kR h0 bel (fun x hx => hW'.lt x (by first | exact hx | (simp only [List.mem_append]; simp_all)))) (trodAll_cons_mk (trod_keep laidOut kR kR h1 bel (fun x hx => hW'.lt x (by first | exact hx | (simp only [List.mem_append]; simp_all)))) trodAll_mk0)), rfl, bel.frame _, fun h => by cases h⟩
theorem laid_met_ConvLocks (os : Os) : laidMet Tryz.prog Rows.convLocksRow.laid ((laidWorld os).forCall (fun _ _ => 0) ⟨#[], #[.agg #[.int .i64 0, .int .i64 0, .int .i64 0, .string .empty, .string .empty, .bool false], .slice none 0 0], []⟩).memory :=
 laid_all os _
theorem reads_ConvLocks (os : Os) {H : Type} (enc : TypeId × Value → H) : ∃ places, DataW.whole enc Tryz.prog ((laidWorld os).forCall (fun _ _ => 0) ⟨#[], #[.agg #[.int .i64 0, .int .i64 0, .int .i64 0, .string .empty, .string .empty, .bool false], .slice none 0 0], []⟩).memory Tryz.f5.params.toList Rows.convLocksSpec.vars false #[Value.agg #[.int .i64 0, .int .i64 0, .int .i64 0, .string .empty, .string .empty, .bool false], .slice none 0 0].toList 8 = some ([.agg [.lit (.int .i64 0), .lit (.int .i64 0), .lit (.int .i64 0), .lit (.string []), .lit (.string []), .lit (.bool false)], .nil], [], places) :=
 ⟨[], by kernel_rfl⟩
set_option maxRecDepth 100000 in
theorem lifted_ConvLocks (os : Os) (started : os.Started) (H : Type) (enc : TypeId × Value → H) (F : Stop.Interp) :
    ReturnsInHanded {} Tryz.checked os 5 .any ((OpenSpec.ofChange Rows.convLocksSpec).preRow enc Tryz.prog Tryz.f5 Rows.convLocksRow.domain false Rows.convLocksRow.laid) (((OpenSpec.ofChange Rows.convLocksSpec).at F).post enc Tryz.prog Tryz.f5 false true false false) := by
  obtain ⟨places, hx⟩ := reads_ConvLocks os enc
  refine returnsInHanded_of_row (C := Tryz.checked) (s := OpenSpec.ofChange Rows.convLocksSpec) own started kR func5
    (witness_row_atRef (enc := enc) (C := Tryz.checked) false (laidWorld os) #[.agg #[.int .i64 0, .int .i64 0, .int .i64 0, .string .empty, .string .empty, .bool false], .slice none 0 0] rfl kR kR kR
      (OpenSpec.preRow_of_cond 8 hx kR (fun k hk => by cases hk) kR (laid_met_ConvLocks os))) ?_
  intro W base args ds gs before hval hW _ hcd _ hL hS _
  exact contract_ConvLocks H enc W base args ds gs before hval hW hL hS
theorem said_ConvLocks : Rows.ConvLocksSaid :=
  OpenClaim.holds_of_cond 5 Tryz.f5 rfl rfl rfl rfl rfl rfl rfl ⟨rfl, rfl, rfl, rfl, rfl⟩ rfl rfl rfl rfl rfl kR func5 kR
    (dT kR) (by unfold Func.isWrapper; first | (rw [if_pos (by decide +kernel)]; kernel_rfl) | (rw [if_neg (by decide +kernel)]; exact ⟨rfl, rfl⟩))
    (fun os started H enc _ F => by rw [OpenClaim.pre_eq_preRow]; exact lifted_ConvLocks os started H enc F)
theorem plain_ConvLocks (f : FuncId) (fn : Func) (hf : Tryz.pinned.checked.prog.funcNamed "mezzotint/mezzotintlaw10.ConvLocks" = some f) (hfn : Tryz.pinned.checked.prog.funcs[f]? = some fn) :
  false = Tryz.pinned.checked.prog.looks [] ∧ ∀ (j : Nat) t, fn.params[j]? = some t → Tryz.pinned.checked.prog.wantsStandIn t = false := by
 obtain rfl : f = 5 := Option.some.inj ((show Tryz.prog.funcNamed "mezzotint/mezzotintlaw10.ConvLocks" = some 5 by kernel_rfl).symm.trans hf) |>.symm
 obtain rfl : fn = Tryz.f5 := (Option.some.inj (func5.symm.trans hfn)).symm
 refine ⟨by kernel_rfl, fun j t ht => ?_⟩
 rw [Tryz.params5] at ht
 have hmem := Array.mem_of_getElem? ht
 simp only [List.mem_toArray, List.mem_cons, List.not_mem_nil, or_false] at hmem
 rcases hmem with rfl | rfl
 ·
  exact (show Tryz.prog.wantsStandIn 42 = false by kernel_rfl)
 ·
  exact (show Tryz.prog.wantsStandIn 35 = false by kernel_rfl)
/-- THE CARD -/
theorem ConvLocks_holds : Rows.ConvLocksCardSaid :=
 Claim7.holds_tied_plain_at .later [] _ _ _ _ said_ConvLocks (fun _ h => by cases h) kR (fun _ h => by cases h) convLocks_row_tie rfl ⟨rfl, rfl⟩ kR rfl plain_ConvLocks kR
#print axioms ConvLocks_holds
end
end Go.Proofs.YtopnfojdmeageaaGreatDoor
