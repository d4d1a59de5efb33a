/-
  What the claim leans on, part 5: pruned and joined by my own tool out of the texts that stand in wip/ as templates.
-/
import Derived.Test.YtjghbcjnplcleaaGreatDoorSf4
namespace Go.Proofs.YtjghbcjnplcleaaGreatDoor
open Go.RowKit
open Go.Proofs.Tryz
section
open Go.ChangeShapes Go.WideShapes Go.ChangeAt Go.RowKit
set_option maxRecDepth 20000 in
theorem openS_Seg {H : Type} {enc : TypeId × Value → H} {w : World} {base : Nat} {sp : Nat → Bool} {held : Bool} {fuel : Nat} {cs : List Value} {x : DataW H × List MemPlace}
  (h : DataW.trod enc Tryz.prog w base sp held fuel 170 cs = some x) : ∃ o : SegV, cs = segV o ∧ SegOk w o := by
 exact open_Seg h
set_option maxRecDepth 20000 in
theorem openS_Color {H : Type} {enc : TypeId × Value → H} {w : World} {base : Nat} {sp : Nat → Bool} {held : Bool} {fuel : Nat} {cs : List Value} {x : DataW H × List MemPlace}
  (h : DataW.trod enc Tryz.prog w base sp held fuel 80 cs = some x) : ∃ o : ColorV, cs = colorV o ∧ ColorOk w o := by
 exact open_Color h
structure ClipZ (n : Nat) (x : ClipV) : Prop where
 z_fPath : x.fPath.length ≤ n
theorem ClipZ.mono {m n : Nat} {x : ClipV} (h : ClipZ m x) (hn : m ≤ n) : ClipZ n x := ⟨Nat.le_trans h.z_fPath hn⟩
set_option maxRecDepth 20000 in
theorem openS_Clip {H : Type} {enc : TypeId × Value → H} {w : World} {base : Nat} {sp : Nat → Bool} {held : Bool} {fuel : Nat} {cs : List Value} {x : DataW H × List MemPlace}
  (h : DataW.trod enc Tryz.prog w base sp held fuel 89 cs = some x) : ∃ o : ClipV, cs = clipV o ∧ ClipOk w o ∧ ClipZ (Rows.uptoBulk x.1) o := by
 obtain ⟨xs, n, rfl, hx, hl, hlen, hf⟩ := DataW.trod_struct underlying89 h
 have hbx : ∀ (i : Nat) (hi : i < xs.length), Rows.uptoBulk xs[i].1 ≤ Rows.uptoBulk x.1 := fun i hi => by rw [hx]; exact bulk_part xs i hi
 clear hx
 rw [cells89] at hl
 have hlen2 : xs.length = 2 := hlen
 match cs, hl with
 | [c0, c1], _ =>
  have g : ∀ (i : Nat) (f : Field) (q : Nat) (c : List Value), _ → Tryz.prog.cellsOf f.type = q → (([c0, c1] : List Value).drop f.offset).take q = c → DataW.trod enc Tryz.prog w base sp held n f.type c = xs[i]? := fun i f q c h1 h2 h3 => by
   have := hf i f h1
   rw [h2, h3] at this
   exact this
  have f0 := (g 0 _ 1 [c0] rfl cells77 rfl).trans (List.getElem?_eq_getElem oO)
  obtain ⟨pfPath, afPath, lfPath, efPath, rfPath, sfPath, kfPath, zfPath, yfPath⟩ := openS_rowM (L := segL) (Ok := fun o => SegOk w o) (S := fun _ _ => True) (fun _ _ => trivial) underlying77 cells170 (fun h => (openS_Seg h).imp fun _ h => ⟨h.1, h.2, trivial⟩) f0
  have f1 := (g 1 _ 1 [c1] rfl cells4 rfl).trans (List.getElem?_eq_getElem oO)
  obtain ⟨afEvenOdd, efEvenOdd, -⟩ := DataW.trod_bool underlying4 f1
  simp only [List.cons.injEq, and_true] at efPath efEvenOdd
  refine ⟨⟨pfPath, afPath, lfPath, afEvenOdd⟩, ?_, ⟨rfPath, sfPath, kfPath⟩, ⟨(Nat.le_trans zfPath (hbx 0 oO))⟩⟩
  rw [efPath, efEvenOdd]
  rfl
structure PenZ (n : Nat) (x : PenV) : Prop where
 z_fDash : x.fDash.length ≤ n
theorem PenZ.mono {m n : Nat} {x : PenV} (h : PenZ m x) (hn : m ≤ n) : PenZ n x := ⟨Nat.le_trans h.z_fDash hn⟩
set_option maxRecDepth 20000 in
theorem openS_Pen {H : Type} {enc : TypeId × Value → H} {w : World} {base : Nat} {sp : Nat → Bool} {held : Bool} {fuel : Nat} {cs : List Value} {x : DataW H × List MemPlace}
  (h : DataW.trod enc Tryz.prog w base sp held fuel 84 cs = some x) : ∃ o : PenV, cs = penV o ∧ PenOk w o ∧ PenZ (Rows.uptoBulk x.1) o := by
 obtain ⟨xs, n, rfl, hx, hl, hlen, hf⟩ := DataW.trod_struct underlying84 h
 have hbx : ∀ (i : Nat) (hi : i < xs.length), Rows.uptoBulk xs[i].1 ≤ Rows.uptoBulk x.1 := fun i hi => by rw [hx]; exact bulk_part xs i hi
 clear hx
 rw [cells84] at hl
 have hlen6 : xs.length = 6 := hlen
 match cs, hl with
 | [c0, c1, c2, c3, c4, c5], _ =>
  have g : ∀ (i : Nat) (f : Field) (q : Nat) (c : List Value), _ → Tryz.prog.cellsOf f.type = q → (([c0, c1, c2, c3, c4, c5] : List Value).drop f.offset).take q = c → DataW.trod enc Tryz.prog w base sp held n f.type c = xs[i]? := fun i f q c h1 h2 h3 => by
   have := hf i f h1
   rw [h2, h3] at this
   exact this
  have f0 := (g 0 _ 1 [c0] rfl cells3 rfl).trans (List.getElem?_eq_getElem oO)
  obtain ⟨afWidth, efWidth, -, wfWidth⟩ := DataW.trod_int underlying3 f0
  have f1 := (g 1 _ 1 [c1] rfl cells3 rfl).trans (List.getElem?_eq_getElem oO)
  obtain ⟨afCap, efCap, -, wfCap⟩ := DataW.trod_int underlying3 f1
  have f2 := (g 2 _ 1 [c2] rfl cells3 rfl).trans (List.getElem?_eq_getElem oO)
  obtain ⟨afJoin, efJoin, -, wfJoin⟩ := DataW.trod_int underlying3 f2
  have f3 := (g 3 _ 1 [c3] rfl cells3 rfl).trans (List.getElem?_eq_getElem oO)
  obtain ⟨afMiter, efMiter, -, wfMiter⟩ := DataW.trod_int underlying3 f3
  have f4 := (g 4 _ 1 [c4] rfl cells82 rfl).trans (List.getElem?_eq_getElem oO)
  obtain ⟨pfDash, afDash, lfDash, efDash, rfDash, sfDash, kfDash, zfDash⟩ := openS_ints underlying82 underlying3 cells3 f4
  have f5 := (g 5 _ 1 [c5] rfl cells3 rfl).trans (List.getElem?_eq_getElem oO)
  obtain ⟨afPhase, efPhase, -, wfPhase⟩ := DataW.trod_int underlying3 f5
  simp only [List.cons.injEq, and_true] at efWidth efCap efJoin efMiter efDash efPhase
  refine ⟨⟨afWidth, afCap, afJoin, afMiter, pfDash, afDash, lfDash, afPhase⟩, ?_, ⟨wfWidth, wfCap, wfJoin, wfMiter, rfDash, sfDash, kfDash, wfPhase⟩, ⟨(Nat.le_trans zfDash (hbx 4 oO))⟩⟩
  rw [efWidth, efCap, efJoin, efMiter, efDash, efPhase]
  rfl
structure ItemZ (n : Nat) (x : ItemV) : Prop where
 z_fPath : x.fPath.length ≤ n
 z_fClips : x.fClips.length ≤ n
 zs_fClips : ∀ y ∈ x.fClips, ClipZ n y
 z_fPen : PenZ n x.fPen
 z_fBytes : x.fBytes.length ≤ n
theorem ItemZ.mono {m n : Nat} {x : ItemV} (h : ItemZ m x) (hn : m ≤ n) : ItemZ n x := ⟨Nat.le_trans h.z_fPath hn, Nat.le_trans h.z_fClips hn, fun y hy => (h.zs_fClips y hy).mono hn, h.z_fPen.mono hn, Nat.le_trans h.z_fBytes hn⟩
set_option maxRecDepth 20000 in
theorem openS_Item {H : Type} {enc : TypeId × Value → H} {w : World} {base : Nat} {sp : Nat → Bool} {held : Bool} {fuel : Nat} {cs : List Value} {x : DataW H × List MemPlace}
  (h : DataW.trod enc Tryz.prog w base sp held fuel 87 cs = some x) : ∃ o : ItemV, cs = itemV o ∧ ItemOk w o ∧ ItemZ (Rows.uptoBulk x.1) o := by
 obtain ⟨xs, n, rfl, hx, hl, hlen, hf⟩ := DataW.trod_struct underlying87 h
 have hbx : ∀ (i : Nat) (hi : i < xs.length), Rows.uptoBulk xs[i].1 ≤ Rows.uptoBulk x.1 := fun i hi => by rw [hx]; exact bulk_part xs i hi
 clear hx
 rw [cells87] at hl
 have hlen8 : xs.length = 8 := hlen
 match cs, hl with
 | [c0, c1, c2, c3, c4, c5, c6, c7, c8, c9, c10, c11, c12, c13, c14, c15, c16, c17, c18, c19, c20, c21], _ =>
  have g : ∀ (i : Nat) (f : Field) (q : Nat) (c : List Value), _ → Tryz.prog.cellsOf f.type = q → (([c0, c1, c2, c3, c4, c5, c6, c7, c8, c9, c10, c11, c12, c13, c14, c15, c16, c17, c18, c19, c20, c21] : List Value).drop f.offset).take q = c → DataW.trod enc Tryz.prog w base sp held n f.type c = xs[i]? := fun i f q c h1 h2 h3 => by
   have := hf i f h1
   rw [h2, h3] at this
   exact this
  have f0 := (g 0 _ 1 [c0] rfl cells3 rfl).trans (List.getElem?_eq_getElem oO)
  obtain ⟨afKind, efKind, -, wfKind⟩ := DataW.trod_int underlying3 f0
  have f1 := (g 1 _ 1 [c1] rfl cells77 rfl).trans (List.getElem?_eq_getElem oO)
  obtain ⟨pfPath, afPath, lfPath, efPath, rfPath, sfPath, kfPath, zfPath, yfPath⟩ := openS_rowM (L := segL) (Ok := fun o => SegOk w o) (S := fun _ _ => True) (fun _ _ => trivial) underlying77 cells170 (fun h => (openS_Seg h).imp fun _ h => ⟨h.1, h.2, trivial⟩) f1
  have f2 := (g 2 _ 5 [c2, c3, c4, c5, c6] rfl cells80 rfl).trans (List.getElem?_eq_getElem oO)
  obtain ⟨afColor, efColor, wfColor⟩ := openS_Color f2
  have f3 := (g 3 _ 1 [c7] rfl cells81 rfl).trans (List.getElem?_eq_getElem oO)
  obtain ⟨pfClips, afClips, lfClips, efClips, rfClips, sfClips, kfClips, zfClips, yfClips⟩ := openS_rowM (L := clipL) (Ok := fun o => ClipOk w o) (S := ClipZ) (fun h hn => h.mono hn) underlying81 cells89 (fun h => openS_Clip h) f3
  have f4 := (g 4 _ 6 [c8, c9, c10, c11, c12, c13] rfl cells84 rfl).trans (List.getElem?_eq_getElem oO)
  obtain ⟨afPen, efPen, wfPen, zfPen⟩ := openS_Pen f4
  have f5 := (g 5 _ 1 [c14] rfl cells3 rfl).trans (List.getElem?_eq_getElem oO)
  obtain ⟨afFont, efFont, -, wfFont⟩ := DataW.trod_int underlying3 f5
  have f6 := (g 6 _ 6 [c15, c16, c17, c18, c19, c20] rfl cells85 rfl).trans (List.getElem?_eq_getElem oO)
  obtain ⟨xz1, mz1, rfl, -, -, hlz1, hfz1⟩ := DataW.trod_array underlying85 f6
  rw [cells3] at hfz1
  have yz1_0 := (show DataW.trod enc Tryz.prog w base sp held _ 3 [c15] = _ from hfz1 0 dD).trans (List.getElem?_eq_getElem oO)
  obtain ⟨afMatrix_0, efMatrix_0, -, wfMatrix_0⟩ := DataW.trod_int underlying3 yz1_0
  have yz1_1 := (show DataW.trod enc Tryz.prog w base sp held _ 3 [c16] = _ from hfz1 1 dD).trans (List.getElem?_eq_getElem oO)
  obtain ⟨afMatrix_1, efMatrix_1, -, wfMatrix_1⟩ := DataW.trod_int underlying3 yz1_1
  have yz1_2 := (show DataW.trod enc Tryz.prog w base sp held _ 3 [c17] = _ from hfz1 2 dD).trans (List.getElem?_eq_getElem oO)
  obtain ⟨afMatrix_2, efMatrix_2, -, wfMatrix_2⟩ := DataW.trod_int underlying3 yz1_2
  have yz1_3 := (show DataW.trod enc Tryz.prog w base sp held _ 3 [c18] = _ from hfz1 3 dD).trans (List.getElem?_eq_getElem oO)
  obtain ⟨afMatrix_3, efMatrix_3, -, wfMatrix_3⟩ := DataW.trod_int underlying3 yz1_3
  have yz1_4 := (show DataW.trod enc Tryz.prog w base sp held _ 3 [c19] = _ from hfz1 4 dD).trans (List.getElem?_eq_getElem oO)
  obtain ⟨afMatrix_4, efMatrix_4, -, wfMatrix_4⟩ := DataW.trod_int underlying3 yz1_4
  have yz1_5 := (show DataW.trod enc Tryz.prog w base sp held _ 3 [c20] = _ from hfz1 5 dD).trans (List.getElem?_eq_getElem oO)
  obtain ⟨afMatrix_5, efMatrix_5, -, wfMatrix_5⟩ := DataW.trod_int underlying3 yz1_5
  have f7 := (g 7 _ 1 [c21] rfl cells22 rfl).trans (List.getElem?_eq_getElem oO)
  obtain ⟨pfBytes, afBytes, lfBytes, efBytes, rfBytes, sfBytes, kfBytes, zfBytes⟩ := openS_u8s underlying22 underlying5 cells5 f7
  simp only [List.cons.injEq, and_true] at efKind efPath efClips efFont efMatrix_0 efMatrix_1 efMatrix_2 efMatrix_3 efMatrix_4 efMatrix_5 efBytes
  refine ⟨⟨afKind, pfPath, afPath, lfPath, afColor, pfClips, afClips, lfClips, afPen, afFont, afMatrix_0, afMatrix_1, afMatrix_2, afMatrix_3, afMatrix_4, afMatrix_5, pfBytes, afBytes, lfBytes⟩, ?_, ⟨wfKind, rfPath, sfPath, kfPath, wfColor, rfClips, sfClips, kfClips, wfPen, wfFont, wfMatrix_0, wfMatrix_1, wfMatrix_2, wfMatrix_3, wfMatrix_4, wfMatrix_5, rfBytes, sfBytes⟩, ⟨(Nat.le_trans zfPath (hbx 1 oO)), (Nat.le_trans zfClips (hbx 3 oO)), (fun q hq => (yfClips q hq).mono (hbx 3 oO)), (zfPen.mono (hbx 4 oO)), (Nat.le_trans zfBytes (hbx 7 oO))⟩⟩
  show _ = ([.int .i64 afKind, .slice pfPath afPath.length lfPath] : List Value) ++ colorV afColor ++ ([.slice pfClips afClips.length lfClips] : List Value) ++ penV afPen ++ ([.int .i64 afFont, .int .i64 afMatrix_0, .int .i64 afMatrix_1, .int .i64 afMatrix_2, .int .i64 afMatrix_3, .int .i64 afMatrix_4, .int .i64 afMatrix_5, .slice pfBytes afBytes.length lfBytes] : List Value)
  rw [← efColor, ← efPen]
  rw [efKind, efPath, efClips, efFont, efMatrix_0, efMatrix_1, efMatrix_2, efMatrix_3, efMatrix_4, efMatrix_5, efBytes]
  rfl
structure PageZ (n : Nat) (x : PageV) : Prop where
 z_fItems : x.fItems.length ≤ n
 zs_fItems : ∀ y ∈ x.fItems, ItemZ n y
theorem PageZ.mono {m n : Nat} {x : PageV} (h : PageZ m x) (hn : m ≤ n) : PageZ n x := ⟨Nat.le_trans h.z_fItems hn, fun y hy => (h.zs_fItems y hy).mono hn⟩
set_option maxRecDepth 20000 in
theorem openS_Page {H : Type} {enc : TypeId × Value → H} {w : World} {base : Nat} {sp : Nat → Bool} {held : Bool} {fuel : Nat} {cs : List Value} {x : DataW H × List MemPlace}
  (h : DataW.trod enc Tryz.prog w base sp held fuel 76 cs = some x) : ∃ o : PageV, cs = pageV o ∧ PageOk w o ∧ PageZ (Rows.uptoBulk x.1) o := by
 obtain ⟨xs, n, rfl, hx, hl, hlen, hf⟩ := DataW.trod_struct underlying76 h
 have hbx : ∀ (i : Nat) (hi : i < xs.length), Rows.uptoBulk xs[i].1 ≤ Rows.uptoBulk x.1 := fun i hi => by rw [hx]; exact bulk_part xs i hi
 clear hx
 rw [cells76] at hl
 have hlen3 : xs.length = 3 := hlen
 match cs, hl with
 | [c0, c1, c2], _ =>
  have g : ∀ (i : Nat) (f : Field) (q : Nat) (c : List Value), _ → Tryz.prog.cellsOf f.type = q → (([c0, c1, c2] : List Value).drop f.offset).take q = c → DataW.trod enc Tryz.prog w base sp held n f.type c = xs[i]? := fun i f q c h1 h2 h3 => by
   have := hf i f h1
   rw [h2, h3] at this
   exact this
  have f0 := (g 0 _ 1 [c0] rfl cells3 rfl).trans (List.getElem?_eq_getElem oO)
  obtain ⟨afWidth, efWidth, -, wfWidth⟩ := DataW.trod_int underlying3 f0
  have f1 := (g 1 _ 1 [c1] rfl cells3 rfl).trans (List.getElem?_eq_getElem oO)
  obtain ⟨afHeight, efHeight, -, wfHeight⟩ := DataW.trod_int underlying3 f1
  have f2 := (g 2 _ 1 [c2] rfl cells74 rfl).trans (List.getElem?_eq_getElem oO)
  obtain ⟨pfItems, afItems, lfItems, efItems, rfItems, sfItems, kfItems, zfItems, yfItems⟩ := openS_rowM (L := itemL) (Ok := fun o => ItemOk w o) (S := ItemZ) (fun h hn => h.mono hn) underlying74 cells87 (fun h => openS_Item h) f2
  simp only [List.cons.injEq, and_true] at efWidth efHeight efItems
  refine ⟨⟨afWidth, afHeight, pfItems, afItems, lfItems⟩, ?_, ⟨wfWidth, wfHeight, rfItems, sfItems, kfItems⟩, ⟨(Nat.le_trans zfItems (hbx 2 oO)), (fun q hq => (yfItems q hq).mono (hbx 2 oO))⟩⟩
  rw [efWidth, efHeight, efItems]
  rfl
end
section
open Go.ChangeShapes Go.WideShapes Go.ChangeAt Go.RowKit
theorem own : ownKnob Tryz.prog.godebug = none := by kernel_rfl
theorem laidOut : laidOutB Tryz.prog = true := by kernel_rfl
def putCells (cs : Array Value) : Obj → Obj
 | .cells _ t frozen => .cells cs t frozen
 | o => o
def litCell : DataW Unit → Value
 | .lit (.int k z) => .int k z
 | .lit (.string s) => .string ⟨s.toArray⟩
 | _ => .bool false
def dataCells : DataW Unit → Array Value
 | .agg ps => (ps.map litCell).toArray
 | _ => #[]
def rangeCells : Array Value := #[.int .u8 128, .int .u8 191, .int .u8 160, .int .u8 191, .int .u8 128, .int .u8 159, .int .u8 144, .int .u8 191, .int .u8 128, .int .u8 143, .int .u8 0, .int .u8 0, .int .u8 0, .int .u8 0, .int .u8 0, .int .u8 0, .int .u8 0, .int .u8 0, .int .u8 0, .int .u8 0, .int .u8 0, .int .u8 0, .int .u8 0, .int .u8 0, .int .u8 0, .int .u8 0, .int .u8 0, .int .u8 0, .int .u8 0, .int .u8 0, .int .u8 0, .int .u8 0]
def firstCells : Array Value := (Go.Pinned.utf8FirstZ.map fun (n : Nat) => Value.int .u8 (n : Int)).toArray
def rangeS : ByteArray := ⟨#[118, 97, 108, 117, 101, 32, 111, 117, 116, 32, 111, 102, 32, 114, 97, 110, 103, 101]⟩
def syntaxS : ByteArray := ⟨#[105, 110, 118, 97, 108, 105, 100, 32, 115, 121, 110, 116, 97, 120]⟩
noncomputable def low : Nat := (World.holding Tryz.prog default ⟨#[], #[], []⟩).heap.size
noncomputable def base0 (os : Os) : World := World.holding Tryz.prog os ⟨#[.cells #[.string rangeS] 281, .cells #[.string syntaxS] 281], #[], []⟩
/-- a world for a witness: the settled one, the listed variables holding what their initialisers lay -/
noncomputable def laidWorld (os : Os) : World :=
 { base0 os with heap := ((((((((base0 os).heap.modify 7 (putCells (dataCells Rows.laid_math_bits_deBruijn32tab))).modify 8 (putCells (dataCells Rows.laid_math_bits_deBruijn64tab))).modify 6 (putCells (dataCells Rows.laid_internal_strconv_uint64pow10))).modify 1 (putCells (dataCells Rows.laid_mezzotint_font_names))).modify 3 (putCells rangeCells)).modify 5 (putCells #[.iface 279 (.pointer (some ⟨low, 0, none⟩))])).modify 4 (putCells #[.iface 279 (.pointer (some ⟨low + 1, 0, none⟩))])).modify 2 (putCells firstCells) }
theorem pagesS_of {l : List PageV} {n : Nat} (h : l.length ≤ n) (hz : ∀ y ∈ l, PageZ n y) (hn : n ≤ 1048576) : PagesS l :=
 ⟨Nat.le_trans h hn, fun x hx => ⟨Nat.le_trans (hz x hx).z_fItems hn, fun y hy => by
  have := (hz x hx).zs_fItems y hy
  exact ⟨Nat.le_trans this.z_fPath hn, Nat.le_trans this.z_fBytes hn, Nat.le_trans this.z_fPen.z_fDash hn, Nat.le_trans this.z_fClips hn, fun c hc => Nat.le_trans (this.zs_fClips c hc).z_fPath hn⟩⟩⟩
theorem laid_strs {P : Program} {W : World} {name : String} {ss : List (List UInt8)} {rest : List (String × DataW Unit)} {g : Nat} {t e : TypeId} {n : Nat}
  (hg : P.globalNamed name = some g) (hty : (P.globals[g]?).map (·.type) = some t) (ht : P.underlying t = some (.array n e)) (he : P.underlying e = some .string) (hce : P.cellsOf e = 1)
  (h : laidMet P ((name, .agg (ss.map fun s => .lit (.string s))) :: rest) W) : RowAt strV W (some ⟨g, 0, none⟩) ss := by
 obtain ⟨ps, ⟨g', t', cs, fuel, p, q, hg', ht', hvar, hd, _, _⟩, _⟩ := h
 obtain rfl := Option.some.inj (hg.symm.trans hg')
 obtain rfl := Option.some.inj (hty.symm.trans ht')
 obtain ⟨xs, k, rfl, hx, hcl, hl, hf⟩ := DataW.trod_array ht hd
 rw [hce] at hf
 have hxs : xs.map (·.1) = ss.map fun s => (DataW.lit (.string s) : DataW Unit) := by
  have := congrArg Prod.fst hx
  simpa using this.symm
 have hlen : xs.length = ss.length := by have := congrArg List.length hxs; simpa using this
 refine ⟨fun _ => rfl, fun j hj => ?_⟩
 have hjx : j < xs.length := by omega
 have h1 := (hf j oO).trans (List.getElem?_eq_getElem hjx)
 obtain ⟨s, e1, e2, -⟩ := DataW.trod_string he h1
 have h3 : xs[j].1 = .lit (.string ss[j]) := by
  have := congrArg (·[j]?) hxs
  simp only [List.getElem?_map, List.getElem?_eq_getElem hjx, List.getElem?_eq_getElem hj, Option.map_some, Option.some.injEq] at this
  exact this
 rw [e2] at h3
 simp only [DataW.lit.injEq, Lit.string.injEq] at h3
 have h4 : cs[j]? = some (.string s) := by
  have := congrArg (·[0]?) e1
  simpa [List.getElem?_take, List.getElem?_drop] using this
 show W.cell? ((⟨g, 0, none⟩ : Addr).add j) = _
 rw [add_lit, Nat.zero_add, World.var?_cell hg hvar j, h4]
 show _ = some (Value.string (bs ss[j]))
 rw [← h3]; rfl
def fontNames : List (List UInt8) := [[67, 111, 117, 114, 105, 101, 114], [67, 111, 117, 114, 105, 101, 114, 45, 66, 111, 108, 100], [67, 111, 117, 114, 105, 101, 114, 45, 79, 98, 108, 105, 113, 117, 101], [67, 111, 117, 114, 105, 101, 114, 45, 66, 111, 108, 100, 79, 98, 108, 105, 113, 117, 101], [72, 101, 108, 118, 101, 116, 105, 99, 97], [72, 101, 108, 118, 101, 116, 105, 99, 97, 45, 66, 111, 108, 100], [72, 101, 108, 118, 101, 116, 105, 99, 97, 45, 79, 98, 108, 105, 113, 117, 101], [72, 101, 108, 118, 101, 116, 105, 99, 97, 45, 66, 111, 108, 100, 79, 98, 108, 105, 113, 117, 101], [84, 105, 109, 101, 115, 45, 82, 111, 109, 97, 110], [84, 105, 109, 101, 115, 45, 66, 111, 108, 100], [84, 105, 109, 101, 115, 45, 73, 116, 97, 108, 105, 99], [84, 105, 109, 101, 115, 45, 66, 111, 108, 100, 73, 116, 97, 108, 105, 99], [83, 121, 109, 98, 111, 108], [90, 97, 112, 102, 68, 105, 110, 103, 98, 97, 116, 115]]
theorem ptr_row (u : TypeId) (h : Tryz.prog.typeName? 3 u = some "*errors.errorString") : u = 279 :=
 typeName_ptr_named (nm := "errors.errorString") (by rw [show "*" ++ "errors.errorString" = "*errors.errorString" by decide]; kernel_rfl) kR dD u (by rw [show "*" ++ "errors.errorString" = "*errors.errorString" by decide]; exact h)
theorem fonts_of {W : World} {r : List (String × DataW Unit)} (h2 : laidMet Tryz.prog (("mezzotint/font.names", .agg (fontNames.map fun s => .lit (.string s))) :: r) W) : Fonts W :=
 ⟨fontNames, rfl, fun i hi => by
  have key : ∀ s ∈ fontNames, s ≠ [] := by decide
  exact key _ (List.getElem_mem hi), laid_strs (g := 1) kR kR underlying239 underlying9 kR h2⟩
theorem env_of {W : World} (h : laidMetH Tryz.prog Rows.scriptBackRow.laid W) (hS : W.ShapedOpen Tryz.prog) : Env W := by
  have h1 : laidMet Tryz.prog Rows.scriptBackRow.laid W := by
    rw [MakeChecks.laidMetH_plain _ _ _ kR] at h; exact h
  have hp : laidMet Tryz.prog [("internal/strconv.uint64pow10", Rows.laid_internal_strconv_uint64pow10), ("mezzotint/font.names", Rows.laid_mezzotint_font_names), ("unicode/utf8.acceptRanges", Rows.laid_unicode_utf8_acceptRanges), ("strconv.ErrRange", Rows.laid_strconv_ErrRange), ("strconv.ErrSyntax", Rows.laid_strconv_ErrSyntax), ("unicode/utf8.first", Rows.laid_unicode_utf8_first)] W := h1.tail.tail
  have hr := hp.tail.tail.tail
  have hs := hr.tail
  refine ⟨fonts_of hp.tail, ?_, ?_, ?_, ?_⟩
  · exact Lib.tabIs_of_head (g := 6) (zs := Lib.pow10Tab) kR kR underlying276 underlying100 kR kR hp
  · exact cell_of_shapedOpen_int (zero := #[.int .i64 0]) (t := 3) hS (dT kR) kR rfl kR kR underlying3
  · obtain ⟨a, s, hv, -⟩ := laid_sentinel (g := 4) (ti := 117) (tp := 279) (te := 281) (ts := 9) hs kR kR underlying117 ptr_row underlying279 underlying281 rfl rfl underlying9 kR kR
    exact ⟨_, _, hv⟩
  · obtain ⟨a, s, hv, -⟩ := laid_sentinel (g := 5) (ti := 117) (tp := 279) (te := 281) (ts := 9) hr kR kR underlying117 ptr_row underlying279 underlying281 rfl rfl underlying9 kR kR
    exact ⟨_, _, hv⟩
theorem wf_u8 {n : Int} (h : (Lit.int .u8 n).wf = true) : 0 ≤ n ∧ n ≤ 255 := by simpa [Lit.wf, IntKind.min, IntKind.max, IntKind.bits, IntKind.signed] using h
theorem bs_back (s : ByteArray) : bs s.data.toList = s := rfl
theorem len_of {s : ByteArray} (h : s.size ≤ maxLen) : s.data.toList.length ≤ 9223372036854775807 := by
 have e : s.data.toList.length = s.size := by rw [Array.length_toList]; rfl
 rw [e]; exact Nat.le_trans h (by unfold maxLen; decide)
theorem law_ScriptFaults (p : Option Addr) (l : List PageV) (c : Nat) (a b : Int) (s : ByteArray) (w : World) (hE : Env w) (hr : RowM pageL w p l) (hs : PagesS l) (ho : ∀ x ∈ l, PageOk w x) (ha : (Lit.int .u8 a).wf = true) (hb : (Lit.int .u8 b).wf = true) (hm : s.size ≤ maxLen) :
  Calls Tryz.prog 9 #[.slice p l.length c, .int .u8 a, .int .u8 b, .string s] w fun e w' => e = .returned (.bool true) ∧ Below w.heap.size w w' := by
 rw [← bs_back s]
 exact law_Faults p l c a b _ w hE hr hs ho (wf_u8 ha) (wf_u8 hb) (len_of hm)
end
end Go.Proofs.YtjghbcjnplcleaaGreatDoor
