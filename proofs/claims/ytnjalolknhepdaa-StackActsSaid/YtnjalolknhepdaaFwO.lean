/-
  The walk over what is known of a frame: rows of structs: zeros put behind a nil slice (slices.Grow), copy into a row of the call's own. Over any program.
-/
import Derived.Test.YtnjalolknhepdaaFwN
import Derived.Lib.AppendZerosOnto
import Derived.Laws.OwnMore
namespace Go.Proofs.Ytnjalolknhepdaa
open Go.RowKit Go.WideShapes Go.ChangeShapes
theorem fold_set : ∀ (vs : List Value) (s o : Nat) (pre mid post : List Value), pre.length = o + s → mid.length = vs.length →
    (vs.zipIdx s).foldl (fun (cs : Array Value) (x : Value × Nat) => cs.setIfInBounds (o + x.2) x.1) (pre ++ mid ++ post).toArray = (pre ++ vs ++ post).toArray
  | [], s, o, pre, mid, post, h1, h2 => by
    obtain rfl : mid = [] := List.length_eq_zero_iff.1 (by simpa using h2)
    rfl
  | v :: r, s, o, pre, [], post, h1, h2 => by simp at h2
  | v :: r, s, o, pre, m0 :: mr, post, h1, h2 => by
    have ih := fold_set r (s + 1) o (pre ++ [v]) mr post (by simp; omega) (by simpa using h2)
    rw [List.zipIdx_cons, List.foldl_cons]
    have e : (pre ++ m0 :: mr ++ post).toArray.setIfInBounds (o + s) v = (pre ++ [v] ++ mr ++ post).toArray := by
      rw [← h1]
      simp
    rw [e, ih]
    simp
theorem fill_flat {α : Type} (L : Lay α) : ∀ (xs : List α) (i : Nat) (pre post : List Value), pre.length = i * L.m → post.length = xs.length * L.m →
    Instr.fill (fun i => some (i * L.m, L.m)) (pre ++ post).toArray ((List.range' i xs.length).zip (xs.map fun x => Value.agg (L.V x).toArray)) = some (pre ++ L.flat xs).toArray
  | [], i, pre, post, h1, h2 => by
    obtain rfl : post = [] := List.length_eq_zero_iff.1 (by simpa using h2)
    rfl
  | x :: r, i, pre, post, h1, h2 => by
    have hlx := L.len x
    have h2' : post.length = r.length * L.m + L.m := by rw [h2, List.length_cons, Nat.succ_mul]
    have ih := fill_flat L r (i + 1) (pre ++ L.V x) (post.drop L.m) (by rw [List.length_append, h1, hlx, Nat.succ_mul]) (by rw [List.length_drop]; omega)
    have hf := fold_set (L.V x) 0 (i * L.m) pre (post.take L.m) (post.drop L.m) (by omega) (by rw [List.length_take, hlx]; omega)
    rw [List.append_assoc pre, List.take_append_drop] at hf
    have hc : (Value.agg (L.V x).toArray).cells = (L.V x).toArray := rfl
    rw [List.length_cons, List.range'_succ, List.map_cons, List.zip_cons_cons]
    conv => lhs; unfold Instr.fill
    simp only [hc]
    rw [if_neg (by simp [hlx]; omega)]
    refine Eq.trans (congrArg (fun c => Instr.fill (fun i => some (i * L.m, L.m)) c ((List.range' (i + 1) r.length).zip (r.map fun x => Value.agg (L.V x).toArray))) ?_) (ih.trans (by simp [Lay.flat]))
    rw [← hf]
    simp
section
variable {P : Program} {n : Sh} {f : Fr} {α : Type} {L : Lay α}
theorem WL.gzM {ops : Array Oper} {Q : Exit → Fr → World → Prop} {w : World} {rest : List Oper} {d ty : Nat} {pos : String} {aft : Array Edge} {s x : Operand} {t tn e : TypeId} {z : Value} {by' : Nat} {kn kq : IntKind} (j : Nat)
    (ht : P.underlying t = some (.slice e)) (htn : P.underlying tn = some (.int kn)) (hi : (P.info? e).map (fun i => (i.zero, i.size, i.bytes)) = some (some z, L.m, by')) (hby2 : Nat.ble by' 1000 = true) (hzs : z.cells.size = L.m)
    (hs : evo f s = some (.slice none 0 0)) (hx : evo f x = some (.int kq j)) (h0 : 0 < j) (hn : j ≤ 10000000) (hd : Nat.blt d n.n = true)
    (k : ∀ c w1, j ≤ c → c ≤ maxLen → OwnM L e w.heap.size w1 (.slice (some ⟨w.heap.size, 0, none⟩) 0 c) [] → Below w.heap.size w w1 → WL P n ops Q rest ((d, .slice (some ⟨w.heap.size, 0, none⟩) j c) :: f) w1) :
    WL P n ops Q (⟨some d, .call ⟨.builtin .append, #[s, x], #[t, tn]⟩, ty, pos, aft, none⟩ :: rest) f w := by
  cases hh : P.info? e with
  | none => rw [hh] at hi; cases hi
  | some i =>
    rw [hh] at hi
    simp only [Option.map_some, Option.some.injEq, Prod.mk.injEq] at hi
    obtain ⟨hz, hsize, hby⟩ := hi
    have hby2' : i.bytes ≤ 1000 := by rw [hby]; simpa using hby2
    have hb1 : j * i.bytes ≤ j * 1000 := Nat.mul_le_mul_left _ hby2'
    have h2 := Lib.run_append_grow_zeros (P := P) w t tn ty e i z kq kn ht htn hh hz none 0 0 [] (by exact run_firstCells_none w.drew i.size 0 0 0) j h0 (by rw [hsize]; exact L.pos) (by omega) (by omega) (by omega) (growslice_fits (by omega) (by rw [Nat.zero_add]; omega))
    rw [Nat.zero_add] at h2
    have hge := grownCap_ge w j 0 e
    have hcm : grownCap w j 0 e ≤ maxLen := grownCap_le_maxLen w j 0 e (by unfold maxLen; omega)
    refine WL.run hd (w' := w.drew.alloc (.cells (([] : List Value).toArray ++ Builtin.zeroCells z.cells j ++ Builtin.zeroCells z.cells (grownCap w j 0 e - j)) e)) (v := .slice (some ⟨w.heap.size, 0, none⟩) j (grownCap w j 0 e)) (fun ρ hρ => ?_) (k _ _ hge hcm (.inr ⟨w.heap.size, _, _, rfl, Nat.le_refl _, heap_alloc_new w.drew _, Nat.zero_le _, hcm, ?_, ?_⟩) (Upd.below (Drew.below (Below.refl _ _) ⟨1, rfl⟩) (Nat.le_refl _) (Upd.alloc w.drew _)))
    · unfold execOp
      simp only [resolve, invoke, builtin, Sem.run_bind, Sem.run_pure, Result.andThen_ok, List.map_toArray, List.map_cons, List.map_nil, hρ _ _ hs, hρ _ _ hx, h2]
    · simp only [Array.size_append, List.size_toArray, List.length_nil, size_zeroCells, hzs, Nat.zero_add, ← Nat.add_mul]
      exact Nat.le_of_eq (congrArg (· * L.m) (by omega))
    · simp [Lay.flat]

theorem WL.cpM {ops : Array Oper} {Q : Exit → Fr → World → Prop} {w : World} {rest : List Oper} {d ty : Nat} {pos : String} {aft : Array Edge} {s x : Operand} {t u e : TypeId} {B : Nat} {ys l : List α} {p q : Option Addr} {c c' a b : Nat} (i : Nat)
    (ht : P.underlying t = some (.slice e)) (hs : ∀ w, (sizeOf e).run P w = .ok L.m w)
    (hown : OwnM L e B w (.slice p l.length c) l) (hi : i + ys.length = l.length) (hy : 0 < ys.length)
    (hp : evo f s = some (.slice (pPartM L.m p c i) a b)) (ha : a = ys.length) (hx : evo f x = some (.slice q ys.length c')) (hb : RowM L w q ys) (hd : Nat.blt d n.n = true)
    (k : ∀ w1 g, p = some ⟨g, 0, none⟩ → Upd g w w1 → OwnM L e B w1 (.slice p l.length c) (l.take i ++ ys) → WL P n ops Q rest ((d, .int .i64 (ys.length : Int)) :: f) w1) :
    WL P n ops Q (⟨some d, .call ⟨.builtin .copy, #[s, x], #[t, u]⟩, ty, pos, aft, none⟩ :: rest) f w := by
  subst ha
  rcases hown with ⟨h1, h2⟩ | ⟨g, cap, cur, h1, hB, hg, hnc, hcm, hcs, htake⟩
  · rw [h2] at hi; simp only [List.length_nil] at hi; omega
  · cases h1
    have hq := hb.isp hy
    have hly := L.flat_len ys
    have hll := L.flat_len l
    have hne : c ≠ i := by omega
    have hpp : pPartM L.m (some ⟨g, 0, none⟩) c i = some ⟨g, i * L.m, none⟩ := by
      unfold pPartM; rw [if_neg hne]; simp only [Option.map_some, add_lit, Nat.zero_add]
    rw [hpp] at hp
    have hfit : i * L.m + ys.length * L.m ≤ cur.size := by
      rw [← Nat.add_mul, hi]; exact Nat.le_trans (Nat.mul_le_mul_right _ hnc) hcs
    have hld := run_loadCells_list (P := P) w (pA q) (L.flat ys) hb.flat
    have hst := run_storeCells_at P g (i * L.m) e (L.flat ys) 0 cur w hg (by rw [hly]; exact hfit) (L.flat_one ys)
    rw [hly] at hld
    have htk : cur.toList.take (i * L.m) = L.flat (l.take i) := by
      rw [← L.flat_take, ← htake, List.take_take, Nat.min_eq_left (Nat.mul_le_mul_right _ (by omega))]
    have hlt : (l.take i ++ ys).length = l.length := by rw [List.length_append, List.length_take]; omega
    refine WL.run hd (w' := w.setRow g (cur.toList.take (i * L.m + 0) ++ L.flat ys ++ cur.toList.drop (i * L.m + 0 + (L.flat ys).length)).toArray) (v := .int .i64 (ys.length : Int)) (fun ρ hρ => ?_) (k _ g rfl (Upd.setRow _ _ _) (.inr ⟨g, c, _, by rw [hlt], hB, setRow_heap w g cur _ e _ hg, by rw [hlt]; exact hnc, hcm, ?_, ?_⟩))
    · rw [hq] at hx
      unfold execOp
      simp only [resolve, invoke, builtin, Sem.run_bind, Sem.run_pure, Result.andThen_ok, List.map_toArray, List.map_cons, List.map_nil, hρ _ _ hp, hρ _ _ hx]
      simp [Builtin.copy_, run_underlying ht, Builtin.lenOf, Builtin.firstCells, hs, hld, hst, goInt]
    · simp only [List.size_toArray, List.length_append, List.length_take, List.length_drop, Array.length_toList, hly]
      omega
    · rw [hlt, List.append_assoc, ← hi, Nat.add_mul, Nat.add_zero, htk]
      rw [← List.append_assoc, List.take_append_of_le_length (by rw [List.length_append, L.flat_len, hly, List.length_take, Nat.min_eq_left (by omega)]; exact Nat.le_refl _), List.take_of_length_le (by rw [List.length_append, L.flat_len, hly, List.length_take, Nat.min_eq_left (by omega)]; exact Nat.le_refl _), L.flat_append]
/-- a slice made of its structs -/
theorem WL.bslM {ops : Array Oper} {Q : Exit → Fr → World → Prop} {w : World} {rest : List Oper} {d ty : Nat} {pos : String} {aft : Array Edge} {t e : TypeId} {len : Nat} {ps : List (Nat × Operand)} {vs : List Value} {z : Value} (xs : List α)
    (hu : P.underlying t = some (.slice e)) (hs : ∀ w, (sizeOf e).run P w = .ok L.m w) (hz : ∀ w, (zeroValue e).run P w = .ok z w) (_hzs : z.cells.size = L.m) (hl0 : Nat.blt 0 len = true) (hl1 : Nat.ble (len * L.m) 1000 = true)
    (hx : evs f (ps.map (·.2)) = some vs) (hi : ps.map (·.1) = List.range' 0 len) (hv : vs = xs.map fun x => Value.agg (L.V x).toArray) (hl : len = xs.length) (hd : Nat.blt d n.n = true)
    (k : ∀ b w1, b = w.heap.size → OwnM L e b w1 (.slice (some ⟨b, 0, none⟩) len len) xs → Upd b w w1 → w1.heap.size = b + 1 → WL P n ops Q rest ((d, .slice (some ⟨b, 0, none⟩) len len) :: f) w1) :
    WL P n ops Q (⟨some d, .buildSlice t len ps.toArray, ty, pos, aft, none⟩ :: rest) f w := by
  have h0 : 0 < len := by simpa [Nat.blt_eq] using hl0
  have h1 : len * L.m ≤ 1000 := by simpa using hl1
  have hlm : len ≤ len * L.m := Nat.le_mul_of_pos_right _ L.pos
  refine WL.run hd (w' := w.alloc (.cells (L.flat xs).toArray e)) (v := .slice (some ⟨w.heap.size, 0, none⟩) len len) (fun ρ hρ => ?_) (k _ _ rfl (.inr ⟨w.heap.size, len, _, by rw [← hl], Nat.le_refl _, Blk.alloc _ _ _, by rw [← hl]; exact Nat.le_refl _, by unfold maxLen; omega, by rw [List.size_toArray, L.flat_len, ← hl]; exact Nat.le_refl _, by show (L.flat xs).take _ = _; rw [List.take_of_length_le (by rw [L.flat_len]; exact Nat.le_refl _)]⟩) (Upd.alloc _ _) (by simp))
  have e1 := evs_map hρ _ _ hx
  have e2 : (ps.toArray.map fun (i, x) => (i, ρ x)).toList = (ps.map (·.1)).zip vs := by
    rw [← e1]
    simp only [List.map_map, Array.toList_map]
    clear hx hi hv e1
    induction ps with
    | nil => rfl
    | cons p r ih => simpa using ih
  have hfill := fill_flat L xs 0 [] ((Array.range (len * L.m)).map (fun x => z.cells[x % z.cells.size]!)).toList (by simp) (by simp [hl])
  simp only [List.nil_append, Array.toArray_toList] at hfill
  rw [hi, hl, hv] at e2
  rw [← hl] at e2 hfill
  have hne : ¬ len * L.m = 0 := by omega
  have hbig : ¬ 16777216 < len * L.m := by omega
  unfold execOp
  simp only [Instr.buildSlice, Sem.run_bind, run_underlying hu, hs, Result.andThen_ok, e2]
  rw [if_neg (by omega), if_neg hne]
  simp only [Sem.run_bind, hz, Sem.run_pure, Result.andThen_ok, hfill]
  simp [newRow]
/-- a struct written into a row of the call's own -/
theorem WL.stM {ops : Array Oper} {Q : Exit → Fr → World → Prop} {w : World} {rest : List Oper} {ty : Nat} {pos : String} {aft : Array Edge} {t e : TypeId} {x y : Operand} {B nn c : Nat} {p : Option Addr} {l : List α} {vs : List Value} (o : α) (k : Nat)
    (hown : OwnM L e B w (.slice p nn c) l) (hk : k < l.length) (hi : (P.info? t).map (·.size) = some L.m) (hx : evo f x = some (.pointer (some ((pA p).add (k * L.m))))) (hy : evo f y = some (.agg vs.toArray)) (hv : vs = L.V o)
    (kk : ∀ w1 g, p = some ⟨g, 0, none⟩ → Upd g w w1 → OwnM L e B w1 (.slice p nn c) (l.set k o) → WL P n ops Q rest f w1) :
    WL P n ops Q (⟨none, .store t x y, ty, pos, aft, none⟩ :: rest) f w := by
  subst hv
  rcases hown with ⟨h1, h2⟩ | ⟨g, cap, cur, h1, hB, hg, hnc, hcm, hcs, htake⟩
  · rw [h2] at hk; simp only [List.length_nil] at hk; omega
  · cases h1
    have hlo := L.len o
    have hll := L.flat_len l
    have hkm : k * L.m + L.m ≤ l.length * L.m := by rw [← Nat.succ_mul]; exact Nat.mul_le_mul_right _ hk
    have hlm : l.length * L.m ≤ c * L.m := Nat.mul_le_mul_right _ hnc
    have hst := run_storeCells_at P g (k * L.m) e (L.V o) 0 cur w hg (by rw [hlo]; omega) (L.one o)
    rw [show pA (some (⟨g, 0, none⟩ : Addr)) = ⟨g, 0, none⟩ from rfl, add_lit, Nat.zero_add] at hx
    have hls : (l.set k o).length = l.length := List.length_set
    refine WL.act (w' := w.setRow g (cur.toList.take (k * L.m + 0) ++ L.V o ++ cur.toList.drop (k * L.m + 0 + (L.V o).length)).toArray) (fun ρ hρ => ?_)
      (kk _ g rfl (Upd.setRow _ _ _) (.inr ⟨g, c, _, by rw [hls], hB, setRow_heap w g cur _ e _ hg, by rw [hls]; exact hnc, hcm, ?_, ?_⟩))
    · cases hq : P.info? t with
      | none => simp [hq] at hi
      | some i =>
        have hs : i.size = L.m := by simpa [hq] using hi
        unfold execOp
        simp [hρ _ _ hx, hρ _ _ hy, Instr.storeAt, Instr.sureAddr, storeVar, Sem.run_bind, sizeOf, typeInfo, hq, hs, Value.cells, hlo, hst]
    · simp only [List.size_toArray, List.length_append, List.length_take, List.length_drop, Array.length_toList, hlo]
      omega
    · rw [hls, ← list_set_flat L l k hk o, Nat.add_zero, hlo, ← htake]
      rw [List.take_take, Nat.min_eq_left (by omega)]
      rw [List.append_assoc, List.append_assoc, List.take_append, List.take_append]
      simp only [List.length_take, Array.length_toList, hlo]
      rw [Nat.min_eq_left (by omega), List.take_take, Nat.min_eq_right (by omega), List.take_of_length_le (l := L.V o) (by omega), List.drop_take]
      congr 3
      omega
theorem flat_set_field (L : Lay α) (l : List α) (k i : Nat) (hk : k < l.length) (hi : i < L.m) (o : α) (v : Value) (hv : L.V o = (L.V l[k]).set i v) : (L.flat l).set (k * L.m + i) v = L.flat (l.set k o) := by
  have e0 := list_set_flat L l k hk l[k]
  rw [List.set_getElem_self] at e0
  have hl := L.flat_len l
  have hkm : k * L.m + L.m ≤ l.length * L.m := by rw [← Nat.succ_mul]; exact Nat.mul_le_mul_right _ hk
  have ht : ((L.flat l).take (k * L.m)).length = k * L.m := by rw [List.length_take]; omega
  have hlk := L.len l[k]
  rw [← list_set_flat L l k hk o, hv]
  conv => lhs; rw [← e0]
  rw [List.append_assoc, List.set_append_right _ _ (by omega), ht, Nat.add_sub_cancel_left, List.set_append_left _ _ (by omega), List.append_assoc]
/-- a field of a struct written in a row of the call's own -/
theorem WL.stF {ops : Array Oper} {Q : Exit → Fr → World → Prop} {w : World} {rest : List Oper} {ty : Nat} {pos : String} {aft : Array Edge} {t e : TypeId} {x y : Operand} {B nn c : Nat} {p : Option Addr} {l : List α} {v : Value} (o : α) (k i : Nat)
    (hown : OwnM L e B w (.slice p nn c) l) (hk : k < l.length) (hi : i < L.m) (hs : ∀ w, (sizeOf t).run P w = .ok 1 w) (hx : evo f x = some (.pointer (some (((pA p).add (k * L.m)).add i)))) (hy : evo f y = some v) (h1 : v.oneCell' = true) (hv : L.V o = (L.V l[k]).set i v)
    (kk : ∀ w1 g, p = some ⟨g, 0, none⟩ → Upd g w w1 → OwnM L e B w1 (.slice p nn c) (l.set k o) → WL P n ops Q rest f w1) :
    WL P n ops Q (⟨none, .store t x y, ty, pos, aft, none⟩ :: rest) f w := by
  rcases hown with ⟨h1, h2⟩ | ⟨g, cap, cur, h2, hB, hg, hnc, hcm, hcs, htake⟩
  · rw [h2] at hk; simp only [List.length_nil] at hk; omega
  · cases h2
    have hkm : k * L.m + L.m ≤ l.length * L.m := by rw [← Nat.succ_mul]; exact Nat.mul_le_mul_right _ hk
    have hlm : l.length * L.m ≤ c * L.m := Nat.mul_le_mul_right _ hnc
    have hst := run_storeCells_at P g (k * L.m + i) e [v] 0 cur w hg (by simp only [List.length_cons, List.length_nil]; omega) (by simpa using h1)
    rw [show pA (some (⟨g, 0, none⟩ : Addr)) = ⟨g, 0, none⟩ from rfl, add_lit, add_lit, Nat.zero_add] at hx
    have hls : (l.set k o).length = l.length := List.length_set
    have hcv : v.cells = #[v] := by cases v <;> first | rfl | cases h1
    have hset : cur.toList.take (k * L.m + i + 0) ++ [v] ++ cur.toList.drop (k * L.m + i + 0 + [v].length) = cur.toList.set (k * L.m + i) v := by
      rw [List.set_eq_take_append_cons_drop, if_pos (by rw [Array.length_toList]; omega)]
      simp
    rw [hset] at hst
    refine WL.act (w' := w.setRow g (cur.toList.set (k * L.m + i) v).toArray) (fun ρ hρ => ?_)
      (kk _ g rfl (Upd.setRow _ _ _) (.inr ⟨g, c, _, by rw [hls], hB, setRow_heap w g cur _ e _ hg, by rw [hls]; exact hnc, hcm, ?_, ?_⟩))
    · unfold execOp
      simp [hρ _ _ hx, hρ _ _ hy, Instr.storeAt, Instr.sureAddr, storeVar, Sem.run_bind, hs, hcv, hst]
    · simpa using hcs
    · rw [hls, ← flat_set_field L l k i hk hi o v hv, ← htake, List.take_set]
theorem made_flat (L : Lay α) (o : α) (cs : Array Value) (hc : cs.toList = L.V o) (j : Nat) : (madeCells cs (j * L.m)).toList = L.flat (List.replicate j o) := by
  have hcs : cs.size = L.m := by rw [← Array.length_toList, hc, L.len]
  refine List.ext_getElem? fun q => ?_
  have hpos := L.pos
  rcases Nat.lt_or_ge q (j * L.m) with hq | hq
  · have hqj : q / L.m < j := (Nat.div_lt_iff_lt_mul hpos).2 hq
    have hqm : q % L.m < L.m := Nat.mod_lt _ hpos
    have e := L.flat_at (List.replicate j o) (q / L.m) (by simpa using hqj) (q % L.m) hqm
    rw [Nat.mul_comm, Nat.div_add_mod] at e
    rw [e, List.getElem_replicate, ← hc]
    simp [madeCells, hq, hcs, hqm]
  · rw [List.getElem?_eq_none (by simp [madeCells]; exact hq), List.getElem?_eq_none (by rw [L.flat_len, List.length_replicate]; exact hq)]
/-- make([]T, j) -/
theorem WL.mkM {ops : Array Oper} {Q : Exit → Fr → World → Prop} {w : World} {rest : List Oper} {d ty : Nat} {pos : String} {aft : Array Edge} {t e : TypeId} {x y : Operand} {z : Value} {by' : Nat} {kl kc : IntKind} (o : α) (j : Nat)
    (ht : P.underlying t = some (.slice e)) (hi : (P.info? e).map (fun i => (i.zero, i.size, i.bytes)) = some (some z, L.m, by')) (hby2 : Nat.ble by' 1000 = true) (hz : z.cells.toList = L.V o)
    (hx : evo f x = some (.int kl j)) (hy : evo f y = some (.int kc j)) (hj : j ≤ 10000) (hm : L.m ≤ 1000) (hd : Nat.blt d n.n = true)
    (k : ∀ w1, OwnM L e w.heap.size w1 (.slice (some ⟨w.heap.size, 0, none⟩) j j) (List.replicate j o) → Below w.heap.size w w1 → WL P n ops Q rest ((d, .slice (some ⟨w.heap.size, 0, none⟩) j j) :: f) w1) :
    WL P n ops Q (⟨some d, .makeSlice t x y, ty, pos, aft, none⟩ :: rest) f w := by
  cases hh : P.info? e with
  | none => rw [hh] at hi; cases hi
  | some i =>
    rw [hh] at hi
    simp only [Option.map_some, Option.some.injEq, Prod.mk.injEq] at hi
    obtain ⟨hz0, hsize, hby⟩ := hi
    have hby2' : i.bytes ≤ 1000 := by rw [hby]; simpa using hby2
    have hb1 : i.bytes * j ≤ 1000 * j := Nat.mul_le_mul_right _ hby2'
    have hc1 : j * L.m ≤ j * 1000 := Nat.mul_le_mul_left _ hm
    obtain ⟨w', h1, h2, h3⟩ := run_makeSlice_full (P := P) (w := w) w.heap.size t e i z L.m ht hh hz0 hsize kl kc j (by omega) (by omega) (by unfold maxLen; omega) (Nat.le_refl _)
    rw [made_flat L o z.cells hz j] at h2
    have h2' : OwnM L e w.heap.size w' (.slice (some ⟨w.heap.size, 0, none⟩) j j) (List.replicate j o) := OwnM.of (by rw [List.length_replicate]; exact h2)
    refine WL.run hd (fun ρ hρ => ?_) (k w' h2' ((Below.refl _ _).grown h3 (Nat.le_refl _) fun k hk => by cases hk))
    unfold execOp
    simp [hρ _ _ hx, hρ _ _ hy, h1]
end

end Go.Proofs.Ytnjalolknhepdaa
