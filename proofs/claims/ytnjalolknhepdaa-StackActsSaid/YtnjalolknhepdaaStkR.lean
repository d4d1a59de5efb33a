/-
  Stacks: the law StackActs, walked.
-/
import Derived.Test.YtnjalolknhepdaaStkN
import Derived.Test.YtnjalolknhepdaaStkQ
namespace Go.Proofs.Ytnjalolknhepdaa
open Go.RowKit

/-- two slices of the same objects -/
def SameSl (w : World) (g h : Value) : Prop := ∃ p q l c d, g = .slice p (l : List ObjV).length c ∧ h = .slice q l.length d ∧ RowM objL w p l ∧ RowM objL w q l ∧ l.length ≤ 10000000
theorem SameSl.nil (w : World) : SameSl w (.slice none 0 0) (.slice none 0 0) := ⟨none, none, [], 0, 0, rfl, rfl, RowM.nil w, RowM.nil w, by simp⟩
theorem SameSl.mk {w : World} {g h : Value} {l : List ObjV} {B C : Nat} {e f : TypeId} (h1 : OwnM objL e B w g l) (h2 : OwnM objL f C w h l) (hl : l.length ≤ 10000000) : SameSl w g h := by
  obtain ⟨p, c, rfl, r1, -⟩ := h1.row
  obtain ⟨q, d, rfl, r2, -⟩ := h2.row
  exact ⟨p, q, l, c, d, rfl, rfl, r1, r2, hl⟩
theorem SameSl.mkR {w : World} {g : Value} {q : Option Addr} {l m : List ObjV} {B n d : Nat} {e : TypeId} (h1 : OwnM objL e B w g l) (h2 : RowM objL w q m) (hn : n = m.length) (hm : m = l) (hl : l.length ≤ 10000000) : SameSl w g (.slice q n d) := by
  obtain ⟨p, c, rfl, r1, -⟩ := h1.row
  subst hm; subst hn
  exact ⟨p, q, m, c, d, rfl, rfl, r1, h2, hl⟩
theorem SameSl.left {w : World} {g h : Value} {B : Nat} {e : TypeId} (h1 : OwnM objL e B w g []) (hh : h = .slice none 0 0) : SameSl w g h := by
  obtain ⟨p, c, rfl, r1, -⟩ := h1.row
  subst hh
  exact ⟨p, none, [], c, 0, rfl, rfl, r1, RowM.nil w, by simp⟩
theorem Mod.at {w : World} {b n c : Nat} {v : Value} {p : Option Addr} {l : List ObjV} (h : Mod w b v (.slice p n c) l) : RowM objL w p l ∧ (0 < l.length → (pA p).block < w.heap.size ∧ (pA p).block ∉ b :: v.ownBlock.toList) := by
  obtain ⟨p', c', h1, h2, h3, h4⟩ := h.ex
  cases h1
  exact ⟨h2, h4⟩
theorem Mod.own {w : World} {b B : Nat} {v mv : Value} {l L : List ObjV} {most ov un : Int} {e : TypeId} {w3 : World} (hs : StackOk w3 b v most ov un L) (ho : OwnM objL e B w mv l) (hB : w3.heap.size ≤ B) : Mod w b v mv l := by
  obtain ⟨p, c, rfl, h1, h2, h3, h4, h5, h6, h7⟩ := ho.row
  refine ⟨p, c, rfl, h1, ⟨h3, h6, h4, fun e => ?_⟩, fun h0 => ?_⟩
  · rcases ho with ⟨g1, g2⟩ | ⟨g, cap, cur, g1, -⟩
    · simp only [Value.slice.injEq] at g1; exact ⟨g2, g1.2.2⟩
    · rw [g1] at h5; rw [e] at h5; cases h5
  · have := ho.lt (pA p).block (by rw [h5, h1.isp h0]; rfl)
    exact ⟨this.2, notin_stk (by have := hs.blk.lt; omega) (fun h => by have := (hs.own.lt _ h).2; omega)⟩
theorem Mod.part {w : World} {b n c : Nat} {v : Value} {p : Option Addr} {l : List ObjV} (h : Mod w b v (.slice p n c) l) (k : Nat) (hk : k ≤ l.length) : Mod w b v (.slice (pPartM 8 p c 0) k c) (l.take k) := by
  obtain ⟨p', c', h1, h2, h3, h4⟩ := h.ex
  cases h1
  have hl : (l.take k).length = k := by rw [List.length_take]; omega
  have hle := h3.le
  rw [pPartM_zero]
  refine ⟨p, c, by rw [hl], ?_, ⟨by omega, h3.cap, fun e => ?_, fun e => ?_⟩, fun h0 => h4 (by omega)⟩
  · have := h2.partT k hk h3.le
    rw [pPartM_zero] at this; exact this
  · by_cases hp : p = none
    · exact .inl (h3.none hp).2
    · exact .inr hp
  · obtain ⟨e1, e2⟩ := h3.none e
    subst e1
    exact ⟨by simp, e2⟩
theorem stk_T {w w1 w2 w3 : World} {b : Nat} {v v' : Value} {most ov un : Int} {L : List ObjV} (hT : Below w.heap.size w w1) (hB : Below w1.heap.size w1 w2) (hs : StackOk w1 b v most ov un L) (hb0 : w.heap.size ≤ b) (hk : Stk b v v' w2 w3) : Below w.heap.size w w3 := by
  have h1 := hT.size
  have h2 := hB.size
  exact Below.trans (Below.trans hT (hB.mono h1)) (KeepB.below hk.1 (by omega) (stk_S (hs.own) hb0))
theorem act_arm {w w1 w2 w3 : World} {b : Nat} {v v' mv : Value} {most ov un : Int} {L : List ObjV} (hT : Below w.heap.size w w1) (hB : Below w1.heap.size w1 w2) (hs : StackOk w1 b v most ov un L) (hm : Mod w1 b v mv L) (hb0 : w.heap.size ≤ b) (hk : Stk b v v' w2 w3) :
    Below w.heap.size w w3 ∧ Mod w3 b v' mv L ∧ ∀ c cs t, w1.heap.size ≤ c → Blk w2 c cs t → Blk w3 c cs t :=
  ⟨stk_T hT hB hs hb0 hk, (hm.below hB).stk hk, fun c cs t hc h => Blk.keepB h hk.1 h.lt (notin_stk (by have := hs.blk.lt; omega) (fun e => by have := (hs.own.lt _ e).2; omega))⟩
theorem Stk.ofKeep {b : Nat} {v : Value} {w w' : World} (h : KeepB w.heap.size (b :: v.ownBlock.toList) w w') : Stk b v v w w' := ⟨h, fun _ hg => .inl hg⟩
theorem Stk.ofBelow {b : Nat} {v : Value} {w w' : World} (h : Below w.heap.size w w') : Stk b v v w w' := Stk.ofKeep (KeepB.of_below h (Nat.le_refl _))
theorem stk_Push' (b : Nat) (v : Value) (most ov un : Int) (l : List ObjV) (pv : Value) (xs : List ObjV) {B : Nat} {ty : TypeId} (w : World) (h : StackOk w b v most ov un l) (hx : OwnM objL ty B w pv xs)
    (hm : 0 ≤ most ∧ most ≤ 9223372036854775807) (hn : l.length + xs.length ≤ 10000000) :
    Calls Try.prog 14 #[.pointer (some ⟨b, 0, none⟩), pv] w fun e w' => ∃ r, e = .returned r ∧ r = .int .i64 (pushE most ov l xs) ∧ ∃ v', StackOk w' b v' most ov un (pushL most l xs) ∧ Stk b v v' w w' := by
  obtain ⟨p, c, rfl, h1, -, -, h2, -⟩ := hx.row
  exact stk_Push b v most ov un l p xs c w h h1 h2 hm hn
theorem Mod.upd {w w1 : World} {b g : Nat} {v mv : Value} {l : List ObjV} (h : Mod w b v mv l) (hu : Upd g w w1) (hne : ∀ p n c, mv = .slice p n c → 0 < l.length → (pA p).block ≠ g) : Mod w1 b v mv l := by
  obtain ⟨p, c, h1, h2, h3, h4⟩ := h.ex
  exact ⟨p, c, h1, h2.upd hu (hne _ _ _ h1), h3, fun h0 => ⟨Nat.lt_of_lt_of_le (h4 h0).1 hu.size, (h4 h0).2⟩⟩
/-- a store into a block that is newer than the call's start *and* older than the stack's last call -/
theorem act_store {w w1 w2 w3 w4 : World} {b g n c : Nat} {v v2 : Value} {most ov un : Int} {L L2 : List ObjV} {pm : Option Addr} (hT : Below w.heap.size w w1) (hs : StackOk w1 b v most ov un L) (hm : Mod w1 b v (.slice pm n c) L) (hg : w1.heap.size ≤ g) (hlt : g < w2.heap.size)
    (hk : Stk b v v2 w2 w3) (hT3 : Below w.heap.size w w3) (hs2 : StackOk w3 b v2 most ov un L2) (hm3 : Mod w3 b v2 (.slice pm n c) L) (hu : Upd g w3 w4) : Below w.heap.size w w4 ∧ StackOk w4 b v2 most ov un L2 ∧ Mod w4 b v2 (.slice pm n c) L :=
  ⟨Upd.below hT3 (by have := hT.size; omega) hu, ⟨hs2.blk.upd hu (by have := hs.blk.lt; omega), hs2.own.upd hu (fun k hk2 => by
    rcases hk.2 k hk2 with h | h
    · have := (hs.own.lt _ h).2; omega
    · omega)⟩, hm3.upd hu (fun p n c e h0 => by cases e; have := (hm.at.2 h0).1; omega)⟩
theorem Mod.arg {w w' : World} {b : Nat} {v : Value} {most ov un : Int} {x : ActV} {L : List ObjV} (hx : ActOk w x) (hT : Below w.heap.size w w') (hs : StackOk w' b v most ov un L) (hb0 : w.heap.size ≤ b) : Mod w' b v (.slice x.pfList x.fList.length x.cfList) x.fList :=
  ⟨x.pfList, x.cfList, rfl, (hx.below hT).row_fList, hx.sl_fList, fun h0 => by
    have h1 := hx.row_fList.lt h0
    exact ⟨Nat.lt_of_lt_of_le h1 hT.size, notin_stk (by omega) (fun h => by have := (hs.own.lt _ h).1; omega)⟩⟩
theorem take_neg (L : List ObjV) (K : Int) (h : K < 0) : checkE K L 13 = 11 ∧ takeT K L 13 = [] ∧ takeL K L 13 = L := by
  have e : checkE K L 13 = 11 := by unfold checkE; rw [if_pos h]
  exact ⟨e, by unfold takeT; rw [e, if_neg (by decide)], by unfold takeL; rw [e, if_neg (by decide)]⟩
theorem take_big (L : List ObjV) (K : Int) (h : 0 ≤ K) (h2 : (L.length : Int) < K) : checkE K L 13 = 13 ∧ takeT K L 13 = [] ∧ takeL K L 13 = L := by
  have e : checkE K L 13 = 13 := by unfold checkE; rw [if_neg (by omega), if_pos h2]
  exact ⟨e, by unfold takeT; rw [e, if_neg (by decide)], by unfold takeL; rw [e, if_neg (by decide)]⟩
theorem take_ok (L : List ObjV) (K : Int) (k : Nat) (h : 0 ≤ K) (h2 : K ≤ (L.length : Int)) (hk : k = L.length - K.toNat) : checkE K L 13 = 0 ∧ takeT K L 13 = L.drop k ∧ takeL K L 13 = L.take k := by
  have e : checkE K L 13 = 0 := by unfold checkE; rw [if_neg (by omega), if_neg (by omega)]
  exact ⟨e, by unfold takeT; rw [if_pos e, hk], by unfold takeL; rw [if_pos e, hk]⟩
theorem drop_last (L : List ObjV) (k : Nat) (z : ObjV) (h : k + 1 = L.length) : L.drop k = [(L.drop k).getD 0 z] := by
  have hl : (L.drop k).length = 1 := by rw [List.length_drop]; omega
  match hd : L.drop k, hl with
  | [a], _ => rfl
theorem place_neg (L : List ObjV) (i : Int) (o : ObjV) (h : i < 0) : placeE i L 13 = 11 ∧ topV i L 13 = objZ ∧ swapL i o L 13 = L := by
  have e : placeE i L 13 = 11 := by unfold placeE; rw [if_pos h]
  exact ⟨e, by unfold topV; rw [e, if_neg (by decide)]; rfl, by unfold swapL; rw [e, if_neg (by decide)]⟩
theorem place_big (L : List ObjV) (i : Int) (o : ObjV) (h : 0 ≤ i) (h2 : (L.length : Int) ≤ i) : placeE i L 13 = 13 ∧ topV i L 13 = objZ ∧ swapL i o L 13 = L := by
  have e : placeE i L 13 = 13 := by unfold placeE; rw [if_neg (by omega), if_pos h2]
  exact ⟨e, by unfold topV; rw [e, if_neg (by decide)]; rfl, by unfold swapL; rw [e, if_neg (by decide)]⟩
theorem place_ok (L : List ObjV) (i : Int) (k : Nat) (o : ObjV) (h : 0 ≤ i) (h2 : i < L.length) (hk : k = L.length - 1 - i.toNat) : placeE i L 13 = 0 ∧ topV i L 13 = L[k]'(by omega) ∧ swapL i o L 13 = L.set k o := by
  have e : placeE i L 13 = 0 := by unfold placeE; rw [if_neg (by omega), if_neg (by omega)]
  have hv : placeV i L = (k : Int) := by unfold placeV; rw [if_neg (by omega)]; omega
  exact ⟨e, by unfold topV; rw [if_pos e, hv, Int.toNat_natCast, List.getD_eq_getElem?_getD, List.getElem?_eq_getElem (by omega)]; rfl, by unfold swapL; rw [if_pos e, hv, Int.toNat_natCast]⟩
theorem tmod_case (J : Int) (N : Nat) (hN : 0 < N) : (J.tmod N < 0 → J.tmod N + N = J % N) ∧ (0 ≤ J.tmod N → J.tmod N = J % N) := by
  have h1 := tmod_turn J N hN
  have h2 : (J.tmod N).natAbs < N := by rw [Int.natAbs_tmod]; exact Nat.mod_lt _ hN
  generalize J.tmod (N : Int) = T at h1 h2 ⊢
  constructor
  · intro h
    rw [← h1, Int.tmod_eq_emod_of_nonneg (by omega), Int.emod_eq_of_lt (by omega) (by omega)]
  · intro h
    rw [← h1, Int.tmod_eq_emod_of_nonneg (by omega), Int.add_emod_right, Int.emod_eq_of_lt h (by omega)]
/-- what a call of the law leaves -/
structure JS where
  e : Int
  want : Int
  got : Value
  list : Value
  m : Value
  v : Value
  L : List ObjV
structure JOk (w w' : World) (b : Nat) (M : Int) (n : Nat) (t : JS) : Prop where
  T : Below w.heap.size w w'
  s : StackOk w' b t.v M 12 13 t.L
  m : Mod w' b t.v t.m t.L
  len : t.L.length ≤ n
  eq : t.e = t.want
  same : SameSl w' t.got t.list
set_option maxHeartbeats 2000000 in
theorem law_Acts (most : Int) (p : Option Addr) (l : List ActV) (c : Nat) (w : World) (hmo : -9223372036854775808 ≤ most ∧ most ≤ 9223372036854775807) (hrow : RowM actL w p l) (hall : ∀ y ∈ l, ActOk w y) :
    Calls Try.prog 5 #[.int .i64 most, .slice p l.length c] w fun e w' => e = .returned (.bool true) ∧ Below w.heap.size w w' := by
  obtain ⟨M, hM⟩ : ∃ M : Int, M = if 0 > most then 0 else most := ⟨_, rfl⟩
  have hM0 : 0 ≤ M ∧ M ≤ 9223372036854775807 := by rw [hM]; split <;> omega
  refine W.enter Try.func5 rfl Try.ntmps5 (Nat.le_of_ble_eq_true rfl) ?_
  have hB0 := Below.refl (w.heap.size) w
  refine W.seq ?_
  refine W.reg ?_ -- 0
  refine WL.p (.as rfl) rfl <| WL.nil <| ?_
  refine W.seq ?_
  refine W.reg ?_ -- 1
  refine WL.p (.as rfl) rfl <| WL.p (.as rfl) rfl <| WL.nil <| ?_
  refine W.seq ?_
  refine W.reg ?_ -- 2
  refine WL.p (.mv rfl) rfl <| WL.p (.mv rfl) rfl <| WL.p (.mv rfl) rfl <| WL.call hb12 rfl rfl ((stk_New most 12 13 _)) (fun v0 w1 hw1 => ?_)
  have hB2 := btr hB0 hw1.1
  obtain ⟨b, rfl, hb0, hb1, hok⟩ := hw1.2
  rw [← hM] at hok
  have hkb := hok.blk
  have hon := hok.own
  have hlb := Nat.succ_le_of_lt hb1
  refine WL.p (.as rfl) rfl <| WL.nil <| ?_
  refine W.seq ?_
  refine W.seq ?_
  refine W.reg ?_ -- 3
  refine WL.c1 hb13 rfl rfl ((law_answers _)) (fun w3 hw3 => ?_)
  have ho4 := OwnM.below hon hw3
  have hk5 := hkb.below hw3 hkb.lt
  have hB6 := btr hB2 hw3
  refine WL.p (.not rfl) rfl <| WL.p (.mv rfl) rfl <| WL.gy rfl rfl rfl rfl <| WL.p (.mv rfl) rfl <| WL.gy rfl rfl rfl rfl <| WL.p (.eqP Try.underlying26 rfl) rfl <| WL.p (.pkF rfl rfl rfl) rfl <| WL.nil <| ?_
  refine W.condF rfl rfl ?_
  refine W.skip ?_
  refine W.cut (α := Unit) (fun t => [(0, .int .i64 M), (1, .slice p l.length c), (5, .int .i64 12), (6, .int .i64 13), (7, .pointer (some ⟨b, 0, none⟩))]) (fun t w' => w3 = w') ?_ (fun t w1 hR => ?_)
  · skip
    refine W.seq ?_
    refine W.reg ?_ -- 5
    refine WL.p (.mv rfl) rfl <| WL.p (.lss rfl rfl) rfl <| WL.nil <| ?_
    refine W.cond rfl (fun h7 => ?_) (fun h7 => ?_) -- slot 39
    · have h7' := of_decide_eq_true h7
      refine W.reg ?_ -- 6
      refine WL.p (.as rfl) rfl <| WL.nil <| ?_
      -- join 39.meet/1
      first
      | exact ⟨(), ⟨by rw [hM, if_pos (by omega)]; rfl, rfl, rfl, rfl, rfl, trivial⟩, rfl⟩
      | exact ⟨(), ⟨by rw [hM, if_neg (by omega)]; rfl, rfl, rfl, rfl, rfl, trivial⟩, rfl⟩
      -- met
    · have h7' := of_decide_eq_false h7
      refine W.skip ?_
      -- join 39.meet/2
      first
      | exact ⟨(), ⟨by rw [hM, if_pos (by omega)]; rfl, rfl, rfl, rfl, rfl, trivial⟩, rfl⟩
      | exact ⟨(), ⟨by rw [hM, if_neg (by omega)]; rfl, rfl, rfl, rfl, rfl, trivial⟩, rfl⟩
      -- met
  subst hR
  refine W.seq ?_
  refine W.reg ?_ -- 7
  refine WL.p (.as rfl) rfl <| WL.nil <| ?_
  refine W.seq ?_
  refine W.seq ?_
  refine W.reg ?_ -- 8
  refine WL.p (.as rfl) rfl <| WL.nil <| ?_
  refine W.block ?_
  -- loop 1: writes [4, 8, 9, 10, 11, 12, 13, 14, 15, 16, 17, 18, 19, 20, 21, 22, 23, 24, 25, 26, 27, 40, 41, 42, 43, 44, 45, 46, 47, 48, 49, 50, 51, 52, 53, 54, 55, 56, 57, 58, 59, 60, 61, 62, 63, 64, 65, 66, 67, 68, 69, 70, 71, 72, 73, 74, 75, 76, 77, 78, 79, 80, 81, 82, 83, 84, 85, 86, 87, 88, 89, 90, 91, 92, 93, 94, 95, 96, 97, 98, 99, 100, 101, 102, 103, 104, 105, 106, 107, 108, 109, 110, 111, 112, 113, 114, 115, 116, 117, 118, 119, 120, 121, 122, 123, 124, 125, 126, 127, 128, 129, 130, 131, 132, 133, 134, 135, 136, 137, 138, 139, 140, 141, 142, 143, 144, 145, 146, 147, 148, 149, 150, 151, 152, 153, 154, 155, 156, 157, 158, 159, 160, 161, 162, 163, 164, 165, 166, 167, 168, 169, 170, 171, 172, 173, 174, 175, 176, 177, 178, 179, 180, 181, 182, 183, 184, 185, 186, 187, 188, 189, 190, 191, 192, 193, 194, 195, 196, 197, 198, 199, 200, 201, 202, 203, 204, 205, 206, 207, 208, 209, 210, 211, 212, 213, 214, 215, 216, 217, 218, 219, 220, 221, 222, 223, 224, 225, 226, 227, 228, 229, 230, 231, 232, 233, 234, 235, 236, 237, 238, 239, 240, 241, 242, 243, 244, 245, 246, 247, 248, 249, 250, 251, 252, 253, 254, 255, 256, 257, 258, 259, 260, 261, 262, 263, 264, 265, 266, 267, 268, 269, 270, 271, 272, 273, 274, 275, 276, 277, 278, 279, 280, 281, 282, 283, 284, 285, 286, 287, 288, 289, 290, 291, 292, 293, 294, 295, 296, 297, 298, 299, 300, 301, 302, 303, 304, 305, 306, 307, 308, 309, 310, 311, 312, 313, 314, 315, 316, 317, 318, 319, 320, 321, 322, 323, 324, 325, 326, 327, 328, 329, 330, 331, 332, 333, 334, 335, 336, 337, 338, 339, 340, 341, 342, 343, 344, 345, 346, 347, 348, 349, 350, 351, 352, 353, 354, 355, 356, 357, 358, 359, 360, 361, 362, 363]; reads from outside [0, 1, 5, 6, 7, 8, 9]
  refine W.loop (α := Nat × Value × Value × List ObjV) (fun t => [(0, .int .i64 M), (1, .slice p l.length c), (5, .int .i64 12), (6, .int .i64 13), (7, .pointer (some ⟨b, 0, none⟩)), (8, t.2.2.1), (9, .int .i64 (t.1 : Int))]) (fun t w' => Below w.heap.size w w' ∧ StackOk w' b t.2.1 M 12 13 t.2.2.2 ∧ Mod w' b t.2.1 t.2.2.1 t.2.2.2 ∧ t.2.2.2.length ≤ 100 * t.1 ∧ t.1 ≤ l.length) (fun t => l.length - t.1) ((0, .slice none 0 0, .slice none 0 0, [])) ⟨rfl, rfl, rfl, rfl, rfl, rfl, rfl, trivial⟩ (⟨hB6, ⟨hk5, ho4⟩, ⟨_, _, rfl, RowM.nil _, .z, fun h0 => absurd h0 (by simp)⟩, by simp, Nat.zero_le _⟩) (fun t w1 hR => ?_)
  obtain ⟨s, v, mv, L⟩ := t
  obtain ⟨hT, hs, hm, hL, hsl⟩ := hR
  simp only at hs hm hL hsl ⊢
  have hB1 := Below.refl w1.heap.size w1
  have hbl := hs.blk.lt
  have ha := hrow.below hT (fun h0 => hrow.lt h0)
  refine W.seq ?_
  refine W.cutB 47 (decide (s < l.length ∧ s < 60)) ?_ ?_
  · skip
    refine W.reg ?_ -- 9
    refine WL.p (.mv rfl) rfl <| WL.p (.mv rfl) rfl <| WL.p (.lenS Try.underlying34 rfl) rfl <| WL.p (.lss rfl rfl) rfl <| WL.p (.mv rfl) rfl <| WL.gd rfl rfl rfl (fun g8 => ?_) (fun g8 => ?_)
    · have g8' := of_decide_eq_true g8
      refine WL.p (.mv rfl) rfl <| WL.gy rfl rfl rfl g8 <| WL.p (.lss rfl rfl) rfl <| WL.p (.pkT rfl g8 rfl) rfl <| WL.nil <| ?_
      exact ⟨⟨lk_b rfl (by (apply Bool.eq_iff_iff.2; (try simp) <;> omega)), by repeat (first | exact Le.refl _ | refine Le.cons rfl ?_)⟩, rfl⟩
    · have g8' := of_decide_eq_false g8
      refine WL.gn rfl rfl rfl g8 <| WL.p (.pkF rfl g8 rfl) rfl <| WL.nil <| ?_
      exact ⟨⟨lk_b rfl (by (apply Bool.eq_iff_iff.2; (try simp) <;> omega)), by repeat (first | exact Le.refl _ | refine Le.cons rfl ?_)⟩, rfl⟩
  refine W.cond rfl (fun h9 => ?_) (fun h9 => ?_) -- slot 47
  · have h9' := of_decide_eq_true h9
    refine W.skip ?_
    refine W.seq ?_
    refine W.block ?_
    refine W.seq ?_
    refine W.reg ?_ -- 11
    refine WL.p (.mv rfl) rfl <| WL.p (.mv rfl) rfl <| WL.p (.ixm Try.underlying34 Try.sizeOf37 rfl rfl (ha.isp (by omega)) (s) (rfl) (by omega)) rfl <| WL.r (Rd.ldS Try.underlying37 rfl isz37 ha (s) (by omega) rfl) rfl <| WL.alloc Try.zeroValue37 rfl (fun b10 wb10 eb10 hkb10 hub10 hsb10 => ?_)
    have hvl12 := fun h0 => eb10 ▸ ha.lt h0
    have hv11 := RowM.upd ha hub10 (fun h0 => Nat.ne_of_lt (hvl12 h0))
    have hB13 := Upd.below hB1 (by rw [eb10]; exact hB1.size) hub10
    have hgeb10 : w1.heap.size ≤ b10 := by rw [eb10]; exact hB1.size
    refine WL.stL rfl rfl hkb10 isz37 rfl rfl (fun w14 hkw14 huw14 hsw14 => ?_)
    have hv15 := RowM.upd hv11 huw14 (fun h0 => Nat.ne_of_lt (hvl12 h0))
    have hB16 := Upd.below hB13 (by omega) huw14
    refine WL.nil <| ?_
    refine W.seq ?_
    obtain ⟨x, hx⟩ : ∃ x, x = l[s]'(by omega) := ⟨_, rfl⟩
    have hokx : ActOk w x := by rw [hx]; exact hall _ (List.getElem_mem _)
    have hokc := (hokx.below hT).below hB16
    have hxl := hokc.row_fList
    have hxk := hokc.row_fKinds
    have hwN := wf64 hokx.wf_fN
    have hwJ := wf64 hokx.wf_fJ
    have hkx : Blk w14 b10 (actV x).toArray 37 := by rw [hx]; exact hkw14
    obtain ⟨pm, cm, rfl, hrm1, hsm, -⟩ := hm.ex
    have hrm := hrm1.below hB16 (fun h0 => hrm1.lt h0)
    refine W.cutB 63 (decide (100 < x.fList.length ∨ 100 < x.fKinds.length)) ?_ ?_
    · skip
      refine W.reg ?_ -- 12
      refine WL.p (.fa Try.underlying37 rfl Try.sizeOf25 (by decide) rfl) rfl <| WL.r (Rd.ld (Try.isAgg25 _) rfl hkx rfl) rfl <| WL.p (.lenS Try.underlying25 rfl) rfl <| WL.p (.gtr rfl rfl) rfl <| WL.p (.mv rfl) rfl <| WL.gd rfl rfl rfl (fun g17 => ?_) (fun g17 => ?_)
      · have g17' := of_decide_eq_false g17
        refine WL.p (.fa Try.underlying37 rfl Try.sizeOf35 (by decide) rfl) rfl <| WL.gy rfl rfl rfl g17 <| WL.r (Rd.ld (Try.isAgg35 _) rfl hkx rfl) rfl <| WL.gy rfl rfl rfl g17 <| WL.p (.lenS Try.underlying35 rfl) rfl <| WL.gy rfl rfl rfl g17 <| WL.p (.gtr rfl rfl) rfl <| WL.p (.pkF rfl g17 rfl) rfl <| WL.nil <| ?_
        exact ⟨⟨lk_b rfl (by (apply Bool.eq_iff_iff.2; (try simp) <;> omega)), by repeat (first | exact Le.refl _ | refine Le.cons rfl ?_)⟩, rfl⟩
      · have g17' := of_decide_eq_true g17
        refine WL.gn rfl rfl rfl g17 <| WL.gn rfl rfl rfl g17 <| WL.gn rfl rfl rfl g17 <| WL.p (.pkT rfl g17 rfl) rfl <| WL.nil <| ?_
        exact ⟨⟨lk_b rfl (by (apply Bool.eq_iff_iff.2; (try simp) <;> omega)), by repeat (first | exact Le.refl _ | refine Le.cons rfl ?_)⟩, rfl⟩
    refine W.cond rfl (fun h18 => ?_) (fun h18 => ?_) -- slot 63
    · have h18' := of_decide_eq_true h18
      refine W.exit ?_ -- 1
      refine W.reg ?_ -- 10
      refine WL.p (.mv rfl) rfl <| WL.p (.iis (((s + 1 : Nat) : Int)) (.add rfl rfl (i64w (by omega))) (by omega)) rfl <| WL.p (.as rfl) rfl <| WL.nil <| ?_
      first
      | exact ⟨(s + 1, v9, .slice pm9 L9.length cm9, L9), ⟨rfl, rfl, rfl, rfl, rfl, rfl, rfl, trivial⟩, ⟨Below.trans hJ.T (hB16.mono hJ.T.size), hJs.below hB16, hJm.below hB16, by ((try simp only) <;> omega), by ((try simp only) <;> omega)⟩, by ((try simp only) <;> omega)⟩
      | exact ⟨(s + 1, v, .slice pm L.length cm, L), ⟨rfl, rfl, rfl, rfl, rfl, rfl, rfl, trivial⟩, ⟨Below.trans hT (hB16.mono hT.size), hs.below hB16, hm.below hB16, by ((try simp only) <;> omega), by ((try simp only) <;> omega)⟩, by ((try simp only) <;> omega)⟩
    · have h18' := of_decide_eq_false h18
      refine W.skip ?_
      refine W.seq ?_
      refine W.reg ?_ -- 13
      refine WL.p (.mv rfl) rfl <| WL.p (.lenS Try.underlying25 rfl) rfl <| WL.p (.as rfl) rfl <| WL.nil <| ?_
      refine W.seq ?_
      refine W.reg ?_ -- 14
      refine WL.p (.as rfl) rfl <| WL.p (.as rfl) rfl <| WL.nil <| ?_
      refine W.seq ?_
      refine W.reg ?_ -- 15
      refine WL.p (.as rfl) rfl <| WL.p (.as rfl) rfl <| WL.nil <| ?_
      refine W.cut (α := JS) (fun t => [(0, .int .i64 M), (1, .slice p l.length c), (5, .int .i64 12), (6, .int .i64 13), (7, .pointer (some ⟨b, 0, none⟩)), (8, t.m), (9, .int .i64 (s : Int)), (12, .int .i64 t.e), (13, .int .i64 t.want), (14, t.got), (15, t.list)]) (fun t w' => JOk w w' b M (100 * (s + 1)) t) ?_ (fun t w1 hR => ?_)
      · skip
        refine W.seq ?_
        refine W.reg ?_ -- 16
        refine WL.p (.fa Try.underlying37 rfl Try.sizeOf3 (by decide) rfl) rfl <| WL.r (Rd.ld (Try.isAgg3 _) rfl hkx rfl) rfl <| WL.nil <| ?_
        refine W.block ?_
        refine W.seq ?_
        refine W.reg ?_ -- 17
        refine WL.p (.eql rfl rfl) rfl <| WL.p (.as rfl) rfl <| WL.nil <| ?_
        refine W.cond rfl (fun h19 => ?_) (fun h19 => ?_) -- slot 68
        · have h19' := of_decide_eq_true h19
          refine W.seq ?_
          refine W.reg ?_ -- 18
          refine WL.p (.mv rfl) rfl <| WL.bsl0 Try.underlying25 Try.sizeOf39 rfl (fun b20 wb20 eb20 hob20 hub20 hsb20 => ?_)
          have hl22 : b10 < b20 := by rw [eb20]; exact hkx.lt
          have hk21 := hkx.upd hub20 (Nat.ne_of_lt hl22)
          have hvl24 := fun h0 => eb20 ▸ hxl.lt h0
          have hv23 := RowM.upd hxl hub20 (fun h0 => Nat.ne_of_lt (hvl24 h0))
          have hvl26 := fun h0 => eb20 ▸ hxk.lt h0
          have hv25 := RowAt.upd hxk hub20 (fun h0 => Nat.ne_of_lt (hvl26 h0))
          have hvl28 := fun h0 => eb20 ▸ hrm.lt h0
          have hv27 := RowM.upd hrm hub20 (fun h0 => Nat.ne_of_lt (hvl28 h0))
          have hB29 := Upd.below hB16 (by rw [eb20]; exact hB16.size) hub20
          have hgeb20 : w1.heap.size ≤ b20 := by rw [eb20]; exact hB16.size
          have hob20 := OwnM.of (L := objL) (l := []) (hob20 b20 (Nat.le_refl _))
          have hleb20 : b20 ≤ wb20.heap.size := by omega
          refine WL.p (.fa Try.underlying37 rfl Try.sizeOf25 (by decide) rfl) rfl <| WL.r (Rd.ld (Try.isAgg25 _) rfl hk21 rfl) rfl <| WL.appM Try.underlying25 inf39 rfl rfl rfl hob20 rfl hv23 (by simp only [List.length_nil, List.length_append]; omega) (hleb20) rfl (hokx.sl_fList.nil) (fun v30 w31 how31 hbw31 hgw31 hfw31 => ?_)
          have hk32 := hk21.below hbw31 (by omega)
          have hv33 := RowM.below hv23 hbw31 hvl24
          have hv34 := RowAt.below hv25 hbw31 hvl26
          have hv35 := RowM.below hv27 hbw31 hvl28
          have hB36 := Below.trans hB29 (hbw31.mono (hgeb20))
          have hle37 := Nat.le_trans hleb20 hbw31.size
          refine WL.call hb14 rfl rfl ((stk_Push' b v M 12 13 L _ x.fList _ (hs.below hB36) how31 hM0 (by omega))) (fun r w38 hw38 => ?_)
          obtain ⟨rfl, v2, hs2, hk2⟩ := hw38
          obtain ⟨hT3, hm3, hc3⟩ := act_arm hT hB36 hs hm hb0 hk2
          have hkc := hc3 _ _ _ hgeb10 hk32
          have hB3 := Below.refl w38.heap.size w38
          have hok3 := (hokx.below hT3)
          have hxl3 := hok3.row_fList
          have hxk3 := hok3.row_fKinds
          obtain ⟨hrm3, hmb3⟩ := hm3.at
          refine WL.p (.as rfl) rfl <| WL.nil <| ?_
          refine W.seq ?_
          refine W.reg ?_ -- 19
          refine WL.p (.fa Try.underlying37 rfl Try.sizeOf25 (by decide) rfl) rfl <| WL.r (Rd.ld (Try.isAgg25 _) rfl hkc rfl) rfl <| WL.p (.lenS Try.underlying25 rfl) rfl <| WL.p (.mv rfl) rfl <| WL.p (.mv rfl) rfl <| WL.p (.sub rfl rfl (i64w (by omega))) rfl <| WL.p (.gtr rfl rfl) rfl <| WL.nil <| ?_
          refine W.cond rfl (fun h39 => ?_) (fun h39 => ?_) -- slot 82
          · have h39' := of_decide_eq_true h39
            have hpe : pushE M 12 L x.fList = 12 := by unfold pushE; rw [if_pos (by omega)]
            have hpl : pushL M L x.fList = L := by unfold pushL; rw [if_pos (by omega)]
            rw [hpl] at hs2
            refine W.reg ?_ -- 20
            refine WL.p (.mv rfl) rfl <| WL.p (.as rfl) rfl <| WL.nil <| ?_
            -- join b2.meet/1
            exact ⟨⟨_, 12, _, _, _, v2, L⟩, ⟨rfl, rfl, rfl, rfl, rfl, rfl, rfl, rfl, rfl, rfl, rfl, trivial⟩, ⟨Below.trans hT3 (hB3.mono hT3.size), hs2.below hB3, hm3.below hB3, by ((try simp only) <;> omega), hpe, SameSl.nil _⟩⟩
            -- met
          · have h39' := of_decide_eq_false h39
            have hpe : pushE M 12 L x.fList = 0 := by unfold pushE; rw [if_neg (by omega)]
            have hpl : pushL M L x.fList = L ++ x.fList := by unfold pushL; rw [if_neg (by omega)]
            rw [hpl] at hs2
            refine W.regY 7 rfl mixed (fun w40 dw40 => ?_) -- 21
            have hk41 := hkc.drew dw40
            have hv42 := hxl3.drew dw40
            have hv43 := hxk3.drew dw40
            have hv44 := hrm3.drew dw40
            have hB45 := Drew.below hB3 dw40
            refine WY.take 1 rfl (by kernel_rfl) (by kernel_rfl) (by kernel_rfl) (fun c f w h => pn_post h) (.mv rfl) rfl ?_
            refine WY.take 3 rfl (by kernel_rfl) (by kernel_rfl) (by kernel_rfl) (fun c f w h => pn_post h) (.fa Try.underlying37 rfl Try.sizeOf25 (by decide) rfl) rfl ?_
            refine WY.br [0, 4] (by kernel_rfl) rfl ⟨⟨_, rfl, ?_⟩, ⟨_, rfl, ?_⟩, trivial⟩
            · skip
              refine WL.bsl0 Try.underlying25 Try.sizeOf39 rfl (fun b46 wb46 eb46 hob46 hub46 hsb46 => ?_)
              have hl48 : b10 < b46 := by rw [eb46]; exact hk41.lt
              have hk47 := hk41.upd hub46 (Nat.ne_of_lt hl48)
              have hvl50 := fun h0 => eb46 ▸ hv42.lt h0
              have hv49 := RowM.upd hv42 hub46 (fun h0 => Nat.ne_of_lt (hvl50 h0))
              have hvl52 := fun h0 => eb46 ▸ hv43.lt h0
              have hv51 := RowAt.upd hv43 hub46 (fun h0 => Nat.ne_of_lt (hvl52 h0))
              have hvl54 := fun h0 => eb46 ▸ hv44.lt h0
              have hv53 := RowM.upd hv44 hub46 (fun h0 => Nat.ne_of_lt (hvl54 h0))
              have hB55 := Upd.below hB45 (by rw [eb46]; exact hB45.size) hub46
              have hgeb46 : w38.heap.size ≤ b46 := by rw [eb46]; exact hB45.size
              have hob46 := OwnM.of (L := objL) (l := []) (hob46 b46 (Nat.le_refl _))
              have hleb46 : b46 ≤ wb46.heap.size := by omega
              refine WL.nil <| ?_
              refine WY.br [2, 4] (by kernel_rfl) rfl ⟨⟨_, rfl, ?_⟩, ⟨_, rfl, ?_⟩, trivial⟩
              · skip
                refine WL.appM Try.underlying25 inf39 rfl rfl rfl hob46 rfl hv53 (by simp only [List.length_nil, List.length_append]; omega) (hleb46) rfl (hsm.nil) (fun v56 w57 how57 hbw57 hgw57 hfw57 => ?_)
                have hk58 := hk47.below hbw57 (by omega)
                have hv59 := RowM.below hv49 hbw57 hvl50
                have hv60 := RowAt.below hv51 hbw57 hvl52
                have hv61 := RowM.below hv53 hbw57 hvl54
                have hB62 := Below.trans hB55 (hbw57.mono (hgeb46))
                have hle63 := Nat.le_trans hleb46 hbw57.size
                refine WL.nil <| ?_
                refine WY.br [4] (by kernel_rfl) rfl ⟨⟨_, rfl, ?_⟩, trivial⟩
                · skip
                  refine WL.r (Rd.ld (Try.isAgg25 _) rfl hk58 rfl) rfl <| WL.nil <| ?_
                  refine WY.br [5] (by kernel_rfl) rfl ⟨⟨_, rfl, ?_⟩, trivial⟩
                  · skip
                    refine WL.appM Try.underlying25 inf39 rfl rfl rfl how57 rfl hv59 (by simp only [List.length_nil, List.length_append]; omega) (hle63) rfl (hokx.sl_fList.nil) (fun v64 w65 how65 hbw65 hgw65 hfw65 => ?_)
                    have hk66 := hk58.below hbw65 (by omega)
                    have hv67 := RowM.below hv59 hbw65 hvl50
                    have hv68 := RowAt.below hv60 hbw65 hvl52
                    have hv69 := RowM.below hv61 hbw65 hvl54
                    have hB70 := Below.trans hB62 (hbw65.mono (hgeb46))
                    have hle71 := Nat.le_trans hle63 hbw65.size
                    refine WL.nil <| ?_
                    refine WY.take 6 rfl (by kernel_rfl) (by kernel_rfl) (by kernel_rfl) (fun c f w h => pn_post h) (.as rfl) rfl ?_
                    refine WY.done (by kernel_rfl) ?_
                    -- join b2.meet/2
                    exact ⟨⟨_, 0, _, _, _, v2, L ++ x.fList⟩, ⟨rfl, rfl, rfl, rfl, rfl, rfl, rfl, rfl, rfl, rfl, rfl, trivial⟩, ⟨Below.trans hT3 (hB70.mono hT3.size), hs2.below hB70, Mod.own hs2 (how65) (by omega), by simp only [List.length_append]; omega, hpe, SameSl.nil _⟩⟩
                    -- met
              · skip
                refine WL.r (Rd.ld (Try.isAgg25 _) rfl hk47 rfl) rfl <| WL.nil <| ?_
                refine WY.br [2] (by kernel_rfl) rfl ⟨⟨_, rfl, ?_⟩, trivial⟩
                · skip
                  refine WL.appM Try.underlying25 inf39 rfl rfl rfl hob46 rfl hv53 (by simp only [List.length_nil, List.length_append]; omega) (hleb46) rfl (hsm.nil) (fun v72 w73 how73 hbw73 hgw73 hfw73 => ?_)
                  have hk74 := hk47.below hbw73 (by omega)
                  have hv75 := RowM.below hv49 hbw73 hvl50
                  have hv76 := RowAt.below hv51 hbw73 hvl52
                  have hv77 := RowM.below hv53 hbw73 hvl54
                  have hB78 := Below.trans hB55 (hbw73.mono (hgeb46))
                  have hle79 := Nat.le_trans hleb46 hbw73.size
                  refine WL.nil <| ?_
                  refine WY.br [5] (by kernel_rfl) rfl ⟨⟨_, rfl, ?_⟩, trivial⟩
                  · skip
                    refine WL.appM Try.underlying25 inf39 rfl rfl rfl how73 rfl hv75 (by simp only [List.length_nil, List.length_append]; omega) (hle79) rfl (hokx.sl_fList.nil) (fun v80 w81 how81 hbw81 hgw81 hfw81 => ?_)
                    have hk82 := hk74.below hbw81 (by omega)
                    have hv83 := RowM.below hv75 hbw81 hvl50
                    have hv84 := RowAt.below hv76 hbw81 hvl52
                    have hv85 := RowM.below hv77 hbw81 hvl54
                    have hB86 := Below.trans hB78 (hbw81.mono (hgeb46))
                    have hle87 := Nat.le_trans hle79 hbw81.size
                    refine WL.nil <| ?_
                    refine WY.take 6 rfl (by kernel_rfl) (by kernel_rfl) (by kernel_rfl) (fun c f w h => pn_post h) (.as rfl) rfl ?_
                    refine WY.done (by kernel_rfl) ?_
                    -- join b2.meet/3
                    exact ⟨⟨_, 0, _, _, _, v2, L ++ x.fList⟩, ⟨rfl, rfl, rfl, rfl, rfl, rfl, rfl, rfl, rfl, rfl, rfl, trivial⟩, ⟨Below.trans hT3 (hB86.mono hT3.size), hs2.below hB86, Mod.own hs2 (how81) (by omega), by simp only [List.length_append]; omega, hpe, SameSl.nil _⟩⟩
                    -- met
            · skip
              refine WL.r (Rd.ld (Try.isAgg25 _) rfl hk41 rfl) rfl <| WL.nil <| ?_
              refine WY.br [0] (by kernel_rfl) rfl ⟨⟨_, rfl, ?_⟩, trivial⟩
              · skip
                refine WL.bsl0 Try.underlying25 Try.sizeOf39 rfl (fun b88 wb88 eb88 hob88 hub88 hsb88 => ?_)
                have hl90 : b10 < b88 := by rw [eb88]; exact hk41.lt
                have hk89 := hk41.upd hub88 (Nat.ne_of_lt hl90)
                have hvl92 := fun h0 => eb88 ▸ hv42.lt h0
                have hv91 := RowM.upd hv42 hub88 (fun h0 => Nat.ne_of_lt (hvl92 h0))
                have hvl94 := fun h0 => eb88 ▸ hv43.lt h0
                have hv93 := RowAt.upd hv43 hub88 (fun h0 => Nat.ne_of_lt (hvl94 h0))
                have hvl96 := fun h0 => eb88 ▸ hv44.lt h0
                have hv95 := RowM.upd hv44 hub88 (fun h0 => Nat.ne_of_lt (hvl96 h0))
                have hB97 := Upd.below hB45 (by rw [eb88]; exact hB45.size) hub88
                have hgeb88 : w38.heap.size ≤ b88 := by rw [eb88]; exact hB45.size
                have hob88 := OwnM.of (L := objL) (l := []) (hob88 b88 (Nat.le_refl _))
                have hleb88 : b88 ≤ wb88.heap.size := by omega
                refine WL.nil <| ?_
                refine WY.br [2] (by kernel_rfl) rfl ⟨⟨_, rfl, ?_⟩, trivial⟩
                · skip
                  refine WL.appM Try.underlying25 inf39 rfl rfl rfl hob88 rfl hv95 (by simp only [List.length_nil, List.length_append]; omega) (hleb88) rfl (hsm.nil) (fun v98 w99 how99 hbw99 hgw99 hfw99 => ?_)
                  have hk100 := hk89.below hbw99 (by omega)
                  have hv101 := RowM.below hv91 hbw99 hvl92
                  have hv102 := RowAt.below hv93 hbw99 hvl94
                  have hv103 := RowM.below hv95 hbw99 hvl96
                  have hB104 := Below.trans hB97 (hbw99.mono (hgeb88))
                  have hle105 := Nat.le_trans hleb88 hbw99.size
                  refine WL.nil <| ?_
                  refine WY.br [5] (by kernel_rfl) rfl ⟨⟨_, rfl, ?_⟩, trivial⟩
                  · skip
                    refine WL.appM Try.underlying25 inf39 rfl rfl rfl how99 rfl hv101 (by simp only [List.length_nil, List.length_append]; omega) (hle105) rfl (hokx.sl_fList.nil) (fun v106 w107 how107 hbw107 hgw107 hfw107 => ?_)
                    have hk108 := hk100.below hbw107 (by omega)
                    have hv109 := RowM.below hv101 hbw107 hvl92
                    have hv110 := RowAt.below hv102 hbw107 hvl94
                    have hv111 := RowM.below hv103 hbw107 hvl96
                    have hB112 := Below.trans hB104 (hbw107.mono (hgeb88))
                    have hle113 := Nat.le_trans hle105 hbw107.size
                    refine WL.nil <| ?_
                    refine WY.take 6 rfl (by kernel_rfl) (by kernel_rfl) (by kernel_rfl) (fun c f w h => pn_post h) (.as rfl) rfl ?_
                    refine WY.done (by kernel_rfl) ?_
                    -- join b2.meet/4
                    exact ⟨⟨_, 0, _, _, _, v2, L ++ x.fList⟩, ⟨rfl, rfl, rfl, rfl, rfl, rfl, rfl, rfl, rfl, rfl, rfl, trivial⟩, ⟨Below.trans hT3 (hB112.mono hT3.size), hs2.below hB112, Mod.own hs2 (how107) (by omega), by simp only [List.length_append]; omega, hpe, SameSl.nil _⟩⟩
                    -- met
        · have h19' := of_decide_eq_false h19
          refine W.cut (α := Unit) (fun t => [(0, .int .i64 M), (1, .slice p l.length c), (5, .int .i64 12), (6, .int .i64 13), (7, .pointer (some ⟨b, 0, none⟩)), (8, .slice pm L.length cm), (9, .int .i64 (s : Int)), (10, .pointer (some ⟨b10, 0, none⟩)), (11, .int .i64 (L.length : Int)), (12, .int .i64 0), (13, .int .i64 0), (14, .slice none 0 0), (15, .slice none 0 0), (67, .int .i64 x.fDo), (90, .bool (decide (x.fDo = 2 ∨ x.fDo = 3)))]) (fun t w' => w14 = w') ?_ (fun t w1 hR => ?_)
          · skip
            refine W.seq ?_
            refine W.reg ?_ -- 22
            refine WL.p (.eql rfl rfl) rfl <| WL.p (.as rfl) rfl <| WL.nil <| ?_
            refine W.cond rfl (fun h114 => ?_) (fun h114 => ?_) -- slot 90
            · have h114' := of_decide_eq_true h114
              refine W.skip ?_
              -- join 90.meet/1
              exact ⟨(), ⟨rfl, rfl, rfl, rfl, rfl, rfl, rfl, rfl, rfl, rfl, rfl, rfl, rfl, rfl, lk_b rfl (by (apply Bool.eq_iff_iff.2; (try simp) <;> omega)), trivial⟩, rfl⟩
              -- met
            · have h114' := of_decide_eq_false h114
              refine W.reg ?_ -- 23
              refine WL.p (.eql rfl rfl) rfl <| WL.p (.as rfl) rfl <| WL.nil <| ?_
              -- join 90.meet/2
              exact ⟨(), ⟨rfl, rfl, rfl, rfl, rfl, rfl, rfl, rfl, rfl, rfl, rfl, rfl, rfl, rfl, lk_b rfl (by (apply Bool.eq_iff_iff.2; (try simp) <;> omega)), trivial⟩, rfl⟩
              -- met
          obtain rfl := hR
          refine W.cond rfl (fun h115 => ?_) (fun h115 => ?_) -- slot 90
          · have h115' := of_decide_eq_true h115
            refine W.seq ?_
            refine W.reg ?_ -- 24
            refine WL.p (.fa Try.underlying37 rfl Try.sizeOf3 (by decide) rfl) rfl <| WL.r (Rd.ld (Try.isAgg3 _) rfl hkx rfl) rfl <| WL.p (.as rfl) rfl <| WL.nil <| ?_
            refine W.seq ?_
            refine W.seq ?_
            refine W.reg ?_ -- 25
            refine WL.p (.fa Try.underlying37 rfl Try.sizeOf3 (by decide) rfl) rfl <| WL.r (Rd.ld (Try.isAgg3 _) rfl hkx rfl) rfl <| WL.p (.eql rfl rfl) rfl <| WL.nil <| ?_
            refine W.cond rfl (fun h116 => ?_) (fun h116 => ?_) -- slot 97
            · have h116' := of_decide_eq_true h116
              refine W.seq ?_
              obtain ⟨kk, hkk⟩ : ∃ kk, kk = L.length - 1 := ⟨_, rfl⟩
              refine W.reg ?_ -- 26
              refine WL.p (.as rfl) rfl <| WL.nil <| ?_
              refine W.seq ?_
              refine W.reg ?_ -- 27
              refine WL.alloc Try.zeroValue39 rfl (fun b117 wb117 eb117 hkb117 hub117 hsb117 => ?_)
              have hl119 : b10 < b117 := by rw [eb117]; exact hkx.lt
              have hk118 := hkx.upd hub117 (Nat.ne_of_lt hl119)
              have hvl121 := fun h0 => eb117 ▸ hxl.lt h0
              have hv120 := RowM.upd hxl hub117 (fun h0 => Nat.ne_of_lt (hvl121 h0))
              have hvl123 := fun h0 => eb117 ▸ hxk.lt h0
              have hv122 := RowAt.upd hxk hub117 (fun h0 => Nat.ne_of_lt (hvl123 h0))
              have hvl125 := fun h0 => eb117 ▸ hrm.lt h0
              have hv124 := RowM.upd hrm hub117 (fun h0 => Nat.ne_of_lt (hvl125 h0))
              have hB126 := Upd.below hB16 (by rw [eb117]; exact hB16.size) hub117
              have hgeb117 : w1.heap.size ≤ b117 := by rw [eb117]; exact hB16.size
              refine WL.nil <| ?_
              refine W.seq ?_
              refine W.reg ?_ -- 28
              refine WL.p (.mv rfl) rfl <| WL.call hb18 rfl rfl ((stk_Pop b v M 12 13 L _ (hs.below hB126) (by omega) (by decide))) (fun r w127 hw127 => ?_)
              obtain ⟨v2, rfl, hs2, hk2⟩ := hw127
              have hlt17 := (hkb117).lt
              obtain ⟨hT3, hm3, hc3⟩ := act_arm hT hB126 hs hm hb0 hk2
              have hkc := hc3 _ _ _ hgeb10 hk118
              have hB3 := Below.refl w127.heap.size w127
              have hok3 := (hokx.below hT3)
              have hxl3 := hok3.row_fList
              have hxk3 := hok3.row_fKinds
              obtain ⟨hrm3, hmb3⟩ := hm3.at
              have hkd := hc3 _ _ _ hgeb117 hkb117
              refine WL.p (.mv rfl) rfl <| WL.p (.ext rfl rfl) rfl <| WL.p (.ext rfl rfl) rfl <| WL.stL rfl rfl hkd isz39 rfl rfl (fun w4 hk4 hu4 hsz4 => ?_)
              obtain ⟨hT4, hs4, hm4⟩ := act_store hT hs hm hgeb117 hlt17 hk2 hT3 hs2 hm3 hu4
              have hT3 := hT4
              have hs2 := hs4
              have hm3 := hm4
              have hB4 := Below.refl w4.heap.size w4
              have hkc4 := (hkc).upd hu4 (by omega)
              have hrm4 := hm4.at.1
              refine WL.p (.as rfl) rfl <| WL.nil <| ?_
              refine W.reg ?_ -- 29
              refine WL.r (Rd.ldA rfl hk4 Try.underlying39 rfl isz39) rfl <| WL.bslM (L := objL) (ps := _) ([(takeT 1 L 13).getD 0 ⟨0, false, 0, 0, [], 0, 0, 0⟩]) Try.underlying25 Try.sizeOf39 Try.zeroValue39 rfl rfl rfl rfl rfl (by first | rfl | decide) rfl rfl (fun b129 wb129 eb129 hob129 hub129 hsb129 => ?_)
              have hl131 : b10 < b129 := by rw [eb129]; exact hkc4.lt
              have hk130 := hkc4.upd hub129 (Nat.ne_of_lt hl131)
              have hl133 : b117 < b129 := by rw [eb129]; exact hk4.lt
              have hk132 := hk4.upd hub129 (Nat.ne_of_lt hl133)
              have hvl135 := fun h0 => eb129 ▸ hrm4.lt h0
              have hv134 := RowM.upd hrm4 hub129 (fun h0 => Nat.ne_of_lt (hvl135 h0))
              have hB136 := Upd.below hB4 (by rw [eb129]; exact hB4.size) hub129
              have hgeb129 : w4.heap.size ≤ b129 := by rw [eb129]; exact hB4.size
              have hleb129 : b129 ≤ wb129.heap.size := by omega
              refine WL.p (.as rfl) rfl <| WL.nil <| ?_
              refine W.seq ?_
              refine W.block ?_
              refine W.seq ?_
              refine W.reg ?_ -- 33
              refine WL.p (.mv rfl) rfl <| WL.p (.lss rfl rfl) rfl <| WL.p (.as rfl) rfl <| WL.nil <| ?_
              refine W.cond rfl (fun h137 => ?_) (fun h137 => ?_) -- slot 121
              · have h137' := of_decide_eq_true h137
                refine W.reg ?_ -- 34
                refine WL.p (.as rfl) rfl <| WL.nil <| ?_
                refine W.seq ?_
                refine W.reg ?_ -- 37
                refine WL.p (.mv rfl) rfl <| WL.p (.neq rfl rfl) rfl <| WL.p (.mv rfl) rfl <| WL.gd rfl rfl rfl (fun g138 => ?_) (fun g138 => ?_)
                · have g138' := ndT g138
                  refine WL.p (.fa Try.underlying37 rfl Try.sizeOf3 (by decide) rfl) rfl <| WL.gy rfl rfl rfl g138 <| WL.r (Rd.ld (Try.isAgg3 _) rfl hk130 rfl) rfl <| WL.gy rfl rfl rfl g138 <| WL.p (.eql rfl rfl) rfl <| WL.p (.pkT rfl g138 rfl) rfl <| WL.nil <| ?_
                  refine W.cond rfl (fun h139 => ?_) (fun h139 => ?_) -- slot 135
                  · have h139' := of_decide_eq_true h139
                    refine W.reg ?_ -- 38
                    refine WL.p (.buildL (ps := _) blt39 rfl rfl rfl (by simp only [put1, List.map, List.zip, List.zipWith] <;> rfl)) rfl ?_
                    refine WL.bslM (L := objL) (ps := _) ([objZ]) Try.underlying25 Try.sizeOf39 Try.zeroValue39 rfl rfl rfl rfl rfl (by first | rfl | decide) rfl rfl (fun b140 wb140 eb140 hob140 hub140 hsb140 => ?_)
                    have hle142 := Nat.le_trans hleb129 hub140.size
                    have ho141 := OwnM.new hob129 eb140 hub140
                    have hl144 : b10 < b140 := by rw [eb140]; exact hk130.lt
                    have hk143 := hk130.upd hub140 (Nat.ne_of_lt hl144)
                    have hl146 : b117 < b140 := by rw [eb140]; exact hk132.lt
                    have hk145 := hk132.upd hub140 (Nat.ne_of_lt hl146)
                    have hvl148 := fun h0 => eb140 ▸ hv134.lt h0
                    have hv147 := RowM.upd hv134 hub140 (fun h0 => Nat.ne_of_lt (hvl148 h0))
                    have hB149 := Upd.below hB136 (by rw [eb140]; exact hB136.size) hub140
                    have hgeb140 : w4.heap.size ≤ b140 := by rw [eb140]; exact hB136.size
                    have hleb140 : b140 ≤ wb140.heap.size := by omega
                    refine WL.p (.as rfl) rfl <| WL.nil <| ?_
                    -- join b2.meet/5
                    (exfalso; omega)
                    -- met
                  · have h139' := of_decide_eq_false h139
                    refine W.skip ?_
                    -- join b2.meet/6
                    (exfalso; omega)
                    -- met
                · have g138' := ndF g138
                  refine WL.gn rfl rfl rfl g138 <| WL.gn rfl rfl rfl g138 <| WL.p (.pkF rfl g138 rfl) rfl <| WL.nil <| ?_
                  refine W.condF rfl rfl ?_
                  refine W.skip ?_
                  -- join b2.meet/7
                  (exfalso; omega)
                  -- met
              · have h137' := of_decide_eq_false h137
                refine W.seq ?_
                refine W.reg ?_ -- 35
                refine WL.p (.mv rfl) rfl <| WL.p (.mv rfl) rfl <| WL.p (.gtr rfl rfl) rfl <| WL.p (.as rfl) rfl <| WL.nil <| ?_
                refine W.cond rfl (fun h150 => ?_) (fun h150 => ?_) -- slot 124
                · have h150' := of_decide_eq_true h150
                  refine W.reg ?_ -- 36
                  refine WL.p (.mv rfl) rfl <| WL.p (.as rfl) rfl <| WL.nil <| ?_
                  refine W.seq ?_
                  refine W.reg ?_ -- 37
                  refine WL.p (.mv rfl) rfl <| WL.p (.neq rfl rfl) rfl <| WL.p (.mv rfl) rfl <| WL.gd rfl rfl rfl (fun g151 => ?_) (fun g151 => ?_)
                  · have g151' := ndT g151
                    refine WL.p (.fa Try.underlying37 rfl Try.sizeOf3 (by decide) rfl) rfl <| WL.gy rfl rfl rfl g151 <| WL.r (Rd.ld (Try.isAgg3 _) rfl hk130 rfl) rfl <| WL.gy rfl rfl rfl g151 <| WL.p (.eql rfl rfl) rfl <| WL.p (.pkT rfl g151 rfl) rfl <| WL.nil <| ?_
                    refine W.cond rfl (fun h152 => ?_) (fun h152 => ?_) -- slot 135
                    · have h152' := of_decide_eq_true h152
                      refine W.reg ?_ -- 38
                      refine WL.p (.buildL (ps := _) blt39 rfl rfl rfl (by simp only [put1, List.map, List.zip, List.zipWith] <;> rfl)) rfl ?_
                      refine WL.bslM (L := objL) (ps := _) ([objZ]) Try.underlying25 Try.sizeOf39 Try.zeroValue39 rfl rfl rfl rfl rfl (by first | rfl | decide) rfl rfl (fun b153 wb153 eb153 hob153 hub153 hsb153 => ?_)
                      have hle155 := Nat.le_trans hleb129 hub153.size
                      have ho154 := OwnM.new hob129 eb153 hub153
                      have hl157 : b10 < b153 := by rw [eb153]; exact hk130.lt
                      have hk156 := hk130.upd hub153 (Nat.ne_of_lt hl157)
                      have hl159 : b117 < b153 := by rw [eb153]; exact hk132.lt
                      have hk158 := hk132.upd hub153 (Nat.ne_of_lt hl159)
                      have hvl161 := fun h0 => eb153 ▸ hv134.lt h0
                      have hv160 := RowM.upd hv134 hub153 (fun h0 => Nat.ne_of_lt (hvl161 h0))
                      have hB162 := Upd.below hB136 (by rw [eb153]; exact hB136.size) hub153
                      have hgeb153 : w4.heap.size ≤ b153 := by rw [eb153]; exact hB136.size
                      have hleb153 : b153 ≤ wb153.heap.size := by omega
                      refine WL.p (.as rfl) rfl <| WL.nil <| ?_
                      -- join b2.meet/8
                      (have hf := take_big L 1 (by omega) (by omega); rw [hf.2.2] at hs2; exact ⟨⟨_, 13, _, _, _, v2, L⟩, ⟨rfl, rfl, rfl, rfl, rfl, rfl, rfl, rfl, rfl, rfl, rfl, trivial⟩, ⟨Below.trans hT3 (hB162.mono hT3.size), hs2.below hB162, hm3.below hB162, by ((try simp only) <;> omega), hf.1, SameSl.mk (l := [objZ]) (by have ho := ho154; rw [hf.2.1] at ho; exact ho) hob153 (by decide)⟩⟩)
                      -- met
                    · have h152' := of_decide_eq_false h152
                      refine W.skip ?_
                      -- join b2.meet/9
                      (exfalso; omega)
                      -- met
                  · have g151' := ndF g151
                    refine WL.gn rfl rfl rfl g151 <| WL.gn rfl rfl rfl g151 <| WL.p (.pkF rfl g151 rfl) rfl <| WL.nil <| ?_
                    refine W.condF rfl rfl ?_
                    refine W.skip ?_
                    -- join b2.meet/10
                    (exfalso; omega)
                    -- met
                · have h150' := of_decide_eq_false h150
                  refine W.seq ?_
                  refine W.reg ?_ -- 31
                  refine WL.p (.mv rfl) rfl <| WL.p (.mv rfl) rfl <| WL.p (.mv rfl) rfl <| WL.p (.iis ((kk : Int)) (.sub rfl rfl (i64w (by omega))) (by omega)) rfl <| WL.p (.slmF Try.underlying25 Try.sizeOf39 rfl rfl  (kk) (rfl) (by omega)) rfl <| WL.p (.as rfl) rfl <| WL.nil <| ?_
                  refine W.reg ?_ -- 32
                  refine WL.p (.mv rfl) rfl <| WL.p (.mv rfl) rfl <| WL.p (.mv rfl) rfl <| WL.p (.iis ((kk : Int)) (.sub rfl rfl (i64w (by omega))) (by omega)) rfl <| WL.p (.slmT Try.underlying25 Try.sizeOf39 rfl rfl  (kk) (rfl) (by have := hsm.le; omega)) rfl <| WL.p (.as rfl) rfl <| WL.nil <| ?_
                  refine W.seq ?_
                  refine W.reg ?_ -- 37
                  refine WL.p (.mv rfl) rfl <| WL.p (.neq rfl rfl) rfl <| WL.p (.mv rfl) rfl <| WL.gd rfl rfl rfl (fun g163 => ?_) (fun g163 => ?_)
                  · have g163' := ndT g163
                    refine WL.p (.fa Try.underlying37 rfl Try.sizeOf3 (by decide) rfl) rfl <| WL.gy rfl rfl rfl g163 <| WL.r (Rd.ld (Try.isAgg3 _) rfl hk130 rfl) rfl <| WL.gy rfl rfl rfl g163 <| WL.p (.eql rfl rfl) rfl <| WL.p (.pkT rfl g163 rfl) rfl <| WL.nil <| ?_
                    refine W.cond rfl (fun h164 => ?_) (fun h164 => ?_) -- slot 135
                    · have h164' := of_decide_eq_true h164
                      refine W.reg ?_ -- 38
                      refine WL.p (.buildL (ps := _) blt39 rfl rfl rfl (by simp only [put1, List.map, List.zip, List.zipWith] <;> rfl)) rfl ?_
                      refine WL.bslM (L := objL) (ps := _) ([objZ]) Try.underlying25 Try.sizeOf39 Try.zeroValue39 rfl rfl rfl rfl rfl (by first | rfl | decide) rfl rfl (fun b165 wb165 eb165 hob165 hub165 hsb165 => ?_)
                      have hle167 := Nat.le_trans hleb129 hub165.size
                      have ho166 := OwnM.new hob129 eb165 hub165
                      have hl169 : b10 < b165 := by rw [eb165]; exact hk130.lt
                      have hk168 := hk130.upd hub165 (Nat.ne_of_lt hl169)
                      have hl171 : b117 < b165 := by rw [eb165]; exact hk132.lt
                      have hk170 := hk132.upd hub165 (Nat.ne_of_lt hl171)
                      have hvl173 := fun h0 => eb165 ▸ hv134.lt h0
                      have hv172 := RowM.upd hv134 hub165 (fun h0 => Nat.ne_of_lt (hvl173 h0))
                      have hB174 := Upd.below hB136 (by rw [eb165]; exact hB136.size) hub165
                      have hgeb165 : w4.heap.size ≤ b165 := by rw [eb165]; exact hB136.size
                      have hleb165 : b165 ≤ wb165.heap.size := by omega
                      refine WL.p (.as rfl) rfl <| WL.nil <| ?_
                      -- join b2.meet/11
                      (exfalso; omega)
                      -- met
                    · have h164' := of_decide_eq_false h164
                      refine W.skip ?_
                      -- join b2.meet/12
                      (exfalso; omega)
                      -- met
                  · have g163' := ndF g163
                    refine WL.gn rfl rfl rfl g163 <| WL.gn rfl rfl rfl g163 <| WL.p (.pkF rfl g163 rfl) rfl <| WL.nil <| ?_
                    refine W.condF rfl rfl ?_
                    refine W.skip ?_
                    -- join b2.meet/13
                    (have hf := take_ok L 1 kk (by omega) (by omega) hkk; rw [hf.2.2] at hs2; exact ⟨⟨_, 0, _, _, _, v2, L.take kk⟩, ⟨rfl, rfl, rfl, rfl, rfl, rfl, rfl, rfl, rfl, rfl, rfl, trivial⟩, ⟨Below.trans hT3 (hB136.mono hT3.size), hs2.below hB136, (hm3.below hB136).part kk (by omega), by rw [List.length_take]; omega, hf.1, SameSl.mkR hob129 ((hv134).partF (by omega) hsm.le) (by rw [List.length_drop]) (by rw [hf.2.1]; exact drop_last L kk _ (by omega)) (by simp)⟩⟩)
                    -- met
            · have h116' := of_decide_eq_false h116
              obtain ⟨kk, hkk⟩ : ∃ kk, kk = L.length - x.fN.toNat := ⟨_, rfl⟩
              refine W.reg ?_ -- 30
              refine WL.p (.mv rfl) rfl <| WL.p (.mv rfl) rfl <| WL.call hb19 rfl rfl ((stk_Take b v M 12 13 L x.fN _ (hs.below hB16) (by omega) (by omega) (by decide))) (fun r w175 hw175 => ?_)
              obtain ⟨q, v2, rfl, hq2, hs2, hk2⟩ := hw175
              obtain ⟨hT3, hm3, hc3⟩ := act_arm hT hB16 hs hm hb0 hk2
              have hkc := hc3 _ _ _ hgeb10 hkx
              have hB3 := Below.refl w175.heap.size w175
              have hok3 := (hokx.below hT3)
              have hxl3 := hok3.row_fList
              have hxk3 := hok3.row_fKinds
              obtain ⟨hrm3, hmb3⟩ := hm3.at
              refine WL.p (.mv rfl) rfl <| WL.p (.ext rfl rfl) rfl <| WL.p (.ext rfl rfl) rfl <| WL.p (.as rfl) rfl <| WL.p (.as rfl) rfl <| WL.nil <| ?_
              refine W.seq ?_
              refine W.block ?_
              refine W.seq ?_
              refine W.reg ?_ -- 33
              refine WL.p (.mv rfl) rfl <| WL.p (.lss rfl rfl) rfl <| WL.p (.as rfl) rfl <| WL.nil <| ?_
              refine W.cond rfl (fun h176 => ?_) (fun h176 => ?_) -- slot 121
              · have h176' := of_decide_eq_true h176
                refine W.reg ?_ -- 34
                refine WL.p (.as rfl) rfl <| WL.nil <| ?_
                refine W.seq ?_
                refine W.reg ?_ -- 37
                refine WL.p (.mv rfl) rfl <| WL.p (.neq rfl rfl) rfl <| WL.p (.mv rfl) rfl <| WL.gd rfl rfl rfl (fun g177 => ?_) (fun g177 => ?_)
                · have g177' := ndT g177
                  refine WL.p (.fa Try.underlying37 rfl Try.sizeOf3 (by decide) rfl) rfl <| WL.gy rfl rfl rfl g177 <| WL.r (Rd.ld (Try.isAgg3 _) rfl hkc rfl) rfl <| WL.gy rfl rfl rfl g177 <| WL.p (.eql rfl rfl) rfl <| WL.p (.pkT rfl g177 rfl) rfl <| WL.nil <| ?_
                  refine W.cond rfl (fun h178 => ?_) (fun h178 => ?_) -- slot 135
                  · have h178' := of_decide_eq_true h178
                    refine W.reg ?_ -- 38
                    refine WL.p (.buildL (ps := _) blt39 rfl rfl rfl (by simp only [put1, List.map, List.zip, List.zipWith] <;> rfl)) rfl ?_
                    refine WL.bslM (L := objL) (ps := _) ([objZ]) Try.underlying25 Try.sizeOf39 Try.zeroValue39 rfl rfl rfl rfl rfl (by first | rfl | decide) rfl rfl (fun b179 wb179 eb179 hob179 hub179 hsb179 => ?_)
                    have hl181 : b10 < b179 := by rw [eb179]; exact hkc.lt
                    have hk180 := hkc.upd hub179 (Nat.ne_of_lt hl181)
                    have hvl183 := fun h0 => eb179 ▸ hxl3.lt h0
                    have hv182 := RowM.upd hxl3 hub179 (fun h0 => Nat.ne_of_lt (hvl183 h0))
                    have hvl185 := fun h0 => eb179 ▸ hxk3.lt h0
                    have hv184 := RowAt.upd hxk3 hub179 (fun h0 => Nat.ne_of_lt (hvl185 h0))
                    have hvl187 := fun h0 => eb179 ▸ hrm3.lt h0
                    have hv186 := RowM.upd hrm3 hub179 (fun h0 => Nat.ne_of_lt (hvl187 h0))
                    have hB188 := Upd.below hB3 (by rw [eb179]; exact hB3.size) hub179
                    have hgeb179 : w175.heap.size ≤ b179 := by rw [eb179]; exact hB3.size
                    have hleb179 : b179 ≤ wb179.heap.size := by omega
                    refine WL.p (.as rfl) rfl <| WL.nil <| ?_
                    -- join b2.meet/14
                    (exfalso; omega)
                    -- met
                  · have h178' := of_decide_eq_false h178
                    refine W.skip ?_
                    -- join b2.meet/15
                    (have hf := take_neg L x.fN (by omega); rw [hf.2.2] at hs2; rw [hf.2.1] at hq2; exact ⟨⟨_, 11, _, _, _, v2, L⟩, ⟨rfl, rfl, rfl, rfl, rfl, rfl, rfl, rfl, rfl, rfl, rfl, trivial⟩, ⟨Below.trans hT3 (hB3.mono hT3.size), hs2.below hB3, hm3.below hB3, by ((try simp only) <;> omega), hf.1, SameSl.left (hq2.below hB3) rfl⟩⟩)
                    -- met
                · have g177' := ndF g177
                  refine WL.gn rfl rfl rfl g177 <| WL.gn rfl rfl rfl g177 <| WL.p (.pkF rfl g177 rfl) rfl <| WL.nil <| ?_
                  refine W.condF rfl rfl ?_
                  refine W.skip ?_
                  -- join b2.meet/16
                  (exfalso; omega)
                  -- met
              · have h176' := of_decide_eq_false h176
                refine W.seq ?_
                refine W.reg ?_ -- 35
                refine WL.p (.mv rfl) rfl <| WL.p (.mv rfl) rfl <| WL.p (.gtr rfl rfl) rfl <| WL.p (.as rfl) rfl <| WL.nil <| ?_
                refine W.cond rfl (fun h189 => ?_) (fun h189 => ?_) -- slot 124
                · have h189' := of_decide_eq_true h189
                  refine W.reg ?_ -- 36
                  refine WL.p (.mv rfl) rfl <| WL.p (.as rfl) rfl <| WL.nil <| ?_
                  refine W.seq ?_
                  refine W.reg ?_ -- 37
                  refine WL.p (.mv rfl) rfl <| WL.p (.neq rfl rfl) rfl <| WL.p (.mv rfl) rfl <| WL.gd rfl rfl rfl (fun g190 => ?_) (fun g190 => ?_)
                  · have g190' := ndT g190
                    refine WL.p (.fa Try.underlying37 rfl Try.sizeOf3 (by decide) rfl) rfl <| WL.gy rfl rfl rfl g190 <| WL.r (Rd.ld (Try.isAgg3 _) rfl hkc rfl) rfl <| WL.gy rfl rfl rfl g190 <| WL.p (.eql rfl rfl) rfl <| WL.p (.pkT rfl g190 rfl) rfl <| WL.nil <| ?_
                    refine W.cond rfl (fun h191 => ?_) (fun h191 => ?_) -- slot 135
                    · have h191' := of_decide_eq_true h191
                      refine W.reg ?_ -- 38
                      refine WL.p (.buildL (ps := _) blt39 rfl rfl rfl (by simp only [put1, List.map, List.zip, List.zipWith] <;> rfl)) rfl ?_
                      refine WL.bslM (L := objL) (ps := _) ([objZ]) Try.underlying25 Try.sizeOf39 Try.zeroValue39 rfl rfl rfl rfl rfl (by first | rfl | decide) rfl rfl (fun b192 wb192 eb192 hob192 hub192 hsb192 => ?_)
                      have hl194 : b10 < b192 := by rw [eb192]; exact hkc.lt
                      have hk193 := hkc.upd hub192 (Nat.ne_of_lt hl194)
                      have hvl196 := fun h0 => eb192 ▸ hxl3.lt h0
                      have hv195 := RowM.upd hxl3 hub192 (fun h0 => Nat.ne_of_lt (hvl196 h0))
                      have hvl198 := fun h0 => eb192 ▸ hxk3.lt h0
                      have hv197 := RowAt.upd hxk3 hub192 (fun h0 => Nat.ne_of_lt (hvl198 h0))
                      have hvl200 := fun h0 => eb192 ▸ hrm3.lt h0
                      have hv199 := RowM.upd hrm3 hub192 (fun h0 => Nat.ne_of_lt (hvl200 h0))
                      have hB201 := Upd.below hB3 (by rw [eb192]; exact hB3.size) hub192
                      have hgeb192 : w175.heap.size ≤ b192 := by rw [eb192]; exact hB3.size
                      have hleb192 : b192 ≤ wb192.heap.size := by omega
                      refine WL.p (.as rfl) rfl <| WL.nil <| ?_
                      -- join b2.meet/17
                      (exfalso; omega)
                      -- met
                    · have h191' := of_decide_eq_false h191
                      refine W.skip ?_
                      -- join b2.meet/18
                      (have hf := take_big L x.fN (by omega) (by omega); rw [hf.2.2] at hs2; rw [hf.2.1] at hq2; exact ⟨⟨_, 13, _, _, _, v2, L⟩, ⟨rfl, rfl, rfl, rfl, rfl, rfl, rfl, rfl, rfl, rfl, rfl, trivial⟩, ⟨Below.trans hT3 (hB3.mono hT3.size), hs2.below hB3, hm3.below hB3, by ((try simp only) <;> omega), hf.1, SameSl.left (hq2.below hB3) rfl⟩⟩)
                      -- met
                  · have g190' := ndF g190
                    refine WL.gn rfl rfl rfl g190 <| WL.gn rfl rfl rfl g190 <| WL.p (.pkF rfl g190 rfl) rfl <| WL.nil <| ?_
                    refine W.condF rfl rfl ?_
                    refine W.skip ?_
                    -- join b2.meet/19
                    (exfalso; omega)
                    -- met
                · have h189' := of_decide_eq_false h189
                  refine W.seq ?_
                  refine W.reg ?_ -- 31
                  refine WL.p (.mv rfl) rfl <| WL.p (.mv rfl) rfl <| WL.p (.mv rfl) rfl <| WL.p (.iis ((kk : Int)) (.sub rfl rfl (i64w (by omega))) (by omega)) rfl <| WL.p (.slmF Try.underlying25 Try.sizeOf39 rfl rfl  (kk) (rfl) (by omega)) rfl <| WL.p (.as rfl) rfl <| WL.nil <| ?_
                  refine W.reg ?_ -- 32
                  refine WL.p (.mv rfl) rfl <| WL.p (.mv rfl) rfl <| WL.p (.mv rfl) rfl <| WL.p (.iis ((kk : Int)) (.sub rfl rfl (i64w (by omega))) (by omega)) rfl <| WL.p (.slmT Try.underlying25 Try.sizeOf39 rfl rfl  (kk) (rfl) (by have := hsm.le; omega)) rfl <| WL.p (.as rfl) rfl <| WL.nil <| ?_
                  refine W.seq ?_
                  refine W.reg ?_ -- 37
                  refine WL.p (.mv rfl) rfl <| WL.p (.neq rfl rfl) rfl <| WL.p (.mv rfl) rfl <| WL.gd rfl rfl rfl (fun g202 => ?_) (fun g202 => ?_)
                  · have g202' := ndT g202
                    refine WL.p (.fa Try.underlying37 rfl Try.sizeOf3 (by decide) rfl) rfl <| WL.gy rfl rfl rfl g202 <| WL.r (Rd.ld (Try.isAgg3 _) rfl hkc rfl) rfl <| WL.gy rfl rfl rfl g202 <| WL.p (.eql rfl rfl) rfl <| WL.p (.pkT rfl g202 rfl) rfl <| WL.nil <| ?_
                    refine W.cond rfl (fun h203 => ?_) (fun h203 => ?_) -- slot 135
                    · have h203' := of_decide_eq_true h203
                      refine W.reg ?_ -- 38
                      refine WL.p (.buildL (ps := _) blt39 rfl rfl rfl (by simp only [put1, List.map, List.zip, List.zipWith] <;> rfl)) rfl ?_
                      refine WL.bslM (L := objL) (ps := _) ([objZ]) Try.underlying25 Try.sizeOf39 Try.zeroValue39 rfl rfl rfl rfl rfl (by first | rfl | decide) rfl rfl (fun b204 wb204 eb204 hob204 hub204 hsb204 => ?_)
                      have hl206 : b10 < b204 := by rw [eb204]; exact hkc.lt
                      have hk205 := hkc.upd hub204 (Nat.ne_of_lt hl206)
                      have hvl208 := fun h0 => eb204 ▸ hxl3.lt h0
                      have hv207 := RowM.upd hxl3 hub204 (fun h0 => Nat.ne_of_lt (hvl208 h0))
                      have hvl210 := fun h0 => eb204 ▸ hxk3.lt h0
                      have hv209 := RowAt.upd hxk3 hub204 (fun h0 => Nat.ne_of_lt (hvl210 h0))
                      have hvl212 := fun h0 => eb204 ▸ hrm3.lt h0
                      have hv211 := RowM.upd hrm3 hub204 (fun h0 => Nat.ne_of_lt (hvl212 h0))
                      have hB213 := Upd.below hB3 (by rw [eb204]; exact hB3.size) hub204
                      have hgeb204 : w175.heap.size ≤ b204 := by rw [eb204]; exact hB3.size
                      have hleb204 : b204 ≤ wb204.heap.size := by omega
                      refine WL.p (.as rfl) rfl <| WL.nil <| ?_
                      -- join b2.meet/20
                      (exfalso; omega)
                      -- met
                    · have h203' := of_decide_eq_false h203
                      refine W.skip ?_
                      -- join b2.meet/21
                      (exfalso; omega)
                      -- met
                  · have g202' := ndF g202
                    refine WL.gn rfl rfl rfl g202 <| WL.gn rfl rfl rfl g202 <| WL.p (.pkF rfl g202 rfl) rfl <| WL.nil <| ?_
                    refine W.condF rfl rfl ?_
                    refine W.skip ?_
                    -- join b2.meet/22
                    (have hf := take_ok L x.fN kk (by omega) (by omega) hkk; rw [hf.2.2] at hs2; rw [hf.2.1] at hq2; exact ⟨⟨_, 0, _, _, _, v2, L.take kk⟩, ⟨rfl, rfl, rfl, rfl, rfl, rfl, rfl, rfl, rfl, rfl, rfl, trivial⟩, ⟨Below.trans hT3 (hB3.mono hT3.size), hs2.below hB3, (hm3.below hB3).part kk (by omega), by rw [List.length_take]; omega, hf.1, SameSl.mkR (hq2.below hB3) ((hrm3).partF (by omega) hsm.le) (by rw [List.length_drop]) rfl (by rw [List.length_drop]; omega)⟩⟩)
                    -- met
          · have h115' := of_decide_eq_false h115
            refine W.cut (α := Unit) (fun t => [(0, .int .i64 M), (1, .slice p l.length c), (5, .int .i64 12), (6, .int .i64 13), (7, .pointer (some ⟨b, 0, none⟩)), (8, .slice pm L.length cm), (9, .int .i64 (s : Int)), (10, .pointer (some ⟨b10, 0, none⟩)), (11, .int .i64 (L.length : Int)), (12, .int .i64 0), (13, .int .i64 0), (14, .slice none 0 0), (15, .slice none 0 0), (67, .int .i64 x.fDo), (138, .bool (decide (x.fDo = 4 ∨ x.fDo = 5)))]) (fun t w' => w14 = w') ?_ (fun t w1 hR => ?_)
            · skip
              refine W.seq ?_
              refine W.reg ?_ -- 39
              refine WL.p (.eql rfl rfl) rfl <| WL.p (.as rfl) rfl <| WL.nil <| ?_
              refine W.cond rfl (fun h214 => ?_) (fun h214 => ?_) -- slot 138
              · have h214' := of_decide_eq_true h214
                refine W.skip ?_
                -- join 138.meet/1
                exact ⟨(), ⟨rfl, rfl, rfl, rfl, rfl, rfl, rfl, rfl, rfl, rfl, rfl, rfl, rfl, rfl, lk_b rfl (by (apply Bool.eq_iff_iff.2; (try simp) <;> omega)), trivial⟩, rfl⟩
                -- met
              · have h214' := of_decide_eq_false h214
                refine W.reg ?_ -- 40
                refine WL.p (.eql rfl rfl) rfl <| WL.p (.as rfl) rfl <| WL.nil <| ?_
                -- join 138.meet/2
                exact ⟨(), ⟨rfl, rfl, rfl, rfl, rfl, rfl, rfl, rfl, rfl, rfl, rfl, rfl, rfl, rfl, lk_b rfl (by (apply Bool.eq_iff_iff.2; (try simp) <;> omega)), trivial⟩, rfl⟩
                -- met
            obtain rfl := hR
            refine W.cond rfl (fun h215 => ?_) (fun h215 => ?_) -- slot 138
            · have h215' := of_decide_eq_true h215
              refine W.seq ?_
              refine W.seq ?_
              refine W.reg ?_ -- 41
              refine WL.p (.fa Try.underlying37 rfl Try.sizeOf3 (by decide) rfl) rfl <| WL.r (Rd.ld (Try.isAgg3 _) rfl hkx rfl) rfl <| WL.p (.lss rfl rfl) rfl <| WL.nil <| ?_
              refine W.cond rfl (fun h216 => ?_) (fun h216 => ?_) -- slot 143
              · have h216' := of_decide_eq_true h216
                refine W.reg ?_ -- 42
                refine WL.p (.as rfl) rfl <| WL.nil <| ?_
                refine W.seq ?_
                refine W.reg ?_ -- 45
                refine WL.p (.fa Try.underlying37 rfl Try.sizeOf3 (by decide) rfl) rfl <| WL.r (Rd.ld (Try.isAgg3 _) rfl hkx rfl) rfl <| WL.p (.eql rfl rfl) rfl <| WL.nil <| ?_
                refine W.cond rfl (fun h217 => ?_) (fun h217 => ?_) -- slot 151
                · have h217' := of_decide_eq_true h217
                  refine W.seq ?_
                  refine W.reg ?_ -- 46
                  refine WL.alloc Try.zeroValue39 rfl (fun b218 wb218 eb218 hkb218 hub218 hsb218 => ?_)
                  have hl220 : b10 < b218 := by rw [eb218]; exact hkx.lt
                  have hk219 := hkx.upd hub218 (Nat.ne_of_lt hl220)
                  have hvl222 := fun h0 => eb218 ▸ hxl.lt h0
                  have hv221 := RowM.upd hxl hub218 (fun h0 => Nat.ne_of_lt (hvl222 h0))
                  have hvl224 := fun h0 => eb218 ▸ hxk.lt h0
                  have hv223 := RowAt.upd hxk hub218 (fun h0 => Nat.ne_of_lt (hvl224 h0))
                  have hvl226 := fun h0 => eb218 ▸ hrm.lt h0
                  have hv225 := RowM.upd hrm hub218 (fun h0 => Nat.ne_of_lt (hvl226 h0))
                  have hB227 := Upd.below hB16 (by rw [eb218]; exact hB16.size) hub218
                  have hgeb218 : w1.heap.size ≤ b218 := by rw [eb218]; exact hB16.size
                  refine WL.nil <| ?_
                  refine W.seq ?_
                  refine W.reg ?_ -- 47
                  refine WL.p (.mv rfl) rfl <| WL.p (.fa Try.underlying37 rfl Try.sizeOf3 (by decide) rfl) rfl <| WL.r (Rd.ld (Try.isAgg3 _) rfl hk219 rfl) rfl <| WL.c1 hb20 rfl rfl ((stk_Top b v M 12 13 L x.fN _ (hs.below hB227) (by omega) (by omega) (by decide))) (fun w228 hw228 => ?_)
                  have hk229 := hk219.below hw228 hk219.lt
                  have hk230 := hkb218.below hw228 hkb218.lt
                  have hv231 := RowM.below hv221 hw228 (fun h0 => hv221.lt h0)
                  have hv232 := RowAt.below hv223 hw228 (fun h0 => hv223.lt h0)
                  have hv233 := RowM.below hv225 hw228 (fun h0 => hv225.lt h0)
                  have hB234 := btr hB227 hw228
                  refine WL.p (.mv rfl) rfl <| WL.p (.ext rfl rfl) rfl <| WL.p (.ext rfl rfl) rfl <| WL.stL rfl rfl hk230 isz39 rfl rfl (fun w235 hkw235 huw235 hsw235 => ?_)
                  have hk236 := hk229.upd huw235 (by ((try simp only) <;> omega))
                  have hv237 := RowM.upd hv231 huw235 (fun h0 => Nat.ne_of_lt (hvl222 h0))
                  have hv238 := RowAt.upd hv232 huw235 (fun h0 => Nat.ne_of_lt (hvl224 h0))
                  have hv239 := RowM.upd hv233 huw235 (fun h0 => Nat.ne_of_lt (hvl226 h0))
                  have hB240 := Upd.below hB234 (by omega) huw235
                  refine WL.p (.as rfl) rfl <| WL.nil <| ?_
                  refine W.seq ?_
                  refine W.reg ?_ -- 48
                  refine WL.r (Rd.ldA rfl hkw235 Try.underlying39 rfl isz39) rfl <| WL.bslM (L := objL) (ps := _) ([topV x.fN L 13]) Try.underlying25 Try.sizeOf39 Try.zeroValue39 rfl rfl rfl rfl rfl (by first | rfl | decide) rfl rfl (fun b241 wb241 eb241 hob241 hub241 hsb241 => ?_)
                  have hl243 : b10 < b241 := by rw [eb241]; exact hk236.lt
                  have hk242 := hk236.upd hub241 (Nat.ne_of_lt hl243)
                  have hl245 : b218 < b241 := by rw [eb241]; exact hkw235.lt
                  have hk244 := hkw235.upd hub241 (Nat.ne_of_lt hl245)
                  have hvl247 := fun h0 => eb241 ▸ hv237.lt h0
                  have hv246 := RowM.upd hv237 hub241 (fun h0 => Nat.ne_of_lt (hvl247 h0))
                  have hvl249 := fun h0 => eb241 ▸ hv238.lt h0
                  have hv248 := RowAt.upd hv238 hub241 (fun h0 => Nat.ne_of_lt (hvl249 h0))
                  have hvl251 := fun h0 => eb241 ▸ hv239.lt h0
                  have hv250 := RowM.upd hv239 hub241 (fun h0 => Nat.ne_of_lt (hvl251 h0))
                  have hB252 := Upd.below hB240 (by rw [eb241]; exact hB240.size) hub241
                  have hgeb241 : w1.heap.size ≤ b241 := by rw [eb241]; exact hB240.size
                  have hleb241 : b241 ≤ wb241.heap.size := by omega
                  refine WL.p (.as rfl) rfl <| WL.nil <| ?_
                  refine W.seq ?_
                  refine W.reg ?_ -- 49
                  refine WL.p (.buildL (ps := _) blt39 rfl rfl rfl (by simp only [put1, List.map, List.zip, List.zipWith] <;> rfl)) rfl ?_
                  refine WL.bslM (L := objL) (ps := _) ([objZ]) Try.underlying25 Try.sizeOf39 Try.zeroValue39 rfl rfl rfl rfl rfl (by first | rfl | decide) rfl rfl (fun b253 wb253 eb253 hob253 hub253 hsb253 => ?_)
                  have hle255 := Nat.le_trans hleb241 hub253.size
                  have ho254 := OwnM.new hob241 eb253 hub253
                  have hl257 : b10 < b253 := by rw [eb253]; exact hk242.lt
                  have hk256 := hk242.upd hub253 (Nat.ne_of_lt hl257)
                  have hl259 : b218 < b253 := by rw [eb253]; exact hk244.lt
                  have hk258 := hk244.upd hub253 (Nat.ne_of_lt hl259)
                  have hvl261 := fun h0 => eb253 ▸ hv246.lt h0
                  have hv260 := RowM.upd hv246 hub253 (fun h0 => Nat.ne_of_lt (hvl261 h0))
                  have hvl263 := fun h0 => eb253 ▸ hv248.lt h0
                  have hv262 := RowAt.upd hv248 hub253 (fun h0 => Nat.ne_of_lt (hvl263 h0))
                  have hvl265 := fun h0 => eb253 ▸ hv250.lt h0
                  have hv264 := RowM.upd hv250 hub253 (fun h0 => Nat.ne_of_lt (hvl265 h0))
                  have hB266 := Upd.below hB252 (by rw [eb253]; exact hB252.size) hub253
                  have hgeb253 : w1.heap.size ≤ b253 := by rw [eb253]; exact hB252.size
                  have hleb253 : b253 ≤ wb253.heap.size := by omega
                  refine WL.p (.as rfl) rfl <| WL.nil <| ?_
                  refine W.seq ?_
                  refine W.reg ?_ -- 50
                  refine WL.p (.mv rfl) rfl <| WL.p (.eql rfl rfl) rfl <| WL.nil <| ?_
                  refine W.cond rfl (fun h267 => ?_) (fun h267 => ?_) -- slot 164
                  · have h267' := of_decide_eq_true h267
                    refine W.reg ?_ -- 51
                    refine WL.p (.mv rfl) rfl <| WL.p (.mv rfl) rfl <| WL.p (.sub rfl rfl (i64w (by omega))) rfl <| WL.p (.fa Try.underlying37 rfl Try.sizeOf3 (by decide) rfl) rfl <| WL.r (Rd.ld (Try.isAgg3 _) rfl hk256 rfl) rfl <| WL.p (.sub rfl rfl (i64w (by omega))) rfl <| WL.p (.ixm Try.underlying25 Try.sizeOf39 rfl rfl (hv264.isp (by omega)) (L.length - 1 - x.fN.toNat) (by omega) (by omega)) rfl <| WL.r (Rd.ldS Try.underlying39 rfl isz39 hv264 (L.length - 1 - x.fN.toNat) (by omega) rfl) rfl <| WL.bslM (L := objL) (ps := _) ([L[L.length - 1 - x.fN.toNat]'(by omega)]) Try.underlying25 Try.sizeOf39 Try.zeroValue39 rfl rfl rfl rfl rfl (by first | rfl | decide) rfl rfl (fun b268 wb268 eb268 hob268 hub268 hsb268 => ?_)
                    have hle270 := Nat.le_trans hle255 hub268.size
                    have ho269 := OwnM.new ho254 eb268 hub268
                    have hle272 := Nat.le_trans hleb253 hub268.size
                    have ho271 := OwnM.new hob253 eb268 hub268
                    have hl274 : b10 < b268 := by rw [eb268]; exact hk256.lt
                    have hk273 := hk256.upd hub268 (Nat.ne_of_lt hl274)
                    have hl276 : b218 < b268 := by rw [eb268]; exact hk258.lt
                    have hk275 := hk258.upd hub268 (Nat.ne_of_lt hl276)
                    have hvl278 := fun h0 => eb268 ▸ hv260.lt h0
                    have hv277 := RowM.upd hv260 hub268 (fun h0 => Nat.ne_of_lt (hvl278 h0))
                    have hvl280 := fun h0 => eb268 ▸ hv262.lt h0
                    have hv279 := RowAt.upd hv262 hub268 (fun h0 => Nat.ne_of_lt (hvl280 h0))
                    have hvl282 := fun h0 => eb268 ▸ hv264.lt h0
                    have hv281 := RowM.upd hv264 hub268 (fun h0 => Nat.ne_of_lt (hvl282 h0))
                    have hB283 := Upd.below hB266 (by rw [eb268]; exact hB266.size) hub268
                    have hgeb268 : w1.heap.size ≤ b268 := by rw [eb268]; exact hB266.size
                    have hleb268 : b268 ≤ wb268.heap.size := by omega
                    refine WL.p (.as rfl) rfl <| WL.nil <| ?_
                    -- join b2.meet/23
                    (exfalso; omega)
                    -- met
                  · have h267' := of_decide_eq_false h267
                    refine W.skip ?_
                    -- join b2.meet/24
                    (have hf := place_neg L x.fN objZ (by omega); exact ⟨⟨_, 11, _, _, _, v, L⟩, ⟨rfl, rfl, rfl, rfl, rfl, rfl, rfl, rfl, rfl, rfl, rfl, trivial⟩, ⟨Below.trans hT (hB266.mono hT.size), hs.below hB266, hm.below hB266, by ((try simp only) <;> omega), hf.1, SameSl.mk (l := [objZ]) (by have ho := ho254; rw [hf.2.1] at ho; exact ho) hob253 (by decide)⟩⟩)
                    -- met
                · have h217' := of_decide_eq_false h217
                  refine W.seq ?_
                  refine W.reg ?_ -- 52
                  refine WL.p (.fa Try.underlying37 rfl Try.sizeOf3 (by decide) rfl) rfl <| WL.r (Rd.ld (Try.isAgg3 _) rfl hkx rfl) rfl <| ?_
                  refine WL.p (.buildL (ps := _) blt39 rfl rfl rfl (by simp only [put1, List.map, List.zip, List.zipWith, List.set] <;> rfl)) rfl ?_
                  refine WL.alloc Try.zeroValue39 rfl (fun b284 wb284 eb284 hkb284 hub284 hsb284 => ?_)
                  have hl286 : b10 < b284 := by rw [eb284]; exact hkx.lt
                  have hk285 := hkx.upd hub284 (Nat.ne_of_lt hl286)
                  have hvl288 := fun h0 => eb284 ▸ hxl.lt h0
                  have hv287 := RowM.upd hxl hub284 (fun h0 => Nat.ne_of_lt (hvl288 h0))
                  have hvl290 := fun h0 => eb284 ▸ hxk.lt h0
                  have hv289 := RowAt.upd hxk hub284 (fun h0 => Nat.ne_of_lt (hvl290 h0))
                  have hvl292 := fun h0 => eb284 ▸ hrm.lt h0
                  have hv291 := RowM.upd hrm hub284 (fun h0 => Nat.ne_of_lt (hvl292 h0))
                  have hB293 := Upd.below hB16 (by rw [eb284]; exact hB16.size) hub284
                  have hgeb284 : w1.heap.size ≤ b284 := by rw [eb284]; exact hB16.size
                  refine WL.stL rfl rfl hkb284 isz39 rfl rfl (fun w294 hkw294 huw294 hsw294 => ?_)
                  have hk295 := hk285.upd huw294 (by ((try simp only) <;> omega))
                  have hv296 := RowM.upd hv287 huw294 (fun h0 => Nat.ne_of_lt (hvl288 h0))
                  have hv297 := RowAt.upd hv289 huw294 (fun h0 => Nat.ne_of_lt (hvl290 h0))
                  have hv298 := RowM.upd hv291 huw294 (fun h0 => Nat.ne_of_lt (hvl292 h0))
                  have hB299 := Upd.below hB293 (by omega) huw294
                  refine WL.nil <| ?_
                  refine W.seq ?_
                  refine W.reg ?_ -- 53
                  refine WL.p (.mv rfl) rfl <| WL.p (.fa Try.underlying37 rfl Try.sizeOf3 (by decide) rfl) rfl <| WL.r (Rd.ld (Try.isAgg3 _) rfl hk295 rfl) rfl <| WL.r (Rd.ldA rfl hkw294 Try.underlying39 rfl isz39) rfl <| WL.c1 hb21 rfl rfl ((stk_Swap b v M 12 13 L x.fN ⟨1, false, 0, x.fJ, [], 0, 0, 0⟩ _ (hs.below hB299) (by omega) (by omega) (by decide))) (fun w300 hw300 => ?_)
                  obtain ⟨hs2, hkb2⟩ := hw300
                  have hk2 := Stk.ofKeep hkb2
                  obtain ⟨hT3, hm3, hc3⟩ := act_arm hT hB299 hs hm hb0 hk2
                  have hkc := hc3 _ _ _ hgeb10 hk295
                  have hB3 := Below.refl w300.heap.size w300
                  have hok3 := (hokx.below hT3)
                  have hxl3 := hok3.row_fList
                  have hxk3 := hok3.row_fKinds
                  obtain ⟨hrm3, hmb3⟩ := hm3.at
                  have hke := hc3 _ _ _ hgeb284 hkw294
                  refine WL.p (.as rfl) rfl <| WL.nil <| ?_
                  refine W.seq ?_
                  refine W.reg ?_ -- 54
                  refine WL.p (.mv rfl) rfl <| WL.p (.eql rfl rfl) rfl <| WL.nil <| ?_
                  refine W.cond rfl (fun h301 => ?_) (fun h301 => ?_) -- slot 183
                  · have h301' := of_decide_eq_true h301
                    refine W.seq ?_
                    refine W.reg ?_ -- 55
                    refine WL.bsl0 Try.underlying25 Try.sizeOf39 rfl (fun b302 wb302 eb302 hob302 hub302 hsb302 => ?_)
                    have hl304 : b10 < b302 := by rw [eb302]; exact hkc.lt
                    have hk303 := hkc.upd hub302 (Nat.ne_of_lt hl304)
                    have hl306 : b284 < b302 := by rw [eb302]; exact hke.lt
                    have hk305 := hke.upd hub302 (Nat.ne_of_lt hl306)
                    have hvl308 := fun h0 => eb302 ▸ hxl3.lt h0
                    have hv307 := RowM.upd hxl3 hub302 (fun h0 => Nat.ne_of_lt (hvl308 h0))
                    have hvl310 := fun h0 => eb302 ▸ hxk3.lt h0
                    have hv309 := RowAt.upd hxk3 hub302 (fun h0 => Nat.ne_of_lt (hvl310 h0))
                    have hvl312 := fun h0 => eb302 ▸ hrm3.lt h0
                    have hv311 := RowM.upd hrm3 hub302 (fun h0 => Nat.ne_of_lt (hvl312 h0))
                    have hB313 := Upd.below hB3 (by rw [eb302]; exact hB3.size) hub302
                    have hgeb302 : w300.heap.size ≤ b302 := by rw [eb302]; exact hB3.size
                    have hob302 := OwnM.of (L := objL) (l := []) (hob302 b302 (Nat.le_refl _))
                    have hleb302 : b302 ≤ wb302.heap.size := by omega
                    refine WL.p (.mv rfl) rfl <| WL.appM Try.underlying25 inf39 rfl rfl rfl hob302 rfl hv311 (by simp only [List.length_nil, List.length_append]; omega) (hleb302) rfl (hsm.nil) (fun v314 w315 how315 hbw315 hgw315 hfw315 => ?_)
                    have hk316 := hk303.below hbw315 (by omega)
                    have hk317 := hk305.below hbw315 (by omega)
                    have hv318 := RowM.below hv307 hbw315 hvl308
                    have hv319 := RowAt.below hv309 hbw315 hvl310
                    have hv320 := RowM.below hv311 hbw315 hvl312
                    have hB321 := Below.trans hB313 (hbw315.mono (hgeb302))
                    have hle322 := Nat.le_trans hleb302 hbw315.size
                    refine WL.p (.as rfl) rfl <| WL.nil <| ?_
                    obtain ⟨pv, cv, e9, hrv, -⟩ := (show OwnM objL 39 _ w315 _ L from how315).row
                    subst e9
                    have hov := (show OwnM objL 39 _ w315 (.slice pv L.length cv) L from how315)
                    refine W.reg ?_ -- 56
                    refine WL.p (.mv rfl) rfl <| WL.p (.mv rfl) rfl <| WL.p (.iis ((L.length : Int) - 1) (.sub rfl rfl (i64w (by omega))) (by omega)) rfl <| WL.p (.fa Try.underlying37 rfl Try.sizeOf3 (by decide) rfl) rfl <| WL.r (Rd.ld (Try.isAgg3 _) rfl hk316 rfl) rfl <| WL.p (.iis (((L.length - 1 - x.fN.toNat : Nat) : Int)) (.sub rfl rfl (i64w (by omega))) (by omega)) rfl <| WL.r (Rd.ldA rfl hk317 Try.underlying39 rfl isz39) rfl <| WL.p (.ixm Try.underlying25 Try.sizeOf39 rfl rfl (hrv.isp (by omega)) (L.length - 1 - x.fN.toNat) rfl (by omega)) rfl <| WL.stM (L := objL) ⟨1, false, 0, x.fJ, [], 0, 0, 0⟩ (L.length - 1 - x.fN.toNat) hov (by omega) isz39 rfl rfl rfl (fun wc gc hgc huc hoc => ?_)
                    have hB8 := Upd.below hB321 (by have := (hov.lt gc (by rw [hgc]; rfl)).1; omega) huc
                    refine WL.nil <| ?_
                    -- join b2.meet/25
                    (exfalso; omega)
                    -- met
                  · have h301' := of_decide_eq_false h301
                    refine W.skip ?_
                    -- join b2.meet/26
                    (have hf := place_neg L x.fN ⟨1, false, 0, x.fJ, [], 0, 0, 0⟩ (by omega); rw [hf.2.2] at hs2; exact ⟨⟨_, 11, _, _, _, v, L⟩, ⟨rfl, rfl, rfl, rfl, rfl, rfl, rfl, rfl, rfl, rfl, rfl, trivial⟩, ⟨Below.trans hT3 (hB3.mono hT3.size), hs2.below hB3, hm3.below hB3, by ((try simp only) <;> omega), hf.1, SameSl.nil _⟩⟩)
                    -- met
              · have h216' := of_decide_eq_false h216
                refine W.seq ?_
                refine W.reg ?_ -- 43
                refine WL.p (.fa Try.underlying37 rfl Try.sizeOf3 (by decide) rfl) rfl <| WL.r (Rd.ld (Try.isAgg3 _) rfl hkx rfl) rfl <| WL.p (.mv rfl) rfl <| WL.p (.geq rfl rfl) rfl <| WL.nil <| ?_
                refine W.cond rfl (fun h324 => ?_) (fun h324 => ?_) -- slot 147
                · have h324' := of_decide_eq_true h324
                  refine W.reg ?_ -- 44
                  refine WL.p (.mv rfl) rfl <| WL.p (.as rfl) rfl <| WL.nil <| ?_
                  refine W.seq ?_
                  refine W.reg ?_ -- 45
                  refine WL.p (.fa Try.underlying37 rfl Try.sizeOf3 (by decide) rfl) rfl <| WL.r (Rd.ld (Try.isAgg3 _) rfl hkx rfl) rfl <| WL.p (.eql rfl rfl) rfl <| WL.nil <| ?_
                  refine W.cond rfl (fun h325 => ?_) (fun h325 => ?_) -- slot 151
                  · have h325' := of_decide_eq_true h325
                    refine W.seq ?_
                    refine W.reg ?_ -- 46
                    refine WL.alloc Try.zeroValue39 rfl (fun b326 wb326 eb326 hkb326 hub326 hsb326 => ?_)
                    have hl328 : b10 < b326 := by rw [eb326]; exact hkx.lt
                    have hk327 := hkx.upd hub326 (Nat.ne_of_lt hl328)
                    have hvl330 := fun h0 => eb326 ▸ hxl.lt h0
                    have hv329 := RowM.upd hxl hub326 (fun h0 => Nat.ne_of_lt (hvl330 h0))
                    have hvl332 := fun h0 => eb326 ▸ hxk.lt h0
                    have hv331 := RowAt.upd hxk hub326 (fun h0 => Nat.ne_of_lt (hvl332 h0))
                    have hvl334 := fun h0 => eb326 ▸ hrm.lt h0
                    have hv333 := RowM.upd hrm hub326 (fun h0 => Nat.ne_of_lt (hvl334 h0))
                    have hB335 := Upd.below hB16 (by rw [eb326]; exact hB16.size) hub326
                    have hgeb326 : w1.heap.size ≤ b326 := by rw [eb326]; exact hB16.size
                    refine WL.nil <| ?_
                    refine W.seq ?_
                    refine W.reg ?_ -- 47
                    refine WL.p (.mv rfl) rfl <| WL.p (.fa Try.underlying37 rfl Try.sizeOf3 (by decide) rfl) rfl <| WL.r (Rd.ld (Try.isAgg3 _) rfl hk327 rfl) rfl <| WL.c1 hb20 rfl rfl ((stk_Top b v M 12 13 L x.fN _ (hs.below hB335) (by omega) (by omega) (by decide))) (fun w336 hw336 => ?_)
                    have hk337 := hk327.below hw336 hk327.lt
                    have hk338 := hkb326.below hw336 hkb326.lt
                    have hv339 := RowM.below hv329 hw336 (fun h0 => hv329.lt h0)
                    have hv340 := RowAt.below hv331 hw336 (fun h0 => hv331.lt h0)
                    have hv341 := RowM.below hv333 hw336 (fun h0 => hv333.lt h0)
                    have hB342 := btr hB335 hw336
                    refine WL.p (.mv rfl) rfl <| WL.p (.ext rfl rfl) rfl <| WL.p (.ext rfl rfl) rfl <| WL.stL rfl rfl hk338 isz39 rfl rfl (fun w343 hkw343 huw343 hsw343 => ?_)
                    have hk344 := hk337.upd huw343 (by ((try simp only) <;> omega))
                    have hv345 := RowM.upd hv339 huw343 (fun h0 => Nat.ne_of_lt (hvl330 h0))
                    have hv346 := RowAt.upd hv340 huw343 (fun h0 => Nat.ne_of_lt (hvl332 h0))
                    have hv347 := RowM.upd hv341 huw343 (fun h0 => Nat.ne_of_lt (hvl334 h0))
                    have hB348 := Upd.below hB342 (by omega) huw343
                    refine WL.p (.as rfl) rfl <| WL.nil <| ?_
                    refine W.seq ?_
                    refine W.reg ?_ -- 48
                    refine WL.r (Rd.ldA rfl hkw343 Try.underlying39 rfl isz39) rfl <| WL.bslM (L := objL) (ps := _) ([topV x.fN L 13]) Try.underlying25 Try.sizeOf39 Try.zeroValue39 rfl rfl rfl rfl rfl (by first | rfl | decide) rfl rfl (fun b349 wb349 eb349 hob349 hub349 hsb349 => ?_)
                    have hl351 : b10 < b349 := by rw [eb349]; exact hk344.lt
                    have hk350 := hk344.upd hub349 (Nat.ne_of_lt hl351)
                    have hl353 : b326 < b349 := by rw [eb349]; exact hkw343.lt
                    have hk352 := hkw343.upd hub349 (Nat.ne_of_lt hl353)
                    have hvl355 := fun h0 => eb349 ▸ hv345.lt h0
                    have hv354 := RowM.upd hv345 hub349 (fun h0 => Nat.ne_of_lt (hvl355 h0))
                    have hvl357 := fun h0 => eb349 ▸ hv346.lt h0
                    have hv356 := RowAt.upd hv346 hub349 (fun h0 => Nat.ne_of_lt (hvl357 h0))
                    have hvl359 := fun h0 => eb349 ▸ hv347.lt h0
                    have hv358 := RowM.upd hv347 hub349 (fun h0 => Nat.ne_of_lt (hvl359 h0))
                    have hB360 := Upd.below hB348 (by rw [eb349]; exact hB348.size) hub349
                    have hgeb349 : w1.heap.size ≤ b349 := by rw [eb349]; exact hB348.size
                    have hleb349 : b349 ≤ wb349.heap.size := by omega
                    refine WL.p (.as rfl) rfl <| WL.nil <| ?_
                    refine W.seq ?_
                    refine W.reg ?_ -- 49
                    refine WL.p (.buildL (ps := _) blt39 rfl rfl rfl (by simp only [put1, List.map, List.zip, List.zipWith] <;> rfl)) rfl ?_
                    refine WL.bslM (L := objL) (ps := _) ([objZ]) Try.underlying25 Try.sizeOf39 Try.zeroValue39 rfl rfl rfl rfl rfl (by first | rfl | decide) rfl rfl (fun b361 wb361 eb361 hob361 hub361 hsb361 => ?_)
                    have hle363 := Nat.le_trans hleb349 hub361.size
                    have ho362 := OwnM.new hob349 eb361 hub361
                    have hl365 : b10 < b361 := by rw [eb361]; exact hk350.lt
                    have hk364 := hk350.upd hub361 (Nat.ne_of_lt hl365)
                    have hl367 : b326 < b361 := by rw [eb361]; exact hk352.lt
                    have hk366 := hk352.upd hub361 (Nat.ne_of_lt hl367)
                    have hvl369 := fun h0 => eb361 ▸ hv354.lt h0
                    have hv368 := RowM.upd hv354 hub361 (fun h0 => Nat.ne_of_lt (hvl369 h0))
                    have hvl371 := fun h0 => eb361 ▸ hv356.lt h0
                    have hv370 := RowAt.upd hv356 hub361 (fun h0 => Nat.ne_of_lt (hvl371 h0))
                    have hvl373 := fun h0 => eb361 ▸ hv358.lt h0
                    have hv372 := RowM.upd hv358 hub361 (fun h0 => Nat.ne_of_lt (hvl373 h0))
                    have hB374 := Upd.below hB360 (by rw [eb361]; exact hB360.size) hub361
                    have hgeb361 : w1.heap.size ≤ b361 := by rw [eb361]; exact hB360.size
                    have hleb361 : b361 ≤ wb361.heap.size := by omega
                    refine WL.p (.as rfl) rfl <| WL.nil <| ?_
                    refine W.seq ?_
                    refine W.reg ?_ -- 50
                    refine WL.p (.mv rfl) rfl <| WL.p (.eql rfl rfl) rfl <| WL.nil <| ?_
                    refine W.cond rfl (fun h375 => ?_) (fun h375 => ?_) -- slot 164
                    · have h375' := of_decide_eq_true h375
                      refine W.reg ?_ -- 51
                      refine WL.p (.mv rfl) rfl <| WL.p (.mv rfl) rfl <| WL.p (.sub rfl rfl (i64w (by omega))) rfl <| WL.p (.fa Try.underlying37 rfl Try.sizeOf3 (by decide) rfl) rfl <| WL.r (Rd.ld (Try.isAgg3 _) rfl hk364 rfl) rfl <| WL.p (.sub rfl rfl (i64w (by omega))) rfl <| WL.p (.ixm Try.underlying25 Try.sizeOf39 rfl rfl (hv372.isp (by omega)) (L.length - 1 - x.fN.toNat) (by omega) (by omega)) rfl <| WL.r (Rd.ldS Try.underlying39 rfl isz39 hv372 (L.length - 1 - x.fN.toNat) (by omega) rfl) rfl <| WL.bslM (L := objL) (ps := _) ([L[L.length - 1 - x.fN.toNat]'(by omega)]) Try.underlying25 Try.sizeOf39 Try.zeroValue39 rfl rfl rfl rfl rfl (by first | rfl | decide) rfl rfl (fun b376 wb376 eb376 hob376 hub376 hsb376 => ?_)
                      have hle378 := Nat.le_trans hle363 hub376.size
                      have ho377 := OwnM.new ho362 eb376 hub376
                      have hle380 := Nat.le_trans hleb361 hub376.size
                      have ho379 := OwnM.new hob361 eb376 hub376
                      have hl382 : b10 < b376 := by rw [eb376]; exact hk364.lt
                      have hk381 := hk364.upd hub376 (Nat.ne_of_lt hl382)
                      have hl384 : b326 < b376 := by rw [eb376]; exact hk366.lt
                      have hk383 := hk366.upd hub376 (Nat.ne_of_lt hl384)
                      have hvl386 := fun h0 => eb376 ▸ hv368.lt h0
                      have hv385 := RowM.upd hv368 hub376 (fun h0 => Nat.ne_of_lt (hvl386 h0))
                      have hvl388 := fun h0 => eb376 ▸ hv370.lt h0
                      have hv387 := RowAt.upd hv370 hub376 (fun h0 => Nat.ne_of_lt (hvl388 h0))
                      have hvl390 := fun h0 => eb376 ▸ hv372.lt h0
                      have hv389 := RowM.upd hv372 hub376 (fun h0 => Nat.ne_of_lt (hvl390 h0))
                      have hB391 := Upd.below hB374 (by rw [eb376]; exact hB374.size) hub376
                      have hgeb376 : w1.heap.size ≤ b376 := by rw [eb376]; exact hB374.size
                      have hleb376 : b376 ≤ wb376.heap.size := by omega
                      refine WL.p (.as rfl) rfl <| WL.nil <| ?_
                      -- join b2.meet/27
                      (exfalso; omega)
                      -- met
                    · have h375' := of_decide_eq_false h375
                      refine W.skip ?_
                      -- join b2.meet/28
                      (have hf := place_big L x.fN objZ (by omega) (by omega); exact ⟨⟨_, 13, _, _, _, v, L⟩, ⟨rfl, rfl, rfl, rfl, rfl, rfl, rfl, rfl, rfl, rfl, rfl, trivial⟩, ⟨Below.trans hT (hB374.mono hT.size), hs.below hB374, hm.below hB374, by ((try simp only) <;> omega), hf.1, SameSl.mk (l := [objZ]) (by have ho := ho362; rw [hf.2.1] at ho; exact ho) hob361 (by decide)⟩⟩)
                      -- met
                  · have h325' := of_decide_eq_false h325
                    refine W.seq ?_
                    refine W.reg ?_ -- 52
                    refine WL.p (.fa Try.underlying37 rfl Try.sizeOf3 (by decide) rfl) rfl <| WL.r (Rd.ld (Try.isAgg3 _) rfl hkx rfl) rfl <| ?_
                    refine WL.p (.buildL (ps := _) blt39 rfl rfl rfl (by simp only [put1, List.map, List.zip, List.zipWith, List.set] <;> rfl)) rfl ?_
                    refine WL.alloc Try.zeroValue39 rfl (fun b392 wb392 eb392 hkb392 hub392 hsb392 => ?_)
                    have hl394 : b10 < b392 := by rw [eb392]; exact hkx.lt
                    have hk393 := hkx.upd hub392 (Nat.ne_of_lt hl394)
                    have hvl396 := fun h0 => eb392 ▸ hxl.lt h0
                    have hv395 := RowM.upd hxl hub392 (fun h0 => Nat.ne_of_lt (hvl396 h0))
                    have hvl398 := fun h0 => eb392 ▸ hxk.lt h0
                    have hv397 := RowAt.upd hxk hub392 (fun h0 => Nat.ne_of_lt (hvl398 h0))
                    have hvl400 := fun h0 => eb392 ▸ hrm.lt h0
                    have hv399 := RowM.upd hrm hub392 (fun h0 => Nat.ne_of_lt (hvl400 h0))
                    have hB401 := Upd.below hB16 (by rw [eb392]; exact hB16.size) hub392
                    have hgeb392 : w1.heap.size ≤ b392 := by rw [eb392]; exact hB16.size
                    refine WL.stL rfl rfl hkb392 isz39 rfl rfl (fun w402 hkw402 huw402 hsw402 => ?_)
                    have hk403 := hk393.upd huw402 (by ((try simp only) <;> omega))
                    have hv404 := RowM.upd hv395 huw402 (fun h0 => Nat.ne_of_lt (hvl396 h0))
                    have hv405 := RowAt.upd hv397 huw402 (fun h0 => Nat.ne_of_lt (hvl398 h0))
                    have hv406 := RowM.upd hv399 huw402 (fun h0 => Nat.ne_of_lt (hvl400 h0))
                    have hB407 := Upd.below hB401 (by omega) huw402
                    refine WL.nil <| ?_
                    refine W.seq ?_
                    refine W.reg ?_ -- 53
                    refine WL.p (.mv rfl) rfl <| WL.p (.fa Try.underlying37 rfl Try.sizeOf3 (by decide) rfl) rfl <| WL.r (Rd.ld (Try.isAgg3 _) rfl hk403 rfl) rfl <| WL.r (Rd.ldA rfl hkw402 Try.underlying39 rfl isz39) rfl <| WL.c1 hb21 rfl rfl ((stk_Swap b v M 12 13 L x.fN ⟨1, false, 0, x.fJ, [], 0, 0, 0⟩ _ (hs.below hB407) (by omega) (by omega) (by decide))) (fun w408 hw408 => ?_)
                    obtain ⟨hs2, hkb2⟩ := hw408
                    have hk2 := Stk.ofKeep hkb2
                    obtain ⟨hT3, hm3, hc3⟩ := act_arm hT hB407 hs hm hb0 hk2
                    have hkc := hc3 _ _ _ hgeb10 hk403
                    have hB3 := Below.refl w408.heap.size w408
                    have hok3 := (hokx.below hT3)
                    have hxl3 := hok3.row_fList
                    have hxk3 := hok3.row_fKinds
                    obtain ⟨hrm3, hmb3⟩ := hm3.at
                    have hke := hc3 _ _ _ hgeb392 hkw402
                    refine WL.p (.as rfl) rfl <| WL.nil <| ?_
                    refine W.seq ?_
                    refine W.reg ?_ -- 54
                    refine WL.p (.mv rfl) rfl <| WL.p (.eql rfl rfl) rfl <| WL.nil <| ?_
                    refine W.cond rfl (fun h409 => ?_) (fun h409 => ?_) -- slot 183
                    · have h409' := of_decide_eq_true h409
                      refine W.seq ?_
                      refine W.reg ?_ -- 55
                      refine WL.bsl0 Try.underlying25 Try.sizeOf39 rfl (fun b410 wb410 eb410 hob410 hub410 hsb410 => ?_)
                      have hl412 : b10 < b410 := by rw [eb410]; exact hkc.lt
                      have hk411 := hkc.upd hub410 (Nat.ne_of_lt hl412)
                      have hl414 : b392 < b410 := by rw [eb410]; exact hke.lt
                      have hk413 := hke.upd hub410 (Nat.ne_of_lt hl414)
                      have hvl416 := fun h0 => eb410 ▸ hxl3.lt h0
                      have hv415 := RowM.upd hxl3 hub410 (fun h0 => Nat.ne_of_lt (hvl416 h0))
                      have hvl418 := fun h0 => eb410 ▸ hxk3.lt h0
                      have hv417 := RowAt.upd hxk3 hub410 (fun h0 => Nat.ne_of_lt (hvl418 h0))
                      have hvl420 := fun h0 => eb410 ▸ hrm3.lt h0
                      have hv419 := RowM.upd hrm3 hub410 (fun h0 => Nat.ne_of_lt (hvl420 h0))
                      have hB421 := Upd.below hB3 (by rw [eb410]; exact hB3.size) hub410
                      have hgeb410 : w408.heap.size ≤ b410 := by rw [eb410]; exact hB3.size
                      have hob410 := OwnM.of (L := objL) (l := []) (hob410 b410 (Nat.le_refl _))
                      have hleb410 : b410 ≤ wb410.heap.size := by omega
                      refine WL.p (.mv rfl) rfl <| WL.appM Try.underlying25 inf39 rfl rfl rfl hob410 rfl hv419 (by simp only [List.length_nil, List.length_append]; omega) (hleb410) rfl (hsm.nil) (fun v422 w423 how423 hbw423 hgw423 hfw423 => ?_)
                      have hk424 := hk411.below hbw423 (by omega)
                      have hk425 := hk413.below hbw423 (by omega)
                      have hv426 := RowM.below hv415 hbw423 hvl416
                      have hv427 := RowAt.below hv417 hbw423 hvl418
                      have hv428 := RowM.below hv419 hbw423 hvl420
                      have hB429 := Below.trans hB421 (hbw423.mono (hgeb410))
                      have hle430 := Nat.le_trans hleb410 hbw423.size
                      refine WL.p (.as rfl) rfl <| WL.nil <| ?_
                      obtain ⟨pv, cv, e9, hrv, -⟩ := (show OwnM objL 39 _ w423 _ L from how423).row
                      subst e9
                      have hov := (show OwnM objL 39 _ w423 (.slice pv L.length cv) L from how423)
                      refine W.reg ?_ -- 56
                      refine WL.p (.mv rfl) rfl <| WL.p (.mv rfl) rfl <| WL.p (.iis ((L.length : Int) - 1) (.sub rfl rfl (i64w (by omega))) (by omega)) rfl <| WL.p (.fa Try.underlying37 rfl Try.sizeOf3 (by decide) rfl) rfl <| WL.r (Rd.ld (Try.isAgg3 _) rfl hk424 rfl) rfl <| WL.p (.iis (((L.length - 1 - x.fN.toNat : Nat) : Int)) (.sub rfl rfl (i64w (by omega))) (by omega)) rfl <| WL.r (Rd.ldA rfl hk425 Try.underlying39 rfl isz39) rfl <| WL.p (.ixm Try.underlying25 Try.sizeOf39 rfl rfl (hrv.isp (by omega)) (L.length - 1 - x.fN.toNat) rfl (by omega)) rfl <| WL.stM (L := objL) ⟨1, false, 0, x.fJ, [], 0, 0, 0⟩ (L.length - 1 - x.fN.toNat) hov (by omega) isz39 rfl rfl rfl (fun wc gc hgc huc hoc => ?_)
                      have hB8 := Upd.below hB429 (by have := (hov.lt gc (by rw [hgc]; rfl)).1; omega) huc
                      refine WL.nil <| ?_
                      -- join b2.meet/29
                      (exfalso; omega)
                      -- met
                    · have h409' := of_decide_eq_false h409
                      refine W.skip ?_
                      -- join b2.meet/30
                      (have hf := place_big L x.fN ⟨1, false, 0, x.fJ, [], 0, 0, 0⟩ (by omega) (by omega); rw [hf.2.2] at hs2; exact ⟨⟨_, 13, _, _, _, v, L⟩, ⟨rfl, rfl, rfl, rfl, rfl, rfl, rfl, rfl, rfl, rfl, rfl, trivial⟩, ⟨Below.trans hT3 (hB3.mono hT3.size), hs2.below hB3, hm3.below hB3, by ((try simp only) <;> omega), hf.1, SameSl.nil _⟩⟩)
                      -- met
                · have h324' := of_decide_eq_false h324
                  refine W.skip ?_
                  refine W.seq ?_
                  refine W.reg ?_ -- 45
                  refine WL.p (.fa Try.underlying37 rfl Try.sizeOf3 (by decide) rfl) rfl <| WL.r (Rd.ld (Try.isAgg3 _) rfl hkx rfl) rfl <| WL.p (.eql rfl rfl) rfl <| WL.nil <| ?_
                  refine W.cond rfl (fun h432 => ?_) (fun h432 => ?_) -- slot 151
                  · have h432' := of_decide_eq_true h432
                    refine W.seq ?_
                    refine W.reg ?_ -- 46
                    refine WL.alloc Try.zeroValue39 rfl (fun b433 wb433 eb433 hkb433 hub433 hsb433 => ?_)
                    have hl435 : b10 < b433 := by rw [eb433]; exact hkx.lt
                    have hk434 := hkx.upd hub433 (Nat.ne_of_lt hl435)
                    have hvl437 := fun h0 => eb433 ▸ hxl.lt h0
                    have hv436 := RowM.upd hxl hub433 (fun h0 => Nat.ne_of_lt (hvl437 h0))
                    have hvl439 := fun h0 => eb433 ▸ hxk.lt h0
                    have hv438 := RowAt.upd hxk hub433 (fun h0 => Nat.ne_of_lt (hvl439 h0))
                    have hvl441 := fun h0 => eb433 ▸ hrm.lt h0
                    have hv440 := RowM.upd hrm hub433 (fun h0 => Nat.ne_of_lt (hvl441 h0))
                    have hB442 := Upd.below hB16 (by rw [eb433]; exact hB16.size) hub433
                    have hgeb433 : w1.heap.size ≤ b433 := by rw [eb433]; exact hB16.size
                    refine WL.nil <| ?_
                    refine W.seq ?_
                    refine W.reg ?_ -- 47
                    refine WL.p (.mv rfl) rfl <| WL.p (.fa Try.underlying37 rfl Try.sizeOf3 (by decide) rfl) rfl <| WL.r (Rd.ld (Try.isAgg3 _) rfl hk434 rfl) rfl <| WL.c1 hb20 rfl rfl ((stk_Top b v M 12 13 L x.fN _ (hs.below hB442) (by omega) (by omega) (by decide))) (fun w443 hw443 => ?_)
                    have hk444 := hk434.below hw443 hk434.lt
                    have hk445 := hkb433.below hw443 hkb433.lt
                    have hv446 := RowM.below hv436 hw443 (fun h0 => hv436.lt h0)
                    have hv447 := RowAt.below hv438 hw443 (fun h0 => hv438.lt h0)
                    have hv448 := RowM.below hv440 hw443 (fun h0 => hv440.lt h0)
                    have hB449 := btr hB442 hw443
                    refine WL.p (.mv rfl) rfl <| WL.p (.ext rfl rfl) rfl <| WL.p (.ext rfl rfl) rfl <| WL.stL rfl rfl hk445 isz39 rfl rfl (fun w450 hkw450 huw450 hsw450 => ?_)
                    have hk451 := hk444.upd huw450 (by ((try simp only) <;> omega))
                    have hv452 := RowM.upd hv446 huw450 (fun h0 => Nat.ne_of_lt (hvl437 h0))
                    have hv453 := RowAt.upd hv447 huw450 (fun h0 => Nat.ne_of_lt (hvl439 h0))
                    have hv454 := RowM.upd hv448 huw450 (fun h0 => Nat.ne_of_lt (hvl441 h0))
                    have hB455 := Upd.below hB449 (by omega) huw450
                    refine WL.p (.as rfl) rfl <| WL.nil <| ?_
                    refine W.seq ?_
                    refine W.reg ?_ -- 48
                    refine WL.r (Rd.ldA rfl hkw450 Try.underlying39 rfl isz39) rfl <| WL.bslM (L := objL) (ps := _) ([topV x.fN L 13]) Try.underlying25 Try.sizeOf39 Try.zeroValue39 rfl rfl rfl rfl rfl (by first | rfl | decide) rfl rfl (fun b456 wb456 eb456 hob456 hub456 hsb456 => ?_)
                    have hl458 : b10 < b456 := by rw [eb456]; exact hk451.lt
                    have hk457 := hk451.upd hub456 (Nat.ne_of_lt hl458)
                    have hl460 : b433 < b456 := by rw [eb456]; exact hkw450.lt
                    have hk459 := hkw450.upd hub456 (Nat.ne_of_lt hl460)
                    have hvl462 := fun h0 => eb456 ▸ hv452.lt h0
                    have hv461 := RowM.upd hv452 hub456 (fun h0 => Nat.ne_of_lt (hvl462 h0))
                    have hvl464 := fun h0 => eb456 ▸ hv453.lt h0
                    have hv463 := RowAt.upd hv453 hub456 (fun h0 => Nat.ne_of_lt (hvl464 h0))
                    have hvl466 := fun h0 => eb456 ▸ hv454.lt h0
                    have hv465 := RowM.upd hv454 hub456 (fun h0 => Nat.ne_of_lt (hvl466 h0))
                    have hB467 := Upd.below hB455 (by rw [eb456]; exact hB455.size) hub456
                    have hgeb456 : w1.heap.size ≤ b456 := by rw [eb456]; exact hB455.size
                    have hleb456 : b456 ≤ wb456.heap.size := by omega
                    refine WL.p (.as rfl) rfl <| WL.nil <| ?_
                    refine W.seq ?_
                    refine W.reg ?_ -- 49
                    refine WL.p (.buildL (ps := _) blt39 rfl rfl rfl (by simp only [put1, List.map, List.zip, List.zipWith] <;> rfl)) rfl ?_
                    refine WL.bslM (L := objL) (ps := _) ([objZ]) Try.underlying25 Try.sizeOf39 Try.zeroValue39 rfl rfl rfl rfl rfl (by first | rfl | decide) rfl rfl (fun b468 wb468 eb468 hob468 hub468 hsb468 => ?_)
                    have hle470 := Nat.le_trans hleb456 hub468.size
                    have ho469 := OwnM.new hob456 eb468 hub468
                    have hl472 : b10 < b468 := by rw [eb468]; exact hk457.lt
                    have hk471 := hk457.upd hub468 (Nat.ne_of_lt hl472)
                    have hl474 : b433 < b468 := by rw [eb468]; exact hk459.lt
                    have hk473 := hk459.upd hub468 (Nat.ne_of_lt hl474)
                    have hvl476 := fun h0 => eb468 ▸ hv461.lt h0
                    have hv475 := RowM.upd hv461 hub468 (fun h0 => Nat.ne_of_lt (hvl476 h0))
                    have hvl478 := fun h0 => eb468 ▸ hv463.lt h0
                    have hv477 := RowAt.upd hv463 hub468 (fun h0 => Nat.ne_of_lt (hvl478 h0))
                    have hvl480 := fun h0 => eb468 ▸ hv465.lt h0
                    have hv479 := RowM.upd hv465 hub468 (fun h0 => Nat.ne_of_lt (hvl480 h0))
                    have hB481 := Upd.below hB467 (by rw [eb468]; exact hB467.size) hub468
                    have hgeb468 : w1.heap.size ≤ b468 := by rw [eb468]; exact hB467.size
                    have hleb468 : b468 ≤ wb468.heap.size := by omega
                    refine WL.p (.as rfl) rfl <| WL.nil <| ?_
                    refine W.seq ?_
                    refine W.reg ?_ -- 50
                    refine WL.p (.mv rfl) rfl <| WL.p (.eql rfl rfl) rfl <| WL.nil <| ?_
                    refine W.cond rfl (fun h482 => ?_) (fun h482 => ?_) -- slot 164
                    · have h482' := of_decide_eq_true h482
                      refine W.reg ?_ -- 51
                      refine WL.p (.mv rfl) rfl <| WL.p (.mv rfl) rfl <| WL.p (.sub rfl rfl (i64w (by omega))) rfl <| WL.p (.fa Try.underlying37 rfl Try.sizeOf3 (by decide) rfl) rfl <| WL.r (Rd.ld (Try.isAgg3 _) rfl hk471 rfl) rfl <| WL.p (.sub rfl rfl (i64w (by omega))) rfl <| WL.p (.ixm Try.underlying25 Try.sizeOf39 rfl rfl (hv479.isp (by omega)) (L.length - 1 - x.fN.toNat) (by omega) (by omega)) rfl <| WL.r (Rd.ldS Try.underlying39 rfl isz39 hv479 (L.length - 1 - x.fN.toNat) (by omega) rfl) rfl <| WL.bslM (L := objL) (ps := _) ([L[L.length - 1 - x.fN.toNat]'(by omega)]) Try.underlying25 Try.sizeOf39 Try.zeroValue39 rfl rfl rfl rfl rfl (by first | rfl | decide) rfl rfl (fun b483 wb483 eb483 hob483 hub483 hsb483 => ?_)
                      have hle485 := Nat.le_trans hle470 hub483.size
                      have ho484 := OwnM.new ho469 eb483 hub483
                      have hle487 := Nat.le_trans hleb468 hub483.size
                      have ho486 := OwnM.new hob468 eb483 hub483
                      have hl489 : b10 < b483 := by rw [eb483]; exact hk471.lt
                      have hk488 := hk471.upd hub483 (Nat.ne_of_lt hl489)
                      have hl491 : b433 < b483 := by rw [eb483]; exact hk473.lt
                      have hk490 := hk473.upd hub483 (Nat.ne_of_lt hl491)
                      have hvl493 := fun h0 => eb483 ▸ hv475.lt h0
                      have hv492 := RowM.upd hv475 hub483 (fun h0 => Nat.ne_of_lt (hvl493 h0))
                      have hvl495 := fun h0 => eb483 ▸ hv477.lt h0
                      have hv494 := RowAt.upd hv477 hub483 (fun h0 => Nat.ne_of_lt (hvl495 h0))
                      have hvl497 := fun h0 => eb483 ▸ hv479.lt h0
                      have hv496 := RowM.upd hv479 hub483 (fun h0 => Nat.ne_of_lt (hvl497 h0))
                      have hB498 := Upd.below hB481 (by rw [eb483]; exact hB481.size) hub483
                      have hgeb483 : w1.heap.size ≤ b483 := by rw [eb483]; exact hB481.size
                      have hleb483 : b483 ≤ wb483.heap.size := by omega
                      refine WL.p (.as rfl) rfl <| WL.nil <| ?_
                      -- join b2.meet/31
                      (have hf := place_ok L x.fN (L.length - 1 - x.fN.toNat) objZ (by omega) (by omega) rfl; exact ⟨⟨_, 0, _, _, _, v, L⟩, ⟨rfl, rfl, rfl, rfl, rfl, rfl, rfl, rfl, rfl, rfl, rfl, trivial⟩, ⟨Below.trans hT (hB498.mono hT.size), hs.below hB498, hm.below hB498, by ((try simp only) <;> omega), hf.1, SameSl.mk (by have ho := ho484; rw [hf.2.1] at ho; exact ho) hob483 (by simp)⟩⟩)
                      -- met
                    · have h482' := of_decide_eq_false h482
                      refine W.skip ?_
                      -- join b2.meet/32
                      (exfalso; omega)
                      -- met
                  · have h432' := of_decide_eq_false h432
                    refine W.seq ?_
                    refine W.reg ?_ -- 52
                    refine WL.p (.fa Try.underlying37 rfl Try.sizeOf3 (by decide) rfl) rfl <| WL.r (Rd.ld (Try.isAgg3 _) rfl hkx rfl) rfl <| ?_
                    refine WL.p (.buildL (ps := _) blt39 rfl rfl rfl (by simp only [put1, List.map, List.zip, List.zipWith, List.set] <;> rfl)) rfl ?_
                    refine WL.alloc Try.zeroValue39 rfl (fun b499 wb499 eb499 hkb499 hub499 hsb499 => ?_)
                    have hl501 : b10 < b499 := by rw [eb499]; exact hkx.lt
                    have hk500 := hkx.upd hub499 (Nat.ne_of_lt hl501)
                    have hvl503 := fun h0 => eb499 ▸ hxl.lt h0
                    have hv502 := RowM.upd hxl hub499 (fun h0 => Nat.ne_of_lt (hvl503 h0))
                    have hvl505 := fun h0 => eb499 ▸ hxk.lt h0
                    have hv504 := RowAt.upd hxk hub499 (fun h0 => Nat.ne_of_lt (hvl505 h0))
                    have hvl507 := fun h0 => eb499 ▸ hrm.lt h0
                    have hv506 := RowM.upd hrm hub499 (fun h0 => Nat.ne_of_lt (hvl507 h0))
                    have hB508 := Upd.below hB16 (by rw [eb499]; exact hB16.size) hub499
                    have hgeb499 : w1.heap.size ≤ b499 := by rw [eb499]; exact hB16.size
                    refine WL.stL rfl rfl hkb499 isz39 rfl rfl (fun w509 hkw509 huw509 hsw509 => ?_)
                    have hk510 := hk500.upd huw509 (by ((try simp only) <;> omega))
                    have hv511 := RowM.upd hv502 huw509 (fun h0 => Nat.ne_of_lt (hvl503 h0))
                    have hv512 := RowAt.upd hv504 huw509 (fun h0 => Nat.ne_of_lt (hvl505 h0))
                    have hv513 := RowM.upd hv506 huw509 (fun h0 => Nat.ne_of_lt (hvl507 h0))
                    have hB514 := Upd.below hB508 (by omega) huw509
                    refine WL.nil <| ?_
                    refine W.seq ?_
                    refine W.reg ?_ -- 53
                    refine WL.p (.mv rfl) rfl <| WL.p (.fa Try.underlying37 rfl Try.sizeOf3 (by decide) rfl) rfl <| WL.r (Rd.ld (Try.isAgg3 _) rfl hk510 rfl) rfl <| WL.r (Rd.ldA rfl hkw509 Try.underlying39 rfl isz39) rfl <| WL.c1 hb21 rfl rfl ((stk_Swap b v M 12 13 L x.fN ⟨1, false, 0, x.fJ, [], 0, 0, 0⟩ _ (hs.below hB514) (by omega) (by omega) (by decide))) (fun w515 hw515 => ?_)
                    obtain ⟨hs2, hkb2⟩ := hw515
                    have hk2 := Stk.ofKeep hkb2
                    obtain ⟨hT3, hm3, hc3⟩ := act_arm hT hB514 hs hm hb0 hk2
                    have hkc := hc3 _ _ _ hgeb10 hk510
                    have hB3 := Below.refl w515.heap.size w515
                    have hok3 := (hokx.below hT3)
                    have hxl3 := hok3.row_fList
                    have hxk3 := hok3.row_fKinds
                    obtain ⟨hrm3, hmb3⟩ := hm3.at
                    have hke := hc3 _ _ _ hgeb499 hkw509
                    refine WL.p (.as rfl) rfl <| WL.nil <| ?_
                    refine W.seq ?_
                    refine W.reg ?_ -- 54
                    refine WL.p (.mv rfl) rfl <| WL.p (.eql rfl rfl) rfl <| WL.nil <| ?_
                    refine W.cond rfl (fun h516 => ?_) (fun h516 => ?_) -- slot 183
                    · have h516' := of_decide_eq_true h516
                      refine W.seq ?_
                      refine W.reg ?_ -- 55
                      refine WL.bsl0 Try.underlying25 Try.sizeOf39 rfl (fun b517 wb517 eb517 hob517 hub517 hsb517 => ?_)
                      have hl519 : b10 < b517 := by rw [eb517]; exact hkc.lt
                      have hk518 := hkc.upd hub517 (Nat.ne_of_lt hl519)
                      have hl521 : b499 < b517 := by rw [eb517]; exact hke.lt
                      have hk520 := hke.upd hub517 (Nat.ne_of_lt hl521)
                      have hvl523 := fun h0 => eb517 ▸ hxl3.lt h0
                      have hv522 := RowM.upd hxl3 hub517 (fun h0 => Nat.ne_of_lt (hvl523 h0))
                      have hvl525 := fun h0 => eb517 ▸ hxk3.lt h0
                      have hv524 := RowAt.upd hxk3 hub517 (fun h0 => Nat.ne_of_lt (hvl525 h0))
                      have hvl527 := fun h0 => eb517 ▸ hrm3.lt h0
                      have hv526 := RowM.upd hrm3 hub517 (fun h0 => Nat.ne_of_lt (hvl527 h0))
                      have hB528 := Upd.below hB3 (by rw [eb517]; exact hB3.size) hub517
                      have hgeb517 : w515.heap.size ≤ b517 := by rw [eb517]; exact hB3.size
                      have hob517 := OwnM.of (L := objL) (l := []) (hob517 b517 (Nat.le_refl _))
                      have hleb517 : b517 ≤ wb517.heap.size := by omega
                      refine WL.p (.mv rfl) rfl <| WL.appM Try.underlying25 inf39 rfl rfl rfl hob517 rfl hv526 (by simp only [List.length_nil, List.length_append]; omega) (hleb517) rfl (hsm.nil) (fun v529 w530 how530 hbw530 hgw530 hfw530 => ?_)
                      have hk531 := hk518.below hbw530 (by omega)
                      have hk532 := hk520.below hbw530 (by omega)
                      have hv533 := RowM.below hv522 hbw530 hvl523
                      have hv534 := RowAt.below hv524 hbw530 hvl525
                      have hv535 := RowM.below hv526 hbw530 hvl527
                      have hB536 := Below.trans hB528 (hbw530.mono (hgeb517))
                      have hle537 := Nat.le_trans hleb517 hbw530.size
                      refine WL.p (.as rfl) rfl <| WL.nil <| ?_
                      obtain ⟨pv, cv, e9, hrv, -⟩ := (show OwnM objL 39 _ w530 _ L from how530).row
                      subst e9
                      have hov := (show OwnM objL 39 _ w530 (.slice pv L.length cv) L from how530)
                      refine W.reg ?_ -- 56
                      refine WL.p (.mv rfl) rfl <| WL.p (.mv rfl) rfl <| WL.p (.iis ((L.length : Int) - 1) (.sub rfl rfl (i64w (by omega))) (by omega)) rfl <| WL.p (.fa Try.underlying37 rfl Try.sizeOf3 (by decide) rfl) rfl <| WL.r (Rd.ld (Try.isAgg3 _) rfl hk531 rfl) rfl <| WL.p (.iis (((L.length - 1 - x.fN.toNat : Nat) : Int)) (.sub rfl rfl (i64w (by omega))) (by omega)) rfl <| WL.r (Rd.ldA rfl hk532 Try.underlying39 rfl isz39) rfl <| WL.p (.ixm Try.underlying25 Try.sizeOf39 rfl rfl (hrv.isp (by omega)) (L.length - 1 - x.fN.toNat) rfl (by omega)) rfl <| WL.stM (L := objL) ⟨1, false, 0, x.fJ, [], 0, 0, 0⟩ (L.length - 1 - x.fN.toNat) hov (by omega) isz39 rfl rfl rfl (fun wc gc hgc huc hoc => ?_)
                      have hB8 := Upd.below hB536 (by have := (hov.lt gc (by rw [hgc]; rfl)).1; omega) huc
                      refine WL.nil <| ?_
                      -- join b2.meet/33
                      (have hf := place_ok L x.fN (L.length - 1 - x.fN.toNat) ⟨1, false, 0, x.fJ, [], 0, 0, 0⟩ (by omega) (by omega) rfl; rw [hf.2.2] at hs2; exact ⟨⟨_, 0, _, _, _, v, L.set (L.length - 1 - x.fN.toNat) ⟨1, false, 0, x.fJ, [], 0, 0, 0⟩⟩, ⟨rfl, rfl, rfl, rfl, rfl, rfl, rfl, rfl, rfl, rfl, rfl, trivial⟩, ⟨Below.trans hT3 (hB8.mono hT3.size), hs2.below hB8, Mod.own hs2 hoc (by omega), by rw [List.length_set]; ((try simp only) <;> omega), hf.1, SameSl.nil _⟩⟩)
                      -- met
                    · have h516' := of_decide_eq_false h516
                      refine W.skip ?_
                      -- join b2.meet/34
                      (exfalso; omega)
                      -- met
            · have h215' := of_decide_eq_false h215
              refine W.seq ?_
              refine W.reg ?_ -- 57
              refine WL.p (.eql rfl rfl) rfl <| WL.p (.as rfl) rfl <| WL.nil <| ?_
              refine W.cond rfl (fun h539 => ?_) (fun h539 => ?_) -- slot 195
              · have h539' := of_decide_eq_true h539
                refine W.seq ?_
                refine W.reg ?_ -- 58
                refine WL.p (.mv rfl) rfl <| WL.p (.fa Try.underlying37 rfl Try.sizeOf3 (by decide) rfl) rfl <| WL.r (Rd.ld (Try.isAgg3 _) rfl hkx rfl) rfl <| WL.p (.fa Try.underlying37 rfl Try.sizeOf3 (by decide) rfl) rfl <| WL.r (Rd.ld (Try.isAgg3 _) rfl hkx rfl) rfl <| WL.c1 hb15 rfl rfl ((stk_Roll b v M 12 13 L x.fN x.fJ _ (hs.below hB16) (by omega) hwJ (by omega) (by decide))) (fun w540 hw540 => ?_)
                obtain ⟨hs2, hkb2⟩ := hw540
                have hk2 := Stk.ofKeep hkb2
                obtain ⟨hT3, hm3, hc3⟩ := act_arm hT hB16 hs hm hb0 hk2
                have hkc := hc3 _ _ _ hgeb10 hkx
                have hB3 := Below.refl w540.heap.size w540
                have hok3 := (hokx.below hT3)
                have hxl3 := hok3.row_fList
                have hxk3 := hok3.row_fKinds
                obtain ⟨hrm3, hmb3⟩ := hm3.at
                refine WL.p (.as rfl) rfl <| WL.nil <| ?_
                refine W.block ?_
                refine W.seq ?_
                refine W.reg ?_ -- 59
                refine WL.p (.fa Try.underlying37 rfl Try.sizeOf3 (by decide) rfl) rfl <| WL.r (Rd.ld (Try.isAgg3 _) rfl hkc rfl) rfl <| WL.p (.lss rfl rfl) rfl <| WL.p (.as rfl) rfl <| WL.nil <| ?_
                refine W.cond rfl (fun h541 => ?_) (fun h541 => ?_) -- slot 203
                · have h541' := of_decide_eq_true h541
                  refine W.reg ?_ -- 60
                  refine WL.p (.as rfl) rfl <| WL.nil <| ?_
                  -- join b2.meet/35
                  (have hf := take_neg L x.fN (by omega); rw [roll_same (.inl (by rw [hf.1]; decide))] at hs2; exact ⟨⟨_, 11, _, _, _, v, L⟩, ⟨rfl, rfl, rfl, rfl, rfl, rfl, rfl, rfl, rfl, rfl, rfl, trivial⟩, ⟨Below.trans hT3 (hB3.mono hT3.size), hs2.below hB3, hm3.below hB3, by ((try simp only) <;> omega), hf.1, SameSl.nil _⟩⟩)
                  -- met
                · have h541' := of_decide_eq_false h541
                  refine W.seq ?_
                  refine W.reg ?_ -- 61
                  refine WL.p (.fa Try.underlying37 rfl Try.sizeOf3 (by decide) rfl) rfl <| WL.r (Rd.ld (Try.isAgg3 _) rfl hkc rfl) rfl <| WL.p (.mv rfl) rfl <| WL.p (.gtr rfl rfl) rfl <| WL.p (.as rfl) rfl <| WL.nil <| ?_
                  refine W.cond rfl (fun h542 => ?_) (fun h542 => ?_) -- slot 207
                  · have h542' := of_decide_eq_true h542
                    refine W.reg ?_ -- 62
                    refine WL.p (.mv rfl) rfl <| WL.p (.as rfl) rfl <| WL.nil <| ?_
                    -- join b2.meet/36
                    (have hf := take_big L x.fN (by omega) (by omega); rw [roll_same (.inl (by rw [hf.1]; decide))] at hs2; exact ⟨⟨_, 13, _, _, _, v, L⟩, ⟨rfl, rfl, rfl, rfl, rfl, rfl, rfl, rfl, rfl, rfl, rfl, trivial⟩, ⟨Below.trans hT3 (hB3.mono hT3.size), hs2.below hB3, hm3.below hB3, by ((try simp only) <;> omega), hf.1, SameSl.nil _⟩⟩)
                    -- met
                  · have h542' := of_decide_eq_false h542
                    refine W.seq ?_
                    refine W.reg ?_ -- 63
                    refine WL.p (.fa Try.underlying37 rfl Try.sizeOf3 (by decide) rfl) rfl <| WL.r (Rd.ld (Try.isAgg3 _) rfl hkc rfl) rfl <| WL.p (.gtr rfl rfl) rfl <| WL.p (.as rfl) rfl <| WL.nil <| ?_
                    refine W.cond rfl (fun h543 => ?_) (fun h543 => ?_) -- slot 213
                    · have h543' := of_decide_eq_true h543
                      obtain ⟨N, hN⟩ : ∃ N : Nat, x.fN = N := ⟨x.fN.toNat, by omega⟩
                      have htc := tmod_case x.fJ N (by omega)
                      have hjn := Int.emod_nonneg x.fJ (show (N : Int) ≠ 0 by omega)
                      have hjl := Int.emod_lt_of_pos x.fJ (show (0 : Int) < (N : Int) by omega)
                      obtain ⟨jj, hjj⟩ : ∃ jj, jj = (x.fJ % (N : Int)).toNat := ⟨_, rfl⟩
                      obtain ⟨bN, hbN⟩ : ∃ bN, bN = L.length - N := ⟨_, rfl⟩
                      have htb : (x.fJ.tmod x.fN).natAbs < N := by rw [hN, Int.natAbs_tmod]; exact Nat.mod_lt _ (by omega)
                      rw [← hN] at htc
                      refine W.seq ?_
                      refine W.reg ?_ -- 64
                      refine WL.p (.fa Try.underlying37 rfl Try.sizeOf3 (by decide) rfl) rfl <| WL.r (Rd.ld (Try.isAgg3 _) rfl hkc rfl) rfl <| WL.p (.fa Try.underlying37 rfl Try.sizeOf3 (by decide) rfl) rfl <| WL.r (Rd.ld (Try.isAgg3 _) rfl hkc rfl) rfl <| WL.p (.rem rfl rfl (by omega) rfl) rfl <| WL.p (.as rfl) rfl <| WL.nil <| ?_
                      refine W.cut (α := Unit) (fun t => [(0, .int .i64 M), (1, .slice p l.length c), (5, .int .i64 12), (6, .int .i64 13), (7, .pointer (some ⟨b, 0, none⟩)), (8, .slice pm L.length cm), (9, .int .i64 (s : Int)), (10, .pointer (some ⟨b10, 0, none⟩)), (11, .int .i64 (L.length : Int)), (12, .int .i64 (checkE x.fN L 13)), (13, .int .i64 0), (14, .slice none 0 0), (15, .slice none 0 0), (20, .int .i64 (jj : Int))]) (fun t w' => w540 = w') ?_ (fun t w1 hR => ?_)
                      · skip
                        refine W.seq ?_
                        refine W.reg ?_ -- 65
                        refine WL.p (.mv rfl) rfl <| WL.p (.lss rfl rfl) rfl <| WL.nil <| ?_
                        refine W.cond rfl (fun h544 => ?_) (fun h544 => ?_) -- slot 223
                        · have h544' := of_decide_eq_true h544
                          refine W.reg ?_ -- 66
                          refine WL.p (.mv rfl) rfl <| WL.p (.fa Try.underlying37 rfl Try.sizeOf3 (by decide) rfl) rfl <| WL.r (Rd.ld (Try.isAgg3 _) rfl hkc rfl) rfl <| WL.p (.add rfl rfl (i64w (by omega))) rfl <| WL.p (.as rfl) rfl <| WL.nil <| ?_
                          -- join 223.meet/1
                          first
                          | exact ⟨(), ⟨rfl, rfl, rfl, rfl, rfl, rfl, rfl, rfl, rfl, rfl, rfl, rfl, rfl, lk_i rfl (by rw [htc.1 (by omega), hN]; omega), trivial⟩, rfl⟩
                          | exact ⟨(), ⟨rfl, rfl, rfl, rfl, rfl, rfl, rfl, rfl, rfl, rfl, rfl, rfl, rfl, lk_i rfl (by rw [htc.2 (by omega), hN]; omega), trivial⟩, rfl⟩
                          -- met
                        · have h544' := of_decide_eq_false h544
                          refine W.skip ?_
                          -- join 223.meet/2
                          first
                          | exact ⟨(), ⟨rfl, rfl, rfl, rfl, rfl, rfl, rfl, rfl, rfl, rfl, rfl, rfl, rfl, lk_i rfl (by rw [htc.1 (by omega), hN]; omega), trivial⟩, rfl⟩
                          | exact ⟨(), ⟨rfl, rfl, rfl, rfl, rfl, rfl, rfl, rfl, rfl, rfl, rfl, rfl, rfl, lk_i rfl (by rw [htc.2 (by omega), hN]; omega), trivial⟩, rfl⟩
                          -- met
                      obtain rfl := hR
                      refine W.seq ?_
                      refine W.reg ?_ -- 67
                      refine WL.bsl0 Try.underlying25 Try.sizeOf39 rfl (fun b545 wb545 eb545 hob545 hub545 hsb545 => ?_)
                      have hl547 : b10 < b545 := by rw [eb545]; exact hkc.lt
                      have hk546 := hkc.upd hub545 (Nat.ne_of_lt hl547)
                      have hvl549 := fun h0 => eb545 ▸ hxl3.lt h0
                      have hv548 := RowM.upd hxl3 hub545 (fun h0 => Nat.ne_of_lt (hvl549 h0))
                      have hvl551 := fun h0 => eb545 ▸ hxk3.lt h0
                      have hv550 := RowAt.upd hxk3 hub545 (fun h0 => Nat.ne_of_lt (hvl551 h0))
                      have hvl553 := fun h0 => eb545 ▸ hrm3.lt h0
                      have hv552 := RowM.upd hrm3 hub545 (fun h0 => Nat.ne_of_lt (hvl553 h0))
                      have hB554 := Upd.below hB3 (by rw [eb545]; exact hB3.size) hub545
                      have hgeb545 : w540.heap.size ≤ b545 := by rw [eb545]; exact hB3.size
                      have hob545 := OwnM.of (L := objL) (l := []) (hob545 b545 (Nat.le_refl _))
                      have hleb545 : b545 ≤ wb545.heap.size := by omega
                      refine WL.p (.mv rfl) rfl <| WL.appM Try.underlying25 inf39 rfl rfl rfl hob545 rfl hv552 (by simp only [List.length_nil, List.length_append]; omega) (hleb545) rfl (hsm.nil) (fun v555 w556 how556 hbw556 hgw556 hfw556 => ?_)
                      have hk557 := hk546.below hbw556 (by omega)
                      have hv558 := RowM.below hv548 hbw556 hvl549
                      have hv559 := RowAt.below hv550 hbw556 hvl551
                      have hv560 := RowM.below hv552 hbw556 hvl553
                      have hB561 := Below.trans hB554 (hbw556.mono (hgeb545))
                      have hle562 := Nat.le_trans hleb545 hbw556.size
                      refine WL.p (.as rfl) rfl <| WL.nil <| ?_
                      refine W.seq ?_
                      refine W.seq ?_
                      obtain ⟨px, cx, e9, hrx, -⟩ := (show OwnM objL 39 _ w556 _ L from how556).row
                      subst e9
                      have hox := (show OwnM objL 39 _ w556 (.slice px L.length cx) L from how556)
                      refine W.reg ?_ -- 68
                      refine WL.p (.as rfl) rfl <| WL.nil <| ?_
                      refine W.block ?_
                      -- loop 2: writes [22, 231, 232, 233, 234, 235, 236, 237, 238, 239, 240, 241, 242, 243, 244, 245, 246, 247, 248, 249, 250, 251, 252, 253, 254, 255, 256, 257, 258]; reads from outside [8, 10, 11, 20, 21, 22]
                      refine W.loop (α := Nat) (fun t => [(0, .int .i64 M), (1, .slice p l.length c), (5, .int .i64 12), (6, .int .i64 13), (7, .pointer (some ⟨b, 0, none⟩)), (8, .slice pm L.length cm), (9, .int .i64 (s : Int)), (10, .pointer (some ⟨b10, 0, none⟩)), (11, .int .i64 (L.length : Int)), (12, .int .i64 (checkE x.fN L 13)), (13, .int .i64 0), (14, .slice none 0 0), (15, .slice none 0 0), (20, .int .i64 (jj : Int)), (21, .slice px L.length cx), (22, .int .i64 (t : Int))]) (fun t w' => Below w540.heap.size w540 w' ∧ OwnM objL 39 w540.heap.size w' (.slice px L.length cx) (rollX L bN N jj t) ∧ t ≤ N) (fun t => N - t) (0) ⟨rfl, rfl, rfl, rfl, rfl, rfl, rfl, rfl, rfl, rfl, rfl, rfl, rfl, rfl, rfl, rfl, trivial⟩ (⟨hB561, hox.base (fun g hg => by have := (hox.lt g hg).1; omega), Nat.zero_le _⟩) (fun t w1 hR => ?_)
                      obtain ⟨k, rfl⟩ : ∃ k, k = t := ⟨t, rfl⟩
                      obtain ⟨hB6, hox6, hk6⟩ := hR
                      have hkc6 := hkc.below hB6 hkc.lt
                      have hrm6 := hrm3.below hB6 (fun h0 => hrm3.lt h0)
                      have hlx := rollX_len L bN N jj k
                      refine W.seq ?_
                      refine W.seq ?_
                      refine W.reg ?_ -- 69
                      refine WL.p (.mv rfl) rfl <| WL.p (.fa Try.underlying37 rfl Try.sizeOf3 (by decide) rfl) rfl <| WL.r (Rd.ld (Try.isAgg3 _) rfl hkc6 rfl) rfl <| WL.p (.lss rfl rfl) rfl <| WL.nil <| ?_
                      refine W.cond rfl (fun h563 => ?_) (fun h563 => ?_) -- slot 234
                      · have h563' := of_decide_eq_true h563
                        refine W.skip ?_
                        refine W.seq ?_
                        refine W.block ?_
                        refine W.regT 22 mixed (by kernel_rfl) (fun w564 dw564 => ?_) -- 71
                        have ho565 := OwnM.drew hox6 dw564
                        have hk566 := hkc6.drew dw564
                        have hv567 := hrm6.drew dw564
                        have hB568 := Drew.below hB6 dw564
                        have hmod := Nat.mod_lt (k + jj) (show 0 < N by omega)
                        refine WS.p (.mv rfl) rfl <| WS.p (.mv rfl) rfl <| WS.p (.fa Try.underlying37 rfl Try.sizeOf3 (by decide) rfl) rfl <| WS.r (Rd.ld (Try.isAgg3 _) rfl hk566 rfl) rfl <| WS.p (.iis ((bN : Int)) (.sub rfl rfl (i64w (by omega))) (by omega)) rfl <| WS.p (.mv rfl) rfl <| WS.p (.mv rfl) rfl <| WS.p (.add rfl rfl (i64w (by omega))) rfl <| WS.p (.fa Try.underlying37 rfl Try.sizeOf3 (by decide) rfl) rfl <| WS.r (Rd.ld (Try.isAgg3 _) rfl hk566 rfl) rfl <| WS.p (.iis ((((k + jj) % N : Nat) : Int)) (.rem rfl rfl (by omega) (Int.tmod_eq_emod_of_nonneg (by omega))) (by rw [hN, ← Int.natCast_add, ← Int.natCast_emod])) rfl <| WS.p (.iis (((bN + (k + jj) % N : Nat) : Int)) (.add rfl rfl (i64w (by omega))) (by omega)) rfl <| WS.p (.mv rfl) rfl <| WS.p (.mv rfl) rfl <| WS.p (.fa Try.underlying37 rfl Try.sizeOf3 (by decide) rfl) rfl <| WS.r (Rd.ld (Try.isAgg3 _) rfl hk566 rfl) rfl <| WS.p (.iis ((bN : Int)) (.sub rfl rfl (i64w (by omega))) (by omega)) rfl <| WS.p (.mv rfl) rfl <| WS.p (.add rfl rfl (i64w (by omega))) rfl <| WS.p (.ixm Try.underlying25 Try.sizeOf39 rfl rfl (hv567.isp (by omega)) (bN + k) (by omega) (by omega)) rfl <| WS.r (Rd.ldS Try.underlying39 rfl isz39 hv567 (bN + k) (by omega) rfl) rfl <| WS.p (.ixm Try.underlying25 Try.sizeOf39 rfl rfl ((ho565).rowp.isp (by omega)) (bN + (k + jj) % N) rfl (by omega)) rfl <| WS.nil ?_
                        refine WL.stM (L := objL) (L[bN + k]'(by omega)) (bN + (k + jj) % N) ho565 (by omega) isz39 rfl rfl rfl (fun wc gc hgc huc hoc => ?_)
                        have hB8 := Upd.below hB568 (by have := ((ho565).lt gc (by rw [hgc]; rfl)).1; omega) huc
                        refine WL.nil <| ?_
                        refine W.reg ?_ -- 70
                        refine WL.p (.mv rfl) rfl <| WL.p (.iis (((k + 1 : Nat) : Int)) (.add rfl rfl (i64w (by omega))) (by omega)) rfl <| WL.p (.as rfl) rfl <| WL.nil <| ?_
                        exact ⟨k + 1, ⟨rfl, rfl, rfl, rfl, rfl, rfl, rfl, rfl, rfl, rfl, rfl, rfl, rfl, rfl, rfl, rfl, trivial⟩, ⟨hB8, by unfold rollX; rw [List.getD_eq_getElem?_getD, List.getElem?_eq_getElem (by omega)]; exact hoc, by ((try simp only) <;> omega)⟩, by ((try simp only) <;> omega)⟩
                      · have h563' := of_decide_eq_false h563
                        refine W.exit ?_ -- 5
                        refine W.reg ?_ -- 72
                        refine WL.p (.mv rfl) rfl <| WL.p (.as rfl) rfl <| WL.nil <| ?_
                        -- join b2.meet/37
                        (have hf := take_ok L x.fN _ (by omega) (by omega) rfl; obtain rfl : k = N := (by omega); rw [hjj, hbN, rollX_eq L k x.fJ (by omega) (by omega)] at hox6; rw [show rollO x.fN x.fJ L 13 = rollL k x.fJ L by unfold rollO; rw [if_pos hf.1, hN, Int.toNat_natCast]] at hs2; exact ⟨⟨_, 0, _, _, _, v, rollL k x.fJ L⟩, ⟨rfl, rfl, rfl, rfl, rfl, rfl, rfl, rfl, rfl, rfl, rfl, trivial⟩, ⟨Below.trans hT3 (hB6.mono hT3.size), hs2.below hB6, Mod.own hs2 hox6 (Nat.le_refl _), by rw [rollL_len]; ((try simp only) <;> omega), hf.1, SameSl.nil _⟩⟩)
                        -- met
                    · have h543' := of_decide_eq_false h543
                      refine W.skip ?_
                      -- join b2.meet/38
                      (have hf := take_ok L x.fN _ (by omega) (by omega) rfl; rw [roll_same (.inr (by omega))] at hs2; exact ⟨⟨_, 0, _, _, _, v, L⟩, ⟨rfl, rfl, rfl, rfl, rfl, rfl, rfl, rfl, rfl, rfl, rfl, trivial⟩, ⟨Below.trans hT3 (hB3.mono hT3.size), hs2.below hB3, hm3.below hB3, by ((try simp only) <;> omega), hf.1, SameSl.nil _⟩⟩)
                      -- met
              · have h539' := of_decide_eq_false h539
                refine W.seq ?_
                refine W.reg ?_ -- 73
                refine WL.p (.eql rfl rfl) rfl <| WL.p (.as rfl) rfl <| WL.nil <| ?_
                refine W.cond rfl (fun h570 => ?_) (fun h570 => ?_) -- slot 260
                · have h570' := of_decide_eq_true h570
                  refine W.seq ?_
                  refine W.reg ?_ -- 74
                  refine WL.p (.mv rfl) rfl <| WL.call hb22 rfl rfl ((stk_ToMark b v M 12 13 L _ (hs.below hB16) (by omega))) (fun r w571 hw571 => ?_)
                  have hk572 := hkx.drew hw571.1
                  have hv573 := hxl.drew hw571.1
                  have hv574 := hxk.drew hw571.1
                  have hv575 := hrm.drew hw571.1
                  have hB576 := Drew.below hB16 hw571.1
                  obtain ⟨a7, c7, rfl, hmk⟩ := hw571.2
                  refine WL.p (.mv rfl) rfl <| WL.p (.ext rfl rfl) rfl <| WL.p (.ext rfl rfl) rfl <| WL.p (.as rfl) rfl <| WL.p (.as rfl) rfl <| WL.nil <| ?_
                  refine W.seq ?_
                  refine W.reg ?_ -- 75
                  refine WL.p (.mv rfl) rfl <| WL.p (.as rfl) rfl <| WL.nil <| ?_
                  refine W.seq ?_
                  refine W.reg ?_ -- 76
                  refine WL.p (.as rfl) rfl <| WL.nil <| ?_
                  refine W.seq ?_
                  refine W.reg ?_ -- 77
                  refine WL.p (.as rfl) rfl <| WL.nil <| ?_
                  refine W.block ?_
                  -- loop 3: writes [4, 13, 25, 268, 269, 270, 271, 272, 273, 274, 275, 276, 277, 278, 279, 280, 281, 282, 283, 284, 285, 286, 287, 288]; reads from outside [8, 11, 13, 23, 25]
                  refine W.loop (α := Nat × Int) (fun t => [(0, .int .i64 M), (1, .slice p l.length c), (5, .int .i64 12), (6, .int .i64 13), (7, .pointer (some ⟨b, 0, none⟩)), (8, .slice pm L.length cm), (9, .int .i64 (s : Int)), (10, .pointer (some ⟨b10, 0, none⟩)), (11, .int .i64 (L.length : Int)), (12, .int .i64 c7), (13, .int .i64 t.2), (14, .slice none 0 0), (15, .slice none 0 0), (23, .int .i64 a7), (25, .int .i64 (t.1 : Int))]) (fun t w' => w571 = w' ∧ t.1 ≤ L.length ∧ ((t.2 = 19 ∧ ∀ q, q < t.1 → (L.getD (L.length - 1 - q) objZ).kind ≠ 4) ∨ (t.2 = 0 ∧ c7 = 0))) (fun t => L.length - t.1) ((0, 19)) ⟨rfl, rfl, rfl, rfl, rfl, rfl, rfl, rfl, rfl, rfl, rfl, rfl, rfl, rfl, rfl, trivial⟩ (⟨rfl, Nat.zero_le _, .inl ⟨rfl, fun q hq => absurd hq (Nat.not_lt_zero _)⟩⟩) (fun t w1 hR => ?_)
                  obtain ⟨j7, want⟩ := t
                  obtain ⟨rfl, hj7, hw7⟩ := hR
                  simp only at hj7 hw7 ⊢
                  refine W.seq ?_
                  refine W.cutB 274 (decide (j7 < L.length ∧ want ≠ 0)) ?_ ?_
                  · skip
                    refine W.reg ?_ -- 78
                    refine WL.p (.mv rfl) rfl <| WL.p (.mv rfl) rfl <| WL.p (.lss rfl rfl) rfl <| WL.p (.mv rfl) rfl <| WL.gd rfl rfl rfl (fun g577 => ?_) (fun g577 => ?_)
                    · have g577' := of_decide_eq_true g577
                      refine WL.p (.mv rfl) rfl <| WL.gy rfl rfl rfl g577 <| WL.p (.neq rfl rfl) rfl <| WL.p (.pkT rfl g577 rfl) rfl <| WL.nil <| ?_
                      exact ⟨⟨lk_b rfl (by (apply Bool.eq_iff_iff.2; (try simp) <;> omega)), by repeat (first | exact Le.refl _ | refine Le.cons rfl ?_)⟩, rfl⟩
                    · have g577' := of_decide_eq_false g577
                      refine WL.gn rfl rfl rfl g577 <| WL.p (.pkF rfl g577 rfl) rfl <| WL.nil <| ?_
                      exact ⟨⟨lk_b rfl (by (apply Bool.eq_iff_iff.2; (try simp) <;> omega)), by repeat (first | exact Le.refl _ | refine Le.cons rfl ?_)⟩, rfl⟩
                  refine W.cond rfl (fun h578 => ?_) (fun h578 => ?_) -- slot 274
                  · have h578' := of_decide_eq_true h578
                    refine W.skip ?_
                    refine W.seq ?_
                    refine W.block ?_
                    refine W.seq ?_
                    refine W.reg ?_ -- 80
                    refine WL.p (.mv rfl) rfl <| WL.p (.mv rfl) rfl <| WL.p (.sub rfl rfl (i64w (by omega))) rfl <| WL.p (.mv rfl) rfl <| WL.p (.sub rfl rfl (i64w (by omega))) rfl <| WL.p (.ixm Try.underlying25 Try.sizeOf39 rfl rfl (hv575.isp (by omega)) (L.length - 1 - j7) (by omega) (by omega)) rfl <| WL.p (.fa Try.underlying39 rfl Try.sizeOf3 (by decide) rfl) rfl <| WL.r (Rd.ldc (Try.isAgg3 _) rfl ((hv575.field (L.length - 1 - j7) (by omega) 0 (by decide)).trans rfl)) rfl <| WL.p (.eql rfl rfl) rfl <| WL.nil <| ?_
                    refine W.cond rfl (fun h579 => ?_) (fun h579 => ?_) -- slot 285
                    · have h579' := of_decide_eq_true h579
                      have hk4 : (L.getD (L.length - 1 - j7) objZ).kind = 4 := by rw [List.getD_eq_getElem?_getD, List.getElem?_eq_getElem (by omega)]; assumption
                      have hno : ∀ q, q < j7 → (L.getD (L.length - 1 - q) objZ).kind ≠ 4 := by rcases hw7 with h | h; exact h.2; omega
                      have ha7 : a7 = (j7 : Int) ∧ c7 = 0 := by
                        rcases hmk with ⟨i, h1, h2, h3, h4, h5⟩ | ⟨h1, h2, h3⟩
                        · rcases Nat.lt_trichotomy i j7 with h | h | h
                          · exact absurd h4 (hno i h)
                          · exact ⟨by omega, h3⟩
                          · exact absurd hk4 (h5 j7 h)
                        · exact absurd hk4 (h3 j7 (by omega))
                      refine W.seq ?_
                      refine W.reg ?_ -- 81
                      refine WL.p (.as rfl) rfl <| WL.nil <| ?_
                      refine W.seq ?_
                      refine W.reg ?_ -- 82
                      refine WL.p (.mv rfl) rfl <| WL.p (.mv rfl) rfl <| WL.p (.bis (false) (.neq rfl rfl) (by simp; omega)) rfl <| WL.nil <| ?_
                      refine W.condF rfl rfl ?_
                      refine W.skip ?_
                      refine W.reg ?_ -- 79
                      refine WL.p (.mv rfl) rfl <| WL.p (.iis (((j7 + 1 : Nat) : Int)) (.add rfl rfl (i64w (by omega))) (by omega)) rfl <| WL.p (.as rfl) rfl <| WL.nil <| ?_
                      first
                      | exact ⟨(j7 + 1, 0), ⟨rfl, rfl, rfl, rfl, rfl, rfl, rfl, rfl, rfl, rfl, rfl, rfl, rfl, rfl, rfl, trivial⟩, ⟨rfl, by ((try simp only) <;> omega), .inr ⟨rfl, ha7.2⟩⟩, by ((try simp only) <;> omega)⟩
                      | exact ⟨(j7 + 1, want), ⟨rfl, rfl, rfl, rfl, rfl, rfl, rfl, rfl, rfl, rfl, rfl, rfl, rfl, rfl, rfl, trivial⟩, ⟨rfl, by ((try simp only) <;> omega), .inl ⟨by rcases hw7 with h | h; exact h.1; omega, hno⟩⟩, by ((try simp only) <;> omega)⟩
                    · have h579' := of_decide_eq_false h579
                      have hk4 : (L.getD (L.length - 1 - j7) objZ).kind ≠ 4 := by rw [List.getD_eq_getElem?_getD, List.getElem?_eq_getElem (by omega)]; assumption
                      have hno : ∀ q, q < j7 + 1 → (L.getD (L.length - 1 - q) objZ).kind ≠ 4 := fun q hq => by
                        rcases Nat.lt_or_ge q j7 with h | h
                        · rcases hw7 with h7 | h7
                          · exact h7.2 q h
                          · omega
                        · obtain rfl : q = j7 := by omega
                          exact hk4
                      refine W.skip ?_
                      refine W.reg ?_ -- 79
                      refine WL.p (.mv rfl) rfl <| WL.p (.iis (((j7 + 1 : Nat) : Int)) (.add rfl rfl (i64w (by omega))) (by omega)) rfl <| WL.p (.as rfl) rfl <| WL.nil <| ?_
                      first
                      | exact ⟨(j7 + 1, 0), ⟨rfl, rfl, rfl, rfl, rfl, rfl, rfl, rfl, rfl, rfl, rfl, rfl, rfl, rfl, rfl, trivial⟩, ⟨rfl, by ((try simp only) <;> omega), .inr ⟨rfl, ha7.2⟩⟩, by ((try simp only) <;> omega)⟩
                      | exact ⟨(j7 + 1, want), ⟨rfl, rfl, rfl, rfl, rfl, rfl, rfl, rfl, rfl, rfl, rfl, rfl, rfl, rfl, rfl, trivial⟩, ⟨rfl, by ((try simp only) <;> omega), .inl ⟨by rcases hw7 with h | h; exact h.1; omega, hno⟩⟩, by ((try simp only) <;> omega)⟩
                  · have h578' := of_decide_eq_false h578
                    refine W.exit ?_ -- 7
                    -- join b2.meet/39
                    (have he7 : c7 = want := by
                      rcases hw7 with h | h
                      · have : L.length ≤ j7 := by omega
                        rcases hmk with ⟨i, h1, h2, h3, h4, h5⟩ | ⟨h1, h2, h3⟩
                        · exact absurd h4 (h.2 i (by omega))
                        · omega
                      · omega
                     exact ⟨⟨_, want, _, _, _, v, L⟩, ⟨rfl, rfl, rfl, rfl, rfl, rfl, rfl, rfl, rfl, rfl, rfl, trivial⟩, ⟨Below.trans hT (hB576.mono hT.size), hs.below hB576, hm.below hB576, by ((try simp only) <;> omega), he7, SameSl.nil _⟩⟩)
                    -- met
                · have h570' := of_decide_eq_false h570
                  refine W.seq ?_
                  refine W.reg ?_ -- 84
                  refine WL.p (.eql rfl rfl) rfl <| WL.p (.as rfl) rfl <| WL.nil <| ?_
                  refine W.cond rfl (fun h580 => ?_) (fun h580 => ?_) -- slot 289
                  · have h580' := of_decide_eq_true h580
                    refine W.seq ?_
                    refine W.reg ?_ -- 85
                    refine WL.p (.mv rfl) rfl <| WL.p (.fa Try.underlying37 rfl Try.sizeOf25 (by decide) rfl) rfl <| WL.r (Rd.ld (Try.isAgg25 _) rfl hkx rfl) rfl <| WL.c1 hb23 rfl rfl ((stk_Reset b v M 12 13 L x.pfList x.fList x.cfList _ (hs.below hB16) (hxl) hokx.sl_fList.nil hokx.sl_fList.le hokx.sl_fList.none hM0 (by omega))) (fun w581 hw581 => ?_)
                    obtain ⟨v2, hs2, hk2⟩ := hw581
                    obtain ⟨hT3, hm3, hc3⟩ := act_arm hT hB16 hs hm hb0 hk2
                    have hkc := hc3 _ _ _ hgeb10 hkx
                    have hB3 := Below.refl w581.heap.size w581
                    have hok3 := (hokx.below hT3)
                    have hxl3 := hok3.row_fList
                    have hxk3 := hok3.row_fKinds
                    obtain ⟨hrm3, hmb3⟩ := hm3.at
                    refine WL.nil <| ?_
                    refine W.seq ?_
                    refine W.reg ?_ -- 86
                    refine WL.p (.fa Try.underlying37 rfl Try.sizeOf25 (by decide) rfl) rfl <| WL.r (Rd.ld (Try.isAgg25 _) rfl hkc rfl) rfl <| WL.p (.as rfl) rfl <| WL.nil <| ?_
                    refine W.seq ?_
                    refine W.reg ?_ -- 87
                    refine WL.p (.mv rfl) rfl <| WL.p (.lenS Try.underlying25 rfl) rfl <| WL.p (.mv rfl) rfl <| WL.p (.gtr rfl rfl) rfl <| WL.nil <| ?_
                    refine W.cond rfl (fun h582 => ?_) (fun h582 => ?_) -- slot 300
                    · have h582' := of_decide_eq_true h582
                      refine W.reg ?_ -- 88
                      refine WL.p (.mv rfl) rfl <| WL.p (.mv rfl) rfl <| WL.p (.slmT Try.underlying25 Try.sizeOf39 rfl rfl  (M.toNat) (by omega) (by have := hokx.sl_fList.le; omega)) rfl <| WL.p (.as rfl) rfl <| WL.nil <| ?_
                      -- join b2.meet/40
                      (rw [Nat.min_eq_right (by omega)] at hs2; exact ⟨⟨_, 0, _, _, _, v2, x.fList.take M.toNat⟩, ⟨rfl, rfl, rfl, rfl, rfl, rfl, rfl, rfl, rfl, rfl, rfl, trivial⟩, ⟨Below.trans hT3 (hB3.mono hT3.size), hs2.below hB3, (Mod.arg hokx (Below.trans hT3 (hB3.mono hT3.size)) (hs2.below hB3) hb0).part M.toNat (by omega), by rw [List.length_take]; omega, rfl, SameSl.nil _⟩⟩)
                      -- met
                    · have h582' := of_decide_eq_false h582
                      refine W.skip ?_
                      -- join b2.meet/41
                      (rw [Nat.min_eq_left (by omega), List.take_of_length_le (Nat.le_refl _)] at hs2; exact ⟨⟨_, 0, _, _, _, v2, x.fList⟩, ⟨rfl, rfl, rfl, rfl, rfl, rfl, rfl, rfl, rfl, rfl, rfl, trivial⟩, ⟨Below.trans hT3 (hB3.mono hT3.size), hs2.below hB3, Mod.arg hokx (Below.trans hT3 (hB3.mono hT3.size)) (hs2.below hB3) hb0, by ((try simp only) <;> omega), rfl, SameSl.nil _⟩⟩)
                      -- met
                  · have h580' := of_decide_eq_false h580
                    refine W.seq ?_
                    refine W.reg ?_ -- 89
                    refine WL.p (.eql rfl rfl) rfl <| WL.p (.as rfl) rfl <| WL.nil <| ?_
                    refine W.cond rfl (fun h583 => ?_) (fun h583 => ?_) -- slot 304
                    · have h583' := of_decide_eq_true h583
                      refine W.seq ?_
                      refine W.reg ?_ -- 90
                      refine WL.p (.mv rfl) rfl <| WL.p (.fa Try.underlying37 rfl Try.sizeOf35 (by decide) rfl) rfl <| WL.r (Rd.ld (Try.isAgg35 _) rfl hkx rfl) rfl <| WL.call hb24 rfl rfl ((stk_Need b v M 12 13 L x.pfKinds x.fKinds x.cfKinds _ (hs.below hB16) (hxk) (by omega) (by decide))) (fun r w584 hw584 => ?_)
                      have hk585 := hkx.below hw584.1 hkx.lt
                      have hv586 := RowM.below hxl hw584.1 (fun h0 => hxl.lt h0)
                      have hv587 := RowAt.below hxk hw584.1 (fun h0 => hxk.lt h0)
                      have hv588 := RowM.below hrm hw584.1 (fun h0 => hrm.lt h0)
                      have hB589 := btr hB16 hw584.1
                      obtain ⟨a9, rfl, hn9⟩ := hw584.2
                      refine WL.p (.as rfl) rfl <| WL.nil <| ?_
                      refine W.seq ?_
                      refine W.reg ?_ -- 91
                      refine WL.p (.fa Try.underlying37 rfl Try.sizeOf35 (by decide) rfl) rfl <| WL.r (Rd.ld (Try.isAgg35 _) rfl hk585 rfl) rfl <| WL.p (.lenS Try.underlying35 rfl) rfl <| WL.p (.as rfl) rfl <| WL.nil <| ?_
                      refine W.cut (α := Int) (fun t => [(0, .int .i64 M), (1, .slice p l.length c), (5, .int .i64 12), (6, .int .i64 13), (7, .pointer (some ⟨b, 0, none⟩)), (8, .slice pm L.length cm), (9, .int .i64 (s : Int)), (10, .pointer (some ⟨b10, 0, none⟩)), (11, .int .i64 (L.length : Int)), (12, .int .i64 a9), (13, .int .i64 t), (14, .slice none 0 0), (15, .slice none 0 0), (26, .int .i64 (x.fKinds.length : Int))]) (fun t w' => w584 = w' ∧ ((L.length < x.fKinds.length ∧ t = 13) ∨ (x.fKinds.length ≤ L.length ∧ t = 0))) ?_ (fun t w1 hR => ?_)
                      · skip
                        refine W.seq ?_
                        refine W.reg ?_ -- 92
                        refine WL.p (.mv rfl) rfl <| WL.p (.mv rfl) rfl <| WL.p (.gtr rfl rfl) rfl <| WL.nil <| ?_
                        refine W.cond rfl (fun h590 => ?_) (fun h590 => ?_) -- slot 315
                        · have h590' := of_decide_eq_true h590
                          refine W.reg ?_ -- 93
                          refine WL.p (.mv rfl) rfl <| WL.p (.as rfl) rfl <| WL.nil <| ?_
                          -- join 315.meet/1
                          first
                          | exact ⟨13, ⟨rfl, rfl, rfl, rfl, rfl, rfl, rfl, rfl, rfl, rfl, rfl, rfl, rfl, rfl, trivial⟩, ⟨rfl, .inl ⟨by omega, rfl⟩⟩⟩
                          | exact ⟨0, ⟨rfl, rfl, rfl, rfl, rfl, rfl, rfl, rfl, rfl, rfl, rfl, rfl, rfl, rfl, trivial⟩, ⟨rfl, .inr ⟨by omega, rfl⟩⟩⟩
                          -- met
                        · have h590' := of_decide_eq_false h590
                          refine W.skip ?_
                          -- join 315.meet/2
                          first
                          | exact ⟨13, ⟨rfl, rfl, rfl, rfl, rfl, rfl, rfl, rfl, rfl, rfl, rfl, rfl, rfl, rfl, trivial⟩, ⟨rfl, .inl ⟨by omega, rfl⟩⟩⟩
                          | exact ⟨0, ⟨rfl, rfl, rfl, rfl, rfl, rfl, rfl, rfl, rfl, rfl, rfl, rfl, rfl, rfl, trivial⟩, ⟨rfl, .inr ⟨by omega, rfl⟩⟩⟩
                          -- met
                      obtain ⟨wa, rfl⟩ : ∃ wa, wa = t := ⟨t, rfl⟩
                      obtain ⟨rfl, hwa⟩ := hR
                      refine W.seq ?_
                      refine W.reg ?_ -- 94
                      refine WL.p (.as rfl) rfl <| WL.nil <| ?_
                      refine W.block ?_
                      -- loop 4: writes [13, 27, 317, 318, 319, 320, 321, 322, 323, 324, 325, 326, 327, 328, 329, 330, 331, 332, 333, 334, 335, 336, 337, 338, 339, 340]; reads from outside [8, 10, 11, 13, 26, 27]
                      refine W.loop (α := Nat × Int) (fun t => [(0, .int .i64 M), (1, .slice p l.length c), (5, .int .i64 12), (6, .int .i64 13), (7, .pointer (some ⟨b, 0, none⟩)), (8, .slice pm L.length cm), (9, .int .i64 (s : Int)), (10, .pointer (some ⟨b10, 0, none⟩)), (11, .int .i64 (L.length : Int)), (12, .int .i64 a9), (13, .int .i64 t.2), (14, .slice none 0 0), (15, .slice none 0 0), (26, .int .i64 (x.fKinds.length : Int)), (27, .int .i64 (t.1 : Int))]) (fun t w' => Below w1.heap.size w1 w' ∧ Blk w' b10 (actV x).toArray 37 ∧ t.1 ≤ x.fKinds.length ∧ ((L.length < x.fKinds.length ∧ t.2 = 13) ∨ (x.fKinds.length ≤ L.length ∧ ((t.2 = 0 ∧ NeedOk x.fKinds L t.1) ∨ (t.2 = 16 ∧ ¬ NeedOk x.fKinds L x.fKinds.length))))) (fun t => x.fKinds.length - t.1) ((0, wa)) ⟨rfl, rfl, rfl, rfl, rfl, rfl, rfl, rfl, rfl, rfl, rfl, rfl, rfl, rfl, rfl, trivial⟩ (⟨hB589, hk585, Nat.zero_le _, hwa.imp id fun h => ⟨h.1, .inl ⟨h.2, fun i hi => absurd hi (Nat.not_lt_zero _)⟩⟩⟩) (fun t w1 hR => ?_)
                      obtain ⟨j9, want⟩ := t
                      obtain ⟨hB6, hk9, hj9, hw9⟩ := hR
                      simp only at hj9 hw9 ⊢
                      have hrm6 := hrm1.below hB6 (fun h0 => hrm1.lt h0)
                      have hrk6 := ((hokx.below hT).row_fKinds).below hB6 (fun h0 => ((hokx.below hT).row_fKinds).lt h0)
                      refine W.seq ?_
                      refine W.cutB 323 (decide (j9 < x.fKinds.length ∧ want = 0)) ?_ ?_
                      · skip
                        refine W.reg ?_ -- 95
                        refine WL.p (.mv rfl) rfl <| WL.p (.mv rfl) rfl <| WL.p (.lss rfl rfl) rfl <| WL.p (.mv rfl) rfl <| WL.gd rfl rfl rfl (fun g591 => ?_) (fun g591 => ?_)
                        · have g591' := of_decide_eq_true g591
                          refine WL.p (.mv rfl) rfl <| WL.gy rfl rfl rfl g591 <| WL.p (.eql rfl rfl) rfl <| WL.p (.pkT rfl g591 rfl) rfl <| WL.nil <| ?_
                          exact ⟨⟨lk_b rfl (by (apply Bool.eq_iff_iff.2; (try simp) <;> omega)), by repeat (first | exact Le.refl _ | refine Le.cons rfl ?_)⟩, rfl⟩
                        · have g591' := of_decide_eq_false g591
                          refine WL.gn rfl rfl rfl g591 <| WL.p (.pkF rfl g591 rfl) rfl <| WL.nil <| ?_
                          exact ⟨⟨lk_b rfl (by (apply Bool.eq_iff_iff.2; (try simp) <;> omega)), by repeat (first | exact Le.refl _ | refine Le.cons rfl ?_)⟩, rfl⟩
                      refine W.cond rfl (fun h592 => ?_) (fun h592 => ?_) -- slot 323
                      · have h592' := of_decide_eq_true h592
                        refine W.skip ?_
                        refine W.seq ?_
                        refine W.block ?_
                        refine W.seq ?_
                        refine W.regT 13 mixed (by kernel_rfl) (fun w593 dw593 => ?_) -- 97
                        have hk594 := hk9.drew dw593
                        have hv595 := hrm6.drew dw593
                        have hv596 := hrk6.drew dw593
                        have hB597 := Drew.below hB6 dw593
                        refine WS.p (.mv rfl) rfl <| WS.p (.mv rfl) rfl <| WS.p (.mv rfl) rfl <| WS.p (.sub rfl rfl (i64w (by omega))) rfl <| WS.p (.mv rfl) rfl <| WS.p (.add rfl rfl (i64w (by omega))) rfl <| WS.p (.ixm Try.underlying25 Try.sizeOf39 rfl rfl (hv595.isp (by omega)) (L.length - x.fKinds.length + j9) (by omega) (by omega)) rfl <| WS.r (Rd.ldS Try.underlying39 rfl isz39 hv595 (L.length - x.fKinds.length + j9) (by omega) rfl) rfl <| WS.p (.fa Try.underlying37 rfl Try.sizeOf35 (by decide) rfl) rfl <| WS.r (Rd.ld (Try.isAgg35 _) rfl hk594 rfl) rfl <| WS.p (.mv rfl) rfl <| WS.p (.ixb Try.underlying35 Try.sizeOf3 rfl rfl (hv596.isp (by omega)) (j9) (rfl) (by omega)) rfl <| WS.r (Rd.ldc (Try.isAgg3 _) rfl (hv596.cells (j9) (by omega))) rfl <| WS.nil ?_
                        refine WL.c1 hb25 rfl rfl ((law_fits (L[L.length - x.fKinds.length + j9]'(by omega)) (x.fKinds[j9]'(by omega)) _)) (fun w598 hw598 => ?_)
                        have hk599 := hk594.below hw598 hk594.lt
                        have hv600 := RowM.below hv595 hw598 (fun h0 => hv595.lt h0)
                        have hv601 := RowAt.below hv596 hw598 (fun h0 => hv596.lt h0)
                        have hB602 := btr hB597 hw598
                        refine WL.p (.not rfl) rfl <| WL.nil <| ?_
                        refine W.cond rfl (fun h603 => ?_) (fun h603 => ?_) -- slot 340
                        · have h603' := (nT h603)
                          have hfx : fitO (L.getD (L.length - x.fKinds.length + j9) objZ) (x.fKinds.getD j9 0) = false := by
                            rw [List.getD_eq_getElem?_getD, List.getElem?_eq_getElem (by omega), List.getD_eq_getElem?_getD, List.getElem?_eq_getElem (by omega)]
                            simp_all
                          refine W.reg ?_ -- 98
                          refine WL.p (.as rfl) rfl <| WL.nil <| ?_
                          refine W.reg ?_ -- 96
                          refine WL.p (.mv rfl) rfl <| WL.p (.iis (((j9 + 1 : Nat) : Int)) (.add rfl rfl (i64w (by omega))) (by omega)) rfl <| WL.p (.as rfl) rfl <| WL.nil <| ?_
                          first
                          | exact ⟨(j9 + 1, 16), ⟨rfl, rfl, rfl, rfl, rfl, rfl, rfl, rfl, rfl, rfl, rfl, rfl, rfl, rfl, rfl, trivial⟩, ⟨hB602, hk599, by ((try simp only) <;> omega), .inr ⟨by omega, .inr ⟨rfl, fun hq => absurd (hfx.symm.trans (hq j9 (by omega))) (by decide)⟩⟩⟩, by ((try simp only) <;> omega)⟩
                          | exact ⟨(j9 + 1, want), ⟨rfl, rfl, rfl, rfl, rfl, rfl, rfl, rfl, rfl, rfl, rfl, rfl, rfl, rfl, rfl, trivial⟩, ⟨hB602, hk599, by ((try simp only) <;> omega), .inr ⟨by omega, .inl ⟨by omega, fun i hi => by
                              rcases Nat.lt_or_ge i j9 with h | h
                              · rcases hw9 with h9 | ⟨-, h9 | h9⟩
                                · omega
                                · exact h9.2 i h
                                · omega
                              · obtain rfl : i = j9 := by omega
                                exact hfx⟩⟩⟩, by ((try simp only) <;> omega)⟩
                        · have h603' := (nF h603)
                          have hfx : fitO (L.getD (L.length - x.fKinds.length + j9) objZ) (x.fKinds.getD j9 0) = true := by
                            rw [List.getD_eq_getElem?_getD, List.getElem?_eq_getElem (by omega), List.getD_eq_getElem?_getD, List.getElem?_eq_getElem (by omega)]
                            simp_all
                          refine W.skip ?_
                          refine W.reg ?_ -- 96
                          refine WL.p (.mv rfl) rfl <| WL.p (.iis (((j9 + 1 : Nat) : Int)) (.add rfl rfl (i64w (by omega))) (by omega)) rfl <| WL.p (.as rfl) rfl <| WL.nil <| ?_
                          first
                          | exact ⟨(j9 + 1, 16), ⟨rfl, rfl, rfl, rfl, rfl, rfl, rfl, rfl, rfl, rfl, rfl, rfl, rfl, rfl, rfl, trivial⟩, ⟨hB602, hk599, by ((try simp only) <;> omega), .inr ⟨by omega, .inr ⟨rfl, fun hq => absurd (hfx.symm.trans (hq j9 (by omega))) (by decide)⟩⟩⟩, by ((try simp only) <;> omega)⟩
                          | exact ⟨(j9 + 1, want), ⟨rfl, rfl, rfl, rfl, rfl, rfl, rfl, rfl, rfl, rfl, rfl, rfl, rfl, rfl, rfl, trivial⟩, ⟨hB602, hk599, by ((try simp only) <;> omega), .inr ⟨by omega, .inl ⟨by omega, fun i hi => by
                              rcases Nat.lt_or_ge i j9 with h | h
                              · rcases hw9 with h9 | ⟨-, h9 | h9⟩
                                · omega
                                · exact h9.2 i h
                                · omega
                              · obtain rfl : i = j9 := by omega
                                exact hfx⟩⟩⟩, by ((try simp only) <;> omega)⟩
                      · have h592' := of_decide_eq_false h592
                        refine W.exit ?_ -- 9
                        -- join b2.meet/42
                        (have he9 : a9 = want := by
                          have hle := Nat.le_refl L.length
                          rcases hw9 with ⟨h1, h2⟩ | ⟨h1, h2⟩
                          · have hf := take_big L (x.fKinds.length : Int) (by omega) (by omega)
                            rcases hn9 with h | h | h
                            · rw [h.2, hf.1, h2]
                            · rw [hf.1] at h; exact absurd h.1 (by decide)
                            · rw [hf.1] at h; exact absurd h.1 (by decide)
                          · have hf := take_ok L (x.fKinds.length : Int) _ (by omega) (by omega) rfl
                            rcases hn9 with h | h | h
                            · exact absurd hf.1 h.1
                            · rcases h2 with h2 | h2
                              · rw [h.2.2, h2.1]
                              · exact absurd h.2.1 h2.2
                            · rcases h2 with h2 | h2
                              · obtain rfl : j9 = x.fKinds.length := by omega
                                exact absurd h2.2 h.2.1
                              · rw [h.2.2, h2.1]
                         exact ⟨⟨_, want, _, _, _, v, L⟩, ⟨rfl, rfl, rfl, rfl, rfl, rfl, rfl, rfl, rfl, rfl, rfl, trivial⟩, ⟨Below.trans hT (hB6.mono hT.size), hs.below hB6, hm.below hB6, by ((try simp only) <;> omega), he9, SameSl.nil _⟩⟩)
                        -- met
                    · have h583' := of_decide_eq_false h583
                      refine W.skip ?_
                      -- join b2.meet/43
                      exact ⟨⟨_, 0, _, _, _, v, L⟩, ⟨rfl, rfl, rfl, rfl, rfl, rfl, rfl, rfl, rfl, rfl, rfl, trivial⟩, ⟨Below.trans hT (hB16.mono hT.size), hs.below hB16, hm.below hB16, by ((try simp only) <;> omega), rfl, SameSl.nil _⟩⟩
                      -- met
      obtain ⟨e, want, got, list, mv, v9, L9⟩ := t
      have hJ := hR
      have hJs : StackOk w1 b v9 M 12 13 L9 := hR.s
      have hJl : L9.length ≤ 100 * (s + 1) := hR.len
      have hJm : Mod w1 b v9 mv L9 := hR.m
      obtain rfl : e = want := hR.eq
      obtain ⟨pg, qg, lg, cg, dg, e1, e2, hg1, hg2, hg3⟩ := hR.same
      simp only at e1 e2 ⊢
      subst e1; subst e2
      obtain ⟨pm9, cm9, rfl, hrm9, hsm9, -⟩ := hJm.ex
      have hB9 := Below.refl w1.heap.size w1
      refine W.seq ?_
      refine W.reg ?_ -- 99
      refine WL.p (.mv rfl) rfl <| WL.p (.mv rfl) rfl <| WL.p (.bis (false) (.neq rfl rfl) (by simp)) rfl <| WL.p (.mv rfl) rfl <| WL.gy rfl rfl rfl rfl <| WL.p (.mv rfl) rfl <| WL.gy rfl rfl rfl rfl <| WL.p (.mv rfl) rfl <| WL.gy rfl rfl rfl rfl <| WL.c1 hb16 rfl rfl ((law_same pg qg cg dg lg _ hg1 hg2 hg3)) (fun w604 hw604 => ?_)
      have hB605 := Drew.below hB9 hw604
      refine WL.gy rfl rfl rfl rfl <| WL.p (.not rfl) rfl <| WL.p (.pkF rfl rfl rfl) rfl <| WL.p (.mv rfl) rfl <| WL.gy rfl rfl rfl rfl <| WL.p (.mv rfl) rfl <| WL.gy rfl rfl rfl rfl <| WL.c1 hb26 rfl rfl ((stk_Len b v9 M 12 13 L9 _ (hJs.below hB605))) (fun w606 hw606 => ?_)
      obtain rfl := hw606
      refine WL.gy rfl rfl rfl rfl <| WL.p (.mv rfl) rfl <| WL.gy rfl rfl rfl rfl <| WL.p (.lenS Try.underlying25 rfl) rfl <| WL.gy rfl rfl rfl rfl <| WL.p (.bis (false) (.neq rfl rfl) (by simp)) rfl <| WL.p (.pkF rfl rfl rfl) rfl <| WL.p (.mv rfl) rfl <| WL.gy rfl rfl rfl rfl <| WL.p (.mv rfl) rfl <| WL.gy rfl rfl rfl rfl <| WL.call hb17 rfl rfl ((stk_All b v9 M 12 13 L9 _ (hJs.below hB605) (by omega))) (fun v10 w607 hw607 => ?_)
      have hB608 := btr hB605 hw607.1
      obtain ⟨p10, c10, rfl, hr10, -⟩ := (hw607.2).row
      refine WL.gy rfl rfl rfl rfl <| WL.p (.mv rfl) rfl <| WL.gy rfl rfl rfl rfl <| WL.c1 hb16 rfl rfl ((law_same p10 pm9 c10 cm9 L9 _ hr10 (hrm9.below hB608 (fun h0 => hrm9.lt h0)) (by omega))) (fun w609 hw609 => ?_)
      have hB610 := Drew.below hB608 hw609
      refine WL.gy rfl rfl rfl rfl <| WL.p (.not rfl) rfl <| WL.p (.pkF rfl rfl rfl) rfl <| WL.nil <| ?_
      refine W.condF rfl rfl ?_
      refine W.skip ?_
      refine W.reg ?_ -- 10
      refine WL.p (.mv rfl) rfl <| WL.p (.iis (((s + 1 : Nat) : Int)) (.add rfl rfl (i64w (by omega))) (by omega)) rfl <| WL.p (.as rfl) rfl <| WL.nil <| ?_
      first
      | exact ⟨(s + 1, v9, .slice pm9 L9.length cm9, L9), ⟨rfl, rfl, rfl, rfl, rfl, rfl, rfl, trivial⟩, ⟨Below.trans hJ.T (hB610.mono hJ.T.size), hJs.below hB610, hJm.below hB610, by ((try simp only) <;> omega), by ((try simp only) <;> omega)⟩, by ((try simp only) <;> omega)⟩
      | exact ⟨(s + 1, v, .slice pm L.length cm, L), ⟨rfl, rfl, rfl, rfl, rfl, rfl, rfl, trivial⟩, ⟨Below.trans hT (hB610.mono hT.size), hs.below hB610, hm.below hB610, by ((try simp only) <;> omega), by ((try simp only) <;> omega)⟩, by ((try simp only) <;> omega)⟩
  · have h9' := of_decide_eq_false h9
    refine W.exit ?_ -- 0
    refine W.seq ?_
    refine W.reg ?_ -- 101
    refine WL.p (.as rfl) rfl <| WL.nil <| ?_
    refine W.ret (W.ret1 rfl rfl ?_)
    exact ⟨rfl, Below.trans hT (hB1.mono hT.size)⟩

end Go.Proofs.Ytnjalolknhepdaa
