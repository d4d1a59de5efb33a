/-
  The law PlexTokens: Token answers, one behind the other, what the reference answers, up to the end or the first error. No condition beyond the row's own.
-/
import Derived.Test.YtjghbcjnplcleaaGreatDoorPt4
namespace Go.Proofs.YtjghbcjnplcleaaGreatDoor
open Go.RowKit
open Go.Proofs.Tryz
section
theorem pOpen_yes' {c : UInt8} (h2 : blankB c = true ∨ ¬ digI c < 0) : pOpen c = true := by
 refine pOpen_yes ?_ h2
 rintro rfl
 rcases h2 with h | h
 ·
  exact absurd h dD
 ·
  exact h dD
/-- what the document's text answers: kind, bytes, place, error -/
def textD (l : List UInt8) (t : Nat) : Int × List UInt8 × Nat × Int :=
 match textR l t with
 | .ok (s, t') => (5, s, t', 0)
 | .error k => (0, [], t, k)
theorem r18_text (r : Nat) (p : Option Addr) (l : List UInt8) (c t : Nat) (refs : Bool) (w : World) (h : RRd w r p l c t refs 0) (hne : 0 < l.length → (pA p).block ≠ r) (hc : l.length ≤ c) (hl : l.length ≤ 100000000) (ht : t < l.length) (h46 : l[t] = 40 ∨ l[t] = 60) :
    Calls Tryz.prog 73 #[.pointer (some ⟨r, 0, none⟩)] w fun e w' => e = .returned (.agg (pobj (textD l t).1 0 (textD l t).2.1).toArray) ∧ RRd w' r p l c (textD l t).2.2.1 refs (textD l t).2.2.2 ∧ Touch w.heap.size r w w' := by
  have hr := h.1
  have hb := h.2
  obtain ⟨X, hX⟩ : ∃ X, X = textD l t := ⟨_, rfl⟩
  rw [← hX]
  unfold textD textR at hX
  have hg : l[t]? = some l[t] := List.getElem?_eq_getElem ht
  have hN : ∀ w1, BytesAt w1 p l → Calls Tryz.prog 111 #[.slice p l.length c, .int .i64 (t : Int)] w1 fun e w' => e = .returned (nextR l t).val ∧ Below w1.heap.size w1 w' := fun w1 h1 => ref_Next t p l c w1 h1 hc hl
  have hstep := nextR_step l t oO
  generalize nextR l t = N at hX hN hstep
  obtain ⟨t0, ht0⟩ : ∃ t0, t0 = t := ⟨t, rfl⟩
  subst ht0
  refine W.enter func73 rfl ntmps73 (Nat.le_of_ble_eq_true rfl) ?_
  have hB0 := Touch.refl (w.heap.size) r w
  refine W.sr <| WL.alloc zeroValue31 rfl (fun b1 wb1 eb1 hkb1 hub1 hsb1 => ?_)
  have hl3 : r < b1 := by rw [eb1]; exact hr.lt
  have hk2 := hr.upd hub1 (Nat.ne_of_lt hl3)
  have hvl5 := fun h0 => eb1 ▸ hb.lt h0
  have hv4 := bup hb hub1 hvl5
  have hgeb1 : w.heap.size ≤ b1 := by rw [eb1]; exact hB0.size
  have hB6 := Touch.trans hB0 (Touch.of_new hub1 hgeb1)
  refine WL.nil <| ?_
  have hrB : r < b1 := by have := hr.lt; omega
  refine W.cut (α := Nat) (fun t => [(0, .pointer (some ⟨r, 0, none⟩)), (2, .pointer (some ⟨b1, 0, none⟩)), (3, .pointer (some ⟨t, 0, none⟩)), (4, .int .i64 N.at'), (5, .int .i64 N.e)]) (fun t w' => Touch w.heap.size r w w' ∧ RRd w' r p l c t0 refs 0 ∧ Blk w' b1 (pobj 0 0 []).toArray 31 ∧ Blk w' t #[.int .i64 N.k, .int .i64 N.n, .string (bs N.s)] 143 ∧ b1 < t) ?_ (fun t w1 hR => ?_)
  refine W.regY 17 rfl mixed (fun w7 dw7 => ?_)
  have hk8 := hk2.drew dw7
  have hk9 := hkb1.drew dw7
  have hv10 := hv4.drew dw7
  have hB11 := Touch.trans hB6 (Touch.of_drew dw7)
  refine WY.tk 0 rfl (.mv rfl) rfl ?_
  refine WY.tk 1 rfl (.nck rfl) rfl ?_
  refine WY.tk 2 rfl (.fa underlying69 rfl sizeOf22 dD rfl) rfl ?_
  refine WY.tk 4 rfl (.mv rfl) rfl ?_
  refine WY.tk 5 rfl (.nck rfl) rfl ?_
  refine WY.tk 6 rfl (.fa underlying69 rfl sizeOf3 dD rfl) rfl ?_
  refine WY.br [3, 7, 13] kR rfl ⟨⟨_, rfl, ?_⟩, ⟨_, rfl, ?_⟩, ⟨_, rfl, ?_⟩, trivial⟩
  refine WL.r (Rd.ld (isAgg22 _) rfl hk8 rfl) rfl <| WL.nil <| ?_
  refine WY.br2 7 rfl 13 rfl ?_ ?_
  refine WL.r (Rd.ld (isAgg3 _) rfl hk8 rfl) rfl <| WL.nil <| ?_
  refine WY.br2 8 rfl 13 rfl ?_ ?_
  refine WL.c1 hb111 rfl rfl ((hN _ hv10)) (fun w12 hw12 => ?_)
  have hk13 := hk8.below hw12 hk8.lt
  have hk14 := hk9.below hw12 hk9.lt
  have hv15 := BytesAt.below hv10 hw12 (fun h0 => hv10.lt h0)
  have hB16 := Touch.trans hB11 (Touch.mono (Touch.of_below hw12) hB11.size)
  refine WL.nil <| ?_
  refine WY.tk 9 rfl (.mv rfl) rfl ?_
  refine WY.tk 10 rfl (.ext rfl rfl) rfl ?_
  refine WY.tk 11 rfl (.ext rfl rfl) rfl ?_
  refine WY.tk 12 rfl (.ext rfl rfl) rfl ?_
  refine WY.br1 13 rfl ?_
  refine WL.alloc zeroValue143 rfl (fun b17 wb17 eb17 hkb17 hub17 hsb17 => ?_)
  have hl19 : r < b17 := by rw [eb17]; exact hk13.lt
  have hk18 := hk13.upd hub17 (Nat.ne_of_lt hl19)
  have hl21 : b1 < b17 := by rw [eb17]; exact hk14.lt
  have hk20 := hk14.upd hub17 (Nat.ne_of_lt hl21)
  have hvl23 := fun h0 => eb17 ▸ hv15.lt h0
  have hv22 := bup hv15 hub17 hvl23
  have hgeb17 : w.heap.size ≤ b17 := by rw [eb17]; exact hB16.size
  have hB24 := Touch.trans hB16 (Touch.of_new hub17 hgeb17)
  refine WL.nil <| ?_
  refine WY.br1 14 rfl ?_
  refine WL.stL rfl rfl hkb17 isz143 rfl rfl (fun w25 hkw25 huw25 hsw25 => ?_)
  have hk26 := hk18.up huw25
  have hk27 := hk20.up huw25
  have hv28 := bup hv22 huw25 hvl23
  have hB29 := Touch.trans hB24 (Touch.of_new huw25 oO)
  refine WL.nil <| ?_
  refine WY.tk 15 rfl (.as rfl) rfl ?_
  refine WY.tk 16 rfl (.as rfl) rfl ?_
  refine WY.done kR ?_
  exact ⟨_, ⟨rfl, rfl, rfl, rfl, rfl, trivial⟩, hB29, ⟨hk26, hv28⟩, hk27, hkw25, by omega⟩
  refine WL.alloc zeroValue143 rfl (fun b30 wb30 eb30 hkb30 hub30 hsb30 => ?_)
  have hl32 : r < b30 := by rw [eb30]; exact hk8.lt
  have hk31 := hk8.upd hub30 (Nat.ne_of_lt hl32)
  have hl34 : b1 < b30 := by rw [eb30]; exact hk9.lt
  have hk33 := hk9.upd hub30 (Nat.ne_of_lt hl34)
  have hvl36 := fun h0 => eb30 ▸ hv10.lt h0
  have hv35 := bup hv10 hub30 hvl36
  have hgeb30 : w.heap.size ≤ b30 := by rw [eb30]; exact hB11.size
  have hB37 := Touch.trans hB11 (Touch.of_new hub30 hgeb30)
  refine WL.nil <| ?_
  refine WY.br1 8 rfl ?_
  refine WL.c1 hb111 rfl rfl ((hN _ hv35)) (fun w38 hw38 => ?_)
  have hk39 := hk31.below hw38 hk31.lt
  have hk40 := hk33.below hw38 hk33.lt
  have hk41 := hkb30.below hw38 hkb30.lt
  have hv42 := BytesAt.below hv35 hw38 (fun h0 => hv35.lt h0)
  have hB43 := Touch.trans hB37 (Touch.mono (Touch.of_below hw38) hB37.size)
  refine WL.nil <| ?_
  refine WY.tk 9 rfl (.mv rfl) rfl ?_
  refine WY.tk 10 rfl (.ext rfl rfl) rfl ?_
  refine WY.tk 11 rfl (.ext rfl rfl) rfl ?_
  refine WY.tk 12 rfl (.ext rfl rfl) rfl ?_
  refine WY.br1 14 rfl ?_
  refine WL.stL rfl rfl hk41 isz143 rfl rfl (fun w44 hkw44 huw44 hsw44 => ?_)
  have hk45 := hk39.up huw44
  have hk46 := hk40.up huw44
  have hv47 := bup hv42 huw44 hvl36
  have hB48 := Touch.trans hB43 (Touch.of_new huw44 oO)
  refine WL.nil <| ?_
  refine WY.tk 15 rfl (.as rfl) rfl ?_
  refine WY.tk 16 rfl (.as rfl) rfl ?_
  refine WY.done kR ?_
  exact ⟨_, ⟨rfl, rfl, rfl, rfl, rfl, trivial⟩, hB48, ⟨hk45, hv47⟩, hk46, hkw44, by omega⟩
  refine WL.alloc zeroValue143 rfl (fun b49 wb49 eb49 hkb49 hub49 hsb49 => ?_)
  have hl51 : r < b49 := by rw [eb49]; exact hk8.lt
  have hk50 := hk8.upd hub49 (Nat.ne_of_lt hl51)
  have hl53 : b1 < b49 := by rw [eb49]; exact hk9.lt
  have hk52 := hk9.upd hub49 (Nat.ne_of_lt hl53)
  have hvl55 := fun h0 => eb49 ▸ hv10.lt h0
  have hv54 := bup hv10 hub49 hvl55
  have hgeb49 : w.heap.size ≤ b49 := by rw [eb49]; exact hB11.size
  have hB56 := Touch.trans hB11 (Touch.of_new hub49 hgeb49)
  refine WL.nil <| ?_
  refine WY.br1 7 rfl ?_
  refine WL.r (Rd.ld (isAgg3 _) rfl hk50 rfl) rfl <| WL.nil <| ?_
  refine WY.br1 8 rfl ?_
  refine WL.c1 hb111 rfl rfl ((hN _ hv54)) (fun w57 hw57 => ?_)
  have hk58 := hk50.below hw57 hk50.lt
  have hk59 := hk52.below hw57 hk52.lt
  have hk60 := hkb49.below hw57 hkb49.lt
  have hv61 := BytesAt.below hv54 hw57 (fun h0 => hv54.lt h0)
  have hB62 := Touch.trans hB56 (Touch.mono (Touch.of_below hw57) hB56.size)
  refine WL.nil <| ?_
  refine WY.tk 9 rfl (.mv rfl) rfl ?_
  refine WY.tk 10 rfl (.ext rfl rfl) rfl ?_
  refine WY.tk 11 rfl (.ext rfl rfl) rfl ?_
  refine WY.tk 12 rfl (.ext rfl rfl) rfl ?_
  refine WY.br1 14 rfl ?_
  refine WL.stL rfl rfl hk60 isz143 rfl rfl (fun w63 hkw63 huw63 hsw63 => ?_)
  have hk64 := hk58.up huw63
  have hk65 := hk59.up huw63
  have hv66 := bup hv61 huw63 hvl55
  have hB67 := Touch.trans hB62 (Touch.of_new huw63 oO)
  refine WL.nil <| ?_
  refine WY.tk 15 rfl (.as rfl) rfl ?_
  refine WY.tk 16 rfl (.as rfl) rfl ?_
  refine WY.done kR ?_
  exact ⟨_, ⟨rfl, rfl, rfl, rfl, rfl, trivial⟩, hB67, ⟨hk64, hv66⟩, hk65, hkw63, by omega⟩
  refine WL.r (Rd.ld (isAgg3 _) rfl hk8 rfl) rfl <| WL.nil <| ?_
  refine WY.br2 3 rfl 13 rfl ?_ ?_
  refine WL.r (Rd.ld (isAgg22 _) rfl hk8 rfl) rfl <| WL.nil <| ?_
  refine WY.br2 8 rfl 13 rfl ?_ ?_
  refine WL.c1 hb111 rfl rfl ((hN _ hv10)) (fun w68 hw68 => ?_)
  have hk69 := hk8.below hw68 hk8.lt
  have hk70 := hk9.below hw68 hk9.lt
  have hv71 := BytesAt.below hv10 hw68 (fun h0 => hv10.lt h0)
  have hB72 := Touch.trans hB11 (Touch.mono (Touch.of_below hw68) hB11.size)
  refine WL.nil <| ?_
  refine WY.tk 9 rfl (.mv rfl) rfl ?_
  refine WY.tk 10 rfl (.ext rfl rfl) rfl ?_
  refine WY.tk 11 rfl (.ext rfl rfl) rfl ?_
  refine WY.tk 12 rfl (.ext rfl rfl) rfl ?_
  refine WY.br1 13 rfl ?_
  refine WL.alloc zeroValue143 rfl (fun b73 wb73 eb73 hkb73 hub73 hsb73 => ?_)
  have hl75 : r < b73 := by rw [eb73]; exact hk69.lt
  have hk74 := hk69.upd hub73 (Nat.ne_of_lt hl75)
  have hl77 : b1 < b73 := by rw [eb73]; exact hk70.lt
  have hk76 := hk70.upd hub73 (Nat.ne_of_lt hl77)
  have hvl79 := fun h0 => eb73 ▸ hv71.lt h0
  have hv78 := bup hv71 hub73 hvl79
  have hgeb73 : w.heap.size ≤ b73 := by rw [eb73]; exact hB72.size
  have hB80 := Touch.trans hB72 (Touch.of_new hub73 hgeb73)
  refine WL.nil <| ?_
  refine WY.br1 14 rfl ?_
  refine WL.stL rfl rfl hkb73 isz143 rfl rfl (fun w81 hkw81 huw81 hsw81 => ?_)
  have hk82 := hk74.up huw81
  have hk83 := hk76.up huw81
  have hv84 := bup hv78 huw81 hvl79
  have hB85 := Touch.trans hB80 (Touch.of_new huw81 oO)
  refine WL.nil <| ?_
  refine WY.tk 15 rfl (.as rfl) rfl ?_
  refine WY.tk 16 rfl (.as rfl) rfl ?_
  refine WY.done kR ?_
  exact ⟨_, ⟨rfl, rfl, rfl, rfl, rfl, trivial⟩, hB85, ⟨hk82, hv84⟩, hk83, hkw81, by omega⟩
  refine WL.alloc zeroValue143 rfl (fun b86 wb86 eb86 hkb86 hub86 hsb86 => ?_)
  have hl88 : r < b86 := by rw [eb86]; exact hk8.lt
  have hk87 := hk8.upd hub86 (Nat.ne_of_lt hl88)
  have hl90 : b1 < b86 := by rw [eb86]; exact hk9.lt
  have hk89 := hk9.upd hub86 (Nat.ne_of_lt hl90)
  have hvl92 := fun h0 => eb86 ▸ hv10.lt h0
  have hv91 := bup hv10 hub86 hvl92
  have hgeb86 : w.heap.size ≤ b86 := by rw [eb86]; exact hB11.size
  have hB93 := Touch.trans hB11 (Touch.of_new hub86 hgeb86)
  refine WL.nil <| ?_
  refine WY.br1 8 rfl ?_
  refine WL.c1 hb111 rfl rfl ((hN _ hv91)) (fun w94 hw94 => ?_)
  have hk95 := hk87.below hw94 hk87.lt
  have hk96 := hk89.below hw94 hk89.lt
  have hk97 := hkb86.below hw94 hkb86.lt
  have hv98 := BytesAt.below hv91 hw94 (fun h0 => hv91.lt h0)
  have hB99 := Touch.trans hB93 (Touch.mono (Touch.of_below hw94) hB93.size)
  refine WL.nil <| ?_
  refine WY.tk 9 rfl (.mv rfl) rfl ?_
  refine WY.tk 10 rfl (.ext rfl rfl) rfl ?_
  refine WY.tk 11 rfl (.ext rfl rfl) rfl ?_
  refine WY.tk 12 rfl (.ext rfl rfl) rfl ?_
  refine WY.br1 14 rfl ?_
  refine WL.stL rfl rfl hk97 isz143 rfl rfl (fun w100 hkw100 huw100 hsw100 => ?_)
  have hk101 := hk95.up huw100
  have hk102 := hk96.up huw100
  have hv103 := bup hv98 huw100 hvl92
  have hB104 := Touch.trans hB99 (Touch.of_new huw100 oO)
  refine WL.nil <| ?_
  refine WY.tk 15 rfl (.as rfl) rfl ?_
  refine WY.tk 16 rfl (.as rfl) rfl ?_
  refine WY.done kR ?_
  exact ⟨_, ⟨rfl, rfl, rfl, rfl, rfl, trivial⟩, hB104, ⟨hk101, hv103⟩, hk102, hkw100, by omega⟩
  refine WL.alloc zeroValue143 rfl (fun b105 wb105 eb105 hkb105 hub105 hsb105 => ?_)
  have hl107 : r < b105 := by rw [eb105]; exact hk8.lt
  have hk106 := hk8.upd hub105 (Nat.ne_of_lt hl107)
  have hl109 : b1 < b105 := by rw [eb105]; exact hk9.lt
  have hk108 := hk9.upd hub105 (Nat.ne_of_lt hl109)
  have hvl111 := fun h0 => eb105 ▸ hv10.lt h0
  have hv110 := bup hv10 hub105 hvl111
  have hgeb105 : w.heap.size ≤ b105 := by rw [eb105]; exact hB11.size
  have hB112 := Touch.trans hB11 (Touch.of_new hub105 hgeb105)
  refine WL.nil <| ?_
  refine WY.br1 3 rfl ?_
  refine WL.r (Rd.ld (isAgg22 _) rfl hk106 rfl) rfl <| WL.nil <| ?_
  refine WY.br1 8 rfl ?_
  refine WL.c1 hb111 rfl rfl ((hN _ hv110)) (fun w113 hw113 => ?_)
  have hk114 := hk106.below hw113 hk106.lt
  have hk115 := hk108.below hw113 hk108.lt
  have hk116 := hkb105.below hw113 hkb105.lt
  have hv117 := BytesAt.below hv110 hw113 (fun h0 => hv110.lt h0)
  have hB118 := Touch.trans hB112 (Touch.mono (Touch.of_below hw113) hB112.size)
  refine WL.nil <| ?_
  refine WY.tk 9 rfl (.mv rfl) rfl ?_
  refine WY.tk 10 rfl (.ext rfl rfl) rfl ?_
  refine WY.tk 11 rfl (.ext rfl rfl) rfl ?_
  refine WY.tk 12 rfl (.ext rfl rfl) rfl ?_
  refine WY.br1 14 rfl ?_
  refine WL.stL rfl rfl hk116 isz143 rfl rfl (fun w119 hkw119 huw119 hsw119 => ?_)
  have hk120 := hk114.up huw119
  have hk121 := hk115.up huw119
  have hv122 := bup hv117 huw119 hvl111
  have hB123 := Touch.trans hB118 (Touch.of_new huw119 oO)
  refine WL.nil <| ?_
  refine WY.tk 15 rfl (.as rfl) rfl ?_
  refine WY.tk 16 rfl (.as rfl) rfl ?_
  refine WY.done kR ?_
  exact ⟨_, ⟨rfl, rfl, rfl, rfl, rfl, trivial⟩, hB123, ⟨hk120, hv122⟩, hk121, hkw119, by omega⟩
  refine WL.alloc zeroValue143 rfl (fun b124 wb124 eb124 hkb124 hub124 hsb124 => ?_)
  have hl126 : r < b124 := by rw [eb124]; exact hk8.lt
  have hk125 := hk8.upd hub124 (Nat.ne_of_lt hl126)
  have hl128 : b1 < b124 := by rw [eb124]; exact hk9.lt
  have hk127 := hk9.upd hub124 (Nat.ne_of_lt hl128)
  have hvl130 := fun h0 => eb124 ▸ hv10.lt h0
  have hv129 := bup hv10 hub124 hvl130
  have hgeb124 : w.heap.size ≤ b124 := by rw [eb124]; exact hB11.size
  have hB131 := Touch.trans hB11 (Touch.of_new hub124 hgeb124)
  refine WL.nil <| ?_
  refine WY.br2 3 rfl 7 rfl ?_ ?_
  refine WL.r (Rd.ld (isAgg22 _) rfl hk125 rfl) rfl <| WL.nil <| ?_
  refine WY.br1 7 rfl ?_
  refine WL.r (Rd.ld (isAgg3 _) rfl hk125 rfl) rfl <| WL.nil <| ?_
  refine WY.br1 8 rfl ?_
  refine WL.c1 hb111 rfl rfl ((hN _ hv129)) (fun w132 hw132 => ?_)
  have hk133 := hk125.below hw132 hk125.lt
  have hk134 := hk127.below hw132 hk127.lt
  have hk135 := hkb124.below hw132 hkb124.lt
  have hv136 := BytesAt.below hv129 hw132 (fun h0 => hv129.lt h0)
  have hB137 := Touch.trans hB131 (Touch.mono (Touch.of_below hw132) hB131.size)
  refine WL.nil <| ?_
  refine WY.tk 9 rfl (.mv rfl) rfl ?_
  refine WY.tk 10 rfl (.ext rfl rfl) rfl ?_
  refine WY.tk 11 rfl (.ext rfl rfl) rfl ?_
  refine WY.tk 12 rfl (.ext rfl rfl) rfl ?_
  refine WY.br1 14 rfl ?_
  refine WL.stL rfl rfl hk135 isz143 rfl rfl (fun w138 hkw138 huw138 hsw138 => ?_)
  have hk139 := hk133.up huw138
  have hk140 := hk134.up huw138
  have hv141 := bup hv136 huw138 hvl130
  have hB142 := Touch.trans hB137 (Touch.of_new huw138 oO)
  refine WL.nil <| ?_
  refine WY.tk 15 rfl (.as rfl) rfl ?_
  refine WY.tk 16 rfl (.as rfl) rfl ?_
  refine WY.done kR ?_
  exact ⟨_, ⟨rfl, rfl, rfl, rfl, rfl, trivial⟩, hB142, ⟨hk139, hv141⟩, hk140, hkw138, by omega⟩
  refine WL.r (Rd.ld (isAgg3 _) rfl hk125 rfl) rfl <| WL.nil <| ?_
  refine WY.br1 3 rfl ?_
  refine WL.r (Rd.ld (isAgg22 _) rfl hk125 rfl) rfl <| WL.nil <| ?_
  refine WY.br1 8 rfl ?_
  refine WL.c1 hb111 rfl rfl ((hN _ hv129)) (fun w143 hw143 => ?_)
  have hk144 := hk125.below hw143 hk125.lt
  have hk145 := hk127.below hw143 hk127.lt
  have hk146 := hkb124.below hw143 hkb124.lt
  have hv147 := BytesAt.below hv129 hw143 (fun h0 => hv129.lt h0)
  have hB148 := Touch.trans hB131 (Touch.mono (Touch.of_below hw143) hB131.size)
  refine WL.nil <| ?_
  refine WY.tk 9 rfl (.mv rfl) rfl ?_
  refine WY.tk 10 rfl (.ext rfl rfl) rfl ?_
  refine WY.tk 11 rfl (.ext rfl rfl) rfl ?_
  refine WY.tk 12 rfl (.ext rfl rfl) rfl ?_
  refine WY.br1 14 rfl ?_
  refine WL.stL rfl rfl hk146 isz143 rfl rfl (fun w149 hkw149 huw149 hsw149 => ?_)
  have hk150 := hk144.up huw149
  have hk151 := hk145.up huw149
  have hv152 := bup hv147 huw149 hvl130
  have hB153 := Touch.trans hB148 (Touch.of_new huw149 oO)
  refine WL.nil <| ?_
  refine WY.tk 15 rfl (.as rfl) rfl ?_
  refine WY.tk 16 rfl (.as rfl) rfl ?_
  refine WY.done kR ?_
  exact ⟨_, ⟨rfl, rfl, rfl, rfl, rfl, trivial⟩, hB153, ⟨hk150, hv152⟩, hk151, hkw149, by omega⟩
  obtain ⟨b3, rfl⟩ : ∃ b3, b3 = t := ⟨t, rfl⟩
  obtain ⟨hT, hrd, hk1, hk3, h13⟩ := hR
  refine W.seq <| W.sr <| WL.m rfl rfl <| WL.p (.eql rfl rfl) rfl <| WL.nil <| ?_
  refine W.cond rfl (fun h154 => ?_) (fun h154 => ?_)
  · have h154' := dT h154
    refine W.seq ?_
    refine W.cut (α := Unit) (fun _ => [(0, .pointer (some ⟨r, 0, none⟩)), (2, .pointer (some ⟨b1, 0, none⟩)), (3, .pointer (some ⟨b3, 0, none⟩)), (4, .int .i64 N.at'), (5, .int .i64 N.e), (32, .bool (decide (((l[t0]'ht).toNat : Int) = 40)))]) (fun _ w' => Drew w1 w') ?_ (fun _ w1 hR => ?_)
    refine W.regY 11 rfl mixed (fun w155 dw155 => ?_)
    have hk156 := hrd.1.drew dw155
    have hv159 := hrd.2.drew dw155
    refine WY.tk 0 rfl (.mv rfl) rfl ?_
    refine WY.tk 1 rfl (.nck rfl) rfl ?_
    refine WY.tk 2 rfl (.fa underlying69 rfl sizeOf22 dD rfl) rfl ?_
    refine WY.tk 4 rfl (.mv rfl) rfl ?_
    refine WY.tk 5 rfl (.nck rfl) rfl ?_
    refine WY.tk 6 rfl (.fa underlying69 rfl sizeOf3 dD rfl) rfl ?_
    refine WY.br2 3 rfl 7 rfl ?_ ?_
    refine WL.r (Rd.ld (isAgg22 _) rfl hk156 rfl) rfl <| WL.nil <| ?_
    refine WY.br1 7 rfl ?_
    refine WL.r (Rd.ld (isAgg3 _) rfl hk156 rfl) rfl <| WL.nil <| ?_
    refine WY.tk 8 rfl (.ixb underlying22 sizeOf5 rfl rfl (hv159.isp oO) (t0) (rfl) (ht)) rfl ?_
    refine WY.br1 9 rfl ?_
    refine WL.r (Rd.ldc (isAgg5 _) rfl (hv159.cells (t0) oO)) rfl <| WL.nil <| ?_
    refine WY.tk 10 rfl (.eql rfl rfl) rfl ?_
    refine WY.done kR ?_
    exact ⟨(), ⟨rfl, rfl, rfl, rfl, rfl, rfl, trivial⟩, dw155⟩
    refine WL.r (Rd.ld (isAgg3 _) rfl hk156 rfl) rfl <| WL.nil <| ?_
    refine WY.br1 3 rfl ?_
    refine WL.r (Rd.ld (isAgg22 _) rfl hk156 rfl) rfl <| WL.nil <| ?_
    refine WY.tk 8 rfl (.ixb underlying22 sizeOf5 rfl rfl (hv159.isp oO) (t0) (rfl) (ht)) rfl ?_
    refine WY.br1 9 rfl ?_
    refine WL.r (Rd.ldc (isAgg5 _) rfl (hv159.cells (t0) oO)) rfl <| WL.nil <| ?_
    refine WY.tk 10 rfl (.eql rfl rfl) rfl ?_
    refine WY.done kR ?_
    exact ⟨(), ⟨rfl, rfl, rfl, rfl, rfl, rfl, trivial⟩, dw155⟩
    have hk161 := hrd.1.drew hR
    have hk162 := hk1.drew hR
    have hv164 := hrd.2.drew hR
    have hB165 := Touch.trans hT (Touch.of_drew hR)
    refine W.cond rfl (fun h166 => ?_) (fun h166 => ?_)
    · have h166' := dT h166
      have hop : openB l t0 = true := by unfold openB; rw [if_neg (by rw [hg, show l[t0] = 40 from u8_eq aS]; decide)]
      refine W.sr <| WL.m rfl rfl <| WL.c1 hb74 rfl rfl ((r18_fail r p l c t0 refs 0 24 _ ⟨hk161, hv164⟩ hne)) (fun w167 hw167 => ?_)
      have hk168 := hw167.1.1
      have hk169 := Blk.touch hk162 hw167.2 hk162.lt oO
      have hv171 := hw167.1.2
      have hB172 := Touch.trans hB165 (Touch.mono hw167.2 hB165.size)
      refine WL.stL rfl rfl hk169 isz31 rfl rfl (fun w173 hkw173 huw173 hsw173 => ?_)
      have hk174 := hk168.up huw173
      have hv176 := bup hv171 huw173 hvl5
      have hB177 := Touch.trans hB172 (Touch.of_new huw173 oO)
      refine WL.nil <| ?_
      refine W.ret (W.retc1 rfl rfl (ldRow hkw173 underlying31 rfl isz31)  ?_)
      (rw [if_pos ⟨by assumption, by assumption⟩] at hX; subst hX; exact ⟨rfl, ⟨hk174, hv176⟩, hB177⟩)
    have h166' := dF h166
    have h60 : l[t0] = 60 := h46.resolve_left (u8_ne (d := 40) aS)
    have hop : openB l t0 = (l.drop (t0 + 1)).all pOpen := by unfold openB; rw [if_pos (by rw [hg, h60])]
    refine W.skip <| W.seq <| W.sr <| WL.m rfl rfl <| WL.p (.nck rfl) rfl <| WL.p (.fa underlying69 rfl sizeOf3 dD rfl) rfl <| WL.r (Rd.ld (isAgg3 _) rfl hk161 rfl) rfl <| WL.p (.iis (((t0 + 1 : Nat) : Int)) (.add rfl rfl (i64w oO)) oO) rfl <| WL.z rfl rfl ?_
    refine W.block ?_
    refine W.loop (α := Nat) (fun t => [(0, .pointer (some ⟨r, 0, none⟩)), (2, .pointer (some ⟨b1, 0, none⟩)), (6, .int .i64 (t : Int))]) (fun t w' => Touch w.heap.size r w w' ∧ RRd w' r p l c t0 refs 0 ∧ Blk w' b1 (pobj 0 0 []).toArray 31 ∧ openB l t0 = (l.drop t).all pOpen ∧ t ≤ l.length) (fun t => l.length - t) (t0 + 1) ⟨rfl, rfl, rfl, trivial⟩ (⟨hB165, ⟨hk161, hv164⟩, hk162, hop, ht⟩) (fun t w1 hR => ?_)
    obtain ⟨i, rfl⟩ : ∃ i, i = t := ⟨t, rfl⟩
    obtain ⟨hT, hrd, hk1, hz, hi⟩ := hR
    refine W.seq <| W.sr <| WL.m rfl rfl <| WL.m rfl rfl <| WL.p (.nck rfl) rfl <| WL.p (.fa underlying69 rfl sizeOf22 dD rfl) rfl <| WL.r (Rd.ld (isAgg22 _) rfl hrd.1 rfl) rfl <| WL.p (.lenS underlying22 rfl) rfl <| WL.p (.lss rfl rfl) rfl <| WL.nil <| ?_
    refine W.cond rfl (fun h178 => ?_) (fun h178 => ?_)
    · have h178' := dT h178
      have hst := all_step l i oO
      refine W.skip <| W.seq <| W.block <| W.sr <| WL.m rfl rfl <| WL.p (.nck rfl) rfl <| WL.p (.fa underlying69 rfl sizeOf22 dD rfl) rfl <| WL.r (Rd.ld (isAgg22 _) rfl hrd.1 rfl) rfl <| WL.m rfl rfl <| WL.p (.ixb underlying22 sizeOf5 rfl rfl (hrd.2.isp oO) (i) (rfl) oO) rfl <| WL.r (Rd.ldc (isAgg5 _) rfl (hrd.2.cells (i) oO)) rfl <| WL.c1 hb35 rfl rfl ((ref_Blank _ _)) (fun w179 hw179 => ?_)
      obtain rfl := hw179
      refine WL.p (.not rfl) rfl <| WL.m rfl rfl <| WL.gd rfl rfl rfl (fun g180 => ?_) (fun g180 => ?_)
      · have g180' := (nT g180)
        refine WL.m rfl rfl <| WL.gy rfl rfl rfl (by rw [(nT g180)] <;> rfl) <| WL.p (.nck rfl) rfl <| WL.gy rfl rfl rfl (by rw [(nT g180)] <;> rfl) <| WL.p (.fa underlying69 rfl sizeOf22 dD rfl) rfl <| WL.gy rfl rfl rfl (by rw [(nT g180)] <;> rfl) <| WL.r (Rd.ld (isAgg22 _) rfl hrd.1 rfl) rfl <| WL.gy rfl rfl rfl (by rw [(nT g180)] <;> rfl) <| WL.m rfl rfl <| WL.gy rfl rfl rfl (by rw [(nT g180)] <;> rfl) <| WL.p (.ixb underlying22 sizeOf5 rfl rfl (hrd.2.isp oO) (i) (rfl) oO) rfl <| WL.gy rfl rfl rfl (by rw [(nT g180)] <;> rfl) <| WL.r (Rd.ldc (isAgg5 _) rfl (hrd.2.cells (i) oO)) rfl <| WL.gy rfl rfl rfl (by rw [(nT g180)] <;> rfl) <| WL.c1 hb110 rfl rfl ((r18_hex _ _)) (fun w181 hw181 => ?_)
        obtain rfl := hw181
        refine WL.gy rfl rfl rfl (by rw [(nT g180)] <;> rfl) <| WL.p (.lss rfl rfl) rfl <| WL.p (.pkT rfl (by rw [(nT g180)] <;> rfl) rfl) rfl <| WL.nil <| ?_
        refine W.cond rfl (fun h182 => ?_) (fun h182 => ?_)
        · have h182' := dT h182
          refine W.sr <| WL.m rfl rfl <| WL.c1 hb74 rfl rfl ((r18_fail r p l c t0 refs 0 23 _ ⟨hrd.1, hrd.2⟩ hne)) (fun w183 hw183 => ?_)
          have hk184 := hw183.1.1
          have hk185 := Blk.touch hk1 hw183.2 hk1.lt oO
          have hv186 := hw183.1.2
          have hB187 := Touch.trans hT (Touch.mono hw183.2 hT.size)
          refine WL.stL rfl rfl hk185 isz31 rfl rfl (fun w188 hkw188 huw188 hsw188 => ?_)
          have hk189 := hk184.up huw188
          have hv190 := bup hv186 huw188 hvl5
          have hB191 := Touch.trans hB187 (Touch.of_new huw188 oO)
          refine WL.nil <| ?_
          refine W.ret (W.retc1 rfl rfl (ldRow hkw188 underlying31 rfl isz31)  ?_)
          (have h14 : N.e = 14 := by assumption
           have hno : openB l t0 = false := by rw [hz, hst, pOpen_no (.inr ⟨by assumption, by assumption⟩)]; rfl
           rw [if_neg (fun h => by rw [hno] at h; exact absurd h.2 dD), if_neg oO, if_pos (.inl oO)] at hX; subst hX; exact ⟨rfl, ⟨hk189, hv190⟩, hB191⟩)
        have h182' := dF h182
        refine W.skip <| W.reg <| WL.m rfl rfl <| WL.p (.iis (((i + 1 : Nat) : Int)) (.add rfl rfl (i64w oO)) oO) rfl <| WL.z rfl rfl ?_
        exact ⟨i + 1, ⟨rfl, rfl, rfl, trivial⟩, ⟨hT, ⟨hrd.1, hrd.2⟩, hk1, by rw [hz, hst, pOpen_yes' (.inr aS), Bool.true_and], by ((try simp only) <;> omega)⟩, by ((try simp only) <;> omega)⟩
      have g180' := (nF g180)
      refine WL.gn rfl rfl rfl (by rw [(nF g180)] <;> rfl) <| WL.gn rfl rfl rfl (by rw [(nF g180)] <;> rfl) <| WL.gn rfl rfl rfl (by rw [(nF g180)] <;> rfl) <| WL.gn rfl rfl rfl (by rw [(nF g180)] <;> rfl) <| WL.gn rfl rfl rfl (by rw [(nF g180)] <;> rfl) <| WL.gn rfl rfl rfl (by rw [(nF g180)] <;> rfl) <| WL.gn rfl rfl rfl (by rw [(nF g180)] <;> rfl) <| WL.gn rfl rfl rfl (by rw [(nF g180)] <;> rfl) <| WL.p (.pkF rfl (by rw [(nF g180)] <;> rfl) rfl) rfl <| WL.nil <| ?_
      refine W.condF rfl rfl ?_
      refine W.skip <| W.reg <| WL.m rfl rfl <| WL.p (.iis (((i + 1 : Nat) : Int)) (.add rfl rfl (i64w oO)) oO) rfl <| WL.z rfl rfl ?_
      exact ⟨i + 1, ⟨rfl, rfl, rfl, trivial⟩, ⟨hT, ⟨hrd.1, hrd.2⟩, hk1, by rw [hz, hst, pOpen_yes' (.inl aS), Bool.true_and], by ((try simp only) <;> omega)⟩, by ((try simp only) <;> omega)⟩
    have h178' := dF h178
    have hop2 : openB l t0 = true := by rw [hz, List.drop_eq_nil_of_le oO]; rfl
    refine W.exit <| W.sr <| WL.m rfl rfl <| WL.c1 hb74 rfl rfl ((r18_fail r p l c t0 refs 0 24 _ ⟨hrd.1, hrd.2⟩ hne)) (fun w192 hw192 => ?_)
    have hk193 := hw192.1.1
    have hk194 := Blk.touch hk1 hw192.2 hk1.lt oO
    have hv195 := hw192.1.2
    have hB196 := Touch.trans hT (Touch.mono hw192.2 hT.size)
    refine WL.stL rfl rfl hk194 isz31 rfl rfl (fun w197 hkw197 huw197 hsw197 => ?_)
    have hk198 := hk193.up huw197
    have hv199 := bup hv195 huw197 hvl5
    have hB200 := Touch.trans hB196 (Touch.of_new huw197 oO)
    refine WL.nil <| ?_
    refine W.ret (W.retc1 rfl rfl (ldRow hkw197 underlying31 rfl isz31)  ?_)
    (rw [if_pos ⟨by assumption, by assumption⟩] at hX; subst hX; exact ⟨rfl, ⟨hk198, hv199⟩, hB200⟩)
  have h154' := dF h154
  refine W.skip <| W.seq <| W.sr <| WL.m rfl rfl <| WL.p (.eql rfl rfl) rfl <| WL.nil <| ?_
  refine W.cond rfl (fun h201 => ?_) (fun h201 => ?_)
  · have h201' := dT h201
    refine W.sr <| WL.m rfl rfl <| WL.c1 hb74 rfl rfl ((r18_fail r p l c t0 refs 0 25 _ ⟨hrd.1, hrd.2⟩ hne)) (fun w202 hw202 => ?_)
    have hk203 := hw202.1.1
    have hk204 := Blk.touch hk1 hw202.2 hk1.lt oO
    have hv206 := hw202.1.2
    have hB207 := Touch.trans hT (Touch.mono hw202.2 hT.size)
    refine WL.stL rfl rfl hk204 isz31 rfl rfl (fun w208 hkw208 huw208 hsw208 => ?_)
    have hk209 := hk203.up huw208
    have hv211 := bup hv206 huw208 hvl5
    have hB212 := Touch.trans hB207 (Touch.of_new huw208 oO)
    refine WL.nil <| ?_
    refine W.ret (W.retc1 rfl rfl (ldRow hkw208 underlying31 rfl isz31)  ?_)
    (have h14 : ¬ N.e = 14 := by assumption
     rw [if_neg (fun h => h14 h.1), if_pos aS] at hX; subst hX; exact ⟨rfl, ⟨hk209, hv211⟩, hB212⟩)
  have h201' := dF h201
  refine W.skip <| W.seq <| W.sr <| WL.m rfl rfl <| WL.p (.neq rfl rfl) rfl <| WL.m rfl rfl <| WL.gd rfl rfl rfl (fun g213 => ?_) (fun g213 => ?_)
  · have g213' := ndF g213
    refine WL.p (.fa underlying143 rfl sizeOf3 dD rfl) rfl <| WL.gy rfl rfl rfl g213 <| WL.r (Rd.ld (isAgg3 _) rfl hk3 rfl) rfl <| WL.gy rfl rfl rfl g213 <| WL.p (.neq rfl rfl) rfl <| WL.p (.pkF rfl g213 rfl) rfl <| WL.nil <| ?_
    refine W.cond rfl (fun h214 => ?_) (fun h214 => ?_)
    · have h214' := ndT h214
      refine W.sr <| WL.m rfl rfl <| WL.c1 hb74 rfl rfl ((r18_fail r p l c t0 refs 0 23 _ ⟨hrd.1, hrd.2⟩ hne)) (fun w215 hw215 => ?_)
      have hk216 := hw215.1.1
      have hk217 := Blk.touch hk1 hw215.2 hk1.lt oO
      have hv219 := hw215.1.2
      have hB220 := Touch.trans hT (Touch.mono hw215.2 hT.size)
      refine WL.stL rfl rfl hk217 isz31 rfl rfl (fun w221 hkw221 huw221 hsw221 => ?_)
      have hk222 := hk216.up huw221
      have hv224 := bup hv219 huw221 hvl5
      have hB225 := Touch.trans hB220 (Touch.of_new huw221 oO)
      refine WL.nil <| ?_
      refine W.ret (W.retc1 rfl rfl (ldRow hkw221 underlying31 rfl isz31)  ?_)
      (have h14 : ¬ N.e = 14 := by assumption
       rw [if_neg (fun h => h14 h.1), if_neg aS, if_pos (.inr aS)] at hX; subst hX; exact ⟨rfl, ⟨hk222, hv224⟩, hB225⟩)
    have h214' := ndF h214
    refine W.skip <| W.sr <| WL.m rfl rfl <| WL.p (.iis (((N.at'.toNat : Nat) : Int)) (.mv rfl) oO) rfl <| WL.p (.nck rfl) rfl <| WL.p (.fa underlying69 rfl sizeOf3 dD rfl) rfl <| WL.st sizeOf3 rfl rfl rfl hrd.1 oD (fun w226 hkw226 huw226 hsw226 => ?_)
    have hkw226 : Blk w226 r _ _ := hkw226
    have huw226 : Upd r _ _ := huw226
    have hk227 := hk1.up huw226
    have hk228 := hk3.up huw226
    have hv229 := BytesAt.upd hrd.2 huw226 hne
    have hB230 := Touch.trans hT (Touch.of_upd huw226)
    refine WL.nil <| ?_
    refine W.sr <| WL.p (.fa underlying143 rfl sizeOf9 dD rfl) rfl <| WL.r (Rd.ld (isAgg9 _) rfl hk228 rfl) rfl <| ?_
    refine WL.p (.buildL (ps := _) blt31 rfl rfl rfl pS) rfl ?_
    refine WL.stL rfl rfl hk227 isz31 rfl rfl (fun w231 hkw231 huw231 hsw231 => ?_)
    have hk232 := hkw226.up huw231
    have hv234 := bup hv229 huw231 hvl5
    have hB235 := Touch.trans hB230 (Touch.of_new huw231 oO)
    refine WL.nil <| ?_
    refine W.ret (W.retc1 rfl rfl (ldRow hkw231 underlying31 rfl isz31)  ?_)
    (have h14 : ¬ N.e = 14 := by assumption
     rw [if_neg (fun h => h14 h.1), if_neg aS, if_neg oO] at hX; subst hX; exact ⟨rfl, ⟨hk232, hv234⟩, hB235⟩)
  have g213' := ndT g213
  refine WL.gn rfl rfl rfl g213 <| WL.gn rfl rfl rfl g213 <| WL.p (.pkT rfl g213 rfl) rfl <| WL.nil <| ?_
  refine W.condT rfl rfl ?_
  refine W.sr <| WL.m rfl rfl <| WL.c1 hb74 rfl rfl ((r18_fail r p l c t0 refs 0 23 _ ⟨hrd.1, hrd.2⟩ hne)) (fun w236 hw236 => ?_)
  have hk237 := hw236.1.1
  have hk238 := Blk.touch hk1 hw236.2 hk1.lt oO
  have hv240 := hw236.1.2
  have hB241 := Touch.trans hT (Touch.mono hw236.2 hT.size)
  refine WL.stL rfl rfl hk238 isz31 rfl rfl (fun w242 hkw242 huw242 hsw242 => ?_)
  have hk243 := hk237.up huw242
  have hv245 := bup hv240 huw242 hvl5
  have hB246 := Touch.trans hB241 (Touch.of_new huw242 oO)
  refine WL.nil <| ?_
  refine W.ret (W.retc1 rfl rfl (ldRow hkw242 underlying31 rfl isz31)  ?_)
  (have h14 : ¬ N.e = 14 := by assumption
   rw [if_neg (fun h => h14 h.1), if_neg aS, if_pos (.inl aS)] at hX; subst hX; exact ⟨rfl, ⟨hk243, hv245⟩, hB246⟩)
end
section
def resOf (o : PV) (t : Nat) (e : Int) : ObjE := if e = 0 then .ok (o, t) else .error e
/-- what the document's reading of an object leaves -/
def RObj (w : World) (r : Nat) (p : Option Addr) (l : List UInt8) (c : Nat) (refs : Bool) (res : ObjE) (v : Value) (w' : World) : Prop :=
 ∃ (x : PC) (o : PV) (t : Nat) (e : Int), v = .agg (pcV x).toArray ∧ PRep w' (fun k => w.heap.size ≤ k) x o ∧ RRd w' r p l c t refs e ∧ Touch w.heap.size r w w' ∧ res = resOf o t e ∧ t ≤ l.length
def RObjC (p : Option Addr) (l : List UInt8) (c : Nat) (refs : Bool) (D : Int) : Prop :=
 ∀ (r t : Nat) (w : World), RRd w r p l c t refs 0 → (0 < l.length → (pA p).block ≠ r) → t < l.length → skipAt false l t = t →
  Calls Tryz.prog 46 #[.pointer (some ⟨r, 0, none⟩), .int .i64 D] w fun e w' => ∃ v, e = .returned v ∧ RObj w r p l c refs (objP refs l D.toNat t) v w'
theorem r18_list (p : Option Addr) (l : List UInt8) (c : Nat) (refs : Bool) (D : Int) (hO : RObjC p l c refs D) (hadv : ∀ t o t', t < l.length → objP refs l D.toNat t = .ok (o, t') → t < t' ∧ t' ≤ l.length) (r t : Nat) (w : World) (h : RRd w r p l c t refs 0) (hne : 0 < l.length → (pA p).block ≠ r) (hl : l.length ≤ 100000000) (ht : t ≤ l.length) :
  Calls Tryz.prog 76 #[.pointer (some ⟨r, 0, none⟩), .int .i64 D] w fun e w' => ∃ v, e = .returned v ∧ RObj w r p l c refs (listO (listP (objP refs l D.toNat) l (l.length + 1) [] t)) v w' := by
 have hr := h.1
 have hb := h.2
 have hbl : 0 < l.length → (pA p).block < w.heap.size := fun h0 => hb.lt h0
 obtain ⟨R, hR⟩ : ∃ R, R = listP (objP refs l D.toNat) l (l.length + 1) [] t := ⟨_, rfl⟩
 rw [← hR]
 obtain ⟨t0, ht0⟩ : ∃ t0, t0 = t := ⟨t, rfl⟩
 subst ht0
 refine W.enter func76 rfl ntmps76 (Nat.le_of_ble_eq_true rfl) ?_
 have hB0 := Touch.refl (w.heap.size) r w
 refine W.seq ?_
 have hrw : r < w.heap.size := hr.lt
 refine W.reg <| WL.alloc zeroValue31 rfl (fun b1 wb1 eb1 hkb1 hub1 hsb1 => ?_)
 have hl3 : r < b1 := by rw [eb1]; exact hr.lt
 have hk2 := hr.upd hub1 (Nat.ne_of_lt hl3)
 have hvl5 := fun h0 => eb1 ▸ hb.lt h0
 have hv4 := bup hb hub1 hvl5
 have hgeb1 : w.heap.size ≤ b1 := by rw [eb1]; exact hB0.size
 have hB6 := Touch.trans hB0 (Touch.of_new hub1 hgeb1)
 refine WL.nil <| ?_
 refine W.sr <| WL.p (.buildL (ps := _) blt31 rfl rfl rfl pS) rfl ?_
 refine WL.alloc zeroValue31 rfl (fun b7 wb7 eb7 hkb7 hub7 hsb7 => ?_)
 have hl9 : r < b7 := by rw [eb7]; exact hk2.lt
 have hk8 := hk2.upd hub7 (Nat.ne_of_lt hl9)
 have hl11 : b1 < b7 := by rw [eb7]; exact hkb1.lt
 have hk10 := hkb1.upd hub7 (Nat.ne_of_lt hl11)
 have hvl13 := fun h0 => eb7 ▸ hv4.lt h0
 have hv12 := bup hv4 hub7 hvl13
 have hgeb7 : w.heap.size ≤ b7 := by rw [eb7]; exact hB6.size
 have hB14 := Touch.trans hB6 (Touch.of_new hub7 hgeb7)
 refine WL.stL rfl rfl hkb7 isz31 rfl rfl (fun w15 hkw15 huw15 hsw15 => ?_)
 have hk16 := hk8.up huw15
 have hk17 := hk10.up huw15
 have hv18 := bup hv12 huw15 hvl13
 have hB19 := Touch.trans hB14 (Touch.of_new huw15 oO)
 refine WL.nil <| ?_
 refine W.seq <| W.block ?_
 have hpB : 0 < l.length → (pA p).block < b7 + 1 := fun h0 => by have := hbl h0; omega
 have hrb : r < b7 := by omega
 refine W.loop (α := Value × List PC × List PV × Nat × Nat × Int) (fun t => [(0, .pointer (some ⟨r, 0, none⟩)), (1, .int .i64 D), (4, .pointer (some ⟨b1, 0, none⟩)), (5, .pointer (some ⟨b7, 0, none⟩))]) (fun t w' => RRd w' r p l c t.2.2.2.1 refs t.2.2.2.2.2 ∧ Touch w.heap.size r w w' ∧ Blk w' b1 (pobj 0 0 []).toArray 31 ∧ Blk w' b7 #[.int .i64 6, .int .i64 0, .string ⟨#[]⟩, .slice none 0 0, t.1, .slice none 0 0] 31 ∧ OwnM pcL 31 (b7 + 1) w' t.1 t.2.1 ∧ LInv w' (fun k => b7 < k ∧ t.1.ownBlock ≠ some k) t.2.1 t.2.2.1 ∧ (t.2.2.2.2.2 = 0 → listP (objP refs l D.toNat) l t.2.2.2.2.1 t.2.2.1 t.2.2.2.1 = R ∧ l.length < t.2.2.2.2.1 + t.2.2.2.1 ∧ t.2.2.1.length ≤ 65535) ∧ (t.2.2.2.2.2 ≠ 0 → R = .error t.2.2.2.2.2) ∧ t.2.2.2.1 ≤ l.length) (fun t => t.2.2.2.2.1) ((.slice none 0 0, [], [], t0, l.length + 1, 0)) ⟨rfl, rfl, rfl, rfl, trivial⟩ (⟨⟨hk16, hv18⟩, hB19, hk17, hkw15, OwnM.nil _ _ _ _, LInv.nil _ _, fun _ => ⟨hR.symm, by ((try simp only) <;> omega), by simp⟩, fun h => absurd rfl h, ht⟩) (fun t w1 hR => ?_)
 obtain ⟨v, cs, acc, t, f, er⟩ := t
 obtain ⟨hrd, hT, hk1, hk2, hown, hsub, hok, hbad, htl⟩ := hR
 simp only at hrd hk2 hown hsub hok hbad htl ⊢
 have hsge := skipAt_ge l t htl
 have hcl := hsub.len
 obtain ⟨pl, cl, rfl, -⟩ := hown.row
 refine W.seq <| W.sr <| WL.m rfl rfl <| WL.p (.nck rfl) rfl <| WL.p (.fa underlying69 rfl sizeOf35 dD rfl) rfl <| WL.r (Rd.ld (isAgg35 _) rfl hrd.1 rfl) rfl <| WL.p (.eql rfl rfl) rfl <| WL.nil <| ?_
 refine W.cond rfl (fun h20 => ?_) (fun h20 => ?_)
 have h20' := dT h20
 obtain rfl : er = 0 := by omega
 obtain ⟨hw, hft, hal⟩ := hok rfl
 have hst := listP_step (obj := objP refs l D.toNat) (l := l) (acc := acc) (t := t) (f := f) oO
 obtain ⟨s, hs⟩ : ∃ s, s = skipAt false l t := ⟨_, rfl⟩
 have hss : skipAt false l s = s := by rw [hs]; exact skipAt_idem l t
 have hSk : ∀ w1, RRd w1 r p l c t refs 0 → Calls Tryz.prog 112 #[.pointer (some ⟨r, 0, none⟩)] w1 fun e' w' => e' = .returned (.bool (decide (s < l.length))) ∧ RRd w' r p l c s refs (if s < l.length then 0 else 24) ∧ Touch w1.heap.size r w1 w' := fun w1 h1 => by rw [hs]; exact r18_skip r p l c t refs w1 h1 hne hl htl
 have hsle : s ≤ l.length := by rw [hs]; exact skipAt_le _ _ _
 rw [← hs] at hst hsge
 refine W.skip <| W.block <| W.seq <| W.sr <| WL.m rfl rfl <| WL.c1 hb112 rfl rfl ((hSk _ ⟨hrd.1, hrd.2⟩)) (fun w21 hw21 => ?_)
 have ho22 := OwnM.touch' hown hw21.2 oO
 have hF23 := LInv.same (w1 := w21) hsub (fun k hk hl => hw21.2.block k hl (by first | omega | (have := hk.1; omega)))
 have hk24 := hw21.1.1
 have hk25 := Blk.touch hk1 hw21.2 hk1.lt oO
 have hk26 := Blk.touch hk2 hw21.2 hk2.lt oO
 have hv27 := hw21.1.2
 have hB28 := Touch.trans hT (Touch.mono hw21.2 hT.size)
 refine WL.p (.not rfl) rfl <| WL.nil <| ?_
 refine W.cond rfl (fun h29 => ?_) (fun h29 => ?_)
 have h29' := (nT h29)
 refine W.exit <| W.sr <| WL.p (.buildL (ps := _) blt31 rfl rfl rfl pZ) rfl ?_
 refine WL.stL rfl rfl hk25 isz31 rfl rfl (fun w30 hkw30 huw30 hsw30 => ?_)
 have hk33 := hk24.up huw30
 have hv35 := bup hv27 huw30 hvl5
 have hB36 := Touch.trans hB28 (Touch.of_new huw30 oO)
 refine WL.nil <| ?_
 refine W.ret (W.retc1 rfl rfl (ldRow hkw30 underlying31 rfl isz31)  ?_)
 exact ⟨_, rfl, pc0 0 0 [], pv0 0 0 [], s, _, rfl, PRep.zero _ _ _ _ _, ⟨hk33, hv35⟩, hB36, by
  have hns : ¬ s < l.length := dF (nT aS)
  rw [← hw, hst, show l[s]? = none from List.getElem?_eq_none oO, if_neg hns]; rfl, hsle⟩
 have h29' := (nF h29)
 refine W.skip <| W.seq ?_
 have hsl : s < l.length := dT (nF aS)
 have hk0 := hk24
 rw [if_pos hsl] at hk0
 have hgs : l[s]? = some l[s] := List.getElem?_eq_getElem hsl
 rw [hgs] at hst
 refine W.cut (α := Unit) (fun _ => [(0, .pointer (some ⟨r, 0, none⟩)), (1, .int .i64 D), (4, .pointer (some ⟨b1, 0, none⟩)), (5, .pointer (some ⟨b7, 0, none⟩)), (25, .bool (decide (((l[s]'hsl).toNat : Int) = 93)))]) (fun _ w' => Drew w21 w') ?_ (fun _ w1 hR => ?_)
 refine W.regY 11 rfl mixed (fun w37 dw37 => ?_)
 have hk40 := hk0.drew dw37
 have hv43 := hv27.drew dw37
 refine WY.tk 0 rfl (.mv rfl) rfl ?_
 refine WY.tk 1 rfl (.nck rfl) rfl ?_
 refine WY.tk 2 rfl (.fa underlying69 rfl sizeOf22 dD rfl) rfl ?_
 refine WY.tk 4 rfl (.mv rfl) rfl ?_
 refine WY.tk 5 rfl (.nck rfl) rfl ?_
 refine WY.tk 6 rfl (.fa underlying69 rfl sizeOf3 dD rfl) rfl ?_
 refine WY.br2 3 rfl 7 rfl ?_ ?_
 refine WL.r (Rd.ld (isAgg22 _) rfl hk40 rfl) rfl <| WL.nil <| ?_
 refine WY.br1 7 rfl ?_
 refine WL.r (Rd.ld (isAgg3 _) rfl hk40 rfl) rfl <| WL.nil <| ?_
 refine WY.tk 8 rfl (.ixb underlying22 sizeOf5 rfl rfl (hv43.isp oO) (s) (rfl) (hsl)) rfl ?_
 refine WY.br1 9 rfl ?_
 refine WL.r (Rd.ldc (isAgg5 _) rfl (hv43.cells (s) oO)) rfl <| WL.nil <| ?_
 refine WY.tk 10 rfl (.eql rfl rfl) rfl ?_
 refine WY.done kR ?_
 exact ⟨(), ⟨rfl, rfl, rfl, rfl, rfl, trivial⟩, dw37⟩
 refine WL.r (Rd.ld (isAgg3 _) rfl hk40 rfl) rfl <| WL.nil <| ?_
 refine WY.br1 3 rfl ?_
 refine WL.r (Rd.ld (isAgg22 _) rfl hk40 rfl) rfl <| WL.nil <| ?_
 refine WY.tk 8 rfl (.ixb underlying22 sizeOf5 rfl rfl (hv43.isp oO) (s) (rfl) (hsl)) rfl ?_
 refine WY.br1 9 rfl ?_
 refine WL.r (Rd.ldc (isAgg5 _) rfl (hv43.cells (s) oO)) rfl <| WL.nil <| ?_
 refine WY.tk 10 rfl (.eql rfl rfl) rfl ?_
 refine WY.done kR ?_
 exact ⟨(), ⟨rfl, rfl, rfl, rfl, rfl, trivial⟩, dw37⟩
 have ho45 := OwnM.drew ho22 hR
 have hF46 := LInv.same (w1 := w1) hF23 (fun k hk hl => (by obtain ⟨m, rfl⟩ := hR; rfl))
 have hk47 := hk0.drew hR
 have hk48 := hk25.drew hR
 have hk49 := hk26.drew hR
 have hv50 := hv27.drew hR
 have hB51 := Touch.trans hB28 (Touch.of_drew hR)
 refine W.cond rfl (fun h52 => ?_) (fun h52 => ?_)
 have h52' := dT h52
 refine W.sr <| WL.m rfl rfl <| WL.p (.nck rfl) rfl <| WL.p (.fa underlying69 rfl sizeOf3 dD rfl) rfl <| WL.r (Rd.ld (isAgg3 _) rfl hk47 rfl) rfl <| WL.p (.iis (((s + 1 : Nat) : Int)) (.add rfl rfl (i64w oO)) oO) rfl <| WL.p (.nck rfl) rfl <| WL.p (.fa underlying69 rfl sizeOf3 dD rfl) rfl <| WL.st sizeOf3 rfl rfl rfl hk47 oD (fun w53 hkw53 huw53 hsw53 => ?_)
 have hkw53 : Blk w53 r _ _ := hkw53
 have huw53 : Upd r _ _ := huw53
 have ho54 := OwnM.touch ho45 huw53 oM
 have hF55 := LInv.same (w1 := w53) hF46 (fun k hk hl => huw53.other k (by first | ((try simp only) <;> omega) | (have := hk.1; ((try simp only) <;> omega))))
 have hk56 := hk48.up huw53
 have hk57 := hk49.up huw53
 have hv58 := BytesAt.upd hv50 huw53 hne
 have hB59 := Touch.trans hB51 (Touch.of_upd huw53)
 refine WL.nil <| ?_
 refine W.sr <| WL.r (Rd.ldA rfl hk57 underlying31 rfl isz31) rfl <| WL.stL rfl rfl hk56 isz31 rfl rfl (fun w60 hkw60 huw60 hsw60 => ?_)
 have ho61 := OwnM.touch ho54 huw60 oM
 have hF62 := LInv.same (w1 := w60) hF55 (fun k hk hl => huw60.other k (by first | ((try simp only) <;> omega) | (have := hk.1; ((try simp only) <;> omega))))
 have hk63 := hkw53.up huw60
 have hv65 := bup hv58 huw60 hvl5
 have hB66 := Touch.trans hB59 (Touch.of_new huw60 oO)
 refine WL.nil <| ?_
 refine W.ret (W.retc1 rfl rfl (ldRow hkw60 underlying31 rfl isz31)  ?_)
 exact ⟨_, rfl, ⟨6, 0, [], none, 0, 0, pl, cs.length, cl⟩, .mk 6 0 [] [] acc, s + 1, 0, rfl, PRep.ofRow ⟨OwnM.nil _ _ _ _, fun g h => by cases h⟩ ⟨(ho61).base (fun g hg => Nat.zero_le _), fun g hg => by have := (ho61).lt g hg; omega⟩ ((hF62).mono (fun k hk _ => by have := hk.1; omega)), ⟨hk63, hv65⟩, hB66, by rw [← hw, hst]; simp only []; rw [if_pos (u8_eq (d := 93) aS)]; rfl, by omega⟩
 have h52' := dF h52
 refine W.skip <| W.seq <| W.sr <| WL.p (.fa underlying31 rfl sizeOf29 dD rfl) rfl <| WL.r (Rd.ld (isAgg29 _) rfl hk49 rfl) rfl <| WL.p (.lenS underlying29 rfl) rfl <| WL.p (.geq rfl rfl) rfl <| WL.nil <| ?_
 refine W.cond rfl (fun h67 => ?_) (fun h67 => ?_)
 have h67' := dT h67
 refine W.sr <| WL.m rfl rfl <| WL.c1 hb74 rfl rfl ((r18_fail r p l c s refs 0 25 _ ⟨hk47, hv50⟩ hne)) (fun w68 hw68 => ?_)
 have hk71 := hw68.1.1
 have hk72 := Blk.touch hk48 hw68.2 hk48.lt oO
 have hv74 := hw68.1.2
 have hB75 := Touch.trans hB51 (Touch.mono hw68.2 hB51.size)
 refine WL.stL rfl rfl hk72 isz31 rfl rfl (fun w76 hkw76 huw76 hsw76 => ?_)
 have hk79 := hk71.up huw76
 have hv81 := bup hv74 huw76 hvl5
 have hB82 := Touch.trans hB75 (Touch.of_new huw76 oO)
 refine WL.nil <| ?_
 refine W.ret (W.retc1 rfl rfl (ldRow hkw76 underlying31 rfl isz31)  ?_)
 exact ⟨_, rfl, pc0 0 0 [], pv0 0 0 [], s, 25, rfl, PRep.zero _ _ _ _ _, ⟨hk79, hv81⟩, hB82, by rw [← hw, hst]; simp only []; rw [if_neg (u8_ne (d := 93) aS), if_pos oO]; rfl, hsle⟩
 have h67' := dF h67
 refine W.skip <| W.regY 9 rfl mixed (fun w83 dw83 => ?_)
 have ho84 := OwnM.drew ho45 dw83
 have hF85 := LInv.same (w1 := w83) hF46 (fun k hk hl => (by obtain ⟨m, rfl⟩ := dw83; rfl))
 have hk86 := hk47.drew dw83
 have hk87 := hk48.drew dw83
 have hk88 := hk49.drew dw83
 have hv89 := hv50.drew dw83
 have hB90 := Touch.trans hB51 (Touch.of_drew dw83)
 refine WY.tk 0 rfl (.fa underlying31 rfl sizeOf29 dD rfl) rfl ?_
 refine WY.tk 2 rfl (.mv rfl) rfl ?_
 refine WY.tk 3 rfl (.mv rfl) rfl ?_
 refine WY.br2 1 rfl 4 rfl ?_ ?_
 refine WL.r (Rd.ld (isAgg29 _) rfl hk88 rfl) rfl <| WL.nil <| ?_
 refine WY.br1 4 rfl ?_
 refine WL.call hb46 rfl rfl ((hO r s _ ⟨hk86, hv89⟩ hne hsl hss)) (fun xv w91 hw91 => ?_)
 obtain ⟨x1, oX, tX, eX, rfl, hpx, hrd1, hT1, hres, htX⟩ := hw91
 have ho1 := OwnM.touch' ho84 hT1 oO
 have hsub1 := LInv.same hF85 (fun k hk hl => hT1.block k hl (by have := hk.1; omega))
 have hk11 := Blk.touch hk87 hT1 (hk87).lt oO
 have hk21 := Blk.touch hk88 hT1 (hk88).lt oO
 have hB1 := Touch.trans hB90 (Touch.mono hT1 hB90.size)
 have hpx1 := hpx.mono (T := fun k => b7 < k ∧ (Value.slice pl cs.length cl).ownBlock ≠ some k) (fun k hk _ => ⟨by have := (hk88).lt; omega, fun e => by have := ((ho84).lt k e).2; omega⟩)
 have hsub2 := hsub1.push hpx1
 have hr1 := hrd1.1
 have hv1 := hrd1.2
 refine WL.nil <| ?_
 refine WY.br1 5 rfl ?_
 refine WL.bslM (L := pcL) (ps := _) ([x1]) underlying29 sizeOf31 zeroValue31 rfl rfl rfl rfl rfl (by first | rfl | decide) rfl rfl (fun b92 wb92 eb92 hob92 hub92 hsb92 => ?_)
 have ho93 := OwnM.new ho1 eb92 hub92
 have hF94 := LInv.same (w1 := wb92) hsub2 (fun k hk hl => hub92.other k oO)
 have hl96 : r < b92 := by rw [eb92]; exact hr1.lt
 have hk95 := hr1.upd hub92 (Nat.ne_of_lt hl96)
 have hl98 : b1 < b92 := by rw [eb92]; exact hk11.lt
 have hk97 := hk11.upd hub92 (Nat.ne_of_lt hl98)
 have hl100 : b7 < b92 := by rw [eb92]; exact hk21.lt
 have hk99 := hk21.upd hub92 (Nat.ne_of_lt hl100)
 have hvl102 := fun h0 => eb92 ▸ hv1.lt h0
 have hv101 := bup hv1 hub92 hvl102
 have hgeb92 : w.heap.size ≤ b92 := by rw [eb92]; exact hB1.size
 have hB103 := Touch.trans hB1 (Touch.of_new hub92 hgeb92)
 have hleb92 : b92 ≤ wb92.heap.size := by omega
 refine WL.nil <| ?_
 refine WY.br1 6 rfl ?_
 refine WL.appM underlying29 inf31 rfl rfl rfl ho93 rfl (hob92).rowp (by simp only [List.length_cons, List.length_nil]; omega) ((hk99).lt) rfl (fun h => nomatch h) (fun v104 w105 how105 hbw105 hgw105 hfw105 => ?_)
 have hk106 := hk95.below hbw105 oO
 have hk107 := hk97.below hbw105 oO
 have hk108 := hk99.below hbw105 oO
 have hF109 := LInv.grow (T := fun k => b7 < k ∧ (v104).ownBlock ≠ some k) hF94 (fun k hk hl => hgw105.block k hl (fun e => hk.2 e.symm)) (fun k hk hl => ⟨hk.1, fun e => by rcases hfw105 k e with h | h; exact hk.2 h; omega⟩)
 have hv110 := BytesAt.below hv101 hbw105 hpB
 have hB111 := Touch.trans hB103 (Touch.of_below (hbw105.mono oO))
 refine WL.nil <| ?_
 refine WY.tk 7 rfl (.fa underlying31 rfl sizeOf29 dD rfl) rfl ?_
 refine WY.br1 8 rfl ?_
 refine WL.st sizeOf29 rfl rfl (how105).one hk108 oD (fun w112 hkw112 huw112 hsw112 => ?_)
 have hkw112 : Blk w112 b7 _ _ := hkw112
 have huw112 : Upd b7 _ _ := huw112
 have ho113 := OwnM.touch how105 huw112 oM
 have hF114 := LInv.same (w1 := w112) hF109 (fun k hk hl => huw112.other k (by first | ((try simp only) <;> omega) | (have := hk.1; ((try simp only) <;> omega))))
 have hk115 := hk106.up huw112
 have hk116 := hk107.up huw112
 have hv117 := bup hv110 huw112 hvl13
 have hB118 := Touch.trans hB111 (Touch.of_new huw112 oO)
 refine WL.nil <| ?_
 refine WY.done kR ?_
 exact ⟨(_, cs ++ [x1], acc ++ [oX], tX, f - 1, eX), ⟨rfl, rfl, rfl, rfl, trivial⟩, ⟨⟨hk115, hv117⟩, hB118, hk116, hkw112, ho113, hF114, fun h0 => by
  have hob : objP refs l D.toNat s = .ok (oX, tX) := by rw [hres]; exact if_pos h0
  have had := hadv s oX tX hsl hob
  exact ⟨by rw [← hw, hst]; simp only []; rw [if_neg (u8_ne (d := 93) aS), if_neg oO, hob], by ((try simp only) <;> omega), by simp only [List.length_append, List.length_cons, List.length_nil]; omega⟩, fun h1 => by
  have hob : objP refs l D.toNat s = .error eX := by rw [hres]; exact if_neg h1
  rw [← hw, hst]; simp only []; rw [if_neg (u8_ne (d := 93) aS), if_neg oO, hob], htX⟩, by ((try simp only) <;> omega)⟩
 refine WL.call hb46 rfl rfl ((hO r s _ ⟨hk86, hv89⟩ hne hsl hss)) (fun xv w119 hw119 => ?_)
 obtain ⟨x1, oX, tX, eX, rfl, hpx, hrd1, hT1, hres, htX⟩ := hw119
 have ho1 := OwnM.touch' ho84 hT1 oO
 have hsub1 := LInv.same hF85 (fun k hk hl => hT1.block k hl (by have := hk.1; omega))
 have hk11 := Blk.touch hk87 hT1 (hk87).lt oO
 have hk21 := Blk.touch hk88 hT1 (hk88).lt oO
 have hB1 := Touch.trans hB90 (Touch.mono hT1 hB90.size)
 have hpx1 := hpx.mono (T := fun k => b7 < k ∧ (Value.slice pl cs.length cl).ownBlock ≠ some k) (fun k hk _ => ⟨by have := (hk88).lt; omega, fun e => by have := ((ho84).lt k e).2; omega⟩)
 have hsub2 := hsub1.push hpx1
 have hr1 := hrd1.1
 have hv1 := hrd1.2
 refine WL.nil <| ?_
 refine WY.br2 1 rfl 5 rfl ?_ ?_
 refine WL.r (Rd.ld (isAgg29 _) rfl hk21 rfl) rfl <| WL.nil <| ?_
 refine WY.br1 5 rfl ?_
 refine WL.bslM (L := pcL) (ps := _) ([x1]) underlying29 sizeOf31 zeroValue31 rfl rfl rfl rfl rfl (by first | rfl | decide) rfl rfl (fun b120 wb120 eb120 hob120 hub120 hsb120 => ?_)
 have ho121 := OwnM.new ho1 eb120 hub120
 have hF122 := LInv.same (w1 := wb120) hsub2 (fun k hk hl => hub120.other k oO)
 have hl124 : r < b120 := by rw [eb120]; exact hr1.lt
 have hk123 := hr1.upd hub120 (Nat.ne_of_lt hl124)
 have hl126 : b1 < b120 := by rw [eb120]; exact hk11.lt
 have hk125 := hk11.upd hub120 (Nat.ne_of_lt hl126)
 have hl128 : b7 < b120 := by rw [eb120]; exact hk21.lt
 have hk127 := hk21.upd hub120 (Nat.ne_of_lt hl128)
 have hvl130 := fun h0 => eb120 ▸ hv1.lt h0
 have hv129 := bup hv1 hub120 hvl130
 have hgeb120 : w.heap.size ≤ b120 := by rw [eb120]; exact hB1.size
 have hB131 := Touch.trans hB1 (Touch.of_new hub120 hgeb120)
 have hleb120 : b120 ≤ wb120.heap.size := by omega
 refine WL.nil <| ?_
 refine WY.br1 6 rfl ?_
 refine WL.appM underlying29 inf31 rfl rfl rfl ho121 rfl (hob120).rowp (by simp only [List.length_cons, List.length_nil]; omega) ((hk127).lt) rfl (fun h => nomatch h) (fun v132 w133 how133 hbw133 hgw133 hfw133 => ?_)
 have hk134 := hk123.below hbw133 oO
 have hk135 := hk125.below hbw133 oO
 have hk136 := hk127.below hbw133 oO
 have hF137 := LInv.grow (T := fun k => b7 < k ∧ (v132).ownBlock ≠ some k) hF122 (fun k hk hl => hgw133.block k hl (fun e => hk.2 e.symm)) (fun k hk hl => ⟨hk.1, fun e => by rcases hfw133 k e with h | h; exact hk.2 h; omega⟩)
 have hv138 := BytesAt.below hv129 hbw133 hpB
 have hB139 := Touch.trans hB131 (Touch.of_below (hbw133.mono oO))
 refine WL.nil <| ?_
 refine WY.tk 7 rfl (.fa underlying31 rfl sizeOf29 dD rfl) rfl ?_
 refine WY.br1 8 rfl ?_
 refine WL.st sizeOf29 rfl rfl (how133).one hk136 oD (fun w140 hkw140 huw140 hsw140 => ?_)
 have hkw140 : Blk w140 b7 _ _ := hkw140
 have huw140 : Upd b7 _ _ := huw140
 have ho141 := OwnM.touch how133 huw140 oM
 have hF142 := LInv.same (w1 := w140) hF137 (fun k hk hl => huw140.other k (by first | ((try simp only) <;> omega) | (have := hk.1; ((try simp only) <;> omega))))
 have hk143 := hk134.up huw140
 have hk144 := hk135.up huw140
 have hv145 := bup hv138 huw140 hvl13
 have hB146 := Touch.trans hB139 (Touch.of_new huw140 oO)
 refine WL.nil <| ?_
 refine WY.done kR ?_
 exact ⟨(_, cs ++ [x1], acc ++ [oX], tX, f - 1, eX), ⟨rfl, rfl, rfl, rfl, trivial⟩, ⟨⟨hk143, hv145⟩, hB146, hk144, hkw140, ho141, hF142, fun h0 => by
  have hob : objP refs l D.toNat s = .ok (oX, tX) := by rw [hres]; exact if_pos h0
  have had := hadv s oX tX hsl hob
  exact ⟨by rw [← hw, hst]; simp only []; rw [if_neg (u8_ne (d := 93) aS), if_neg oO, hob], by ((try simp only) <;> omega), by simp only [List.length_append, List.length_cons, List.length_nil]; omega⟩, fun h1 => by
  have hob : objP refs l D.toNat s = .error eX := by rw [hres]; exact if_neg h1
  rw [← hw, hst]; simp only []; rw [if_neg (u8_ne (d := 93) aS), if_neg oO, hob], htX⟩, by ((try simp only) <;> omega)⟩
 refine WL.bslM (L := pcL) (ps := _) ([x1]) underlying29 sizeOf31 zeroValue31 rfl rfl rfl rfl rfl (by first | rfl | decide) rfl rfl (fun b147 wb147 eb147 hob147 hub147 hsb147 => ?_)
 have ho148 := OwnM.new ho1 eb147 hub147
 have hF149 := LInv.same (w1 := wb147) hsub2 (fun k hk hl => hub147.other k oO)
 have hl151 : r < b147 := by rw [eb147]; exact hr1.lt
 have hk150 := hr1.upd hub147 (Nat.ne_of_lt hl151)
 have hl153 : b1 < b147 := by rw [eb147]; exact hk11.lt
 have hk152 := hk11.upd hub147 (Nat.ne_of_lt hl153)
 have hl155 : b7 < b147 := by rw [eb147]; exact hk21.lt
 have hk154 := hk21.upd hub147 (Nat.ne_of_lt hl155)
 have hvl157 := fun h0 => eb147 ▸ hv1.lt h0
 have hv156 := bup hv1 hub147 hvl157
 have hgeb147 : w.heap.size ≤ b147 := by rw [eb147]; exact hB1.size
 have hB158 := Touch.trans hB1 (Touch.of_new hub147 hgeb147)
 have hleb147 : b147 ≤ wb147.heap.size := by omega
 refine WL.nil <| ?_
 refine WY.br1 1 rfl ?_
 refine WL.r (Rd.ld (isAgg29 _) rfl hk154 rfl) rfl <| WL.nil <| ?_
 refine WY.br1 6 rfl ?_
 refine WL.appM underlying29 inf31 rfl rfl rfl ho148 rfl (hob147).rowp (by simp only [List.length_cons, List.length_nil]; omega) ((hk154).lt) rfl (fun h => nomatch h) (fun v159 w160 how160 hbw160 hgw160 hfw160 => ?_)
 have hk161 := hk150.below hbw160 oO
 have hk162 := hk152.below hbw160 oO
 have hk163 := hk154.below hbw160 oO
 have hF164 := LInv.grow (T := fun k => b7 < k ∧ (v159).ownBlock ≠ some k) hF149 (fun k hk hl => hgw160.block k hl (fun e => hk.2 e.symm)) (fun k hk hl => ⟨hk.1, fun e => by rcases hfw160 k e with h | h; exact hk.2 h; omega⟩)
 have hv165 := BytesAt.below hv156 hbw160 hpB
 have hB166 := Touch.trans hB158 (Touch.of_below (hbw160.mono oO))
 refine WL.nil <| ?_
 refine WY.tk 7 rfl (.fa underlying31 rfl sizeOf29 dD rfl) rfl ?_
 refine WY.br1 8 rfl ?_
 refine WL.st sizeOf29 rfl rfl (how160).one hk163 oD (fun w167 hkw167 huw167 hsw167 => ?_)
 have hkw167 : Blk w167 b7 _ _ := hkw167
 have huw167 : Upd b7 _ _ := huw167
 have ho168 := OwnM.touch how160 huw167 oM
 have hF169 := LInv.same (w1 := w167) hF164 (fun k hk hl => huw167.other k (by first | ((try simp only) <;> omega) | (have := hk.1; ((try simp only) <;> omega))))
 have hk170 := hk161.up huw167
 have hk171 := hk162.up huw167
 have hv172 := bup hv165 huw167 hvl13
 have hB173 := Touch.trans hB166 (Touch.of_new huw167 oO)
 refine WL.nil <| ?_
 refine WY.done kR ?_
 exact ⟨(_, cs ++ [x1], acc ++ [oX], tX, f - 1, eX), ⟨rfl, rfl, rfl, rfl, trivial⟩, ⟨⟨hk170, hv172⟩, hB173, hk171, hkw167, ho168, hF169, fun h0 => by
  have hob : objP refs l D.toNat s = .ok (oX, tX) := by rw [hres]; exact if_pos h0
  have had := hadv s oX tX hsl hob
  exact ⟨by rw [← hw, hst]; simp only []; rw [if_neg (u8_ne (d := 93) aS), if_neg oO, hob], by ((try simp only) <;> omega), by simp only [List.length_append, List.length_cons, List.length_nil]; omega⟩, fun h1 => by
  have hob : objP refs l D.toNat s = .error eX := by rw [hres]; exact if_neg h1
  rw [← hw, hst]; simp only []; rw [if_neg (u8_ne (d := 93) aS), if_neg oO, hob], htX⟩, by ((try simp only) <;> omega)⟩
 have h20' := dF h20
 refine W.exit <| W.sr <| WL.p (.buildL (ps := _) blt31 rfl rfl rfl pZ) rfl ?_
 refine WL.stL rfl rfl hk1 isz31 rfl rfl (fun w174 hkw174 huw174 hsw174 => ?_)
 have hk177 := hrd.1.upd huw174 oM
 have hv179 := BytesAt.upd hrd.2 huw174 (fun h0 => Nat.ne_of_lt (hvl5 h0))
 have hB180 := Touch.trans hT (Touch.of_new huw174 oO)
 refine WL.nil <| ?_
 refine W.ret (W.retc1 rfl rfl (ldRow hkw174 underlying31 rfl isz31)  ?_)
 exact ⟨_, rfl, pc0 0 0 [], pv0 0 0 [], t, er, rfl, PRep.zero _ _ _ _ _, ⟨hk177, hv179⟩, hB180, by
  have h0 : er ≠ 0 := by assumption
  rw [hbad h0]; exact (if_neg h0).symm, htl⟩
end
section
theorem nameD_le {l : List UInt8} {t : Nat} (ht : t ≤ l.length) : t ≤ (nameD l t).2.1 ∧ (nameD l t).2.1 ≤ l.length := by
 have h := wordAt_le l t ht
 unfold nameD
 cases decN (wordL l t) with
 | none => exact ⟨Nat.le_refl _, ht⟩
 | some out => exact h
theorem r18_pairs (p : Option Addr) (l : List UInt8) (c : Nat) (refs : Bool) (D : Int) (hO : RObjC p l c refs D) (hadv : ∀ t o t', t < l.length → objP refs l D.toNat t = .ok (o, t') → t < t' ∧ t' ≤ l.length) (r t : Nat) (w : World) (h : RRd w r p l c t refs 0) (hne : 0 < l.length → (pA p).block ≠ r) (hc : l.length ≤ c) (hl : l.length ≤ 100000000) (ht : t ≤ l.length) :
  Calls Tryz.prog 75 #[.pointer (some ⟨r, 0, none⟩), .int .i64 D] w fun e w' => ∃ v, e = .returned v ∧ RObj w r p l c refs (pairsO (pairsP (objP refs l D.toNat) l (l.length + 1) [] [] t)) v w' := by
 have hr := h.1
 have hb := h.2
 have hbl : 0 < l.length → (pA p).block < w.heap.size := fun h0 => hb.lt h0
 obtain ⟨R, hR⟩ : ∃ R, R = pairsP (objP refs l D.toNat) l (l.length + 1) [] [] t := ⟨_, rfl⟩
 rw [← hR]
 obtain ⟨t0, ht0⟩ : ∃ t0, t0 = t := ⟨t, rfl⟩
 subst ht0
 refine W.enter func75 rfl ntmps75 (Nat.le_of_ble_eq_true rfl) ?_
 have hB0 := Touch.refl (w.heap.size) r w
 refine W.seq ?_
 have hrw : r < w.heap.size := hr.lt
 refine W.reg <| WL.alloc zeroValue31 rfl (fun b1 wb1 eb1 hkb1 hub1 hsb1 => ?_)
 have hl3 : r < b1 := by rw [eb1]; exact hr.lt
 have hk2 := hr.upd hub1 (Nat.ne_of_lt hl3)
 have hvl5 := fun h0 => eb1 ▸ hb.lt h0
 have hv4 := bup hb hub1 hvl5
 have hgeb1 : w.heap.size ≤ b1 := by rw [eb1]; exact hB0.size
 have hB6 := Touch.trans hB0 (Touch.of_new hub1 hgeb1)
 refine WL.nil <| ?_
 refine W.sr <| WL.p (.buildL (ps := _) blt31 rfl rfl rfl pS) rfl ?_
 refine WL.alloc zeroValue31 rfl (fun b7 wb7 eb7 hkb7 hub7 hsb7 => ?_)
 have hl9 : r < b7 := by rw [eb7]; exact hk2.lt
 have hk8 := hk2.upd hub7 (Nat.ne_of_lt hl9)
 have hl11 : b1 < b7 := by rw [eb7]; exact hkb1.lt
 have hk10 := hkb1.upd hub7 (Nat.ne_of_lt hl11)
 have hvl13 := fun h0 => eb7 ▸ hv4.lt h0
 have hv12 := bup hv4 hub7 hvl13
 have hgeb7 : w.heap.size ≤ b7 := by rw [eb7]; exact hB6.size
 have hB14 := Touch.trans hB6 (Touch.of_new hub7 hgeb7)
 refine WL.stL rfl rfl hkb7 isz31 rfl rfl (fun w15 hkw15 huw15 hsw15 => ?_)
 have hk16 := hk8.up huw15
 have hk17 := hk10.up huw15
 have hv18 := bup hv12 huw15 hvl13
 have hB19 := Touch.trans hB14 (Touch.of_new huw15 oO)
 refine WL.nil <| ?_
 refine W.seq <| W.block ?_
 have hpB : 0 < l.length → (pA p).block < b7 + 1 := fun h0 => by have := hbl h0; omega
 have hrb : r < b7 := by omega
 refine W.loop (α := Value × Value × List (List UInt8) × List PC × List PV × Nat × Nat × Int) (fun t => [(0, .pointer (some ⟨r, 0, none⟩)), (1, .int .i64 D), (4, .pointer (some ⟨b1, 0, none⟩)), (5, .pointer (some ⟨b7, 0, none⟩))]) (fun t w' => RRd w' r p l c t.2.2.2.2.2.1 refs t.2.2.2.2.2.2.2 ∧ Touch w.heap.size r w w' ∧ Blk w' b1 (pobj 0 0 []).toArray 31 ∧ Blk w' b7 #[.int .i64 7, .int .i64 0, .string ⟨#[]⟩, t.1, t.2.1, .slice none 0 0] 31 ∧ OwnM strL 9 (b7 + 1) w' t.1 t.2.2.1 ∧ OwnM pcL 31 (b7 + 1) w' t.2.1 t.2.2.2.1 ∧ (∀ g, t.1.ownBlock = some g → t.2.1.ownBlock ≠ some g) ∧ LInv w' (fun k => b7 < k ∧ t.1.ownBlock ≠ some k ∧ t.2.1.ownBlock ≠ some k) t.2.2.2.1 t.2.2.2.2.1 ∧ (t.2.2.2.2.2.2.2 = 0 → pairsP (objP refs l D.toNat) l t.2.2.2.2.2.2.1 t.2.2.1 t.2.2.2.2.1 t.2.2.2.2.2.1 = R ∧ l.length < t.2.2.2.2.2.2.1 + t.2.2.2.2.2.1 ∧ t.2.2.2.2.1.length ≤ 65535 ∧ t.2.2.1.length = t.2.2.2.2.1.length) ∧ (t.2.2.2.2.2.2.2 ≠ 0 → R = .error t.2.2.2.2.2.2.2) ∧ t.2.2.2.2.2.1 ≤ l.length) (fun t => t.2.2.2.2.2.2.1) ((.slice none 0 0, .slice none 0 0, [], [], [], t0, l.length + 1, 0)) ⟨rfl, rfl, rfl, rfl, trivial⟩ (⟨⟨hk16, hv18⟩, hB19, hk17, hkw15, OwnM.nil _ _ _ _, OwnM.nil _ _ _ _, fun g h => (by cases h), LInv.nil _ _, fun _ => ⟨hR.symm, by ((try simp only) <;> omega), Nat.zero_le _, rfl⟩, fun h => absurd rfl h, ht⟩) (fun t w1 hR => ?_)
 obtain ⟨kv, v, ks, cs, acc, t, f, er⟩ := t
 obtain ⟨hrd, hT, hk1, hk2, hkeys, hown, hsep, hsub, hok, hbad, htl⟩ := hR
 simp only at hrd hk2 hkeys hown hsep hsub hok hbad htl ⊢
 have hsge := skipAt_ge l t htl
 have hcl := hsub.len
 obtain ⟨pl, cl, rfl, -⟩ := hown.row
 obtain ⟨pk, ck, rfl, -⟩ := hkeys.row
 refine W.seq <| W.sr <| WL.m rfl rfl <| WL.p (.nck rfl) rfl <| WL.p (.fa underlying69 rfl sizeOf35 dD rfl) rfl <| WL.r (Rd.ld (isAgg35 _) rfl hrd.1 rfl) rfl <| WL.p (.eql rfl rfl) rfl <| WL.nil <| ?_
 refine W.cond rfl (fun h20 => ?_) (fun h20 => ?_)
 have h20' := dT h20
 obtain rfl : er = 0 := by omega
 obtain ⟨hw, hft, hal, hkl⟩ := hok rfl
 have hst := pairsP_step (obj := objP refs l D.toNat) (l := l) (ks := ks) (os := acc) (t := t) (f := f) oO
 obtain ⟨s, hs⟩ : ∃ s, s = skipAt false l t := ⟨_, rfl⟩
 have hSk : ∀ w1, RRd w1 r p l c t refs 0 → Calls Tryz.prog 112 #[.pointer (some ⟨r, 0, none⟩)] w1 fun e' w' => e' = .returned (.bool (decide (s < l.length))) ∧ RRd w' r p l c s refs (if s < l.length then 0 else 24) ∧ Touch w1.heap.size r w1 w' := fun w1 h1 => by rw [hs]; exact r18_skip r p l c t refs w1 h1 hne hl htl
 have hsle : s ≤ l.length := by rw [hs]; exact skipAt_le _ _ _
 rw [← hs] at hst hsge
 refine W.skip <| W.block <| W.seq <| W.sr <| WL.m rfl rfl <| WL.c1 hb112 rfl rfl ((hSk _ ⟨hrd.1, hrd.2⟩)) (fun w21 hw21 => ?_)
 have ho22 := OwnM.touch' hkeys hw21.2 oO
 have ho23 := OwnM.touch' hown hw21.2 oO
 have hF24 := LInv.same (w1 := w21) hsub (fun k hk hl => hw21.2.block k hl (by first | omega | (have := hk.1; omega)))
 have hk25 := hw21.1.1
 have hk26 := Blk.touch hk1 hw21.2 hk1.lt oO
 have hk27 := Blk.touch hk2 hw21.2 hk2.lt oO
 have hv28 := hw21.1.2
 have hB29 := Touch.trans hT (Touch.mono hw21.2 hT.size)
 refine WL.p (.not rfl) rfl <| WL.nil <| ?_
 refine W.cond rfl (fun h30 => ?_) (fun h30 => ?_)
 have h30' := (nT h30)
 refine W.exit <| W.sr <| WL.p (.buildL (ps := _) blt31 rfl rfl rfl pZ) rfl ?_
 refine WL.stL rfl rfl hk26 isz31 rfl rfl (fun w31 hkw31 huw31 hsw31 => ?_)
 have hk35 := hk25.up huw31
 have hv37 := bup hv28 huw31 hvl5
 have hB38 := Touch.trans hB29 (Touch.of_new huw31 oO)
 refine WL.nil <| ?_
 refine W.ret (W.retc1 rfl rfl (ldRow hkw31 underlying31 rfl isz31)  ?_)
 exact ⟨_, rfl, pc0 0 0 [], pv0 0 0 [], s, _, rfl, PRep.zero _ _ _ _ _, ⟨hk35, hv37⟩, hB38, by
  have hns : ¬ s < l.length := dF (nT aS)
  rw [← hw, hst, show l[s]? = none from List.getElem?_eq_none oO, if_neg hns]; rfl, hsle⟩
 have h30' := (nF h30)
 refine W.skip ?_
 have hsl : s < l.length := dT (nF aS)
 have hk0 := hk25
 rw [if_pos hsl] at hk0
 have hgs : l[s]? = some l[s] := List.getElem?_eq_getElem hsl
 rw [hgs] at hst
 have hx1 : ∀ x : UInt8, l[s]? = some x ↔ l[s] = x := fun x => by rw [hgs]; exact ⟨fun h => Option.some.inj h, fun h => congrArg some h⟩
 refine W.cut (α := Unit) (fun t => [(0, .pointer (some ⟨r, 0, none⟩)), (1, .int .i64 D), (4, .pointer (some ⟨b1, 0, none⟩)), (5, .pointer (some ⟨b7, 0, none⟩))]) (fun t w' => RRd w' r p l c s refs 0 ∧ Touch w.heap.size r w w' ∧ Blk w' b1 (pobj 0 0 []).toArray 31 ∧ Blk w' b7 #[.int .i64 7, .int .i64 0, .string ⟨#[]⟩, .slice pk ks.length ck, .slice pl cs.length cl, .slice none 0 0] 31 ∧ OwnM strL 9 (b7 + 1) w' (.slice pk ks.length ck) ks ∧ OwnM pcL 31 (b7 + 1) w' (.slice pl cs.length cl) cs ∧ LInv w' (fun k => b7 < k ∧ (Value.slice pk ks.length ck).ownBlock ≠ some k ∧ (Value.slice pl cs.length cl).ownBlock ≠ some k) cs acc ∧ ¬ (l[s]'hsl = 62 ∧ l.length ≤ s + 1) ∧ ¬ (l[s]'hsl = 62 ∧ l[s + 1]? = some 62)) ?_ (fun t w1 hR => ?_)
 refine W.cut (α := Unit) (fun _ => [(0, .pointer (some ⟨r, 0, none⟩)), (1, .int .i64 D), (4, .pointer (some ⟨b1, 0, none⟩)), (5, .pointer (some ⟨b7, 0, none⟩)), (27, .bool (decide (((l[s]'hsl).toNat : Int) = 62)))]) (fun _ w' => Drew w21 w') ?_ (fun _ w1 hR => ?_)
 refine W.regY 11 rfl mixed (fun w39 dw39 => ?_)
 have hk43 := hk0.drew dw39
 have hv46 := hv28.drew dw39
 refine WY.tk 0 rfl (.mv rfl) rfl ?_
 refine WY.tk 1 rfl (.nck rfl) rfl ?_
 refine WY.tk 2 rfl (.fa underlying69 rfl sizeOf22 dD rfl) rfl ?_
 refine WY.tk 4 rfl (.mv rfl) rfl ?_
 refine WY.tk 5 rfl (.nck rfl) rfl ?_
 refine WY.tk 6 rfl (.fa underlying69 rfl sizeOf3 dD rfl) rfl ?_
 refine WY.br2 3 rfl 7 rfl ?_ ?_
 refine WL.r (Rd.ld (isAgg22 _) rfl hk43 rfl) rfl <| WL.nil <| ?_
 refine WY.br1 7 rfl ?_
 refine WL.r (Rd.ld (isAgg3 _) rfl hk43 rfl) rfl <| WL.nil <| ?_
 refine WY.tk 8 rfl (.ixb underlying22 sizeOf5 rfl rfl (hv46.isp oO) (s) (rfl) (hsl)) rfl ?_
 refine WY.br1 9 rfl ?_
 refine WL.r (Rd.ldc (isAgg5 _) rfl (hv46.cells (s) oO)) rfl <| WL.nil <| ?_
 refine WY.tk 10 rfl (.eql rfl rfl) rfl ?_
 refine WY.done kR ?_
 exact ⟨(), ⟨rfl, rfl, rfl, rfl, rfl, trivial⟩, dw39⟩
 refine WL.r (Rd.ld (isAgg3 _) rfl hk43 rfl) rfl <| WL.nil <| ?_
 refine WY.br1 3 rfl ?_
 refine WL.r (Rd.ld (isAgg22 _) rfl hk43 rfl) rfl <| WL.nil <| ?_
 refine WY.tk 8 rfl (.ixb underlying22 sizeOf5 rfl rfl (hv46.isp oO) (s) (rfl) (hsl)) rfl ?_
 refine WY.br1 9 rfl ?_
 refine WL.r (Rd.ldc (isAgg5 _) rfl (hv46.cells (s) oO)) rfl <| WL.nil <| ?_
 refine WY.tk 10 rfl (.eql rfl rfl) rfl ?_
 refine WY.done kR ?_
 exact ⟨(), ⟨rfl, rfl, rfl, rfl, rfl, trivial⟩, dw39⟩
 have ho48 := OwnM.drew ho22 hR
 have ho49 := OwnM.drew ho23 hR
 have hF50 := LInv.same (w1 := w1) hF24 (fun k hk hl => (by obtain ⟨m, rfl⟩ := hR; rfl))
 have hk51 := hk0.drew hR
 have hk52 := hk26.drew hR
 have hk53 := hk27.drew hR
 have hv54 := hv28.drew hR
 have hB55 := Touch.trans hB29 (Touch.of_drew hR)
 refine W.cond rfl (fun h56 => ?_) (fun h56 => ?_)
 have h56' := dT h56
 refine W.seq ?_
 refine W.cut (α := Unit) (fun _ => [(0, .pointer (some ⟨r, 0, none⟩)), (1, .int .i64 D), (4, .pointer (some ⟨b1, 0, none⟩)), (5, .pointer (some ⟨b7, 0, none⟩)), (38, .bool (decide ((s : Int) + 1 ≥ (l.length : Int))))]) (fun _ w' => Drew w1 w') ?_ (fun _ w1 hR => ?_)
 refine W.regY 11 rfl mixed (fun w57 dw57 => ?_)
 have hk61 := hk51.drew dw57
 refine WY.tk 0 rfl (.mv rfl) rfl ?_
 refine WY.tk 1 rfl (.nck rfl) rfl ?_
 refine WY.tk 2 rfl (.fa underlying69 rfl sizeOf3 dD rfl) rfl ?_
 refine WY.tk 5 rfl (.mv rfl) rfl ?_
 refine WY.tk 6 rfl (.nck rfl) rfl ?_
 refine WY.tk 7 rfl (.fa underlying69 rfl sizeOf22 dD rfl) rfl ?_
 refine WY.br2 3 rfl 8 rfl ?_ ?_
 refine WL.r (Rd.ld (isAgg3 _) rfl hk61 rfl) rfl <| WL.nil <| ?_
 refine WY.tk 4 rfl (.iis ((s : Int) + 1) (.add rfl rfl (i64w oO)) oO) rfl ?_
 refine WY.br1 8 rfl ?_
 refine WL.r (Rd.ld (isAgg22 _) rfl hk61 rfl) rfl <| WL.nil <| ?_
 refine WY.tk 9 rfl (.lenS underlying22 rfl) rfl ?_
 refine WY.tk 10 rfl (.geq rfl rfl) rfl ?_
 refine WY.done kR ?_
 exact ⟨(), ⟨rfl, rfl, rfl, rfl, rfl, trivial⟩, dw57⟩
 refine WL.r (Rd.ld (isAgg22 _) rfl hk61 rfl) rfl <| WL.nil <| ?_
 refine WY.tk 9 rfl (.lenS underlying22 rfl) rfl ?_
 refine WY.br1 3 rfl ?_
 refine WL.r (Rd.ld (isAgg3 _) rfl hk61 rfl) rfl <| WL.nil <| ?_
 refine WY.tk 4 rfl (.iis ((s : Int) + 1) (.add rfl rfl (i64w oO)) oO) rfl ?_
 refine WY.tk 10 rfl (.geq rfl rfl) rfl ?_
 refine WY.done kR ?_
 exact ⟨(), ⟨rfl, rfl, rfl, rfl, rfl, trivial⟩, dw57⟩
 have ho66 := OwnM.drew ho48 hR
 have ho67 := OwnM.drew ho49 hR
 have hF68 := LInv.same (w1 := w1) hF50 (fun k hk hl => (by obtain ⟨m, rfl⟩ := hR; rfl))
 have hk69 := hk51.drew hR
 have hk70 := hk52.drew hR
 have hk71 := hk53.drew hR
 have hv72 := hv54.drew hR
 have hB73 := Touch.trans hB55 (Touch.of_drew hR)
 refine W.cond rfl (fun h74 => ?_) (fun h74 => ?_)
 have h74' := dT h74
 refine W.sr <| WL.m rfl rfl <| WL.c1 hb74 rfl rfl ((r18_fail r p l c s refs 0 24 _ ⟨hk69, hv72⟩ hne)) (fun w75 hw75 => ?_)
 have hk79 := hw75.1.1
 have hk80 := Blk.touch hk70 hw75.2 hk70.lt oO
 have hv82 := hw75.1.2
 have hB83 := Touch.trans hB73 (Touch.mono hw75.2 hB73.size)
 refine WL.stL rfl rfl hk80 isz31 rfl rfl (fun w84 hkw84 huw84 hsw84 => ?_)
 have hk88 := hk79.up huw84
 have hv90 := bup hv82 huw84 hvl5
 have hB91 := Touch.trans hB83 (Touch.of_new huw84 oO)
 refine WL.nil <| ?_
 refine W.ret (W.retc1 rfl rfl (ldRow hkw84 underlying31 rfl isz31)  ?_)
 exact ⟨_, rfl, pc0 0 0 [], pv0 0 0 [], s, 24, rfl, PRep.zero _ _ _ _ _, ⟨hk88, hv90⟩, hB91, by
  rw [← hw, hst]; (try simp only []); rw [if_pos ⟨u8_eq (d := 62) aS, by omega⟩]; rfl, hsle⟩
 have h74' := dF h74
 refine W.skip ?_
 refine W.cut (α := Unit) (fun _ => [(0, .pointer (some ⟨r, 0, none⟩)), (1, .int .i64 D), (4, .pointer (some ⟨b1, 0, none⟩)), (5, .pointer (some ⟨b7, 0, none⟩)), (52, .bool (decide (((l[s + 1]'oO).toNat : Int) = 62)))]) (fun _ w' => Drew w1 w') ?_ (fun _ w1 hR => ?_)
 refine W.regY 12 rfl mixed (fun w92 dw92 => ?_)
 have hk96 := hk69.drew dw92
 have hv99 := hv72.drew dw92
 refine WY.tk 0 rfl (.mv rfl) rfl ?_
 refine WY.tk 1 rfl (.nck rfl) rfl ?_
 refine WY.tk 2 rfl (.fa underlying69 rfl sizeOf22 dD rfl) rfl ?_
 refine WY.tk 4 rfl (.mv rfl) rfl ?_
 refine WY.tk 5 rfl (.nck rfl) rfl ?_
 refine WY.tk 6 rfl (.fa underlying69 rfl sizeOf3 dD rfl) rfl ?_
 refine WY.br2 3 rfl 7 rfl ?_ ?_
 refine WL.r (Rd.ld (isAgg22 _) rfl hk96 rfl) rfl <| WL.nil <| ?_
 refine WY.br1 7 rfl ?_
 refine WL.r (Rd.ld (isAgg3 _) rfl hk96 rfl) rfl <| WL.nil <| ?_
 refine WY.tk 8 rfl (.iis (((s + 1 : Nat) : Int)) (.add rfl rfl (i64w oO)) oO) rfl ?_
 refine WY.tk 9 rfl (.ixb underlying22 sizeOf5 rfl rfl (hv99.isp oO) (s + 1) oO oO) rfl ?_
 refine WY.br1 10 rfl ?_
 refine WL.r (Rd.ldc (isAgg5 _) rfl (hv99.cells (s + 1) oO)) rfl <| WL.nil <| ?_
 refine WY.tk 11 rfl (.eql rfl rfl) rfl ?_
 refine WY.done kR ?_
 exact ⟨(), ⟨rfl, rfl, rfl, rfl, rfl, trivial⟩, dw92⟩
 refine WL.r (Rd.ld (isAgg3 _) rfl hk96 rfl) rfl <| WL.nil <| ?_
 refine WY.tk 8 rfl (.iis (((s + 1 : Nat) : Int)) (.add rfl rfl (i64w oO)) oO) rfl ?_
 refine WY.br1 3 rfl ?_
 refine WL.r (Rd.ld (isAgg22 _) rfl hk96 rfl) rfl <| WL.nil <| ?_
 refine WY.tk 9 rfl (.ixb underlying22 sizeOf5 rfl rfl (hv99.isp oO) (s + 1) oO oO) rfl ?_
 refine WY.br1 10 rfl ?_
 refine WL.r (Rd.ldc (isAgg5 _) rfl (hv99.cells (s + 1) oO)) rfl <| WL.nil <| ?_
 refine WY.tk 11 rfl (.eql rfl rfl) rfl ?_
 refine WY.done kR ?_
 exact ⟨(), ⟨rfl, rfl, rfl, rfl, rfl, trivial⟩, dw92⟩
 have ho101 := OwnM.drew ho66 hR
 have ho102 := OwnM.drew ho67 hR
 have hF103 := LInv.same (w1 := w1) hF68 (fun k hk hl => (by obtain ⟨m, rfl⟩ := hR; rfl))
 have hk104 := hk69.drew hR
 have hk105 := hk70.drew hR
 have hk106 := hk71.drew hR
 have hv107 := hv72.drew hR
 have hB108 := Touch.trans hB73 (Touch.of_drew hR)
 refine W.cond rfl (fun h109 => ?_) (fun h109 => ?_)
 have h109' := dT h109
 refine W.sr <| WL.m rfl rfl <| WL.m rfl rfl <| WL.p (.nck rfl) rfl <| WL.p (.fa underlying69 rfl sizeOf3 dD rfl) rfl <| WL.r (Rd.ld (isAgg3 _) rfl hk104 rfl) rfl <| WL.p (.iis (((s + 2 : Nat) : Int)) (.add rfl rfl (i64w oO)) oO) rfl <| WL.p (.nck rfl) rfl <| WL.p (.fa underlying69 rfl sizeOf3 dD rfl) rfl <| WL.st sizeOf3 rfl rfl rfl hk104 oD (fun w110 hkw110 huw110 hsw110 => ?_)
 have hkw110 : Blk w110 r _ _ := hkw110
 have huw110 : Upd r _ _ := huw110
 have ho111 := OwnM.touch ho101 huw110 oM
 have ho112 := OwnM.touch ho102 huw110 oM
 have hF113 := LInv.same (w1 := w110) hF103 (fun k hk hl => huw110.other k (by first | ((try simp only) <;> omega) | (have := hk.1; ((try simp only) <;> omega))))
 have hk114 := hk105.up huw110
 have hk115 := hk106.up huw110
 have hv116 := BytesAt.upd hv107 huw110 hne
 have hB117 := Touch.trans hB108 (Touch.of_upd huw110)
 refine WL.nil <| ?_
 refine W.sr <| WL.r (Rd.ldA rfl hk115 underlying31 rfl isz31) rfl <| WL.stL rfl rfl hk114 isz31 rfl rfl (fun w118 hkw118 huw118 hsw118 => ?_)
 have ho119 := OwnM.touch ho111 huw118 oM
 have ho120 := OwnM.touch ho112 huw118 oM
 have hF121 := LInv.same (w1 := w118) hF113 (fun k hk hl => huw118.other k (by first | ((try simp only) <;> omega) | (have := hk.1; ((try simp only) <;> omega))))
 have hk122 := hkw110.up huw118
 have hv124 := bup hv116 huw118 hvl5
 have hB125 := Touch.trans hB117 (Touch.of_new huw118 oO)
 refine WL.nil <| ?_
 refine W.ret (W.retc1 rfl rfl (ldRow hkw118 underlying31 rfl isz31)  ?_)
 exact ⟨_, rfl, ⟨7, 0, [], pk, ks.length, ck, pl, cs.length, cl⟩, .mk 7 0 [] ks acc, s + 2, 0, rfl, PRep.ofRow ⟨(ho119).base (fun g hg => Nat.zero_le _), fun g hg => by have := (ho119).lt g hg; omega⟩ ⟨(ho120).base (fun g hg => Nat.zero_le _), fun g hg => by have := (ho120).lt g hg; omega⟩ ((hF121).mono (fun k hk _ => by have := hk.1; omega)), ⟨hk122, hv124⟩, hB125, by
  rw [← hw, hst]; (try simp only []); rw [if_neg (fun h => by have := h.2; omega), if_pos ⟨u8_eq (d := 62) aS, by rw [List.getElem?_eq_getElem oO]; exact congrArg some (u8_eq (d := 62) aS)⟩]; rfl, by omega⟩
 have h109' := dF h109
 refine W.skip ?_
 exact ⟨(), ⟨rfl, rfl, rfl, rfl, trivial⟩, ⟨hk104, hv107⟩, hB108, hk105, hk106, ho101, ho102, hF103, fun h => absurd h.2 oO, fun h => by obtain ⟨h3, h4⟩ := List.getElem?_eq_some_iff.1 h.2; exact absurd h4 (u8_ne (d := 62) aS)⟩
 have h56' := dF h56
 refine W.skip ?_
 exact ⟨(), ⟨rfl, rfl, rfl, rfl, trivial⟩, ⟨hk51, hv54⟩, hB55, hk52, hk53, ho48, ho49, hF50, fun h => absurd h.1 (u8_ne (d := 62) aS), fun h => absurd h.1 (u8_ne (d := 62) aS)⟩
 obtain ⟨hrd, hT, hk1, hk2, hkeys, hown, hsub, hn1, hn2⟩ := hR
 refine W.seq ?_
 refine W.cut (α := Unit) (fun t => [(0, .pointer (some ⟨r, 0, none⟩)), (1, .int .i64 D), (4, .pointer (some ⟨b1, 0, none⟩)), (5, .pointer (some ⟨b7, 0, none⟩)), (72, .bool (!decide (((l[s]'hsl).toNat : Int) = 47)))]) (fun t w' => RRd w' r p l c s refs 0 ∧ Touch w.heap.size r w w' ∧ Blk w' b1 (pobj 0 0 []).toArray 31 ∧ Blk w' b7 #[.int .i64 7, .int .i64 0, .string ⟨#[]⟩, .slice pk ks.length ck, .slice pl cs.length cl, .slice none 0 0] 31 ∧ OwnM strL 9 (b7 + 1) w' (.slice pk ks.length ck) ks ∧ OwnM pcL 31 (b7 + 1) w' (.slice pl cs.length cl) cs ∧ LInv w' (fun k => b7 < k ∧ (Value.slice pk ks.length ck).ownBlock ≠ some k ∧ (Value.slice pl cs.length cl).ownBlock ≠ some k) cs acc) ?_ (fun t w1 hR => ?_)
 refine W.regY 11 rfl mixed (fun w126 dw126 => ?_)
 have ho127 := OwnM.drew hkeys dw126
 have ho128 := OwnM.drew hown dw126
 have hF129 := LInv.same (w1 := w126) hsub (fun k hk hl => (by obtain ⟨m, rfl⟩ := dw126; rfl))
 have hk130 := hrd.1.drew dw126
 have hk131 := hk1.drew dw126
 have hk132 := hk2.drew dw126
 have hv133 := hrd.2.drew dw126
 have hB134 := Touch.trans hT (Touch.of_drew dw126)
 refine WY.tk 0 rfl (.mv rfl) rfl ?_
 refine WY.tk 1 rfl (.nck rfl) rfl ?_
 refine WY.tk 2 rfl (.fa underlying69 rfl sizeOf22 dD rfl) rfl ?_
 refine WY.tk 4 rfl (.mv rfl) rfl ?_
 refine WY.tk 5 rfl (.nck rfl) rfl ?_
 refine WY.tk 6 rfl (.fa underlying69 rfl sizeOf3 dD rfl) rfl ?_
 refine WY.br2 3 rfl 7 rfl ?_ ?_
 refine WL.r (Rd.ld (isAgg22 _) rfl hk130 rfl) rfl <| WL.nil <| ?_
 refine WY.br1 7 rfl ?_
 refine WL.r (Rd.ld (isAgg3 _) rfl hk130 rfl) rfl <| WL.nil <| ?_
 refine WY.tk 8 rfl (.ixb underlying22 sizeOf5 rfl rfl (hv133.isp oO) (s) (rfl) (hsl)) rfl ?_
 refine WY.br1 9 rfl ?_
 refine WL.r (Rd.ldc (isAgg5 _) rfl (hv133.cells (s) oO)) rfl <| WL.nil <| ?_
 refine WY.tk 10 rfl (.neq rfl rfl) rfl ?_
 refine WY.done kR ?_
 exact ⟨(), ⟨rfl, rfl, rfl, rfl, rfl, trivial⟩, ⟨hk130, hv133⟩, hB134, hk131, hk132, ho127, ho128, hF129⟩
 refine WL.r (Rd.ld (isAgg3 _) rfl hk130 rfl) rfl <| WL.nil <| ?_
 refine WY.br1 3 rfl ?_
 refine WL.r (Rd.ld (isAgg22 _) rfl hk130 rfl) rfl <| WL.nil <| ?_
 refine WY.tk 8 rfl (.ixb underlying22 sizeOf5 rfl rfl (hv133.isp oO) (s) (rfl) (hsl)) rfl ?_
 refine WY.br1 9 rfl ?_
 refine WL.r (Rd.ldc (isAgg5 _) rfl (hv133.cells (s) oO)) rfl <| WL.nil <| ?_
 refine WY.tk 10 rfl (.neq rfl rfl) rfl ?_
 refine WY.done kR ?_
 exact ⟨(), ⟨rfl, rfl, rfl, rfl, rfl, trivial⟩, ⟨hk130, hv133⟩, hB134, hk131, hk132, ho127, ho128, hF129⟩
 obtain ⟨hrd, hT, hk1, hk2, hkeys, hown, hsub⟩ := hR
 refine W.cond rfl (fun h135 => ?_) (fun h135 => ?_)
 have h72 : ¬ ((l[s].toNat : Int) = 47) := dF (nT aS)
 refine W.sr <| WL.m rfl rfl <| WL.c1 hb74 rfl rfl ((r18_fail r p l c s refs 0 23 _ ⟨hrd.1, hrd.2⟩ hne)) (fun w136 hw136 => ?_)
 have hk140 := hw136.1.1
 have hk141 := Blk.touch hk1 hw136.2 hk1.lt oO
 have hv143 := hw136.1.2
 have hB144 := Touch.trans hT (Touch.mono hw136.2 hT.size)
 refine WL.stL rfl rfl hk141 isz31 rfl rfl (fun w145 hkw145 huw145 hsw145 => ?_)
 have hk149 := hk140.up huw145
 have hv151 := bup hv143 huw145 hvl5
 have hB152 := Touch.trans hB144 (Touch.of_new huw145 oO)
 refine WL.nil <| ?_
 refine W.ret (W.retc1 rfl rfl (ldRow hkw145 underlying31 rfl isz31)  ?_)
 exact ⟨_, rfl, pc0 0 0 [], pv0 0 0 [], s, 23, rfl, PRep.zero _ _ _ _ _, ⟨hk149, hv151⟩, hB152, by
  rw [← hw, hst]; (try simp only []); rw [if_neg hn1, if_neg hn2, if_pos (u8_ne (d := 47) aS)]; rfl, hsle⟩
 have h47 : l[s] = 47 := u8_eq (d := 47) (dT (nF aS))
 refine W.skip <| W.sr <| WL.m rfl rfl <| WL.p (.nck rfl) rfl <| WL.p (.fa underlying69 rfl sizeOf3 dD rfl) rfl <| WL.r (Rd.ld (isAgg3 _) rfl hrd.1 rfl) rfl <| WL.p (.iis (((s + 1 : Nat) : Int)) (.add rfl rfl (i64w oO)) oO) rfl <| WL.p (.nck rfl) rfl <| WL.p (.fa underlying69 rfl sizeOf3 dD rfl) rfl <| WL.st sizeOf3 rfl rfl rfl hrd.1 oD (fun w153 hkw153 huw153 hsw153 => ?_)
 have hkw153 : Blk w153 r _ _ := hkw153
 have huw153 : Upd r _ _ := huw153
 have ho154 := OwnM.touch hkeys huw153 oM
 have ho155 := OwnM.touch hown huw153 oM
 have hF156 := LInv.same (w1 := w153) hsub (fun k hk hl => huw153.other k (by first | ((try simp only) <;> omega) | (have := hk.1; ((try simp only) <;> omega))))
 have hk157 := hk1.up huw153
 have hk158 := hk2.up huw153
 have hv159 := BytesAt.upd hrd.2 huw153 hne
 have hB160 := Touch.trans hT (Touch.of_upd huw153)
 refine WL.nil <| ?_
 refine W.seq ?_
 have hNle := nameD_le (l := l) (t := s + 1) oO
 have hNP := nameD_P l (s + 1)
 have hNc : ∀ w1, RRd w1 r p l c (s + 1) refs 0 → Calls Tryz.prog 72 #[.pointer (some ⟨r, 0, none⟩)] w1 fun e w' => e = .returned (.string (bs (nameD l (s + 1)).1)) ∧ RRd w' r p l c (nameD l (s + 1)).2.1 refs (nameD l (s + 1)).2.2 ∧ Touch w1.heap.size r w1 w' := fun w1 h1 => r18_name r p l c (s + 1) refs w1 h1 hne hc hl oO
 generalize nameD l (s + 1) = N at hNle hNP hNc
 obtain ⟨kX, t1, eN⟩ := N
 simp only at hNle hNP hNc
 refine W.reg <| WL.m rfl rfl <| WL.c1 hb72 rfl rfl ((hNc _ ⟨hkw153, hv159⟩)) (fun w161 hw161 => ?_)
 have ho162 := OwnM.touch' ho154 hw161.2 oO
 have ho163 := OwnM.touch' ho155 hw161.2 oO
 have hF164 := LInv.same (w1 := w161) hF156 (fun k hk hl => hw161.2.block k hl (by first | omega | (have := hk.1; omega)))
 have hk165 := hw161.1.1
 have hk166 := Blk.touch hk157 hw161.2 hk157.lt oO
 have hk167 := Blk.touch hk158 hw161.2 hk158.lt oO
 have hv168 := hw161.1.2
 have hB169 := Touch.trans hB160 (Touch.mono hw161.2 hB160.size)
 refine WL.z rfl rfl ?_
 refine W.seq <| W.sr <| WL.m rfl rfl <| WL.p (.nck rfl) rfl <| WL.p (.fa underlying69 rfl sizeOf35 dD rfl) rfl <| WL.r (Rd.ld (isAgg35 _) rfl hk165 rfl) rfl <| WL.p (.neq rfl rfl) rfl <| WL.nil <| ?_
 refine W.cond rfl (fun h170 => ?_) (fun h170 => ?_)
 have h170' := ndT h170
 have hnm : nameP l (s + 1) = .error eN := by rw [hNP]; exact if_neg aS
 refine W.exit <| W.sr <| WL.p (.buildL (ps := _) blt31 rfl rfl rfl pZ) rfl ?_
 refine WL.stL rfl rfl hk166 isz31 rfl rfl (fun w171 hkw171 huw171 hsw171 => ?_)
 have hk175 := hk165.up huw171
 have hv177 := bup hv168 huw171 hvl5
 have hB178 := Touch.trans hB169 (Touch.of_new huw171 oO)
 refine WL.nil <| ?_
 refine W.ret (W.retc1 rfl rfl (ldRow hkw171 underlying31 rfl isz31)  ?_)
 exact ⟨_, rfl, pc0 0 0 [], pv0 0 0 [], t1, eN, rfl, PRep.zero _ _ _ _ _, ⟨hk175, hv177⟩, hB178, by
  have h0 : eN ≠ 0 := by assumption
  rw [← hw, hst]; (try simp only []); rw [if_neg hn1, if_neg hn2, if_neg (by rw [h47]; simp), hnm]; exact (if_neg h0).symm, hNle.2⟩
 have h170' := ndF h170
 obtain rfl : eN = 0 := by omega
 have hnm : nameP l (s + 1) = .ok (kX, t1) := by rw [hNP]; exact if_pos rfl
 refine W.skip <| W.seq <| W.sr <| WL.z rfl rfl ?_
 refine W.block ?_
 have hkz := (ho162).rowp.strs
 refine W.loop (α := Nat) (fun t => [(0, .pointer (some ⟨r, 0, none⟩)), (1, .int .i64 D), (4, .pointer (some ⟨b1, 0, none⟩)), (5, .pointer (some ⟨b7, 0, none⟩)), (6, .string (bs kX)), (7, .int .i64 (t : Int))]) (fun t w' => w161 = w' ∧ t ≤ ks.length ∧ kX ∉ ks.take t) (fun t => ks.length - t) (0) ⟨rfl, rfl, rfl, rfl, rfl, rfl, trivial⟩ (⟨rfl, Nat.zero_le _, by simp⟩) (fun t w1 hR => ?_)
 obtain ⟨i, rfl⟩ : ∃ i, i = t := ⟨t, rfl⟩
 obtain ⟨rfl, hi, hno⟩ := hR
 refine W.seq <| W.sr <| WL.m rfl rfl <| WL.p (.fa underlying31 rfl sizeOf28 dD rfl) rfl <| WL.r (Rd.ld (isAgg28 _) rfl hk167 rfl) rfl <| WL.p (.lenS underlying28 rfl) rfl <| WL.p (.lss rfl rfl) rfl <| WL.nil <| ?_
 refine W.cond rfl (fun h179 => ?_) (fun h179 => ?_)
 have h179' := dT h179
 refine W.skip <| W.seq <| W.block <| W.sr <| WL.p (.fa underlying31 rfl sizeOf28 dD rfl) rfl <| WL.r (Rd.ld (isAgg28 _) rfl hk167 rfl) rfl <| WL.m rfl rfl <| WL.p (.ixb underlying28 sizeOf9 rfl rfl (hkz.isp oO) (i) (rfl) oO) rfl <| WL.r (Rd.ldc (isAgg9 _) rfl (hkz.cells (i) oO)) rfl <| WL.m rfl rfl <| WL.p (.eqs rfl rfl) rfl <| WL.nil <| ?_
 refine W.cond rfl (fun h180 => ?_) (fun h180 => ?_)
 have h180' := dT h180
 refine W.sr <| WL.m rfl rfl <| WL.c1 hb74 rfl rfl ((r18_fail r p l c t1 refs 0 23 _ ⟨hk165, hv168⟩ hne)) (fun w181 hw181 => ?_)
 have hk185 := hw181.1.1
 have hk186 := Blk.touch hk166 hw181.2 hk166.lt oO
 have hv188 := hw181.1.2
 have hB190 := Touch.trans hB169 (Touch.mono hw181.2 hB169.size)
 refine WL.stL rfl rfl hk186 isz31 rfl rfl (fun w191 hkw191 huw191 hsw191 => ?_)
 have hk195 := hk185.up huw191
 have hv197 := bup hv188 huw191 hvl5
 have hB198 := Touch.trans hB190 (Touch.of_new huw191 oO)
 refine WL.nil <| ?_
 refine W.ret (W.retc1 rfl rfl (ldRow hkw191 underlying31 rfl isz31)  ?_)
 exact ⟨_, rfl, pc0 0 0 [], pv0 0 0 [], t1, 23, rfl, PRep.zero _ _ _ _ _, ⟨hk195, hv197⟩, hB198, by
  rw [← hw, hst]; (try simp only []); rw [if_neg hn1, if_neg hn2, if_neg (by rw [h47]; simp), hnm]; (try simp only []); rw [if_pos (by rw [← (show ks[i]'oO = kX by assumption)]; exact List.getElem_mem _)]; rfl, hNle.2⟩
 have h180' := dF h180
 refine W.skip <| W.reg <| WL.m rfl rfl <| WL.p (.iis (((i + 1 : Nat) : Int)) (.add rfl rfl (i64w oO)) oO) rfl <| WL.z rfl rfl ?_
 exact ⟨i + 1, ⟨rfl, rfl, rfl, rfl, rfl, rfl, trivial⟩, ⟨rfl, by ((try simp only) <;> omega), by
  rw [List.take_add_one, List.getElem?_eq_getElem oO, Option.toList_some, List.mem_append, List.mem_singleton]
  exact fun h => h.elim hno (fun h => absurd h.symm aS)⟩, by ((try simp only) <;> omega)⟩
 have h179' := dF h179
 refine W.exit <| W.seq <| W.seq ?_
 have hnk : kX ∉ ks := by rw [show ks.take i = ks from List.take_of_length_le oO] at hno; exact hno
 refine W.reg <| WL.p (.fa underlying31 rfl sizeOf29 dD rfl) rfl <| WL.r (Rd.ld (isAgg29 _) rfl hk167 rfl) rfl <| WL.p (.lenS underlying29 rfl) rfl <| WL.p (.geq rfl rfl) rfl <| WL.nil <| ?_
 refine W.cond rfl (fun h199 => ?_) (fun h199 => ?_)
 have h199' := dT h199
 refine W.sr <| WL.m rfl rfl <| WL.c1 hb74 rfl rfl ((r18_fail r p l c t1 refs 0 25 _ ⟨hk165, hv168⟩ hne)) (fun w200 hw200 => ?_)
 have hk204 := hw200.1.1
 have hk205 := Blk.touch hk166 hw200.2 hk166.lt oO
 have hv207 := hw200.1.2
 have hB208 := Touch.trans hB169 (Touch.mono hw200.2 hB169.size)
 refine WL.stL rfl rfl hk205 isz31 rfl rfl (fun w209 hkw209 huw209 hsw209 => ?_)
 have hk213 := hk204.up huw209
 have hv215 := bup hv207 huw209 hvl5
 have hB216 := Touch.trans hB208 (Touch.of_new huw209 oO)
 refine WL.nil <| ?_
 refine W.ret (W.retc1 rfl rfl (ldRow hkw209 underlying31 rfl isz31)  ?_)
 exact ⟨_, rfl, pc0 0 0 [], pv0 0 0 [], t1, 25, rfl, PRep.zero _ _ _ _ _, ⟨hk213, hv215⟩, hB216, by
  rw [← hw, hst]; (try simp only []); rw [if_neg hn1, if_neg hn2, if_neg (by rw [h47]; simp), hnm]; (try simp only []); rw [if_neg hnk, if_pos oO]; rfl, hNle.2⟩
 have h199' := dF h199
 refine W.skip <| W.seq <| W.seq ?_
 obtain ⟨s2, hs2⟩ : ∃ s2, s2 = skipAt false l t1 := ⟨_, rfl⟩
 have hss2 : skipAt false l s2 = s2 := by rw [hs2]; exact skipAt_idem l t1
 have hSk2 : ∀ w1, RRd w1 r p l c t1 refs 0 → Calls Tryz.prog 112 #[.pointer (some ⟨r, 0, none⟩)] w1 fun e' w' => e' = .returned (.bool (decide (s2 < l.length))) ∧ RRd w' r p l c s2 refs (if s2 < l.length then 0 else 24) ∧ Touch w1.heap.size r w1 w' := fun w1 h1 => by rw [hs2]; exact r18_skip r p l c t1 refs w1 h1 hne hl hNle.2
 have hsle2 : s2 ≤ l.length := by rw [hs2]; exact skipAt_le _ _ _
 have hsge2 : t1 ≤ s2 := by rw [hs2]; exact skipAt_ge l t1 hNle.2
 refine W.reg <| WL.m rfl rfl <| WL.c1 hb112 rfl rfl ((hSk2 _ ⟨hk165, hv168⟩)) (fun w217 hw217 => ?_)
 have ho218 := OwnM.touch' ho162 hw217.2 oO
 have ho219 := OwnM.touch' ho163 hw217.2 oO
 have hF220 := LInv.same (w1 := w217) hF164 (fun k hk hl => hw217.2.block k hl (by first | omega | (have := hk.1; omega)))
 have hk221 := hw217.1.1
 have hk222 := Blk.touch hk166 hw217.2 hk166.lt oO
 have hk223 := Blk.touch hk167 hw217.2 hk167.lt oO
 have hv224 := hw217.1.2
 have hB225 := Touch.trans hB169 (Touch.mono hw217.2 hB169.size)
 refine WL.p (.not rfl) rfl <| WL.nil <| ?_
 refine W.cond rfl (fun h226 => ?_) (fun h226 => ?_)
 have h226' := (nT h226)
 refine W.exit <| W.sr <| WL.p (.buildL (ps := _) blt31 rfl rfl rfl pZ) rfl ?_
 refine WL.stL rfl rfl hk222 isz31 rfl rfl (fun w227 hkw227 huw227 hsw227 => ?_)
 have hk231 := hk221.up huw227
 have hv233 := bup hv224 huw227 hvl5
 have hB234 := Touch.trans hB225 (Touch.of_new huw227 oO)
 refine WL.nil <| ?_
 refine W.ret (W.retc1 rfl rfl (ldRow hkw227 underlying31 rfl isz31)  ?_)
 exact ⟨_, rfl, pc0 0 0 [], pv0 0 0 [], s2, _, rfl, PRep.zero _ _ _ _ _, ⟨hk231, hv233⟩, hB234, by
  have hns : ¬ s2 < l.length := dF (nT aS)
  rw [← hw, hst]; (try simp only []); rw [if_neg hn1, if_neg hn2, if_neg (by rw [h47]; simp), hnm]; (try simp only []); rw [if_neg hnk, if_neg oO, ← hs2, show l[s2]? = none from List.getElem?_eq_none oO, if_neg hns]; rfl, hsle2⟩
 have h226' := (nF h226)
 refine W.skip <| W.seq ?_
 have hsl2 : s2 < l.length := dT (nF aS)
 have hk0 := hk221
 rw [if_pos hsl2] at hk0
 have hgs2 : l[s2]? = some l[s2] := List.getElem?_eq_getElem hsl2
 refine W.reg <| WL.p (.fa underlying31 rfl sizeOf28 dD rfl) rfl <| WL.r (Rd.ld (isAgg28 _) rfl hk223 rfl) rfl <| WL.m rfl rfl <| WL.bsl (ps := _) underlying28 sizeOf9 zeroValue9 rfl rfl rfl rfl rfl pR rfl (fun b235 wb235 eb235 hkb235 hub235 hsb235 => ?_)
 have ho236 := OwnM.new ho218 eb235 hub235
 have ho237 := OwnM.new ho219 eb235 hub235
 have hF238 := LInv.same (w1 := wb235) hF220 (fun k hk hl => hub235.other k oO)
 have hl240 : r < b235 := by rw [eb235]; exact hk0.lt
 have hk239 := hk0.upd hub235 (Nat.ne_of_lt hl240)
 have hl242 : b1 < b235 := by rw [eb235]; exact hk222.lt
 have hk241 := hk222.upd hub235 (Nat.ne_of_lt hl242)
 have hl244 : b7 < b235 := by rw [eb235]; exact hk223.lt
 have hk243 := hk223.upd hub235 (Nat.ne_of_lt hl244)
 have hvl246 := fun h0 => eb235 ▸ hv224.lt h0
 have hv245 := bup hv224 hub235 hvl246
 have hgeb235 : w.heap.size ≤ b235 := by rw [eb235]; exact hB225.size
 have hB247 := Touch.trans hB225 (Touch.of_new hub235 hgeb235)
 have hzz := RowM.lit (V := strL) (l := [kX]) hkb235 (rfl)
 have hlo := (ho237).lt
 refine WL.appM underlying28 inf9 rfl rfl rfl ho236 rfl hzz (by simp only [List.length_cons, List.length_nil]; omega) ((hk243).lt) rfl (fun h => nomatch h) (fun v248 w249 how249 hbw249 hgw249 hfw249 => ?_)
 have hk250 := hk239.below hbw249 oO
 have hk251 := hk241.below hbw249 oO
 have hk252 := hk243.below hbw249 oO
 have hF253 := LInv.grow (T := fun k => b7 < k ∧ (v248).ownBlock ≠ some k ∧ (Value.slice pl cs.length cl).ownBlock ≠ some k) hF238 (fun k hk hl => hgw249.block k hl (fun e => hk.2.1 e.symm)) (fun k hk hl => ⟨hk.1, fun e => by rcases hfw249 k e with h | h; exact hk.2.1 h; omega, hk.2.2⟩)
 have ho254 := OwnM.same ho237 (fun g hg => hgw249.block g ((ho237).lt g hg).2 (fun hx => hsep g hx.symm hg))
 have hv255 := BytesAt.below hv245 hbw249 hpB
 have hB256 := Touch.trans hB247 (Touch.of_below (hbw249.mono oO))
 have hsep2 : ∀ g, (v248).ownBlock = some g → (Value.slice pl cs.length cl).ownBlock ≠ some g := fun g hg => by rcases hfw249 g hg with h | h; exact hsep g h; exact fun h2 => by have := hlo g h2; omega
 obtain ⟨kv2, rfl⟩ : ∃ kv2, kv2 = v248 := ⟨v248, rfl⟩
 refine WL.p (.fa underlying31 rfl sizeOf28 dD rfl) rfl <| WL.st sizeOf28 rfl rfl (how249).one hk252 oD (fun w257 hkw257 huw257 hsw257 => ?_)
 have hkw257 : Blk w257 b7 _ _ := hkw257
 have huw257 : Upd b7 _ _ := huw257
 have ho258 := OwnM.touch how249 huw257 oM
 have ho259 := OwnM.touch ho254 huw257 oM
 have hF260 := LInv.same (w1 := w257) hF253 (fun k hk hl => huw257.other k (by first | ((try simp only) <;> omega) | (have := hk.1; ((try simp only) <;> omega))))
 have hk261 := hk250.up huw257
 have hk262 := hk251.up huw257
 have hv263 := bup hv255 huw257 hvl13
 have hB264 := Touch.trans hB256 (Touch.of_new huw257 oO)
 refine WL.nil <| ?_
 refine W.regY 9 rfl mixed (fun w265 dw265 => ?_)
 have ho266 := OwnM.drew ho258 dw265
 have ho267 := OwnM.drew ho259 dw265
 have hF268 := LInv.same (w1 := w265) hF260 (fun k hk hl => (by obtain ⟨m, rfl⟩ := dw265; rfl))
 have hk269 := hk261.drew dw265
 have hk270 := hk262.drew dw265
 have hk271 := hkw257.drew dw265
 have hv272 := hv263.drew dw265
 have hB273 := Touch.trans hB264 (Touch.of_drew dw265)
 refine WY.tk 0 rfl (.fa underlying31 rfl sizeOf29 dD rfl) rfl ?_
 refine WY.tk 2 rfl (.mv rfl) rfl ?_
 refine WY.tk 3 rfl (.mv rfl) rfl ?_
 refine WY.br2 1 rfl 4 rfl ?_ ?_
 refine WL.r (Rd.ld (isAgg29 _) rfl hk271 rfl) rfl <| WL.nil <| ?_
 refine WY.br1 4 rfl ?_
 refine WL.call hb46 rfl rfl ((hO r s2 _ ⟨hk269, hv272⟩ hne hsl2 hss2)) (fun xv w274 hw274 => ?_)
 obtain ⟨x1, oX, tX, eX, rfl, hpx, hrd1, hT1, hres, htX⟩ := hw274
 have ho1 := OwnM.touch' ho267 hT1 oO
 have hq1 := OwnM.touch' ho266 hT1 oO
 have hsub1 := LInv.same (w1 := w274) hF268 (fun k hk hl => hT1.block k hl (by have := hk.1; omega))
 have hk11 := Blk.touch hk270 hT1 (hk270).lt oO
 have hk21 := Blk.touch hk271 hT1 (hk271).lt oO
 have hB1 := Touch.trans hB273 (Touch.mono hT1 hB273.size)
 have hpx1 := hpx.mono (T := fun k => b7 < k ∧ kv2.ownBlock ≠ some k ∧ (Value.slice pl cs.length cl).ownBlock ≠ some k) (fun k hk _ => ⟨by have := (hk271).lt; omega, fun e => by have := ((ho266).lt k e).2; omega, fun e => by have := ((ho267).lt k e).2; omega⟩)
 have hsub2 := hsub1.push hpx1
 have hr1 := hrd1.1
 have hv1 := hrd1.2
 refine WL.nil <| ?_
 refine WY.br1 5 rfl ?_
 refine WL.bslM (L := pcL) (ps := _) ([x1]) underlying29 sizeOf31 zeroValue31 rfl rfl rfl rfl rfl (by first | rfl | decide) rfl rfl (fun b275 wb275 eb275 hob275 hub275 hsb275 => ?_)
 have ho276 := OwnM.new hq1 eb275 hub275
 have ho277 := OwnM.new ho1 eb275 hub275
 have hF278 := LInv.same (w1 := wb275) hsub2 (fun k hk hl => hub275.other k oO)
 have hl280 : r < b275 := by rw [eb275]; exact hr1.lt
 have hk279 := hr1.upd hub275 (Nat.ne_of_lt hl280)
 have hl282 : b1 < b275 := by rw [eb275]; exact hk11.lt
 have hk281 := hk11.upd hub275 (Nat.ne_of_lt hl282)
 have hl284 : b7 < b275 := by rw [eb275]; exact hk21.lt
 have hk283 := hk21.upd hub275 (Nat.ne_of_lt hl284)
 have hvl286 := fun h0 => eb275 ▸ hv1.lt h0
 have hv285 := bup hv1 hub275 hvl286
 have hgeb275 : w.heap.size ≤ b275 := by rw [eb275]; exact hB1.size
 have hB287 := Touch.trans hB1 (Touch.of_new hub275 hgeb275)
 have hleb275 : b275 ≤ wb275.heap.size := by omega
 refine WL.nil <| ?_
 refine WY.br1 6 rfl ?_
 have hlk := (ho276).lt
 refine WL.appM underlying29 inf31 rfl rfl rfl ho277 rfl (hob275).rowp (by simp only [List.length_cons, List.length_nil]; omega) ((hk283).lt) rfl (fun h => nomatch h) (fun v288 w289 how289 hbw289 hgw289 hfw289 => ?_)
 have hk290 := hk279.below hbw289 oO
 have hk291 := hk281.below hbw289 oO
 have hk292 := hk283.below hbw289 oO
 have hF293 := LInv.grow (T := fun k => b7 < k ∧ kv2.ownBlock ≠ some k ∧ (v288).ownBlock ≠ some k) hF278 (fun k hk hl => hgw289.block k hl (fun e => hk.2.2 e.symm)) (fun k hk hl => ⟨hk.1, hk.2.1, fun e => by rcases hfw289 k e with h | h; exact hk.2.2 h; omega⟩)
 have ho294 := OwnM.same ho276 (fun g hg => hgw289.block g ((ho276).lt g hg).2 (fun hx => hsep2 g hg hx.symm))
 have hv295 := BytesAt.below hv285 hbw289 hpB
 have hB296 := Touch.trans hB287 (Touch.of_below (hbw289.mono oO))
 have hsep3 : ∀ g, kv2.ownBlock = some g → (v288).ownBlock ≠ some g := fun g hg h2 => by rcases hfw289 g h2 with h | h; exact hsep2 g hg h; have := hlk g hg; omega
 refine WL.nil <| ?_
 refine WY.tk 7 rfl (.fa underlying31 rfl sizeOf29 dD rfl) rfl ?_
 refine WY.br1 8 rfl ?_
 refine WL.st sizeOf29 rfl rfl (how289).one hk292 oD (fun w297 hkw297 huw297 hsw297 => ?_)
 have hkw297 : Blk w297 b7 _ _ := hkw297
 have huw297 : Upd b7 _ _ := huw297
 have ho298 := OwnM.touch ho294 huw297 oM
 have ho299 := OwnM.touch how289 huw297 oM
 have hF300 := LInv.same (w1 := w297) hF293 (fun k hk hl => huw297.other k (by first | ((try simp only) <;> omega) | (have := hk.1; ((try simp only) <;> omega))))
 have hk301 := hk290.up huw297
 have hk302 := hk291.up huw297
 have hv303 := bup hv295 huw297 hvl13
 have hB304 := Touch.trans hB296 (Touch.of_new huw297 oO)
 refine WL.nil <| ?_
 refine WY.done kR ?_
 exact ⟨(_, _, ks ++ [kX], cs ++ [x1], acc ++ [oX], tX, f - 1, eX), ⟨rfl, rfl, rfl, rfl, trivial⟩, ⟨⟨hk301, hv303⟩, hB304, hk302, hkw297, ho298, ho299, hsep3, hF300, fun h0 => by
  have hob : objP refs l D.toNat s2 = .ok (oX, tX) := by rw [hres]; exact if_pos h0
  have had := hadv s2 oX tX hsl2 hob
  exact ⟨by rw [← hw, hst]; (try simp only []); rw [if_neg hn1, if_neg hn2, if_neg (by rw [h47]; simp), hnm]; (try simp only []); rw [if_neg hnk, if_neg oO, ← hs2, hgs2]; (try simp only []); rw [hob], by ((try simp only) <;> omega), by simp only [List.length_append, List.length_cons, List.length_nil]; omega, by simp only [List.length_append, List.length_cons, List.length_nil]; omega⟩, fun h1 => by
  have hob : objP refs l D.toNat s2 = .error eX := by rw [hres]; exact if_neg h1
  rw [← hw, hst]; (try simp only []); rw [if_neg hn1, if_neg hn2, if_neg (by rw [h47]; simp), hnm]; (try simp only []); rw [if_neg hnk, if_neg oO, ← hs2, hgs2]; (try simp only []); rw [hob], htX⟩, by ((try simp only) <;> omega)⟩
 refine WL.call hb46 rfl rfl ((hO r s2 _ ⟨hk269, hv272⟩ hne hsl2 hss2)) (fun xv w305 hw305 => ?_)
 obtain ⟨x1, oX, tX, eX, rfl, hpx, hrd1, hT1, hres, htX⟩ := hw305
 have ho1 := OwnM.touch' ho267 hT1 oO
 have hq1 := OwnM.touch' ho266 hT1 oO
 have hsub1 := LInv.same (w1 := w305) hF268 (fun k hk hl => hT1.block k hl (by have := hk.1; omega))
 have hk11 := Blk.touch hk270 hT1 (hk270).lt oO
 have hk21 := Blk.touch hk271 hT1 (hk271).lt oO
 have hB1 := Touch.trans hB273 (Touch.mono hT1 hB273.size)
 have hpx1 := hpx.mono (T := fun k => b7 < k ∧ kv2.ownBlock ≠ some k ∧ (Value.slice pl cs.length cl).ownBlock ≠ some k) (fun k hk _ => ⟨by have := (hk271).lt; omega, fun e => by have := ((ho266).lt k e).2; omega, fun e => by have := ((ho267).lt k e).2; omega⟩)
 have hsub2 := hsub1.push hpx1
 have hr1 := hrd1.1
 have hv1 := hrd1.2
 refine WL.nil <| ?_
 refine WY.br2 1 rfl 5 rfl ?_ ?_
 refine WL.r (Rd.ld (isAgg29 _) rfl hk21 rfl) rfl <| WL.nil <| ?_
 refine WY.br1 5 rfl ?_
 refine WL.bslM (L := pcL) (ps := _) ([x1]) underlying29 sizeOf31 zeroValue31 rfl rfl rfl rfl rfl (by first | rfl | decide) rfl rfl (fun b306 wb306 eb306 hob306 hub306 hsb306 => ?_)
 have ho307 := OwnM.new hq1 eb306 hub306
 have ho308 := OwnM.new ho1 eb306 hub306
 have hF309 := LInv.same (w1 := wb306) hsub2 (fun k hk hl => hub306.other k oO)
 have hl311 : r < b306 := by rw [eb306]; exact hr1.lt
 have hk310 := hr1.upd hub306 (Nat.ne_of_lt hl311)
 have hl313 : b1 < b306 := by rw [eb306]; exact hk11.lt
 have hk312 := hk11.upd hub306 (Nat.ne_of_lt hl313)
 have hl315 : b7 < b306 := by rw [eb306]; exact hk21.lt
 have hk314 := hk21.upd hub306 (Nat.ne_of_lt hl315)
 have hvl317 := fun h0 => eb306 ▸ hv1.lt h0
 have hv316 := bup hv1 hub306 hvl317
 have hgeb306 : w.heap.size ≤ b306 := by rw [eb306]; exact hB1.size
 have hB318 := Touch.trans hB1 (Touch.of_new hub306 hgeb306)
 have hleb306 : b306 ≤ wb306.heap.size := by omega
 refine WL.nil <| ?_
 refine WY.br1 6 rfl ?_
 have hlk := (ho307).lt
 refine WL.appM underlying29 inf31 rfl rfl rfl ho308 rfl (hob306).rowp (by simp only [List.length_cons, List.length_nil]; omega) ((hk314).lt) rfl (fun h => nomatch h) (fun v319 w320 how320 hbw320 hgw320 hfw320 => ?_)
 have hk321 := hk310.below hbw320 oO
 have hk322 := hk312.below hbw320 oO
 have hk323 := hk314.below hbw320 oO
 have hF324 := LInv.grow (T := fun k => b7 < k ∧ kv2.ownBlock ≠ some k ∧ (v319).ownBlock ≠ some k) hF309 (fun k hk hl => hgw320.block k hl (fun e => hk.2.2 e.symm)) (fun k hk hl => ⟨hk.1, hk.2.1, fun e => by rcases hfw320 k e with h | h; exact hk.2.2 h; omega⟩)
 have ho325 := OwnM.same ho307 (fun g hg => hgw320.block g ((ho307).lt g hg).2 (fun hx => hsep2 g hg hx.symm))
 have hv326 := BytesAt.below hv316 hbw320 hpB
 have hB327 := Touch.trans hB318 (Touch.of_below (hbw320.mono oO))
 have hsep3 : ∀ g, kv2.ownBlock = some g → (v319).ownBlock ≠ some g := fun g hg h2 => by rcases hfw320 g h2 with h | h; exact hsep2 g hg h; have := hlk g hg; omega
 refine WL.nil <| ?_
 refine WY.tk 7 rfl (.fa underlying31 rfl sizeOf29 dD rfl) rfl ?_
 refine WY.br1 8 rfl ?_
 refine WL.st sizeOf29 rfl rfl (how320).one hk323 oD (fun w328 hkw328 huw328 hsw328 => ?_)
 have hkw328 : Blk w328 b7 _ _ := hkw328
 have huw328 : Upd b7 _ _ := huw328
 have ho329 := OwnM.touch ho325 huw328 oM
 have ho330 := OwnM.touch how320 huw328 oM
 have hF331 := LInv.same (w1 := w328) hF324 (fun k hk hl => huw328.other k (by first | ((try simp only) <;> omega) | (have := hk.1; ((try simp only) <;> omega))))
 have hk332 := hk321.up huw328
 have hk333 := hk322.up huw328
 have hv334 := bup hv326 huw328 hvl13
 have hB335 := Touch.trans hB327 (Touch.of_new huw328 oO)
 refine WL.nil <| ?_
 refine WY.done kR ?_
 exact ⟨(_, _, ks ++ [kX], cs ++ [x1], acc ++ [oX], tX, f - 1, eX), ⟨rfl, rfl, rfl, rfl, trivial⟩, ⟨⟨hk332, hv334⟩, hB335, hk333, hkw328, ho329, ho330, hsep3, hF331, fun h0 => by
  have hob : objP refs l D.toNat s2 = .ok (oX, tX) := by rw [hres]; exact if_pos h0
  have had := hadv s2 oX tX hsl2 hob
  exact ⟨by rw [← hw, hst]; (try simp only []); rw [if_neg hn1, if_neg hn2, if_neg (by rw [h47]; simp), hnm]; (try simp only []); rw [if_neg hnk, if_neg oO, ← hs2, hgs2]; (try simp only []); rw [hob], by ((try simp only) <;> omega), by simp only [List.length_append, List.length_cons, List.length_nil]; omega, by simp only [List.length_append, List.length_cons, List.length_nil]; omega⟩, fun h1 => by
  have hob : objP refs l D.toNat s2 = .error eX := by rw [hres]; exact if_neg h1
  rw [← hw, hst]; (try simp only []); rw [if_neg hn1, if_neg hn2, if_neg (by rw [h47]; simp), hnm]; (try simp only []); rw [if_neg hnk, if_neg oO, ← hs2, hgs2]; (try simp only []); rw [hob], htX⟩, by ((try simp only) <;> omega)⟩
 refine WL.bslM (L := pcL) (ps := _) ([x1]) underlying29 sizeOf31 zeroValue31 rfl rfl rfl rfl rfl (by first | rfl | decide) rfl rfl (fun b336 wb336 eb336 hob336 hub336 hsb336 => ?_)
 have ho337 := OwnM.new hq1 eb336 hub336
 have ho338 := OwnM.new ho1 eb336 hub336
 have hF339 := LInv.same (w1 := wb336) hsub2 (fun k hk hl => hub336.other k oO)
 have hl341 : r < b336 := by rw [eb336]; exact hr1.lt
 have hk340 := hr1.upd hub336 (Nat.ne_of_lt hl341)
 have hl343 : b1 < b336 := by rw [eb336]; exact hk11.lt
 have hk342 := hk11.upd hub336 (Nat.ne_of_lt hl343)
 have hl345 : b7 < b336 := by rw [eb336]; exact hk21.lt
 have hk344 := hk21.upd hub336 (Nat.ne_of_lt hl345)
 have hvl347 := fun h0 => eb336 ▸ hv1.lt h0
 have hv346 := bup hv1 hub336 hvl347
 have hgeb336 : w.heap.size ≤ b336 := by rw [eb336]; exact hB1.size
 have hB348 := Touch.trans hB1 (Touch.of_new hub336 hgeb336)
 have hleb336 : b336 ≤ wb336.heap.size := by omega
 refine WL.nil <| ?_
 refine WY.br1 1 rfl ?_
 refine WL.r (Rd.ld (isAgg29 _) rfl hk344 rfl) rfl <| WL.nil <| ?_
 refine WY.br1 6 rfl ?_
 have hlk := (ho337).lt
 refine WL.appM underlying29 inf31 rfl rfl rfl ho338 rfl (hob336).rowp (by simp only [List.length_cons, List.length_nil]; omega) ((hk344).lt) rfl (fun h => nomatch h) (fun v349 w350 how350 hbw350 hgw350 hfw350 => ?_)
 have hk351 := hk340.below hbw350 oO
 have hk352 := hk342.below hbw350 oO
 have hk353 := hk344.below hbw350 oO
 have hF354 := LInv.grow (T := fun k => b7 < k ∧ kv2.ownBlock ≠ some k ∧ (v349).ownBlock ≠ some k) hF339 (fun k hk hl => hgw350.block k hl (fun e => hk.2.2 e.symm)) (fun k hk hl => ⟨hk.1, hk.2.1, fun e => by rcases hfw350 k e with h | h; exact hk.2.2 h; omega⟩)
 have ho355 := OwnM.same ho337 (fun g hg => hgw350.block g ((ho337).lt g hg).2 (fun hx => hsep2 g hg hx.symm))
 have hv356 := BytesAt.below hv346 hbw350 hpB
 have hB357 := Touch.trans hB348 (Touch.of_below (hbw350.mono oO))
 have hsep3 : ∀ g, kv2.ownBlock = some g → (v349).ownBlock ≠ some g := fun g hg h2 => by rcases hfw350 g h2 with h | h; exact hsep2 g hg h; have := hlk g hg; omega
 refine WL.nil <| ?_
 refine WY.tk 7 rfl (.fa underlying31 rfl sizeOf29 dD rfl) rfl ?_
 refine WY.br1 8 rfl ?_
 refine WL.st sizeOf29 rfl rfl (how350).one hk353 oD (fun w358 hkw358 huw358 hsw358 => ?_)
 have hkw358 : Blk w358 b7 _ _ := hkw358
 have huw358 : Upd b7 _ _ := huw358
 have ho359 := OwnM.touch ho355 huw358 oM
 have ho360 := OwnM.touch how350 huw358 oM
 have hF361 := LInv.same (w1 := w358) hF354 (fun k hk hl => huw358.other k (by first | ((try simp only) <;> omega) | (have := hk.1; ((try simp only) <;> omega))))
 have hk362 := hk351.up huw358
 have hk363 := hk352.up huw358
 have hv364 := bup hv356 huw358 hvl13
 have hB365 := Touch.trans hB357 (Touch.of_new huw358 oO)
 refine WL.nil <| ?_
 refine WY.done kR ?_
 exact ⟨(_, _, ks ++ [kX], cs ++ [x1], acc ++ [oX], tX, f - 1, eX), ⟨rfl, rfl, rfl, rfl, trivial⟩, ⟨⟨hk362, hv364⟩, hB365, hk363, hkw358, ho359, ho360, hsep3, hF361, fun h0 => by
  have hob : objP refs l D.toNat s2 = .ok (oX, tX) := by rw [hres]; exact if_pos h0
  have had := hadv s2 oX tX hsl2 hob
  exact ⟨by rw [← hw, hst]; (try simp only []); rw [if_neg hn1, if_neg hn2, if_neg (by rw [h47]; simp), hnm]; (try simp only []); rw [if_neg hnk, if_neg oO, ← hs2, hgs2]; (try simp only []); rw [hob], by ((try simp only) <;> omega), by simp only [List.length_append, List.length_cons, List.length_nil]; omega, by simp only [List.length_append, List.length_cons, List.length_nil]; omega⟩, fun h1 => by
  have hob : objP refs l D.toNat s2 = .error eX := by rw [hres]; exact if_neg h1
  rw [← hw, hst]; (try simp only []); rw [if_neg hn1, if_neg hn2, if_neg (by rw [h47]; simp), hnm]; (try simp only []); rw [if_neg hnk, if_neg oO, ← hs2, hgs2]; (try simp only []); rw [hob], htX⟩, by ((try simp only) <;> omega)⟩
 have h20' := dF h20
 refine W.exit <| W.sr <| WL.p (.buildL (ps := _) blt31 rfl rfl rfl pZ) rfl ?_
 refine WL.stL rfl rfl hk1 isz31 rfl rfl (fun w366 hkw366 huw366 hsw366 => ?_)
 have hk370 := hrd.1.upd huw366 oM
 have hv372 := BytesAt.upd hrd.2 huw366 (fun h0 => Nat.ne_of_lt (hvl5 h0))
 have hB373 := Touch.trans hT (Touch.of_new huw366 oO)
 refine WL.nil <| ?_
 refine W.ret (W.retc1 rfl rfl (ldRow hkw366 underlying31 rfl isz31)  ?_)
 exact ⟨_, rfl, pc0 0 0 [], pv0 0 0 [], t, er, rfl, PRep.zero _ _ _ _ _, ⟨hk370, hv372⟩, hB373, by
  have h0 : er ≠ 0 := by assumption
  rw [hbad h0]; exact (if_neg h0).symm, htl⟩
end
section
theorem resOf_ok {o : PV} {t : Nat} {e : Int} (h : e = 0) : resOf o t e = .ok (o, t) := if_pos h
theorem resOf_bad {o : PV} {t : Nat} {e : Int} (h : e ≠ 0) : resOf o t e = .error e := if_neg h
theorem textD_P (l : List UInt8) (t : Nat) : textP l t = resOf (pv0 (textD l t).1 0 (textD l t).2.1) (textD l t).2.2.1 (textD l t).2.2.2 := by
 unfold textP textD
 cases h : textR l t with
 | ok a => exact (resOf_ok rfl).symm
 | error k => exact (resOf_bad (textR_err h).ne).symm
theorem textD_le {l : List UInt8} {t : Nat} (ht : t ≤ l.length) : (textD l t).2.2.1 ≤ l.length := by
 unfold textD
 cases h : textR l t with
 | ok a => obtain ⟨s, t'⟩ := a; exact (textR_adv ht h).2
 | error k => exact ht
theorem nameD_O (l : List UInt8) (t : Nat) (o : PV) (ho : (nameD l t).2.2 = 0 → o = pv0 4 0 (nameD l t).1) : nameO l t = resOf o (nameD l t).2.1 (nameD l t).2.2 := by
 unfold nameO
 rw [nameD_P]
 by_cases h : (nameD l t).2.2 = 0
 ·
  rw [if_pos h, resOf_ok h, ho h]
 ·
  rw [if_neg h, resOf_bad h]
theorem plexW_np {refs : Bool} {l : List UInt8} {t : Nat} (ht : t ≤ l.length) : (plexW refs l t).np ≤ l.length := by
 have h1 := wordAt_le l t ht
 have h2 := refT_adv (refs := refs) (s := wordL l t) h1.2
 unfold plexW
 repeat' split
 all_goals first | exact h1.2 | exact h2.2
theorem r18_object (p : Option Addr) (l : List UInt8) (c : Nat) (refs : Bool) (hc : l.length ≤ c) (hl : l.length ≤ 100000000) (D : Int) (hD : -9223372036854775808 < D ∧ D ≤ 1000000000) (hO : 1 ≤ D → RObjC p l c refs (D - 1)) : RObjC p l c refs D := by
 intro r t w h hne ht hst
 have hr := h.1
 have hb := h.2
 obtain ⟨X, hX⟩ : ∃ X, X = objP refs l D.toNat t := ⟨_, rfl⟩
 rw [← hX]
 have hg : l[t]? = some l[t] := List.getElem?_eq_getElem ht
 rw [objP_at refs l D t l[t] hg] at hX
 obtain ⟨sec, hsec⟩ : ∃ sec : UInt8, sec = l[t + 1]?.getD 0 := ⟨_, rfl⟩
 obtain ⟨t0, ht0⟩ : ∃ t0, t0 = t := ⟨t, rfl⟩
 subst ht0
 obtain ⟨Wd, hWd⟩ : ∃ Wd, Wd = plexW refs l t0 := ⟨_, rfl⟩
 have hWn : Wd.np ≤ l.length := by rw [hWd]; exact plexW_np oO
 have hPc : ∀ w1, RRd w1 r p l c t0 refs 0 → Calls Tryz.prog 49 #[.pointer (some ⟨r, 0, none⟩)] w1 fun e w' => e = .returned Wd.val ∧ RRd w' r p l c Wd.np refs 0 ∧ Touch w1.heap.size r w1 w' := fun w1 h1 => by rw [hWd]; exact r18_plain r p l c t0 refs w1 h1 hne hc hl oO hst
 rw [← hWd] at hX
 have hNle := nameD_le (l := l) (t := t0 + 1) oO
 have hNO := nameD_O l (t0 + 1)
 have hNc : ∀ w1, RRd w1 r p l c (t0 + 1) refs 0 → Calls Tryz.prog 72 #[.pointer (some ⟨r, 0, none⟩)] w1 fun e w' => e = .returned (.string (bs (nameD l (t0 + 1)).1)) ∧ RRd w' r p l c (nameD l (t0 + 1)).2.1 refs (nameD l (t0 + 1)).2.2 ∧ Touch w1.heap.size r w1 w' := fun w1 h1 => r18_name r p l c (t0 + 1) refs w1 h1 hne hc hl oO
 generalize nameD l (t0 + 1) = N at hNle hNO hNc
 obtain ⟨kX, t1, eN⟩ := N
 simp only at hNle hNO hNc
 have hTP := textD_P l t0
 have hTle := textD_le (l := l) (t := t0) oO
 have hTc : ∀ w1, RRd w1 r p l c t0 refs 0 → (l[t0] = 40 ∨ l[t0] = 60) → Calls Tryz.prog 73 #[.pointer (some ⟨r, 0, none⟩)] w1 fun e w' => e = .returned (.agg (pobj (textD l t0).1 0 (textD l t0).2.1).toArray) ∧ RRd w' r p l c (textD l t0).2.2.1 refs (textD l t0).2.2.2 ∧ Touch w1.heap.size r w1 w' := fun w1 h1 h2 => r18_text r p l c t0 refs w1 h1 hne hc hl ht h2
 generalize textD l t0 = T at hTP hTle hTc
 obtain ⟨kT, sT, tT, eT⟩ := T
 simp only at hTP hTle hTc
 refine W.enter func46 rfl ntmps46 (Nat.le_of_ble_eq_true rfl) ?_
 have hB0 := Touch.refl (w.heap.size) r w
 refine W.sr <| WL.alloc zeroValue31 rfl (fun b1 wb1 eb1 hkb1 hub1 hsb1 => ?_)
 have hl3 : r < b1 := by rw [eb1]; exact hr.lt
 have hk2 := hr.upd hub1 (Nat.ne_of_lt hl3)
 have hvl5 := fun h0 => eb1 ▸ hb.lt h0
 have hv4 := bup hb hub1 hvl5
 have hgeb1 : w.heap.size ≤ b1 := by rw [eb1]; exact hB0.size
 have hB6 := Touch.trans hB0 (Touch.of_new hub1 hgeb1)
 refine WL.nil <| ?_
 have hrB : r < b1 := by have := hr.lt; omega
 refine W.cut (α := Unit) (fun t => [(0, .pointer (some ⟨r, 0, none⟩)), (1, .int .i64 D), (4, .pointer (some ⟨b1, 0, none⟩)), (5, .int .u8 (l[t0].toNat : Int))]) (fun t w' => RRd w' r p l c t0 refs 0 ∧ Touch w.heap.size r w w' ∧ Blk w' b1 (pobj 0 0 []).toArray 31) ?_ (fun t w1 hR => ?_)
 refine W.regY 11 rfl mixed (fun w7 dw7 => ?_)
 have hk8 := hk2.drew dw7
 have hk9 := hkb1.drew dw7
 have hv10 := hv4.drew dw7
 have hB11 := Touch.trans hB6 (Touch.of_drew dw7)
 refine WY.tk 0 rfl (.mv rfl) rfl ?_
 refine WY.tk 1 rfl (.nck rfl) rfl ?_
 refine WY.tk 2 rfl (.fa underlying69 rfl sizeOf22 dD rfl) rfl ?_
 refine WY.tk 4 rfl (.mv rfl) rfl ?_
 refine WY.tk 5 rfl (.nck rfl) rfl ?_
 refine WY.tk 6 rfl (.fa underlying69 rfl sizeOf3 dD rfl) rfl ?_
 refine WY.br2 3 rfl 7 rfl ?_ ?_
 refine WL.r (Rd.ld (isAgg22 _) rfl hk8 rfl) rfl <| WL.nil <| ?_
 refine WY.br1 7 rfl ?_
 refine WL.r (Rd.ld (isAgg3 _) rfl hk8 rfl) rfl <| WL.nil <| ?_
 refine WY.tk 8 rfl (.ixb underlying22 sizeOf5 rfl rfl (hv10.isp oO) (t0) (rfl) (ht)) rfl ?_
 refine WY.br1 9 rfl ?_
 refine WL.r (Rd.ldc (isAgg5 _) rfl (hv10.cells (t0) oO)) rfl <| WL.nil <| ?_
 refine WY.tk 10 rfl (.as rfl) rfl ?_
 refine WY.done kR ?_
 exact ⟨(), ⟨rfl, rfl, rfl, rfl, trivial⟩, ⟨hk8, hv10⟩, hB11, hk9⟩
 refine WL.r (Rd.ld (isAgg3 _) rfl hk8 rfl) rfl <| WL.nil <| ?_
 refine WY.br1 3 rfl ?_
 refine WL.r (Rd.ld (isAgg22 _) rfl hk8 rfl) rfl <| WL.nil <| ?_
 refine WY.tk 8 rfl (.ixb underlying22 sizeOf5 rfl rfl (hv10.isp oO) (t0) (rfl) (ht)) rfl ?_
 refine WY.br1 9 rfl ?_
 refine WL.r (Rd.ldc (isAgg5 _) rfl (hv10.cells (t0) oO)) rfl <| WL.nil <| ?_
 refine WY.tk 10 rfl (.as rfl) rfl ?_
 refine WY.done kR ?_
 exact ⟨(), ⟨rfl, rfl, rfl, rfl, trivial⟩, ⟨hk8, hv10⟩, hB11, hk9⟩
 obtain ⟨hrd, hT, hk1⟩ := hR
 refine W.sr <| WL.z rfl rfl ?_
 refine W.cut (α := Unit) (fun t => [(0, .pointer (some ⟨r, 0, none⟩)), (1, .int .i64 D), (4, .pointer (some ⟨b1, 0, none⟩)), (5, .int .u8 (l[t0].toNat : Int)), (6, .int .u8 (sec.toNat : Int))]) (fun t w' => RRd w' r p l c t0 refs 0 ∧ Touch w.heap.size r w w' ∧ Blk w' b1 (pobj 0 0 []).toArray 31) ?_ (fun t w1 hR => ?_)
 refine W.seq <| W.regY 11 rfl mixed (fun w12 dw12 => ?_)
 have hk13 := hrd.1.drew dw12
 have hk14 := hk1.drew dw12
 have hv15 := hrd.2.drew dw12
 have hB16 := Touch.trans hT (Touch.of_drew dw12)
 refine WY.tk 0 rfl (.mv rfl) rfl ?_
 refine WY.tk 1 rfl (.nck rfl) rfl ?_
 refine WY.tk 2 rfl (.fa underlying69 rfl sizeOf3 dD rfl) rfl ?_
 refine WY.tk 5 rfl (.mv rfl) rfl ?_
 refine WY.tk 6 rfl (.nck rfl) rfl ?_
 refine WY.tk 7 rfl (.fa underlying69 rfl sizeOf22 dD rfl) rfl ?_
 refine WY.br2 3 rfl 8 rfl ?_ ?_
 refine WL.r (Rd.ld (isAgg3 _) rfl hk13 rfl) rfl <| WL.nil <| ?_
 refine WY.tk 4 rfl (.add rfl rfl (i64w oO)) rfl ?_
 refine WY.br1 8 rfl ?_
 refine WL.r (Rd.ld (isAgg22 _) rfl hk13 rfl) rfl <| WL.nil <| ?_
 refine WY.tk 9 rfl (.lenS underlying22 rfl) rfl ?_
 refine WY.tk 10 rfl (.lss rfl rfl) rfl ?_
 refine WY.done kR ?_
 refine W.cond rfl (fun h17 => ?_) (fun h17 => ?_)
 have h17' := dT h17
 refine W.regY 12 rfl mixed (fun w18 dw18 => ?_)
 have hk19 := hk13.drew dw18
 have hk20 := hk14.drew dw18
 have hv21 := hv15.drew dw18
 have hB22 := Touch.trans hB16 (Touch.of_drew dw18)
 refine WY.tk 0 rfl (.mv rfl) rfl ?_
 refine WY.tk 1 rfl (.nck rfl) rfl ?_
 refine WY.tk 2 rfl (.fa underlying69 rfl sizeOf22 dD rfl) rfl ?_
 refine WY.tk 4 rfl (.mv rfl) rfl ?_
 refine WY.tk 5 rfl (.nck rfl) rfl ?_
 refine WY.tk 6 rfl (.fa underlying69 rfl sizeOf3 dD rfl) rfl ?_
 refine WY.br2 3 rfl 7 rfl ?_ ?_
 refine WL.r (Rd.ld (isAgg22 _) rfl hk19 rfl) rfl <| WL.nil <| ?_
 refine WY.br1 7 rfl ?_
 refine WL.r (Rd.ld (isAgg3 _) rfl hk19 rfl) rfl <| WL.nil <| ?_
 refine WY.tk 8 rfl (.add rfl rfl (i64w oO)) rfl ?_
 refine WY.tk 9 rfl (.ixb underlying22 sizeOf5 rfl rfl (hv21.isp oO) (t0 + 1) oO oO) rfl ?_
 refine WY.br1 10 rfl ?_
 refine WL.r (Rd.ldc (isAgg5 _) rfl (hv21.cells (t0 + 1) oO)) rfl <| WL.nil <| ?_
 refine WY.tk 11 rfl (.as rfl) rfl ?_
 refine WY.done kR ?_
 exact ⟨(), ⟨rfl, rfl, rfl, rfl, lk_i rfl (by rw [hsec, List.getElem?_eq_getElem oO]; rfl), trivial⟩, ⟨hk19, hv21⟩, hB22, hk20⟩
 refine WL.r (Rd.ld (isAgg3 _) rfl hk19 rfl) rfl <| WL.nil <| ?_
 refine WY.tk 8 rfl (.add rfl rfl (i64w oO)) rfl ?_
 refine WY.br1 3 rfl ?_
 refine WL.r (Rd.ld (isAgg22 _) rfl hk19 rfl) rfl <| WL.nil <| ?_
 refine WY.tk 9 rfl (.ixb underlying22 sizeOf5 rfl rfl (hv21.isp oO) (t0 + 1) oO oO) rfl ?_
 refine WY.br1 10 rfl ?_
 refine WL.r (Rd.ldc (isAgg5 _) rfl (hv21.cells (t0 + 1) oO)) rfl <| WL.nil <| ?_
 refine WY.tk 11 rfl (.as rfl) rfl ?_
 refine WY.done kR ?_
 exact ⟨(), ⟨rfl, rfl, rfl, rfl, lk_i rfl (by rw [hsec, List.getElem?_eq_getElem oO]; rfl), trivial⟩, ⟨hk19, hv21⟩, hB22, hk20⟩
 have h17' := dF h17
 refine W.skip ?_
 exact ⟨(), ⟨rfl, rfl, rfl, rfl, lk_i rfl (by rw [hsec, List.getElem?_eq_none oO]; rfl), trivial⟩, ⟨hk13, hv15⟩, hB16, hk14⟩
 refine WL.r (Rd.ld (isAgg22 _) rfl hk13 rfl) rfl <| WL.nil <| ?_
 refine WY.tk 9 rfl (.lenS underlying22 rfl) rfl ?_
 refine WY.br1 3 rfl ?_
 refine WL.r (Rd.ld (isAgg3 _) rfl hk13 rfl) rfl <| WL.nil <| ?_
 refine WY.tk 4 rfl (.add rfl rfl (i64w oO)) rfl ?_
 refine WY.tk 10 rfl (.lss rfl rfl) rfl ?_
 refine WY.done kR ?_
 refine W.cond rfl (fun h23 => ?_) (fun h23 => ?_)
 have h23' := dT h23
 refine W.regY 12 rfl mixed (fun w24 dw24 => ?_)
 have hk25 := hk13.drew dw24
 have hk26 := hk14.drew dw24
 have hv27 := hv15.drew dw24
 have hB28 := Touch.trans hB16 (Touch.of_drew dw24)
 refine WY.tk 0 rfl (.mv rfl) rfl ?_
 refine WY.tk 1 rfl (.nck rfl) rfl ?_
 refine WY.tk 2 rfl (.fa underlying69 rfl sizeOf22 dD rfl) rfl ?_
 refine WY.tk 4 rfl (.mv rfl) rfl ?_
 refine WY.tk 5 rfl (.nck rfl) rfl ?_
 refine WY.tk 6 rfl (.fa underlying69 rfl sizeOf3 dD rfl) rfl ?_
 refine WY.br2 3 rfl 7 rfl ?_ ?_
 refine WL.r (Rd.ld (isAgg22 _) rfl hk25 rfl) rfl <| WL.nil <| ?_
 refine WY.br1 7 rfl ?_
 refine WL.r (Rd.ld (isAgg3 _) rfl hk25 rfl) rfl <| WL.nil <| ?_
 refine WY.tk 8 rfl (.add rfl rfl (i64w oO)) rfl ?_
 refine WY.tk 9 rfl (.ixb underlying22 sizeOf5 rfl rfl (hv27.isp oO) (t0 + 1) oO oO) rfl ?_
 refine WY.br1 10 rfl ?_
 refine WL.r (Rd.ldc (isAgg5 _) rfl (hv27.cells (t0 + 1) oO)) rfl <| WL.nil <| ?_
 refine WY.tk 11 rfl (.as rfl) rfl ?_
 refine WY.done kR ?_
 exact ⟨(), ⟨rfl, rfl, rfl, rfl, lk_i rfl (by rw [hsec, List.getElem?_eq_getElem oO]; rfl), trivial⟩, ⟨hk25, hv27⟩, hB28, hk26⟩
 refine WL.r (Rd.ld (isAgg3 _) rfl hk25 rfl) rfl <| WL.nil <| ?_
 refine WY.tk 8 rfl (.add rfl rfl (i64w oO)) rfl ?_
 refine WY.br1 3 rfl ?_
 refine WL.r (Rd.ld (isAgg22 _) rfl hk25 rfl) rfl <| WL.nil <| ?_
 refine WY.tk 9 rfl (.ixb underlying22 sizeOf5 rfl rfl (hv27.isp oO) (t0 + 1) oO oO) rfl ?_
 refine WY.br1 10 rfl ?_
 refine WL.r (Rd.ldc (isAgg5 _) rfl (hv27.cells (t0 + 1) oO)) rfl <| WL.nil <| ?_
 refine WY.tk 11 rfl (.as rfl) rfl ?_
 refine WY.done kR ?_
 exact ⟨(), ⟨rfl, rfl, rfl, rfl, lk_i rfl (by rw [hsec, List.getElem?_eq_getElem oO]; rfl), trivial⟩, ⟨hk25, hv27⟩, hB28, hk26⟩
 have h23' := dF h23
 refine W.skip ?_
 exact ⟨(), ⟨rfl, rfl, rfl, rfl, lk_i rfl (by rw [hsec, List.getElem?_eq_none oO]; rfl), trivial⟩, ⟨hk13, hv15⟩, hB16, hk14⟩
 obtain ⟨hrd, hT, hk1⟩ := hR
 refine W.seq <| W.sr <| WL.m rfl rfl <| WL.nil <| ?_
 refine W.block <| W.sr <| WL.p (.eql rfl rfl) rfl <| WL.z rfl rfl ?_
 refine W.cond rfl (fun h29 => ?_) (fun h29 => ?_)
 have h29' := dT h29
 have h47 : l[t0] = 47 := u8_eq aS
 rw [if_pos h47] at hX
 refine W.sr <| WL.m rfl rfl <| WL.p (.nck rfl) rfl <| WL.p (.fa underlying69 rfl sizeOf3 dD rfl) rfl <| WL.r (Rd.ld (isAgg3 _) rfl hrd.1 rfl) rfl <| WL.p (.iis (((t0 + 1 : Nat) : Int)) (.add rfl rfl (i64w oO)) oO) rfl <| WL.p (.nck rfl) rfl <| WL.p (.fa underlying69 rfl sizeOf3 dD rfl) rfl <| WL.st sizeOf3 rfl rfl rfl hrd.1 oD (fun w30 hkw30 huw30 hsw30 => ?_)
 have hkw30 : Blk w30 r _ _ := hkw30
 have huw30 : Upd r _ _ := huw30
 have hk31 := hk1.up huw30
 have hv32 := BytesAt.upd hrd.2 huw30 hne
 have hB33 := Touch.trans hT (Touch.of_upd huw30)
 refine WL.nil <| ?_
 refine W.sr <| WL.m rfl rfl <| WL.c1 hb72 rfl rfl ((hNc _ ⟨hkw30, hv32⟩)) (fun w34 hw34 => ?_)
 have hk35 := hw34.1.1
 have hk36 := Blk.touch hk31 hw34.2 hk31.lt oO
 have hv37 := hw34.1.2
 have hB38 := Touch.trans hB33 (Touch.mono hw34.2 hB33.size)
 refine WL.z rfl rfl ?_
 refine W.seq <| W.sr <| WL.m rfl rfl <| WL.p (.nck rfl) rfl <| WL.p (.fa underlying69 rfl sizeOf35 dD rfl) rfl <| WL.r (Rd.ld (isAgg35 _) rfl hk35 rfl) rfl <| WL.p (.neq rfl rfl) rfl <| WL.nil <| ?_
 refine W.cond rfl (fun h39 => ?_) (fun h39 => ?_)
 have h39' := ndT h39
 refine W.sr <| WL.p (.buildL (ps := _) blt31 rfl rfl rfl pZ) rfl ?_
 refine WL.stL rfl rfl hk36 isz31 rfl rfl (fun w40 hkw40 huw40 hsw40 => ?_)
 have hk41 := hk35.up huw40
 have hv42 := bup hv37 huw40 hvl5
 have hB43 := Touch.trans hB38 (Touch.of_new huw40 oO)
 refine WL.nil <| ?_
 refine W.ret (W.retc1 rfl rfl (ldRow hkw40 underlying31 rfl isz31)  ?_)
 exact ⟨_, rfl, pc0 0 0 [], pv0 0 0 [], t1, eN, rfl, PRep.zero _ _ _ _ _, ⟨hk41, hv42⟩, hB43, by
  rw [hX]; exact hNO _ (fun h => absurd h aS), hNle.2⟩
 have h39' := ndF h39
 refine W.skip <| W.sr <| WL.m rfl rfl <| ?_
 refine WL.p (.buildL (ps := _) blt31 rfl rfl rfl pS) rfl ?_
 refine WL.stL rfl rfl hk36 isz31 rfl rfl (fun w44 hkw44 huw44 hsw44 => ?_)
 have hk45 := hk35.up huw44
 have hv46 := bup hv37 huw44 hvl5
 have hB47 := Touch.trans hB38 (Touch.of_new huw44 oO)
 refine WL.nil <| ?_
 refine W.ret (W.retc1 rfl rfl (ldRow hkw44 underlying31 rfl isz31)  ?_)
 exact ⟨_, rfl, pc0 4 0 kX, pv0 4 0 kX, t1, eN, rfl, PRep.zero _ _ _ _ _, ⟨hk45, hv46⟩, hB47, by
  rw [hX]; exact hNO _ (fun _ => rfl), hNle.2⟩
 have h29' := dF h29
 have h47 : l[t0] ≠ 47 := u8_ne (d := 47) aS
 rw [if_neg h47] at hX
 refine W.sr <| WL.p (.eql rfl rfl) rfl <| WL.z rfl rfl ?_
 refine W.cond rfl (fun h48 => ?_) (fun h48 => ?_)
 have h48' := dT h48
 have h40 : l[t0] = 40 := u8_eq aS
 rw [if_neg (by rw [h40]; decide), if_pos h40] at hX
 refine W.sr <| WL.m rfl rfl <| WL.c1 hb73 rfl rfl ((hTc _ ⟨hrd.1, hrd.2⟩ (by first | exact .inl aS | exact .inr aS))) (fun w49 hw49 => ?_)
 have hk50 := hw49.1.1
 have hk51 := Blk.touch hk1 hw49.2 hk1.lt oO
 have hv52 := hw49.1.2
 have hB53 := Touch.trans hT (Touch.mono hw49.2 hT.size)
 refine WL.stL rfl rfl hk51 isz31 rfl rfl (fun w54 hkw54 huw54 hsw54 => ?_)
 have hk55 := hk50.up huw54
 have hv56 := bup hv52 huw54 hvl5
 have hB57 := Touch.trans hB53 (Touch.of_new huw54 oO)
 refine WL.nil <| ?_
 refine W.ret (W.retc1 rfl rfl (ldRow hkw54 underlying31 rfl isz31)  ?_)
 exact ⟨_, rfl, pc0 kT 0 sT, pv0 kT 0 sT, tT, eT, rfl, PRep.zero _ _ _ _ _, ⟨hk55, hv56⟩, hB57, by
  rw [hX]; exact hTP, hTle⟩
 have h48' := dF h48
 have h40 : l[t0] ≠ 40 := u8_ne (d := 40) aS
 refine W.sr <| WL.p (.eql rfl rfl) rfl <| WL.z rfl rfl ?_
 refine W.cond rfl (fun h58 => ?_) (fun h58 => ?_)
 have h58' := dT h58
 have h60 : l[t0] = 60 := u8_eq aS
 rw [if_neg (by rw [h60]; decide), if_neg (by rw [h60]; decide), if_pos h60] at hX
 refine W.seq <| W.seq <| W.regY 11 rfl mixed (fun w59 dw59 => ?_)
 have hk60 := hrd.1.drew dw59
 have hk61 := hk1.drew dw59
 have hv62 := hrd.2.drew dw59
 have hB63 := Touch.trans hT (Touch.of_drew dw59)
 refine WY.tk 0 rfl (.mv rfl) rfl ?_
 refine WY.tk 1 rfl (.nck rfl) rfl ?_
 refine WY.tk 2 rfl (.fa underlying69 rfl sizeOf3 dD rfl) rfl ?_
 refine WY.tk 5 rfl (.mv rfl) rfl ?_
 refine WY.tk 6 rfl (.nck rfl) rfl ?_
 refine WY.tk 7 rfl (.fa underlying69 rfl sizeOf22 dD rfl) rfl ?_
 refine WY.br2 3 rfl 8 rfl ?_ ?_
 refine WL.r (Rd.ld (isAgg3 _) rfl hk60 rfl) rfl <| WL.nil <| ?_
 refine WY.tk 4 rfl (.iis ((t0 : Int) + 1) (.add rfl rfl (i64w oO)) oO) rfl ?_
 refine WY.br1 8 rfl ?_
 refine WL.r (Rd.ld (isAgg22 _) rfl hk60 rfl) rfl <| WL.nil <| ?_
 refine WY.tk 9 rfl (.lenS underlying22 rfl) rfl ?_
 refine WY.tk 10 rfl (.geq rfl rfl) rfl ?_
 refine WY.done kR ?_
 refine W.cond rfl (fun h64 => ?_) (fun h64 => ?_)
 have h64' := dT h64
 refine W.sr <| WL.m rfl rfl <| WL.c1 hb74 rfl rfl ((r18_fail r p l c t0 refs 0 24 _ ⟨hk60, hv62⟩ hne)) (fun w65 hw65 => ?_)
 have hk66 := hw65.1.1
 have hk67 := Blk.touch hk61 hw65.2 hk61.lt oO
 have hv68 := hw65.1.2
 have hB69 := Touch.trans hB63 (Touch.mono hw65.2 hB63.size)
 refine WL.stL rfl rfl hk67 isz31 rfl rfl (fun w70 hkw70 huw70 hsw70 => ?_)
 have hk71 := hk66.up huw70
 have hv72 := bup hv68 huw70 hvl5
 have hB73 := Touch.trans hB69 (Touch.of_new huw70 oO)
 refine WL.nil <| ?_
 refine W.ret (W.retc1 rfl rfl (ldRow hkw70 underlying31 rfl isz31)  ?_)
 exact ⟨_, rfl, pc0 0 0 [], pv0 0 0 [], t0, 24, rfl, PRep.zero _ _ _ _ _, ⟨hk71, hv72⟩, hB73, by
  rw [hX, if_pos oO]; rfl, by omega⟩
 have h64' := dF h64
 have hlt1 : t0 + 1 < l.length := by omega
 have hg1 : l[t0 + 1]? = some l[t0 + 1] := List.getElem?_eq_getElem hlt1
 have hs1 : sec = l[t0 + 1] := by rw [hsec, hg1]; rfl
 refine W.skip <| W.seq <| W.sr <| WL.m rfl rfl <| WL.p (.neq rfl rfl) rfl <| WL.nil <| ?_
 refine W.cond rfl (fun h74 => ?_) (fun h74 => ?_)
 have h74' := ndT h74
 refine W.sr <| WL.m rfl rfl <| WL.c1 hb73 rfl rfl ((hTc _ ⟨hk60, hv62⟩ (by first | exact .inl aS | exact .inr aS))) (fun w75 hw75 => ?_)
 have hk76 := hw75.1.1
 have hk77 := Blk.touch hk61 hw75.2 hk61.lt oO
 have hv78 := hw75.1.2
 have hB79 := Touch.trans hB63 (Touch.mono hw75.2 hB63.size)
 refine WL.stL rfl rfl hk77 isz31 rfl rfl (fun w80 hkw80 huw80 hsw80 => ?_)
 have hk81 := hk76.up huw80
 have hv82 := bup hv78 huw80 hvl5
 have hB83 := Touch.trans hB79 (Touch.of_new huw80 oO)
 refine WL.nil <| ?_
 refine W.ret (W.retc1 rfl rfl (ldRow hkw80 underlying31 rfl isz31)  ?_)
 exact ⟨_, rfl, pc0 kT 0 sT, pv0 kT 0 sT, tT, eT, rfl, PRep.zero _ _ _ _ _, ⟨hk81, hv82⟩, hB83, by
  rw [hX, if_neg oO, if_pos (by rw [hg1, ← hs1]; exact fun e => u8_ne (d := 60) aS (Option.some.inj e))]; exact hTP, hTle⟩
 have h74' := ndF h74
 refine W.skip <| W.seq <| W.sr <| WL.m rfl rfl <| WL.p (.lss rfl rfl) rfl <| WL.nil <| ?_
 refine W.cond rfl (fun h84 => ?_) (fun h84 => ?_)
 have h84' := dT h84
 refine W.sr <| WL.m rfl rfl <| WL.c1 hb74 rfl rfl ((r18_fail r p l c t0 refs 0 25 _ ⟨hk60, hv62⟩ hne)) (fun w85 hw85 => ?_)
 have hk86 := hw85.1.1
 have hk87 := Blk.touch hk61 hw85.2 hk61.lt oO
 have hv88 := hw85.1.2
 have hB89 := Touch.trans hB63 (Touch.mono hw85.2 hB63.size)
 refine WL.stL rfl rfl hk87 isz31 rfl rfl (fun w90 hkw90 huw90 hsw90 => ?_)
 have hk91 := hk86.up huw90
 have hv92 := bup hv88 huw90 hvl5
 have hB93 := Touch.trans hB89 (Touch.of_new huw90 oO)
 refine WL.nil <| ?_
 refine W.ret (W.retc1 rfl rfl (ldRow hkw90 underlying31 rfl isz31)  ?_)
 exact ⟨_, rfl, pc0 0 0 [], pv0 0 0 [], t0, 25, rfl, PRep.zero _ _ _ _ _, ⟨hk91, hv92⟩, hB93, by
  rw [hX, if_neg oO, if_neg (fun e => e (by rw [hg1, ← hs1]; exact congrArg some (u8_eq (d := 60) aS))), if_pos oO]; rfl, by omega⟩
 have h84' := dF h84
 refine W.skip <| W.sr <| WL.m rfl rfl <| WL.m rfl rfl <| WL.p (.nck rfl) rfl <| WL.p (.fa underlying69 rfl sizeOf3 dD rfl) rfl <| WL.r (Rd.ld (isAgg3 _) rfl hk60 rfl) rfl <| WL.p (.iis (((t0 + 2 : Nat) : Int)) (.add rfl rfl (i64w oO)) oO) rfl <| WL.p (.nck rfl) rfl <| WL.p (.fa underlying69 rfl sizeOf3 dD rfl) rfl <| WL.st sizeOf3 rfl rfl rfl hk60 oD (fun w94 hkw94 huw94 hsw94 => ?_)
 have hkw94 : Blk w94 r _ _ := hkw94
 have huw94 : Upd r _ _ := huw94
 have hk95 := hk61.up huw94
 have hv96 := BytesAt.upd hv62 huw94 hne
 have hB97 := Touch.trans hB63 (Touch.of_upd huw94)
 refine WL.nil <| ?_
 refine W.sr <| WL.m rfl rfl <| WL.m rfl rfl <| WL.p (.sub rfl rfl (i64w oO)) rfl <| WL.call hb75 rfl rfl ((r18_pairs p l c refs (D - 1) (hO oO) (objP_adv refs l _) r (t0 + 2) _ ⟨hkw94, hv96⟩ hne hc hl oO)) (fun xv w98 hw98 => ?_)
 obtain ⟨x1, oX, tX, eX, rfl, hpx, hrd1, hT1, hres, htX⟩ := hw98
 have hpx1 := hpx.mono (T := fun k => b1 < k ∧ w.heap.size ≤ k) (fun k hk _ => by have h1 := (hk95).lt; have h2 := hB97.size; omega)
 have hk11 := Blk.touch hk95 hT1 (hk95).lt oO
 have hB1 := Touch.trans hB97 (Touch.mono hT1 hB97.size)
 have hr1 := hrd1.1
 have hv1 := hrd1.2
 refine WL.stL rfl rfl hk11 isz31 rfl rfl (fun w99 hkw99 huw99 hsw99 => ?_)
 have hF100 := PRep.same (w1 := w99) hpx1 (fun k hk hl => huw99.other k (by first | ((try simp only) <;> omega) | (have := hk.1; ((try simp only) <;> omega))))
 have hk101 := hr1.upd huw99 oM
 have hv102 := bup hv1 huw99 hvl5
 have hB103 := Touch.trans hB1 (Touch.of_new huw99 oO)
 refine WL.nil <| ?_
 refine W.ret (W.retc1 rfl rfl (ldRow hkw99 underlying31 rfl isz31)  ?_)
 exact ⟨_, rfl, x1, oX, tX, eX, rfl, (hF100).mono (fun k hk _ => hk.2), ⟨hk101, hv102⟩, hB103, by
  rw [hX, if_neg oO, if_neg (fun e => e (by rw [hg1, ← hs1]; exact congrArg some (u8_eq (d := 60) aS))), if_neg oO, hres], htX⟩
 refine WL.r (Rd.ld (isAgg22 _) rfl hk60 rfl) rfl <| WL.nil <| ?_
 refine WY.tk 9 rfl (.lenS underlying22 rfl) rfl ?_
 refine WY.br1 3 rfl ?_
 refine WL.r (Rd.ld (isAgg3 _) rfl hk60 rfl) rfl <| WL.nil <| ?_
 refine WY.tk 4 rfl (.iis ((t0 : Int) + 1) (.add rfl rfl (i64w oO)) oO) rfl ?_
 refine WY.tk 10 rfl (.geq rfl rfl) rfl ?_
 refine WY.done kR ?_
 refine W.cond rfl (fun h104 => ?_) (fun h104 => ?_)
 have h104' := dT h104
 refine W.sr <| WL.m rfl rfl <| WL.c1 hb74 rfl rfl ((r18_fail r p l c t0 refs 0 24 _ ⟨hk60, hv62⟩ hne)) (fun w105 hw105 => ?_)
 have hk106 := hw105.1.1
 have hk107 := Blk.touch hk61 hw105.2 hk61.lt oO
 have hv108 := hw105.1.2
 have hB109 := Touch.trans hB63 (Touch.mono hw105.2 hB63.size)
 refine WL.stL rfl rfl hk107 isz31 rfl rfl (fun w110 hkw110 huw110 hsw110 => ?_)
 have hk111 := hk106.up huw110
 have hv112 := bup hv108 huw110 hvl5
 have hB113 := Touch.trans hB109 (Touch.of_new huw110 oO)
 refine WL.nil <| ?_
 refine W.ret (W.retc1 rfl rfl (ldRow hkw110 underlying31 rfl isz31)  ?_)
 exact ⟨_, rfl, pc0 0 0 [], pv0 0 0 [], t0, 24, rfl, PRep.zero _ _ _ _ _, ⟨hk111, hv112⟩, hB113, by
  rw [hX, if_pos oO]; rfl, by omega⟩
 have h104' := dF h104
 have hlt1 : t0 + 1 < l.length := by omega
 have hg1 : l[t0 + 1]? = some l[t0 + 1] := List.getElem?_eq_getElem hlt1
 have hs1 : sec = l[t0 + 1] := by rw [hsec, hg1]; rfl
 refine W.skip <| W.seq <| W.sr <| WL.m rfl rfl <| WL.p (.neq rfl rfl) rfl <| WL.nil <| ?_
 refine W.cond rfl (fun h114 => ?_) (fun h114 => ?_)
 have h114' := ndT h114
 refine W.sr <| WL.m rfl rfl <| WL.c1 hb73 rfl rfl ((hTc _ ⟨hk60, hv62⟩ (by first | exact .inl aS | exact .inr aS))) (fun w115 hw115 => ?_)
 have hk116 := hw115.1.1
 have hk117 := Blk.touch hk61 hw115.2 hk61.lt oO
 have hv118 := hw115.1.2
 have hB119 := Touch.trans hB63 (Touch.mono hw115.2 hB63.size)
 refine WL.stL rfl rfl hk117 isz31 rfl rfl (fun w120 hkw120 huw120 hsw120 => ?_)
 have hk121 := hk116.up huw120
 have hv122 := bup hv118 huw120 hvl5
 have hB123 := Touch.trans hB119 (Touch.of_new huw120 oO)
 refine WL.nil <| ?_
 refine W.ret (W.retc1 rfl rfl (ldRow hkw120 underlying31 rfl isz31)  ?_)
 exact ⟨_, rfl, pc0 kT 0 sT, pv0 kT 0 sT, tT, eT, rfl, PRep.zero _ _ _ _ _, ⟨hk121, hv122⟩, hB123, by
  rw [hX, if_neg oO, if_pos (by rw [hg1, ← hs1]; exact fun e => u8_ne (d := 60) aS (Option.some.inj e))]; exact hTP, hTle⟩
 have h114' := ndF h114
 refine W.skip <| W.seq <| W.sr <| WL.m rfl rfl <| WL.p (.lss rfl rfl) rfl <| WL.nil <| ?_
 refine W.cond rfl (fun h124 => ?_) (fun h124 => ?_)
 have h124' := dT h124
 refine W.sr <| WL.m rfl rfl <| WL.c1 hb74 rfl rfl ((r18_fail r p l c t0 refs 0 25 _ ⟨hk60, hv62⟩ hne)) (fun w125 hw125 => ?_)
 have hk126 := hw125.1.1
 have hk127 := Blk.touch hk61 hw125.2 hk61.lt oO
 have hv128 := hw125.1.2
 have hB129 := Touch.trans hB63 (Touch.mono hw125.2 hB63.size)
 refine WL.stL rfl rfl hk127 isz31 rfl rfl (fun w130 hkw130 huw130 hsw130 => ?_)
 have hk131 := hk126.up huw130
 have hv132 := bup hv128 huw130 hvl5
 have hB133 := Touch.trans hB129 (Touch.of_new huw130 oO)
 refine WL.nil <| ?_
 refine W.ret (W.retc1 rfl rfl (ldRow hkw130 underlying31 rfl isz31)  ?_)
 exact ⟨_, rfl, pc0 0 0 [], pv0 0 0 [], t0, 25, rfl, PRep.zero _ _ _ _ _, ⟨hk131, hv132⟩, hB133, by
  rw [hX, if_neg oO, if_neg (fun e => e (by rw [hg1, ← hs1]; exact congrArg some (u8_eq (d := 60) aS))), if_pos oO]; rfl, by omega⟩
 have h124' := dF h124
 refine W.skip <| W.sr <| WL.m rfl rfl <| WL.m rfl rfl <| WL.p (.nck rfl) rfl <| WL.p (.fa underlying69 rfl sizeOf3 dD rfl) rfl <| WL.r (Rd.ld (isAgg3 _) rfl hk60 rfl) rfl <| WL.p (.iis (((t0 + 2 : Nat) : Int)) (.add rfl rfl (i64w oO)) oO) rfl <| WL.p (.nck rfl) rfl <| WL.p (.fa underlying69 rfl sizeOf3 dD rfl) rfl <| WL.st sizeOf3 rfl rfl rfl hk60 oD (fun w134 hkw134 huw134 hsw134 => ?_)
 have hkw134 : Blk w134 r _ _ := hkw134
 have huw134 : Upd r _ _ := huw134
 have hk135 := hk61.up huw134
 have hv136 := BytesAt.upd hv62 huw134 hne
 have hB137 := Touch.trans hB63 (Touch.of_upd huw134)
 refine WL.nil <| ?_
 refine W.sr <| WL.m rfl rfl <| WL.m rfl rfl <| WL.p (.sub rfl rfl (i64w oO)) rfl <| WL.call hb75 rfl rfl ((r18_pairs p l c refs (D - 1) (hO oO) (objP_adv refs l _) r (t0 + 2) _ ⟨hkw134, hv136⟩ hne hc hl oO)) (fun xv w138 hw138 => ?_)
 obtain ⟨x1, oX, tX, eX, rfl, hpx, hrd1, hT1, hres, htX⟩ := hw138
 have hpx1 := hpx.mono (T := fun k => b1 < k ∧ w.heap.size ≤ k) (fun k hk _ => by have h1 := (hk135).lt; have h2 := hB137.size; omega)
 have hk11 := Blk.touch hk135 hT1 (hk135).lt oO
 have hB1 := Touch.trans hB137 (Touch.mono hT1 hB137.size)
 have hr1 := hrd1.1
 have hv1 := hrd1.2
 refine WL.stL rfl rfl hk11 isz31 rfl rfl (fun w139 hkw139 huw139 hsw139 => ?_)
 have hF140 := PRep.same (w1 := w139) hpx1 (fun k hk hl => huw139.other k (by first | ((try simp only) <;> omega) | (have := hk.1; ((try simp only) <;> omega))))
 have hk141 := hr1.upd huw139 oM
 have hv142 := bup hv1 huw139 hvl5
 have hB143 := Touch.trans hB1 (Touch.of_new huw139 oO)
 refine WL.nil <| ?_
 refine W.ret (W.retc1 rfl rfl (ldRow hkw139 underlying31 rfl isz31)  ?_)
 exact ⟨_, rfl, x1, oX, tX, eX, rfl, (hF140).mono (fun k hk _ => hk.2), ⟨hk141, hv142⟩, hB143, by
  rw [hX, if_neg oO, if_neg (fun e => e (by rw [hg1, ← hs1]; exact congrArg some (u8_eq (d := 60) aS))), if_neg oO, hres], htX⟩
 have h58' := dF h58
 have h60 : l[t0] ≠ 60 := u8_ne (d := 60) aS
 refine W.sr <| WL.p (.eql rfl rfl) rfl <| WL.z rfl rfl ?_
 refine W.cond rfl (fun h144 => ?_) (fun h144 => ?_)
 have h144' := dT h144
 have h91 : l[t0] = 91 := u8_eq aS
 rw [if_pos h91] at hX
 refine W.seq <| W.sr <| WL.m rfl rfl <| WL.p (.lss rfl rfl) rfl <| WL.nil <| ?_
 refine W.cond rfl (fun h145 => ?_) (fun h145 => ?_)
 have h145' := dT h145
 refine W.sr <| WL.m rfl rfl <| WL.c1 hb74 rfl rfl ((r18_fail r p l c t0 refs 0 25 _ ⟨hrd.1, hrd.2⟩ hne)) (fun w146 hw146 => ?_)
 have hk147 := hw146.1.1
 have hk148 := Blk.touch hk1 hw146.2 hk1.lt oO
 have hv149 := hw146.1.2
 have hB150 := Touch.trans hT (Touch.mono hw146.2 hT.size)
 refine WL.stL rfl rfl hk148 isz31 rfl rfl (fun w151 hkw151 huw151 hsw151 => ?_)
 have hk152 := hk147.up huw151
 have hv153 := bup hv149 huw151 hvl5
 have hB154 := Touch.trans hB150 (Touch.of_new huw151 oO)
 refine WL.nil <| ?_
 refine W.ret (W.retc1 rfl rfl (ldRow hkw151 underlying31 rfl isz31)  ?_)
 exact ⟨_, rfl, pc0 0 0 [], pv0 0 0 [], t0, 25, rfl, PRep.zero _ _ _ _ _, ⟨hk152, hv153⟩, hB154, by
  rw [hX, if_pos oO]; rfl, by omega⟩
 have h145' := dF h145
 refine W.skip <| W.sr <| WL.m rfl rfl <| WL.p (.nck rfl) rfl <| WL.p (.fa underlying69 rfl sizeOf3 dD rfl) rfl <| WL.r (Rd.ld (isAgg3 _) rfl hrd.1 rfl) rfl <| WL.p (.iis (((t0 + 1 : Nat) : Int)) (.add rfl rfl (i64w oO)) oO) rfl <| WL.p (.nck rfl) rfl <| WL.p (.fa underlying69 rfl sizeOf3 dD rfl) rfl <| WL.st sizeOf3 rfl rfl rfl hrd.1 oD (fun w155 hkw155 huw155 hsw155 => ?_)
 have hkw155 : Blk w155 r _ _ := hkw155
 have huw155 : Upd r _ _ := huw155
 have hk156 := hk1.up huw155
 have hv157 := BytesAt.upd hrd.2 huw155 hne
 have hB158 := Touch.trans hT (Touch.of_upd huw155)
 refine WL.nil <| ?_
 refine W.sr <| WL.m rfl rfl <| WL.m rfl rfl <| WL.p (.sub rfl rfl (i64w oO)) rfl <| WL.call hb76 rfl rfl ((r18_list p l c refs (D - 1) (hO oO) (objP_adv refs l _) r (t0 + 1) _ ⟨hkw155, hv157⟩ hne hl oO)) (fun xv w159 hw159 => ?_)
 obtain ⟨x1, oX, tX, eX, rfl, hpx, hrd1, hT1, hres, htX⟩ := hw159
 have hpx1 := hpx.mono (T := fun k => b1 < k ∧ w.heap.size ≤ k) (fun k hk _ => by have h1 := (hk156).lt; have h2 := hB158.size; omega)
 have hk11 := Blk.touch hk156 hT1 (hk156).lt oO
 have hB1 := Touch.trans hB158 (Touch.mono hT1 hB158.size)
 have hr1 := hrd1.1
 have hv1 := hrd1.2
 refine WL.stL rfl rfl hk11 isz31 rfl rfl (fun w160 hkw160 huw160 hsw160 => ?_)
 have hF161 := PRep.same (w1 := w160) hpx1 (fun k hk hl => huw160.other k (by first | ((try simp only) <;> omega) | (have := hk.1; ((try simp only) <;> omega))))
 have hk162 := hr1.upd huw160 oM
 have hv163 := bup hv1 huw160 hvl5
 have hB164 := Touch.trans hB1 (Touch.of_new huw160 oO)
 refine WL.nil <| ?_
 refine W.ret (W.retc1 rfl rfl (ldRow hkw160 underlying31 rfl isz31)  ?_)
 exact ⟨_, rfl, x1, oX, tX, eX, rfl, (hF161).mono (fun k hk _ => hk.2), ⟨hk162, hv163⟩, hB164, by
  rw [hX, if_neg oO, hres], htX⟩
 have h144' := dF h144
 have h91 : l[t0] ≠ 91 := u8_ne (d := 91) aS
 rw [if_neg h91, if_neg h40, if_neg h60] at hX
 refine W.skip <| W.sr <| WL.m rfl rfl <| WL.c1 hb49 rfl rfl ((hPc _ ⟨hrd.1, hrd.2⟩)) (fun w165 hw165 => ?_)
 have hk166 := hw165.1.1
 have hk167 := Blk.touch hk1 hw165.2 hk1.lt oO
 have hv168 := hw165.1.2
 have hB169 := Touch.trans hT (Touch.mono hw165.2 hT.size)
 refine WL.m rfl rfl <| WL.p (.ext rfl rfl) rfl <| WL.p (.ext rfl rfl) rfl <| WL.p (.ext rfl rfl) rfl <| WL.alloc zeroValue31 rfl (fun b170 wb170 eb170 hkb170 hub170 hsb170 => ?_)
 have hl172 : r < b170 := by rw [eb170]; exact hk166.lt
 have hk171 := hk166.upd hub170 (Nat.ne_of_lt hl172)
 have hl174 : b1 < b170 := by rw [eb170]; exact hk167.lt
 have hk173 := hk167.upd hub170 (Nat.ne_of_lt hl174)
 have hvl176 := fun h0 => eb170 ▸ hv168.lt h0
 have hv175 := bup hv168 hub170 hvl176
 have hgeb170 : w.heap.size ≤ b170 := by rw [eb170]; exact hB169.size
 have hB177 := Touch.trans hB169 (Touch.of_new hub170 hgeb170)
 refine WL.stL rfl rfl hkb170 isz31 rfl rfl (fun w178 hkw178 huw178 hsw178 => ?_)
 have hk179 := hk171.up huw178
 have hk180 := hk173.up huw178
 have hv181 := bup hv175 huw178 hvl176
 have hB182 := Touch.trans hB177 (Touch.of_new huw178 oO)
 refine WL.a rfl rfl <| WL.z rfl rfl ?_
 refine W.seq <| W.sr <| WL.m rfl rfl <| WL.p (.not rfl) rfl <| WL.nil <| ?_
 refine W.cond rfl (fun h183 => ?_) (fun h183 => ?_)
 have h183' := (nT h183)
 refine W.sr <| WL.m rfl rfl <| WL.c1 hb74 rfl rfl ((r18_fail r p l c _ refs 0 23 _ ⟨hk179, hv181⟩ hne)) (fun w184 hw184 => ?_)
 have hk185 := hw184.1.1
 have hk186 := Blk.touch hk180 hw184.2 hk180.lt oO
 have hv188 := hw184.1.2
 have hB189 := Touch.trans hB182 (Touch.mono hw184.2 hB182.size)
 refine WL.stL rfl rfl hk186 isz31 rfl rfl (fun w190 hkw190 huw190 hsw190 => ?_)
 have hk191 := hk185.up huw190
 have hv193 := bup hv188 huw190 hvl5
 have hB194 := Touch.trans hB189 (Touch.of_new huw190 oO)
 refine WL.nil <| ?_
 refine W.ret (W.retc1 rfl rfl (ldRow hkw190 underlying31 rfl isz31)  ?_)
 exact ⟨_, rfl, pc0 0 0 [], pv0 0 0 [], Wd.np, 23, rfl, PRep.zero _ _ _ _ _, ⟨hk191, hv193⟩, hB194, by
  rw [hX]; unfold plainO; rw [if_neg (bF aS)]; rfl, hWn⟩
 have h183' := (nF h183)
 refine W.skip <| W.sr <| WL.r (Rd.ldA rfl hkw178 underlying31 rfl isz31) rfl <| WL.stL rfl rfl hk180 isz31 rfl rfl (fun w195 hkw195 huw195 hsw195 => ?_)
 have hk196 := hk179.up huw195
 have hv198 := bup hv181 huw195 hvl5
 have hB199 := Touch.trans hB182 (Touch.of_new huw195 oO)
 refine WL.nil <| ?_
 refine W.ret (W.retc1 rfl rfl (ldRow hkw195 underlying31 rfl isz31)  ?_)
 exact ⟨_, rfl, pc0 Wd.kind Wd.n [], pv0 Wd.kind Wd.n [], Wd.np, 0, rfl, PRep.zero _ _ _ _ _, ⟨hk196, hv198⟩, hB199, by
  rw [hX]; unfold plainO; rw [if_pos aS]; rfl, hWn⟩
end
section
theorem W.retc4 {P : Program} {fn : Func} {R : Ending → World → Prop} {f : Fr} {w : World} {t u s q : Tmp} {ty : TypeId} {b : Addr} {v x y z : Value} (hr : fn.results = #[.cell t ty, .tmp u, .tmp s, .tmp q])
  (ht : look f t = some (.pointer (some b))) (hv : (loadVar ty b).run P w = .ok v w) (hx : look f u = some x) (hy : look f s = some y) (hz : look f q = some z)
  (h : R (.returned (.tuple #[v, x, y, z])) w) : Post P fn R .ret f w := by
 unfold Post
 exact ⟨_, fun tmps hh => by
  have e1 := hh _ _ ht; have e2 := hh _ _ hx; have e3 := hh _ _ hy; have e4 := hh _ _ hz
  simp only [Array.getD_eq_getD_getElem?] at e1 e2 e3 e4
  simp [results, hr, e1, e2, e3, e4, asAddr, hv], h⟩
theorem RObjC_all (p : Option Addr) (l : List UInt8) (c : Nat) (refs : Bool) (hc : l.length ≤ c) (hl : l.length ≤ 100000000) : ∀ (n : Nat) (D : Int), D.toNat ≤ n → -9223372036854775808 < D ∧ D ≤ 1000000000 → RObjC p l c refs D
 | 0, D, hn, hD => r18_object p l c refs hc hl D hD fun h => by omega
 | n + 1, D, hn, hD => r18_object p l c refs hc hl D hD fun h => RObjC_all p l c refs hc hl n (D - 1) oO oO
theorem plexW_bad {refs : Bool} {l : List UInt8} {t : Nat} (h : (plexW refs l t).ok = false) : (plexW refs l t).kind = 0 ∧ (plexW refs l t).n = 0 := by
 unfold plexW at h ⊢
 split
 ·
  next hc => rw [if_pos hc] at h; cases h
 ·
  next hc =>
  rw [if_neg hc] at h
  split
  ·
   next hc => rw [if_pos hc] at h; cases h
  ·
   next hc =>
   rw [if_neg hc] at h
   split
   ·
    next hc => rw [if_pos hc] at h; cases h
   ·
    next hc =>
    rw [if_neg hc] at h
    split
    ·
     next hc => rw [if_pos hc] at h; cases h
    ·
     next hc =>
     rw [if_neg hc] at h
     split
     ·
      next hc => rw [if_pos hc] at h; cases h
     ·
      exact ⟨rfl, rfl⟩
theorem r18_Token (p : Option Addr) (l : List UInt8) (c : Nat) (a : Int) (w : World) (hb : BytesAt w p l) (hc : l.length ≤ c) (hl : l.length ≤ 100000000) :
    Calls Tryz.prog 24 #[.slice p l.length c, .int .i64 a] w fun e w' => TokS w.heap.size (tokP l a) e w' ∧ Below w.heap.size w w' := by
  obtain ⟨R, hR⟩ : ∃ R, R = tokP l a := ⟨_, rfl⟩
  rw [← hR]
  unfold tokP at hR
  obtain ⟨t, ht⟩ : ∃ t, t = skipAt false l a.toNat := ⟨_, rfl⟩
  have hst : skipAt false l t = t := by rw [ht]; exact skipAt_idem l a.toNat
  have hSk : ¬ (a < 0 ∨ (l.length : Int) < a) → ∀ w1, BytesAt w1 p l → Calls Tryz.prog 14 #[.slice p l.length c, .int .i64 a] w1 fun e w' => e = .returned (.int .i64 (t : Int)) ∧ w1 = w' := fun h w1 h1 => by
    have := ref_Skip p l c a.toNat w1 h1 oO hl
    rw [show ((a.toNat : Nat) : Int) = a by omega, ← ht] at this
    exact this
  have htl : t ≤ l.length := by rw [ht]; exact skipAt_le _ _ _
  rw [← ht] at hR
  obtain ⟨X, hX⟩ : ∃ X, X = plexW false l t := ⟨_, rfl⟩
  rw [← hX] at hR
  have hWc : ∀ r w1, RRd w1 r p l c t false 0 → (0 < l.length → (pA p).block ≠ r) → Calls Tryz.prog 49 #[.pointer (some ⟨r, 0, none⟩)] w1 fun e w' => e = .returned X.val ∧ RRd w' r p l c X.np false 0 ∧ Touch w1.heap.size r w1 w' := fun r w1 h1 h2 => by rw [hX]; exact r18_plain r p l c t false w1 h1 h2 hc hl htl hst
  refine W.enter func24 rfl ntmps24 (Nat.le_of_ble_eq_true rfl) ?_
  have hB0 := Below.refl (w.heap.size) w
  refine W.sr <| WL.alloc zeroValue31 rfl (fun b1 wb1 eb1 hkb1 hub1 hsb1 => ?_)
  have hvl3 := fun h0 => eb1 ▸ hb.lt h0
  have hv2 := bup hb hub1 hvl3
  have hB4 := Upd.below hB0 (by rw [eb1]; exact hB0.size) hub1
  have hgeb1 : w.heap.size ≤ b1 := by rw [eb1]; exact hB0.size
  refine WL.a rfl rfl <| WL.a rfl rfl <| WL.z rfl rfl ?_
  refine W.seq ?_
  refine W.cutB 20 (decide (a < 0 ∨ (l.length : Int) < a)) ?_ ?_
  refine W.reg <| WL.m rfl rfl <| WL.p (.lss rfl rfl) rfl <| WL.m rfl rfl <| WL.gd rfl rfl rfl (fun g5 => ?_) (fun g5 => ?_)
  · have g5' := dF g5
    refine WL.m rfl rfl <| WL.gy rfl rfl rfl g5 <| WL.m rfl rfl <| WL.gy rfl rfl rfl g5 <| WL.p (.lenS underlying22 rfl) rfl <| WL.gy rfl rfl rfl g5 <| WL.p (.gtr rfl rfl) rfl <| WL.p (.pkF rfl g5 rfl) rfl <| WL.nil <| ?_
    exact ⟨leF rfl, rfl⟩
  have g5' := dT g5
  refine WL.gn rfl rfl rfl g5 <| WL.gn rfl rfl rfl g5 <| WL.gn rfl rfl rfl g5 <| WL.p (.pkT rfl g5 rfl) rfl <| WL.nil <| ?_
  exact ⟨leF rfl, rfl⟩
  refine W.cond rfl (fun h6 => ?_) (fun h6 => ?_)
  · have h6' := dT h6
    rw [if_pos aS] at hR
    subst hR
    refine W.sr <| WL.p (.buildL (ps := _) blt31 rfl rfl rfl pZ) rfl ?_
    refine WL.stL rfl rfl hkb1 isz31 rfl rfl (fun w7 hkw7 huw7 hsw7 => ?_)
    have hB9 := Upd.below hB4 oO huw7
    refine WL.a rfl rfl <| WL.a rfl rfl <| WL.z rfl rfl ?_
    refine W.ret (W.retc4 rfl rfl (ldRow hkw7 underlying31 rfl isz31) rfl rfl rfl ?_)
    exact ⟨⟨pc0 0 0 [], ret_val rfl, PRep.zero _ _ _ _ _⟩, hB9⟩
  have h6' := dF h6
  rw [if_neg aS] at hR
  refine W.skip <| W.sr <| WL.m rfl rfl <| WL.m rfl rfl <| WL.c1 hb14 rfl rfl ((hSk aS _ hv2)) (fun w10 hw10 => ?_)
  obtain rfl := hw10
  refine WL.z rfl rfl ?_
  refine W.seq <| W.sr <| WL.m rfl rfl <| WL.m rfl rfl <| WL.p (.lenS underlying22 rfl) rfl <| WL.p (.geq rfl rfl) rfl <| WL.nil <| ?_
  refine W.cond rfl (fun h11 => ?_) (fun h11 => ?_)
  · have h11' := dT h11
    rw [dif_neg oO] at hR
    subst hR
    refine W.sr <| WL.p (.buildL (ps := _) blt31 rfl rfl rfl pZ) rfl ?_
    refine WL.stL rfl rfl hkb1 isz31 rfl rfl (fun w12 hkw12 huw12 hsw12 => ?_)
    have hB14 := Upd.below hB4 oO huw12
    refine WL.a rfl rfl <| WL.a rfl rfl <| WL.z rfl rfl ?_
    refine W.ret (W.retc4 rfl rfl (ldRow hkw12 underlying31 rfl isz31) rfl rfl rfl ?_)
    exact ⟨⟨pc0 0 0 [], ret_val rfl, PRep.zero _ _ _ _ _⟩, hB14⟩
  have h11' := dF h11
  have htlt : t < l.length := by omega
  rw [dif_pos htlt] at hR
  refine W.skip <| W.sr <| WL.m rfl rfl <| WL.m rfl rfl <| ?_
  refine WL.p (.buildL (ps := _) blt69 rfl rfl rfl pS) rfl ?_
  refine WL.box rfl rfl (fun b15 wb15 eb15 hkb15 hub15 hsb15 => ?_)
  have hl17 : b1 < b15 := by rw [eb15]; exact hkb1.lt
  have hk16 := hkb1.upd hub15 (Nat.ne_of_lt hl17)
  have hvl19 := fun h0 => eb15 ▸ hv2.lt h0
  have hv18 := bup hv2 hub15 hvl19
  have hB20 := Upd.below hB4 (by rw [eb15]; exact hB4.size) hub15
  have hgeb15 : w.heap.size ≤ b15 := by rw [eb15]; exact hB4.size
  refine WL.z rfl rfl ?_
  refine W.seq <| W.sr <| WL.m rfl rfl <| WL.m rfl rfl <| WL.p (.ixb underlying22 sizeOf5 rfl rfl (hv18.isp oO) (t) (rfl) (htlt)) rfl <| WL.r (Rd.ldc (isAgg5 _) rfl (hv18.cells (t) oO)) rfl <| WL.c1 hb33 rfl rfl ((ref_Regular _ _)) (fun w21 hw21 => ?_)
  obtain rfl := hw21
  refine WL.nil <| ?_
  refine W.cond rfl (fun h22 => ?_) (fun h22 => ?_)
  refine W.sr <| WL.m rfl rfl <| WL.c1 hb49 rfl rfl ((hWc b15 _ ⟨hkb15, hv18⟩ (fun h0 => by have := hb.lt h0; omega))) (fun w23 hw23 => ?_)
  have hk24 := Blk.touch hk16 hw23.2 hk16.lt oO
  have hk25 := hw23.1.1
  have hB27 := Below.trans hB20 (Touch.below hw23.2 hB20.size oO)
  rw [if_pos aS] at hR
  subst hR
  refine WL.m rfl rfl <| WL.p (.ext rfl rfl) rfl <| WL.p (.ext rfl rfl) rfl <| WL.p (.ext rfl rfl) rfl <| WL.alloc zeroValue31 rfl (fun b28 wb28 eb28 hkb28 hub28 hsb28 => ?_)
  have hl30 : b1 < b28 := by rw [eb28]; exact hk24.lt
  have hk29 := hk24.upd hub28 (Nat.ne_of_lt hl30)
  have hl32 : b15 < b28 := by rw [eb28]; exact hk25.lt
  have hk31 := hk25.upd hub28 (Nat.ne_of_lt hl32)
  have hB35 := Upd.below hB27 (by rw [eb28]; exact hB27.size) hub28
  have hgeb28 : w.heap.size ≤ b28 := by rw [eb28]; exact hB27.size
  refine WL.stL rfl rfl hkb28 isz31 rfl rfl (fun w36 hkw36 huw36 hsw36 => ?_)
  have hk37 := hk29.up huw36
  have hk38 := hk31.up huw36
  have hB40 := Upd.below hB35 oO huw36
  refine WL.a rfl rfl <| WL.z rfl rfl ?_
  refine W.seq <| W.sr <| WL.m rfl rfl <| WL.nil <| ?_
  refine W.cond rfl (fun h41 => ?_) (fun h41 => ?_)
  refine W.seq <| W.regY 9 rfl mixed (fun w42 dw42 => ?_)
  have hk43 := hk37.drew dw42
  have hk44 := hk38.drew dw42
  have hk45 := hkw36.drew dw42
  have hB47 := Drew.below hB40 dw42
  refine WY.tk 1 rfl (.mv rfl) rfl ?_
  refine WY.tk 2 rfl (.nck rfl) rfl ?_
  refine WY.tk 3 rfl (.fa underlying69 rfl sizeOf3 dD rfl) rfl ?_
  refine WY.br2 0 rfl 4 rfl ?_ ?_
  refine WL.r (Rd.ldA rfl hk45 underlying31 rfl isz31) rfl <| WL.nil <| ?_
  refine WY.br2 4 rfl 5 rfl ?_ ?_
  refine WL.r (Rd.ld (isAgg3 _) rfl hk44 rfl) rfl <| WL.nil <| ?_
  refine WY.br1 5 rfl ?_
  refine WL.stL rfl rfl hk43 isz31 rfl rfl (fun w48 hkw48 huw48 hsw48 => ?_)
  have hB52 := Upd.below hB47 oO huw48
  refine WL.nil <| ?_
  refine WY.tk 6 rfl (.as rfl) rfl ?_
  refine WY.tk 7 rfl (.as rfl) rfl ?_
  refine WY.tk 8 rfl (.as rfl) rfl ?_
  refine WY.done kR ?_
  refine W.ret (W.retc4 rfl rfl (ldRow hkw48 underlying31 rfl isz31) rfl rfl rfl ?_)
  exact ⟨⟨pc0 X.kind X.n [], ret_val (by rw [show X.ok = true by assumption]; rfl), PRep.zero _ _ _ _ _⟩, hB52⟩
  refine WL.stL rfl rfl hk43 isz31 rfl rfl (fun w53 hkw53 huw53 hsw53 => ?_)
  have hk54 := hk44.up huw53
  have hB57 := Upd.below hB47 oO huw53
  refine WL.nil <| ?_
  refine WY.tk 6 rfl (.as rfl) rfl ?_
  refine WY.br1 4 rfl ?_
  refine WL.r (Rd.ld (isAgg3 _) rfl hk54 rfl) rfl <| WL.nil <| ?_
  refine WY.tk 7 rfl (.as rfl) rfl ?_
  refine WY.tk 8 rfl (.as rfl) rfl ?_
  refine WY.done kR ?_
  refine W.ret (W.retc4 rfl rfl (ldRow hkw53 underlying31 rfl isz31) rfl rfl rfl ?_)
  exact ⟨⟨pc0 X.kind X.n [], ret_val (by rw [show X.ok = true by assumption]; rfl), PRep.zero _ _ _ _ _⟩, hB57⟩
  refine WL.r (Rd.ld (isAgg3 _) rfl hk44 rfl) rfl <| WL.nil <| ?_
  refine WY.br1 0 rfl ?_
  refine WL.r (Rd.ldA rfl hk45 underlying31 rfl isz31) rfl <| WL.nil <| ?_
  refine WY.br1 5 rfl ?_
  refine WL.stL rfl rfl hk43 isz31 rfl rfl (fun w58 hkw58 huw58 hsw58 => ?_)
  have hB62 := Upd.below hB47 oO huw58
  refine WL.nil <| ?_
  refine WY.tk 6 rfl (.as rfl) rfl ?_
  refine WY.tk 7 rfl (.as rfl) rfl ?_
  refine WY.tk 8 rfl (.as rfl) rfl ?_
  refine WY.done kR ?_
  refine W.ret (W.retc4 rfl rfl (ldRow hkw58 underlying31 rfl isz31) rfl rfl rfl ?_)
  exact ⟨⟨pc0 X.kind X.n [], ret_val (by rw [show X.ok = true by assumption]; rfl), PRep.zero _ _ _ _ _⟩, hB62⟩
  refine W.skip <| W.seq <| W.regY 10 rfl mixed (fun w63 dw63 => ?_)
  have hk64 := hk37.drew dw63
  have hk65 := hk38.drew dw63
  have hB68 := Drew.below hB40 dw63
  refine WY.tk 0 rfl (.buildL (ps := _) blt31 rfl rfl rfl pZ) rfl ?_
  refine WY.tk 1 rfl (.mv rfl) rfl ?_
  refine WY.tk 2 rfl (.mv rfl) rfl ?_
  refine WY.tk 3 rfl (.nck rfl) rfl ?_
  refine WY.tk 4 rfl (.fa underlying69 rfl sizeOf3 dD rfl) rfl ?_
  refine WY.br2 5 rfl 6 rfl ?_ ?_
  refine WL.r (Rd.ld (isAgg3 _) rfl hk65 rfl) rfl <| WL.nil <| ?_
  refine WY.br1 6 rfl ?_
  refine WL.stL rfl rfl hk64 isz31 rfl rfl (fun w69 hkw69 huw69 hsw69 => ?_)
  have hB73 := Upd.below hB68 oO huw69
  refine WL.nil <| ?_
  refine WY.tk 7 rfl (.as rfl) rfl ?_
  refine WY.tk 8 rfl (.as rfl) rfl ?_
  refine WY.tk 9 rfl (.as rfl) rfl ?_
  refine WY.done kR ?_
  refine W.ret (W.retc4 rfl rfl (ldRow hkw69 underlying31 rfl isz31) rfl rfl rfl ?_)
  (have hbad : X.kind = 0 ∧ X.n = 0 := by rw [hX]; exact plexW_bad (by rw [← hX]; assumption)
   exact ⟨⟨pc0 X.kind X.n [], ret_val (by rw [show X.ok = false by assumption, hbad.1, hbad.2]; rfl), PRep.zero _ _ _ _ _⟩, hB73⟩)
  refine WL.stL rfl rfl hk64 isz31 rfl rfl (fun w74 hkw74 huw74 hsw74 => ?_)
  have hk75 := hk65.up huw74
  have hB78 := Upd.below hB68 oO huw74
  refine WL.nil <| ?_
  refine WY.tk 7 rfl (.as rfl) rfl ?_
  refine WY.br1 5 rfl ?_
  refine WL.r (Rd.ld (isAgg3 _) rfl hk75 rfl) rfl <| WL.nil <| ?_
  refine WY.tk 8 rfl (.as rfl) rfl ?_
  refine WY.tk 9 rfl (.as rfl) rfl ?_
  refine WY.done kR ?_
  refine W.ret (W.retc4 rfl rfl (ldRow hkw74 underlying31 rfl isz31) rfl rfl rfl ?_)
  (have hbad : X.kind = 0 ∧ X.n = 0 := by rw [hX]; exact plexW_bad (by rw [← hX]; assumption)
   exact ⟨⟨pc0 X.kind X.n [], ret_val (by rw [show X.ok = false by assumption, hbad.1, hbad.2]; rfl), PRep.zero _ _ _ _ _⟩, hB78⟩)
  refine W.skip <| W.sr <| WL.m rfl rfl <| WL.call hb46 rfl rfl ((RObjC_all p l c false hc hl 32 32 dD dD b15 t _ ⟨hkb15, hv18⟩ (fun h0 => by have := hb.lt h0; omega) htlt hst)) (fun xv w79 hw79 => ?_)
  obtain ⟨x1, oX, tX, eX, rfl, hpx, hrd1, hT1, hres, htX⟩ := hw79
  have hpx1 := hpx.mono (T := fun k => (b15 < k ∧ k < w79.heap.size) ∧ w.heap.size ≤ k) (fun k hk hlt => by have h1 := (hkb15).lt; have h2 := hB20.size; omega)
  have hk41 := Blk.touch hk16 hT1 (hk16).lt oO
  have hB1 := Below.trans hB20 (Touch.below hT1 hB20.size oO)
  have hr1 := hrd1.1
  rw [if_neg (bF aS), show objP false l 32 t = _ from hres] at hR
  refine WL.alloc zeroValue31 rfl (fun b80 wb80 eb80 hkb80 hub80 hsb80 => ?_)
  have hF81 := PRep.same (w1 := wb80) hpx1 (fun k hk hl => hub80.other k oO)
  have hl83 : b1 < b80 := by rw [eb80]; exact hk41.lt
  have hk82 := hk41.upd hub80 (Nat.ne_of_lt hl83)
  have hl85 : b15 < b80 := by rw [eb80]; exact hr1.lt
  have hk84 := hr1.upd hub80 (Nat.ne_of_lt hl85)
  have hB88 := Upd.below hB1 (by rw [eb80]; exact hB1.size) hub80
  have hgeb80 : w.heap.size ≤ b80 := by rw [eb80]; exact hB1.size
  refine WL.stL rfl rfl hkb80 isz31 rfl rfl (fun w89 hkw89 huw89 hsw89 => ?_)
  have hF90 := PRep.same (w1 := w89) hF81 (fun k hk hl => huw89.other k (by first | ((try simp only) <;> omega) | (have := hk.1; ((try simp only) <;> omega))))
  have hk91 := hk82.up huw89
  have hk92 := hk84.up huw89
  have hB94 := Upd.below hB88 oO huw89
  refine WL.nil <| ?_
  refine W.seq <| W.sr <| WL.m rfl rfl <| WL.p (.nck rfl) rfl <| WL.p (.fa underlying69 rfl sizeOf35 dD rfl) rfl <| WL.r (Rd.ld (isAgg35 _) rfl hk92 rfl) rfl <| WL.p (.neq rfl rfl) rfl <| WL.nil <| ?_
  refine W.cond rfl (fun h95 => ?_) (fun h95 => ?_)
  · have h95' := ndT h95
    refine W.seq <| W.regY 9 rfl mixed (fun w96 dw96 => ?_)
    have hk98 := hk91.drew dw96
    have hk99 := hk92.drew dw96
    have hB102 := Drew.below hB94 dw96
    refine WY.tk 0 rfl (.buildL (ps := _) blt31 rfl rfl rfl pZ) rfl ?_
    refine WY.tk 1 rfl (.mv rfl) rfl ?_
    refine WY.tk 2 rfl (.nck rfl) rfl ?_
    refine WY.tk 3 rfl (.fa underlying69 rfl sizeOf35 dD rfl) rfl ?_
    refine WY.br2 4 rfl 5 rfl ?_ ?_
    refine WL.r (Rd.ld (isAgg35 _) rfl hk99 rfl) rfl <| WL.nil <| ?_
    refine WY.br1 5 rfl ?_
    refine WL.stL rfl rfl hk98 isz31 rfl rfl (fun w103 hkw103 huw103 hsw103 => ?_)
    have hB108 := Upd.below hB102 oO huw103
    refine WL.nil <| ?_
    refine WY.tk 6 rfl (.as rfl) rfl ?_
    refine WY.tk 7 rfl (.as rfl) rfl ?_
    refine WY.tk 8 rfl (.as rfl) rfl ?_
    refine WY.done kR ?_
    refine W.ret (W.retc4 rfl rfl (ldRow hkw103 underlying31 rfl isz31) rfl rfl rfl ?_)
    (rw [resOf_bad aS] at hR; subst hR; exact ⟨⟨pc0 0 0 [], ret_val rfl, PRep.zero _ _ _ _ _⟩, hB108⟩)
    refine WL.stL rfl rfl hk98 isz31 rfl rfl (fun w109 hkw109 huw109 hsw109 => ?_)
    have hk111 := hk99.up huw109
    have hB114 := Upd.below hB102 oO huw109
    refine WL.nil <| ?_
    refine WY.tk 6 rfl (.as rfl) rfl ?_
    refine WY.tk 7 rfl (.as rfl) rfl ?_
    refine WY.br1 4 rfl ?_
    refine WL.r (Rd.ld (isAgg35 _) rfl hk111 rfl) rfl <| WL.nil <| ?_
    refine WY.tk 8 rfl (.as rfl) rfl ?_
    refine WY.done kR ?_
    refine W.ret (W.retc4 rfl rfl (ldRow hkw109 underlying31 rfl isz31) rfl rfl rfl ?_)
    (rw [resOf_bad aS] at hR; subst hR; exact ⟨⟨pc0 0 0 [], ret_val rfl, PRep.zero _ _ _ _ _⟩, hB114⟩)
  have h95' := ndF h95
  refine W.skip <| W.seq <| W.regY 9 rfl mixed (fun w115 dw115 => ?_)
  have hF116 := PRep.same (w1 := w115) hF90 (fun k hk hl => (by obtain ⟨m, rfl⟩ := dw115; rfl))
  have hk117 := hk91.drew dw115
  have hk118 := hk92.drew dw115
  have hk119 := hkw89.drew dw115
  have hB121 := Drew.below hB94 dw115
  refine WY.tk 1 rfl (.mv rfl) rfl ?_
  refine WY.tk 2 rfl (.nck rfl) rfl ?_
  refine WY.tk 3 rfl (.fa underlying69 rfl sizeOf3 dD rfl) rfl ?_
  refine WY.br2 0 rfl 4 rfl ?_ ?_
  refine WL.r (Rd.ldA rfl hk119 underlying31 rfl isz31) rfl <| WL.nil <| ?_
  refine WY.br2 4 rfl 5 rfl ?_ ?_
  refine WL.r (Rd.ld (isAgg3 _) rfl hk118 rfl) rfl <| WL.nil <| ?_
  refine WY.br1 5 rfl ?_
  refine WL.stL rfl rfl hk117 isz31 rfl rfl (fun w122 hkw122 huw122 hsw122 => ?_)
  have hF123 := PRep.same (w1 := w122) hF116 (fun k hk hl => huw122.other k (by first | ((try simp only) <;> omega) | (have := hk.1; ((try simp only) <;> omega))))
  have hB127 := Upd.below hB121 oO huw122
  refine WL.nil <| ?_
  refine WY.tk 6 rfl (.as rfl) rfl ?_
  refine WY.tk 7 rfl (.as rfl) rfl ?_
  refine WY.tk 8 rfl (.as rfl) rfl ?_
  refine WY.done kR ?_
  refine W.ret (W.retc4 rfl rfl (ldRow hkw122 underlying31 rfl isz31) rfl rfl rfl ?_)
  (rw [resOf_ok oO] at hR; subst hR; exact ⟨⟨x1, ret_val rfl, (hF123).mono (fun k hk _ => hk.2)⟩, hB127⟩)
  refine WL.stL rfl rfl hk117 isz31 rfl rfl (fun w128 hkw128 huw128 hsw128 => ?_)
  have hF129 := PRep.same (w1 := w128) hF116 (fun k hk hl => huw128.other k (by first | ((try simp only) <;> omega) | (have := hk.1; ((try simp only) <;> omega))))
  have hk130 := hk118.up huw128
  have hB133 := Upd.below hB121 oO huw128
  refine WL.nil <| ?_
  refine WY.tk 6 rfl (.as rfl) rfl ?_
  refine WY.br1 4 rfl ?_
  refine WL.r (Rd.ld (isAgg3 _) rfl hk130 rfl) rfl <| WL.nil <| ?_
  refine WY.tk 7 rfl (.as rfl) rfl ?_
  refine WY.tk 8 rfl (.as rfl) rfl ?_
  refine WY.done kR ?_
  refine W.ret (W.retc4 rfl rfl (ldRow hkw128 underlying31 rfl isz31) rfl rfl rfl ?_)
  (rw [resOf_ok oO] at hR; subst hR; exact ⟨⟨x1, ret_val rfl, (hF129).mono (fun k hk _ => hk.2)⟩, hB133⟩)
  refine WL.r (Rd.ld (isAgg3 _) rfl hk118 rfl) rfl <| WL.nil <| ?_
  refine WY.br1 0 rfl ?_
  refine WL.r (Rd.ldA rfl hk119 underlying31 rfl isz31) rfl <| WL.nil <| ?_
  refine WY.br1 5 rfl ?_
  refine WL.stL rfl rfl hk117 isz31 rfl rfl (fun w134 hkw134 huw134 hsw134 => ?_)
  have hF135 := PRep.same (w1 := w134) hF116 (fun k hk hl => huw134.other k (by first | ((try simp only) <;> omega) | (have := hk.1; ((try simp only) <;> omega))))
  have hB139 := Upd.below hB121 oO huw134
  refine WL.nil <| ?_
  refine WY.tk 6 rfl (.as rfl) rfl ?_
  refine WY.tk 7 rfl (.as rfl) rfl ?_
  refine WY.tk 8 rfl (.as rfl) rfl ?_
  refine WY.done kR ?_
  refine W.ret (W.retc4 rfl rfl (ldRow hkw134 underlying31 rfl isz31) rfl rfl rfl ?_)
  (rw [resOf_ok oO] at hR; subst hR; exact ⟨⟨x1, ret_val rfl, (hF135).mono (fun k hk _ => hk.2)⟩, hB139⟩)
end
section
theorem r01_Texts (p : Option Addr) (l : List (List UInt8)) (c : Nat) (q : Option Addr) (d : Nat) (w : World) (ha : RowAt strV w p l) (hb : RowAt strV w q l) (hl : l.length ≤ 9223372036854775807) :
  Calls Tryz.prog 44 #[.slice p l.length c, .slice q l.length d] w fun e w' => e = .returned (.bool true) ∧ Drew w w' := by
 refine W.enter func44 rfl ntmps44 (Nat.le_of_ble_eq_true rfl) ?_
 refine W.sr <| WL.z rfl rfl ?_
 refine W.seq <| W.sr <| WL.m rfl rfl <| WL.p (.lenS underlying28 rfl) rfl <| WL.m rfl rfl <| WL.p (.lenS underlying28 rfl) rfl <| WL.p (.neq rfl rfl) rfl <| WL.nil <| ?_
 refine W.cond rfl (fun h1 => ?_) (fun h1 => ?_)
 have h1' := ndT h1
 omega
 have h1' := ndF h1
 refine W.skip <| W.seq <| W.sr <| WL.z rfl rfl ?_
 refine W.block ?_
 refine W.loop (α := Nat) (fun t => [(0, .slice p l.length c), (1, .slice q l.length d), (5, .int .i64 (t : Int))]) (fun t w' => Drew w w' ∧ t ≤ l.length) (fun t => l.length - t) (0) ⟨rfl, rfl, rfl, trivial⟩ (⟨Drew.refl _, Nat.zero_le _⟩) (fun t w1 hR => ?_)
 obtain ⟨hD, ht⟩ := hR
 have ha1 := ha.drew hD
 have hb1 := hb.drew hD
 refine W.seq <| W.sr <| WL.m rfl rfl <| WL.m rfl rfl <| WL.p (.lenS underlying28 rfl) rfl <| WL.p (.lss rfl rfl) rfl <| WL.nil <| ?_
 refine W.cond rfl (fun h2 => ?_) (fun h2 => ?_)
 have h2' := dT h2
 refine W.skip <| W.seq <| W.block <| W.seq <| W.regQ mixed kR ?_
 refine WQ.p (.mv rfl) rfl <| WQ.p (.mv rfl) rfl <| WQ.p (.ixb underlying28 sizeOf9 rfl rfl (ha1.isp oO) (t) oO oO) rfl <| WQ.r (fun m => Rd.ldc (isAgg9 _) rfl ((ha1.drewN m).cells (t) oO)) rfl <| WQ.p (.mv rfl) rfl <| WQ.p (.mv rfl) rfl <| WQ.p (.ixb underlying28 sizeOf9 rfl rfl (hb1.isp oO) (t) oO oO) rfl <| WQ.r (fun m => Rd.ldc (isAgg9 _) rfl ((hb1.drewN m).cells (t) oO)) rfl <| WQ.p (.nes rfl rfl) rfl <| WQ.nil (fun w3 dw3 => ?_)
 refine W.cond rfl (fun h6 => ?_) (fun h6 => ?_)
 have h6' := ndT h6
 contradiction
 have h6' := ndF h6
 refine W.skip <| W.reg <| WL.m rfl rfl <| WL.p (.iis (((t + 1 : Nat) : Int)) (.add rfl rfl (i64w oO)) oO) rfl <| WL.z rfl rfl ?_
 exact ⟨t + 1, ⟨rfl, rfl, rfl, trivial⟩, ⟨hD.trans dw3, by omega⟩, by omega⟩
 have h2' := dF h2
 refine W.exit <| W.sr <| WL.z rfl rfl ?_
 refine W.ret (W.ret1 rfl rfl ?_)
 exact ⟨rfl, hD⟩
theorem r01_Same0 (w : World) :
  Calls Tryz.prog 45 #[.slice none 0 0, .slice none 0 0] w fun e w' => e = .returned (.bool true) ∧ Drew w w' := by
 refine W.enter func45 rfl ntmps45 (Nat.le_of_ble_eq_true rfl) ?_
 refine W.sr <| WL.z rfl rfl ?_
 refine W.seq <| W.sr <| WL.m rfl rfl <| WL.p (.lenS underlying22 rfl) rfl <| WL.m rfl rfl <| WL.p (.lenS underlying22 rfl) rfl <| WL.p (.neq rfl rfl) rfl <| WL.nil <| ?_
 refine W.cond rfl (fun h1 => ?_) (fun h1 => ?_)
 have h1' := ndT h1
 exact absurd (show ((0 : Int) = 0) from rfl) aS
 have h1' := ndF h1
 refine W.skip <| W.seq <| W.sr <| WL.z rfl rfl ?_
 refine W.block ?_
 refine W.loop (α := Unit) (fun t => [(0, .slice none 0 0), (1, .slice none 0 0), (5, .int .i64 0)]) (fun t w' => w = w') (fun t => 0) (()) ⟨rfl, rfl, rfl, trivial⟩ (rfl) (fun t w1 hR => ?_)
 obtain rfl := hR
 refine W.seq <| W.sr <| WL.m rfl rfl <| WL.m rfl rfl <| WL.p (.lenS underlying22 rfl) rfl <| WL.p (.lss rfl rfl) rfl <| WL.nil <| ?_
 refine W.cond rfl (fun h2 => ?_) (fun h2 => ?_)
 have h2' := dT h2
 exact absurd (show ((0 : Int) < 0) by assumption) dD
 have h2' := dF h2
 refine W.exit <| W.sr <| WL.z rfl rfl ?_
 refine W.ret (W.ret1 rfl rfl ?_)
 exact ⟨rfl, Drew.refl _⟩
theorem PRep.inv {w : World} {S : Nat → Prop} {x : PC} {o : PV} (h : PRep w S x o) : ∃ (keys : List (List UInt8)) (list : List PV) (cs : List PC), o = .mk x.kind x.n x.text keys list ∧ StrsAt S w (.slice x.kp x.kl x.kc) keys ∧ RowIn S w (.slice x.lp x.ll x.lc) cs ∧ LInv w S cs list := by
 cases h with
 | mk x keys list cs hk hr hlen hsub => exact ⟨keys, list, cs, rfl, hk, hr, hlen, hsub⟩
theorem OwnM.lenQ {α : Type} {L : Lay α} {e : TypeId} {B n c : Nat} {w : World} {p : Option Addr} {l : List α} (h : OwnM L e B w (.slice p n c) l) : n = l.length ∧ l.length ≤ 9223372036854775807 := by
 obtain ⟨p', c', hv, -, -, hc, -, -, hm, -⟩ := h.row
 cases hv
 unfold maxLen at hm
 exact ⟨rfl, by omega⟩
theorem r18_Equal : ∀ (n : Nat) (o : PV), SizeOf.sizeOf o < n → ∀ (x y : PC) (S T : Nat → Prop) (w : World), PRep w S x o → PRep w T y o →
  Calls Tryz.prog 20 #[.agg (pcV x).toArray, .agg (pcV y).toArray] w fun e w' => e = .returned (.bool true) ∧ Below w.heap.size w w' := by
 intro n
 induction n with
 | zero => intro o h; omega
 | succ n ih =>
 intro o hn x y S T w hx hy
 obtain ⟨keys, list, cs, rfl, hk, hr, hs⟩ := hx.inv
 obtain ⟨keys', list', cs', he, hk', hr', hs'⟩ := hy.inv
 obtain ⟨k, i, s, kp, kl, kc, lp, ll, lc⟩ := x
 obtain ⟨k', i', s', kp', kl', kc', lp', ll', lc'⟩ := y
 simp only [PV.mk.injEq] at he hk hr hk' hr'
 obtain ⟨rfl, rfl, rfl, rfl, rfl⟩ := he
 obtain ⟨rfl, hkm⟩ := hk.1.lenQ
 obtain ⟨rfl, -⟩ := hk'.1.lenQ
 obtain ⟨rfl, hlm⟩ := hr.1.lenQ
 obtain ⟨rfl, -⟩ := hr'.1.lenQ
 simp only [PV.mk.sizeOf_spec] at hn
 have hsz : ∀ j (h : j < list.length), SizeOf.sizeOf list[j] < n := fun j h => by have := List.sizeOf_lt_of_mem (List.getElem_mem h); omega
 have hcl := hs.len
 have hcl' := hs'.len
 have hkx := hk.1.rowp.strs
 have hky := hk'.1.rowp.strs
 have hlx := hr.1.rowp
 have hly := hr'.1.rowp
 refine W.enter func20 rfl ntmps20 (Nat.le_of_ble_eq_true rfl) ?_
 have hB0 := Below.refl (w.heap.size) w
 refine W.sr <| WL.box rfl rfl (fun b1 wb1 eb1 hkb1 hub1 hsb1 => ?_)
 have hvl3 := fun h0 => eb1 ▸ hkx.lt h0
 have hv2 := RowAt.upd hkx hub1 (fun h0 => Nat.ne_of_lt (hvl3 h0))
 have hvl5 := fun h0 => eb1 ▸ hky.lt h0
 have hv4 := RowAt.upd hky hub1 (fun h0 => Nat.ne_of_lt (hvl5 h0))
 have hvl7 := fun h0 => eb1 ▸ hlx.lt h0
 have hv6 := RowM.upd hlx hub1 (fun h0 => Nat.ne_of_lt (hvl7 h0))
 have hvl9 := fun h0 => eb1 ▸ hly.lt h0
 have hv8 := RowM.upd hly hub1 (fun h0 => Nat.ne_of_lt (hvl9 h0))
 have hB10 := Upd.below hB0 (by rw [eb1]; exact hB0.size) hub1
 have hgeb1 : w.heap.size ≤ b1 := by rw [eb1]; exact hB0.size
 refine WL.box rfl rfl (fun b11 wb11 eb11 hkb11 hub11 hsb11 => ?_)
 have hl13 : b1 < b11 := by rw [eb11]; exact hkb1.lt
 have hk12 := hkb1.upd hub11 (Nat.ne_of_lt hl13)
 have hvl15 := fun h0 => eb11 ▸ hv2.lt h0
 have hv14 := RowAt.upd hv2 hub11 (fun h0 => Nat.ne_of_lt (hvl15 h0))
 have hvl17 := fun h0 => eb11 ▸ hv4.lt h0
 have hv16 := RowAt.upd hv4 hub11 (fun h0 => Nat.ne_of_lt (hvl17 h0))
 have hvl19 := fun h0 => eb11 ▸ hv6.lt h0
 have hv18 := RowM.upd hv6 hub11 (fun h0 => Nat.ne_of_lt (hvl19 h0))
 have hvl21 := fun h0 => eb11 ▸ hv8.lt h0
 have hv20 := RowM.upd hv8 hub11 (fun h0 => Nat.ne_of_lt (hvl21 h0))
 have hB22 := Upd.below hB10 (by rw [eb11]; exact hB10.size) hub11
 have hgeb11 : w.heap.size ≤ b11 := by rw [eb11]; exact hB10.size
 refine WL.z rfl rfl ?_
 refine W.seq <| W.sr <| WL.p (.fa underlying31 rfl sizeOf3 dD rfl) rfl <| WL.r (Rd.ld (isAgg3 _) rfl hk12 rfl) rfl <| WL.p (.fa underlying31 rfl sizeOf3 dD rfl) rfl <| WL.r (Rd.ld (isAgg3 _) rfl hkb11 rfl) rfl <| WL.p (.bis (false) (.neq rfl rfl) (by simp)) rfl <| WL.m rfl rfl <| WL.gy rfl rfl rfl rfl <| WL.p (.fa underlying31 rfl sizeOf3 dD rfl) rfl <| WL.gy rfl rfl rfl rfl <| WL.r (Rd.ld (isAgg3 _) rfl hk12 rfl) rfl <| WL.gy rfl rfl rfl rfl <| WL.p (.fa underlying31 rfl sizeOf3 dD rfl) rfl <| WL.gy rfl rfl rfl rfl <| WL.r (Rd.ld (isAgg3 _) rfl hkb11 rfl) rfl <| WL.gy rfl rfl rfl rfl <| WL.p (.bis (false) (.neq rfl rfl) (by simp)) rfl <| WL.p (.pkF rfl rfl rfl) rfl <| WL.m rfl rfl <| WL.gy rfl rfl rfl rfl <| WL.p (.fa underlying31 rfl sizeOf9 dD rfl) rfl <| WL.gy rfl rfl rfl rfl <| WL.r (Rd.ld (isAgg9 _) rfl hk12 rfl) rfl <| WL.gy rfl rfl rfl rfl <| WL.p (.fa underlying31 rfl sizeOf9 dD rfl) rfl <| WL.gy rfl rfl rfl rfl <| WL.r (Rd.ld (isAgg9 _) rfl hkb11 rfl) rfl <| WL.gy rfl rfl rfl rfl <| WL.p (.bis (false) (.nes rfl rfl) (by simp)) rfl <| WL.p (.pkF rfl rfl rfl) rfl <| WL.m rfl rfl <| WL.gy rfl rfl rfl rfl <| WL.p (.fa underlying31 rfl sizeOf28 dD rfl) rfl <| WL.gy rfl rfl rfl rfl <| WL.r (Rd.ld (isAgg28 _) rfl hk12 rfl) rfl <| WL.gy rfl rfl rfl rfl <| WL.p (.fa underlying31 rfl sizeOf28 dD rfl) rfl <| WL.gy rfl rfl rfl rfl <| WL.r (Rd.ld (isAgg28 _) rfl hkb11 rfl) rfl <| WL.gy rfl rfl rfl rfl <| WL.c1 hb44 rfl rfl ((r01_Texts _ _ _ _ _ _ hv14 hv16 hkm)) (fun w23 hw23 => ?_)
 have hk24 := hk12.drew hw23
 have hk25 := hkb11.drew hw23
 have hv28 := hv18.drew hw23
 have hv29 := hv20.drew hw23
 have hB30 := Drew.below hB22 hw23
 refine WL.gy rfl rfl rfl rfl <| WL.p (.not rfl) rfl <| WL.p (.pkF rfl rfl rfl) rfl <| WL.m rfl rfl <| WL.gy rfl rfl rfl rfl <| WL.p (.fa underlying31 rfl sizeOf22 dD rfl) rfl <| WL.gy rfl rfl rfl rfl <| WL.r (Rd.ld (isAgg22 _) rfl hk24 rfl) rfl <| WL.gy rfl rfl rfl rfl <| WL.p (.fa underlying31 rfl sizeOf22 dD rfl) rfl <| WL.gy rfl rfl rfl rfl <| WL.r (Rd.ld (isAgg22 _) rfl hk25 rfl) rfl <| WL.gy rfl rfl rfl rfl <| WL.c1 hb45 rfl rfl ((r01_Same0 _)) (fun w31 hw31 => ?_)
 have hk32 := hk24.drew hw31
 have hk33 := hk25.drew hw31
 have hv36 := hv28.drew hw31
 have hv37 := hv29.drew hw31
 have hB38 := Drew.below hB30 hw31
 refine WL.gy rfl rfl rfl rfl <| WL.p (.not rfl) rfl <| WL.p (.pkF rfl rfl rfl) rfl <| WL.m rfl rfl <| WL.gy rfl rfl rfl rfl <| WL.p (.fa underlying31 rfl sizeOf29 dD rfl) rfl <| WL.gy rfl rfl rfl rfl <| WL.r (Rd.ld (isAgg29 _) rfl hk32 rfl) rfl <| WL.gy rfl rfl rfl rfl <| WL.p (.lenS underlying29 rfl) rfl <| WL.gy rfl rfl rfl rfl <| WL.p (.fa underlying31 rfl sizeOf29 dD rfl) rfl <| WL.gy rfl rfl rfl rfl <| WL.r (Rd.ld (isAgg29 _) rfl hk33 rfl) rfl <| WL.gy rfl rfl rfl rfl <| WL.p (.lenS underlying29 rfl) rfl <| WL.gy rfl rfl rfl rfl <| WL.p (.bis (false) (.neq rfl rfl) (by simp; omega)) rfl <| WL.p (.pkF rfl rfl rfl) rfl <| WL.nil <| ?_
 refine W.condF rfl rfl ?_
 refine W.skip <| W.seq <| W.sr <| WL.z rfl rfl ?_
 refine W.block ?_
 obtain ⟨b3, hb3⟩ : ∃ b3, b3 = b11 := ⟨_, rfl⟩
 refine W.loop (α := Nat) (fun t => [(2, .pointer (some ⟨b1, 0, none⟩)), (3, .pointer (some ⟨b11, 0, none⟩)), (5, .int .i64 (t : Int))]) (fun t w' => Below w.heap.size w w' ∧ Blk w' b1 #[.int .i64 k, .int .i64 i, .string (bs s), .slice kp keys.length kc, .slice lp cs.length lc, .slice none 0 0] 31 ∧ Blk w' b11 #[.int .i64 k, .int .i64 i, .string (bs s), .slice kp' keys.length kc', .slice lp' cs'.length lc', .slice none 0 0] 31 ∧ RowM pcL w' lp cs ∧ RowM pcL w' lp' cs' ∧ LInv w' S cs list ∧ LInv w' T cs' list ∧ t ≤ cs.length) (fun t => cs.length - t) (0) ⟨rfl, rfl, rfl, trivial⟩ (⟨hB38, hk32, hk33, hv36, hv37, hs.same (fun k hk hl => (hB38).block k hl), hs'.same (fun k hk hl => (hB38).block k hl), Nat.zero_le _⟩) (fun t w1 hR => ?_)
 obtain ⟨hT1, hk1, hk2, hlx1, hly1, hf1, hf2, ht⟩ := hR
 refine W.seq <| W.sr <| WL.m rfl rfl <| WL.p (.fa underlying31 rfl sizeOf29 dD rfl) rfl <| WL.r (Rd.ld (isAgg29 _) rfl hk1 rfl) rfl <| WL.p (.lenS underlying29 rfl) rfl <| WL.p (.lss rfl rfl) rfl <| WL.nil <| ?_
 refine W.cond rfl (fun h39 => ?_) (fun h39 => ?_)
 have h39' := dT h39
 refine W.skip <| W.seq <| W.block <| W.seq <| W.regY 12 rfl mixed (fun w40 dw40 => ?_)
 have hF41 := LInv.same (w1 := w40) hf1 (fun k hk hl => (by obtain ⟨m, rfl⟩ := dw40; rfl))
 have hF42 := LInv.same (w1 := w40) hf2 (fun k hk hl => (by obtain ⟨m, rfl⟩ := dw40; rfl))
 have hk43 := hk1.drew dw40
 have hk44 := hk2.drew dw40
 have hv45 := hlx1.drew dw40
 have hv46 := hly1.drew dw40
 have hB47 := Drew.below hT1 dw40
 refine WY.tk 0 rfl (.fa underlying31 rfl sizeOf29 dD rfl) rfl ?_
 refine WY.tk 2 rfl (.mv rfl) rfl ?_
 refine WY.tk 5 rfl (.fa underlying31 rfl sizeOf29 dD rfl) rfl ?_
 refine WY.tk 7 rfl (.mv rfl) rfl ?_
 refine WY.br2 1 rfl 6 rfl ?_ ?_
 refine WL.r (Rd.ld (isAgg29 _) rfl hk43 rfl) rfl <| WL.nil <| ?_
 refine WY.tk 3 rfl (.ixm underlying29 sizeOf31 rfl rfl (hv45.isp oO) (t) (rfl) oO) rfl ?_
 refine WY.br2 4 rfl 6 rfl ?_ ?_
 refine WL.r (Rd.ldS underlying31 rfl isz31 hv45 (t) oO rfl) rfl <| WL.nil <| ?_
 refine WY.br1 6 rfl ?_
 refine WL.r (Rd.ld (isAgg29 _) rfl hk44 rfl) rfl <| WL.nil <| ?_
 refine WY.tk 8 rfl (.ixm underlying29 sizeOf31 rfl rfl (hv46.isp oO) (t) (rfl) oO) rfl ?_
 refine WY.br1 9 rfl ?_
 refine WL.r (Rd.ldS underlying31 rfl isz31 hv46 (t) oO rfl) rfl <| WL.nil <| ?_
 refine WY.br1 10 rfl ?_
 refine WL.c1 hb20 rfl rfl ((ih (list[t]'oO) (hsz t oO) _ _ S T _ ((hF41).sub t oO oO) ((hF42).sub t oO oO))) (fun w48 hw48 => ?_)
 have hF49 := LInv.same (w1 := w48) hF41 (fun k hk hl => hw48.block k hl)
 have hF50 := LInv.same (w1 := w48) hF42 (fun k hk hl => hw48.block k hl)
 have hk51 := hk43.below hw48 hk43.lt
 have hk52 := hk44.below hw48 hk44.lt
 have hv53 := RowM.below hv45 hw48 (fun h0 => hv45.lt h0)
 have hv54 := RowM.below hv46 hw48 (fun h0 => hv46.lt h0)
 have hB55 := btr hB47 hw48
 refine WL.nil <| ?_
 refine WY.tk 11 rfl (.not rfl) rfl ?_
 refine WY.done kR ?_
 refine W.condF rfl rfl ?_
 refine W.skip <| W.reg <| WL.m rfl rfl <| WL.p (.iis (((t + 1 : Nat) : Int)) (.add rfl rfl (i64w oO)) oO) rfl <| WL.z rfl rfl ?_
 exact ⟨t + 1, ⟨rfl, rfl, rfl, trivial⟩, ⟨hB55, hk51, hk52, hv53, hv54, hF49, hF50, by ((try simp only) <;> omega)⟩, by ((try simp only) <;> omega)⟩
 refine WL.r (Rd.ld (isAgg29 _) rfl hk44 rfl) rfl <| WL.nil <| ?_
 refine WY.tk 8 rfl (.ixm underlying29 sizeOf31 rfl rfl (hv46.isp oO) (t) (rfl) oO) rfl ?_
 refine WY.br2 4 rfl 9 rfl ?_ ?_
 refine WL.r (Rd.ldS underlying31 rfl isz31 hv45 (t) oO rfl) rfl <| WL.nil <| ?_
 refine WY.br1 9 rfl ?_
 refine WL.r (Rd.ldS underlying31 rfl isz31 hv46 (t) oO rfl) rfl <| WL.nil <| ?_
 refine WY.br1 10 rfl ?_
 refine WL.c1 hb20 rfl rfl ((ih (list[t]'oO) (hsz t oO) _ _ S T _ ((hF41).sub t oO oO) ((hF42).sub t oO oO))) (fun w56 hw56 => ?_)
 have hF57 := LInv.same (w1 := w56) hF41 (fun k hk hl => hw56.block k hl)
 have hF58 := LInv.same (w1 := w56) hF42 (fun k hk hl => hw56.block k hl)
 have hk59 := hk43.below hw56 hk43.lt
 have hk60 := hk44.below hw56 hk44.lt
 have hv61 := RowM.below hv45 hw56 (fun h0 => hv45.lt h0)
 have hv62 := RowM.below hv46 hw56 (fun h0 => hv46.lt h0)
 have hB63 := btr hB47 hw56
 refine WL.nil <| ?_
 refine WY.tk 11 rfl (.not rfl) rfl ?_
 refine WY.done kR ?_
 refine W.condF rfl rfl ?_
 refine W.skip <| W.reg <| WL.m rfl rfl <| WL.p (.iis (((t + 1 : Nat) : Int)) (.add rfl rfl (i64w oO)) oO) rfl <| WL.z rfl rfl ?_
 exact ⟨t + 1, ⟨rfl, rfl, rfl, trivial⟩, ⟨hB63, hk59, hk60, hv61, hv62, hF57, hF58, by ((try simp only) <;> omega)⟩, by ((try simp only) <;> omega)⟩
 refine WL.r (Rd.ldS underlying31 rfl isz31 hv46 (t) oO rfl) rfl <| WL.nil <| ?_
 refine WY.br1 4 rfl ?_
 refine WL.r (Rd.ldS underlying31 rfl isz31 hv45 (t) oO rfl) rfl <| WL.nil <| ?_
 refine WY.br1 10 rfl ?_
 refine WL.c1 hb20 rfl rfl ((ih (list[t]'oO) (hsz t oO) _ _ S T _ ((hF41).sub t oO oO) ((hF42).sub t oO oO))) (fun w64 hw64 => ?_)
 have hF65 := LInv.same (w1 := w64) hF41 (fun k hk hl => hw64.block k hl)
 have hF66 := LInv.same (w1 := w64) hF42 (fun k hk hl => hw64.block k hl)
 have hk67 := hk43.below hw64 hk43.lt
 have hk68 := hk44.below hw64 hk44.lt
 have hv69 := RowM.below hv45 hw64 (fun h0 => hv45.lt h0)
 have hv70 := RowM.below hv46 hw64 (fun h0 => hv46.lt h0)
 have hB71 := btr hB47 hw64
 refine WL.nil <| ?_
 refine WY.tk 11 rfl (.not rfl) rfl ?_
 refine WY.done kR ?_
 refine W.condF rfl rfl ?_
 refine W.skip <| W.reg <| WL.m rfl rfl <| WL.p (.iis (((t + 1 : Nat) : Int)) (.add rfl rfl (i64w oO)) oO) rfl <| WL.z rfl rfl ?_
 exact ⟨t + 1, ⟨rfl, rfl, rfl, trivial⟩, ⟨hB71, hk67, hk68, hv69, hv70, hF65, hF66, by ((try simp only) <;> omega)⟩, by ((try simp only) <;> omega)⟩
 refine WL.r (Rd.ld (isAgg29 _) rfl hk44 rfl) rfl <| WL.nil <| ?_
 refine WY.tk 8 rfl (.ixm underlying29 sizeOf31 rfl rfl (hv46.isp oO) (t) (rfl) oO) rfl ?_
 refine WY.br2 1 rfl 9 rfl ?_ ?_
 refine WL.r (Rd.ld (isAgg29 _) rfl hk43 rfl) rfl <| WL.nil <| ?_
 refine WY.tk 3 rfl (.ixm underlying29 sizeOf31 rfl rfl (hv45.isp oO) (t) (rfl) oO) rfl ?_
 refine WY.br2 4 rfl 9 rfl ?_ ?_
 refine WL.r (Rd.ldS underlying31 rfl isz31 hv45 (t) oO rfl) rfl <| WL.nil <| ?_
 refine WY.br1 9 rfl ?_
 refine WL.r (Rd.ldS underlying31 rfl isz31 hv46 (t) oO rfl) rfl <| WL.nil <| ?_
 refine WY.br1 10 rfl ?_
 refine WL.c1 hb20 rfl rfl ((ih (list[t]'oO) (hsz t oO) _ _ S T _ ((hF41).sub t oO oO) ((hF42).sub t oO oO))) (fun w72 hw72 => ?_)
 have hF73 := LInv.same (w1 := w72) hF41 (fun k hk hl => hw72.block k hl)
 have hF74 := LInv.same (w1 := w72) hF42 (fun k hk hl => hw72.block k hl)
 have hk75 := hk43.below hw72 hk43.lt
 have hk76 := hk44.below hw72 hk44.lt
 have hv77 := RowM.below hv45 hw72 (fun h0 => hv45.lt h0)
 have hv78 := RowM.below hv46 hw72 (fun h0 => hv46.lt h0)
 have hB79 := btr hB47 hw72
 refine WL.nil <| ?_
 refine WY.tk 11 rfl (.not rfl) rfl ?_
 refine WY.done kR ?_
 refine W.condF rfl rfl ?_
 refine W.skip <| W.reg <| WL.m rfl rfl <| WL.p (.iis (((t + 1 : Nat) : Int)) (.add rfl rfl (i64w oO)) oO) rfl <| WL.z rfl rfl ?_
 exact ⟨t + 1, ⟨rfl, rfl, rfl, trivial⟩, ⟨hB79, hk75, hk76, hv77, hv78, hF73, hF74, by ((try simp only) <;> omega)⟩, by ((try simp only) <;> omega)⟩
 refine WL.r (Rd.ldS underlying31 rfl isz31 hv46 (t) oO rfl) rfl <| WL.nil <| ?_
 refine WY.br1 4 rfl ?_
 refine WL.r (Rd.ldS underlying31 rfl isz31 hv45 (t) oO rfl) rfl <| WL.nil <| ?_
 refine WY.br1 10 rfl ?_
 refine WL.c1 hb20 rfl rfl ((ih (list[t]'oO) (hsz t oO) _ _ S T _ ((hF41).sub t oO oO) ((hF42).sub t oO oO))) (fun w80 hw80 => ?_)
 have hF81 := LInv.same (w1 := w80) hF41 (fun k hk hl => hw80.block k hl)
 have hF82 := LInv.same (w1 := w80) hF42 (fun k hk hl => hw80.block k hl)
 have hk83 := hk43.below hw80 hk43.lt
 have hk84 := hk44.below hw80 hk44.lt
 have hv85 := RowM.below hv45 hw80 (fun h0 => hv45.lt h0)
 have hv86 := RowM.below hv46 hw80 (fun h0 => hv46.lt h0)
 have hB87 := btr hB47 hw80
 refine WL.nil <| ?_
 refine WY.tk 11 rfl (.not rfl) rfl ?_
 refine WY.done kR ?_
 refine W.condF rfl rfl ?_
 refine W.skip <| W.reg <| WL.m rfl rfl <| WL.p (.iis (((t + 1 : Nat) : Int)) (.add rfl rfl (i64w oO)) oO) rfl <| WL.z rfl rfl ?_
 exact ⟨t + 1, ⟨rfl, rfl, rfl, trivial⟩, ⟨hB87, hk83, hk84, hv85, hv86, hF81, hF82, by ((try simp only) <;> omega)⟩, by ((try simp only) <;> omega)⟩
 refine WL.r (Rd.ldS underlying31 rfl isz31 hv46 (t) oO rfl) rfl <| WL.nil <| ?_
 refine WY.br1 1 rfl ?_
 refine WL.r (Rd.ld (isAgg29 _) rfl hk43 rfl) rfl <| WL.nil <| ?_
 refine WY.tk 3 rfl (.ixm underlying29 sizeOf31 rfl rfl (hv45.isp oO) (t) (rfl) oO) rfl ?_
 refine WY.br1 4 rfl ?_
 refine WL.r (Rd.ldS underlying31 rfl isz31 hv45 (t) oO rfl) rfl <| WL.nil <| ?_
 refine WY.br1 10 rfl ?_
 refine WL.c1 hb20 rfl rfl ((ih (list[t]'oO) (hsz t oO) _ _ S T _ ((hF41).sub t oO oO) ((hF42).sub t oO oO))) (fun w88 hw88 => ?_)
 have hF89 := LInv.same (w1 := w88) hF41 (fun k hk hl => hw88.block k hl)
 have hF90 := LInv.same (w1 := w88) hF42 (fun k hk hl => hw88.block k hl)
 have hk91 := hk43.below hw88 hk43.lt
 have hk92 := hk44.below hw88 hk44.lt
 have hv93 := RowM.below hv45 hw88 (fun h0 => hv45.lt h0)
 have hv94 := RowM.below hv46 hw88 (fun h0 => hv46.lt h0)
 have hB95 := btr hB47 hw88
 refine WL.nil <| ?_
 refine WY.tk 11 rfl (.not rfl) rfl ?_
 refine WY.done kR ?_
 refine W.condF rfl rfl ?_
 refine W.skip <| W.reg <| WL.m rfl rfl <| WL.p (.iis (((t + 1 : Nat) : Int)) (.add rfl rfl (i64w oO)) oO) rfl <| WL.z rfl rfl ?_
 exact ⟨t + 1, ⟨rfl, rfl, rfl, trivial⟩, ⟨hB95, hk91, hk92, hv93, hv94, hF89, hF90, by ((try simp only) <;> omega)⟩, by ((try simp only) <;> omega)⟩
 have h39' := dF h39
 refine W.exit <| W.sr <| WL.z rfl rfl ?_
 refine W.ret (W.ret1 rfl rfl ?_)
 exact ⟨rfl, hT1⟩
end
section
theorem ans_skip : skipAt false [51, 32, 48, 32, 82] 0 = 0 := by decide +kernel
theorem ans_word : plexW true [51, 32, 48, 32, 82] 0 = ⟨8, 3, [51], true, 5⟩ := by kernel_rfl
theorem answers19 (w : World) : Calls Tryz.prog 10 #[] w fun e w' => e = .returned (.bool true) ∧ Below w.heap.size w w' := by
 have hO : ∀ (q : Option Addr) (d : Nat) (w1 : World), BytesAt w1 q [51, 32, 48, 32, 82] → 5 ≤ d → Calls Tryz.prog 18 #[.slice q 5 d, .int .i64 0, .int .i64 0] w1 fun e w' => e = .returned (.tuple #[.agg (pobj 8 3 []).toArray, .int .i64 5, .int .i64 0]) ∧ Below w1.heap.size w1 w' := fun q d w1 h1 h2 => by
  have h := plex_Objw 0 0 q [51, 32, 48, 32, 82] d 0 w1 h1 h2 dD dD ans_skip.symm dD dD dD dD dD
  rw [ans_word] at h
  exact h
 refine W.enter func10 rfl ntmps10 (Nat.le_of_ble_eq_true rfl) ?_
 have hB0 := Below.refl (w.heap.size) w
 refine W.sr <| WL.z rfl rfl ?_
 refine W.sr <| WL.bsl (ps := _) underlying22 sizeOf5 zeroValue5 rfl rfl rfl rfl rfl pR rfl (fun b1 wb1 eb1 hkb1 hub1 hsb1 => ?_)
 have hB2 := Upd.below hB0 (by rw [eb1]; exact hB0.size) hub1
 have hgeb1 : w.heap.size ≤ b1 := by rw [eb1]; exact hB0.size
 refine WL.cvB ([51, 32, 48, 32, 82]) underlying22 underlying5 rfl hkb1 rfl rfl (fun w3 hs huw3 hsw3 => ?_)
 have hB4 := Upd.below hB2 oO huw3
 refine WL.c1 hb18 rfl rfl ((hO _ _ _ hs dD)) (fun w5 hw5 => ?_)
 have hB7 := btr hB4 hw5
 refine WL.m rfl rfl <| WL.p (.ext rfl rfl) rfl <| WL.p (.ext rfl rfl) rfl <| WL.p (.ext rfl rfl) rfl <| WL.alloc zeroValue31 rfl (fun b8 wb8 eb8 hkb8 hub8 hsb8 => ?_)
 have hB11 := Upd.below hB7 (by rw [eb8]; exact hB7.size) hub8
 have hgeb8 : w.heap.size ≤ b8 := by rw [eb8]; exact hB7.size
 refine WL.stL rfl rfl hkb8 isz31 rfl rfl (fun w12 hkw12 huw12 hsw12 => ?_)
 have hB14 := Upd.below hB11 oO huw12
 refine WL.a rfl rfl <| WL.z rfl rfl ?_
 refine W.sr <| WL.m rfl rfl <| WL.p (.eql rfl rfl) rfl <| WL.m rfl rfl <| WL.gy rfl rfl rfl rfl <| WL.m rfl rfl <| WL.gy rfl rfl rfl rfl <| WL.p (.eql rfl rfl) rfl <| WL.p (.pkT rfl rfl rfl) rfl <| WL.m rfl rfl <| WL.gy rfl rfl rfl rfl <| WL.p (.fa underlying31 rfl sizeOf3 dD rfl) rfl <| WL.gy rfl rfl rfl rfl <| WL.r (Rd.ld (isAgg3 _) rfl hkw12 rfl) rfl <| WL.gy rfl rfl rfl rfl <| WL.p (.eql rfl rfl) rfl <| WL.p (.pkT rfl rfl rfl) rfl <| WL.m rfl rfl <| WL.gy rfl rfl rfl rfl <| WL.p (.fa underlying31 rfl sizeOf3 dD rfl) rfl <| WL.gy rfl rfl rfl rfl <| WL.r (Rd.ld (isAgg3 _) rfl hkw12 rfl) rfl <| WL.gy rfl rfl rfl rfl <| WL.p (.eql rfl rfl) rfl <| WL.p (.pkT rfl rfl rfl) rfl <| WL.z rfl rfl ?_
 refine W.ret (W.ret1 rfl rfl ?_)
 exact ⟨rfl, hB14⟩
end
section
theorem tokP_adv {l : List UInt8} {a : Nat} (ha : a ≤ l.length) (h : (tokP l a).2.2.2 = 0) : (a : Int) < (tokP l a).2.2.1 ∧ (tokP l a).2.2.1 ≤ (l.length : Int) := by
 unfold tokP at h ⊢
 rw [if_neg oO] at h ⊢
 have hge := skipAt_ge l a ha
 rw [show (a : Int).toNat = a from rfl] at h ⊢
 split at h
 ·
  next hlt =>
  rw [dif_pos hlt]
  split at h
  ·
   next hreg =>
   rw [if_pos hreg]
   have hne : wordL l (skipAt false l a) ≠ [] := by
    rw [wordL_eq, List.drop_eq_getElem_cons hlt, List.takeWhile_cons, if_pos hreg]
    exact List.cons_ne_nil _ _
   have h1 := word_pos oO hne
   have h2 := refT_adv (refs := false) (s := wordL l (skipAt false l a)) h1.2
   have h3 : skipAt false l a < (plexW false l (skipAt false l a)).np := by
    unfold plexW
    repeat' split
    all_goals first | exact h1.1 | (show skipAt false l a < refT _ _; omega)
   have h4 := plexW_np (refs := false) (l := l) (t := skipAt false l a) oO
   show (a : Int) < ((plexW false l (skipAt false l a)).np : Int) ∧ ((plexW false l (skipAt false l a)).np : Int) ≤ l.length
   omega
  ·
   next hreg =>
   rw [if_neg hreg]
   cases ho : objP false l 32 (skipAt false l a) with
   | ok q =>
    obtain ⟨o, t'⟩ := q
    have := objP_adv false l 32 _ _ _ hlt ho
    show (a : Int) < (t' : Int) ∧ (t' : Int) ≤ l.length
    omega
   | error k =>
    rw [ho] at h
    exact absurd h (objP_err false l _ _ _ ho).ne
 ·
  cases h
theorem law_PlexTokens (p : Option Addr) (l : List UInt8) (c : Nat) (w : World) (hb : BytesAt w p l) (hc : l.length ≤ c) (_hnb : l = [] → c = 0 ∨ p ≠ none) :
  Calls Tryz.prog 6 #[.slice p l.length c] w fun e w' => e = .returned (.bool true) ∧ Below w.heap.size w w' := by
 refine W.enter func6 rfl ntmps6 (Nat.le_of_ble_eq_true rfl) ?_
 have hB0 := Below.refl (w.heap.size) w
 refine W.sr <| WL.z rfl rfl ?_
 refine W.seq <| W.sr <| WL.m rfl rfl <| WL.p (.lenS underlying22 rfl) rfl <| WL.p (.gtr rfl rfl) rfl <| WL.nil <| ?_
 refine W.cond rfl (fun h1 => ?_) (fun h1 => ?_)
 have h1' := dT h1
 refine W.sr <| WL.c1 hb10 rfl rfl ((answers19 _)) (fun w2 hw2 => ?_)
 have hB4 := btr hB0 hw2
 refine WL.z rfl rfl ?_
 refine W.ret (W.ret1 rfl rfl ?_)
 exact ⟨rfl, hB4⟩
 have h1' := dF h1
 refine W.skip <| W.sr <| WL.z rfl rfl ?_
 refine W.seq <| W.sr <| WL.z rfl rfl ?_
 refine W.block ?_
 have hl : l.length ≤ 100000000 := by omega
 have hP : ∀ (w1 : World) (a : Nat), BytesAt w1 p l → Calls Tryz.prog 23 #[.slice p l.length c, .int .i64 (a : Int)] w1 fun e w' => ∃ x : PC, e = .returned (.tuple #[.agg (pcV x).toArray, .string (bs (tokP l a).2.1), .int .i64 (tokP l a).2.2.1, .int .i64 (tokP l a).2.2.2]) ∧ PRep w' (fun k => w1.heap.size ≤ k) x (tokP l a).1 ∧ Below w1.heap.size w1 w' := fun w1 a h1 => (plex_Token p l c a w1 h1 hc hl).mono fun e w' h => by obtain ⟨⟨x, h2, h3⟩, h4⟩ := h; exact ⟨x, h2, h3, h4⟩
 have hQ : ∀ (w1 : World) (a : Nat), BytesAt w1 p l → Calls Tryz.prog 24 #[.slice p l.length c, .int .i64 (a : Int)] w1 fun e w' => ∃ x : PC, e = .returned (.tuple #[.agg (pcV x).toArray, .string (bs (tokP l a).2.1), .int .i64 (tokP l a).2.2.1, .int .i64 (tokP l a).2.2.2]) ∧ PRep w' (fun k => w1.heap.size ≤ k) x (tokP l a).1 ∧ Below w1.heap.size w1 w' := fun w1 a h1 => (r18_Token p l c a w1 h1 hc hl).mono fun e w' h => by obtain ⟨⟨x, h2, h3⟩, h4⟩ := h; exact ⟨x, h2, h3, h4⟩
 refine W.loop (α := Nat × Nat) (fun t => [(0, .slice p l.length c), (3, .int .i64 (t.1 : Int)), (4, .int .i64 (t.2 : Int))]) (fun t w' => Below w.heap.size w w' ∧ BytesAt w' p l ∧ t.2 ≤ t.1 ∧ t.1 ≤ l.length) (fun t => l.length + 1 - t.2) ((0, 0)) ⟨rfl, rfl, rfl, trivial⟩ (⟨hB0, hb, Nat.le_refl _, Nat.zero_le _⟩) (fun t w1 hR => ?_)
 obtain ⟨a, i⟩ := t
 obtain ⟨hT, hv, hia, hal⟩ := hR
 simp only at hia hal ⊢
 have hPa := fun w1 => hP w1 a
 have hQa := fun w1 => hQ w1 a
 have hadv := tokP_adv (l := l) hal
 generalize tokP l a = R at hPa hQa hadv
 obtain ⟨o, s, n, er⟩ := R
 simp only at hPa hQa hadv
 refine W.seq <| W.sr <| WL.m rfl rfl <| WL.m rfl rfl <| WL.p (.lenS underlying22 rfl) rfl <| WL.p (.leq rfl rfl) rfl <| WL.nil <| ?_
 refine W.cond rfl (fun h5 => ?_) (fun h5 => ?_)
 have h5' := dT h5
 refine W.skip <| W.seq <| W.block <| W.sr <| WL.m rfl rfl <| WL.m rfl rfl <| WL.call hb23 rfl rfl ((hPa _ hv)) (fun x1 w6 hw6 => ?_)
 obtain ⟨hx1, hB1⟩ := hw6
 have hx2 := hx1.mono (T := fun k => k < w6.heap.size ∧ True) (fun k hk hlt => ⟨hlt, trivial⟩)
 have hB2 := Below.trans hT (Below.mono hB1 hT.size)
 have hv2 := BytesAt.below hv hB1 (fun h0 => (hv).lt h0)
 refine WL.m rfl rfl <| WL.p (.ext rfl rfl) rfl <| WL.p (.ext rfl rfl) rfl <| WL.p (.ext rfl rfl) rfl <| WL.p (.ext rfl rfl) rfl <| WL.alloc zeroValue31 rfl (fun b7 wb7 eb7 hkb7 hub7 hsb7 => ?_)
 have hF8 := PRep.same (w1 := wb7) hx2 (fun k hk hl => hub7.other k oO)
 have hvl10 := fun h0 => eb7 ▸ hv2.lt h0
 have hv9 := bup hv2 hub7 hvl10
 have hB11 := Upd.below hB2 (by rw [eb7]; exact hB2.size) hub7
 have hgeb7 : w.heap.size ≤ b7 := by rw [eb7]; exact hB2.size
 refine WL.stL rfl rfl hkb7 isz31 rfl rfl (fun w12 hkw12 huw12 hsw12 => ?_)
 have hF13 := PRep.same (w1 := w12) hF8 (fun k hk hl => huw12.other k (by first | ((try simp only) <;> omega) | (have := hk.1; ((try simp only) <;> omega))))
 have hv14 := bup hv9 huw12 hvl10
 have hB15 := Upd.below hB11 oO huw12
 refine WL.a rfl rfl <| WL.a rfl rfl <| WL.z rfl rfl ?_
 refine W.sr <| WL.m rfl rfl <| WL.m rfl rfl <| WL.call hb24 rfl rfl ((hQa _ hv14)) (fun y1 w16 hw16 => ?_)
 obtain ⟨hy1, hB3⟩ := hw16
 have hy2 := hy1.mono (T := fun k => k < w16.heap.size ∧ True) (fun k hk hlt => ⟨hlt, trivial⟩)
 have hx3 := (hF13).same (fun k hk hl => hB3.block k hl)
 have hB4 := Below.trans hB15 (Below.mono hB3 hB15.size)
 have hv4 := BytesAt.below hv14 hB3 (fun h0 => (hv14).lt h0)
 have hk5 := (hkw12).below hB3 (hkw12).lt
 refine WL.m rfl rfl <| WL.p (.ext rfl rfl) rfl <| WL.p (.ext rfl rfl) rfl <| WL.p (.ext rfl rfl) rfl <| WL.p (.ext rfl rfl) rfl <| WL.alloc zeroValue31 rfl (fun b17 wb17 eb17 hkb17 hub17 hsb17 => ?_)
 have hF18 := PRep.same (w1 := wb17) hx3 (fun k hk hl => hub17.other k oO)
 have hF19 := PRep.same (w1 := wb17) hy2 (fun k hk hl => hub17.other k oO)
 have hl21 : b7 < b17 := by rw [eb17]; exact hk5.lt
 have hk20 := hk5.upd hub17 (Nat.ne_of_lt hl21)
 have hvl23 := fun h0 => eb17 ▸ hv4.lt h0
 have hv22 := bup hv4 hub17 hvl23
 have hB24 := Upd.below hB4 (by rw [eb17]; exact hB4.size) hub17
 have hgeb17 : w.heap.size ≤ b17 := by rw [eb17]; exact hB4.size
 refine WL.stL rfl rfl hkb17 isz31 rfl rfl (fun w25 hkw25 huw25 hsw25 => ?_)
 have hF26 := PRep.same (w1 := w25) hF18 (fun k hk hl => huw25.other k (by first | ((try simp only) <;> omega) | (have := hk.1; ((try simp only) <;> omega))))
 have hF27 := PRep.same (w1 := w25) hF19 (fun k hk hl => huw25.other k (by first | ((try simp only) <;> omega) | (have := hk.1; ((try simp only) <;> omega))))
 have hk28 := hk20.up huw25
 have hv29 := bup hv22 huw25 hvl23
 have hB30 := Upd.below hB24 oO huw25
 refine WL.a rfl rfl <| WL.a rfl rfl <| WL.z rfl rfl ?_
 refine W.seq <| W.sr <| WL.r (Rd.ldA rfl hk28 underlying31 rfl isz31) rfl <| WL.r (Rd.ldA rfl hkw25 underlying31 rfl isz31) rfl <| WL.c1 hb20 rfl rfl ((r18_Equal _ o (Nat.lt_succ_self _) x1 y1 _ _ _ hF26 hF27)) (fun w31 hw31 => ?_)
 have hv36 := BytesAt.below hv29 hw31 (fun h0 => hv29.lt h0)
 have hB37 := btr hB30 hw31
 refine WL.p (.not rfl) rfl <| WL.m rfl rfl <| WL.gy rfl rfl rfl rfl <| WL.m rfl rfl <| WL.gy rfl rfl rfl rfl <| WL.m rfl rfl <| WL.gy rfl rfl rfl rfl <| WL.p (.bis (false) (.nes rfl rfl) (by simp)) rfl <| WL.p (.pkF rfl rfl rfl) rfl <| WL.m rfl rfl <| WL.gy rfl rfl rfl rfl <| WL.m rfl rfl <| WL.gy rfl rfl rfl rfl <| WL.m rfl rfl <| WL.gy rfl rfl rfl rfl <| WL.p (.bis (false) (.neq rfl rfl) (by simp)) rfl <| WL.p (.pkF rfl rfl rfl) rfl <| WL.m rfl rfl <| WL.gy rfl rfl rfl rfl <| WL.m rfl rfl <| WL.gy rfl rfl rfl rfl <| WL.m rfl rfl <| WL.gy rfl rfl rfl rfl <| WL.p (.bis (false) (.neq rfl rfl) (by simp)) rfl <| WL.p (.pkF rfl rfl rfl) rfl <| WL.nil <| ?_
 refine W.condF rfl rfl ?_
 refine W.skip <| W.seq <| W.sr <| WL.m rfl rfl <| WL.p (.neq rfl rfl) rfl <| WL.nil <| ?_
 refine W.cond rfl (fun h38 => ?_) (fun h38 => ?_)
 have h38' := ndT h38
 refine W.sr <| WL.c1 hb10 rfl rfl ((answers19 _)) (fun w39 hw39 => ?_)
 have hB45 := btr hB37 hw39
 refine WL.z rfl rfl ?_
 refine W.ret (W.ret1 rfl rfl ?_)
 exact ⟨rfl, hB45⟩
 have h38' := ndF h38
 obtain rfl : er = 0 := by omega
 obtain ⟨had1, had2⟩ := hadv rfl
 obtain ⟨m, rfl⟩ : ∃ m : Nat, n = (m : Int) := ⟨n.toNat, by omega⟩
 refine W.skip <| W.seq <| W.sr <| WL.m rfl rfl <| WL.m rfl rfl <| WL.p (.leq rfl rfl) rfl <| WL.nil <| ?_
 refine W.cond rfl (fun h46 => ?_) (fun h46 => ?_)
 have h46' := dT h46
 exfalso; omega
 have h46' := dF h46
 refine W.skip <| W.reg <| WL.m rfl rfl <| WL.z rfl rfl ?_
 refine W.reg <| WL.m rfl rfl <| WL.p (.add rfl rfl (i64w oO)) rfl <| WL.z rfl rfl ?_
 exact ⟨(m, i + 1), ⟨rfl, rfl, rfl, trivial⟩, ⟨hB37, hv36, by ((try simp only) <;> omega), by ((try simp only) <;> omega)⟩, by ((try simp only) <;> omega)⟩
 have h5' := dF h5
 refine W.exit <| W.sr <| WL.z rfl rfl ?_
 refine W.ret (W.ret1 rfl rfl ?_)
 (exfalso; omega)
end
section
open Go.ChangeShapes Go.WideShapes Go.ChangeAt Go.RowKit
theorem own : ownKnob Tryz.prog.godebug = none := by kernel_rfl
theorem laidOut : laidOutB Tryz.prog = true := by kernel_rfl
def firstCells : Array Value := (Go.Pinned.utf8FirstZ.map fun (n : Nat) => Value.int .u8 (n : Int)).toArray
def rangeCells : Array Value := #[.int .u8 128, .int .u8 191, .int .u8 160, .int .u8 191, .int .u8 128, .int .u8 159, .int .u8 144, .int .u8 191, .int .u8 128, .int .u8 143, .int .u8 0, .int .u8 0, .int .u8 0, .int .u8 0, .int .u8 0, .int .u8 0, .int .u8 0, .int .u8 0, .int .u8 0, .int .u8 0, .int .u8 0, .int .u8 0, .int .u8 0, .int .u8 0, .int .u8 0, .int .u8 0, .int .u8 0, .int .u8 0, .int .u8 0, .int .u8 0, .int .u8 0, .int .u8 0]
def putCells (cs : Array Value) : Obj → Obj
 | .cells _ t frozen => .cells cs t frozen
 | o => o
/-- a world for a witness: the settled one, the two tables (blocks 1 and 2) holding what their initialisers lay -/
noncomputable def laidWorld (os : Os) : World :=
 { World.holding Tryz.prog os ⟨#[], #[], []⟩ with heap := ((World.holding Tryz.prog os ⟨#[], #[], []⟩).heap.modify 2 (putCells firstCells)).modify 3 (putCells rangeCells) }
end
section
open Go.ChangeShapes Go.WideShapes Go.ChangeAt Go.RowKit
open Go.ChangeMaps (open_string shut_string)
set_option maxRecDepth 100000 in
theorem contract_PlexTokens (H : Type) (enc : TypeId × Value → H) (W : World) (base : Nat) (args : Array Value) (ds gs : List (DataW H)) (before : List MemPlace)
  (hval : ∀ (j : Nat) t v, Tryz.f6.params[j]? = some t → args[j]? = some v → Value.okWide Tryz.prog W .any base t v)
  (hW : DataW.Whole enc Tryz.prog Tryz.f6.params.toList Rows.plexTokensSpec.vars false W args.toList ds gs before) :
  Calls Tryz.prog 6 args W fun e W' => ∃ v, e = .returned v ∧ Rows.plexTokensSpec.post enc Tryz.prog Tryz.f6 false true false false W args v W' := by
 have hW' := hW
 obtain ⟨p, q, hA0, hV, rfl, hfz, hnd⟩ := hW
 have hA : DataW.TrodAll enc Tryz.prog W 0 (fun _ => true) true Tryz.f6.params.toList args.toList ds p := hA0
 rw [Tryz.params6] at hA hval
 obtain ⟨v0, vs0, d0, ds0, p0, q0, hargs0, rfl, rfl, h0, r0⟩ := trodAll_cons hA
 obtain ⟨rfl, rfl, rfl⟩ := trodAll_nil r0
 obtain rfl : args = #[v0] := by cases args; simp_all
 obtain ⟨rfl, rfl⟩ := trodVars_none hV
 obtain ⟨s0, l0, c0, rfl, hb0, hc0, hn0, hm0⟩ := open_bytes underlying22 underlying5 kR (hval 0 22 v0 rfl rfl) h0
 clear hA0
 simp only [List.append_nil] at hW'
 refine (law_PlexTokens s0 l0 c0 W hb0 hc0 hn0).mono fun e W' ⟨he, bel⟩ => ?_
 subst he
 exact ⟨_, rfl, _, _, _, [], _, [], hW', trodAll_mk1 (shut_bool underlying4 _), (trodAll_cons_mk (trod_keep laidOut kR kR h0 bel (fun x hx => hW'.lt x (by first | exact hx | (simp only [List.mem_append]; simp_all)))) trodAll_mk0), rfl, bel.frame _, fun h => by cases h⟩
theorem laid_met_PlexTokens (os : Os) : laidMet Tryz.prog Rows.plexTokensRow.laid ((laidWorld os).forCall (fun _ _ => 0) ⟨#[], #[.slice none 0 0], []⟩).memory :=
 laidMet_of_run' 8 kR kR
theorem reads_PlexTokens (os : Os) {H : Type} (enc : TypeId × Value → H) : ∃ places, DataW.whole enc Tryz.prog ((laidWorld os).forCall (fun _ _ => 0) ⟨#[], #[.slice none 0 0], []⟩).memory Tryz.f6.params.toList Rows.plexTokensSpec.vars false #[Value.slice none 0 0].toList 8 = some ([.nil], [], places) :=
 ⟨[], by kernel_rfl⟩
set_option maxRecDepth 100000 in
theorem lifted_PlexTokens (os : Os) (started : os.Started) (H : Type) (enc : TypeId × Value → H) (F : Stop.Interp) :
    ReturnsInHanded {} Tryz.checked os 6 .any ((OpenSpec.ofChange Rows.plexTokensSpec).preRow enc Tryz.prog Tryz.f6 Rows.plexTokensRow.domain false Rows.plexTokensRow.laid) (((OpenSpec.ofChange Rows.plexTokensSpec).at F).post enc Tryz.prog Tryz.f6 false true false false) := by
  obtain ⟨places, hx⟩ := reads_PlexTokens os enc
  refine returnsInHanded_of_row (C := Tryz.checked) (s := OpenSpec.ofChange Rows.plexTokensSpec) own started kR func6
    (witness_row_at (enc := enc) (C := Tryz.checked) false (laidWorld os) #[.slice none 0 0] rfl kR kR kR
      (OpenSpec.preRow_of_cond 8 hx kR (fun k hk => by cases hk) kR (laid_met_PlexTokens os))) ?_
  intro W base args ds gs before hval hW _ hcd _ hL _ _
  exact contract_PlexTokens H enc W base args ds gs before hval hW
theorem said_PlexTokens : Rows.PlexTokensSaid :=
  OpenClaim.holds_of_cond 6 Tryz.f6 rfl rfl rfl rfl rfl rfl rfl ⟨rfl, rfl, rfl, rfl, rfl⟩ rfl rfl rfl rfl rfl kR func6 kR
    (dT kR) (by unfold Func.isWrapper; first | (rw [if_pos (by decide +kernel)]; kernel_rfl) | (rw [if_neg (by decide +kernel)]; exact ⟨rfl, rfl⟩))
    (fun os started H enc _ F => by rw [OpenClaim.pre_eq_preRow]; exact lifted_PlexTokens os started H enc F)
theorem plain_PlexTokens (f : FuncId) (fn : Func) (hf : Tryz.pinned.checked.prog.funcNamed "mezzotint/mezzotintlaw19.PlexTokens" = some f) (hfn : Tryz.pinned.checked.prog.funcs[f]? = some fn) :
  true = Tryz.pinned.checked.prog.looks [] ∧ ∀ (j : Nat) t, fn.params[j]? = some t → Tryz.pinned.checked.prog.wantsStandIn t = false := by
 obtain rfl : f = 6 := Option.some.inj ((show Tryz.prog.funcNamed "mezzotint/mezzotintlaw19.PlexTokens" = some 6 by kernel_rfl).symm.trans hf) |>.symm
 obtain rfl : fn = Tryz.f6 := (Option.some.inj (func6.symm.trans hfn)).symm
 refine ⟨by kernel_rfl, fun j t ht => ?_⟩
 rw [Tryz.params6] at ht
 obtain rfl : t = 22 := by simpa using Array.mem_of_getElem? ht
 exact (show Tryz.prog.wantsStandIn 22 = false by kernel_rfl)
/-- THE CARD -/
theorem PlexTokens_holds : Rows.PlexTokensCardSaid :=
 Claim7.holds_tied_plain_at .later [] _ _ _ _ said_PlexTokens (fun _ h => by cases h) kR (fun _ h => by cases h) plexTokens_row_tie rfl ⟨rfl, rfl⟩ kR rfl plain_PlexTokens kR
#print axioms PlexTokens_holds
end
end Go.Proofs.YtjghbcjnplcleaaGreatDoor
