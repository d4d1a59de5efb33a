/-
  Stacks: the law StackKeeps, walked.
-/
import Derived.Test.YtnjalolknhepdaaStkK
import Derived.Test.YtnjalolknhepdaaStkH
import Derived.Test.YtnjalolknhepdaaStkE
namespace Go.Proofs.Ytnjalolknhepdaa
open Go.RowKit

theorem law_Keeps_long (p : Option Addr) (l : List ObjV) (c : Nat) (w : World) (hl : 300 < l.length) (hrow : RowM objL w p l) (hby : l.length * 72 ≤ 140737488355328) :
    Calls Try.prog 6 #[.slice p l.length c] w fun e w' => e = .returned (.bool true) ∧ Below w.heap.size w w' := by
  have hnil : l = [] → c = 0 ∨ p ≠ none := fun h => by rw [h] at hl; simp at hl
  refine W.enter Try.func6 rfl Try.ntmps6 (Nat.le_of_ble_eq_true rfl) ?_
  have hB0 := Below.refl (w.heap.size) w
  refine W.seq ?_
  refine W.reg ?_ -- 0
  refine WL.p (.as rfl) rfl <| WL.nil <| ?_
  refine W.seq ?_
  refine W.reg ?_ -- 1
  refine WL.call hb12 rfl rfl ((stk_New 500 1 2 _)) (fun v w1 hw1 => ?_)
  have hv2 := RowM.below hrow hw1.1 (fun h0 => hrow.lt h0)
  have hB3 := btr hB0 hw1.1
  obtain ⟨b, rfl, hb0, hb1, hok⟩ := hw1.2
  have hkb := hok.blk
  refine WL.p (.as rfl) rfl <| WL.nil <| ?_
  refine W.seq ?_
  refine W.reg ?_ -- 2
  refine WL.bsl0 Try.underlying25 Try.sizeOf39 rfl (fun b4 wb4 eb4 hob4 hub4 hsb4 => ?_)
  have hvl6 := fun h0 => eb4 ▸ hv2.lt h0
  have hv5 := RowM.upd hv2 hub4 (fun h0 => Nat.ne_of_lt (hvl6 h0))
  have hB7 := Upd.below hB3 (by rw [eb4]; exact hB3.size) hub4
  have hgeb4 : w.heap.size ≤ b4 := by rw [eb4]; exact hB3.size
  have hob4 := OwnM.of (L := objL) (l := []) (hob4 b4 (Nat.le_refl _))
  have hleb4 : b4 ≤ wb4.heap.size := by omega
  refine WL.p (.mv rfl) rfl <| WL.appMb Try.underlying25 inf39 rfl rfl rfl hob4 rfl hv5 (by simp only [List.length_nil]; omega) (by simp only [List.length_nil]; omega) (hleb4) rfl (hnil) (fun v8 w9 how9 hbw9 hgw9 hfw9 => ?_)
  have hv10 := RowM.below hv5 hbw9 hvl6
  have hB11 := Below.trans hB7 (hbw9.mono (hgeb4))
  have hle12 := Nat.le_trans hleb4 hbw9.size
  refine WL.p (.as rfl) rfl <| WL.nil <| ?_
  refine W.seq ?_
  refine W.seq ?_
  refine W.reg ?_ -- 3
  refine WL.c1 hb13 rfl rfl ((law_answers _)) (fun w13 hw13 => ?_)
  have hle15 := Nat.le_trans hle12 hw13.size
  have ho14 := OwnM.below how9 hw13
  have hv16 := RowM.below hv10 hw13 (fun h0 => hv10.lt h0)
  have hB17 := btr hB11 hw13
  refine WL.p (.not rfl) rfl <| WL.p (.mv rfl) rfl <| WL.gy rfl rfl rfl rfl <| WL.p (.mv rfl) rfl <| WL.gy rfl rfl rfl rfl <| WL.p (.lenS Try.underlying25 rfl) rfl <| WL.gy rfl rfl rfl rfl <| WL.p (.bis (true) (.gtr rfl rfl) (by exact decide_eq_true (by omega))) rfl <| WL.p (.pkF rfl rfl rfl) rfl <| WL.p (.mv rfl) rfl <| WL.gn rfl rfl rfl rfl <| WL.gn rfl rfl rfl rfl <| WL.gn rfl rfl rfl rfl <| WL.gn rfl rfl rfl rfl <| WL.p (.pkT rfl rfl rfl) rfl <| WL.nil <| ?_
  refine W.condT rfl rfl ?_
  refine W.seq ?_
  refine W.reg ?_ -- 4
  refine WL.c1 hb13 rfl rfl ((law_answers _)) (fun w18 hw18 => ?_)
  have hle20 := Nat.le_trans hle15 hw18.size
  have ho19 := OwnM.below ho14 hw18
  have hv21 := RowM.below hv16 hw18 (fun h0 => hv16.lt h0)
  have hB22 := btr hB17 hw18
  refine WL.p (.mv rfl) rfl <| WL.gy rfl rfl rfl rfl <| WL.p (.mv rfl) rfl <| WL.gy rfl rfl rfl rfl <| WL.p (.lenS Try.underlying25 rfl) rfl <| WL.gy rfl rfl rfl rfl <| WL.p (.bis (true) (.gtr rfl rfl) (by exact decide_eq_true (by omega))) rfl <| WL.p (.pkT rfl rfl rfl) rfl <| WL.p (.as rfl) rfl <| WL.nil <| ?_
  refine W.ret (W.ret1 rfl rfl ?_)
  exact ⟨rfl, hB22⟩

theorem take_all (b : Nat) (v : Value) (most ov un : Int) (l : List ObjV) (w : World) (h : StackOk w b v most ov un l) (hl : l.length ≤ 10000000) (hu : un ≠ 0) :
    Calls Try.prog 19 #[.pointer (some ⟨b, 0, none⟩), .int .i64 (l.length : Int)] w fun e w' => ∃ r, e = .returned r ∧ ∃ q v', r = .tuple #[q, .int .i64 0] ∧ OwnM objL 39 w.heap.size w' q l ∧ StackOk w' b v' most ov un [] ∧ KeepB w.heap.size (b :: v.ownBlock.toList) w w' ∧ ∀ g, v'.ownBlock = some g → v.ownBlock = some g := by
  have hce : checkE (l.length : Int) l un = 0 := by unfold checkE; rw [if_neg (by omega), if_neg (by omega)]
  refine (stk_TakeI b v most ov un l _ w h (by omega) hl hu).mono fun e w' ⟨r, h1, q, v', h2, h3, h4, h5⟩ => ⟨r, h1, q, v', by rw [h2, hce], ?_, ?_, h5⟩
  · unfold takeT at h3
    rw [if_pos hce, Int.toNat_natCast, Nat.sub_self, List.drop_zero] at h3
    exact h3
  · unfold takeL at h4
    rw [if_pos hce, Int.toNat_natCast, Nat.sub_self, List.take_zero] at h4
    exact h4
theorem push_zeros (b : Nat) (v : Value) (n : Nat) (p : Option Addr) (w : World) (h : StackOk w b v 500 1 2 []) (hx : RowM objL w p (List.replicate n objZ)) (hc : p ≠ none) (hn : n ≤ 300) :
    Calls Try.prog 14 #[.pointer (some ⟨b, 0, none⟩), .slice p n n] w fun e w' => ∃ r, e = .returned r ∧ KeepB w.heap.size (b :: v.ownBlock.toList) w w' := by
  have e : (List.replicate n objZ).length = n := List.length_replicate
  have := stk_Push b v 500 1 2 [] p (List.replicate n objZ) n w h hx (fun _ => .inr hc) (by decide) (by rw [e]; simp; omega)
  rw [e] at this
  exact this.mono fun e w' ⟨r, h1, h2, v', h3, h4⟩ => ⟨r, h1, h4.1⟩
theorem StackOk.upd {w w1 : World} {b g : Nat} {v : Value} {most ov un : Int} {l : List ObjV} (h : StackOk w b v most ov un l) (hu : Upd g w w1) (h1 : b ≠ g) (h2 : ∀ k, v.ownBlock = some k → k ≠ g) : StackOk w1 b v most ov un l := ⟨h.blk.upd hu h1, h.own.upd hu h2⟩
/-- lists of the same length: what a loop that turns elements makes -/
theorem law_Keeps_short (p : Option Addr) (l : List ObjV) (c : Nat) (w : World) (hl : l.length ≤ 300) (hrow : RowM objL w p l) (hnil : l = [] → c = 0 ∨ p ≠ none) :
    Calls Try.prog 6 #[.slice p l.length c] w fun e w' => e = .returned (.bool true) ∧ Below w.heap.size w w' := by
  have he : pushE 500 1 [] l = 0 := by unfold pushE; rw [if_neg (by simp only [List.length_nil]; omega)]
  have hp : pushL 500 [] l = l := by unfold pushL; rw [if_neg (by simp only [List.length_nil]; omega)]; rfl
  refine W.enter Try.func6 rfl Try.ntmps6 (Nat.le_of_ble_eq_true rfl) ?_
  have hB0 := Below.refl (w.heap.size) w
  refine W.seq ?_
  refine W.reg ?_ -- 0
  refine WL.p (.as rfl) rfl <| WL.nil <| ?_
  refine W.seq ?_
  refine W.reg ?_ -- 1
  refine WL.call hb12 rfl rfl ((stk_New 500 1 2 _)) (fun v w1 hw1 => ?_)
  have hv2 := RowM.below hrow hw1.1 (fun h0 => hrow.lt h0)
  have hB3 := btr hB0 hw1.1
  obtain ⟨b, rfl, hb0, hb1, hok⟩ := hw1.2
  have hkb := hok.blk
  have hon := hok.own
  have hlb := Nat.succ_le_of_lt hb1
  refine WL.p (.as rfl) rfl <| WL.nil <| ?_
  refine W.seq ?_
  refine W.reg ?_ -- 2
  refine WL.bsl0 Try.underlying25 Try.sizeOf39 rfl (fun b4 wb4 eb4 hob4 hub4 hsb4 => ?_)
  have ho5 := OwnM.new hon eb4 hub4
  have hl7 : b < b4 := by rw [eb4]; exact hkb.lt
  have hk6 := hkb.upd hub4 (Nat.ne_of_lt hl7)
  have hvl9 := fun h0 => eb4 ▸ hv2.lt h0
  have hv8 := RowM.upd hv2 hub4 (fun h0 => Nat.ne_of_lt (hvl9 h0))
  have hB10 := Upd.below hB3 (by rw [eb4]; exact hB3.size) hub4
  have hgeb4 : w.heap.size ≤ b4 := by rw [eb4]; exact hB3.size
  have hob4 := OwnM.of (L := objL) (l := []) (hob4 b4 (Nat.le_refl _))
  have hleb4 : b4 ≤ wb4.heap.size := by omega
  refine WL.p (.mv rfl) rfl <| WL.appM Try.underlying25 inf39 rfl rfl rfl hob4 rfl hv8 (by simp only [List.length_nil]; omega) (hleb4) rfl (hnil) (fun v11 w12 how12 hbw12 hgw12 hfw12 => ?_)
  have hk13 := hk6.below hbw12 (by omega)
  have ho14 := OwnM.same ho5 (fun g hg => hgw12.block g ((ho5).lt g hg).2 (fun hx => by first | (cases hg; done) | (cases hx; done) | (have h1 := (ho5).lt g hg; have h2 := (hob4).lt g hx.symm; omega)))
  have hv15 := RowM.below hv8 hbw12 hvl9
  have hB16 := Below.trans hB10 (hbw12.mono (hgeb4))
  have hle17 := Nat.le_trans hleb4 hbw12.size
  refine WL.p (.as rfl) rfl <| WL.nil <| ?_
  refine W.seq ?_
  refine W.seq ?_
  refine W.reg ?_ -- 3
  refine WL.c1 hb13 rfl rfl ((law_answers _)) (fun w18 hw18 => ?_)
  have ho19 := OwnM.below ho14 hw18
  have hle21 := Nat.le_trans hle17 hw18.size
  have ho20 := OwnM.below how12 hw18
  have hk22 := hk13.below hw18 hk13.lt
  have hv23 := RowM.below hv15 hw18 (fun h0 => hv15.lt h0)
  have hB24 := btr hB16 hw18
  refine WL.p (.not rfl) rfl <| WL.p (.mv rfl) rfl <| WL.gy rfl rfl rfl rfl <| WL.p (.mv rfl) rfl <| WL.gy rfl rfl rfl rfl <| WL.p (.lenS Try.underlying25 rfl) rfl <| WL.gy rfl rfl rfl rfl <| WL.p (.bis (false) (.gtr rfl rfl) (by exact decide_eq_false (by omega))) rfl <| WL.p (.pkF rfl rfl rfl) rfl <| WL.p (.mv rfl) rfl <| WL.gy rfl rfl rfl rfl <| WL.p (.mv rfl) rfl <| WL.gy rfl rfl rfl rfl <| WL.p (.mv rfl) rfl <| WL.gy rfl rfl rfl rfl <| ?_
  obtain ⟨pv, cv, rfl, hrv, -, -, hnv, -⟩ := (show OwnM objL 39 b4 _ _ l from ho20).row
  have hin0 : OwnM objL 39 b4 _ (.slice pv l.length cv) l := ho20
  refine WL.call hb14 rfl rfl ((stk_Push b _ 500 1 2 [] pv l cv _ ⟨hk22, OwnM.nil _ _ _ _⟩ hrv hnv (by decide) (by simp only [List.length_nil, List.length_append]; omega))) (fun r w25 hw25 => ?_)
  obtain ⟨hr, v2, hs2, hk2⟩ := hw25
  rw [he] at hr
  subst hr
  rw [hp] at hs2
  have hB2 := Below.trans hB24 (KeepB.below hk2.1 hB24.size (stk_S (OwnM.nil _ _ _ w18) hb0))
  have hkb2 := hs2.blk
  have hon2 := hs2.own
  have hlb2 := Nat.succ_le_of_lt hkb2.lt
  have hin2 := OwnM.keepB hin0 hk2.1 (fun g hg => ⟨(hin0.lt g hg).2, notin_stk (by have := (hin0.lt g hg).1; omega) (fun h => by cases h)⟩)
  have hva2 := hrow.below hB2 (fun h0 => hrow.lt h0)
  have hine : ∀ g, pv = some ⟨g, 0, none⟩ → b < g ∧ ∀ k, v2.ownBlock = some k → k ≠ g := fun g hg => by have h1 := hin0.lt g (by rw [hg]; rfl); exact ⟨by omega, fun k hk => by rcases hk2.2 k hk with h | h; cases h; omega⟩
  refine WL.gy rfl rfl rfl rfl <| WL.p (.neq rfl rfl) rfl <| WL.p (.pkF rfl rfl rfl) rfl <| WL.nil <| ?_
  refine W.condF rfl rfl ?_
  refine W.skip ?_
  refine W.seq ?_
  refine W.seq ?_
  refine W.reg ?_ -- 5
  refine WL.p (.as rfl) rfl <| WL.nil <| ?_
  refine W.block ?_
  -- loop 1: writes [5, 43, 44, 45, 46, 47, 48, 49, 50, 51, 52, 53, 54, 55, 56, 57, 58]; reads from outside [4, 5]
  refine W.loop (α := List ObjV × Nat) (fun t => [(0, .slice p l.length c), (3, .pointer (some ⟨b, 0, none⟩)), (4, .slice pv l.length cv), (5, .int .i64 (t.2 : Int))]) (fun t w' => Below w.heap.size w w' ∧ StackOk w' b v2 500 1 2 l ∧ OwnM objL 39 w.heap.size w' (.slice pv l.length cv) t.1 ∧ t.1.length = l.length ∧ t.2 ≤ l.length) (fun t => l.length - t.2) ((l, 0)) ⟨rfl, rfl, rfl, rfl, trivial⟩ (⟨hB2, hs2, hin2.base (fun g hg => by have := ((hin2).lt g hg).1; omega), rfl, Nat.zero_le _⟩) (fun t w1 hR => ?_)
  obtain ⟨m1, s⟩ := t
  obtain ⟨hT, hs7, hin, hlm, hs⟩ := hR
  simp only at hs hlm hin ⊢
  refine W.seq ?_
  refine W.seq ?_
  refine W.reg ?_ -- 6
  refine WL.p (.mv rfl) rfl <| WL.p (.mv rfl) rfl <| WL.p (.lenS Try.underlying25 rfl) rfl <| WL.p (.lss rfl rfl) rfl <| WL.nil <| ?_
  refine W.cond rfl (fun h26 => ?_) (fun h26 => ?_) -- slot 46
  · have h26' := of_decide_eq_true h26
    refine W.skip ?_
    refine W.seq ?_
    refine W.block ?_
    refine W.reg ?_ -- 8
    refine WL.p (.mv rfl) rfl <| WL.p (.mv rfl) rfl <| WL.p (.mv rfl) rfl <| WL.p (.mv rfl) rfl <| WL.p (.ixm Try.underlying25 Try.sizeOf39 rfl rfl (hin.rowp.isp (by omega)) (s) (rfl) (by omega)) rfl <| WL.p (.fa Try.underlying39 rfl Try.sizeOf3 (by decide) rfl) rfl <| WL.r (Rd.ldc (Try.isAgg3 _) rfl ((hin.rowp.field (s) (by omega) 3 (by decide)).trans rfl)) rfl <| WL.p (.sub rfl rfl rfl) rfl <| WL.p (.ixm Try.underlying25 Try.sizeOf39 rfl rfl (hin.rowp.isp (by omega)) (s) (rfl) (by omega)) rfl <| WL.p (.fa Try.underlying39 rfl Try.sizeOf3 (by decide) rfl) rfl <| WL.stF (L := objL) ({ m1[s]'(by omega) with n := IntKind.i64.wrap ((m1[s]'(by omega)).n - 1) }) s 3 hin (by omega) (by decide) Try.sizeOf3 rfl rfl rfl rfl (fun wc gc hgc huc hoc => ?_)
    have hs8 := hs7.upd huc (by have := (hine gc hgc).1; omega) (hine gc hgc).2
    have hB8 := Upd.below hT (hin.lt gc (by rw [hgc]; rfl)).1 huc
    refine WL.nil <| ?_
    refine W.reg ?_ -- 7
    refine WL.p (.mv rfl) rfl <| WL.p (.iis (((s + 1 : Nat) : Int)) (.add rfl rfl (i64w (by omega))) (by omega)) rfl <| WL.p (.as rfl) rfl <| WL.nil <| ?_
    exact ⟨(_, s + 1), ⟨rfl, rfl, rfl, rfl, trivial⟩, ⟨hB8, hs8, hoc, by rw [List.length_set]; exact hlm, by ((try simp only) <;> omega)⟩, by ((try simp only) <;> omega)⟩
  · have h26' := of_decide_eq_false h26
    refine W.exit ?_ -- 0
    refine W.seq ?_
    refine W.reg ?_ -- 9
    refine WL.p (.mv rfl) rfl <| WL.call hb17 rfl rfl ((stk_All b _ 500 1 2 l _ hs7 (by omega))) (fun v5 w28 hw28 => ?_)
    have hv29 := RowM.below hin.rowp hw28.1 (fun h0 => hin.rowp.lt h0)
    have hB30 := btr hT hw28.1
    obtain ⟨q5, c5, rfl, hr5, -⟩ := (hw28.2).row
    have hs5 := hs7.below hw28.1
    have ho5 := (hw28.2).base (C := w.heap.size) (fun g hg => by have h1 := ((hw28.2).lt g hg).1; have h2 := hT.size; omega)
    have hne5 : ∀ g, q5 = some ⟨g, 0, none⟩ → b ≠ g ∧ ∀ k, v2.ownBlock = some k → k ≠ g := fun g hg => by have h1 := ((hw28.2).lt g (by rw [hg]; rfl)).1; exact ⟨by have := hs7.blk.lt; omega, fun k hk => by have := (hs7.own.lt k hk).2; omega⟩
    refine WL.p (.as rfl) rfl <| WL.nil <| ?_
    refine W.seq ?_
    refine W.seq ?_
    refine W.reg ?_ -- 10
    refine WL.p (.as rfl) rfl <| WL.nil <| ?_
    refine W.block ?_
    -- loop 2: writes [7, 61, 62, 63, 64, 65, 66, 67, 68, 69, 70, 71, 72, 73, 74, 75, 76]; reads from outside [6, 7]
    refine W.loop (α := List ObjV × Nat) (fun t => [(0, .slice p l.length c), (3, .pointer (some ⟨b, 0, none⟩)), (6, .slice q5 l.length c5), (7, .int .i64 (t.2 : Int))]) (fun t w' => Below w.heap.size w w' ∧ StackOk w' b v2 500 1 2 l ∧ OwnM objL 39 w.heap.size w' (.slice q5 l.length c5) t.1 ∧ t.1.length = l.length ∧ t.2 ≤ l.length) (fun t => l.length - t.2) ((l, 0)) ⟨rfl, rfl, rfl, rfl, trivial⟩ (⟨hB30, hs5, ho5, rfl, Nat.zero_le _⟩) (fun t w1 hR => ?_)
    obtain ⟨m2, s2⟩ := t
    obtain ⟨hT2, hs9, hin2, hlm2, hse2⟩ := hR
    simp only at hse2 hlm2 hin2 ⊢
    refine W.seq ?_
    refine W.seq ?_
    refine W.reg ?_ -- 11
    refine WL.p (.mv rfl) rfl <| WL.p (.mv rfl) rfl <| WL.p (.lenS Try.underlying25 rfl) rfl <| WL.p (.lss rfl rfl) rfl <| WL.nil <| ?_
    refine W.cond rfl (fun h31 => ?_) (fun h31 => ?_) -- slot 64
    · have h31' := of_decide_eq_true h31
      refine W.skip ?_
      refine W.seq ?_
      refine W.block ?_
      refine W.reg ?_ -- 13
      refine WL.p (.mv rfl) rfl <| WL.p (.mv rfl) rfl <| WL.p (.mv rfl) rfl <| WL.p (.mv rfl) rfl <| WL.p (.ixm Try.underlying25 Try.sizeOf39 rfl rfl (hin2.rowp.isp (by omega)) (s2) (rfl) (by omega)) rfl <| WL.p (.fa Try.underlying39 rfl Try.sizeOf3 (by decide) rfl) rfl <| WL.r (Rd.ldc (Try.isAgg3 _) rfl ((hin2.rowp.field (s2) (by omega) 0 (by decide)).trans rfl)) rfl <| WL.p (.sub rfl rfl rfl) rfl <| WL.p (.ixm Try.underlying25 Try.sizeOf39 rfl rfl (hin2.rowp.isp (by omega)) (s2) (rfl) (by omega)) rfl <| WL.p (.fa Try.underlying39 rfl Try.sizeOf3 (by decide) rfl) rfl <| WL.stF (L := objL) ({ m2[s2]'(by omega) with kind := IntKind.i64.wrap ((m2[s2]'(by omega)).kind - 1) }) s2 0 hin2 (by omega) (by decide) Try.sizeOf3 rfl rfl rfl rfl (fun wd gd hgd hud hod => ?_)
      have hs10 := hs9.upd hud (hne5 gd hgd).1 (hne5 gd hgd).2
      have hB10 := Upd.below hT2 (hin2.lt gd (by rw [hgd]; rfl)).1 hud
      refine WL.nil <| ?_
      refine W.reg ?_ -- 12
      refine WL.p (.mv rfl) rfl <| WL.p (.iis (((s2 + 1 : Nat) : Int)) (.add rfl rfl (i64w (by omega))) (by omega)) rfl <| WL.p (.as rfl) rfl <| WL.nil <| ?_
      exact ⟨(_, s2 + 1), ⟨rfl, rfl, rfl, rfl, trivial⟩, ⟨hB10, hs10, hod, by rw [List.length_set]; exact hlm2, by ((try simp only) <;> omega)⟩, by ((try simp only) <;> omega)⟩
    · have h31' := of_decide_eq_false h31
      refine W.exit ?_ -- 2
      refine W.seq ?_
      refine W.seq ?_
      refine W.reg ?_ -- 14
      refine WL.p (.mv rfl) rfl <| WL.call hb17 rfl rfl ((stk_All b _ 500 1 2 l _ hs9 (by omega))) (fun v6 w33 hw33 => ?_)
      have hv34 := RowM.below hin2.rowp hw33.1 (fun h0 => hin2.rowp.lt h0)
      have hB35 := btr hT2 hw33.1
      obtain ⟨q6, c6, rfl, hr6, -⟩ := (hw33.2).row
      have hs11 := hs9.below hw33.1
      refine WL.p (.mv rfl) rfl <| WL.c1 hb16 rfl rfl ((law_same q6 p c6 c l _ hr6 (hrow.below hB35 (fun h0 => hrow.lt h0)) (by omega))) (fun w36 hw36 => ?_)
      have hv37 := hv34.drew hw36
      have hB38 := Drew.below hB35 hw36
      have hs12 := hs11.drew hw36
      refine WL.p (.not rfl) rfl <| WL.nil <| ?_
      refine W.condF rfl rfl ?_
      refine W.skip ?_
      refine W.seq ?_
      refine W.reg ?_ -- 16
      refine WL.p (.mv rfl) rfl <| WL.p (.mv rfl) rfl <| WL.p (.lenS Try.underlying25 rfl) rfl <| WL.call hb19 rfl rfl ((take_all b _ 500 1 2 l _ hs12 (by omega) (by decide))) (fun r3 w39 hw39 => ?_)
      obtain ⟨q7, v7, rfl, ho7, hs13, hk7⟩ := hw39
      have hkb7 := hs13.blk
      have hon7 := hs13.own
      have hlb7 := Nat.succ_le_of_lt hkb7.lt
      have hne7 : ∀ g, q7.ownBlock = some g → g ∉ b :: v7.ownBlock.toList := fun g hg => by have h1 := (ho7.lt g hg).1; exact notin_stk (by have := hs12.blk.lt; omega) (fun h => by have := (hs12.own.lt _ (hk7.2 _ h)).2; omega)
      obtain ⟨p7, c7, rfl, hr7, -⟩ := ho7.row
      have hB13 := Below.trans hB38 (KeepB.below hk7.1 hB38.size (stk_S (hs12.own.base (C := b + 1) (fun g hg => (hs12.own.lt g hg).1)) hb0))
      refine WL.p (.mv rfl) rfl <| WL.p (.ext rfl rfl) rfl <| WL.p (.ext rfl rfl) rfl <| WL.p (.as rfl) rfl <| WL.p (.as rfl) rfl <| WL.nil <| ?_
      refine W.seq ?_
      refine W.reg ?_ -- 17
      refine WL.p (.mv rfl) rfl <| WL.p (.mv rfl) rfl <| WL.p (.lenS Try.underlying25 rfl) rfl <| WL.mkM (L := objL) (objZ) (l.length) Try.underlying25 inf39 rfl rfl rfl rfl (by omega) (by decide) rfl (fun w40 how40 hbw40 => ?_)
      have ho41 := OwnM.below hon7 hbw40
      have hk42 := hkb7.below hbw40 hkb7.lt
      have hv43 := RowM.below hr7 hbw40 (fun h0 => hr7.lt h0)
      have hB44 := btr hB13 hbw40
      have hlew40 := hbw40.size
      refine WL.call hb14 rfl rfl ((push_zeros b v7 l.length _ _ ⟨hk42, ho41⟩ (how40).rowp (by simp) hl)) (fun r4 w45 hw45 => ?_)
      have hk8 := hw45
      have hq8 := RowM.keepB hv43 hk8 (fun h0 => ⟨(hv43).lt h0, hne7 _ (by rw [hr7.isp h0]; rfl)⟩)
      have hB8 := Below.trans hB44 (KeepB.below hk8 hB44.size (stk_S ((ho41).base (C := b + 1) (fun g hg => ((ho41).lt g hg).1)) hb0))
      refine WL.nil <| ?_
      refine W.seq ?_
      refine W.reg ?_ -- 18
      refine WL.p (.as rfl) rfl <| WL.nil <| ?_
      refine W.seq ?_
      refine W.reg ?_ -- 19
      refine WL.p (.mv rfl) rfl <| WL.c1 hb18 rfl rfl ((nil_Pop _)) (fun w46 hw46 => ?_)
      have hv47 := RowM.below hq8 hw46 (fun h0 => hq8.lt h0)
      have hB48 := btr hB8 hw46
      refine WL.p (.mv rfl) rfl <| WL.p (.ext rfl rfl) rfl <| WL.p (.ext rfl rfl) rfl <| WL.alloc Try.zeroValue39 rfl (fun b49 wb49 eb49 hkb49 hub49 hsb49 => ?_)
      have hvl51 := fun h0 => eb49 ▸ hv47.lt h0
      have hv50 := RowM.upd hv47 hub49 (fun h0 => Nat.ne_of_lt (hvl51 h0))
      have hB52 := Upd.below hB48 (by rw [eb49]; exact hB48.size) hub49
      have hgeb49 : w.heap.size ≤ b49 := by rw [eb49]; exact hB48.size
      refine WL.stL rfl rfl hkb49 isz39 rfl rfl (fun w53 hkw53 huw53 hsw53 => ?_)
      have hv54 := RowM.upd hv50 huw53 (fun h0 => Nat.ne_of_lt (hvl51 h0))
      have hB55 := Upd.below hB52 (by omega) huw53
      refine WL.p (.as rfl) rfl <| WL.nil <| ?_
      refine W.seq ?_
      refine W.reg ?_ -- 20
      refine WL.p (.mv rfl) rfl <| WL.c1 hb19 rfl rfl ((nil_Take 1 _)) (fun w56 hw56 => ?_)
      obtain rfl := hw56
      refine WL.p (.mv rfl) rfl <| WL.p (.ext rfl rfl) rfl <| WL.p (.ext rfl rfl) rfl <| WL.p (.as rfl) rfl <| WL.p (.as rfl) rfl <| WL.nil <| ?_
      refine W.seq ?_
      refine W.reg ?_ -- 21
      refine WL.p (.mv rfl) rfl <| WL.c1 hb20 rfl rfl ((nil_Top 0 _)) (fun w57 hw57 => ?_)
      have hk58 := hkw53.below hw57 hkw53.lt
      have hv59 := RowM.below hv54 hw57 (fun h0 => hv54.lt h0)
      have hB60 := btr hB55 hw57
      refine WL.p (.mv rfl) rfl <| WL.p (.ext rfl rfl) rfl <| WL.p (.ext rfl rfl) rfl <| WL.alloc Try.zeroValue39 rfl (fun b61 wb61 eb61 hkb61 hub61 hsb61 => ?_)
      have hl63 : b49 < b61 := by rw [eb61]; exact hk58.lt
      have hk62 := hk58.upd hub61 (Nat.ne_of_lt hl63)
      have hvl65 := fun h0 => eb61 ▸ hv59.lt h0
      have hv64 := RowM.upd hv59 hub61 (fun h0 => Nat.ne_of_lt (hvl65 h0))
      have hB66 := Upd.below hB60 (by rw [eb61]; exact hB60.size) hub61
      have hgeb61 : w.heap.size ≤ b61 := by rw [eb61]; exact hB60.size
      refine WL.stL rfl rfl hkb61 isz39 rfl rfl (fun w67 hkw67 huw67 hsw67 => ?_)
      have hk68 := hk62.upd huw67 (by ((try simp only) <;> omega))
      have hv69 := RowM.upd hv64 huw67 (fun h0 => Nat.ne_of_lt (hvl65 h0))
      have hB70 := Upd.below hB66 (by omega) huw67
      refine WL.p (.as rfl) rfl <| WL.nil <| ?_
      refine W.seq ?_
      refine W.reg ?_ -- 22
      refine WL.p (.mv rfl) rfl <| WL.c1 hb22 rfl rfl ((nil_ToMark _)) (fun w71 hw71 => ?_)
      obtain rfl := hw71
      refine WL.p (.mv rfl) rfl <| WL.p (.ext rfl rfl) rfl <| WL.p (.ext rfl rfl) rfl <| WL.p (.as rfl) rfl <| WL.p (.as rfl) rfl <| WL.nil <| ?_
      refine W.seq ?_
      refine W.reg ?_ -- 23
      refine WL.p (.mv rfl) rfl <| WL.p (.mv rfl) rfl <| WL.c1 hb23 rfl rfl ((nil_Reset _ _)) (fun w72 hw72 => ?_)
      obtain rfl := hw72
      refine WL.nil <| ?_
      refine W.seq ?_
      refine W.reg ?_ -- 24
      refine WL.p (.as rfl) rfl <| WL.nil <| ?_
      refine W.seq ?_
      refine W.reg ?_ -- 25
      refine WL.p (.mv rfl) rfl <| WL.p (.eql rfl rfl) rfl <| WL.p (.mv rfl) rfl <| WL.gy rfl rfl rfl rfl <| WL.p (.mv rfl) rfl <| WL.gy rfl rfl rfl rfl <| WL.p (.mv rfl) rfl <| WL.gy rfl rfl rfl rfl <| WL.c1 hb16 rfl rfl ((law_same p7 p c7 c l _ hv69 (hrow.below hB70 (fun h0 => hrow.lt h0)) (by omega))) (fun w73 hw73 => ?_)
      have hk74 := hk68.drew hw73
      have hk75 := hkw67.drew hw73
      have hv76 := hv69.drew hw73
      have hB77 := Drew.below hB70 hw73
      refine WL.p (.pkT rfl rfl rfl) rfl <| WL.p (.mv rfl) rfl <| WL.gy rfl rfl rfl rfl <| WL.p (.mv rfl) rfl <| WL.gy rfl rfl rfl rfl <| WL.p (.mv rfl) rfl <| WL.gy rfl rfl rfl rfl <| WL.p (.eql rfl rfl) rfl <| WL.p (.pkT rfl rfl rfl) rfl <| WL.p (.mv rfl) rfl <| WL.gy rfl rfl rfl rfl <| WL.p (.mv rfl) rfl <| WL.gy rfl rfl rfl rfl <| WL.p (.mv rfl) rfl <| WL.gy rfl rfl rfl rfl <| WL.p (.eql rfl rfl) rfl <| WL.p (.pkT rfl rfl rfl) rfl <| WL.p (.mv rfl) rfl <| WL.gy rfl rfl rfl rfl <| WL.p (.mv rfl) rfl <| WL.gy rfl rfl rfl rfl <| WL.p (.mv rfl) rfl <| WL.gy rfl rfl rfl rfl <| WL.p (.eql rfl rfl) rfl <| WL.p (.pkT rfl rfl rfl) rfl <| WL.p (.mv rfl) rfl <| WL.gy rfl rfl rfl rfl <| WL.p (.mv rfl) rfl <| WL.gy rfl rfl rfl rfl <| WL.p (.mv rfl) rfl <| WL.gy rfl rfl rfl rfl <| WL.p (.eql rfl rfl) rfl <| WL.p (.pkT rfl rfl rfl) rfl <| WL.p (.mv rfl) rfl <| WL.gy rfl rfl rfl rfl <| WL.p (.mv rfl) rfl <| WL.gy rfl rfl rfl rfl <| WL.c1 hb14 rfl rfl ((nil_Push _ _)) (fun w78 hw78 => ?_)
      obtain rfl := hw78
      refine WL.gy rfl rfl rfl rfl <| WL.p (.mv rfl) rfl <| WL.gy rfl rfl rfl rfl <| WL.p (.eql rfl rfl) rfl <| WL.p (.pkT rfl rfl rfl) rfl <| WL.p (.mv rfl) rfl <| WL.gy rfl rfl rfl rfl <| WL.p (.mv rfl) rfl <| WL.gy rfl rfl rfl rfl <| ?_
      refine WL.p (.buildL (ps := _) blt39 rfl rfl rfl (by simp only [put1, List.map, List.zip, List.zipWith] <;> rfl)) rfl ?_
      refine WL.gy rfl rfl rfl rfl <| WL.c1 hb21 rfl rfl ((nil_Swap 0 objZ _)) (fun w79 hw79 => ?_)
      have hk80 := hk74.below hw79 hk74.lt
      have hk81 := hk75.below hw79 hk75.lt
      have hv82 := RowM.below hv76 hw79 (fun h0 => hv76.lt h0)
      have hB83 := btr hB77 hw79
      refine WL.gy rfl rfl rfl rfl <| WL.p (.mv rfl) rfl <| WL.gy rfl rfl rfl rfl <| WL.p (.eql rfl rfl) rfl <| WL.p (.pkT rfl rfl rfl) rfl <| WL.p (.mv rfl) rfl <| WL.gy rfl rfl rfl rfl <| WL.p (.mv rfl) rfl <| WL.gy rfl rfl rfl rfl <| WL.c1 hb15 rfl rfl ((nil_Roll 0 0 _)) (fun w84 hw84 => ?_)
      obtain rfl := hw84
      refine WL.gy rfl rfl rfl rfl <| WL.p (.mv rfl) rfl <| WL.gy rfl rfl rfl rfl <| WL.p (.eql rfl rfl) rfl <| WL.p (.pkT rfl rfl rfl) rfl <| WL.p (.mv rfl) rfl <| WL.gy rfl rfl rfl rfl <| WL.p (.mv rfl) rfl <| WL.gy rfl rfl rfl rfl <| WL.c1 hb24 rfl rfl ((nil_Need _ _ _ _)) (fun w85 hw85 => ?_)
      obtain rfl := hw85
      refine WL.gy rfl rfl rfl rfl <| WL.p (.mv rfl) rfl <| WL.gy rfl rfl rfl rfl <| WL.p (.eql rfl rfl) rfl <| WL.p (.pkT rfl rfl rfl) rfl <| WL.p (.mv rfl) rfl <| WL.gy rfl rfl rfl rfl <| WL.p (.mv rfl) rfl <| WL.gy rfl rfl rfl rfl <| WL.c1 hb26 rfl rfl ((nil_Len _)) (fun w86 hw86 => ?_)
      obtain rfl := hw86
      refine WL.gy rfl rfl rfl rfl <| WL.p (.eql rfl rfl) rfl <| WL.p (.pkT rfl rfl rfl) rfl <| WL.p (.mv rfl) rfl <| WL.gy rfl rfl rfl rfl <| WL.p (.mv rfl) rfl <| WL.gy rfl rfl rfl rfl <| WL.c1 hb17 rfl rfl ((nil_All _)) (fun w87 hw87 => ?_)
      obtain rfl := hw87
      refine WL.gy rfl rfl rfl rfl <| WL.p (.lenS Try.underlying25 rfl) rfl <| WL.gy rfl rfl rfl rfl <| WL.p (.eql rfl rfl) rfl <| WL.p (.pkT rfl rfl rfl) rfl <| WL.p (.as rfl) rfl <| WL.nil <| ?_
      refine W.ret (W.ret1 rfl rfl ?_)
      exact ⟨rfl, hB83⟩

end Go.Proofs.Ytnjalolknhepdaa
