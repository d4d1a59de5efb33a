/-
  Scan: the program's reader.
-/
import Derived.Test.YtjghbcjnplcleaaGreatDoorScanR4
namespace Go.Proofs.YtjghbcjnplcleaaGreatDoor
open Go.RowKit

theorem idx_blank : ∀ c : UInt8, decide (0 ≤ Lib.indexByte [0, 9, 10, 12, 13, 32] c) = blankB c := by
  intro c
  have key : ∀ n : Fin 256, decide (0 ≤ Lib.indexByte [0, 9, 10, 12, 13, 32] (UInt8.ofNat n.1)) = blankB (UInt8.ofNat n.1) := by decide +kernel
  have := key ⟨c.toNat, UInt8.toNat_lt c⟩
  simpa using this
theorem idx_delim : ∀ c : UInt8, decide (Lib.indexByte [40, 41, 60, 62, 91, 93, 123, 125, 47, 37] c < 0) = !delimB c := by
  intro c
  have key : ∀ n : Fin 256, decide (Lib.indexByte [40, 41, 60, 62, 91, 93, 123, 125, 47, 37] (UInt8.ofNat n.1) < 0) = !delimB (UInt8.ofNat n.1) := by decide +kernel
  have := key ⟨c.toNat, UInt8.toNat_lt c⟩
  simpa using this
theorem idx_end : ∀ c : UInt8, decide (Lib.indexByte [10, 12, 13] c < 0) = !endB c := by
  intro c
  have key : ∀ n : Fin 256, decide (Lib.indexByte [10, 12, 13] (UInt8.ofNat n.1) < 0) = !endB (UInt8.ofNat n.1) := by decide +kernel
  have := key ⟨c.toNat, UInt8.toNat_lt c⟩
  simpa using this
theorem lib_ib (l : List UInt8) (c : UInt8) (w : World) : Calls Tryz.prog 60 #[.string (bs l), .int .u8 (c.toNat : Int)] w fun e w' => e = .returned (.int .i64 (Lib.indexByte l c)) ∧ w = w' := by
  refine (Tryz.strings_IndexByte (bs l) (c.toNat : Int) w).mono fun e w' h => ⟨?_, h.2.symm⟩
  rw [h.1]
  have : (bs l).data.toList = l := by simp [bs]
  rw [this]
  have : ((c.toNat : Int).toNat).toUInt8 = c := by rw [Int.toNat_natCast]; exact UInt8.ofNat_toNat
  rw [this]

theorem scan_blank (c : UInt8) (w : World) :
    Calls Tryz.prog 234 #[.int .u8 (c.toNat : Int)] w fun e w' => e = .returned (.bool (blankB c)) ∧ w = w' := by
  refine W.enter Tryz.func234 rfl Tryz.ntmps234 (Nat.le_of_ble_eq_true rfl) ?_
  refine W.seq ?_
  refine W.reg ?_ -- 0
  refine WL.p (.as rfl) rfl <| WL.nil <| ?_
  refine W.seq ?_
  refine W.reg ?_ -- 1
  refine WL.p (.mv rfl) rfl <| WL.c1 hb60 rfl rfl ((lib_ib [0, 9, 10, 12, 13, 32] c _)) (fun w1 hw1 => ?_)
  obtain rfl := hw1
  refine WL.p (.bis (blankB c) (.geq rfl rfl) (by exact idx_blank c)) rfl <| WL.p (.as rfl) rfl <| WL.nil <| ?_
  refine W.ret (W.ret1 rfl rfl ?_)
  exact ⟨rfl, rfl⟩
theorem scan_regular (c : UInt8) (w : World) :
    Calls Tryz.prog 240 #[.int .u8 (c.toNat : Int)] w fun e w' => e = .returned (.bool (regB c)) ∧ w = w' := by
  refine W.enter Tryz.func240 rfl Tryz.ntmps240 (Nat.le_of_ble_eq_true rfl) ?_
  refine W.seq ?_
  refine W.reg ?_ -- 0
  refine WL.p (.as rfl) rfl <| WL.nil <| ?_
  refine W.seq ?_
  refine W.reg ?_ -- 1
  refine WL.p (.mv rfl) rfl <| WL.c1 hb234 rfl rfl ((scan_blank c _)) (fun w1 hw1 => ?_)
  obtain rfl := hw1
  refine WL.p (.not rfl) rfl <| WL.p (.mv rfl) rfl <| WL.gd rfl rfl rfl (fun g2 => ?_) (fun g2 => ?_)
  · have g2' := (nT g2)
    refine WL.p (.mv rfl) rfl <| WL.gy rfl rfl rfl (by rw [(nT g2)] <;> rfl) <| WL.c1 hb60 rfl rfl ((lib_ib [40, 41, 60, 62, 91, 93, 123, 125, 47, 37] c _)) (fun w3 hw3 => ?_)
    obtain rfl := hw3
    refine WL.gy rfl rfl rfl (by rw [(nT g2)] <;> rfl) <| WL.p (.bis (!delimB c) (.lss rfl rfl) (by exact idx_delim c)) rfl <| WL.p (.pkT rfl (by rw [(nT g2)] <;> rfl) rfl) rfl <| WL.p (.as rfl) rfl <| WL.nil <| ?_
    refine W.ret (W.ret1 rfl rfl ?_)
    exact ⟨ret_bool (by unfold regB; simp_all), rfl⟩
  · have g2' := (nF g2)
    refine WL.gn rfl rfl rfl (by rw [(nF g2)] <;> rfl) <| WL.gn rfl rfl rfl (by rw [(nF g2)] <;> rfl) <| WL.p (.pkF rfl (by rw [(nF g2)] <;> rfl) rfl) rfl <| WL.p (.as rfl) rfl <| WL.nil <| ?_
    refine W.ret (W.ret1 rfl rfl ?_)
    exact ⟨ret_bool (by unfold regB; simp_all), rfl⟩

/-- a reader in memory: block r, the bytes l, at place t -/
def RdOk (w : World) (r : Nat) (p : Option Addr) (l : List UInt8) (c t : Nat) : Prop := Blk w r #[.slice p l.length c, .int .i64 (t : Int)] 185 ∧ BytesAt w p l

theorem scan_more (r : Nat) (p : Option Addr) (l : List UInt8) (c t : Nat) (w : World) (h : RdOk w r p l c t) :
    Calls Tryz.prog 202 #[.pointer (some ⟨r, 0, none⟩)] w fun e w' => e = .returned (.bool (decide (t < l.length))) ∧ Drew w w' := by
  have hr := h.1
  refine W.enter Tryz.func202 rfl Tryz.ntmps202 (Nat.le_of_ble_eq_true rfl) ?_
  refine W.seq ?_
  refine W.reg ?_ -- 0
  refine WL.p (.as rfl) rfl <| WL.nil <| ?_
  refine W.seq ?_
  refine W.regQ mixed (by kernel_rfl) ?_ -- 1
  refine WQ.p (.mv rfl) rfl <| WQ.p (.nck rfl) rfl <| WQ.p (.fa Tryz.underlying185 rfl Tryz.sizeOf3 (by decide) rfl) rfl <| WQ.r (fun m => Rd.ld (Tryz.isAgg3 _) rfl hr rfl) rfl <| WQ.p (.mv rfl) rfl <| WQ.p (.nck rfl) rfl <| WQ.p (.fa Tryz.underlying185 rfl Tryz.sizeOf22 (by decide) rfl) rfl <| WQ.r (fun m => Rd.ld (Tryz.isAgg22 _) rfl hr rfl) rfl <| WQ.p (.lenS Tryz.underlying22 rfl) rfl <| WQ.p (.lss rfl rfl) rfl <| WQ.p (.as rfl) rfl <| WQ.nil (fun w1 dw1 => ?_)
  have hk2 := hr.drew dw1
  refine W.ret (W.ret1 rfl rfl ?_)
  exact ⟨ret_bool (by (apply Bool.eq_iff_iff.2; (try simp only [Bool.and_eq_true, Bool.or_eq_true, Bool.not_eq_true', decide_eq_true_eq, decide_eq_false_iff_not, Bool.false_eq_true, Bool.not_eq_false', false_iff, iff_false, true_iff, iff_true]); omega)), by assumption⟩
theorem more_q (r : Nat) (p : Option Addr) (l : List UInt8) (c t : Nat) (w : World) (h : RdOk w r p l c t) (m : Nat) :
    Calls Tryz.prog 202 #[.pointer (some ⟨r, 0, none⟩)] (w.drewN m) fun e w' => e = .returned (.bool (decide (t < l.length))) ∧ ∃ k, w' = w.drewN k :=
  (scan_more r p l c t (w.drewN m) ⟨h.1, h.2.drewN m⟩).mono fun e w' h => ⟨h.1, Drew.trans ⟨m, rfl⟩ h.2⟩

/-- the byte there -/
def takeS (l : List UInt8) (t : Nat) : Except Int UInt8 := match l[t]? with | some x => .ok x | none => .error 14
theorem scan_take (r : Nat) (p : Option Addr) (l : List UInt8) (c t : Nat) (w : World) (h : RdOk w r p l c t) (hne : 0 < l.length → (pA p).block ≠ r) (hl : l.length ≤ 1000000) :
    Calls Tryz.prog 235 #[.pointer (some ⟨r, 0, none⟩)] w (Ends 35 (takeS l t) (fun x => .int .u8 (x.toNat : Int)) (fun _ w' => RdOk w' r p l c (t + 1) ∧ Touch w.heap.size r w w') (fun w' => Touch w.heap.size r w w')) := by
  have hr := h.1
  have hb := h.2
  refine W.enter Tryz.func235 rfl Tryz.ntmps235 (Nat.le_of_ble_eq_true rfl) ?_
  have hB0 := Touch.refl (w.heap.size) r w
  refine W.seq ?_
  refine W.reg ?_ -- 0
  refine WL.p (.as rfl) rfl <| WL.nil <| ?_
  refine W.seq ?_
  refine W.seq ?_
  refine W.reg ?_ -- 1
  refine WL.p (.mv rfl) rfl <| WL.c1 hb202 rfl rfl ((scan_more r p l c t _ ⟨hr, hb⟩)) (fun w1 hw1 => ?_)
  have hk2 := hr.drew hw1
  have hv3 := hb.drew hw1
  have hB4 := Touch.trans hB0 (Touch.of_drew hw1)
  refine WL.p (.not rfl) rfl <| WL.nil <| ?_
  refine W.cond rfl (fun h5 => ?_) (fun h5 => ?_) -- slot 5
  · have h5' := (nT h5)
    refine W.reg ?_ -- 2
    refine WL.p (.mkI Tryz.underlying35 rfl) rfl <| WL.panic rfl (pn_is ?_)
    exact Ends.err 14 (by unfold takeS; rw [List.getElem?_eq_none (by simp_all)]) hB4
  · have h5' := (nF h5)
    have hlt : t < l.length := by simp_all
    refine W.skip ?_
    refine W.seq ?_
    refine W.reg ?_ -- 3
    refine WL.p (.mv rfl) rfl <| WL.p (.nck rfl) rfl <| WL.p (.fa Tryz.underlying185 rfl Tryz.sizeOf3 (by decide) rfl) rfl <| WL.r (Rd.ld (Tryz.isAgg3 _) rfl hk2 rfl) rfl <| WL.p (.iis (((t + 1 : Nat) : Int)) (.add rfl rfl (i64w (by omega))) (by omega)) rfl <| WL.p (.nck rfl) rfl <| WL.p (.fa Tryz.underlying185 rfl Tryz.sizeOf3 (by decide) rfl) rfl <| WL.st Tryz.sizeOf3 rfl rfl rfl hk2 (by first | decide | exact Nat.le_of_ble_eq_true rfl) (fun w6 hkw6 huw6 hsw6 => ?_)
    have hv7 := BytesAt.upd hv3 huw6 hne
    have hB8 := Touch.trans hB4 (Touch.of_upd huw6)
    refine WL.nil <| ?_
    refine W.seq ?_
    refine W.regQ mixed (by kernel_rfl) ?_ -- 4
    refine WQ.p (.mv rfl) rfl <| WQ.p (.nck rfl) rfl <| WQ.p (.fa Tryz.underlying185 rfl Tryz.sizeOf22 (by decide) rfl) rfl <| WQ.r (fun m => Rd.ld (Tryz.isAgg22 _) rfl hkw6 rfl) rfl <| WQ.p (.mv rfl) rfl <| WQ.p (.nck rfl) rfl <| WQ.p (.fa Tryz.underlying185 rfl Tryz.sizeOf3 (by decide) rfl) rfl <| WQ.r (fun m => Rd.ld (Tryz.isAgg3 _) rfl hkw6 rfl) rfl <| WQ.p (.iis ((t : Int)) (.sub rfl rfl (i64w (by omega))) (by omega)) rfl <| WQ.p (.ixb Tryz.underlying22 Tryz.sizeOf5 rfl rfl (hv7.isp (by omega)) (t) (by omega) (by omega)) rfl <| WQ.r (fun m => Rd.ldc (Tryz.isAgg5 _) rfl ((hv7.drewN m).cells (t) (by omega))) rfl <| WQ.p (.as rfl) rfl <| WQ.nil (fun w9 dw9 => ?_)
    have hk10 := hkw6.drew dw9
    have hv11 := hv7.drew dw9
    have hB12 := Touch.trans hB8 (Touch.of_drew dw9)
    refine W.ret (W.ret1 rfl rfl ?_)
    exact Ends.ok (l[t]'hlt) (by unfold takeS; rw [List.getElem?_eq_getElem hlt]) rfl ⟨⟨hk10, hv11⟩, hB12⟩
/-- this byte stands there -/
def nextB (l : List UInt8) (t : Nat) (x : UInt8) : Bool := decide (t < l.length) && decide (((l[t]!).toNat : Int) = (x.toNat : Int))
theorem nextB_t {l : List UInt8} {t : Nat} {x : UInt8} (h : nextB l t x = true) : ∃ ht : t < l.length, l[t]'ht = x := by
  unfold nextB at h
  simp only [Bool.and_eq_true, decide_eq_true_eq] at h
  obtain ⟨h1, h2⟩ := h
  rw [getElem!_pos l t h1] at h2
  exact ⟨h1, u8_eq h2⟩
theorem nextB_f {l : List UInt8} {t : Nat} {x : UInt8} (h : nextB l t x = false) (ht : t < l.length) : l[t] ≠ x := by
  unfold nextB at h
  rw [decide_eq_true ht, Bool.true_and, getElem!_pos l t ht] at h
  exact u8_ne (of_decide_eq_false h)
theorem scan_next (r : Nat) (p : Option Addr) (l : List UInt8) (c t : Nat) (x : UInt8) (w : World) (h : RdOk w r p l c t) (hne : 0 < l.length → (pA p).block ≠ r) (hl : l.length ≤ 1000000) (ht : t ≤ l.length) :
    Calls Tryz.prog 237 #[.pointer (some ⟨r, 0, none⟩), .int .u8 (x.toNat : Int)] w fun e w' => e = .returned (.bool (nextB l t x)) ∧ RdOk w' r p l c (if nextB l t x then t + 1 else t) ∧ Touch w.heap.size r w w' := by
  have hr := h.1
  have hb := h.2
  refine W.enter Tryz.func237 rfl Tryz.ntmps237 (Nat.le_of_ble_eq_true rfl) ?_
  have hB0 := Touch.refl (w.heap.size) r w
  refine W.seq ?_
  refine W.reg ?_ -- 0
  refine WL.p (.as rfl) rfl <| WL.nil <| ?_
  refine W.seq ?_
  refine W.cutBQ 20 (nextB l t x) ?_ (fun w1 dw1 => ?_)
  · skip
    refine W.regQ mixed (by kernel_rfl) ?_ -- 1
    refine WQ.p (.mv rfl) rfl <| WQ.c1 hb202 rfl rfl (fun m => (more_q r p l c t _ ⟨hr, hb⟩ m)) <| WQ.p (.mv rfl) rfl <| WQ.gd rfl rfl rfl (fun g2 => ?_) (fun g2 => ?_)
    · have g2' := of_decide_eq_true g2
      refine WQ.p (.mv rfl) rfl <| WQ.gy rfl rfl rfl g2 <| WQ.p (.nck rfl) rfl <| WQ.gy rfl rfl rfl g2 <| WQ.p (.fa Tryz.underlying185 rfl Tryz.sizeOf22 (by decide) rfl) rfl <| WQ.gy rfl rfl rfl g2 <| WQ.r (fun m => Rd.ld (Tryz.isAgg22 _) rfl hr rfl) rfl <| WQ.gy rfl rfl rfl g2 <| WQ.p (.mv rfl) rfl <| WQ.gy rfl rfl rfl g2 <| WQ.p (.nck rfl) rfl <| WQ.gy rfl rfl rfl g2 <| WQ.p (.fa Tryz.underlying185 rfl Tryz.sizeOf3 (by decide) rfl) rfl <| WQ.gy rfl rfl rfl g2 <| WQ.r (fun m => Rd.ld (Tryz.isAgg3 _) rfl hr rfl) rfl <| WQ.gy rfl rfl rfl g2 <| WQ.p (.ixb Tryz.underlying22 Tryz.sizeOf5 rfl rfl (hb.isp (by omega)) (t) (by omega) (by omega)) rfl <| WQ.gy rfl rfl rfl g2 <| WQ.r (fun m => Rd.ldc (Tryz.isAgg5 _) rfl ((hb.drewN m).cells (t) (by omega))) rfl <| WQ.gy rfl rfl rfl g2 <| WQ.p (.mv rfl) rfl <| WQ.gy rfl rfl rfl g2 <| WQ.p (.eql rfl rfl) rfl <| WQ.p (.pkT rfl g2 rfl) rfl <| WQ.nil (fun w3 dw3 => ?_)
      have hk4 := hr.drew dw3
      have hv5 := hb.drew dw3
      have hB6 := Touch.trans hB0 (Touch.of_drew dw3)
      exact ⟨⟨lk_b rfl (by (by_cases hq : t < l.length) <;> (unfold nextB; first | (exfalso; simp_all; done) | (rw [getElem!_pos l t hq]; simp_all; done) | (rw [decide_eq_false hq]; simp_all; done))), by repeat (first | exact Le.refl _ | refine Le.cons rfl ?_)⟩, dw3⟩
    · have g2' := of_decide_eq_false g2
      refine WQ.gn rfl rfl rfl g2 <| WQ.gn rfl rfl rfl g2 <| WQ.gn rfl rfl rfl g2 <| WQ.gn rfl rfl rfl g2 <| WQ.gn rfl rfl rfl g2 <| WQ.gn rfl rfl rfl g2 <| WQ.gn rfl rfl rfl g2 <| WQ.gn rfl rfl rfl g2 <| WQ.gn rfl rfl rfl g2 <| WQ.gn rfl rfl rfl g2 <| WQ.gn rfl rfl rfl g2 <| WQ.p (.pkF rfl g2 rfl) rfl <| WQ.nil (fun w7 dw7 => ?_)
      have hk8 := hr.drew dw7
      have hv9 := hb.drew dw7
      have hB10 := Touch.trans hB0 (Touch.of_drew dw7)
      exact ⟨⟨lk_b rfl (by (by_cases hq : t < l.length) <;> (unfold nextB; first | (exfalso; simp_all; done) | (rw [getElem!_pos l t hq]; simp_all; done) | (rw [decide_eq_false hq]; simp_all; done))), by repeat (first | exact Le.refl _ | refine Le.cons rfl ?_)⟩, dw7⟩
  have hk11 := hr.drew dw1
  have hv12 := hb.drew dw1
  have hB13 := Touch.trans hB0 (Touch.of_drew dw1)
  refine W.cond rfl (fun h14 => ?_) (fun h14 => ?_) -- slot 20
  · have h14' := h14
    refine W.seq ?_
    refine W.reg ?_ -- 2
    refine WL.p (.mv rfl) rfl <| WL.p (.nck rfl) rfl <| WL.p (.fa Tryz.underlying185 rfl Tryz.sizeOf3 (by decide) rfl) rfl <| WL.r (Rd.ld (Tryz.isAgg3 _) rfl hk11 rfl) rfl <| WL.p (.iis (((t + 1 : Nat) : Int)) (.add rfl rfl (i64w (by omega))) (by omega)) rfl <| WL.p (.nck rfl) rfl <| WL.p (.fa Tryz.underlying185 rfl Tryz.sizeOf3 (by decide) rfl) rfl <| WL.st Tryz.sizeOf3 rfl rfl rfl hk11 (by first | decide | exact Nat.le_of_ble_eq_true rfl) (fun w15 hkw15 huw15 hsw15 => ?_)
    have hv16 := BytesAt.upd hv12 huw15 hne
    have hB17 := Touch.trans hB13 (Touch.of_upd huw15)
    refine WL.nil <| ?_
    refine W.seq ?_
    refine W.reg ?_ -- 3
    refine WL.p (.as rfl) rfl <| WL.nil <| ?_
    refine W.ret (W.ret1 rfl rfl ?_)
    first
    | exact ⟨ret_bool (by simp_all), by rw [if_pos (by assumption)]; exact ⟨hkw15, hv16⟩, hB17⟩
    | exact ⟨ret_bool (by simp_all), by rw [if_neg (bF (by assumption))]; exact ⟨hkw15, hv16⟩, hB17⟩
  · have h14' := h14
    refine W.skip ?_
    refine W.seq ?_
    refine W.reg ?_ -- 4
    refine WL.p (.as rfl) rfl <| WL.nil <| ?_
    refine W.ret (W.ret1 rfl rfl ?_)
    first
    | exact ⟨ret_bool (by simp_all), by rw [if_pos (by assumption)]; exact ⟨hk11, hv12⟩, hB13⟩
    | exact ⟨ret_bool (by simp_all), by rw [if_neg (bF (by assumption))]; exact ⟨hk11, hv12⟩, hB13⟩
theorem ib_q (l : List UInt8) (c : UInt8) (w : World) (m : Nat) : Calls Tryz.prog 60 #[.string (bs l), .int .u8 (c.toNat : Int)] (w.drewN m) fun e w' => e = .returned (.int .i64 (Lib.indexByte l c)) ∧ ∃ k, w' = w.drewN k :=
  (lib_ib l c (w.drewN m)).mono fun e w' h => ⟨h.1, m, h.2.symm⟩
theorem scan_skip (r : Nat) (p : Option Addr) (l : List UInt8) (c a : Nat) (w : World) (h : RdOk w r p l c a) (hne : 0 < l.length → (pA p).block ≠ r) (hl : l.length ≤ 1000000) (ha : a ≤ l.length) :
    Calls Tryz.prog 201 #[.pointer (some ⟨r, 0, none⟩)] w fun e w' => e = .returned (.tuple #[]) ∧ RdOk w' r p l c (skipAt false l a) ∧ Touch w.heap.size r w w' := by
  have hr := h.1
  have hb := h.2
  obtain ⟨R, hR⟩ : ∃ R, R = skipAt false l a := ⟨_, rfl⟩
  rw [← hR]
  refine W.enter Tryz.func201 rfl Tryz.ntmps201 (Nat.le_of_ble_eq_true rfl) ?_
  have hB0 := Touch.refl (w.heap.size) r w
  refine W.block ?_
  -- loop 1: writes [2, 3, 4, 5, 6, 7, 8, 9, 10, 11, 12, 13, 14, 15, 16, 17, 18, 19, 20, 21, 22, 23, 24, 25, 26, 27, 28, 29, 30, 31, 32, 33, 34, 35, 36, 37, 38, 39, 40, 41, 42, 43, 44, 45, 46, 47, 48, 49, 50]; reads from outside [0]
  refine W.loop (α := Nat) (fun t => [(0, .pointer (some ⟨r, 0, none⟩))]) (fun t w' => RdOk w' r p l c t ∧ Touch w.heap.size r w w' ∧ t ≤ l.length ∧ skipAt false l t = R) (fun t => l.length - t) (a) ⟨rfl, trivial⟩ (⟨h, Touch.refl _ _ _, ha, hR.symm⟩) (fun t w1 hR => ?_)
  obtain ⟨hrd, hT, ht, hw⟩ := hR
  obtain ⟨s, rfl⟩ : ∃ s, s = t := ⟨t, rfl⟩
  refine W.seq ?_
  refine W.seq ?_
  refine W.reg ?_ -- 0
  refine WL.p (.mv rfl) rfl <| WL.c1 hb202 rfl rfl ((scan_more r p l c s _ ⟨hrd.1, hrd.2⟩)) (fun w1 hw1 => ?_)
  have hk2 := hrd.1.drew hw1
  have hv3 := hrd.2.drew hw1
  have hB4 := Touch.trans hT (Touch.of_drew hw1)
  refine WL.nil <| ?_
  refine W.cond rfl (fun h5 => ?_) (fun h5 => ?_) -- slot 4
  · have h5' := of_decide_eq_true h5
    have hs := skipAt_f l s (by omega)
    refine W.skip ?_
    refine W.block ?_
    refine W.seq ?_
    refine W.regQ mixed (by kernel_rfl) ?_ -- 1
    refine WQ.p (.mv rfl) rfl <| WQ.p (.nck rfl) rfl <| WQ.p (.fa Tryz.underlying185 rfl Tryz.sizeOf22 (by decide) rfl) rfl <| WQ.r (fun m => Rd.ld (Tryz.isAgg22 _) rfl hk2 rfl) rfl <| WQ.p (.mv rfl) rfl <| WQ.p (.nck rfl) rfl <| WQ.p (.fa Tryz.underlying185 rfl Tryz.sizeOf3 (by decide) rfl) rfl <| WQ.r (fun m => Rd.ld (Tryz.isAgg3 _) rfl hk2 rfl) rfl <| WQ.p (.ixb Tryz.underlying22 Tryz.sizeOf5 rfl rfl (hv3.isp (by omega)) (s) (by omega) (by omega)) rfl <| WQ.r (fun m => Rd.ldc (Tryz.isAgg5 _) rfl ((hv3.drewN m).cells (s) (by omega))) rfl <| WQ.p (.as rfl) rfl <| WQ.nil (fun w6 dw6 => ?_)
    have hk7 := hk2.drew dw6
    have hv8 := hv3.drew dw6
    have hB9 := Touch.trans hB4 (Touch.of_drew dw6)
    refine W.block ?_
    refine W.seq ?_
    refine W.reg ?_ -- 2
    refine WL.p (.mv rfl) rfl <| WL.c1 hb234 rfl rfl ((scan_blank _ _)) (fun w10 hw10 => ?_)
    obtain rfl := hw10
    refine WL.p (.as rfl) rfl <| WL.nil <| ?_
    refine W.cond rfl (fun h11 => ?_) (fun h11 => ?_) -- slot 15
    · have h11' := h11
      refine W.reg ?_ -- 3
      refine WL.p (.mv rfl) rfl <| WL.p (.nck rfl) rfl <| WL.p (.fa Tryz.underlying185 rfl Tryz.sizeOf3 (by decide) rfl) rfl <| WL.r (Rd.ld (Tryz.isAgg3 _) rfl hk7 rfl) rfl <| WL.p (.iis (((s + 1 : Nat) : Int)) (.add rfl rfl (i64w (by omega))) (by omega)) rfl <| WL.p (.nck rfl) rfl <| WL.p (.fa Tryz.underlying185 rfl Tryz.sizeOf3 (by decide) rfl) rfl <| WL.st Tryz.sizeOf3 rfl rfl rfl hk7 (by first | decide | exact Nat.le_of_ble_eq_true rfl) (fun w12 hkw12 huw12 hsw12 => ?_)
      have hv13 := BytesAt.upd hv8 huw12 hne
      have hB14 := Touch.trans hB9 (Touch.of_upd huw12)
      refine WL.nil <| ?_
      first
      | exact ⟨s + 1, ⟨rfl, trivial⟩, ⟨⟨hkw12, hv13⟩, hB14, by omega, by rw [← hw, hs, if_neg (fun e => absurd (show blankB (l[s]'(by omega)) = true by assumption) (by rw [e]; decide)), if_pos (by assumption)]⟩, by omega⟩
      | exact ⟨t, ⟨rfl, trivial⟩, ⟨⟨hkw12, hv13⟩, hB14, by omega, by omega⟩, by omega⟩
    · have h11' := h11
      refine W.seq ?_
      refine W.reg ?_ -- 4
      refine WL.p (.mv rfl) rfl <| WL.p (.eql rfl rfl) rfl <| WL.p (.as rfl) rfl <| WL.nil <| ?_
      refine W.cond rfl (fun h15 => ?_) (fun h15 => ?_) -- slot 25
      · have h15' := of_decide_eq_true h15
        refine W.block ?_
        -- loop 2: writes [28, 29, 30, 31, 32, 33, 34, 35, 36, 37, 38, 39, 40, 41, 42, 43, 44, 45, 46, 47, 48, 49, 50]; reads from outside [0]
        refine W.loop (α := Nat) (fun t => [(0, .pointer (some ⟨r, 0, none⟩))]) (fun t w' => RdOk w' r p l c t ∧ Touch w.heap.size r w w' ∧ s ≤ t ∧ t ≤ l.length ∧ skipAt true l t = R ∧ (t = s → l[s]'(by omega) = 37)) (fun t => l.length - t) (s) ⟨rfl, trivial⟩ (⟨⟨hk7, hv8⟩, hB9, by omega, by omega, by rw [skipAt_t l s (by omega), if_neg (by rw [show l[s] = 37 from u8_eq (by assumption)]; decide), ← hw, hs, if_pos (u8_eq (by assumption))], fun _ => u8_eq (by assumption)⟩) (fun t w1 hR => ?_)
        obtain ⟨hrd2, hT2, hst, ht2, hw2, h37⟩ := hR
        refine W.seq ?_
        refine W.cutBQ 43 (cmtB l t) ?_ (fun w16 dw16 => ?_)
        · skip
          refine W.regQ mixed (by kernel_rfl) ?_ -- 5
          refine WQ.p (.mv rfl) rfl <| WQ.c1 hb202 rfl rfl (fun m => (more_q r p l c t _ ⟨hrd2.1, hrd2.2⟩ m)) <| WQ.p (.mv rfl) rfl <| WQ.gd rfl rfl rfl (fun g17 => ?_) (fun g17 => ?_)
          · have g17' := of_decide_eq_true g17
            refine WQ.p (.mv rfl) rfl <| WQ.gy rfl rfl rfl g17 <| WQ.p (.nck rfl) rfl <| WQ.gy rfl rfl rfl g17 <| WQ.p (.fa Tryz.underlying185 rfl Tryz.sizeOf22 (by decide) rfl) rfl <| WQ.gy rfl rfl rfl g17 <| WQ.r (fun m => Rd.ld (Tryz.isAgg22 _) rfl hrd2.1 rfl) rfl <| WQ.gy rfl rfl rfl g17 <| WQ.p (.mv rfl) rfl <| WQ.gy rfl rfl rfl g17 <| WQ.p (.nck rfl) rfl <| WQ.gy rfl rfl rfl g17 <| WQ.p (.fa Tryz.underlying185 rfl Tryz.sizeOf3 (by decide) rfl) rfl <| WQ.gy rfl rfl rfl g17 <| WQ.r (fun m => Rd.ld (Tryz.isAgg3 _) rfl hrd2.1 rfl) rfl <| WQ.gy rfl rfl rfl g17 <| WQ.p (.ixb Tryz.underlying22 Tryz.sizeOf5 rfl rfl (hrd2.2.isp (by omega)) (t) (by omega) (by omega)) rfl <| WQ.gy rfl rfl rfl g17 <| WQ.r (fun m => Rd.ldc (Tryz.isAgg5 _) rfl ((hrd2.2.drewN m).cells (t) (by omega))) rfl <| WQ.gy rfl rfl rfl g17 <| WQ.c1 hb60 rfl rfl (fun m => (ib_q [10, 12, 13] _ _ m)) <| WQ.gy rfl rfl rfl g17 <| WQ.p (.bis (!endB (l[t]'(by omega))) (.lss rfl rfl) (by exact idx_end _)) rfl <| WQ.p (.pkT rfl g17 rfl) rfl <| WQ.nil (fun w18 dw18 => ?_)
            have hk19 := hrd2.1.drew dw18
            have hv20 := hrd2.2.drew dw18
            have hB21 := Touch.trans hT2 (Touch.of_drew dw18)
            exact ⟨⟨lk_b rfl (by rw [cmtB_eq]; (by_cases hq : t < l.length) <;> (first | (exfalso; omega) | (rw [getElem!_pos l t hq, decide_eq_true hq]; rfl) | (rw [decide_eq_false hq]; simp_all; done))), by repeat (first | exact Le.refl _ | refine Le.cons rfl ?_)⟩, dw18⟩
          · have g17' := of_decide_eq_false g17
            refine WQ.gn rfl rfl rfl g17 <| WQ.gn rfl rfl rfl g17 <| WQ.gn rfl rfl rfl g17 <| WQ.gn rfl rfl rfl g17 <| WQ.gn rfl rfl rfl g17 <| WQ.gn rfl rfl rfl g17 <| WQ.gn rfl rfl rfl g17 <| WQ.gn rfl rfl rfl g17 <| WQ.gn rfl rfl rfl g17 <| WQ.gn rfl rfl rfl g17 <| WQ.gn rfl rfl rfl g17 <| WQ.p (.pkF rfl g17 rfl) rfl <| WQ.nil (fun w22 dw22 => ?_)
            have hk23 := hrd2.1.drew dw22
            have hv24 := hrd2.2.drew dw22
            have hB25 := Touch.trans hT2 (Touch.of_drew dw22)
            exact ⟨⟨lk_b rfl (by rw [cmtB_eq]; (by_cases hq : t < l.length) <;> (first | (exfalso; omega) | (rw [getElem!_pos l t hq, decide_eq_true hq]; rfl) | (rw [decide_eq_false hq]; simp_all; done))), by repeat (first | exact Le.refl _ | refine Le.cons rfl ?_)⟩, dw22⟩
        have hk26 := hrd2.1.drew dw16
        have hv27 := hrd2.2.drew dw16
        have hB28 := Touch.trans hT2 (Touch.of_drew dw16)
        refine W.cond rfl (fun h29 => ?_) (fun h29 => ?_) -- slot 43
        · have h29' := h29
          obtain ⟨hc1, hc2⟩ := cmtB_t (by assumption)
          rw [skipAt_t l t hc1, hc2, if_neg (by simp)] at hw2
          refine W.skip ?_
          refine W.block ?_
          refine W.reg ?_ -- 6
          refine WL.p (.mv rfl) rfl <| WL.p (.nck rfl) rfl <| WL.p (.fa Tryz.underlying185 rfl Tryz.sizeOf3 (by decide) rfl) rfl <| WL.r (Rd.ld (Tryz.isAgg3 _) rfl hk26 rfl) rfl <| WL.p (.iis (((t + 1 : Nat) : Int)) (.add rfl rfl (i64w (by omega))) (by omega)) rfl <| WL.p (.nck rfl) rfl <| WL.p (.fa Tryz.underlying185 rfl Tryz.sizeOf3 (by decide) rfl) rfl <| WL.st Tryz.sizeOf3 rfl rfl rfl hk26 (by first | decide | exact Nat.le_of_ble_eq_true rfl) (fun w30 hkw30 huw30 hsw30 => ?_)
          have hv31 := BytesAt.upd hv27 huw30 hne
          have hB32 := Touch.trans hB28 (Touch.of_upd huw30)
          refine WL.nil <| ?_
          exact ⟨t + 1, ⟨rfl, trivial⟩, ⟨⟨hkw30, hv31⟩, hB32, by omega, by omega, by omega, fun h => by omega⟩, by omega⟩
        · have h29' := h29
          obtain ⟨hc1, hc2⟩ := cmtB_f (by assumption)
          have hc3 : t ≠ s := fun e => by subst e; exact hc2 (by omega) (h37 rfl)
          refine W.exit ?_ -- 3
          first
          | exact ⟨s + 1, ⟨rfl, trivial⟩, ⟨⟨hk26, hv27⟩, hB28, by omega, by rw [← hw, hs, if_neg (fun e => absurd (show blankB (l[s]'(by omega)) = true by assumption) (by rw [e]; decide)), if_pos (by assumption)]⟩, by omega⟩
          | exact ⟨t, ⟨rfl, trivial⟩, ⟨⟨hk26, hv27⟩, hB28, by omega, by omega⟩, by omega⟩
      · have h15' := of_decide_eq_false h15
        refine W.ret (W.ret0 rfl  ?_)
        first
        | exact ⟨rfl, ⟨by rw [show R = s by rw [← hw, skipAt_end false l s (by omega)]; omega]; exact hk7, hv8⟩, hB9⟩
        | exact ⟨rfl, ⟨by rw [← hw, hs, if_neg (u8_ne (by assumption)), if_neg (bF (by assumption))]; exact hk7, hv8⟩, hB9⟩
  · have h5' := of_decide_eq_false h5
    refine W.exit ?_ -- 0
    refine W.norm (W.ret0 rfl ?_)
    first
    | exact ⟨rfl, ⟨by rw [show R = s by rw [← hw, skipAt_end false l s (by omega)]; omega]; exact hk2, hv3⟩, hB4⟩
    | exact ⟨rfl, ⟨by rw [← hw, hs, if_neg (u8_ne (by assumption)), if_neg (bF (by assumption))]; exact hk2, hv3⟩, hB4⟩

end Go.Proofs.YtjghbcjnplcleaaGreatDoor
