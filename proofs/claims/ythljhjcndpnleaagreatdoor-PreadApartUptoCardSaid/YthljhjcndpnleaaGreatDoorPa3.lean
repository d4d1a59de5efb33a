/-
  What the claim leans on, part 3: pruned and joined by my own tool out of the texts that stand in wip/ as templates.
-/
import Derived.Test.YthljhjcndpnleaaGreatDoorPa2
namespace Go.Proofs.YthljhjcndpnleaaGreatDoor
open Go.RowKit
open Go.Proofs.Tryz
section
section
variable {P : Program} {f : Fr} {x y : Operand} {tx ty : TypeId} {a b r : Int} {k : IntKind}
theorem Pure.shr6 (hx : evo f x = some (.int .u8 a)) (hr : a.fdiv 64 = r) : Pure P (.binOp .shr tx x (.const (.int .u64 6)) ty) f (.int .u8 r) := fun ρ hρ d ty' pos aft g w => by
 have h4 : ρ (.const (.int .u64 6)) = .int .u64 6 := hρ _ _ rfl
 have e : (Op.shift .shr .u8 a .u64 6).run P w = .ok (.int .u8 r) w := by
  subst hr; rfl
 simp [execOp, hρ _ _ hx, h4, eqGuard, binOp, e]
theorem Pure.and (hx : evo f x = some (.int k a)) (hy : evo f y = some (.int k b)) (hr : bits .and k a b = r) : Pure P (.binOp .and tx x y ty) f (.int k r) := fun ρ hρ d ty' pos aft g w => by
 simp [execOp, hρ _ _ hx, hρ _ _ hy, eqGuard, binOp, intBits_and, hr]
end
/-- a letter made small -/
def lowC (c : UInt8) : UInt8 := c ||| ((32 : UInt8) * ((c >>> (6 : UInt8)) &&& (1 : UInt8)))
theorem low_shr (c : UInt8) : (c.toNat : Int).fdiv 64 = ((c >>> (6 : UInt8)).toNat : Int) := by
 have key : ∀ n : Fin 256, ((UInt8.ofNat n.1).toNat : Int).fdiv 64 = (((UInt8.ofNat n.1) >>> (6 : UInt8)).toNat : Int) := by decide +kernel
 have h := key ⟨c.toNat, UInt8.toNat_lt c⟩
 have e : UInt8.ofNat (⟨c.toNat, UInt8.toNat_lt c⟩ : Fin 256).1 = c := UInt8.ofNat_toNat
 rw [e] at h
 exact h
theorem low_and (c : UInt8) : bits .and .u8 ((c >>> (6 : UInt8)).toNat : Int) 1 = (((c >>> (6 : UInt8)) &&& (1 : UInt8)).toNat : Int) := by
 have key : ∀ n : Fin 256, bits .and .u8 (((UInt8.ofNat n.1) >>> (6 : UInt8)).toNat : Int) 1 = ((((UInt8.ofNat n.1) >>> (6 : UInt8)) &&& (1 : UInt8)).toNat : Int) := by decide +kernel
 have h := key ⟨c.toNat, UInt8.toNat_lt c⟩
 have e : UInt8.ofNat (⟨c.toNat, UInt8.toNat_lt c⟩ : Fin 256).1 = c := UInt8.ofNat_toNat
 rw [e] at h
 exact h
theorem low_mul (c : UInt8) : IntKind.u8.wrap (32 * (((c >>> (6 : UInt8)) &&& (1 : UInt8)).toNat : Int)) = (((32 : UInt8) * ((c >>> (6 : UInt8)) &&& (1 : UInt8))).toNat : Int) := by
 have key : ∀ n : Fin 256, IntKind.u8.wrap (32 * ((((UInt8.ofNat n.1) >>> (6 : UInt8)) &&& (1 : UInt8)).toNat : Int)) = (((32 : UInt8) * (((UInt8.ofNat n.1) >>> (6 : UInt8)) &&& (1 : UInt8))).toNat : Int) := by decide +kernel
 have h := key ⟨c.toNat, UInt8.toNat_lt c⟩
 have e : UInt8.ofNat (⟨c.toNat, UInt8.toNat_lt c⟩ : Fin 256).1 = c := UInt8.ofNat_toNat
 rw [e] at h
 exact h
theorem low_or (c : UInt8) : bits .or .u8 (c.toNat : Int) (((32 : UInt8) * ((c >>> (6 : UInt8)) &&& (1 : UInt8))).toNat : Int) = ((lowC c).toNat : Int) := by
 have key : ∀ n : Fin 256, bits .or .u8 ((UInt8.ofNat n.1).toNat : Int) (((32 : UInt8) * (((UInt8.ofNat n.1) >>> (6 : UInt8)) &&& (1 : UInt8))).toNat : Int) = ((lowC (UInt8.ofNat n.1)).toNat : Int) := by decide +kernel
 have h := key ⟨c.toNat, UInt8.toNat_lt c⟩
 have e : UInt8.ofNat (⟨c.toNat, UInt8.toNat_lt c⟩ : Fin 256).1 = c := UInt8.ofNat_toNat
 rw [e] at h
 exact h
theorem low_idx (c : UInt8) : Lib.indexByte [48, 49, 50, 51, 52, 53, 54, 55, 56, 57, 97, 98, 99, 100, 101, 102] (lowC c) = digI c := by
 have key : ∀ n : Fin 256, Lib.indexByte [48, 49, 50, 51, 52, 53, 54, 55, 56, 57, 97, 98, 99, 100, 101, 102] (lowC (UInt8.ofNat n.1)) = digI (UInt8.ofNat n.1) := by decide +kernel
 have h := key ⟨c.toNat, UInt8.toNat_lt c⟩
 have e : UInt8.ofNat (⟨c.toNat, UInt8.toNat_lt c⟩ : Fin 256).1 = c := UInt8.ofNat_toNat
 rw [e] at h
 exact h
theorem plex_digit (c : UInt8) (w : World) : Calls Tryz.prog 91 #[.int .u8 (c.toNat : Int)] w fun e w' => e = .returned (.int .i64 (digI c)) ∧ w = w' := by
 refine W.enter func91 rfl ntmps91 (Nat.le_of_ble_eq_true rfl) ?_
 refine W.sr <| WL.z rfl rfl ?_
 refine W.sr <| WL.m rfl rfl <| WL.m rfl rfl <| WL.p (.shr6 rfl (low_shr c)) rfl <| WL.p (.and rfl rfl (low_and c)) rfl <| WL.p (.mul rfl rfl (low_mul c)) rfl <| WL.p (.or rfl rfl (low_or c)) rfl <| WL.c1 hb48 rfl rfl ((lib_ib [48, 49, 50, 51, 52, 53, 54, 55, 56, 57, 97, 98, 99, 100, 101, 102] (lowC c) _)) (fun w1 hw1 => ?_)
 obtain rfl := hw1
 refine WL.z rfl rfl ?_
 refine W.ret (W.ret1 rfl rfl ?_)
 exact ⟨ret_int (low_idx c), rfl⟩
theorem digit_q (c : UInt8) (w : World) (m : Nat) : Calls Tryz.prog 91 #[.int .u8 (c.toNat : Int)] (w.drewN m) fun e w' => e = .returned (.int .i64 (digI c)) ∧ ∃ k, w' = w.drewN k :=
 (plex_digit c (w.drewN m)).mono fun e w' h => ⟨h.1, m, h.2.symm⟩
theorem decN_cons (c : UInt8) (r : List UInt8) : decN (c :: r) = if c = 35 then (match r with | a :: b :: r' => if hexN a < 16 ∧ hexN b < 16 then (decN r').map (ch ((16 * hexN a + hexN b : Nat) : Int) :: ·) else none | _ => none) else (decN r).map (c :: ·) := by
 match r with
 | [] => by_cases h : c = 35 <;> simp [decN, h]
 | [a] => by_cases h : c = 35 <;> simp [decN, h]
 | a :: b :: r' => by_cases h : c = 35 <;> simp [decN, h]
/-- what has been read, and what is left -/
def decR (acc s : List UInt8) : Option (List UInt8) := (decN s).map (acc ++ ·)
theorem decR_nil (acc : List UInt8) : decR acc [] = some acc := by simp [decR, decN]
theorem decR_plain (acc s : List UInt8) (i : Nat) (h : i < s.length) (hc : s[i] ≠ 35) : decR acc (s.drop i) = decR (acc ++ [s[i]]) (s.drop (i + 1)) := by
 unfold decR
 rw [List.drop_eq_getElem_cons h, decN_cons, if_neg hc, Option.map_map]
 congr 1
 funext x
 simp
theorem decR_short (acc s : List UInt8) (i : Nat) (h : i < s.length) (hc : s[i] = 35) (h2 : s.length ≤ i + 2) : decR acc (s.drop i) = none := by
 unfold decR
 rw [List.drop_eq_getElem_cons h, decN_cons, if_pos hc]
 have hl : (s.drop (i + 1)).length ≤ 1 := by rw [List.length_drop]; omega
 match s.drop (i + 1), hl with
 | [], _ => rfl
 | [a], _ => rfl
theorem decR_hash (acc s : List UInt8) (i : Nat) (h : i + 2 < s.length) (hc : s[i] = 35) : decR acc (s.drop i) = if hexN s[i + 1] < 16 ∧ hexN s[i + 2] < 16 then decR (acc ++ [ch ((16 * hexN s[i + 1] + hexN s[i + 2] : Nat) : Int)]) (s.drop (i + 3)) else none := by
 unfold decR
 rw [List.drop_eq_getElem_cons (show i < s.length by omega), decN_cons, if_pos hc, List.drop_eq_getElem_cons (show i + 1 < s.length by omega), List.drop_eq_getElem_cons (show i + 1 + 1 < s.length by omega)]
 simp only
 split
 ·
  rw [Option.map_map]
  congr 1
  funext x
  simp
 ·
  rfl
theorem lib_idx (q : Option Addr) (s : List UInt8) (c : Nat) (x : UInt8) (w : World) (hb : BytesAt w q s) (hl : s.length ≤ 1000000000) :
  Calls Tryz.prog 102 #[.slice q s.length c, .int .u8 (x.toNat : Int)] w fun e w' => (∃ a : Int, e = .returned (.int .i64 a) ∧ (0 ≤ a ↔ x ∈ s)) ∧ w = w' := by
 refine W.enter func102 rfl ntmps102 (Nat.le_of_ble_eq_true rfl) ?_
 refine W.sr <| WL.z rfl rfl ?_
 refine W.seq <| W.sr <| WL.m rfl rfl <| WL.p (.lenS underlying26 rfl) rfl <| WL.m rfl rfl <| WL.nil <| ?_
 refine W.block ?_
 refine W.loop (α := Nat) (fun t => [(0, .slice q s.length c), (1, .int .u8 (x.toNat : Int)), (7, .int .i64 (s.length : Int)), (8, .int .i64 (t : Int))]) (fun t w' => w = w' ∧ t ≤ s.length ∧ x ∉ s.take t) (fun t => s.length - t) (0) ⟨rfl, rfl, rfl, rfl, trivial⟩ (⟨rfl, Nat.zero_le _, by simp⟩) (fun t w1 hR => ?_)
 obtain ⟨i, rfl⟩ : ∃ i, i = t := ⟨t, rfl⟩
 obtain ⟨rfl, hi, hno⟩ := hR
 refine W.sr <| WL.p (.lss rfl rfl) rfl <| WL.nil <| ?_
 refine W.seq <| W.cond rfl (fun h1 => ?_) (fun h1 => ?_)
 have h1' := dT h1
 refine W.skip <| W.seq <| W.block <| W.sr <| WL.m rfl rfl <| WL.z rfl rfl ?_
 refine W.sr <| WL.m rfl rfl <| WL.m rfl rfl <| WL.m rfl rfl <| WL.p (.ixb underlying26 sizeOf5 rfl rfl (hb.isp oO) (i) (rfl) oO) rfl <| WL.r (Rd.ldc (isAgg5 _) rfl (hb.cells (i) oO)) rfl <| WL.p (.eql rfl rfl) rfl <| WL.nil <| ?_
 refine W.cond rfl (fun h2 => ?_) (fun h2 => ?_)
 have h2' := dT h2
 refine W.sr <| WL.m rfl rfl <| WL.z rfl rfl ?_
 refine W.ret (W.ret1 rfl rfl ?_)
 exact ⟨⟨_, rfl, fun _ => by rw [show x = s[i]'oO from u8_eq aS]; exact List.getElem_mem _, fun _ => by omega⟩, rfl⟩
 have h2' := dF h2
 refine W.skip <| W.reg <| WL.p (.iis (((i + 1 : Nat) : Int)) (.add rfl rfl (i64w oO)) oO) rfl <| WL.m rfl rfl <| WL.nil <| ?_
 exact ⟨i + 1, ⟨rfl, rfl, rfl, rfl, trivial⟩, ⟨rfl, by ((try simp only) <;> omega), by
  rw [List.take_add_one, List.getElem?_eq_getElem oO, Option.toList_some, List.mem_append, List.mem_singleton]
  exact fun h => h.elim hno (u8_ne aS)⟩, by ((try simp only) <;> omega)⟩
 have h1' := dF h1
 refine W.exit <| W.sr <| WL.z rfl rfl ?_
 refine W.ret (W.ret1 rfl rfl ?_)
 exact ⟨⟨_, rfl, fun h => absurd h dD, fun h => by rw [show s.take i = s from List.take_of_length_le oO] at hno; exact absurd h hno⟩, rfl⟩
theorem lib_has (q : Option Addr) (s : List UInt8) (c : Nat) (x : UInt8) (w : World) (hb : BytesAt w q s) (hl : s.length ≤ 1000000000) :
  Calls Tryz.prog 92 #[.slice q s.length c, .int .u8 (x.toNat : Int)] w fun e w' => e = .returned (.bool (decide (x ∈ s))) ∧ w = w' := by
 have hI : ∀ w1, BytesAt w1 q s → Calls Tryz.prog 102 #[.slice q s.length c, .int .u8 (x.toNat : Int)] w1 fun e w' => ∃ a : { a : Int // 0 ≤ a ↔ x ∈ s }, e = .returned (.int .i64 a.1) ∧ w1 = w' := fun w1 h1 =>
  (lib_idx q s c x w1 h1 hl).mono fun e w' ⟨⟨a, h2, h3⟩, h4⟩ => ⟨⟨a, h3⟩, h2, h4⟩
 refine W.enter func92 rfl ntmps92 (Nat.le_of_ble_eq_true rfl) ?_
 refine W.sr <| WL.z rfl rfl ?_
 refine W.sr <| WL.m rfl rfl <| WL.m rfl rfl <| WL.call hb102 rfl rfl ((hI _ hb)) (fun a w1 hw1 => ?_)
 obtain rfl := hw1
 refine WL.p (.geq rfl rfl) rfl <| WL.z rfl rfl ?_
 refine W.ret (W.ret1 rfl rfl ?_)
 exact ⟨ret_bool (decide_eq_decide.2 a.2), rfl⟩
theorem plex_name (r : Nat) (p : Option Addr) (l : List UInt8) (c t : Nat) (refs : Bool) (w : World) (h : PRd w r p l c t refs) (hne : 0 < l.length → (pA p).block ≠ r) (hc : l.length ≤ c) (hl : l.length ≤ 100000000) (ht : t ≤ l.length) :
  Calls Tryz.prog 81 #[.pointer (some ⟨r, 0, none⟩)] w (Ends 29 (nameP l t) (fun a => .string (bs a.1)) (fun a w' => PRd w' r p l c a.2 refs ∧ Touch w.heap.size r w w') (fun w' => Touch w.heap.size r w w')) := by
 have hr := h.1
 have hb := h.2
 obtain ⟨X, hX⟩ : ∃ X, X = nameP l t := ⟨_, rfl⟩
 rw [← hX]
 unfold nameP at hX
 have hwt := wordAt_le l t ht
 have hsl := wordL_len l t
 have hWq : ∀ w1, BytesAt w1 p l → ∀ m, Calls Tryz.prog 33 #[.slice p l.length c, .int .i64 (t : Int)] (w1.drewN m) fun e w' => e = .returned (.tuple #[.string (bs (wordL l t)), .int .i64 (wordAt l t : Int)]) ∧ ∃ k, w' = w1.drewN k := fun w1 h1 m => word_q p l c t w1 h1 hc ht hl m
 generalize wordL l t = s at hX hsl hWq
 generalize wordAt l t = t1 at hX hwt hWq
 obtain ⟨D, hD⟩ : ∃ D, D = decN s := ⟨_, rfl⟩
 rw [← hD] at hX
 refine W.enter func81 rfl ntmps81 (Nat.le_of_ble_eq_true rfl) ?_
 have hB0 := Touch.refl (w.heap.size) r w
 refine W.sr <| WL.z rfl rfl ?_
 refine W.seq ?_
 have hrB : r < w.heap.size := hr.lt
 have hbl : 0 < l.length → (pA p).block < w.heap.size := fun h0 => hb.lt h0
 refine W.regQ mixed kR ?_
 refine WQ.p (.mv rfl) rfl <| WQ.p (.nck rfl) rfl <| WQ.p (.fa underlying98 rfl sizeOf26 dD rfl) rfl <| WQ.r (fun m => Rd.ld (isAgg26 _) rfl hr rfl) rfl <| WQ.p (.mv rfl) rfl <| WQ.p (.nck rfl) rfl <| WQ.p (.fa underlying98 rfl sizeOf3 dD rfl) rfl <| WQ.r (fun m => Rd.ld (isAgg3 _) rfl hr rfl) rfl <| WQ.c1 hb33 rfl rfl (fun m => (hWq _ hb m)) <| WQ.p (.mv rfl) rfl <| WQ.p (.ext rfl rfl) rfl <| WQ.p (.ext rfl rfl) rfl <| WQ.p (.as rfl) rfl <| WQ.p (.as rfl) rfl <| WQ.nil (fun w1 dw1 => ?_)
 have hk2 := hr.drew dw1
 have hv3 := hb.drew dw1
 have hB4 := Touch.trans hB0 (Touch.of_drew dw1)
 refine W.sr <| WL.m rfl rfl <| WL.m rfl rfl <| WL.p (.nck rfl) rfl <| WL.p (.fa underlying98 rfl sizeOf3 dD rfl) rfl <| WL.st sizeOf3 rfl rfl rfl hk2 oD (fun w5 hkw5 huw5 hsw5 => ?_)
 have hkw5 : Blk w5 r _ _ := hkw5
 have huw5 : Upd r _ _ := huw5
 have hv6 := BytesAt.upd hv3 huw5 hne
 have hB7 := Touch.trans hB4 (Touch.of_upd huw5)
 refine WL.nil <| ?_
 refine W.sr <| WL.z rfl rfl ?_
 refine W.seq <| W.sr <| WL.z rfl rfl ?_
 refine W.block ?_
 refine W.loop (α := Value × List UInt8 × Nat) (fun t => [(0, .pointer (some ⟨r, 0, none⟩)), (3, .string (bs s)), (5, t.1), (6, .int .i64 (t.2.2 : Int))]) (fun t w' => PRd w' r p l c t1 refs ∧ Touch w.heap.size r w w' ∧ Own 5 w.heap.size w' t.1 (byteVals t.2.1) ∧ decR t.2.1 (s.drop t.2.2) = D ∧ t.2.1.length ≤ t.2.2 ∧ t.2.2 ≤ s.length) (fun t => s.length - t.2.2) ((.slice none 0 0, [], 0)) ⟨rfl, rfl, rfl, rfl, trivial⟩ (⟨⟨hkw5, hv6⟩, hB7, Own.nil _ _ _, by rw [hD, List.drop_zero]; simp [decR], Nat.zero_le _, Nat.zero_le _⟩) (fun t w1 hR => ?_)
 obtain ⟨v, o, i⟩ := t
 obtain ⟨hrd, hT, hown, hw, hol, hi⟩ := hR
 simp only at hrd hT hown hw hol hi ⊢
 refine W.seq <| W.sr <| WL.m rfl rfl <| WL.m rfl rfl <| WL.p (.len underlying9 rfl) rfl <| WL.p (.lss rfl rfl) rfl <| WL.nil <| ?_
 refine W.cond rfl (fun h8 => ?_) (fun h8 => ?_)
 have h8' := dT h8
 refine W.skip <| W.seq <| W.block <| W.sr <| WL.m rfl rfl <| WL.m rfl rfl <| WL.p (.ix underlying9 rfl rfl (i) (rfl) oO) rfl <| WL.z rfl rfl ?_
 refine W.seq <| W.sr <| WL.m rfl rfl <| WL.p (.eql rfl rfl) rfl <| WL.nil <| ?_
 refine W.cond rfl (fun h9 => ?_) (fun h9 => ?_)
 have h9' := dT h9
 have h35 : s[i]'oO = 35 := u8_eq aS
 refine W.seq <| W.sr <| WL.m rfl rfl <| WL.p (.add rfl rfl (i64w oO)) rfl <| WL.m rfl rfl <| WL.p (.len underlying9 rfl) rfl <| WL.p (.geq rfl rfl) rfl <| WL.m rfl rfl <| WL.gd rfl rfl rfl (fun g10 => ?_) (fun g10 => ?_)
 have g10' := dF g10
 refine WL.m rfl rfl <| WL.gy rfl rfl rfl g10 <| WL.m rfl rfl <| WL.gy rfl rfl rfl g10 <| WL.p (.iis (((i + 1 : Nat) : Int)) (.add rfl rfl (i64w oO)) oO) rfl <| WL.gy rfl rfl rfl g10 <| WL.p (.ix underlying9 rfl rfl (i + 1) (rfl) oO) rfl <| WL.gy rfl rfl rfl g10 <| WL.c1 hb91 rfl rfl ((plex_digit _ _)) (fun w11 hw11 => ?_)
 obtain rfl := hw11
 have hd1 := digI_cases (s[i + 1]'oO)
 refine WL.gy rfl rfl rfl g10 <| WL.p (.lss rfl rfl) rfl <| WL.p (.pkF rfl g10 rfl) rfl <| WL.m rfl rfl <| WL.gd rfl rfl rfl (fun g12 => ?_) (fun g12 => ?_)
 have g12' := dF g12
 refine WL.m rfl rfl <| WL.gy rfl rfl rfl g12 <| WL.m rfl rfl <| WL.gy rfl rfl rfl g12 <| WL.p (.iis (((i + 2 : Nat) : Int)) (.add rfl rfl (i64w oO)) oO) rfl <| WL.gy rfl rfl rfl g12 <| WL.p (.ix underlying9 rfl rfl (i + 2) (rfl) oO) rfl <| WL.gy rfl rfl rfl g12 <| WL.c1 hb91 rfl rfl ((plex_digit _ _)) (fun w13 hw13 => ?_)
 obtain rfl := hw13
 have hd2 := digI_cases (s[i + 2]'oO)
 refine WL.gy rfl rfl rfl g12 <| WL.p (.lss rfl rfl) rfl <| WL.p (.pkF rfl g12 rfl) rfl <| WL.nil <| ?_
 refine W.cond rfl (fun h14 => ?_) (fun h14 => ?_)
 have h14' := dT h14
 refine W.reg <| WL.cp hb82 rfl ((plex_fail 23 _)) (fun w15 hw15 => ?_)
 obtain rfl := hw15
 exact pn_is (Ends.err 23 (by rw [hX, ← hw, decR_hash _ _ _ oO h35, if_neg oO]) hT)
 have h14' := dF h14
 refine W.skip <| W.seq <| W.regQ mixed kR ?_
 refine WQ.p (.mv rfl) rfl <| WQ.p (.mv rfl) rfl <| WQ.p (.iis (((i + 1 : Nat) : Int)) (.add rfl rfl (i64w oO)) oO) rfl <| WQ.p (.ix underlying9 rfl rfl (i + 1) (rfl) oO) rfl <| WQ.c1 hb91 rfl rfl (fun m => (digit_q (s[i + 1]'oO) _ m)) <| WQ.p (.iis (((hexN (s[i + 1]'oO) : Nat) : Int) * 16) (.shl4 rfl _ (i64w oO)) oO) rfl <| WQ.p (.mv rfl) rfl <| WQ.p (.mv rfl) rfl <| WQ.p (.iis (((i + 2 : Nat) : Int)) (.add rfl rfl (i64w oO)) oO) rfl <| WQ.p (.ix underlying9 rfl rfl (i + 2) (rfl) oO) rfl <| WQ.c1 hb91 rfl rfl (fun m => (digit_q (s[i + 2]'oO) _ m)) <| WQ.p (.or rfl rfl (show bits .or .i64 (((hexN (s[i + 1]'oO) : Nat) : Int) * 16) (digI (s[i + 2]'oO)) = ((hexN (s[i + 1]'oO) : Nat) : Int) * 16 + ((hexN (s[i + 2]'oO) : Nat) : Int) by rw [(hd2.resolve_left (fun h => by have := h.1; omega)).1]; exact or_16 _ _ oO oO)) rfl <| WQ.p (.cvt underlying3 underlying5 rfl (u8w oO)) rfl <| WQ.p (.as rfl) rfl <| WQ.nil (fun w16 dw16 => ?_)
 have ho17 := Own.drew hown dw16
 have hk18 := hrd.1.drew dw16
 have hv19 := hrd.2.drew dw16
 have hB20 := Touch.trans hT (Touch.of_drew dw16)
 refine W.reg <| WL.m rfl rfl <| WL.p (.add rfl rfl (i64w oO)) rfl <| WL.z rfl rfl ?_
 refine W.reg <| WL.m rfl rfl <| WL.m rfl rfl <| WL.bsl (ps := _) underlying26 sizeOf5 zeroValue5 rfl rfl rfl rfl rfl pR rfl (fun b21 wb21 eb21 hkb21 hub21 hsb21 => ?_)
 have ho22 := Own.new ho17 eb21 hub21
 have hl24 : r < b21 := by rw [eb21]; exact hk18.lt
 have hk23 := hk18.upd hub21 (Nat.ne_of_lt hl24)
 have hvl26 := fun h0 => eb21 ▸ hv19.lt h0
 have hv25 := bup hv19 hub21 hvl26
 have hgeb21 : w.heap.size ≤ b21 := by rw [eb21]; exact hB20.size
 have hB27 := Touch.trans hB20 (Touch.of_new hub21 hgeb21)
 refine WL.appm underlying26 inf5 rfl rfl rfl ho22 rfl hkb21 rfl (by rw [byteVals_len]; omega) (hB27.size) rfl (fun v28 w29 how29 hbw29 hgw29 => ?_)
 have hk30 := hk23.below hbw29 oO
 have hv31 := BytesAt.below hv25 hbw29 hbl
 have hB32 := Touch.trans hB27 (Touch.of_below (hbw29.mono (Nat.le_refl _)))
 have ho33 := Own.snoc how29 (ch ((16 * hexN (s[i + 1]'oO) + hexN (s[i + 2]'oO) : Nat) : Int)) (by rw [ch_val _ oO oO]; omega)
 refine WL.z rfl rfl ?_
 refine W.reg <| WL.m rfl rfl <| WL.p (.add rfl rfl (i64w oO)) rfl <| WL.z rfl rfl ?_
 exact ⟨(_, o ++ [_], i + 3), ⟨rfl, rfl, rfl, lk_i rfl oM, trivial⟩, ⟨⟨hk30, hv31⟩, hB32, ho33, by rw [← hw, decR_hash _ _ _ oO h35, if_pos oO], by simp only [List.length_append, List.length_cons, List.length_nil]; omega, by ((try simp only) <;> omega)⟩, by ((try simp only) <;> omega)⟩
 have g12' := dT g12
 refine WL.gn rfl rfl rfl g12 <| WL.gn rfl rfl rfl g12 <| WL.gn rfl rfl rfl g12 <| WL.gn rfl rfl rfl g12 <| WL.gn rfl rfl rfl g12 <| WL.p (.pkT rfl g12 rfl) rfl <| WL.nil <| ?_
 refine W.condT rfl rfl ?_
 refine W.reg <| WL.cp hb82 rfl ((plex_fail 23 _)) (fun w34 hw34 => ?_)
 obtain rfl := hw34
 exact pn_is (Ends.err 23 (by rw [hX, ← hw, decR_hash _ _ _ oO h35, if_neg oO]) hT)
 have g10' := dT g10
 refine WL.gn rfl rfl rfl g10 <| WL.gn rfl rfl rfl g10 <| WL.gn rfl rfl rfl g10 <| WL.gn rfl rfl rfl g10 <| WL.gn rfl rfl rfl g10 <| WL.p (.pkT rfl g10 rfl) rfl <| WL.m rfl rfl <| WL.gn rfl rfl rfl rfl <| WL.gn rfl rfl rfl rfl <| WL.gn rfl rfl rfl rfl <| WL.gn rfl rfl rfl rfl <| WL.gn rfl rfl rfl rfl <| WL.gn rfl rfl rfl rfl <| WL.p (.pkT rfl rfl rfl) rfl <| WL.nil <| ?_
 refine W.condT rfl rfl ?_
 refine W.reg <| WL.cp hb82 rfl ((plex_fail 23 _)) (fun w35 hw35 => ?_)
 obtain rfl := hw35
 exact pn_is (Ends.err 23 (by rw [hX, ← hw, decR_short _ _ _ oO h35 oO]) hT)
 have h9' := dF h9
 have h35 : s[i]'oO ≠ 35 := u8_ne (d := 35) aS
 refine W.skip <| W.reg <| WL.m rfl rfl <| WL.m rfl rfl <| WL.bsl (ps := _) underlying26 sizeOf5 zeroValue5 rfl rfl rfl rfl rfl pR rfl (fun b36 wb36 eb36 hkb36 hub36 hsb36 => ?_)
 have ho37 := Own.new hown eb36 hub36
 have hl39 : r < b36 := by rw [eb36]; exact hrd.1.lt
 have hk38 := hrd.1.upd hub36 (Nat.ne_of_lt hl39)
 have hvl41 := fun h0 => eb36 ▸ hrd.2.lt h0
 have hv40 := BytesAt.upd hrd.2 hub36 (fun h0 => Nat.ne_of_lt (hvl41 h0))
 have hgeb36 : w.heap.size ≤ b36 := by rw [eb36]; exact hT.size
 have hB42 := Touch.trans hT (Touch.of_new hub36 hgeb36)
 refine WL.appm underlying26 inf5 rfl rfl rfl ho37 rfl hkb36 rfl (by rw [byteVals_len]; omega) (hB42.size) rfl (fun v43 w44 how44 hbw44 hgw44 => ?_)
 have hk45 := hk38.below hbw44 oO
 have hv46 := BytesAt.below hv40 hbw44 hbl
 have hB47 := Touch.trans hB42 (Touch.of_below (hbw44.mono (Nat.le_refl _)))
 have ho48 := Own.snoc how44 (s[i]'oO) (rfl)
 refine WL.z rfl rfl ?_
 refine W.reg <| WL.m rfl rfl <| WL.p (.add rfl rfl (i64w oO)) rfl <| WL.z rfl rfl ?_
 exact ⟨(_, o ++ [_], i + 1), ⟨rfl, rfl, rfl, lk_i rfl oM, trivial⟩, ⟨⟨hk45, hv46⟩, hB47, ho48, by rw [← hw, decR_plain _ _ _ oO h35], by simp only [List.length_append, List.length_cons, List.length_nil]; omega, by ((try simp only) <;> omega)⟩, by ((try simp only) <;> omega)⟩
 have h8' := dF h8
 refine W.exit <| W.seq <| W.block <| W.seq ?_
 obtain ⟨q, cq, rfl, hqb, hqB⟩ := Own.bytes hown
 have hDo : D = some o := by rw [← hw, show i = s.length by omega, List.drop_length, decR_nil]
 refine W.reg <| WL.m rfl rfl <| WL.p (.lenS underlying26 rfl) rfl <| WL.p (.eql rfl rfl) rfl <| WL.m rfl rfl <| WL.gd rfl rfl rfl (fun g49 => ?_) (fun g49 => ?_)
 have g49' := dF g49
 refine WL.m rfl rfl <| WL.gy rfl rfl rfl g49 <| WL.c1 hb92 rfl rfl ((lib_has q o cq 0 _ hqb oO)) (fun w50 hw50 => ?_)
 obtain rfl := hw50
 refine WL.p (.pkF rfl g49 rfl) rfl <| WL.z rfl rfl ?_
 refine W.cond rfl (fun h51 => ?_) (fun h51 => ?_)
 refine W.reg <| WL.cp hb82 rfl ((plex_fail 23 _)) (fun w52 hw52 => ?_)
 obtain rfl := hw52
 exact pn_is (Ends.err 23 (by rw [hX, hDo]; simp only []; rw [if_pos (.inr (dT aS))]) hT)
 refine W.seq ?_
 have hno : ¬ (o = [] ∨ 0 ∈ o) := fun h => h.elim (fun h => by rw [h] at *; simp_all) (fun h => by simp_all)
 refine W.reg <| WL.m rfl rfl <| WL.p (.lenS underlying26 rfl) rfl <| WL.p (.gtr rfl rfl) rfl <| WL.z rfl rfl ?_
 refine W.cond rfl (fun h53 => ?_) (fun h53 => ?_)
 have h53' := dT h53
 refine W.reg <| WL.cp hb82 rfl ((plex_fail 25 _)) (fun w54 hw54 => ?_)
 obtain rfl := hw54
 exact pn_is (Ends.err 25 (by rw [hX, hDo]; simp only []; rw [if_neg hno, if_pos oO]) hT)
 have h53' := dF h53
 refine W.skip <| W.sr <| WL.m rfl rfl <| WL.r (Rd.b2s (l := o) underlying26 underlying5 underlying9 rfl (hqb)) rfl <| WL.z rfl rfl ?_
 refine W.ret (W.ret1 rfl rfl ?_)
 exact Ends.ok (o, t1) (by rw [hX, hDo]; simp only []; rw [if_neg hno, if_neg oO]) rfl ⟨⟨hrd.1, hrd.2⟩, hT⟩
 have g49' := dT g49
 refine WL.gn rfl rfl rfl g49 <| WL.p (.pkT rfl g49 rfl) rfl <| WL.z rfl rfl ?_
 refine W.condT rfl rfl ?_
 refine W.reg <| WL.cp hb82 rfl ((plex_fail 23 _)) (fun w55 hw55 => ?_)
 obtain rfl := hw55
 exact pn_is (Ends.err 23 (by rw [hX, hDo]; simp only []; rw [if_pos (.inl (List.length_eq_zero_iff.1 oO))]) hT)
end
section
theorem all_step (l : List UInt8) (i : Nat) (h : i < l.length) : (l.drop i).all pOpen = (pOpen l[i] && (l.drop (i + 1)).all pOpen) := by
 rw [List.drop_eq_getElem_cons h, List.all_cons]
theorem pOpen_no {c : UInt8} (h : c = 62 ∨ (blankB c = false ∧ digI c < 0)) : pOpen c = false := by
 rcases h with rfl | ⟨h1, h2⟩
 ·
  rfl
 ·
  unfold pOpen
  rcases digI_cases c with h3 | h3
  ·
   rw [h1, decide_eq_false oO]; simp
  ·
   omega
theorem pOpen_yes {c : UInt8} (h : c ≠ 62) (h2 : blankB c = true ∨ ¬ digI c < 0) : pOpen c = true := by
 unfold pOpen
 rw [bne_iff_ne.2 h, Bool.true_and]
 rcases h2 with h2 | h2
 ·
  rw [h2]; rfl
 ·
  rcases digI_cases c with h3 | h3
  ·
   omega
  ·
   rw [decide_eq_true h3.2]; simp
theorem plex_open (r : Nat) (p : Option Addr) (l : List UInt8) (c t : Nat) (refs : Bool) (w : World) (h : PRd w r p l c t refs) (hl : l.length ≤ 100000000) (ht : t < l.length) :
  Calls Tryz.prog 95 #[.pointer (some ⟨r, 0, none⟩)] w fun e w' => e = .returned (.bool (openB l t)) ∧ Below w.heap.size w w' := by
 have hr := h.1
 have hb := h.2
 have hg : l[t]? = some l[t] := List.getElem?_eq_getElem ht
 refine W.enter func95 rfl ntmps95 (Nat.le_of_ble_eq_true rfl) ?_
 have hB0 := Below.refl (w.heap.size) w
 refine W.sr <| WL.z rfl rfl ?_
 refine W.sr <| WL.z rfl rfl ?_
 refine W.seq <| W.seq <| W.regQ mixed kR ?_
 refine WQ.p (.mv rfl) rfl <| WQ.p (.nck rfl) rfl <| WQ.p (.fa underlying98 rfl sizeOf26 dD rfl) rfl <| WQ.r (fun m => Rd.ld (isAgg26 _) rfl hr rfl) rfl <| WQ.p (.mv rfl) rfl <| WQ.p (.nck rfl) rfl <| WQ.p (.fa underlying98 rfl sizeOf3 dD rfl) rfl <| WQ.r (fun m => Rd.ld (isAgg3 _) rfl hr rfl) rfl <| WQ.p (.ixb underlying26 sizeOf5 rfl rfl (hb.isp oO) (t) (rfl) (ht)) rfl <| WQ.r (fun m => Rd.ldc (isAgg5 _) rfl ((hb.drewN m).cells (t) (ht))) rfl <| WQ.p (.eql rfl rfl) rfl <| WQ.nil (fun w1 dw1 => ?_)
 have hk2 := hr.drew dw1
 have hv3 := hb.drew dw1
 have hB4 := Drew.below hB0 dw1
 refine W.cond rfl (fun h5 => ?_) (fun h5 => ?_)
 have h5' := dT h5
 refine W.reg <| WL.z rfl rfl ?_
 refine W.seq <| W.sr <| WL.m rfl rfl <| WL.p (.nck rfl) rfl <| WL.p (.fa underlying98 rfl sizeOf3 dD rfl) rfl <| WL.r (Rd.ld (isAgg3 _) rfl hk2 rfl) rfl <| WL.p (.iis (((t + 1 : Nat) : Int)) (.add rfl rfl (i64w oO)) oO) rfl <| WL.z rfl rfl ?_
 refine W.block ?_
 obtain ⟨T0, hT0⟩ : ∃ T0, T0 = t := ⟨t, rfl⟩
 subst hT0
 refine W.loop (α := Nat × Int) (fun t => [(0, .pointer (some ⟨r, 0, none⟩)), (3, .int .u8 t.2), (4, .int .i64 (t.1 : Int))]) (fun t w' => Below w.heap.size w w' ∧ PRd w' r p l c T0 refs ∧ T0 + 1 ≤ t.1 ∧ t.1 ≤ l.length ∧ ((t.2 = 62 ∧ l[T0]? = some 60 ∧ (l.drop (T0 + 1)).all pOpen = (l.drop t.1).all pOpen) ∨ (t.2 = 41 ∧ l[T0]? ≠ some 60))) (fun t => l.length - t.1) ((T0 + 1, _)) ⟨rfl, rfl, rfl, trivial⟩ (⟨hB4, ⟨hk2, hv3⟩, Nat.le_refl _, ht, by first | exact .inl ⟨rfl, by rw [hg, show l[T0] = 60 from u8_eq aS], rfl⟩ | exact .inr ⟨rfl, by rw [hg]; exact fun h => absurd (Option.some.inj h) (u8_ne (d := 60) aS)⟩⟩) (fun t w1 hR => ?_)
 obtain ⟨i, z⟩ := t
 obtain ⟨hT, hrd, hi0, hi, hz⟩ := hR
 simp only at hi0 hi hz ⊢
 refine W.seq ?_
 refine W.cutB 32 (decide (i < l.length ∧ z = 62)) ?_ ?_
 refine W.reg <| WL.m rfl rfl <| WL.m rfl rfl <| WL.p (.nck rfl) rfl <| WL.p (.fa underlying98 rfl sizeOf26 dD rfl) rfl <| WL.r (Rd.ld (isAgg26 _) rfl hrd.1 rfl) rfl <| WL.p (.lenS underlying26 rfl) rfl <| WL.p (.lss rfl rfl) rfl <| WL.m rfl rfl <| WL.gd rfl rfl rfl (fun g6 => ?_) (fun g6 => ?_)
 have g6' := dT g6
 refine WL.m rfl rfl <| WL.gy rfl rfl rfl g6 <| WL.p (.eql rfl rfl) rfl <| WL.p (.pkT rfl g6 rfl) rfl <| WL.nil <| ?_
 exact ⟨leE (lk_b rfl (by (apply Bool.eq_iff_iff.2; (try simp) <;> omega))), rfl⟩
 have g6' := dF g6
 refine WL.gn rfl rfl rfl g6 <| WL.p (.pkF rfl g6 rfl) rfl <| WL.nil <| ?_
 exact ⟨leE (lk_b rfl (by (apply Bool.eq_iff_iff.2; (try simp) <;> omega))), rfl⟩
 refine W.cond rfl (fun h7 => ?_) (fun h7 => ?_)
 have h7' := dT h7
 have hz2 : l[T0]? = some 60 ∧ (l.drop (T0 + 1)).all pOpen = (l.drop i).all pOpen := by rcases hz with h | h; exact h.2; omega
 have hst := all_step l i oO
 refine W.skip <| W.seq <| W.block <| W.sr <| WL.m rfl rfl <| WL.p (.nck rfl) rfl <| WL.p (.fa underlying98 rfl sizeOf26 dD rfl) rfl <| WL.r (Rd.ld (isAgg26 _) rfl hrd.1 rfl) rfl <| WL.m rfl rfl <| WL.p (.ixb underlying26 sizeOf5 rfl rfl (hrd.2.isp oO) (i) (rfl) oO) rfl <| WL.r (Rd.ldc (isAgg5 _) rfl (hrd.2.cells (i) oO)) rfl <| WL.z rfl rfl ?_
 refine W.sr <| WL.m rfl rfl <| WL.p (.eql rfl rfl) rfl <| WL.m rfl rfl <| WL.gd rfl rfl rfl (fun g8 => ?_) (fun g8 => ?_)
 have g8' := dF g8
 refine WL.m rfl rfl <| WL.gy rfl rfl rfl g8 <| WL.c1 hb56 rfl rfl ((plex_blank _ _)) (fun w9 hw9 => ?_)
 obtain rfl := hw9
 refine WL.gy rfl rfl rfl g8 <| WL.p (.not rfl) rfl <| WL.gy rfl rfl rfl g8 <| WL.m rfl rfl <| WL.gd rfl rfl rfl (fun g10 => ?_) (fun g10 => ?_)
 have g10' := (nT g10)
 refine WL.m rfl rfl <| WL.gy rfl rfl rfl (by rw [(nT g10)] <;> rfl) <| WL.c1 hb91 rfl rfl ((plex_digit _ _)) (fun w11 hw11 => ?_)
 obtain rfl := hw11
 refine WL.gy rfl rfl rfl (by rw [(nT g10)] <;> rfl) <| WL.p (.lss rfl rfl) rfl <| WL.gy rfl rfl rfl g8 <| WL.p (.pkT rfl (by rw [(nT g10)] <;> rfl) rfl) rfl <| WL.p (.pkF rfl g8 rfl) rfl <| WL.nil <| ?_
 refine W.cond rfl (fun h12 => ?_) (fun h12 => ?_)
 have h12' := dT h12
 refine W.sr <| WL.z rfl rfl ?_
 refine W.ret (W.ret1 rfl rfl ?_)
 exact ⟨ret_bool (by unfold openB; rw [if_pos hz2.1, hz2.2, hst, pOpen_no (.inr ⟨by assumption, by assumption⟩)]; rfl), hT⟩
 have h12' := dF h12
 refine W.skip <| W.reg <| WL.m rfl rfl <| WL.p (.iis (((i + 1 : Nat) : Int)) (.add rfl rfl (i64w oO)) oO) rfl <| WL.z rfl rfl ?_
 exact ⟨(i + 1, z), ⟨rfl, rfl, rfl, trivial⟩, ⟨hT, ⟨hrd.1, hrd.2⟩, by ((try simp only) <;> omega), by ((try simp only) <;> omega), .inl ⟨by omega, hz2.1, by rw [hz2.2, hst, pOpen_yes (u8_ne (d := 62) aS) (.inr aS), Bool.true_and]⟩⟩, by ((try simp only) <;> omega)⟩
 have g10' := (nF g10)
 refine WL.gn rfl rfl rfl (by rw [(nF g10)] <;> rfl) <| WL.gn rfl rfl rfl (by rw [(nF g10)] <;> rfl) <| WL.gy rfl rfl rfl g8 <| WL.p (.pkF rfl (by rw [(nF g10)] <;> rfl) rfl) rfl <| WL.p (.pkF rfl g8 rfl) rfl <| WL.nil <| ?_
 refine W.condF rfl rfl ?_
 refine W.skip <| W.reg <| WL.m rfl rfl <| WL.p (.iis (((i + 1 : Nat) : Int)) (.add rfl rfl (i64w oO)) oO) rfl <| WL.z rfl rfl ?_
 exact ⟨(i + 1, z), ⟨rfl, rfl, rfl, trivial⟩, ⟨hT, ⟨hrd.1, hrd.2⟩, by ((try simp only) <;> omega), by ((try simp only) <;> omega), .inl ⟨by omega, hz2.1, by rw [hz2.2, hst, pOpen_yes (u8_ne (d := 62) aS) (.inl aS), Bool.true_and]⟩⟩, by ((try simp only) <;> omega)⟩
 have g8' := dT g8
 refine WL.gn rfl rfl rfl g8 <| WL.gn rfl rfl rfl g8 <| WL.gn rfl rfl rfl g8 <| WL.gu rfl rfl rfl <| WL.gu rfl rfl rfl <| WL.gu rfl rfl rfl <| WL.gn rfl rfl rfl g8 <| WL.p (.pkT rfl g8 rfl) rfl <| WL.nil <| ?_
 refine W.condT rfl rfl ?_
 refine W.sr <| WL.z rfl rfl ?_
 refine W.ret (W.ret1 rfl rfl ?_)
 exact ⟨ret_bool (by unfold openB; rw [if_pos hz2.1, hz2.2, hst, pOpen_no (.inl (u8_eq (d := 62) aS))]; rfl), hT⟩
 have h7' := dF h7
 refine W.exit <| W.sr <| WL.z rfl rfl ?_
 refine W.ret (W.ret1 rfl rfl ?_)
 exact ⟨ret_bool (by
  unfold openB
  rcases hz with h | h
  rw [if_pos h.2.1, h.2.2, List.drop_eq_nil_of_le oO]; rfl
  rw [if_neg h.2]), hT⟩
 have h5' := dF h5
 refine W.skip <| W.seq <| W.sr <| WL.m rfl rfl <| WL.p (.nck rfl) rfl <| WL.p (.fa underlying98 rfl sizeOf3 dD rfl) rfl <| WL.r (Rd.ld (isAgg3 _) rfl hk2 rfl) rfl <| WL.p (.iis (((t + 1 : Nat) : Int)) (.add rfl rfl (i64w oO)) oO) rfl <| WL.z rfl rfl ?_
 refine W.block ?_
 obtain ⟨T0, hT0⟩ : ∃ T0, T0 = t := ⟨t, rfl⟩
 subst hT0
 refine W.loop (α := Nat × Int) (fun t => [(0, .pointer (some ⟨r, 0, none⟩)), (3, .int .u8 t.2), (4, .int .i64 (t.1 : Int))]) (fun t w' => Below w.heap.size w w' ∧ PRd w' r p l c T0 refs ∧ T0 + 1 ≤ t.1 ∧ t.1 ≤ l.length ∧ ((t.2 = 62 ∧ l[T0]? = some 60 ∧ (l.drop (T0 + 1)).all pOpen = (l.drop t.1).all pOpen) ∨ (t.2 = 41 ∧ l[T0]? ≠ some 60))) (fun t => l.length - t.1) ((T0 + 1, _)) ⟨rfl, rfl, rfl, trivial⟩ (⟨hB4, ⟨hk2, hv3⟩, Nat.le_refl _, ht, by first | exact .inl ⟨rfl, by rw [hg, show l[T0] = 60 from u8_eq aS], rfl⟩ | exact .inr ⟨rfl, by rw [hg]; exact fun h => absurd (Option.some.inj h) (u8_ne (d := 60) aS)⟩⟩) (fun t w1 hR => ?_)
 obtain ⟨i, z⟩ := t
 obtain ⟨hT, hrd, hi0, hi, hz⟩ := hR
 simp only at hi0 hi hz ⊢
 refine W.seq ?_
 refine W.cutB 32 (decide (i < l.length ∧ z = 62)) ?_ ?_
 refine W.reg <| WL.m rfl rfl <| WL.m rfl rfl <| WL.p (.nck rfl) rfl <| WL.p (.fa underlying98 rfl sizeOf26 dD rfl) rfl <| WL.r (Rd.ld (isAgg26 _) rfl hrd.1 rfl) rfl <| WL.p (.lenS underlying26 rfl) rfl <| WL.p (.lss rfl rfl) rfl <| WL.m rfl rfl <| WL.gd rfl rfl rfl (fun g13 => ?_) (fun g13 => ?_)
 have g13' := dT g13
 refine WL.m rfl rfl <| WL.gy rfl rfl rfl g13 <| WL.p (.eql rfl rfl) rfl <| WL.p (.pkT rfl g13 rfl) rfl <| WL.nil <| ?_
 exact ⟨leE (lk_b rfl (by (apply Bool.eq_iff_iff.2; (try simp) <;> omega))), rfl⟩
 have g13' := dF g13
 refine WL.gn rfl rfl rfl g13 <| WL.p (.pkF rfl g13 rfl) rfl <| WL.nil <| ?_
 exact ⟨leE (lk_b rfl (by (apply Bool.eq_iff_iff.2; (try simp) <;> omega))), rfl⟩
 refine W.cond rfl (fun h14 => ?_) (fun h14 => ?_)
 have h14' := dT h14
 have hz2 : l[T0]? = some 60 ∧ (l.drop (T0 + 1)).all pOpen = (l.drop i).all pOpen := by rcases hz with h | h; exact h.2; omega
 have hst := all_step l i oO
 refine W.skip <| W.seq <| W.block <| W.sr <| WL.m rfl rfl <| WL.p (.nck rfl) rfl <| WL.p (.fa underlying98 rfl sizeOf26 dD rfl) rfl <| WL.r (Rd.ld (isAgg26 _) rfl hrd.1 rfl) rfl <| WL.m rfl rfl <| WL.p (.ixb underlying26 sizeOf5 rfl rfl (hrd.2.isp oO) (i) (rfl) oO) rfl <| WL.r (Rd.ldc (isAgg5 _) rfl (hrd.2.cells (i) oO)) rfl <| WL.z rfl rfl ?_
 refine W.sr <| WL.m rfl rfl <| WL.p (.eql rfl rfl) rfl <| WL.m rfl rfl <| WL.gd rfl rfl rfl (fun g15 => ?_) (fun g15 => ?_)
 have g15' := dF g15
 refine WL.m rfl rfl <| WL.gy rfl rfl rfl g15 <| WL.c1 hb56 rfl rfl ((plex_blank _ _)) (fun w16 hw16 => ?_)
 obtain rfl := hw16
 refine WL.gy rfl rfl rfl g15 <| WL.p (.not rfl) rfl <| WL.gy rfl rfl rfl g15 <| WL.m rfl rfl <| WL.gd rfl rfl rfl (fun g17 => ?_) (fun g17 => ?_)
 have g17' := (nT g17)
 refine WL.m rfl rfl <| WL.gy rfl rfl rfl (by rw [(nT g17)] <;> rfl) <| WL.c1 hb91 rfl rfl ((plex_digit _ _)) (fun w18 hw18 => ?_)
 obtain rfl := hw18
 refine WL.gy rfl rfl rfl (by rw [(nT g17)] <;> rfl) <| WL.p (.lss rfl rfl) rfl <| WL.gy rfl rfl rfl g15 <| WL.p (.pkT rfl (by rw [(nT g17)] <;> rfl) rfl) rfl <| WL.p (.pkF rfl g15 rfl) rfl <| WL.nil <| ?_
 refine W.cond rfl (fun h19 => ?_) (fun h19 => ?_)
 have h19' := dT h19
 refine W.sr <| WL.z rfl rfl ?_
 refine W.ret (W.ret1 rfl rfl ?_)
 exact ⟨ret_bool (by unfold openB; rw [if_pos hz2.1, hz2.2, hst, pOpen_no (.inr ⟨by assumption, by assumption⟩)]; rfl), hT⟩
 have h19' := dF h19
 refine W.skip <| W.reg <| WL.m rfl rfl <| WL.p (.iis (((i + 1 : Nat) : Int)) (.add rfl rfl (i64w oO)) oO) rfl <| WL.z rfl rfl ?_
 exact ⟨(i + 1, z), ⟨rfl, rfl, rfl, trivial⟩, ⟨hT, ⟨hrd.1, hrd.2⟩, by ((try simp only) <;> omega), by ((try simp only) <;> omega), .inl ⟨by omega, hz2.1, by rw [hz2.2, hst, pOpen_yes (u8_ne (d := 62) aS) (.inr aS), Bool.true_and]⟩⟩, by ((try simp only) <;> omega)⟩
 have g17' := (nF g17)
 refine WL.gn rfl rfl rfl (by rw [(nF g17)] <;> rfl) <| WL.gn rfl rfl rfl (by rw [(nF g17)] <;> rfl) <| WL.gy rfl rfl rfl g15 <| WL.p (.pkF rfl (by rw [(nF g17)] <;> rfl) rfl) rfl <| WL.p (.pkF rfl g15 rfl) rfl <| WL.nil <| ?_
 refine W.condF rfl rfl ?_
 refine W.skip <| W.reg <| WL.m rfl rfl <| WL.p (.iis (((i + 1 : Nat) : Int)) (.add rfl rfl (i64w oO)) oO) rfl <| WL.z rfl rfl ?_
 exact ⟨(i + 1, z), ⟨rfl, rfl, rfl, trivial⟩, ⟨hT, ⟨hrd.1, hrd.2⟩, by ((try simp only) <;> omega), by ((try simp only) <;> omega), .inl ⟨by omega, hz2.1, by rw [hz2.2, hst, pOpen_yes (u8_ne (d := 62) aS) (.inl aS), Bool.true_and]⟩⟩, by ((try simp only) <;> omega)⟩
 have g15' := dT g15
 refine WL.gn rfl rfl rfl g15 <| WL.gn rfl rfl rfl g15 <| WL.gn rfl rfl rfl g15 <| WL.gu rfl rfl rfl <| WL.gu rfl rfl rfl <| WL.gu rfl rfl rfl <| WL.gn rfl rfl rfl g15 <| WL.p (.pkT rfl g15 rfl) rfl <| WL.nil <| ?_
 refine W.condT rfl rfl ?_
 refine W.sr <| WL.z rfl rfl ?_
 refine W.ret (W.ret1 rfl rfl ?_)
 exact ⟨ret_bool (by unfold openB; rw [if_pos hz2.1, hz2.2, hst, pOpen_no (.inl (u8_eq (d := 62) aS))]; rfl), hT⟩
 have h14' := dF h14
 refine W.exit <| W.sr <| WL.z rfl rfl ?_
 refine W.ret (W.ret1 rfl rfl ?_)
 exact ⟨ret_bool (by
  unfold openB
  rcases hz with h | h
  rw [if_pos h.2.1, h.2.2, List.drop_eq_nil_of_le oO]; rfl
  rw [if_neg h.2]), hT⟩
theorem plex_text (r : Nat) (p : Option Addr) (l : List UInt8) (c t : Nat) (refs : Bool) (w : World) (h : PRd w r p l c t refs) (hne : 0 < l.length → (pA p).block ≠ r) (hc : l.length ≤ c) (hl : l.length ≤ 100000000) (ht : t < l.length) :
  Calls Tryz.prog 84 #[.pointer (some ⟨r, 0, none⟩)] w (Ends 29 (textR l t) (fun a => .agg (pobj 5 0 a.1).toArray) (fun a w' => PRd w' r p l c a.2 refs ∧ Touch w.heap.size r w w') (fun w' => Touch w.heap.size r w w')) := by
 have hr := h.1
 have hb := h.2
 obtain ⟨X, hX⟩ : ∃ X, X = textR l t := ⟨_, rfl⟩
 rw [← hX]
 unfold textR at hX
 have hN : ∀ w1, BytesAt w1 p l → Calls Tryz.prog 94 #[.slice p l.length c, .int .i64 (t : Int)] w1 fun e w' => e = .returned (nextR l t).val ∧ Below w1.heap.size w1 w' := fun w1 h1 => scan_Next t p l c w1 h1 hc hl
 have hstep := nextR_step l t oO
 generalize nextR l t = N at hX hN hstep
 refine W.enter func84 rfl ntmps84 (Nat.le_of_ble_eq_true rfl) ?_
 have hB0 := Touch.refl (w.heap.size) r w
 refine W.sr <| WL.alloc zeroValue28 rfl (fun b1 wb1 eb1 hkb1 hub1 hsb1 => ?_)
 have hl3 : r < b1 := by rw [eb1]; exact hr.lt
 have hk2 := hr.upd hub1 (Nat.ne_of_lt hl3)
 have hvl5 := fun h0 => eb1 ▸ hb.lt h0
 have hv4 := bup hb hub1 hvl5
 have hgeb1 : w.heap.size ≤ b1 := by rw [eb1]; exact hB0.size
 have hB6 := Touch.trans hB0 (Touch.of_new hub1 hgeb1)
 refine WL.nil <| ?_
 obtain ⟨t0, ht0⟩ : ∃ t0, t0 = t := ⟨t, rfl⟩
 refine W.cut (α := Nat) (fun t => [(0, .pointer (some ⟨r, 0, none⟩)), (2, .pointer (some ⟨b1, 0, none⟩)), (3, .pointer (some ⟨t, 0, none⟩)), (4, .int .i64 N.at'), (5, .int .i64 N.e)]) (fun t w' => Touch w.heap.size r w w' ∧ Blk w' r #[.slice p l.length c, .int .i64 (t0 : Int), .bool refs] 98 ∧ BytesAt w' p l ∧ Blk w' b1 (pobj 0 0 []).toArray 28 ∧ Blk w' t #[.int .i64 N.k, .int .i64 N.n, .string (bs N.s)] 120 ∧ b1 < t) ?_ (fun t w1 hR => ?_)
 have hrB : r < b1 := by have := hr.lt; omega
 refine W.regY 17 rfl mixed (fun w7 dw7 => ?_)
 have hk8 := hk2.drew dw7
 have hk9 := hkb1.drew dw7
 have hv10 := hv4.drew dw7
 have hB11 := Touch.trans hB6 (Touch.of_drew dw7)
 refine WY.tk 0 rfl (.mv rfl) rfl ?_
 refine WY.tk 1 rfl (.nck rfl) rfl ?_
 refine WY.tk 2 rfl (.fa underlying98 rfl sizeOf26 dD rfl) rfl ?_
 refine WY.tk 4 rfl (.mv rfl) rfl ?_
 refine WY.tk 5 rfl (.nck rfl) rfl ?_
 refine WY.tk 6 rfl (.fa underlying98 rfl sizeOf3 dD rfl) rfl ?_
 refine WY.br [3, 7, 13] kR rfl ⟨⟨_, rfl, ?_⟩, ⟨_, rfl, ?_⟩, ⟨_, rfl, ?_⟩, trivial⟩
 refine WL.r (Rd.ld (isAgg26 _) rfl hk8 rfl) rfl <| WL.nil <| ?_
 refine WY.br2 7 rfl 13 rfl ?_ ?_
 refine WL.r (Rd.ld (isAgg3 _) rfl hk8 rfl) rfl <| WL.nil <| ?_
 refine WY.br2 8 rfl 13 rfl ?_ ?_
 refine WL.c1 hb94 rfl rfl ((hN _ hv10)) (fun w12 hw12 => ?_)
 have hk13 := hk8.below hw12 hk8.lt
 have hk14 := hk9.below hw12 hk9.lt
 have hv15 := BytesAt.below hv10 hw12 (fun h0 => hv10.lt h0)
 have hB16 := Touch.trans hB11 (Touch.mono (Touch.of_below hw12) hB11.size)
 refine WL.nil <| ?_
 refine WY.tk 9 rfl (.mv rfl) rfl ?_
 refine WY.tk 10 rfl (.ext rfl rfl) rfl ?_
 refine WY.tk 11 rfl (.ext rfl rfl) rfl ?_
 refine WY.tk 12 rfl (.ext rfl rfl) rfl ?_
 refine WY.br1 13 rfl ?_
 refine WL.alloc zeroValue120 rfl (fun b17 wb17 eb17 hkb17 hub17 hsb17 => ?_)
 have hl19 : r < b17 := by rw [eb17]; exact hk13.lt
 have hk18 := hk13.upd hub17 (Nat.ne_of_lt hl19)
 have hl21 : b1 < b17 := by rw [eb17]; exact hk14.lt
 have hk20 := hk14.upd hub17 (Nat.ne_of_lt hl21)
 have hvl23 := fun h0 => eb17 ▸ hv15.lt h0
 have hv22 := bup hv15 hub17 hvl23
 have hgeb17 : w.heap.size ≤ b17 := by rw [eb17]; exact hB16.size
 have hB24 := Touch.trans hB16 (Touch.of_new hub17 hgeb17)
 refine WL.nil <| ?_
 refine WY.br1 14 rfl ?_
 refine WL.stL rfl rfl hkb17 isz120 rfl rfl (fun w25 hkw25 huw25 hsw25 => ?_)
 have hk26 := hk18.up huw25
 have hk27 := hk20.up huw25
 have hv28 := bup hv22 huw25 hvl23
 have hB29 := Touch.trans hB24 (Touch.of_new huw25 oO)
 refine WL.nil <| ?_
 refine WY.tk 15 rfl (.as rfl) rfl ?_
 refine WY.tk 16 rfl (.as rfl) rfl ?_
 refine WY.done kR ?_
 exact ⟨_, ⟨rfl, rfl, rfl, rfl, rfl, trivial⟩, hB29, by rw [ht0]; exact hk26, hv28, hk27, hkw25, by omega⟩
 refine WL.alloc zeroValue120 rfl (fun b30 wb30 eb30 hkb30 hub30 hsb30 => ?_)
 have hl32 : r < b30 := by rw [eb30]; exact hk8.lt
 have hk31 := hk8.upd hub30 (Nat.ne_of_lt hl32)
 have hl34 : b1 < b30 := by rw [eb30]; exact hk9.lt
 have hk33 := hk9.upd hub30 (Nat.ne_of_lt hl34)
 have hvl36 := fun h0 => eb30 ▸ hv10.lt h0
 have hv35 := bup hv10 hub30 hvl36
 have hgeb30 : w.heap.size ≤ b30 := by rw [eb30]; exact hB11.size
 have hB37 := Touch.trans hB11 (Touch.of_new hub30 hgeb30)
 refine WL.nil <| ?_
 refine WY.br1 8 rfl ?_
 refine WL.c1 hb94 rfl rfl ((hN _ hv35)) (fun w38 hw38 => ?_)
 have hk39 := hk31.below hw38 hk31.lt
 have hk40 := hk33.below hw38 hk33.lt
 have hk41 := hkb30.below hw38 hkb30.lt
 have hv42 := BytesAt.below hv35 hw38 (fun h0 => hv35.lt h0)
 have hB43 := Touch.trans hB37 (Touch.mono (Touch.of_below hw38) hB37.size)
 refine WL.nil <| ?_
 refine WY.tk 9 rfl (.mv rfl) rfl ?_
 refine WY.tk 10 rfl (.ext rfl rfl) rfl ?_
 refine WY.tk 11 rfl (.ext rfl rfl) rfl ?_
 refine WY.tk 12 rfl (.ext rfl rfl) rfl ?_
 refine WY.br1 14 rfl ?_
 refine WL.stL rfl rfl hk41 isz120 rfl rfl (fun w44 hkw44 huw44 hsw44 => ?_)
 have hk45 := hk39.up huw44
 have hk46 := hk40.up huw44
 have hv47 := bup hv42 huw44 hvl36
 have hB48 := Touch.trans hB43 (Touch.of_new huw44 oO)
 refine WL.nil <| ?_
 refine WY.tk 15 rfl (.as rfl) rfl ?_
 refine WY.tk 16 rfl (.as rfl) rfl ?_
 refine WY.done kR ?_
 exact ⟨_, ⟨rfl, rfl, rfl, rfl, rfl, trivial⟩, hB48, by rw [ht0]; exact hk45, hv47, hk46, hkw44, by omega⟩
 refine WL.alloc zeroValue120 rfl (fun b49 wb49 eb49 hkb49 hub49 hsb49 => ?_)
 have hl51 : r < b49 := by rw [eb49]; exact hk8.lt
 have hk50 := hk8.upd hub49 (Nat.ne_of_lt hl51)
 have hl53 : b1 < b49 := by rw [eb49]; exact hk9.lt
 have hk52 := hk9.upd hub49 (Nat.ne_of_lt hl53)
 have hvl55 := fun h0 => eb49 ▸ hv10.lt h0
 have hv54 := bup hv10 hub49 hvl55
 have hgeb49 : w.heap.size ≤ b49 := by rw [eb49]; exact hB11.size
 have hB56 := Touch.trans hB11 (Touch.of_new hub49 hgeb49)
 refine WL.nil <| ?_
 refine WY.br1 7 rfl ?_
 refine WL.r (Rd.ld (isAgg3 _) rfl hk50 rfl) rfl <| WL.nil <| ?_
 refine WY.br1 8 rfl ?_
 refine WL.c1 hb94 rfl rfl ((hN _ hv54)) (fun w57 hw57 => ?_)
 have hk58 := hk50.below hw57 hk50.lt
 have hk59 := hk52.below hw57 hk52.lt
 have hk60 := hkb49.below hw57 hkb49.lt
 have hv61 := BytesAt.below hv54 hw57 (fun h0 => hv54.lt h0)
 have hB62 := Touch.trans hB56 (Touch.mono (Touch.of_below hw57) hB56.size)
 refine WL.nil <| ?_
 refine WY.tk 9 rfl (.mv rfl) rfl ?_
 refine WY.tk 10 rfl (.ext rfl rfl) rfl ?_
 refine WY.tk 11 rfl (.ext rfl rfl) rfl ?_
 refine WY.tk 12 rfl (.ext rfl rfl) rfl ?_
 refine WY.br1 14 rfl ?_
 refine WL.stL rfl rfl hk60 isz120 rfl rfl (fun w63 hkw63 huw63 hsw63 => ?_)
 have hk64 := hk58.up huw63
 have hk65 := hk59.up huw63
 have hv66 := bup hv61 huw63 hvl55
 have hB67 := Touch.trans hB62 (Touch.of_new huw63 oO)
 refine WL.nil <| ?_
 refine WY.tk 15 rfl (.as rfl) rfl ?_
 refine WY.tk 16 rfl (.as rfl) rfl ?_
 refine WY.done kR ?_
 exact ⟨_, ⟨rfl, rfl, rfl, rfl, rfl, trivial⟩, hB67, by rw [ht0]; exact hk64, hv66, hk65, hkw63, by omega⟩
 refine WL.r (Rd.ld (isAgg3 _) rfl hk8 rfl) rfl <| WL.nil <| ?_
 refine WY.br2 3 rfl 13 rfl ?_ ?_
 refine WL.r (Rd.ld (isAgg26 _) rfl hk8 rfl) rfl <| WL.nil <| ?_
 refine WY.br2 8 rfl 13 rfl ?_ ?_
 refine WL.c1 hb94 rfl rfl ((hN _ hv10)) (fun w68 hw68 => ?_)
 have hk69 := hk8.below hw68 hk8.lt
 have hk70 := hk9.below hw68 hk9.lt
 have hv71 := BytesAt.below hv10 hw68 (fun h0 => hv10.lt h0)
 have hB72 := Touch.trans hB11 (Touch.mono (Touch.of_below hw68) hB11.size)
 refine WL.nil <| ?_
 refine WY.tk 9 rfl (.mv rfl) rfl ?_
 refine WY.tk 10 rfl (.ext rfl rfl) rfl ?_
 refine WY.tk 11 rfl (.ext rfl rfl) rfl ?_
 refine WY.tk 12 rfl (.ext rfl rfl) rfl ?_
 refine WY.br1 13 rfl ?_
 refine WL.alloc zeroValue120 rfl (fun b73 wb73 eb73 hkb73 hub73 hsb73 => ?_)
 have hl75 : r < b73 := by rw [eb73]; exact hk69.lt
 have hk74 := hk69.upd hub73 (Nat.ne_of_lt hl75)
 have hl77 : b1 < b73 := by rw [eb73]; exact hk70.lt
 have hk76 := hk70.upd hub73 (Nat.ne_of_lt hl77)
 have hvl79 := fun h0 => eb73 ▸ hv71.lt h0
 have hv78 := bup hv71 hub73 hvl79
 have hgeb73 : w.heap.size ≤ b73 := by rw [eb73]; exact hB72.size
 have hB80 := Touch.trans hB72 (Touch.of_new hub73 hgeb73)
 refine WL.nil <| ?_
 refine WY.br1 14 rfl ?_
 refine WL.stL rfl rfl hkb73 isz120 rfl rfl (fun w81 hkw81 huw81 hsw81 => ?_)
 have hk82 := hk74.up huw81
 have hk83 := hk76.up huw81
 have hv84 := bup hv78 huw81 hvl79
 have hB85 := Touch.trans hB80 (Touch.of_new huw81 oO)
 refine WL.nil <| ?_
 refine WY.tk 15 rfl (.as rfl) rfl ?_
 refine WY.tk 16 rfl (.as rfl) rfl ?_
 refine WY.done kR ?_
 exact ⟨_, ⟨rfl, rfl, rfl, rfl, rfl, trivial⟩, hB85, by rw [ht0]; exact hk82, hv84, hk83, hkw81, by omega⟩
 refine WL.alloc zeroValue120 rfl (fun b86 wb86 eb86 hkb86 hub86 hsb86 => ?_)
 have hl88 : r < b86 := by rw [eb86]; exact hk8.lt
 have hk87 := hk8.upd hub86 (Nat.ne_of_lt hl88)
 have hl90 : b1 < b86 := by rw [eb86]; exact hk9.lt
 have hk89 := hk9.upd hub86 (Nat.ne_of_lt hl90)
 have hvl92 := fun h0 => eb86 ▸ hv10.lt h0
 have hv91 := bup hv10 hub86 hvl92
 have hgeb86 : w.heap.size ≤ b86 := by rw [eb86]; exact hB11.size
 have hB93 := Touch.trans hB11 (Touch.of_new hub86 hgeb86)
 refine WL.nil <| ?_
 refine WY.br1 8 rfl ?_
 refine WL.c1 hb94 rfl rfl ((hN _ hv91)) (fun w94 hw94 => ?_)
 have hk95 := hk87.below hw94 hk87.lt
 have hk96 := hk89.below hw94 hk89.lt
 have hk97 := hkb86.below hw94 hkb86.lt
 have hv98 := BytesAt.below hv91 hw94 (fun h0 => hv91.lt h0)
 have hB99 := Touch.trans hB93 (Touch.mono (Touch.of_below hw94) hB93.size)
 refine WL.nil <| ?_
 refine WY.tk 9 rfl (.mv rfl) rfl ?_
 refine WY.tk 10 rfl (.ext rfl rfl) rfl ?_
 refine WY.tk 11 rfl (.ext rfl rfl) rfl ?_
 refine WY.tk 12 rfl (.ext rfl rfl) rfl ?_
 refine WY.br1 14 rfl ?_
 refine WL.stL rfl rfl hk97 isz120 rfl rfl (fun w100 hkw100 huw100 hsw100 => ?_)
 have hk101 := hk95.up huw100
 have hk102 := hk96.up huw100
 have hv103 := bup hv98 huw100 hvl92
 have hB104 := Touch.trans hB99 (Touch.of_new huw100 oO)
 refine WL.nil <| ?_
 refine WY.tk 15 rfl (.as rfl) rfl ?_
 refine WY.tk 16 rfl (.as rfl) rfl ?_
 refine WY.done kR ?_
 exact ⟨_, ⟨rfl, rfl, rfl, rfl, rfl, trivial⟩, hB104, by rw [ht0]; exact hk101, hv103, hk102, hkw100, by omega⟩
 refine WL.alloc zeroValue120 rfl (fun b105 wb105 eb105 hkb105 hub105 hsb105 => ?_)
 have hl107 : r < b105 := by rw [eb105]; exact hk8.lt
 have hk106 := hk8.upd hub105 (Nat.ne_of_lt hl107)
 have hl109 : b1 < b105 := by rw [eb105]; exact hk9.lt
 have hk108 := hk9.upd hub105 (Nat.ne_of_lt hl109)
 have hvl111 := fun h0 => eb105 ▸ hv10.lt h0
 have hv110 := bup hv10 hub105 hvl111
 have hgeb105 : w.heap.size ≤ b105 := by rw [eb105]; exact hB11.size
 have hB112 := Touch.trans hB11 (Touch.of_new hub105 hgeb105)
 refine WL.nil <| ?_
 refine WY.br1 3 rfl ?_
 refine WL.r (Rd.ld (isAgg26 _) rfl hk106 rfl) rfl <| WL.nil <| ?_
 refine WY.br1 8 rfl ?_
 refine WL.c1 hb94 rfl rfl ((hN _ hv110)) (fun w113 hw113 => ?_)
 have hk114 := hk106.below hw113 hk106.lt
 have hk115 := hk108.below hw113 hk108.lt
 have hk116 := hkb105.below hw113 hkb105.lt
 have hv117 := BytesAt.below hv110 hw113 (fun h0 => hv110.lt h0)
 have hB118 := Touch.trans hB112 (Touch.mono (Touch.of_below hw113) hB112.size)
 refine WL.nil <| ?_
 refine WY.tk 9 rfl (.mv rfl) rfl ?_
 refine WY.tk 10 rfl (.ext rfl rfl) rfl ?_
 refine WY.tk 11 rfl (.ext rfl rfl) rfl ?_
 refine WY.tk 12 rfl (.ext rfl rfl) rfl ?_
 refine WY.br1 14 rfl ?_
 refine WL.stL rfl rfl hk116 isz120 rfl rfl (fun w119 hkw119 huw119 hsw119 => ?_)
 have hk120 := hk114.up huw119
 have hk121 := hk115.up huw119
 have hv122 := bup hv117 huw119 hvl111
 have hB123 := Touch.trans hB118 (Touch.of_new huw119 oO)
 refine WL.nil <| ?_
 refine WY.tk 15 rfl (.as rfl) rfl ?_
 refine WY.tk 16 rfl (.as rfl) rfl ?_
 refine WY.done kR ?_
 exact ⟨_, ⟨rfl, rfl, rfl, rfl, rfl, trivial⟩, hB123, by rw [ht0]; exact hk120, hv122, hk121, hkw119, by omega⟩
 refine WL.alloc zeroValue120 rfl (fun b124 wb124 eb124 hkb124 hub124 hsb124 => ?_)
 have hl126 : r < b124 := by rw [eb124]; exact hk8.lt
 have hk125 := hk8.upd hub124 (Nat.ne_of_lt hl126)
 have hl128 : b1 < b124 := by rw [eb124]; exact hk9.lt
 have hk127 := hk9.upd hub124 (Nat.ne_of_lt hl128)
 have hvl130 := fun h0 => eb124 ▸ hv10.lt h0
 have hv129 := bup hv10 hub124 hvl130
 have hgeb124 : w.heap.size ≤ b124 := by rw [eb124]; exact hB11.size
 have hB131 := Touch.trans hB11 (Touch.of_new hub124 hgeb124)
 refine WL.nil <| ?_
 refine WY.br2 3 rfl 7 rfl ?_ ?_
 refine WL.r (Rd.ld (isAgg26 _) rfl hk125 rfl) rfl <| WL.nil <| ?_
 refine WY.br1 7 rfl ?_
 refine WL.r (Rd.ld (isAgg3 _) rfl hk125 rfl) rfl <| WL.nil <| ?_
 refine WY.br1 8 rfl ?_
 refine WL.c1 hb94 rfl rfl ((hN _ hv129)) (fun w132 hw132 => ?_)
 have hk133 := hk125.below hw132 hk125.lt
 have hk134 := hk127.below hw132 hk127.lt
 have hk135 := hkb124.below hw132 hkb124.lt
 have hv136 := BytesAt.below hv129 hw132 (fun h0 => hv129.lt h0)
 have hB137 := Touch.trans hB131 (Touch.mono (Touch.of_below hw132) hB131.size)
 refine WL.nil <| ?_
 refine WY.tk 9 rfl (.mv rfl) rfl ?_
 refine WY.tk 10 rfl (.ext rfl rfl) rfl ?_
 refine WY.tk 11 rfl (.ext rfl rfl) rfl ?_
 refine WY.tk 12 rfl (.ext rfl rfl) rfl ?_
 refine WY.br1 14 rfl ?_
 refine WL.stL rfl rfl hk135 isz120 rfl rfl (fun w138 hkw138 huw138 hsw138 => ?_)
 have hk139 := hk133.up huw138
 have hk140 := hk134.up huw138
 have hv141 := bup hv136 huw138 hvl130
 have hB142 := Touch.trans hB137 (Touch.of_new huw138 oO)
 refine WL.nil <| ?_
 refine WY.tk 15 rfl (.as rfl) rfl ?_
 refine WY.tk 16 rfl (.as rfl) rfl ?_
 refine WY.done kR ?_
 exact ⟨_, ⟨rfl, rfl, rfl, rfl, rfl, trivial⟩, hB142, by rw [ht0]; exact hk139, hv141, hk140, hkw138, by omega⟩
 refine WL.r (Rd.ld (isAgg3 _) rfl hk125 rfl) rfl <| WL.nil <| ?_
 refine WY.br1 3 rfl ?_
 refine WL.r (Rd.ld (isAgg26 _) rfl hk125 rfl) rfl <| WL.nil <| ?_
 refine WY.br1 8 rfl ?_
 refine WL.c1 hb94 rfl rfl ((hN _ hv129)) (fun w143 hw143 => ?_)
 have hk144 := hk125.below hw143 hk125.lt
 have hk145 := hk127.below hw143 hk127.lt
 have hk146 := hkb124.below hw143 hkb124.lt
 have hv147 := BytesAt.below hv129 hw143 (fun h0 => hv129.lt h0)
 have hB148 := Touch.trans hB131 (Touch.mono (Touch.of_below hw143) hB131.size)
 refine WL.nil <| ?_
 refine WY.tk 9 rfl (.mv rfl) rfl ?_
 refine WY.tk 10 rfl (.ext rfl rfl) rfl ?_
 refine WY.tk 11 rfl (.ext rfl rfl) rfl ?_
 refine WY.tk 12 rfl (.ext rfl rfl) rfl ?_
 refine WY.br1 14 rfl ?_
 refine WL.stL rfl rfl hk146 isz120 rfl rfl (fun w149 hkw149 huw149 hsw149 => ?_)
 have hk150 := hk144.up huw149
 have hk151 := hk145.up huw149
 have hv152 := bup hv147 huw149 hvl130
 have hB153 := Touch.trans hB148 (Touch.of_new huw149 oO)
 refine WL.nil <| ?_
 refine WY.tk 15 rfl (.as rfl) rfl ?_
 refine WY.tk 16 rfl (.as rfl) rfl ?_
 refine WY.done kR ?_
 exact ⟨_, ⟨rfl, rfl, rfl, rfl, rfl, trivial⟩, hB153, by rw [ht0]; exact hk150, hv152, hk151, hkw149, by omega⟩
 obtain ⟨b3, rfl⟩ : ∃ b3, b3 = t := ⟨t, rfl⟩
 subst ht0
 obtain ⟨hT, hr2, hb2, hk1, hk3, h13⟩ := hR
 refine W.seq <| W.block <| W.sr <| WL.m rfl rfl <| WL.p (.eql rfl rfl) rfl <| WL.m rfl rfl <| WL.gd rfl rfl rfl (fun g154 => ?_) (fun g154 => ?_)
 have g154' := dT g154
 refine WL.m rfl rfl <| WL.gy rfl rfl rfl g154 <| WL.c1 hb95 rfl rfl ((plex_open r p l c t0 refs _ ⟨hr2, hb2⟩ hl ht)) (fun w155 hw155 => ?_)
 have hk156 := hr2.below hw155 hr2.lt
 have hk157 := hk1.below hw155 hk1.lt
 have hk158 := hk3.below hw155 hk3.lt
 have hv159 := BytesAt.below hb2 hw155 (fun h0 => hb2.lt h0)
 have hB160 := Touch.trans hT (Touch.mono (Touch.of_below hw155) hT.size)
 refine WL.p (.pkT rfl g154 rfl) rfl <| WL.z rfl rfl ?_
 refine W.cond rfl (fun h161 => ?_) (fun h161 => ?_)
 refine W.reg <| WL.cp hb82 rfl ((plex_fail 24 _)) (fun w162 hw162 => ?_)
 obtain rfl := hw162
 exact pn_is (Ends.err 24 (by rw [hX, if_pos ⟨by assumption, by assumption⟩]) hB160)
 refine W.sr <| WL.m rfl rfl <| WL.p (.eql rfl rfl) rfl <| WL.z rfl rfl ?_
 refine W.cond rfl (fun h163 => ?_) (fun h163 => ?_)
 have h163' := dT h163
 refine W.reg <| WL.cp hb82 rfl ((plex_fail 25 _)) (fun w164 hw164 => ?_)
 obtain rfl := hw164
 exact pn_is (Ends.err 25 (by rw [hX, if_neg (by rintro ⟨h1, h2⟩; simp_all), if_pos aS]) hB160)
 have h163' := dF h163
 refine W.sr <| WL.m rfl rfl <| WL.p (.neq rfl rfl) rfl <| WL.m rfl rfl <| WL.gd rfl rfl rfl (fun g165 => ?_) (fun g165 => ?_)
 have g165' := ndF g165
 refine WL.p (.fa underlying120 rfl sizeOf3 dD rfl) rfl <| WL.gy rfl rfl rfl g165 <| WL.r (Rd.ld (isAgg3 _) rfl hk158 rfl) rfl <| WL.gy rfl rfl rfl g165 <| WL.p (.neq rfl rfl) rfl <| WL.p (.pkF rfl g165 rfl) rfl <| WL.z rfl rfl ?_
 refine W.cond rfl (fun h166 => ?_) (fun h166 => ?_)
 have h166' := ndT h166
 refine W.reg <| WL.cp hb82 rfl ((plex_fail 23 _)) (fun w167 hw167 => ?_)
 obtain rfl := hw167
 exact pn_is (Ends.err 23 (by rw [hX, if_neg (by rintro ⟨h1, h2⟩; simp_all), if_neg aS, if_pos (.inr aS)]) hB160)
 have h166' := ndF h166
 refine W.skip <| W.sr <| WL.m rfl rfl <| WL.p (.iis (((N.at'.toNat : Nat) : Int)) (.mv rfl) oO) rfl <| WL.p (.nck rfl) rfl <| WL.p (.fa underlying98 rfl sizeOf3 dD rfl) rfl <| WL.st sizeOf3 rfl rfl rfl hk156 oD (fun w168 hkw168 huw168 hsw168 => ?_)
 have hkw168 : Blk w168 r _ _ := hkw168
 have huw168 : Upd r _ _ := huw168
 have hk169 := hk157.up huw168
 have hk170 := hk158.up huw168
 have hv171 := BytesAt.upd hv159 huw168 hne
 have hB172 := Touch.trans hB160 (Touch.of_upd huw168)
 refine WL.nil <| ?_
 refine W.sr <| WL.p (.fa underlying120 rfl sizeOf9 dD rfl) rfl <| WL.r (Rd.ld (isAgg9 _) rfl hk170 rfl) rfl <| ?_
 refine WL.p (.buildL (ps := _) blt28 rfl rfl rfl pS) rfl ?_
 refine WL.stL rfl rfl hk169 isz28 rfl rfl (fun w173 hkw173 huw173 hsw173 => ?_)
 have hk174 := hkw168.up huw173
 have hv176 := bup hv171 huw173 hvl5
 have hB177 := Touch.trans hB172 (Touch.of_new huw173 oO)
 refine WL.nil <| ?_
 refine W.ret (W.retc1 rfl rfl (ldRow hkw173 underlying28 rfl isz28)  ?_)
 exact Ends.ok (N.s, N.at'.toNat) (by rw [hX, if_neg (by rintro ⟨h1, h2⟩; simp_all), if_neg aS, if_neg oO]) rfl ⟨⟨hk174, hv176⟩, hB177⟩
 have g165' := ndT g165
 refine WL.gn rfl rfl rfl g165 <| WL.gn rfl rfl rfl g165 <| WL.p (.pkT rfl g165 rfl) rfl <| WL.z rfl rfl ?_
 refine W.condT rfl rfl ?_
 refine W.reg <| WL.cp hb82 rfl ((plex_fail 23 _)) (fun w178 hw178 => ?_)
 obtain rfl := hw178
 exact pn_is (Ends.err 23 (by rw [hX, if_neg (by rintro ⟨h1, h2⟩; simp_all), if_neg aS, if_pos (.inl aS)]) hB160)
 have g154' := dF g154
 refine WL.gn rfl rfl rfl g154 <| WL.p (.pkF rfl g154 rfl) rfl <| WL.z rfl rfl ?_
 refine W.condF rfl rfl ?_
 refine W.sr <| WL.m rfl rfl <| WL.p (.eql rfl rfl) rfl <| WL.z rfl rfl ?_
 refine W.cond rfl (fun h179 => ?_) (fun h179 => ?_)
 have h179' := dT h179
 refine W.reg <| WL.cp hb82 rfl ((plex_fail 25 _)) (fun w180 hw180 => ?_)
 obtain rfl := hw180
 exact pn_is (Ends.err 25 (by rw [hX, if_neg (by rintro ⟨h1, h2⟩; simp_all), if_pos aS]) hT)
 have h179' := dF h179
 refine W.sr <| WL.m rfl rfl <| WL.p (.neq rfl rfl) rfl <| WL.m rfl rfl <| WL.gd rfl rfl rfl (fun g181 => ?_) (fun g181 => ?_)
 have g181' := ndF g181
 refine WL.p (.fa underlying120 rfl sizeOf3 dD rfl) rfl <| WL.gy rfl rfl rfl g181 <| WL.r (Rd.ld (isAgg3 _) rfl hk3 rfl) rfl <| WL.gy rfl rfl rfl g181 <| WL.p (.neq rfl rfl) rfl <| WL.p (.pkF rfl g181 rfl) rfl <| WL.z rfl rfl ?_
 refine W.cond rfl (fun h182 => ?_) (fun h182 => ?_)
 have h182' := ndT h182
 refine W.reg <| WL.cp hb82 rfl ((plex_fail 23 _)) (fun w183 hw183 => ?_)
 obtain rfl := hw183
 exact pn_is (Ends.err 23 (by rw [hX, if_neg (by rintro ⟨h1, h2⟩; simp_all), if_neg aS, if_pos (.inr aS)]) hT)
 have h182' := ndF h182
 refine W.skip <| W.sr <| WL.m rfl rfl <| WL.p (.iis (((N.at'.toNat : Nat) : Int)) (.mv rfl) oO) rfl <| WL.p (.nck rfl) rfl <| WL.p (.fa underlying98 rfl sizeOf3 dD rfl) rfl <| WL.st sizeOf3 rfl rfl rfl hr2 oD (fun w184 hkw184 huw184 hsw184 => ?_)
 have hkw184 : Blk w184 r _ _ := hkw184
 have huw184 : Upd r _ _ := huw184
 have hk185 := hk1.up huw184
 have hk186 := hk3.up huw184
 have hv187 := BytesAt.upd hb2 huw184 hne
 have hB188 := Touch.trans hT (Touch.of_upd huw184)
 refine WL.nil <| ?_
 refine W.sr <| WL.p (.fa underlying120 rfl sizeOf9 dD rfl) rfl <| WL.r (Rd.ld (isAgg9 _) rfl hk186 rfl) rfl <| ?_
 refine WL.p (.buildL (ps := _) blt28 rfl rfl rfl pS) rfl ?_
 refine WL.stL rfl rfl hk185 isz28 rfl rfl (fun w189 hkw189 huw189 hsw189 => ?_)
 have hk190 := hkw184.up huw189
 have hv192 := bup hv187 huw189 hvl5
 have hB193 := Touch.trans hB188 (Touch.of_new huw189 oO)
 refine WL.nil <| ?_
 refine W.ret (W.retc1 rfl rfl (ldRow hkw189 underlying28 rfl isz28)  ?_)
 exact Ends.ok (N.s, N.at'.toNat) (by rw [hX, if_neg (by rintro ⟨h1, h2⟩; simp_all), if_neg aS, if_neg oO]) rfl ⟨⟨hk190, hv192⟩, hB193⟩
 have g181' := ndT g181
 refine WL.gn rfl rfl rfl g181 <| WL.gn rfl rfl rfl g181 <| WL.p (.pkT rfl g181 rfl) rfl <| WL.z rfl rfl ?_
 refine W.condT rfl rfl ?_
 refine W.reg <| WL.cp hb82 rfl ((plex_fail 23 _)) (fun w194 hw194 => ?_)
 obtain rfl := hw194
 exact pn_is (Ends.err 23 (by rw [hX, if_neg (by rintro ⟨h1, h2⟩; simp_all), if_neg aS, if_pos (.inl aS)]) hT)
def skipE (l : List UInt8) (t : Nat) : Except Int UInt8 := match l[skipAt false l t]? with | none => .error 24 | some x => .ok x
theorem plex_skip (r : Nat) (p : Option Addr) (l : List UInt8) (c t : Nat) (refs : Bool) (w : World) (h : PRd w r p l c t refs) (hne : 0 < l.length → (pA p).block ≠ r) (hl : l.length ≤ 100000000) (ht : t ≤ l.length) :
  Calls Tryz.prog 93 #[.pointer (some ⟨r, 0, none⟩)] w (Ends 29 (skipE l t) (fun x => .int .u8 (x.toNat : Int)) (fun _ w' => PRd w' r p l c (skipAt false l t) refs ∧ Touch w.heap.size r w w') (fun w' => Touch w.heap.size r w w')) := by
 have hr := h.1
 have hb := h.2
 unfold skipE
 obtain ⟨s, hs⟩ : ∃ s, s = skipAt false l t := ⟨_, rfl⟩
 have hsl : s ≤ l.length := by rw [hs]; exact skipAt_le _ _ _
 rw [← hs]
 have hS : ∀ w1, BytesAt w1 p l → Calls Tryz.prog 34 #[.slice p l.length c, .int .i64 (t : Int)] w1 fun e w' => e = .returned (.int .i64 (s : Int)) ∧ w1 = w' := fun w1 h1 => (plex_Skip p l c t w1 h1 hl).mono fun e w' h => ⟨by rw [h.1, insA_nat l t ht, hs], h.2⟩
 refine W.enter func93 rfl ntmps93 (Nat.le_of_ble_eq_true rfl) ?_
 have hB0 := Touch.refl (w.heap.size) r w
 refine W.sr <| WL.z rfl rfl ?_
 refine W.seq <| W.regY 13 rfl mixed (fun w1 dw1 => ?_)
 have hk2 := hr.drew dw1
 have hv3 := hb.drew dw1
 have hB4 := Touch.trans hB0 (Touch.of_drew dw1)
 refine WY.tk 0 rfl (.mv rfl) rfl ?_
 refine WY.tk 1 rfl (.mv rfl) rfl ?_
 refine WY.tk 2 rfl (.nck rfl) rfl ?_
 refine WY.tk 3 rfl (.fa underlying98 rfl sizeOf26 dD rfl) rfl ?_
 refine WY.tk 5 rfl (.mv rfl) rfl ?_
 refine WY.tk 6 rfl (.nck rfl) rfl ?_
 refine WY.tk 7 rfl (.fa underlying98 rfl sizeOf3 dD rfl) rfl ?_
 refine WY.br2 4 rfl 8 rfl ?_ ?_
 refine WL.r (Rd.ld (isAgg26 _) rfl hk2 rfl) rfl <| WL.nil <| ?_
 refine WY.br1 8 rfl ?_
 refine WL.r (Rd.ld (isAgg3 _) rfl hk2 rfl) rfl <| WL.nil <| ?_
 refine WY.br1 9 rfl ?_
 refine WL.c1 hb34 rfl rfl ((hS _ hv3)) (fun w5 hw5 => ?_)
 obtain rfl := hw5
 refine WL.nil <| ?_
 refine WY.tk 10 rfl (.nck rfl) rfl ?_
 refine WY.tk 11 rfl (.fa underlying98 rfl sizeOf3 dD rfl) rfl ?_
 refine WY.br1 12 rfl ?_
 refine WL.st sizeOf3 rfl rfl rfl hk2 oD (fun w6 hkw6 huw6 hsw6 => ?_)
 have hkw6 : Blk w6 r _ _ := hkw6
 have huw6 : Upd r _ _ := huw6
 have hv7 := BytesAt.upd hv3 huw6 hne
 have hB8 := Touch.trans hB4 (Touch.of_upd huw6)
 refine WL.nil <| ?_
 refine WY.done kR ?_
 refine W.seq <| W.seq <| W.regQ mixed kR ?_
 refine WQ.p (.mv rfl) rfl <| WQ.p (.nck rfl) rfl <| WQ.p (.fa underlying98 rfl sizeOf3 dD rfl) rfl <| WQ.r (fun m => Rd.ld (isAgg3 _) rfl hkw6 rfl) rfl <| WQ.p (.mv rfl) rfl <| WQ.p (.nck rfl) rfl <| WQ.p (.fa underlying98 rfl sizeOf26 dD rfl) rfl <| WQ.r (fun m => Rd.ld (isAgg26 _) rfl hkw6 rfl) rfl <| WQ.p (.lenS underlying26 rfl) rfl <| WQ.p (.geq rfl rfl) rfl <| WQ.nil (fun w9 dw9 => ?_)
 have hk10 := hkw6.drew dw9
 have hv11 := hv7.drew dw9
 have hB12 := Touch.trans hB8 (Touch.of_drew dw9)
 refine W.cond rfl (fun h13 => ?_) (fun h13 => ?_)
 have h13' := dT h13
 refine W.reg <| WL.cp hb82 rfl ((plex_fail 24 _)) (fun w14 hw14 => ?_)
 obtain rfl := hw14
 exact pn_is (Ends.err 24 (by rw [List.getElem?_eq_none oO]) hB12)
 have h13' := dF h13
 refine W.skip <| W.seq <| W.regQ mixed kR ?_
 refine WQ.p (.mv rfl) rfl <| WQ.p (.nck rfl) rfl <| WQ.p (.fa underlying98 rfl sizeOf26 dD rfl) rfl <| WQ.r (fun m => Rd.ld (isAgg26 _) rfl hk10 rfl) rfl <| WQ.p (.mv rfl) rfl <| WQ.p (.nck rfl) rfl <| WQ.p (.fa underlying98 rfl sizeOf3 dD rfl) rfl <| WQ.r (fun m => Rd.ld (isAgg3 _) rfl hk10 rfl) rfl <| WQ.p (.ixb underlying26 sizeOf5 rfl rfl (hv11.isp oO) (s) (rfl) oO) rfl <| WQ.r (fun m => Rd.ldc (isAgg5 _) rfl ((hv11.drewN m).cells (s) oO)) rfl <| WQ.p (.as rfl) rfl <| WQ.nil (fun w15 dw15 => ?_)
 have hk16 := hk10.drew dw15
 have hv17 := hv11.drew dw15
 have hB18 := Touch.trans hB12 (Touch.of_drew dw15)
 refine W.ret (W.ret1 rfl rfl ?_)
 exact Ends.ok (l[s]'oO) (by rw [List.getElem?_eq_getElem oO]) rfl ⟨⟨hk16, hv17⟩, hB18⟩
 refine WL.r (Rd.ld (isAgg3 _) rfl hk2 rfl) rfl <| WL.nil <| ?_
 refine WY.br1 4 rfl ?_
 refine WL.r (Rd.ld (isAgg26 _) rfl hk2 rfl) rfl <| WL.nil <| ?_
 refine WY.br1 9 rfl ?_
 refine WL.c1 hb34 rfl rfl ((hS _ hv3)) (fun w19 hw19 => ?_)
 obtain rfl := hw19
 refine WL.nil <| ?_
 refine WY.tk 10 rfl (.nck rfl) rfl ?_
 refine WY.tk 11 rfl (.fa underlying98 rfl sizeOf3 dD rfl) rfl ?_
 refine WY.br1 12 rfl ?_
 refine WL.st sizeOf3 rfl rfl rfl hk2 oD (fun w20 hkw20 huw20 hsw20 => ?_)
 have hkw20 : Blk w20 r _ _ := hkw20
 have huw20 : Upd r _ _ := huw20
 have hv21 := BytesAt.upd hv3 huw20 hne
 have hB22 := Touch.trans hB4 (Touch.of_upd huw20)
 refine WL.nil <| ?_
 refine WY.done kR ?_
 refine W.seq <| W.seq <| W.regQ mixed kR ?_
 refine WQ.p (.mv rfl) rfl <| WQ.p (.nck rfl) rfl <| WQ.p (.fa underlying98 rfl sizeOf3 dD rfl) rfl <| WQ.r (fun m => Rd.ld (isAgg3 _) rfl hkw20 rfl) rfl <| WQ.p (.mv rfl) rfl <| WQ.p (.nck rfl) rfl <| WQ.p (.fa underlying98 rfl sizeOf26 dD rfl) rfl <| WQ.r (fun m => Rd.ld (isAgg26 _) rfl hkw20 rfl) rfl <| WQ.p (.lenS underlying26 rfl) rfl <| WQ.p (.geq rfl rfl) rfl <| WQ.nil (fun w23 dw23 => ?_)
 have hk24 := hkw20.drew dw23
 have hv25 := hv21.drew dw23
 have hB26 := Touch.trans hB22 (Touch.of_drew dw23)
 refine W.cond rfl (fun h27 => ?_) (fun h27 => ?_)
 have h27' := dT h27
 refine W.reg <| WL.cp hb82 rfl ((plex_fail 24 _)) (fun w28 hw28 => ?_)
 obtain rfl := hw28
 exact pn_is (Ends.err 24 (by rw [List.getElem?_eq_none oO]) hB26)
 have h27' := dF h27
 refine W.skip <| W.seq <| W.regQ mixed kR ?_
 refine WQ.p (.mv rfl) rfl <| WQ.p (.nck rfl) rfl <| WQ.p (.fa underlying98 rfl sizeOf26 dD rfl) rfl <| WQ.r (fun m => Rd.ld (isAgg26 _) rfl hk24 rfl) rfl <| WQ.p (.mv rfl) rfl <| WQ.p (.nck rfl) rfl <| WQ.p (.fa underlying98 rfl sizeOf3 dD rfl) rfl <| WQ.r (fun m => Rd.ld (isAgg3 _) rfl hk24 rfl) rfl <| WQ.p (.ixb underlying26 sizeOf5 rfl rfl (hv25.isp oO) (s) (rfl) oO) rfl <| WQ.r (fun m => Rd.ldc (isAgg5 _) rfl ((hv25.drewN m).cells (s) oO)) rfl <| WQ.p (.as rfl) rfl <| WQ.nil (fun w29 dw29 => ?_)
 have hk30 := hk24.drew dw29
 have hv31 := hv25.drew dw29
 have hB32 := Touch.trans hB26 (Touch.of_drew dw29)
 refine W.ret (W.ret1 rfl rfl ?_)
 exact Ends.ok (l[s]'oO) (by rw [List.getElem?_eq_getElem oO]) rfl ⟨⟨hk30, hv31⟩, hB32⟩
end
section
/-- objects that lie in blocks of S -/
structure LInv (w : World) (S : Nat → Prop) (cs : List PC) (acc : List PV) : Prop where
 len : cs.length = acc.length
 sub : ∀ i (h : i < cs.length) (h2 : i < acc.length), PRep w S cs[i] acc[i]
theorem LInv.nil (w : World) (S : Nat → Prop) : LInv w S [] [] := ⟨rfl, fun i h => by simp at h⟩
theorem LInv.same {w w1 : World} {S : Nat → Prop} {cs : List PC} {acc : List PV} (h : LInv w S cs acc) (hb : ∀ k, S k → k < w.heap.size → w1.heap[k]? = w.heap[k]?) : LInv w1 S cs acc := ⟨h.len, fun i h1 h2 => (h.sub i h1 h2).same hb⟩
theorem LInv.mono {w : World} {S T : Nat → Prop} {cs : List PC} {acc : List PV} (h : LInv w S cs acc) (hST : ∀ k, S k → k < w.heap.size → T k) : LInv w T cs acc := ⟨h.len, fun i h1 h2 => (h.sub i h1 h2).mono hST⟩
theorem LInv.grow {w w1 : World} {S T : Nat → Prop} {cs : List PC} {acc : List PV} (h : LInv w S cs acc) (hb : ∀ k, S k → k < w.heap.size → w1.heap[k]? = w.heap[k]?) (hT : ∀ k, S k → k < w.heap.size → T k) : LInv w1 T cs acc :=
 ((h.mono (T := fun k => S k ∧ k < w.heap.size) (fun k hk hl => ⟨hk, hl⟩)).same (fun k hk _ => hb k hk.1 hk.2)).mono (fun k hk _ => hT k hk.1 hk.2)
theorem LInv.push {w : World} {S : Nat → Prop} {cs : List PC} {acc : List PV} {x : PC} {o : PV} (h : LInv w S cs acc) (hx : PRep w S x o) : LInv w S (cs ++ [x]) (acc ++ [o]) :=
  ⟨by simp [h.len], fun i h1 h2 => by
    have hl := h.len
    rcases Nat.lt_or_ge i cs.length with h3 | h3
    · rw [List.getElem_append_left h3, List.getElem_append_left oO]
      exact h.sub i h3 oO
    · obtain rfl : i = cs.length := by simp at h1; omega
      rw [List.getElem_append_right (Nat.le_refl _), List.getElem_append_right oO]
      simpa [hl] using hx⟩
theorem PRep.ofRow {w : World} {S : Nat → Prop} {k n : Int} {s : List UInt8} {kp lp : Option Addr} {kl kc lc : Nat} {keys : List (List UInt8)} {cs : List PC} {acc : List PV} (hk : StrsAt S w (.slice kp kl kc) keys) (hr : RowIn S w (.slice lp cs.length lc) cs) (h : LInv w S cs acc) :
  PRep w S ⟨k, n, s, kp, kl, kc, lp, cs.length, lc⟩ (.mk k n s keys acc) := PRep.mk ⟨k, n, s, kp, kl, kc, lp, cs.length, lc⟩ keys acc cs hk hr h.len h.sub
theorem inf28 : (Tryz.prog.info? 28).map (fun i => (i.zero, i.size, i.bytes)) = some (some (.agg (pobj 0 0 []).toArray), 6, 104) := by kernel_rfl
/-- what an object's reading leaves -/
def ObjS (w : World) (r : Nat) (p : Option Addr) (l : List UInt8) (c : Nat) (refs : Bool) (a : PV × Nat) (v : Value) (w' : World) : Prop :=
 ∃ x : PC, v = .agg (pcV x).toArray ∧ PRep w' (fun k => w.heap.size ≤ k) x a.1 ∧ PRd w' r p l c a.2 refs ∧ Touch w.heap.size r w w'
/-- a call of object at depth d keeps its word -/
def ObjC (p : Option Addr) (l : List UInt8) (c : Nat) (refs : Bool) (D : Int) : Prop :=
 ∀ (r t : Nat) (w : World), PRd w r p l c t refs → (0 < l.length → (pA p).block ≠ r) → t < l.length →
  Calls Tryz.prog 71 #[.pointer (some ⟨r, 0, none⟩), .int .i64 D] w (EndsV 29 (objP refs l D.toNat t) (ObjS w r p l c refs) (fun w' => Touch w.heap.size r w w'))
theorem skipE_ok {l : List UInt8} {t : Nat} {x : UInt8} (h : skipE l t = .ok x) : l[skipAt false l t]? = some x := by
 unfold skipE at h
 split at h
 ·
  cases h
 ·
  next h1 => rw [h1]; cases h; rfl
theorem skipE_err {l : List UInt8} {t : Nat} {k : Int} (h : skipE l t = .error k) : l[skipAt false l t]? = none ∧ k = 24 := by
 unfold skipE at h
 split at h
 ·
  next h1 => cases h; exact ⟨h1, rfl⟩
 ·
  cases h
theorem skipAt_ge (l : List UInt8) (t : Nat) (ht : t ≤ l.length) : t ≤ skipAt false l t := by
 unfold skipAt
 have h1 := skipS_len (l.drop t) false
 rw [List.length_drop] at h1
 omega
theorem listP_step {obj : Nat → ObjE} {l : List UInt8} {f : Nat} {acc : List PV} {t : Nat} (hf : 0 < f) : listP obj l f acc t = (match l[skipAt false l t]? with
  | none => .error 24
  | some c => if c = 93 then .ok (acc, skipAt false l t + 1) else if 65535 ≤ acc.length then .error 25 else match obj (skipAt false l t) with | .error k => .error k | .ok (o, t') => listP obj l (f - 1) (acc ++ [o]) t') := by
 cases f with
 | zero => omega
 | succ f => rfl
theorem plex_list (p : Option Addr) (l : List UInt8) (c : Nat) (refs : Bool) (D : Int) (hO : ObjC p l c refs D) (hadv : ∀ t o t', t < l.length → objP refs l D.toNat t = .ok (o, t') → t < t' ∧ t' ≤ l.length) (r t : Nat) (w : World) (h : PRd w r p l c t refs) (hne : 0 < l.length → (pA p).block ≠ r) (hl : l.length ≤ 100000000) (ht : t ≤ l.length) :
  Calls Tryz.prog 83 #[.pointer (some ⟨r, 0, none⟩), .int .i64 D] w (EndsV 29 (listO (listP (objP refs l D.toNat) l (l.length + 1) [] t)) (ObjS w r p l c refs) (fun w' => Touch w.heap.size r w w')) := by
 have hr := h.1
 have hb := h.2
 have hbl : 0 < l.length → (pA p).block < w.heap.size := fun h0 => hb.lt h0
 obtain ⟨R, hR⟩ : ∃ R, R = listP (objP refs l D.toNat) l (l.length + 1) [] t := ⟨_, rfl⟩
 rw [← hR]
 obtain ⟨t0, ht0⟩ : ∃ t0, t0 = t := ⟨t, rfl⟩
 subst ht0
 refine W.enter func83 rfl ntmps83 (Nat.le_of_ble_eq_true rfl) ?_
 have hB0 := Touch.refl (w.heap.size) r w
 refine W.seq ?_
 have hrw : r < w.heap.size := hr.lt
 refine W.reg <| WL.alloc zeroValue28 rfl (fun b1 wb1 eb1 hkb1 hub1 hsb1 => ?_)
 have hl3 : r < b1 := by rw [eb1]; exact hr.lt
 have hk2 := hr.upd hub1 (Nat.ne_of_lt hl3)
 have hvl5 := fun h0 => eb1 ▸ hb.lt h0
 have hv4 := bup hb hub1 hvl5
 have hgeb1 : w.heap.size ≤ b1 := by rw [eb1]; exact hB0.size
 have hB6 := Touch.trans hB0 (Touch.of_new hub1 hgeb1)
 refine WL.nil <| ?_
 refine W.sr <| WL.p (.buildL (ps := _) blt28 rfl rfl rfl pS) rfl ?_
 refine WL.alloc zeroValue28 rfl (fun b7 wb7 eb7 hkb7 hub7 hsb7 => ?_)
 have hl9 : r < b7 := by rw [eb7]; exact hk2.lt
 have hk8 := hk2.upd hub7 (Nat.ne_of_lt hl9)
 have hl11 : b1 < b7 := by rw [eb7]; exact hkb1.lt
 have hk10 := hkb1.upd hub7 (Nat.ne_of_lt hl11)
 have hvl13 := fun h0 => eb7 ▸ hv4.lt h0
 have hv12 := bup hv4 hub7 hvl13
 have hgeb7 : w.heap.size ≤ b7 := by rw [eb7]; exact hB6.size
 have hB14 := Touch.trans hB6 (Touch.of_new hub7 hgeb7)
 refine WL.stL rfl rfl hkb7 isz28 rfl rfl (fun w15 hkw15 huw15 hsw15 => ?_)
 have hk16 := hk8.up huw15
 have hk17 := hk10.up huw15
 have hv18 := bup hv12 huw15 hvl13
 have hB19 := Touch.trans hB14 (Touch.of_new huw15 oO)
 refine WL.nil <| ?_
 refine W.seq <| W.block ?_
 have hpB : 0 < l.length → (pA p).block < b7 + 1 := fun h0 => by have := hbl h0; omega
 have hrb : r < b7 := by omega
 refine W.loop (α := Value × List PC × List PV × Nat × Nat) (fun t => [(0, .pointer (some ⟨r, 0, none⟩)), (1, .int .i64 D), (4, .pointer (some ⟨b1, 0, none⟩)), (5, .pointer (some ⟨b7, 0, none⟩))]) (fun t w' => PRd w' r p l c t.2.2.2.1 refs ∧ Touch w.heap.size r w w' ∧ Blk w' b1 (pobj 0 0 []).toArray 28 ∧ Blk w' b7 #[.int .i64 6, .int .i64 0, .string ⟨#[]⟩, .slice none 0 0, t.1, .slice none 0 0] 28 ∧ OwnM pcL 28 (b7 + 1) w' t.1 t.2.1 ∧ LInv w' (fun k => b7 < k ∧ t.1.ownBlock ≠ some k) t.2.1 t.2.2.1 ∧ listP (objP refs l D.toNat) l t.2.2.2.2 t.2.2.1 t.2.2.2.1 = R ∧ l.length < t.2.2.2.2 + t.2.2.2.1 ∧ t.2.2.2.1 ≤ l.length ∧ t.2.2.1.length ≤ 65535) (fun t => t.2.2.2.2) ((.slice none 0 0, [], [], t0, l.length + 1)) ⟨rfl, rfl, rfl, rfl, trivial⟩ (⟨⟨hk16, hv18⟩, hB19, hk17, hkw15, OwnM.nil _ _ _ _, LInv.nil _ _, hR.symm, by ((try simp only) <;> omega), ht, by simp⟩) (fun t w1 hR => ?_)
 obtain ⟨v, cs, acc, t, f⟩ := t
 obtain ⟨hrd, hT, hk1, hk2, hown, hsub, hw, hft, htl, hal⟩ := hR
 simp only at hrd hk2 hown hsub hw hft htl hal ⊢
 have hst := listP_step (obj := objP refs l D.toNat) (l := l) (acc := acc) (t := t) (f := f) oO
 have hsge := skipAt_ge l t htl
 have hcl := hsub.len
 obtain ⟨pl, cl, rfl, -⟩ := hown.row
 refine W.seq <| W.sr <| WL.m rfl rfl <| WL.ce hb93 rfl rfl ((plex_skip r p l c t refs _ ⟨hrd.1, hrd.2⟩ hne hl htl)) (fun k22 w20 hrw20 hw20 => ?_) (fun a21 w20 hrw20 hw20 => ?_)
 have hBew20 := Touch.trans hT (Touch.mono hw20 hT.size)
 exact pn_is (EndsV.err k22 (by rw [← hw, hst, (skipE_err hrw20).1, (skipE_err hrw20).2]; rfl) hBew20)
 have ho23 := OwnM.touch' hown hw20.2 oO
 have hF24 := LInv.same (w1 := w20) hsub (fun k hk hl => hw20.2.block k hl (by first | omega | (have := hk.1; omega)))
 have hk25 := hw20.1.1
 have hk26 := Blk.touch hk1 hw20.2 hk1.lt oO
 have hk27 := Blk.touch hk2 hw20.2 hk2.lt oO
 have hv28 := hw20.1.2
 have hB29 := Touch.trans hT (Touch.mono hw20.2 hT.size)
 have hsk := skipE_ok hrw20
 rw [hsk] at hst
 obtain ⟨hsl, hsx⟩ := List.getElem?_eq_some_iff.1 hsk
 obtain ⟨x0, hx0⟩ : ∃ x0, x0 = a21 := ⟨_, rfl⟩
 rw [← hx0] at hst hsx hsk ⊢
 generalize skipAt false l t = s at *
 refine WL.p (.neq rfl rfl) rfl <| WL.nil <| ?_
 refine W.cond rfl (fun h30 => ?_) (fun h30 => ?_)
 have h30' := ndT h30
 refine W.skip <| W.block <| W.seq <| W.sr <| WL.p (.fa underlying28 rfl sizeOf22 dD rfl) rfl <| WL.r (Rd.ld (isAgg22 _) rfl hk27 rfl) rfl <| WL.p (.lenS underlying22 rfl) rfl <| WL.p (.geq rfl rfl) rfl <| WL.nil <| ?_
 refine W.cond rfl (fun h31 => ?_) (fun h31 => ?_)
 have h31' := dT h31
 refine W.reg <| WL.cp hb82 rfl ((plex_fail 25 _)) (fun w32 hw32 => ?_)
 obtain rfl := hw32
 exact pn_is (EndsV.err 25 (by rw [← hw, hst]; simp only []; rw [if_neg (u8_ne (d := 93) aS), if_pos oO]; rfl) hB29)
 have h31' := dF h31
 refine W.skip <| W.regY 9 rfl mixed (fun w33 dw33 => ?_)
 have ho34 := OwnM.drew ho23 dw33
 have hF35 := LInv.same (w1 := w33) hF24 (fun k hk hl => (by obtain ⟨m, rfl⟩ := dw33; rfl))
 have hk36 := hk25.drew dw33
 have hk37 := hk26.drew dw33
 have hk38 := hk27.drew dw33
 have hv39 := hv28.drew dw33
 have hB40 := Touch.trans hB29 (Touch.of_drew dw33)
 refine WY.tk 0 rfl (.fa underlying28 rfl sizeOf22 dD rfl) rfl ?_
 refine WY.tk 2 rfl (.mv rfl) rfl ?_
 refine WY.tk 3 rfl (.mv rfl) rfl ?_
 refine WY.br2 1 rfl 4 rfl ?_ ?_
 refine WL.r (Rd.ld (isAgg22 _) rfl hk38 rfl) rfl <| WL.nil <| ?_
 refine WY.br1 4 rfl ?_
 refine WL.cx hb71 rfl rfl ((hO r s _ ⟨hk36, hv39⟩ hne hsl)) (fun k43 w41 hrw41 hw41 => ?_) (fun a42 x44 w41 hrw41 hw41 => ?_)
 have hBew41 := Touch.trans hB40 (Touch.mono hw41 hB40.size)
 exact pn_is (EndsV.err k43 (by rw [← hw, hst]; simp only []; rw [if_neg (u8_ne (d := 93) aS), if_neg oO, hrw41]; rfl) hBew41)
 have hrr := hrw41
 obtain ⟨oX, tX⟩ := a42
 obtain ⟨x1, rfl, hpx, hrd1, hT1⟩ := hw41
 have had := hadv s oX tX hsl hrr
 have ho1 := OwnM.touch' ho34 hT1 oO
 have hsub1 := LInv.same hF35 (fun k hk hl => hT1.block k hl (by have := hk.1; omega))
 have hk11 := Blk.touch hk37 hT1 (hk37).lt oO
 have hk21 := Blk.touch hk38 hT1 (hk38).lt oO
 have hB1 := Touch.trans hB40 (Touch.mono hT1 hB40.size)
 have hpx1 := hpx.mono (T := fun k => b7 < k ∧ (Value.slice pl cs.length cl).ownBlock ≠ some k) (fun k hk _ => ⟨by have := (hk38).lt; omega, fun e => by have := ((ho34).lt k e).2; omega⟩)
 have hsub2 := hsub1.push hpx1
 have hr1 := hrd1.1
 have hv1 := hrd1.2
 refine WL.nil <| ?_
 refine WY.br1 5 rfl ?_
 refine WL.bslM (L := pcL) (ps := _) ([x1]) underlying22 sizeOf28 zeroValue28 rfl rfl rfl rfl rfl (by first | rfl | decide) rfl rfl (fun b45 wb45 eb45 hob45 hub45 hsb45 => ?_)
 have ho46 := OwnM.new ho1 eb45 hub45
 have hF47 := LInv.same (w1 := wb45) hsub2 (fun k hk hl => hub45.other k oO)
 have hl49 : r < b45 := by rw [eb45]; exact hr1.lt
 have hk48 := hr1.upd hub45 (Nat.ne_of_lt hl49)
 have hl51 : b1 < b45 := by rw [eb45]; exact hk11.lt
 have hk50 := hk11.upd hub45 (Nat.ne_of_lt hl51)
 have hl53 : b7 < b45 := by rw [eb45]; exact hk21.lt
 have hk52 := hk21.upd hub45 (Nat.ne_of_lt hl53)
 have hvl55 := fun h0 => eb45 ▸ hv1.lt h0
 have hv54 := bup hv1 hub45 hvl55
 have hgeb45 : w.heap.size ≤ b45 := by rw [eb45]; exact hB1.size
 have hB56 := Touch.trans hB1 (Touch.of_new hub45 hgeb45)
 have hleb45 : b45 ≤ wb45.heap.size := by omega
 refine WL.nil <| ?_
 refine WY.br1 6 rfl ?_
 refine WL.appM underlying22 inf28 rfl rfl rfl ho46 rfl (hob45).rowp (by simp only [List.length_cons, List.length_nil]; omega) ((hk52).lt) rfl (fun h => nomatch h) (fun v57 w58 how58 hbw58 hgw58 hfw58 => ?_)
 have hk59 := hk48.below hbw58 oO
 have hk60 := hk50.below hbw58 oO
 have hk61 := hk52.below hbw58 oO
 have hF62 := LInv.grow (T := fun k => b7 < k ∧ (v57).ownBlock ≠ some k) hF47 (fun k hk hl => hgw58.block k hl (fun e => hk.2 e.symm)) (fun k hk hl => ⟨hk.1, fun e => by rcases hfw58 k e with h | h; exact hk.2 h; omega⟩)
 have hv63 := BytesAt.below hv54 hbw58 hpB
 have hB64 := Touch.trans hB56 (Touch.of_below (hbw58.mono oO))
 refine WL.nil <| ?_
 refine WY.tk 7 rfl (.fa underlying28 rfl sizeOf22 dD rfl) rfl ?_
 refine WY.br1 8 rfl ?_
 refine WL.st sizeOf22 rfl rfl (how58).one hk61 oD (fun w65 hkw65 huw65 hsw65 => ?_)
 have hkw65 : Blk w65 b7 _ _ := hkw65
 have huw65 : Upd b7 _ _ := huw65
 have ho66 := OwnM.touch how58 huw65 oM
 have hF67 := LInv.same (w1 := w65) hF62 (fun k hk hl => huw65.other k (by first | ((try simp only) <;> omega) | (have := hk.1; ((try simp only) <;> omega))))
 have hk68 := hk59.up huw65
 have hk69 := hk60.up huw65
 have hv70 := bup hv63 huw65 hvl13
 have hB71 := Touch.trans hB64 (Touch.of_new huw65 oO)
 refine WL.nil <| ?_
 refine WY.done kR ?_
 exact ⟨(_, cs ++ [x1], acc ++ [oX], tX, f - 1), ⟨rfl, rfl, rfl, rfl, trivial⟩, ⟨⟨hk68, hv70⟩, hB71, hk69, hkw65, ho66, hF67, by rw [← hw, hst]; simp only []; rw [if_neg (u8_ne (d := 93) aS), if_neg oO, hrr], by ((try simp only) <;> omega), had.2, by simp only [List.length_append, List.length_cons, List.length_nil]; omega⟩, by ((try simp only) <;> omega)⟩
 refine WL.cx hb71 rfl rfl ((hO r s _ ⟨hk36, hv39⟩ hne hsl)) (fun k74 w72 hrw72 hw72 => ?_) (fun a73 x75 w72 hrw72 hw72 => ?_)
 have hBew72 := Touch.trans hB40 (Touch.mono hw72 hB40.size)
 exact pn_is (EndsV.err k74 (by rw [← hw, hst]; simp only []; rw [if_neg (u8_ne (d := 93) aS), if_neg oO, hrw72]; rfl) hBew72)
 have hrr := hrw72
 obtain ⟨oX, tX⟩ := a73
 obtain ⟨x1, rfl, hpx, hrd1, hT1⟩ := hw72
 have had := hadv s oX tX hsl hrr
 have ho1 := OwnM.touch' ho34 hT1 oO
 have hsub1 := LInv.same hF35 (fun k hk hl => hT1.block k hl (by have := hk.1; omega))
 have hk11 := Blk.touch hk37 hT1 (hk37).lt oO
 have hk21 := Blk.touch hk38 hT1 (hk38).lt oO
 have hB1 := Touch.trans hB40 (Touch.mono hT1 hB40.size)
 have hpx1 := hpx.mono (T := fun k => b7 < k ∧ (Value.slice pl cs.length cl).ownBlock ≠ some k) (fun k hk _ => ⟨by have := (hk38).lt; omega, fun e => by have := ((ho34).lt k e).2; omega⟩)
 have hsub2 := hsub1.push hpx1
 have hr1 := hrd1.1
 have hv1 := hrd1.2
 refine WL.nil <| ?_
 refine WY.br2 1 rfl 5 rfl ?_ ?_
 refine WL.r (Rd.ld (isAgg22 _) rfl hk21 rfl) rfl <| WL.nil <| ?_
 refine WY.br1 5 rfl ?_
 refine WL.bslM (L := pcL) (ps := _) ([x1]) underlying22 sizeOf28 zeroValue28 rfl rfl rfl rfl rfl (by first | rfl | decide) rfl rfl (fun b76 wb76 eb76 hob76 hub76 hsb76 => ?_)
 have ho77 := OwnM.new ho1 eb76 hub76
 have hF78 := LInv.same (w1 := wb76) hsub2 (fun k hk hl => hub76.other k oO)
 have hl80 : r < b76 := by rw [eb76]; exact hr1.lt
 have hk79 := hr1.upd hub76 (Nat.ne_of_lt hl80)
 have hl82 : b1 < b76 := by rw [eb76]; exact hk11.lt
 have hk81 := hk11.upd hub76 (Nat.ne_of_lt hl82)
 have hl84 : b7 < b76 := by rw [eb76]; exact hk21.lt
 have hk83 := hk21.upd hub76 (Nat.ne_of_lt hl84)
 have hvl86 := fun h0 => eb76 ▸ hv1.lt h0
 have hv85 := bup hv1 hub76 hvl86
 have hgeb76 : w.heap.size ≤ b76 := by rw [eb76]; exact hB1.size
 have hB87 := Touch.trans hB1 (Touch.of_new hub76 hgeb76)
 have hleb76 : b76 ≤ wb76.heap.size := by omega
 refine WL.nil <| ?_
 refine WY.br1 6 rfl ?_
 refine WL.appM underlying22 inf28 rfl rfl rfl ho77 rfl (hob76).rowp (by simp only [List.length_cons, List.length_nil]; omega) ((hk83).lt) rfl (fun h => nomatch h) (fun v88 w89 how89 hbw89 hgw89 hfw89 => ?_)
 have hk90 := hk79.below hbw89 oO
 have hk91 := hk81.below hbw89 oO
 have hk92 := hk83.below hbw89 oO
 have hF93 := LInv.grow (T := fun k => b7 < k ∧ (v88).ownBlock ≠ some k) hF78 (fun k hk hl => hgw89.block k hl (fun e => hk.2 e.symm)) (fun k hk hl => ⟨hk.1, fun e => by rcases hfw89 k e with h | h; exact hk.2 h; omega⟩)
 have hv94 := BytesAt.below hv85 hbw89 hpB
 have hB95 := Touch.trans hB87 (Touch.of_below (hbw89.mono oO))
 refine WL.nil <| ?_
 refine WY.tk 7 rfl (.fa underlying28 rfl sizeOf22 dD rfl) rfl ?_
 refine WY.br1 8 rfl ?_
 refine WL.st sizeOf22 rfl rfl (how89).one hk92 oD (fun w96 hkw96 huw96 hsw96 => ?_)
 have hkw96 : Blk w96 b7 _ _ := hkw96
 have huw96 : Upd b7 _ _ := huw96
 have ho97 := OwnM.touch how89 huw96 oM
 have hF98 := LInv.same (w1 := w96) hF93 (fun k hk hl => huw96.other k (by first | ((try simp only) <;> omega) | (have := hk.1; ((try simp only) <;> omega))))
 have hk99 := hk90.up huw96
 have hk100 := hk91.up huw96
 have hv101 := bup hv94 huw96 hvl13
 have hB102 := Touch.trans hB95 (Touch.of_new huw96 oO)
 refine WL.nil <| ?_
 refine WY.done kR ?_
 exact ⟨(_, cs ++ [x1], acc ++ [oX], tX, f - 1), ⟨rfl, rfl, rfl, rfl, trivial⟩, ⟨⟨hk99, hv101⟩, hB102, hk100, hkw96, ho97, hF98, by rw [← hw, hst]; simp only []; rw [if_neg (u8_ne (d := 93) aS), if_neg oO, hrr], by ((try simp only) <;> omega), had.2, by simp only [List.length_append, List.length_cons, List.length_nil]; omega⟩, by ((try simp only) <;> omega)⟩
 refine WL.bslM (L := pcL) (ps := _) ([x1]) underlying22 sizeOf28 zeroValue28 rfl rfl rfl rfl rfl (by first | rfl | decide) rfl rfl (fun b103 wb103 eb103 hob103 hub103 hsb103 => ?_)
 have ho104 := OwnM.new ho1 eb103 hub103
 have hF105 := LInv.same (w1 := wb103) hsub2 (fun k hk hl => hub103.other k oO)
 have hl107 : r < b103 := by rw [eb103]; exact hr1.lt
 have hk106 := hr1.upd hub103 (Nat.ne_of_lt hl107)
 have hl109 : b1 < b103 := by rw [eb103]; exact hk11.lt
 have hk108 := hk11.upd hub103 (Nat.ne_of_lt hl109)
 have hl111 : b7 < b103 := by rw [eb103]; exact hk21.lt
 have hk110 := hk21.upd hub103 (Nat.ne_of_lt hl111)
 have hvl113 := fun h0 => eb103 ▸ hv1.lt h0
 have hv112 := bup hv1 hub103 hvl113
 have hgeb103 : w.heap.size ≤ b103 := by rw [eb103]; exact hB1.size
 have hB114 := Touch.trans hB1 (Touch.of_new hub103 hgeb103)
 have hleb103 : b103 ≤ wb103.heap.size := by omega
 refine WL.nil <| ?_
 refine WY.br1 1 rfl ?_
 refine WL.r (Rd.ld (isAgg22 _) rfl hk110 rfl) rfl <| WL.nil <| ?_
 refine WY.br1 6 rfl ?_
 refine WL.appM underlying22 inf28 rfl rfl rfl ho104 rfl (hob103).rowp (by simp only [List.length_cons, List.length_nil]; omega) ((hk110).lt) rfl (fun h => nomatch h) (fun v115 w116 how116 hbw116 hgw116 hfw116 => ?_)
 have hk117 := hk106.below hbw116 oO
 have hk118 := hk108.below hbw116 oO
 have hk119 := hk110.below hbw116 oO
 have hF120 := LInv.grow (T := fun k => b7 < k ∧ (v115).ownBlock ≠ some k) hF105 (fun k hk hl => hgw116.block k hl (fun e => hk.2 e.symm)) (fun k hk hl => ⟨hk.1, fun e => by rcases hfw116 k e with h | h; exact hk.2 h; omega⟩)
 have hv121 := BytesAt.below hv112 hbw116 hpB
 have hB122 := Touch.trans hB114 (Touch.of_below (hbw116.mono oO))
 refine WL.nil <| ?_
 refine WY.tk 7 rfl (.fa underlying28 rfl sizeOf22 dD rfl) rfl ?_
 refine WY.br1 8 rfl ?_
 refine WL.st sizeOf22 rfl rfl (how116).one hk119 oD (fun w123 hkw123 huw123 hsw123 => ?_)
 have hkw123 : Blk w123 b7 _ _ := hkw123
 have huw123 : Upd b7 _ _ := huw123
 have ho124 := OwnM.touch how116 huw123 oM
 have hF125 := LInv.same (w1 := w123) hF120 (fun k hk hl => huw123.other k (by first | ((try simp only) <;> omega) | (have := hk.1; ((try simp only) <;> omega))))
 have hk126 := hk117.up huw123
 have hk127 := hk118.up huw123
 have hv128 := bup hv121 huw123 hvl13
 have hB129 := Touch.trans hB122 (Touch.of_new huw123 oO)
 refine WL.nil <| ?_
 refine WY.done kR ?_
 exact ⟨(_, cs ++ [x1], acc ++ [oX], tX, f - 1), ⟨rfl, rfl, rfl, rfl, trivial⟩, ⟨⟨hk126, hv128⟩, hB129, hk127, hkw123, ho124, hF125, by rw [← hw, hst]; simp only []; rw [if_neg (u8_ne (d := 93) aS), if_neg oO, hrr], by ((try simp only) <;> omega), had.2, by simp only [List.length_append, List.length_cons, List.length_nil]; omega⟩, by ((try simp only) <;> omega)⟩
 have h30' := ndF h30
 refine W.exit <| W.sr <| WL.m rfl rfl <| WL.p (.nck rfl) rfl <| WL.p (.fa underlying98 rfl sizeOf3 dD rfl) rfl <| WL.r (Rd.ld (isAgg3 _) rfl hk25 rfl) rfl <| WL.p (.iis (((s + 1 : Nat) : Int)) (.add rfl rfl (i64w oO)) oO) rfl <| WL.p (.nck rfl) rfl <| WL.p (.fa underlying98 rfl sizeOf3 dD rfl) rfl <| WL.st sizeOf3 rfl rfl rfl hk25 oD (fun w130 hkw130 huw130 hsw130 => ?_)
 have hkw130 : Blk w130 r _ _ := hkw130
 have huw130 : Upd r _ _ := huw130
 have ho131 := OwnM.touch ho23 huw130 oM
 have hF132 := LInv.same (w1 := w130) hF24 (fun k hk hl => huw130.other k (by first | ((try simp only) <;> omega) | (have := hk.1; ((try simp only) <;> omega))))
 have hk133 := hk26.up huw130
 have hk134 := hk27.up huw130
 have hv135 := BytesAt.upd hv28 huw130 hne
 have hB136 := Touch.trans hB29 (Touch.of_upd huw130)
 refine WL.nil <| ?_
 refine W.sr <| WL.r (Rd.ldA rfl hk134 underlying28 rfl isz28) rfl <| WL.stL rfl rfl hk133 isz28 rfl rfl (fun w137 hkw137 huw137 hsw137 => ?_)
 have ho138 := OwnM.touch ho131 huw137 oM
 have hF139 := LInv.same (w1 := w137) hF132 (fun k hk hl => huw137.other k (by first | ((try simp only) <;> omega) | (have := hk.1; ((try simp only) <;> omega))))
 have hk140 := hkw130.up huw137
 have hv142 := bup hv135 huw137 hvl5
 have hB143 := Touch.trans hB136 (Touch.of_new huw137 oO)
 refine WL.nil <| ?_
 refine W.ret (W.retc1 rfl rfl (ldRow hkw137 underlying28 rfl isz28)  ?_)
 exact EndsV.ok (.mk 6 0 [] [] acc, s + 1) _ (by rw [← hw, hst]; simp only []; rw [if_pos (u8_eq (d := 93) aS)]; rfl) rfl ⟨⟨6, 0, [], none, 0, 0, pl, cs.length, cl⟩, rfl, PRep.ofRow ⟨OwnM.nil _ _ _ _, fun g h => by cases h⟩ ⟨(ho138).base (fun g hg => Nat.zero_le _), fun g hg => by have := (ho138).lt g hg; omega⟩ ((hF139).mono (fun k hk _ => by have := hk.1; omega)), ⟨hk140, hv142⟩, hB143⟩
end
section
theorem inf9 : (Tryz.prog.info? 9).map (fun i => (i.zero, i.size, i.bytes)) = some (some (.string ⟨#[]⟩), 1, 16) := by kernel_rfl
theorem lib_idxS (q : Option Addr) (s : List (List UInt8)) (c : Nat) (x : List UInt8) (w : World) (hb : RowAt strV w q s) (hl : s.length ≤ 1000000000) :
  Calls Tryz.prog 72 #[.slice q s.length c, .string (bs x)] w fun e w' => ∃ a : { a : Int // 0 ≤ a ↔ x ∈ s }, e = .returned (.int .i64 a.1) ∧ w = w' := by
 refine W.enter func72 rfl ntmps72 (Nat.le_of_ble_eq_true rfl) ?_
 refine W.sr <| WL.z rfl rfl ?_
 refine W.seq <| W.sr <| WL.m rfl rfl <| WL.p (.lenS underlying25 rfl) rfl <| WL.m rfl rfl <| WL.nil <| ?_
 refine W.block ?_
 refine W.loop (α := Nat) (fun t => [(0, .slice q s.length c), (1, .string (bs x)), (7, .int .i64 (s.length : Int)), (8, .int .i64 (t : Int))]) (fun t w' => w = w' ∧ t ≤ s.length ∧ x ∉ s.take t) (fun t => s.length - t) (0) ⟨rfl, rfl, rfl, rfl, trivial⟩ (⟨rfl, Nat.zero_le _, by simp⟩) (fun t w1 hR => ?_)
 obtain ⟨i, rfl⟩ : ∃ i, i = t := ⟨t, rfl⟩
 obtain ⟨rfl, hi, hno⟩ := hR
 refine W.sr <| WL.p (.lss rfl rfl) rfl <| WL.nil <| ?_
 refine W.seq <| W.cond rfl (fun h1 => ?_) (fun h1 => ?_)
 have h1' := dT h1
 refine W.skip <| W.seq <| W.block <| W.sr <| WL.m rfl rfl <| WL.z rfl rfl ?_
 refine W.sr <| WL.m rfl rfl <| WL.m rfl rfl <| WL.m rfl rfl <| WL.p (.ixb underlying25 sizeOf9 rfl rfl (hb.isp oO) (i) (rfl) oO) rfl <| WL.r (Rd.ldc (isAgg9 _) rfl (hb.cells (i) oO)) rfl <| WL.p (.eqs rfl rfl) rfl <| WL.nil <| ?_
 refine W.cond rfl (fun h2 => ?_) (fun h2 => ?_)
 have h2' := dT h2
 refine W.sr <| WL.m rfl rfl <| WL.z rfl rfl ?_
 refine W.ret (W.ret1 rfl rfl ?_)
 exact ⟨⟨(i : Int), fun _ => by rw [show x = s[i]'oO by assumption]; exact List.getElem_mem _, fun _ => by omega⟩, rfl, rfl⟩
 have h2' := dF h2
 refine W.skip <| W.reg <| WL.p (.iis (((i + 1 : Nat) : Int)) (.add rfl rfl (i64w oO)) oO) rfl <| WL.m rfl rfl <| WL.nil <| ?_
 exact ⟨i + 1, ⟨rfl, rfl, rfl, rfl, trivial⟩, ⟨rfl, by ((try simp only) <;> omega), by
  rw [List.take_add_one, List.getElem?_eq_getElem oO, Option.toList_some, List.mem_append, List.mem_singleton]
  exact fun h => h.elim hno aS⟩, by ((try simp only) <;> omega)⟩
 have h1' := dF h1
 refine W.exit <| W.sr <| WL.z rfl rfl ?_
 refine W.ret (W.ret1 rfl rfl ?_)
 exact ⟨⟨-1, fun h => absurd h dD, fun h => by rw [show s.take i = s from List.take_of_length_le oO] at hno; exact absurd h hno⟩, rfl, rfl⟩
theorem lib_hasS (q : Option Addr) (s : List (List UInt8)) (c : Nat) (x : List UInt8) (w : World) (hb : RowAt strV w q s) (hl : s.length ≤ 1000000000) :
  Calls Tryz.prog 96 #[.slice q s.length c, .string (bs x)] w fun e w' => e = .returned (.bool (decide (x ∈ s))) ∧ w = w' := by
 refine W.enter func96 rfl ntmps96 (Nat.le_of_ble_eq_true rfl) ?_
 refine W.sr <| WL.z rfl rfl ?_
 refine W.sr <| WL.m rfl rfl <| WL.m rfl rfl <| WL.call hb72 rfl rfl ((lib_idxS q s c x _ hb hl)) (fun a w1 hw1 => ?_)
 obtain rfl := hw1
 refine WL.p (.geq rfl rfl) rfl <| WL.z rfl rfl ?_
 refine W.ret (W.ret1 rfl rfl ?_)
 exact ⟨ret_bool (decide_eq_decide.2 a.2), rfl⟩
theorem nameP_le {l : List UInt8} {t : Nat} {k : List UInt8} {t1 : Nat} (ht : t ≤ l.length) (h : nameP l t = .ok (k, t1)) : t ≤ t1 ∧ t1 ≤ l.length := by
 have hw := wordAt_le l t ht
 unfold nameP at h
 split at h
 ·
  cases h
 ·
  split at h
  ·
   cases h
  ·
   split at h
   ·
    cases h
   ·
    cases h; exact hw
theorem pairsP_step {obj : Nat → ObjE} {l : List UInt8} {f : Nat} {ks : List (List UInt8)} {os : List PV} {t : Nat} (hf : 0 < f) : pairsP obj l f ks os t = (match l[skipAt false l t]? with
  | none => .error 24
  | some c =>
   if c = 62 ∧ l.length ≤ skipAt false l t + 1 then .error 24
   else if c = 62 ∧ l[skipAt false l t + 1]? = some 62 then .ok (ks, os, skipAt false l t + 2)
   else if c ≠ 47 then .error 23
   else match nameP l (skipAt false l t + 1) with
    | .error k => .error k
    | .ok (k, t1) =>
     if k ∈ ks then .error 23
     else if 65535 ≤ os.length then .error 25
     else match l[skipAt false l t1]? with
      | none => .error 24
      | some _ => match obj (skipAt false l t1) with
       | .error k => .error k
       | .ok (o, t') => pairsP obj l (f - 1) (ks ++ [k]) (os ++ [o]) t') := by
 cases f with
 | zero => omega
 | succ f => rfl
theorem nextB_62 {l : List UInt8} {t : Nat} (h : nextB l t 62 = true) : l[t]? = some 62 := by
 obtain ⟨h1, h2⟩ := nextB_t h
 rw [List.getElem?_eq_getElem h1, h2]
theorem nextB_not62 {l : List UInt8} {t : Nat} (h : nextB l t 62 = false) : l[t]? ≠ some 62 := fun e => by
 obtain ⟨h1, h2⟩ := List.getElem?_eq_some_iff.1 e
 exact nextB_f h h1 h2
theorem plex_pairs (p : Option Addr) (l : List UInt8) (c : Nat) (refs : Bool) (D : Int) (hO : ObjC p l c refs D) (hadv : ∀ t o t', t < l.length → objP refs l D.toNat t = .ok (o, t') → t < t' ∧ t' ≤ l.length) (r t : Nat) (w : World) (h : PRd w r p l c t refs) (hne : 0 < l.length → (pA p).block ≠ r) (hc : l.length ≤ c) (hl : l.length ≤ 100000000) (ht : t ≤ l.length) :
  Calls Tryz.prog 85 #[.pointer (some ⟨r, 0, none⟩), .int .i64 D] w (EndsV 29 (pairsO (pairsP (objP refs l D.toNat) l (l.length + 1) [] [] t)) (ObjS w r p l c refs) (fun w' => Touch w.heap.size r w w')) := by
 have hr := h.1
 have hb := h.2
 have hbl : 0 < l.length → (pA p).block < w.heap.size := fun h0 => hb.lt h0
 obtain ⟨R, hR⟩ : ∃ R, R = pairsP (objP refs l D.toNat) l (l.length + 1) [] [] t := ⟨_, rfl⟩
 rw [← hR]
 obtain ⟨t0, ht0⟩ : ∃ t0, t0 = t := ⟨t, rfl⟩
 subst ht0
 refine W.enter func85 rfl ntmps85 (Nat.le_of_ble_eq_true rfl) ?_
 have hB0 := Touch.refl (w.heap.size) r w
 refine W.seq ?_
 have hrw : r < w.heap.size := hr.lt
 refine W.reg <| WL.alloc zeroValue28 rfl (fun b1 wb1 eb1 hkb1 hub1 hsb1 => ?_)
 have hl3 : r < b1 := by rw [eb1]; exact hr.lt
 have hk2 := hr.upd hub1 (Nat.ne_of_lt hl3)
 have hvl5 := fun h0 => eb1 ▸ hb.lt h0
 have hv4 := bup hb hub1 hvl5
 have hgeb1 : w.heap.size ≤ b1 := by rw [eb1]; exact hB0.size
 have hB6 := Touch.trans hB0 (Touch.of_new hub1 hgeb1)
 refine WL.nil <| ?_
 refine W.sr <| WL.p (.buildL (ps := _) blt28 rfl rfl rfl pS) rfl ?_
 refine WL.alloc zeroValue28 rfl (fun b7 wb7 eb7 hkb7 hub7 hsb7 => ?_)
 have hl9 : r < b7 := by rw [eb7]; exact hk2.lt
 have hk8 := hk2.upd hub7 (Nat.ne_of_lt hl9)
 have hl11 : b1 < b7 := by rw [eb7]; exact hkb1.lt
 have hk10 := hkb1.upd hub7 (Nat.ne_of_lt hl11)
 have hvl13 := fun h0 => eb7 ▸ hv4.lt h0
 have hv12 := bup hv4 hub7 hvl13
 have hgeb7 : w.heap.size ≤ b7 := by rw [eb7]; exact hB6.size
 have hB14 := Touch.trans hB6 (Touch.of_new hub7 hgeb7)
 refine WL.stL rfl rfl hkb7 isz28 rfl rfl (fun w15 hkw15 huw15 hsw15 => ?_)
 have hk16 := hk8.up huw15
 have hk17 := hk10.up huw15
 have hv18 := bup hv12 huw15 hvl13
 have hB19 := Touch.trans hB14 (Touch.of_new huw15 oO)
 refine WL.nil <| ?_
 refine W.block ?_
 have hpB : 0 < l.length → (pA p).block < b7 + 1 := fun h0 => by have := hbl h0; omega
 have hrb : r < b7 := by omega
 refine W.loop (α := Value × Value × List (List UInt8) × List PC × List PV × Nat × Nat) (fun t => [(0, .pointer (some ⟨r, 0, none⟩)), (1, .int .i64 D), (4, .pointer (some ⟨b1, 0, none⟩)), (5, .pointer (some ⟨b7, 0, none⟩))]) (fun t w' => PRd w' r p l c t.2.2.2.2.2.1 refs ∧ Touch w.heap.size r w w' ∧ Blk w' b1 (pobj 0 0 []).toArray 28 ∧ Blk w' b7 #[.int .i64 7, .int .i64 0, .string ⟨#[]⟩, t.1, t.2.1, .slice none 0 0] 28 ∧ OwnM strL 9 (b7 + 1) w' t.1 t.2.2.1 ∧ OwnM pcL 28 (b7 + 1) w' t.2.1 t.2.2.2.1 ∧ (∀ g, t.1.ownBlock = some g → t.2.1.ownBlock ≠ some g) ∧ LInv w' (fun k => b7 < k ∧ t.1.ownBlock ≠ some k ∧ t.2.1.ownBlock ≠ some k) t.2.2.2.1 t.2.2.2.2.1 ∧ pairsP (objP refs l D.toNat) l t.2.2.2.2.2.2 t.2.2.1 t.2.2.2.2.1 t.2.2.2.2.2.1 = R ∧ l.length < t.2.2.2.2.2.2 + t.2.2.2.2.2.1 ∧ t.2.2.2.2.2.1 ≤ l.length ∧ t.2.2.2.2.1.length ≤ 65535 ∧ t.2.2.1.length = t.2.2.2.2.1.length) (fun t => t.2.2.2.2.2.2) ((.slice none 0 0, .slice none 0 0, [], [], [], t0, l.length + 1)) ⟨rfl, rfl, rfl, rfl, trivial⟩ (⟨⟨hk16, hv18⟩, hB19, hk17, hkw15, OwnM.nil _ _ _ _, OwnM.nil _ _ _ _, fun g h => (by cases h), LInv.nil _ _, hR.symm, by ((try simp only) <;> omega), ht, Nat.zero_le _, rfl⟩) (fun t w1 hR => ?_)
 obtain ⟨kv, v, ks, cs, acc, t, f⟩ := t
 obtain ⟨hrd, hT, hk1, hk2, hkeys, hown, hsep, hsub, hw, hft, htl, hal, hkl⟩ := hR
 simp only at hrd hk2 hkeys hown hsep hsub hw hft htl hal hkl ⊢
 have hst := pairsP_step (obj := objP refs l D.toNat) (l := l) (ks := ks) (os := acc) (t := t) (f := f) oO
 have hsge := skipAt_ge l t htl
 have hcl := hsub.len
 obtain ⟨pl, cl, rfl, -⟩ := hown.row
 obtain ⟨pk, ck, rfl, -⟩ := hkeys.row
 refine W.block <| W.seq <| W.sr <| WL.m rfl rfl <| WL.ce hb93 rfl rfl ((plex_skip r p l c t refs _ ⟨hrd.1, hrd.2⟩ hne hl htl)) (fun k22 w20 hrw20 hw20 => ?_) (fun a21 w20 hrw20 hw20 => ?_)
 have hBew20 := Touch.trans hT (Touch.mono hw20 hT.size)
 exact pn_is (EndsV.err k22 (by rw [← hw, hst, (skipE_err hrw20).1, (skipE_err hrw20).2]; rfl) hBew20)
 have ho23 := OwnM.touch' hkeys hw20.2 oO
 have ho24 := OwnM.touch' hown hw20.2 oO
 have hF25 := LInv.same (w1 := w20) hsub (fun k hk hl => hw20.2.block k hl (by first | omega | (have := hk.1; omega)))
 have hk26 := hw20.1.1
 have hk27 := Blk.touch hk1 hw20.2 hk1.lt oO
 have hk28 := Blk.touch hk2 hw20.2 hk2.lt oO
 have hv29 := hw20.1.2
 have hB30 := Touch.trans hT (Touch.mono hw20.2 hT.size)
 have hsk := skipE_ok hrw20
 rw [hsk] at hst
 obtain ⟨hsl, hsx⟩ := List.getElem?_eq_some_iff.1 hsk
 obtain ⟨x0, hx0⟩ : ∃ x0, x0 = a21 := ⟨_, rfl⟩
 rw [← hx0] at hst hsx hsk ⊢
 generalize skipAt false l t = s at *
 refine WL.z rfl rfl ?_
 refine W.block ?_
 refine W.cutBQ 11 (decide ((x0.toNat : Int) = 62 ∧ (l.length : Int) ≤ (s : Int) + 1)) ?_ (fun w31 dw31 => ?_)
 refine W.regQ mixed kR ?_
 refine WQ.p (.mv rfl) rfl <| WQ.p (.eql rfl rfl) rfl <| WQ.p (.mv rfl) rfl <| WQ.gd rfl rfl rfl (fun g32 => ?_) (fun g32 => ?_)
 have g32' := dT g32
 refine WQ.p (.mv rfl) rfl <| WQ.gy rfl rfl rfl g32 <| WQ.p (.nck rfl) rfl <| WQ.gy rfl rfl rfl g32 <| WQ.p (.fa underlying98 rfl sizeOf3 dD rfl) rfl <| WQ.gy rfl rfl rfl g32 <| WQ.r (fun m => Rd.ld (isAgg3 _) rfl hk26 rfl) rfl <| WQ.gy rfl rfl rfl g32 <| WQ.p (.iis ((s : Int) + 1) (.add rfl rfl (i64w oO)) oO) rfl <| WQ.gy rfl rfl rfl g32 <| WQ.p (.mv rfl) rfl <| WQ.gy rfl rfl rfl g32 <| WQ.p (.nck rfl) rfl <| WQ.gy rfl rfl rfl g32 <| WQ.p (.fa underlying98 rfl sizeOf26 dD rfl) rfl <| WQ.gy rfl rfl rfl g32 <| WQ.r (fun m => Rd.ld (isAgg26 _) rfl hk26 rfl) rfl <| WQ.gy rfl rfl rfl g32 <| WQ.p (.lenS underlying26 rfl) rfl <| WQ.gy rfl rfl rfl g32 <| WQ.p (.geq rfl rfl) rfl <| WQ.p (.pkT rfl g32 rfl) rfl <| WQ.p (.as rfl) rfl <| WQ.nil (fun w33 dw33 => ?_)
 exact ⟨leE (lk_b rfl (by (apply Bool.eq_iff_iff.2; (try simp) <;> omega))), dw33⟩
 have g32' := dF g32
 refine WQ.gn rfl rfl rfl g32 <| WQ.gn rfl rfl rfl g32 <| WQ.gn rfl rfl rfl g32 <| WQ.gn rfl rfl rfl g32 <| WQ.gn rfl rfl rfl g32 <| WQ.gn rfl rfl rfl g32 <| WQ.gn rfl rfl rfl g32 <| WQ.gn rfl rfl rfl g32 <| WQ.gn rfl rfl rfl g32 <| WQ.gn rfl rfl rfl g32 <| WQ.p (.pkF rfl g32 rfl) rfl <| WQ.p (.as rfl) rfl <| WQ.nil (fun w42 dw42 => ?_)
 exact ⟨leE (lk_b rfl (by (apply Bool.eq_iff_iff.2; (try simp) <;> omega))), dw42⟩
 have ho51 := OwnM.drew ho23 dw31
 have ho52 := OwnM.drew ho24 dw31
 have hF53 := LInv.same (w1 := w31) hF25 (fun k hk hl => (by obtain ⟨m, rfl⟩ := dw31; rfl))
 have hk54 := hk26.drew dw31
 have hk55 := hk27.drew dw31
 have hk56 := hk28.drew dw31
 have hv57 := hv29.drew dw31
 have hB58 := Touch.trans hB30 (Touch.of_drew dw31)
 refine W.cond rfl (fun h59 => ?_) (fun h59 => ?_)
 have h59' := dT h59
 refine W.reg <| WL.cp hb82 rfl ((plex_fail 24 _)) (fun w60 hw60 => ?_)
 obtain rfl := hw60
 exact pn_is (EndsV.err 24 (by rw [← hw, hst]; (try simp only []); rw [if_pos ⟨u8_eq (d := 62) (show (x0.toNat : Int) = 62 by omega), by omega⟩]; rfl) hB58)
 have h59' := dF h59
 have hn1 : ¬ (x0 = 62 ∧ l.length ≤ s + 1) := fun h => by (have h2 : (x0.toNat : Int) = 62 := by rw [h.1]; rfl); omega
 refine W.cutBQ 28 (decide ((x0.toNat : Int) = 62) && nextB l (s + 1) 62) ?_ (fun w61 dw61 => ?_)
 refine W.regQ mixed kR ?_
 refine WQ.p (.mv rfl) rfl <| WQ.p (.eql rfl rfl) rfl <| WQ.p (.mv rfl) rfl <| WQ.gd rfl rfl rfl (fun g62 => ?_) (fun g62 => ?_)
 have g62' := dT g62
 refine WQ.p (.mv rfl) rfl <| WQ.gy rfl rfl rfl g62 <| WQ.p (.nck rfl) rfl <| WQ.gy rfl rfl rfl g62 <| WQ.p (.fa underlying98 rfl sizeOf26 dD rfl) rfl <| WQ.gy rfl rfl rfl g62 <| WQ.r (fun m => Rd.ld (isAgg26 _) rfl hk54 rfl) rfl <| WQ.gy rfl rfl rfl g62 <| WQ.p (.mv rfl) rfl <| WQ.gy rfl rfl rfl g62 <| WQ.p (.nck rfl) rfl <| WQ.gy rfl rfl rfl g62 <| WQ.p (.fa underlying98 rfl sizeOf3 dD rfl) rfl <| WQ.gy rfl rfl rfl g62 <| WQ.r (fun m => Rd.ld (isAgg3 _) rfl hk54 rfl) rfl <| WQ.gy rfl rfl rfl g62 <| WQ.p (.iis (((s + 1 : Nat) : Int)) (.add rfl rfl (i64w oO)) oO) rfl <| WQ.gy rfl rfl rfl g62 <| WQ.p (.ixb underlying26 sizeOf5 rfl rfl (hv57.isp oO) (s + 1) oO oO) rfl <| WQ.gy rfl rfl rfl g62 <| WQ.r (fun m => Rd.ldc (isAgg5 _) rfl ((hv57.drewN m).cells (s + 1) oO)) rfl <| WQ.gy rfl rfl rfl g62 <| WQ.p (.eql rfl rfl) rfl <| WQ.p (.pkT rfl g62 rfl) rfl <| WQ.p (.as rfl) rfl <| WQ.nil (fun w63 dw63 => ?_)
 exact ⟨leE (lk_b rfl (by first | (rw [show decide ((x0.toNat : Int) = 62) = false from decide_eq_false aS]; rfl) | (rw [show decide ((x0.toNat : Int) = 62) = true from decide_eq_true aS, Bool.true_and]; unfold nextB; rw [show decide (s + 1 < l.length) = true from decide_eq_true oO, Bool.true_and, getElem!_pos l (s + 1) oO]; rfl))), dw63⟩
 have g62' := dF g62
 refine WQ.gn rfl rfl rfl g62 <| WQ.gn rfl rfl rfl g62 <| WQ.gn rfl rfl rfl g62 <| WQ.gn rfl rfl rfl g62 <| WQ.gn rfl rfl rfl g62 <| WQ.gn rfl rfl rfl g62 <| WQ.gn rfl rfl rfl g62 <| WQ.gn rfl rfl rfl g62 <| WQ.gn rfl rfl rfl g62 <| WQ.gn rfl rfl rfl g62 <| WQ.gn rfl rfl rfl g62 <| WQ.p (.pkF rfl g62 rfl) rfl <| WQ.p (.as rfl) rfl <| WQ.nil (fun w72 dw72 => ?_)
 exact ⟨leE (lk_b rfl (by first | (rw [show decide ((x0.toNat : Int) = 62) = false from decide_eq_false aS]; rfl) | (rw [show decide ((x0.toNat : Int) = 62) = true from decide_eq_true aS, Bool.true_and]; unfold nextB; rw [show decide (s + 1 < l.length) = true from decide_eq_true oO, Bool.true_and, getElem!_pos l (s + 1) oO]; rfl))), dw72⟩
 have ho81 := OwnM.drew ho51 dw61
 have ho82 := OwnM.drew ho52 dw61
 have hF83 := LInv.same (w1 := w61) hF53 (fun k hk hl => (by obtain ⟨m, rfl⟩ := dw61; rfl))
 have hk84 := hk54.drew dw61
 have hk85 := hk55.drew dw61
 have hk86 := hk56.drew dw61
 have hv87 := hv57.drew dw61
 have hB88 := Touch.trans hB58 (Touch.of_drew dw61)
 refine W.cond rfl (fun h89 => ?_) (fun h89 => ?_)
 have hx62 : (x0.toNat : Int) = 62 ∧ nextB l (s + 1) 62 = true := by simp_all
 have hs2 := (nextB_t hx62.2).1
 refine W.sr <| WL.m rfl rfl <| WL.p (.nck rfl) rfl <| WL.p (.fa underlying98 rfl sizeOf3 dD rfl) rfl <| WL.r (Rd.ld (isAgg3 _) rfl hk84 rfl) rfl <| WL.p (.iis (((s + 2 : Nat) : Int)) (.add rfl rfl (i64w oO)) oO) rfl <| WL.p (.nck rfl) rfl <| WL.p (.fa underlying98 rfl sizeOf3 dD rfl) rfl <| WL.st sizeOf3 rfl rfl rfl hk84 oD (fun w90 hkw90 huw90 hsw90 => ?_)
 have hkw90 : Blk w90 r _ _ := hkw90
 have huw90 : Upd r _ _ := huw90
 have ho91 := OwnM.touch ho81 huw90 oM
 have ho92 := OwnM.touch ho82 huw90 oM
 have hF93 := LInv.same (w1 := w90) hF83 (fun k hk hl => huw90.other k (by first | ((try simp only) <;> omega) | (have := hk.1; ((try simp only) <;> omega))))
 have hk94 := hk85.up huw90
 have hk95 := hk86.up huw90
 have hv96 := BytesAt.upd hv87 huw90 hne
 have hB97 := Touch.trans hB88 (Touch.of_upd huw90)
 refine WL.nil <| ?_
 refine W.sr <| WL.r (Rd.ldA rfl hk95 underlying28 rfl isz28) rfl <| WL.stL rfl rfl hk94 isz28 rfl rfl (fun w98 hkw98 huw98 hsw98 => ?_)
 have ho99 := OwnM.touch ho91 huw98 oM
 have ho100 := OwnM.touch ho92 huw98 oM
 have hF101 := LInv.same (w1 := w98) hF93 (fun k hk hl => huw98.other k (by first | ((try simp only) <;> omega) | (have := hk.1; ((try simp only) <;> omega))))
 have hk102 := hkw90.up huw98
 have hv104 := bup hv96 huw98 hvl5
 have hB105 := Touch.trans hB97 (Touch.of_new huw98 oO)
 refine WL.nil <| ?_
 refine W.ret (W.retc1 rfl rfl (ldRow hkw98 underlying28 rfl isz28)  ?_)
 exact EndsV.ok (.mk 7 0 [] ks acc, s + 2) _ (by rw [← hw, hst]; (try simp only []); rw [if_neg hn1, if_pos ⟨u8_eq (d := 62) hx62.1, nextB_62 hx62.2⟩]; rfl) rfl ⟨⟨7, 0, [], pk, ks.length, ck, pl, cs.length, cl⟩, rfl, PRep.ofRow ⟨(ho99).base (fun g hg => Nat.zero_le _), fun g hg => by have := (ho99).lt g hg; omega⟩ ⟨(ho100).base (fun g hg => Nat.zero_le _), fun g hg => by have := (ho100).lt g hg; omega⟩ ((hF101).mono (fun k hk _ => by have := hk.1; omega)), ⟨hk102, hv104⟩, hB105⟩
 have hn2 : ¬ (x0 = 62 ∧ l[s + 1]? = some 62) := fun h => by (have h2 : (x0.toNat : Int) = 62 := by rw [h.1]; rfl); (have h3 := nextB_not62 (l := l) (t := s + 1) (by simp_all)); exact h3 h.2
 refine W.sr <| WL.m rfl rfl <| WL.p (.neq rfl rfl) rfl <| WL.z rfl rfl ?_
 refine W.cond rfl (fun h106 => ?_) (fun h106 => ?_)
 have h106' := ndT h106
 refine W.reg <| WL.cp hb82 rfl ((plex_fail 23 _)) (fun w107 hw107 => ?_)
 obtain rfl := hw107
 exact pn_is (EndsV.err 23 (by rw [← hw, hst]; (try simp only []); rw [if_neg hn1, if_neg hn2, if_pos (u8_ne (d := 47) aS)]; rfl) hB88)
 have h106' := ndF h106
 have h47 : x0 = 47 := u8_eq (d := 47) aS
 refine W.skip <| W.sr <| WL.m rfl rfl <| WL.p (.nck rfl) rfl <| WL.p (.fa underlying98 rfl sizeOf3 dD rfl) rfl <| WL.r (Rd.ld (isAgg3 _) rfl hk84 rfl) rfl <| WL.p (.iis (((s + 1 : Nat) : Int)) (.add rfl rfl (i64w oO)) oO) rfl <| WL.p (.nck rfl) rfl <| WL.p (.fa underlying98 rfl sizeOf3 dD rfl) rfl <| WL.st sizeOf3 rfl rfl rfl hk84 oD (fun w108 hkw108 huw108 hsw108 => ?_)
 have hkw108 : Blk w108 r _ _ := hkw108
 have huw108 : Upd r _ _ := huw108
 have ho109 := OwnM.touch ho81 huw108 oM
 have ho110 := OwnM.touch ho82 huw108 oM
 have hF111 := LInv.same (w1 := w108) hF83 (fun k hk hl => huw108.other k (by first | ((try simp only) <;> omega) | (have := hk.1; ((try simp only) <;> omega))))
 have hk112 := hk85.up huw108
 have hk113 := hk86.up huw108
 have hv114 := BytesAt.upd hv87 huw108 hne
 have hB115 := Touch.trans hB88 (Touch.of_upd huw108)
 refine WL.nil <| ?_
 refine W.sr <| WL.m rfl rfl <| WL.ce hb81 rfl rfl ((plex_name r p l c (s + 1) refs _ ⟨hkw108, hv114⟩ hne hc hl oO)) (fun k118 w116 hrw116 hw116 => ?_) (fun a117 w116 hrw116 hw116 => ?_)
 have hBew116 := Touch.trans hB115 (Touch.mono hw116 hB115.size)
 exact pn_is (EndsV.err k118 (by rw [← hw, hst]; (try simp only []); rw [if_neg hn1, if_neg hn2, if_neg (by rw [h47]; simp), hrw116]; rfl) hBew116)
 have ho119 := OwnM.touch' ho109 hw116.2 oO
 have ho120 := OwnM.touch' ho110 hw116.2 oO
 have hF121 := LInv.same (w1 := w116) hF111 (fun k hk hl => hw116.2.block k hl (by first | omega | (have := hk.1; omega)))
 have hk122 := hw116.1.1
 have hk123 := Blk.touch hk112 hw116.2 hk112.lt oO
 have hk124 := Blk.touch hk113 hw116.2 hk113.lt oO
 have hv125 := hw116.1.2
 have hB126 := Touch.trans hB115 (Touch.mono hw116.2 hB115.size)
 have hnm := hrw116
 obtain ⟨kX, t1⟩ := a117
 have hle := nameP_le oO hnm
 simp only [] at *
 refine WL.z rfl rfl ?_
 refine W.seq <| W.sr <| WL.p (.fa underlying28 rfl sizeOf25 dD rfl) rfl <| WL.r (Rd.ld (isAgg25 _) rfl hk124 rfl) rfl <| WL.m rfl rfl <| WL.c1 hb96 rfl rfl ((lib_hasS pk ks ck kX _ ((ho119).rowp.strs) oO)) (fun w127 hw127 => ?_)
 obtain rfl := hw127
 refine WL.nil <| ?_
 refine W.cond rfl (fun h128 => ?_) (fun h128 => ?_)
 refine W.reg <| WL.cp hb82 rfl ((plex_fail 23 _)) (fun w129 hw129 => ?_)
 obtain rfl := hw129
 exact pn_is (EndsV.err 23 (by rw [← hw, hst]; (try simp only []); rw [if_neg hn1, if_neg hn2, if_neg (by rw [h47]; simp), hnm]; (try simp only []); rw [if_pos (dT aS)]; rfl) hB126)
 refine W.skip <| W.seq <| W.sr <| WL.p (.fa underlying28 rfl sizeOf22 dD rfl) rfl <| WL.r (Rd.ld (isAgg22 _) rfl hk124 rfl) rfl <| WL.p (.lenS underlying22 rfl) rfl <| WL.p (.geq rfl rfl) rfl <| WL.nil <| ?_
 refine W.cond rfl (fun h130 => ?_) (fun h130 => ?_)
 have h130' := dT h130
 refine W.reg <| WL.cp hb82 rfl ((plex_fail 25 _)) (fun w131 hw131 => ?_)
 obtain rfl := hw131
 exact pn_is (EndsV.err 25 (by rw [← hw, hst]; (try simp only []); rw [if_neg hn1, if_neg hn2, if_neg (by rw [h47]; simp), hnm]; (try simp only []); rw [if_neg (dF aS), if_pos oO]; rfl) hB126)
 have h130' := dF h130
 refine W.skip <| W.sr <| WL.p (.fa underlying28 rfl sizeOf25 dD rfl) rfl <| WL.r (Rd.ld (isAgg25 _) rfl hk124 rfl) rfl <| WL.m rfl rfl <| WL.bsl (ps := _) underlying25 sizeOf9 zeroValue9 rfl rfl rfl rfl rfl pR rfl (fun b132 wb132 eb132 hkb132 hub132 hsb132 => ?_)
 have ho133 := OwnM.new ho119 eb132 hub132
 have ho134 := OwnM.new ho120 eb132 hub132
 have hF135 := LInv.same (w1 := wb132) hF121 (fun k hk hl => hub132.other k oO)
 have hl137 : r < b132 := by rw [eb132]; exact hk122.lt
 have hk136 := hk122.upd hub132 (Nat.ne_of_lt hl137)
 have hl139 : b1 < b132 := by rw [eb132]; exact hk123.lt
 have hk138 := hk123.upd hub132 (Nat.ne_of_lt hl139)
 have hl141 : b7 < b132 := by rw [eb132]; exact hk124.lt
 have hk140 := hk124.upd hub132 (Nat.ne_of_lt hl141)
 have hvl143 := fun h0 => eb132 ▸ hv125.lt h0
 have hv142 := bup hv125 hub132 hvl143
 have hgeb132 : w.heap.size ≤ b132 := by rw [eb132]; exact hB126.size
 have hB144 := Touch.trans hB126 (Touch.of_new hub132 hgeb132)
 have hzz := RowM.lit (V := strL) (l := [kX]) hkb132 (rfl)
 have hlo := (ho134).lt
 refine WL.appM underlying25 inf9 rfl rfl rfl ho133 rfl hzz (by simp only [List.length_cons, List.length_nil]; omega) ((hk140).lt) rfl (fun h => nomatch h) (fun v145 w146 how146 hbw146 hgw146 hfw146 => ?_)
 have hk147 := hk136.below hbw146 oO
 have hk148 := hk138.below hbw146 oO
 have hk149 := hk140.below hbw146 oO
 have hF150 := LInv.grow (T := fun k => b7 < k ∧ (v145).ownBlock ≠ some k ∧ (Value.slice pl cs.length cl).ownBlock ≠ some k) hF135 (fun k hk hl => hgw146.block k hl (fun e => hk.2.1 e.symm)) (fun k hk hl => ⟨hk.1, fun e => by rcases hfw146 k e with h | h; exact hk.2.1 h; omega, hk.2.2⟩)
 have ho151 := OwnM.same ho134 (fun g hg => hgw146.block g ((ho134).lt g hg).2 (fun hx => hsep g hx.symm hg))
 have hv152 := BytesAt.below hv142 hbw146 hpB
 have hB153 := Touch.trans hB144 (Touch.of_below (hbw146.mono oO))
 have hsep2 : ∀ g, (v145).ownBlock = some g → (Value.slice pl cs.length cl).ownBlock ≠ some g := fun g hg => by rcases hfw146 g hg with h | h; exact hsep g h; exact fun h2 => by have := hlo g h2; omega
 obtain ⟨kv2, rfl⟩ : ∃ kv2, kv2 = v145 := ⟨v145, rfl⟩
 refine WL.p (.fa underlying28 rfl sizeOf25 dD rfl) rfl <| WL.st sizeOf25 rfl rfl (how146).one hk149 oD (fun w154 hkw154 huw154 hsw154 => ?_)
 have hkw154 : Blk w154 b7 _ _ := hkw154
 have huw154 : Upd b7 _ _ := huw154
 have ho155 := OwnM.touch how146 huw154 oM
 have ho156 := OwnM.touch ho151 huw154 oM
 have hF157 := LInv.same (w1 := w154) hF150 (fun k hk hl => huw154.other k (by first | ((try simp only) <;> omega) | (have := hk.1; ((try simp only) <;> omega))))
 have hk158 := hk147.up huw154
 have hk159 := hk148.up huw154
 have hv160 := bup hv152 huw154 hvl13
 have hB161 := Touch.trans hB153 (Touch.of_new huw154 oO)
 refine WL.nil <| ?_
 refine W.sr <| WL.m rfl rfl <| WL.ce hb93 rfl rfl ((plex_skip r p l c t1 refs _ ⟨hk158, hv160⟩ hne hl hle.2)) (fun k164 w162 hrw162 hw162 => ?_) (fun a163 w162 hrw162 hw162 => ?_)
 have hBew162 := Touch.trans hB161 (Touch.mono hw162 hB161.size)
 exact pn_is (EndsV.err k164 (by rw [← hw, hst]; (try simp only []); rw [if_neg hn1, if_neg hn2, if_neg (by rw [h47]; simp), hnm]; (try simp only []); rw [if_neg (dF aS), if_neg oO, (skipE_err hrw162).1, (skipE_err hrw162).2]; rfl) hBew162)
 have ho165 := OwnM.touch' ho155 hw162.2 oO
 have ho166 := OwnM.touch' ho156 hw162.2 oO
 have hF167 := LInv.same (w1 := w162) hF157 (fun k hk hl => hw162.2.block k hl (by first | omega | (have := hk.1; omega)))
 have hk168 := hw162.1.1
 have hk169 := Blk.touch hk159 hw162.2 hk159.lt oO
 have hk170 := Blk.touch hkw154 hw162.2 hkw154.lt oO
 have hv171 := hw162.1.2
 have hB172 := Touch.trans hB161 (Touch.mono hw162.2 hB161.size)
 have hsk2 := skipE_ok hrw162
 obtain ⟨hsl2, -⟩ := List.getElem?_eq_some_iff.1 hsk2
 have hsge2 := skipAt_ge l t1 hle.2
 refine WL.nil <| ?_
 refine W.regY 9 rfl mixed (fun w173 dw173 => ?_)
 have ho174 := OwnM.drew ho165 dw173
 have ho175 := OwnM.drew ho166 dw173
 have hF176 := LInv.same (w1 := w173) hF167 (fun k hk hl => (by obtain ⟨m, rfl⟩ := dw173; rfl))
 have hk177 := hk168.drew dw173
 have hk178 := hk169.drew dw173
 have hk179 := hk170.drew dw173
 have hv180 := hv171.drew dw173
 have hB181 := Touch.trans hB172 (Touch.of_drew dw173)
 refine WY.tk 0 rfl (.fa underlying28 rfl sizeOf22 dD rfl) rfl ?_
 refine WY.tk 2 rfl (.mv rfl) rfl ?_
 refine WY.tk 3 rfl (.mv rfl) rfl ?_
 refine WY.br2 1 rfl 4 rfl ?_ ?_
 refine WL.r (Rd.ld (isAgg22 _) rfl hk179 rfl) rfl <| WL.nil <| ?_
 refine WY.br1 4 rfl ?_
 refine WL.cx hb71 rfl rfl ((hO r _ _ ⟨hk177, hv180⟩ hne hsl2)) (fun k184 w182 hrw182 hw182 => ?_) (fun a183 x185 w182 hrw182 hw182 => ?_)
 have hBew182 := Touch.trans hB181 (Touch.mono hw182 hB181.size)
 exact pn_is (EndsV.err k184 (by rw [← hw, hst]; (try simp only []); rw [if_neg hn1, if_neg hn2, if_neg (by rw [h47]; simp), hnm]; (try simp only []); rw [if_neg (dF aS), if_neg oO, hsk2]; (try simp only []); rw [hrw182]; rfl) hBew182)
 have hrr := hrw182
 obtain ⟨oX, tX⟩ := a183
 obtain ⟨x1, rfl, hpx, hrd1, hT1⟩ := hw182
 have had := hadv _ oX tX hsl2 hrr
 have ho1 := OwnM.touch' ho175 hT1 oO
 have hq1 := OwnM.touch' ho174 hT1 oO
 have hsub1 := LInv.same (w1 := w182) hF176 (fun k hk hl => hT1.block k hl (by have := hk.1; omega))
 have hk11 := Blk.touch hk178 hT1 (hk178).lt oO
 have hk21 := Blk.touch hk179 hT1 (hk179).lt oO
 have hB1 := Touch.trans hB181 (Touch.mono hT1 hB181.size)
 have hpx1 := hpx.mono (T := fun k => b7 < k ∧ kv2.ownBlock ≠ some k ∧ (Value.slice pl cs.length cl).ownBlock ≠ some k) (fun k hk _ => ⟨by have := (hk179).lt; omega, fun e => by have := ((ho174).lt k e).2; omega, fun e => by have := ((ho175).lt k e).2; omega⟩)
 have hsub2 := hsub1.push hpx1
 have hr1 := hrd1.1
 have hv1 := hrd1.2
 refine WL.nil <| ?_
 refine WY.br1 5 rfl ?_
 refine WL.bslM (L := pcL) (ps := _) ([x1]) underlying22 sizeOf28 zeroValue28 rfl rfl rfl rfl rfl (by first | rfl | decide) rfl rfl (fun b186 wb186 eb186 hob186 hub186 hsb186 => ?_)
 have ho187 := OwnM.new hq1 eb186 hub186
 have ho188 := OwnM.new ho1 eb186 hub186
 have hF189 := LInv.same (w1 := wb186) hsub2 (fun k hk hl => hub186.other k oO)
 have hl191 : r < b186 := by rw [eb186]; exact hr1.lt
 have hk190 := hr1.upd hub186 (Nat.ne_of_lt hl191)
 have hl193 : b1 < b186 := by rw [eb186]; exact hk11.lt
 have hk192 := hk11.upd hub186 (Nat.ne_of_lt hl193)
 have hl195 : b7 < b186 := by rw [eb186]; exact hk21.lt
 have hk194 := hk21.upd hub186 (Nat.ne_of_lt hl195)
 have hvl197 := fun h0 => eb186 ▸ hv1.lt h0
 have hv196 := bup hv1 hub186 hvl197
 have hgeb186 : w.heap.size ≤ b186 := by rw [eb186]; exact hB1.size
 have hB198 := Touch.trans hB1 (Touch.of_new hub186 hgeb186)
 have hleb186 : b186 ≤ wb186.heap.size := by omega
 refine WL.nil <| ?_
 refine WY.br1 6 rfl ?_
 have hlk := (ho187).lt
 refine WL.appM underlying22 inf28 rfl rfl rfl ho188 rfl (hob186).rowp (by simp only [List.length_cons, List.length_nil]; omega) ((hk194).lt) rfl (fun h => nomatch h) (fun v199 w200 how200 hbw200 hgw200 hfw200 => ?_)
 have hk201 := hk190.below hbw200 oO
 have hk202 := hk192.below hbw200 oO
 have hk203 := hk194.below hbw200 oO
 have hF204 := LInv.grow (T := fun k => b7 < k ∧ kv2.ownBlock ≠ some k ∧ (v199).ownBlock ≠ some k) hF189 (fun k hk hl => hgw200.block k hl (fun e => hk.2.2 e.symm)) (fun k hk hl => ⟨hk.1, hk.2.1, fun e => by rcases hfw200 k e with h | h; exact hk.2.2 h; omega⟩)
 have ho205 := OwnM.same ho187 (fun g hg => hgw200.block g ((ho187).lt g hg).2 (fun hx => hsep2 g hg hx.symm))
 have hv206 := BytesAt.below hv196 hbw200 hpB
 have hB207 := Touch.trans hB198 (Touch.of_below (hbw200.mono oO))
 have hsep3 : ∀ g, kv2.ownBlock = some g → (v199).ownBlock ≠ some g := fun g hg h2 => by rcases hfw200 g h2 with h | h; exact hsep2 g hg h; have := hlk g hg; omega
 refine WL.nil <| ?_
 refine WY.tk 7 rfl (.fa underlying28 rfl sizeOf22 dD rfl) rfl ?_
 refine WY.br1 8 rfl ?_
 refine WL.st sizeOf22 rfl rfl (how200).one hk203 oD (fun w208 hkw208 huw208 hsw208 => ?_)
 have hkw208 : Blk w208 b7 _ _ := hkw208
 have huw208 : Upd b7 _ _ := huw208
 have ho209 := OwnM.touch ho205 huw208 oM
 have ho210 := OwnM.touch how200 huw208 oM
 have hF211 := LInv.same (w1 := w208) hF204 (fun k hk hl => huw208.other k (by first | ((try simp only) <;> omega) | (have := hk.1; ((try simp only) <;> omega))))
 have hk212 := hk201.up huw208
 have hk213 := hk202.up huw208
 have hv214 := bup hv206 huw208 hvl13
 have hB215 := Touch.trans hB207 (Touch.of_new huw208 oO)
 refine WL.nil <| ?_
 refine WY.done kR ?_
 exact ⟨(_, _, ks ++ [kX], cs ++ [x1], acc ++ [oX], tX, f - 1), ⟨rfl, rfl, rfl, rfl, trivial⟩, ⟨⟨hk212, hv214⟩, hB215, hk213, hkw208, ho209, ho210, hsep3, hF211, by rw [← hw, hst]; (try simp only []); rw [if_neg hn1, if_neg hn2, if_neg (by rw [h47]; simp), hnm]; (try simp only []); rw [if_neg (dF aS), if_neg oO, hsk2]; (try simp only []); rw [hrr], by ((try simp only) <;> omega), had.2, by simp only [List.length_append, List.length_cons, List.length_nil]; omega, by simp only [List.length_append, List.length_cons, List.length_nil]; omega⟩, by ((try simp only) <;> omega)⟩
 refine WL.cx hb71 rfl rfl ((hO r _ _ ⟨hk177, hv180⟩ hne hsl2)) (fun k218 w216 hrw216 hw216 => ?_) (fun a217 x219 w216 hrw216 hw216 => ?_)
 have hBew216 := Touch.trans hB181 (Touch.mono hw216 hB181.size)
 exact pn_is (EndsV.err k218 (by rw [← hw, hst]; (try simp only []); rw [if_neg hn1, if_neg hn2, if_neg (by rw [h47]; simp), hnm]; (try simp only []); rw [if_neg (dF aS), if_neg oO, hsk2]; (try simp only []); rw [hrw216]; rfl) hBew216)
 have hrr := hrw216
 obtain ⟨oX, tX⟩ := a217
 obtain ⟨x1, rfl, hpx, hrd1, hT1⟩ := hw216
 have had := hadv _ oX tX hsl2 hrr
 have ho1 := OwnM.touch' ho175 hT1 oO
 have hq1 := OwnM.touch' ho174 hT1 oO
 have hsub1 := LInv.same (w1 := w216) hF176 (fun k hk hl => hT1.block k hl (by have := hk.1; omega))
 have hk11 := Blk.touch hk178 hT1 (hk178).lt oO
 have hk21 := Blk.touch hk179 hT1 (hk179).lt oO
 have hB1 := Touch.trans hB181 (Touch.mono hT1 hB181.size)
 have hpx1 := hpx.mono (T := fun k => b7 < k ∧ kv2.ownBlock ≠ some k ∧ (Value.slice pl cs.length cl).ownBlock ≠ some k) (fun k hk _ => ⟨by have := (hk179).lt; omega, fun e => by have := ((ho174).lt k e).2; omega, fun e => by have := ((ho175).lt k e).2; omega⟩)
 have hsub2 := hsub1.push hpx1
 have hr1 := hrd1.1
 have hv1 := hrd1.2
 refine WL.nil <| ?_
 refine WY.br2 1 rfl 5 rfl ?_ ?_
 refine WL.r (Rd.ld (isAgg22 _) rfl hk21 rfl) rfl <| WL.nil <| ?_
 refine WY.br1 5 rfl ?_
 refine WL.bslM (L := pcL) (ps := _) ([x1]) underlying22 sizeOf28 zeroValue28 rfl rfl rfl rfl rfl (by first | rfl | decide) rfl rfl (fun b220 wb220 eb220 hob220 hub220 hsb220 => ?_)
 have ho221 := OwnM.new hq1 eb220 hub220
 have ho222 := OwnM.new ho1 eb220 hub220
 have hF223 := LInv.same (w1 := wb220) hsub2 (fun k hk hl => hub220.other k oO)
 have hl225 : r < b220 := by rw [eb220]; exact hr1.lt
 have hk224 := hr1.upd hub220 (Nat.ne_of_lt hl225)
 have hl227 : b1 < b220 := by rw [eb220]; exact hk11.lt
 have hk226 := hk11.upd hub220 (Nat.ne_of_lt hl227)
 have hl229 : b7 < b220 := by rw [eb220]; exact hk21.lt
 have hk228 := hk21.upd hub220 (Nat.ne_of_lt hl229)
 have hvl231 := fun h0 => eb220 ▸ hv1.lt h0
 have hv230 := bup hv1 hub220 hvl231
 have hgeb220 : w.heap.size ≤ b220 := by rw [eb220]; exact hB1.size
 have hB232 := Touch.trans hB1 (Touch.of_new hub220 hgeb220)
 have hleb220 : b220 ≤ wb220.heap.size := by omega
 refine WL.nil <| ?_
 refine WY.br1 6 rfl ?_
 have hlk := (ho221).lt
 refine WL.appM underlying22 inf28 rfl rfl rfl ho222 rfl (hob220).rowp (by simp only [List.length_cons, List.length_nil]; omega) ((hk228).lt) rfl (fun h => nomatch h) (fun v233 w234 how234 hbw234 hgw234 hfw234 => ?_)
 have hk235 := hk224.below hbw234 oO
 have hk236 := hk226.below hbw234 oO
 have hk237 := hk228.below hbw234 oO
 have hF238 := LInv.grow (T := fun k => b7 < k ∧ kv2.ownBlock ≠ some k ∧ (v233).ownBlock ≠ some k) hF223 (fun k hk hl => hgw234.block k hl (fun e => hk.2.2 e.symm)) (fun k hk hl => ⟨hk.1, hk.2.1, fun e => by rcases hfw234 k e with h | h; exact hk.2.2 h; omega⟩)
 have ho239 := OwnM.same ho221 (fun g hg => hgw234.block g ((ho221).lt g hg).2 (fun hx => hsep2 g hg hx.symm))
 have hv240 := BytesAt.below hv230 hbw234 hpB
 have hB241 := Touch.trans hB232 (Touch.of_below (hbw234.mono oO))
 have hsep3 : ∀ g, kv2.ownBlock = some g → (v233).ownBlock ≠ some g := fun g hg h2 => by rcases hfw234 g h2 with h | h; exact hsep2 g hg h; have := hlk g hg; omega
 refine WL.nil <| ?_
 refine WY.tk 7 rfl (.fa underlying28 rfl sizeOf22 dD rfl) rfl ?_
 refine WY.br1 8 rfl ?_
 refine WL.st sizeOf22 rfl rfl (how234).one hk237 oD (fun w242 hkw242 huw242 hsw242 => ?_)
 have hkw242 : Blk w242 b7 _ _ := hkw242
 have huw242 : Upd b7 _ _ := huw242
 have ho243 := OwnM.touch ho239 huw242 oM
 have ho244 := OwnM.touch how234 huw242 oM
 have hF245 := LInv.same (w1 := w242) hF238 (fun k hk hl => huw242.other k (by first | ((try simp only) <;> omega) | (have := hk.1; ((try simp only) <;> omega))))
 have hk246 := hk235.up huw242
 have hk247 := hk236.up huw242
 have hv248 := bup hv240 huw242 hvl13
 have hB249 := Touch.trans hB241 (Touch.of_new huw242 oO)
 refine WL.nil <| ?_
 refine WY.done kR ?_
 exact ⟨(_, _, ks ++ [kX], cs ++ [x1], acc ++ [oX], tX, f - 1), ⟨rfl, rfl, rfl, rfl, trivial⟩, ⟨⟨hk246, hv248⟩, hB249, hk247, hkw242, ho243, ho244, hsep3, hF245, by rw [← hw, hst]; (try simp only []); rw [if_neg hn1, if_neg hn2, if_neg (by rw [h47]; simp), hnm]; (try simp only []); rw [if_neg (dF aS), if_neg oO, hsk2]; (try simp only []); rw [hrr], by ((try simp only) <;> omega), had.2, by simp only [List.length_append, List.length_cons, List.length_nil]; omega, by simp only [List.length_append, List.length_cons, List.length_nil]; omega⟩, by ((try simp only) <;> omega)⟩
 refine WL.bslM (L := pcL) (ps := _) ([x1]) underlying22 sizeOf28 zeroValue28 rfl rfl rfl rfl rfl (by first | rfl | decide) rfl rfl (fun b250 wb250 eb250 hob250 hub250 hsb250 => ?_)
 have ho251 := OwnM.new hq1 eb250 hub250
 have ho252 := OwnM.new ho1 eb250 hub250
 have hF253 := LInv.same (w1 := wb250) hsub2 (fun k hk hl => hub250.other k oO)
 have hl255 : r < b250 := by rw [eb250]; exact hr1.lt
 have hk254 := hr1.upd hub250 (Nat.ne_of_lt hl255)
 have hl257 : b1 < b250 := by rw [eb250]; exact hk11.lt
 have hk256 := hk11.upd hub250 (Nat.ne_of_lt hl257)
 have hl259 : b7 < b250 := by rw [eb250]; exact hk21.lt
 have hk258 := hk21.upd hub250 (Nat.ne_of_lt hl259)
 have hvl261 := fun h0 => eb250 ▸ hv1.lt h0
 have hv260 := bup hv1 hub250 hvl261
 have hgeb250 : w.heap.size ≤ b250 := by rw [eb250]; exact hB1.size
 have hB262 := Touch.trans hB1 (Touch.of_new hub250 hgeb250)
 have hleb250 : b250 ≤ wb250.heap.size := by omega
 refine WL.nil <| ?_
 refine WY.br1 1 rfl ?_
 refine WL.r (Rd.ld (isAgg22 _) rfl hk258 rfl) rfl <| WL.nil <| ?_
 refine WY.br1 6 rfl ?_
 have hlk := (ho251).lt
 refine WL.appM underlying22 inf28 rfl rfl rfl ho252 rfl (hob250).rowp (by simp only [List.length_cons, List.length_nil]; omega) ((hk258).lt) rfl (fun h => nomatch h) (fun v263 w264 how264 hbw264 hgw264 hfw264 => ?_)
 have hk265 := hk254.below hbw264 oO
 have hk266 := hk256.below hbw264 oO
 have hk267 := hk258.below hbw264 oO
 have hF268 := LInv.grow (T := fun k => b7 < k ∧ kv2.ownBlock ≠ some k ∧ (v263).ownBlock ≠ some k) hF253 (fun k hk hl => hgw264.block k hl (fun e => hk.2.2 e.symm)) (fun k hk hl => ⟨hk.1, hk.2.1, fun e => by rcases hfw264 k e with h | h; exact hk.2.2 h; omega⟩)
 have ho269 := OwnM.same ho251 (fun g hg => hgw264.block g ((ho251).lt g hg).2 (fun hx => hsep2 g hg hx.symm))
 have hv270 := BytesAt.below hv260 hbw264 hpB
 have hB271 := Touch.trans hB262 (Touch.of_below (hbw264.mono oO))
 have hsep3 : ∀ g, kv2.ownBlock = some g → (v263).ownBlock ≠ some g := fun g hg h2 => by rcases hfw264 g h2 with h | h; exact hsep2 g hg h; have := hlk g hg; omega
 refine WL.nil <| ?_
 refine WY.tk 7 rfl (.fa underlying28 rfl sizeOf22 dD rfl) rfl ?_
 refine WY.br1 8 rfl ?_
 refine WL.st sizeOf22 rfl rfl (how264).one hk267 oD (fun w272 hkw272 huw272 hsw272 => ?_)
 have hkw272 : Blk w272 b7 _ _ := hkw272
 have huw272 : Upd b7 _ _ := huw272
 have ho273 := OwnM.touch ho269 huw272 oM
 have ho274 := OwnM.touch how264 huw272 oM
 have hF275 := LInv.same (w1 := w272) hF268 (fun k hk hl => huw272.other k (by first | ((try simp only) <;> omega) | (have := hk.1; ((try simp only) <;> omega))))
 have hk276 := hk265.up huw272
 have hk277 := hk266.up huw272
 have hv278 := bup hv270 huw272 hvl13
 have hB279 := Touch.trans hB271 (Touch.of_new huw272 oO)
 refine WL.nil <| ?_
 refine WY.done kR ?_
 exact ⟨(_, _, ks ++ [kX], cs ++ [x1], acc ++ [oX], tX, f - 1), ⟨rfl, rfl, rfl, rfl, trivial⟩, ⟨⟨hk276, hv278⟩, hB279, hk277, hkw272, ho273, ho274, hsep3, hF275, by rw [← hw, hst]; (try simp only []); rw [if_neg hn1, if_neg hn2, if_neg (by rw [h47]; simp), hnm]; (try simp only []); rw [if_neg (dF aS), if_neg oO, hsk2]; (try simp only []); rw [hrr], by ((try simp only) <;> omega), had.2, by simp only [List.length_append, List.length_cons, List.length_nil]; omega, by simp only [List.length_append, List.length_cons, List.length_nil]; omega⟩, by ((try simp only) <;> omega)⟩
end
section
theorem listP_adv {obj : Nat → ObjE} {l : List UInt8} (hobj : ∀ t o t', t < l.length → obj t = .ok (o, t') → t < t' ∧ t' ≤ l.length) : ∀ (f : Nat) (acc : List PV) (t : Nat) (os : List PV) (t' : Nat), t ≤ l.length → listP obj l f acc t = .ok (os, t') → t < t' ∧ t' ≤ l.length
 | 0, _, _, _, _, _, h => by cases h
 | f + 1, acc, t, os, t', ht, h => by
  have hs := skipAt_ge l t ht
  simp only [listP] at h
  cases hg : l[skipAt false l t]? with
  | none => rw [hg] at h; cases h
  | some c =>
   obtain ⟨hlt, -⟩ := List.getElem?_eq_some_iff.1 hg
   rw [hg] at h
   simp only at h
   split at h
   ·
    cases h; omega
   ·
    split at h
    ·
     cases h
    ·
     cases ho : obj (skipAt false l t) with
     | error k => rw [ho] at h; cases h
     | ok a =>
      obtain ⟨o, t1⟩ := a
      rw [ho] at h
      have h1 := hobj _ _ _ hlt ho
      have h2 := listP_adv hobj f _ _ _ _ h1.2 h
      omega
theorem pairsP_adv {obj : Nat → ObjE} {l : List UInt8} (hobj : ∀ t o t', t < l.length → obj t = .ok (o, t') → t < t' ∧ t' ≤ l.length) : ∀ (f : Nat) (ks : List (List UInt8)) (acc : List PV) (t : Nat) (ks' : List (List UInt8)) (os : List PV) (t' : Nat), t ≤ l.length → pairsP obj l f ks acc t = .ok (ks', os, t') → t < t' ∧ t' ≤ l.length
 | 0, _, _, _, _, _, _, _, h => by cases h
 | f + 1, ks, acc, t, ks', os, t', ht, h => by
  have hs := skipAt_ge l t ht
  simp only [pairsP] at h
  cases hg : l[skipAt false l t]? with
  | none => rw [hg] at h; cases h
  | some c =>
   obtain ⟨hlt, -⟩ := List.getElem?_eq_some_iff.1 hg
   rw [hg] at h
   simp only at h
   split at h
   ·
    cases h
   ·
    split at h
    ·
     next hq =>
     obtain ⟨h2, -⟩ := List.getElem?_eq_some_iff.1 hq.2
     cases h; omega
    ·
     split at h
     ·
      cases h
     ·
      cases hn : nameP l (skipAt false l t + 1) with
      | error k => rw [hn] at h; cases h
      | ok a =>
       obtain ⟨k, t1⟩ := a
       rw [hn] at h
       have hle := nameP_le oO hn
       simp only at h
       split at h
       ·
        cases h
       ·
        split at h
        ·
         cases h
        ·
         have hs1 := skipAt_ge l t1 hle.2
         cases hg1 : l[skipAt false l t1]? with
         | none => rw [hg1] at h; cases h
         | some c1 =>
          obtain ⟨hlt1, -⟩ := List.getElem?_eq_some_iff.1 hg1
          rw [hg1] at h
          simp only at h
          cases ho : obj (skipAt false l t1) with
          | error k => rw [ho] at h; cases h
          | ok a =>
           obtain ⟨o, t2⟩ := a
           rw [ho] at h
           have h1 := hobj _ _ _ hlt1 ho
           have h2 := pairsP_adv hobj f _ _ _ _ _ _ h1.2 h
           omega
theorem textR_adv {l : List UInt8} {t : Nat} {s : List UInt8} {t' : Nat} (ht : t ≤ l.length) (h : textR l t = .ok (s, t')) : t < t' ∧ t' ≤ l.length := by
 have hst := nextR_step l t ht
 unfold textR at h
 split at h
 ·
  cases h
 ·
  split at h
  ·
   cases h
  ·
   split at h
   ·
    cases h
   ·
    cases h; omega
theorem word_pos {l : List UInt8} {t : Nat} (ht : t ≤ l.length) (h : wordL l t ≠ []) : t < wordAt l t ∧ wordAt l t ≤ l.length := by
 have h1 := wordAt_le l t ht
 refine ⟨?_, h1.2⟩
 rcases Nat.lt_or_ge t (wordAt l t) with h2 | h2
 ·
  exact h2
 ·
  exact absurd (by unfold wordL; rw [show wordAt l t - t = 0 by omega, List.take_zero]) h
theorem numR_nil : (numR []).2.2 = false := by kernel_rfl
theorem refR_nil (refs : Bool) (l : List UInt8) (t : Nat) : (refR refs l [] t).isSome = false := by
 unfold refR
 have : (wholeV [] 4096).2 = false := by rfl
 rw [this]; simp
theorem refT_adv {refs : Bool} {l s : List UInt8} {t : Nat} (ht : t ≤ l.length) : t ≤ refT (refR refs l s t) t ∧ refT (refR refs l s t) t ≤ l.length := by
 have h1 := skipAt_ge l t ht
 have h2 := skipAt_le false l t
 have h3 := wordAt_le l _ h2
 have h4 := skipAt_ge l _ h3.2
 have h5 := skipAt_le false l (wordAt l (skipAt false l t))
 have h6 := wordAt_le l _ h5
 unfold refR
 split
 ·
  split
  ·
   split
   ·
    show t ≤ wordAt l _ ∧ wordAt l _ ≤ l.length
    omega
   ·
    exact ⟨Nat.le_refl _, ht⟩
  ·
   exact ⟨Nat.le_refl _, ht⟩
 ·
  exact ⟨Nat.le_refl _, ht⟩
theorem plexW_adv {refs : Bool} {l : List UInt8} {t : Nat} (ht : t < l.length) (h : (plexW refs l t).ok = true) : t < (plexW refs l t).np ∧ (plexW refs l t).np ≤ l.length := by
  by_cases hw : wordL l t = []
  · exfalso
    unfold plexW at h
    rw [hw, refR_nil, numR_nil] at h
    simp at h
  · have h1 := word_pos oO hw
    have h2 := refT_adv (refs := refs) (s := wordL l t) h1.2
    unfold plexW
    split
    · exact h1
    · split
      · exact h1
      · split
        · exact h1
        · split
          · exact ⟨by show t < refT _ _; omega, h2.2⟩
          · split
            · exact h1
            · exact h1
theorem objP_adv (refs : Bool) (l : List UInt8) : ∀ (d t : Nat) (o : PV) (t' : Nat), t < l.length → objP refs l d t = .ok (o, t') → t < t' ∧ t' ≤ l.length := by
 have hname : ∀ t (o : PV) t', t < l.length → nameO l (t + 1) = .ok (o, t') → t < t' ∧ t' ≤ l.length := fun t o t' ht h => by
  unfold nameO at h
  cases hn : nameP l (t + 1) with
  | error k => rw [hn] at h; cases h
  | ok a =>
   obtain ⟨k, t1⟩ := a
   rw [hn] at h
   have hle := nameP_le oO hn
   cases h; omega
 have htext : ∀ t (o : PV) t', t < l.length → textP l t = .ok (o, t') → t < t' ∧ t' ≤ l.length := fun t o t' ht h => by
  unfold textP at h
  cases hn : textR l t with
  | error k => rw [hn] at h; cases h
  | ok a =>
   obtain ⟨k, t1⟩ := a
   rw [hn] at h
   have hle := textR_adv oO hn
   cases h; exact hle
 have hplain : ∀ t (o : PV) t', t < l.length → plainO (plexW refs l t) = .ok (o, t') → t < t' ∧ t' ≤ l.length := fun t o t' ht h => by
  unfold plainO at h
  split at h
  ·
   next hok => have := plexW_adv ht hok; cases h; exact this
  ·
   cases h
 intro d
 induction d with
 | zero =>
  intro t o t' ht h
  simp only [objP] at h
  rw [List.getElem?_eq_getElem ht] at h
  simp only at h
  split at h
  ·
   exact hname t o t' ht h
  ·
   split at h
   ·
    cases h
   ·
    split at h
    ·
     exact htext t o t' ht h
    ·
     split at h
     ·
      split at h
      ·
       cases h
      ·
       split at h
       ·
        exact htext t o t' ht h
       ·
        cases h
     ·
      exact hplain t o t' ht h
 | succ d ih =>
  intro t o t' ht h
  simp only [objP] at h
  rw [List.getElem?_eq_getElem ht] at h
  simp only at h
  split at h
  ·
   exact hname t o t' ht h
  ·
   split at h
   ·
    unfold listO at h
    cases hn : listP (objP refs l d) l (l.length + 1) [] (t + 1) with
    | error k => rw [hn] at h; cases h
    | ok a =>
     obtain ⟨os, t1⟩ := a
     rw [hn] at h
     have := listP_adv ih _ _ _ _ _ oO hn
     cases h; omega
   ·
    split at h
    ·
     exact htext t o t' ht h
    ·
     split at h
     ·
      split at h
      ·
       cases h
      ·
       split at h
       ·
        exact htext t o t' ht h
       ·
        unfold pairsO at h
        cases hn : pairsP (objP refs l d) l (l.length + 1) [] [] (t + 2) with
        | error k => rw [hn] at h; cases h
        | ok a =>
         obtain ⟨ks, os, t1⟩ := a
         rw [hn] at h
         have := pairsP_adv ih _ _ _ _ _ _ _ oO hn
         cases h; omega
     ·
      exact hplain t o t' ht h
theorem objP_at (refs : Bool) (l : List UInt8) (d : Int) (t : Nat) (x : UInt8) (h : l[t]? = some x) : objP refs l d.toNat t =
    if x = 47 then nameO l (t + 1)
    else if x = 91 then (if d < 1 then .error 25 else listO (listP (objP refs l (d - 1).toNat) l (l.length + 1) [] (t + 1)))
    else if x = 40 then textP l t
    else if x = 60 then (if l.length ≤ t + 1 then .error 24 else if l[t + 1]? ≠ some 60 then textP l t else if d < 1 then .error 25 else pairsO (pairsP (objP refs l (d - 1).toNat) l (l.length + 1) [] [] (t + 2)))
    else plainO (plexW refs l t) := by
  by_cases hd : d < 1
  · rw [show d.toNat = 0 by omega, if_pos hd]
    simp only [objP, h]
    rw [if_pos hd]
  · rw [show d.toNat = (d - 1).toNat + 1 by omega, if_neg hd]
    simp only [objP, h]
    rw [if_neg hd]
/-- what is said of object at depth D holds -/
theorem plex_object (p : Option Addr) (l : List UInt8) (c : Nat) (refs : Bool) (hc : l.length ≤ c) (hl : l.length ≤ 100000000) (D : Int) (hD : -9223372036854775808 < D ∧ D ≤ 1000000000) (hO : 1 ≤ D → ObjC p l c refs (D - 1)) : ObjC p l c refs D := by
 intro r t w h hne ht
 have hr := h.1
 have hb := h.2
 obtain ⟨X, hX⟩ : ∃ X, X = objP refs l D.toNat t := ⟨_, rfl⟩
 rw [← hX]
 have hg : l[t]? = some l[t] := List.getElem?_eq_getElem ht
 rw [objP_at refs l D t l[t] hg] at hX
 obtain ⟨Wd, hWd⟩ : ∃ Wd, Wd = plexW refs l t := ⟨_, rfl⟩
 have hWc : ∀ w1, PRd w1 r p l c t refs → Calls Tryz.prog 86 #[.pointer (some ⟨r, 0, none⟩)] w1 fun e w' => e = .returned Wd.val ∧ PRd w' r p l c Wd.np refs ∧ Touch w1.heap.size r w1 w' := fun w1 h1 => by rw [hWd]; exact plex_word r p l c t refs w1 h1 hne hc hl oO
 rw [← hWd] at hX
 refine W.enter func71 rfl ntmps71 (Nat.le_of_ble_eq_true rfl) ?_
 have hB0 := Touch.refl (w.heap.size) r w
 refine W.sr <| WL.alloc zeroValue28 rfl (fun b1 wb1 eb1 hkb1 hub1 hsb1 => ?_)
 have hl3 : r < b1 := by rw [eb1]; exact hr.lt
 have hk2 := hr.upd hub1 (Nat.ne_of_lt hl3)
 have hvl5 := fun h0 => eb1 ▸ hb.lt h0
 have hv4 := bup hb hub1 hvl5
 have hgeb1 : w.heap.size ≤ b1 := by rw [eb1]; exact hB0.size
 have hB6 := Touch.trans hB0 (Touch.of_new hub1 hgeb1)
 refine WL.nil <| ?_
 refine W.seq <| W.seq ?_
 have hrB : r < b1 := by have := hr.lt; omega
 refine W.regQ mixed kR ?_
 refine WQ.p (.mv rfl) rfl <| WQ.p (.nck rfl) rfl <| WQ.p (.fa underlying98 rfl sizeOf26 dD rfl) rfl <| WQ.r (fun m => Rd.ld (isAgg26 _) rfl hk2 rfl) rfl <| WQ.p (.mv rfl) rfl <| WQ.p (.nck rfl) rfl <| WQ.p (.fa underlying98 rfl sizeOf3 dD rfl) rfl <| WQ.r (fun m => Rd.ld (isAgg3 _) rfl hk2 rfl) rfl <| WQ.p (.ixb underlying26 sizeOf5 rfl rfl (hv4.isp oO) (t) (rfl) (ht)) rfl <| WQ.r (fun m => Rd.iis ((l[t].toNat : Int)) (Rd.ldc (isAgg5 _) rfl ((hv4.drewN m).cells (t) (ht))) oO) rfl <| WQ.p (.as rfl) rfl <| WQ.nil (fun w7 dw7 => ?_)
 have hk8 := hk2.drew dw7
 have hk9 := hkb1.drew dw7
 have hv10 := hv4.drew dw7
 have hB11 := Touch.trans hB6 (Touch.of_drew dw7)
 refine W.sr <| WL.m rfl rfl <| WL.nil <| ?_
 refine W.block <| W.sr <| WL.p (.eql rfl rfl) rfl <| WL.z rfl rfl ?_
 refine W.cond rfl (fun h12 => ?_) (fun h12 => ?_)
 have h12' := dT h12
 have h47 : l[t] = 47 := u8_eq aS
 rw [if_pos h47] at hX
 refine W.sr <| WL.m rfl rfl <| WL.p (.nck rfl) rfl <| WL.p (.fa underlying98 rfl sizeOf3 dD rfl) rfl <| WL.r (Rd.ld (isAgg3 _) rfl hk8 rfl) rfl <| WL.p (.iis (((t + 1 : Nat) : Int)) (.add rfl rfl (i64w oO)) oO) rfl <| WL.p (.nck rfl) rfl <| WL.p (.fa underlying98 rfl sizeOf3 dD rfl) rfl <| WL.st sizeOf3 rfl rfl rfl hk8 oD (fun w13 hkw13 huw13 hsw13 => ?_)
 have hkw13 : Blk w13 r _ _ := hkw13
 have huw13 : Upd r _ _ := huw13
 have hk14 := hk9.up huw13
 have hv15 := BytesAt.upd hv10 huw13 hne
 have hB16 := Touch.trans hB11 (Touch.of_upd huw13)
 refine WL.nil <| ?_
 refine W.sr <| WL.m rfl rfl <| WL.ce hb81 rfl rfl ((plex_name r p l c (t + 1) refs _ ⟨hkw13, hv15⟩ hne hc hl oO)) (fun k19 w17 hrw17 hw17 => ?_) (fun a18 w17 hrw17 hw17 => ?_)
 have hBew17 := Touch.trans hB16 (Touch.mono hw17 hB16.size)
 exact pn_is (EndsV.err k19 (by rw [hX]; unfold nameO; rw [hrw17]) hBew17)
 have hk20 := hw17.1.1
 have hk21 := Blk.touch hk14 hw17.2 hk14.lt oO
 have hv22 := hw17.1.2
 have hB23 := Touch.trans hB16 (Touch.mono hw17.2 hB16.size)
 have hra := hrw17
 obtain ⟨sN, tN⟩ := a18
 refine WL.p (.buildL (ps := _) blt28 rfl rfl rfl pS) rfl ?_
 refine WL.stL rfl rfl hk21 isz28 rfl rfl (fun w24 hkw24 huw24 hsw24 => ?_)
 have hk25 := hk20.up huw24
 have hv26 := bup hv22 huw24 hvl5
 have hB27 := Touch.trans hB23 (Touch.of_new huw24 oO)
 refine WL.nil <| ?_
 refine W.ret (W.retc1 rfl rfl (ldRow hkw24 underlying28 rfl isz28)  ?_)
 exact EndsV.ok (pv0 4 0 sN, tN) _ (by rw [hX]; unfold nameO; rw [hra]) rfl ⟨pc0 4 0 sN, rfl, PRep.zero _ _ _ _ _, ⟨hk25, hv26⟩, hB27⟩
 have h12' := dF h12
 have h47 : l[t] ≠ 47 := u8_ne (d := 47) aS
 rw [if_neg h47] at hX
 refine W.sr <| WL.p (.eql rfl rfl) rfl <| WL.z rfl rfl ?_
 refine W.cond rfl (fun h28 => ?_) (fun h28 => ?_)
 have h28' := dT h28
 have h91 : l[t] = 91 := u8_eq aS
 rw [if_pos h91] at hX
 refine W.seq <| W.sr <| WL.m rfl rfl <| WL.p (.lss rfl rfl) rfl <| WL.nil <| ?_
 refine W.cond rfl (fun h29 => ?_) (fun h29 => ?_)
 have h29' := dT h29
 refine W.reg <| WL.cp hb82 rfl ((plex_fail 25 _)) (fun w30 hw30 => ?_)
 obtain rfl := hw30
 exact pn_is (EndsV.err 25 (by rw [hX, if_pos oO]) hB11)
 have h29' := dF h29
 refine W.skip <| W.sr <| WL.m rfl rfl <| WL.p (.nck rfl) rfl <| WL.p (.fa underlying98 rfl sizeOf3 dD rfl) rfl <| WL.r (Rd.ld (isAgg3 _) rfl hk8 rfl) rfl <| WL.p (.iis (((t + 1 : Nat) : Int)) (.add rfl rfl (i64w oO)) oO) rfl <| WL.p (.nck rfl) rfl <| WL.p (.fa underlying98 rfl sizeOf3 dD rfl) rfl <| WL.st sizeOf3 rfl rfl rfl hk8 oD (fun w31 hkw31 huw31 hsw31 => ?_)
 have hkw31 : Blk w31 r _ _ := hkw31
 have huw31 : Upd r _ _ := huw31
 have hk32 := hk9.up huw31
 have hv33 := BytesAt.upd hv10 huw31 hne
 have hB34 := Touch.trans hB11 (Touch.of_upd huw31)
 refine WL.nil <| ?_
 refine W.sr <| WL.m rfl rfl <| WL.m rfl rfl <| WL.p (.sub rfl rfl (i64w oO)) rfl <| WL.cx hb83 rfl rfl ((plex_list p l c refs (D - 1) (hO oO) (objP_adv refs l _) r (t + 1) _ ⟨hkw31, hv33⟩ hne hl oO)) (fun k37 w35 hrw35 hw35 => ?_) (fun a36 x38 w35 hrw35 hw35 => ?_)
 have hBew35 := Touch.trans hB34 (Touch.mono hw35 hB34.size)
 exact pn_is (EndsV.err k37 (by rw [hX, if_neg oO, hrw35]) hBew35)
 have hrr := hrw35
 obtain ⟨oX, tX⟩ := a36
 obtain ⟨x1, rfl, hpx, hrd1, hT1⟩ := hw35
 have hpx1 := hpx.mono (T := fun k => b1 < k ∧ w.heap.size ≤ k) (fun k hk _ => by have h1 := (hk32).lt; have h2 := hB34.size; omega)
 have hk11 := Blk.touch hk32 hT1 (hk32).lt oO
 have hB1 := Touch.trans hB34 (Touch.mono hT1 hB34.size)
 have hr1 := hrd1.1
 have hv1 := hrd1.2
 refine WL.stL rfl rfl hk11 isz28 rfl rfl (fun w39 hkw39 huw39 hsw39 => ?_)
 have hF40 := PRep.same (w1 := w39) hpx1 (fun k hk hl => huw39.other k (by first | ((try simp only) <;> omega) | (have := hk.1; ((try simp only) <;> omega))))
 have hk41 := hr1.upd huw39 oM
 have hv42 := bup hv1 huw39 hvl5
 have hB43 := Touch.trans hB1 (Touch.of_new huw39 oO)
 refine WL.nil <| ?_
 refine W.ret (W.retc1 rfl rfl (ldRow hkw39 underlying28 rfl isz28)  ?_)
 exact EndsV.ok (oX, tX) _ (by rw [hX, if_neg oO, hrr]) rfl ⟨x1, rfl, (hF40).mono (fun k hk _ => hk.2), ⟨hk41, hv42⟩, hB43⟩
 have h28' := dF h28
 have h91 : l[t] ≠ 91 := u8_ne (d := 91) aS
 rw [if_neg h91] at hX
 refine W.sr <| WL.p (.eql rfl rfl) rfl <| WL.z rfl rfl ?_
 refine W.cond rfl (fun h44 => ?_) (fun h44 => ?_)
 have h44' := dT h44
 have h40 : l[t] = 40 := u8_eq aS
 rw [if_pos h40] at hX
 refine W.sr <| WL.m rfl rfl <| WL.ce hb84 rfl rfl ((plex_text r p l c t refs _ ⟨hk8, hv10⟩ hne hc hl ht)) (fun k47 w45 hrw45 hw45 => ?_) (fun a46 w45 hrw45 hw45 => ?_)
 have hBew45 := Touch.trans hB11 (Touch.mono hw45 hB11.size)
 exact pn_is (EndsV.err k47 (by rw [hX]; unfold textP; rw [hrw45]) hBew45)
 have hk48 := hw45.1.1
 have hk49 := Blk.touch hk9 hw45.2 hk9.lt oO
 have hv50 := hw45.1.2
 have hB51 := Touch.trans hB11 (Touch.mono hw45.2 hB11.size)
 have hra := hrw45
 obtain ⟨sN, tN⟩ := a46
 refine WL.stL rfl rfl hk49 isz28 rfl rfl (fun w52 hkw52 huw52 hsw52 => ?_)
 have hk53 := hk48.up huw52
 have hv54 := bup hv50 huw52 hvl5
 have hB55 := Touch.trans hB51 (Touch.of_new huw52 oO)
 refine WL.nil <| ?_
 refine W.ret (W.retc1 rfl rfl (ldRow hkw52 underlying28 rfl isz28)  ?_)
 exact EndsV.ok (pv0 5 0 sN, tN) _ (by rw [hX]; unfold textP; rw [hra]) rfl ⟨pc0 5 0 sN, rfl, PRep.zero _ _ _ _ _, ⟨hk53, hv54⟩, hB55⟩
 have h44' := dF h44
 have h40 : l[t] ≠ 40 := u8_ne (d := 40) aS
 rw [if_neg h40] at hX
 refine W.sr <| WL.p (.eql rfl rfl) rfl <| WL.z rfl rfl ?_
 refine W.cond rfl (fun h56 => ?_) (fun h56 => ?_)
 have h56' := dT h56
 have h60 : l[t] = 60 := u8_eq aS
 rw [if_pos h60] at hX
 refine W.seq <| W.seq <| W.regQ mixed kR ?_
 refine WQ.p (.mv rfl) rfl <| WQ.p (.nck rfl) rfl <| WQ.p (.fa underlying98 rfl sizeOf3 dD rfl) rfl <| WQ.r (fun m => Rd.ld (isAgg3 _) rfl hk8 rfl) rfl <| WQ.p (.iis ((t : Int) + 1) (.add rfl rfl (i64w oO)) oO) rfl <| WQ.p (.mv rfl) rfl <| WQ.p (.nck rfl) rfl <| WQ.p (.fa underlying98 rfl sizeOf26 dD rfl) rfl <| WQ.r (fun m => Rd.ld (isAgg26 _) rfl hk8 rfl) rfl <| WQ.p (.lenS underlying26 rfl) rfl <| WQ.p (.geq rfl rfl) rfl <| WQ.nil (fun w57 dw57 => ?_)
 have hk58 := hk8.drew dw57
 have hk59 := hk9.drew dw57
 have hv60 := hv10.drew dw57
 have hB61 := Touch.trans hB11 (Touch.of_drew dw57)
 refine W.cond rfl (fun h62 => ?_) (fun h62 => ?_)
 have h62' := dT h62
 refine W.reg <| WL.cp hb82 rfl ((plex_fail 24 _)) (fun w63 hw63 => ?_)
 obtain rfl := hw63
 exact pn_is (EndsV.err 24 (by rw [hX, if_pos oO]) hB61)
 have h62' := dF h62
 have hlt1 : t + 1 < l.length := by omega
 have hg1 : l[t + 1]? = some l[t + 1] := List.getElem?_eq_getElem hlt1
 refine W.skip <| W.seq <| W.seq <| W.regQ mixed kR ?_
 refine WQ.p (.mv rfl) rfl <| WQ.p (.nck rfl) rfl <| WQ.p (.fa underlying98 rfl sizeOf26 dD rfl) rfl <| WQ.r (fun m => Rd.ld (isAgg26 _) rfl hk58 rfl) rfl <| WQ.p (.mv rfl) rfl <| WQ.p (.nck rfl) rfl <| WQ.p (.fa underlying98 rfl sizeOf3 dD rfl) rfl <| WQ.r (fun m => Rd.ld (isAgg3 _) rfl hk58 rfl) rfl <| WQ.p (.iis (((t + 1 : Nat) : Int)) (.add rfl rfl (i64w oO)) oO) rfl <| WQ.p (.ixb underlying26 sizeOf5 rfl rfl (hv60.isp oO) (t + 1) oO oO) rfl <| WQ.r (fun m => Rd.ldc (isAgg5 _) rfl ((hv60.drewN m).cells (t + 1) oO)) rfl <| WQ.p (.neq rfl rfl) rfl <| WQ.nil (fun w64 dw64 => ?_)
 have hk65 := hk58.drew dw64
 have hk66 := hk59.drew dw64
 have hv67 := hv60.drew dw64
 have hB68 := Touch.trans hB61 (Touch.of_drew dw64)
 refine W.cond rfl (fun h69 => ?_) (fun h69 => ?_)
 have h69' := ndT h69
 refine W.sr <| WL.m rfl rfl <| WL.ce hb84 rfl rfl ((plex_text r p l c t refs _ ⟨hk65, hv67⟩ hne hc hl ht)) (fun k72 w70 hrw70 hw70 => ?_) (fun a71 w70 hrw70 hw70 => ?_)
 have hBew70 := Touch.trans hB68 (Touch.mono hw70 hB68.size)
 exact pn_is (EndsV.err k72 (by rw [hX, if_neg oO, if_pos (by rw [hg1]; exact fun e => u8_ne (d := 60) aS (Option.some.inj e))]; unfold textP; rw [hrw70]) hBew70)
 have hk73 := hw70.1.1
 have hk74 := Blk.touch hk66 hw70.2 hk66.lt oO
 have hv75 := hw70.1.2
 have hB76 := Touch.trans hB68 (Touch.mono hw70.2 hB68.size)
 have hra := hrw70
 obtain ⟨sN, tN⟩ := a71
 refine WL.stL rfl rfl hk74 isz28 rfl rfl (fun w77 hkw77 huw77 hsw77 => ?_)
 have hk78 := hk73.up huw77
 have hv79 := bup hv75 huw77 hvl5
 have hB80 := Touch.trans hB76 (Touch.of_new huw77 oO)
 refine WL.nil <| ?_
 refine W.ret (W.retc1 rfl rfl (ldRow hkw77 underlying28 rfl isz28)  ?_)
 exact EndsV.ok (pv0 5 0 sN, tN) _ (by rw [hX, if_neg oO, if_pos (by rw [hg1]; exact fun e => u8_ne (d := 60) aS (Option.some.inj e))]; unfold textP; rw [hra]) rfl ⟨pc0 5 0 sN, rfl, PRep.zero _ _ _ _ _, ⟨hk78, hv79⟩, hB80⟩
 have h69' := ndF h69
 refine W.skip <| W.seq <| W.sr <| WL.m rfl rfl <| WL.p (.lss rfl rfl) rfl <| WL.nil <| ?_
 refine W.cond rfl (fun h81 => ?_) (fun h81 => ?_)
 have h81' := dT h81
 refine W.reg <| WL.cp hb82 rfl ((plex_fail 25 _)) (fun w82 hw82 => ?_)
 obtain rfl := hw82
 exact pn_is (EndsV.err 25 (by rw [hX, if_neg oO, if_neg (fun e => e (by rw [hg1, show l[t + 1] = 60 from u8_eq (d := 60) aS])), if_pos oO]) hB68)
 have h81' := dF h81
 refine W.skip <| W.sr <| WL.m rfl rfl <| WL.p (.nck rfl) rfl <| WL.p (.fa underlying98 rfl sizeOf3 dD rfl) rfl <| WL.r (Rd.ld (isAgg3 _) rfl hk65 rfl) rfl <| WL.p (.iis (((t + 2 : Nat) : Int)) (.add rfl rfl (i64w oO)) oO) rfl <| WL.p (.nck rfl) rfl <| WL.p (.fa underlying98 rfl sizeOf3 dD rfl) rfl <| WL.st sizeOf3 rfl rfl rfl hk65 oD (fun w83 hkw83 huw83 hsw83 => ?_)
 have hkw83 : Blk w83 r _ _ := hkw83
 have huw83 : Upd r _ _ := huw83
 have hk84 := hk66.up huw83
 have hv85 := BytesAt.upd hv67 huw83 hne
 have hB86 := Touch.trans hB68 (Touch.of_upd huw83)
 refine WL.nil <| ?_
 refine W.sr <| WL.m rfl rfl <| WL.m rfl rfl <| WL.p (.sub rfl rfl (i64w oO)) rfl <| WL.cx hb85 rfl rfl ((plex_pairs p l c refs (D - 1) (hO oO) (objP_adv refs l _) r (t + 2) _ ⟨hkw83, hv85⟩ hne hc hl oO)) (fun k89 w87 hrw87 hw87 => ?_) (fun a88 x90 w87 hrw87 hw87 => ?_)
 have hBew87 := Touch.trans hB86 (Touch.mono hw87 hB86.size)
 exact pn_is (EndsV.err k89 (by rw [hX, if_neg oO, if_neg (fun e => e (by rw [hg1, show l[t + 1] = 60 from u8_eq (d := 60) aS])), if_neg oO, hrw87]) hBew87)
 have hrr := hrw87
 obtain ⟨oX, tX⟩ := a88
 obtain ⟨x1, rfl, hpx, hrd1, hT1⟩ := hw87
 have hpx1 := hpx.mono (T := fun k => b1 < k ∧ w.heap.size ≤ k) (fun k hk _ => by have h1 := (hk84).lt; have h2 := hB86.size; omega)
 have hk11 := Blk.touch hk84 hT1 (hk84).lt oO
 have hB1 := Touch.trans hB86 (Touch.mono hT1 hB86.size)
 have hr1 := hrd1.1
 have hv1 := hrd1.2
 refine WL.stL rfl rfl hk11 isz28 rfl rfl (fun w91 hkw91 huw91 hsw91 => ?_)
 have hF92 := PRep.same (w1 := w91) hpx1 (fun k hk hl => huw91.other k (by first | ((try simp only) <;> omega) | (have := hk.1; ((try simp only) <;> omega))))
 have hk93 := hr1.upd huw91 oM
 have hv94 := bup hv1 huw91 hvl5
 have hB95 := Touch.trans hB1 (Touch.of_new huw91 oO)
 refine WL.nil <| ?_
 refine W.ret (W.retc1 rfl rfl (ldRow hkw91 underlying28 rfl isz28)  ?_)
 exact EndsV.ok (oX, tX) _ (by rw [hX, if_neg oO, if_neg (fun e => e (by rw [hg1, show l[t + 1] = 60 from u8_eq (d := 60) aS])), if_neg oO, hrr]) rfl ⟨x1, rfl, (hF92).mono (fun k hk _ => hk.2), ⟨hk93, hv94⟩, hB95⟩
 have h56' := dF h56
 have h60 : l[t] ≠ 60 := u8_ne (d := 60) aS
 rw [if_neg h60] at hX
 refine W.skip <| W.sr <| WL.m rfl rfl <| WL.c1 hb86 rfl rfl ((hWc _ ⟨hk8, hv10⟩)) (fun w96 hw96 => ?_)
 have hk97 := hw96.1.1
 have hk98 := Blk.touch hk9 hw96.2 hk9.lt oO
 have hv99 := hw96.1.2
 have hB100 := Touch.trans hB11 (Touch.mono hw96.2 hB11.size)
 refine WL.m rfl rfl <| WL.p (.ext rfl rfl) rfl <| WL.p (.ext rfl rfl) rfl <| WL.p (.ext rfl rfl) rfl <| WL.alloc zeroValue28 rfl (fun b101 wb101 eb101 hkb101 hub101 hsb101 => ?_)
 have hl103 : r < b101 := by rw [eb101]; exact hk97.lt
 have hk102 := hk97.upd hub101 (Nat.ne_of_lt hl103)
 have hl105 : b1 < b101 := by rw [eb101]; exact hk98.lt
 have hk104 := hk98.upd hub101 (Nat.ne_of_lt hl105)
 have hvl107 := fun h0 => eb101 ▸ hv99.lt h0
 have hv106 := bup hv99 hub101 hvl107
 have hgeb101 : w.heap.size ≤ b101 := by rw [eb101]; exact hB100.size
 have hB108 := Touch.trans hB100 (Touch.of_new hub101 hgeb101)
 refine WL.stL rfl rfl hkb101 isz28 rfl rfl (fun w109 hkw109 huw109 hsw109 => ?_)
 have hk110 := hk102.up huw109
 have hk111 := hk104.up huw109
 have hv112 := bup hv106 huw109 hvl107
 have hB113 := Touch.trans hB108 (Touch.of_new huw109 oO)
 refine WL.a rfl rfl <| WL.z rfl rfl ?_
 refine W.seq <| W.sr <| WL.m rfl rfl <| WL.p (.not rfl) rfl <| WL.nil <| ?_
 refine W.cond rfl (fun h114 => ?_) (fun h114 => ?_)
 have h114' := (nT h114)
 refine W.reg <| WL.cp hb82 rfl ((plex_fail 23 _)) (fun w115 hw115 => ?_)
 obtain rfl := hw115
 exact pn_is (EndsV.err 23 (by rw [hX]; unfold plainO; rw [if_neg (bF aS)]) hB113)
 have h114' := (nF h114)
 refine W.skip <| W.sr <| WL.r (Rd.ldA rfl hkw109 underlying28 rfl isz28) rfl <| WL.stL rfl rfl hk111 isz28 rfl rfl (fun w116 hkw116 huw116 hsw116 => ?_)
 have hk117 := hk110.up huw116
 have hv119 := bup hv112 huw116 hvl5
 have hB120 := Touch.trans hB113 (Touch.of_new huw116 oO)
 refine WL.nil <| ?_
 refine W.ret (W.retc1 rfl rfl (ldRow hkw116 underlying28 rfl isz28)  ?_)
 exact EndsV.ok (pv0 Wd.kind Wd.n [], Wd.np) _ (by rw [hX]; unfold plainO; rw [if_pos aS]) rfl ⟨pc0 Wd.kind Wd.n [], rfl, PRep.zero _ _ _ _ _, ⟨hk117, hv119⟩, hB120⟩
end
section
/-- the number that digits write -/
def valD : List Nat → Nat
 | [] => 0
 | x :: r => x * 10 ^ r.length + valD r
theorem valD_lt (d : List Nat) (h : ∀ x ∈ d, x < 10) : valD d < 10 ^ d.length := by
 induction d with
 | nil => simp [valD]
 | cons x r ih =>
  have h1 := ih fun y hy => h y (by simp [hy])
  have h2 := h x (by simp)
  rw [valD, List.length_cons, Nat.pow_succ]
  have h3 : x * 10 ^ r.length ≤ 9 * 10 ^ r.length := Nat.mul_le_mul_right _ oO
  omega
theorem valD_append (a b : List Nat) : valD (a ++ b) = valD a * 10 ^ b.length + valD b := by
 induction a with
 | nil => simp [valD]
 | cons x r ih =>
  rw [List.cons_append, valD, valD, ih, List.length_append, Nat.pow_add, Nat.add_mul, Nat.mul_assoc, Nat.add_assoc]
theorem valD_zeros (k : Nat) : valD (List.replicate k 0) = 0 := by
 induction k with
 | zero => rfl
 | succ k ih => rw [List.replicate_succ, valD, ih]; simp
theorem dbl_val (d : List Nat) : valD (dbl d).1 + (dbl d).2 * 10 ^ d.length = 2 * valD d := by
 induction d with
 | nil => rfl
 | cons x r ih =>
  have hl := dbl_len r
  simp only [dbl, valD, hl, List.length_cons, Nat.pow_succ]
  have h1 : (2 * x + (dbl r).2) % 10 + 10 * ((2 * x + (dbl r).2) / 10) = 2 * x + (dbl r).2 := Nat.mod_add_div _ _
  have h2 : ((2 * x + (dbl r).2) % 10) * 10 ^ r.length + (2 * x + (dbl r).2) / 10 * (10 ^ r.length * 10) = (2 * x + (dbl r).2) * 10 ^ r.length := by
   conv => rhs; rw [← h1, Nat.add_mul]
   rw [Nat.mul_comm (10 ^ r.length) 10, ← Nat.mul_assoc, Nat.mul_comm _ 10]
  have h3 : (2 * x + (dbl r).2) * 10 ^ r.length = 2 * (x * 10 ^ r.length) + (dbl r).2 * 10 ^ r.length := by rw [Nat.add_mul, Nat.mul_assoc]
  omega
theorem rounds_len (k : Nat) : ∀ (n : Int) (d : List Nat), (rounds k n d).2.length = d.length := by
 induction k with
 | zero => intro n d; rfl
 | succ k ih => intro n d; rw [rounds, ih, dbl_len]
theorem rounds_val (k : Nat) : ∀ (n : Nat) (d : List Nat), ∃ m : Nat, (rounds k (n : Int) d).1 = (m : Int) ∧ m * 10 ^ d.length + valD (rounds k (n : Int) d).2 = 2 ^ k * (n * 10 ^ d.length + valD d) := by
 induction k with
 | zero => intro n d; exact ⟨n, rfl, by simp [rounds]⟩
 | succ k ih =>
  intro n d
  obtain ⟨m, h1, h2⟩ := ih (2 * n + (dbl d).2) (dbl d).1
  rw [dbl_len] at h2
  have hv := dbl_val d
  have hc : ((2 * n + (dbl d).2 : Nat) : Int) = 2 * (n : Int) + ((dbl d).2 : Int) := by omega
  rw [rounds, ← hc]
  refine ⟨m, h1, h2.trans ?_⟩
  rw [Nat.pow_succ, Nat.mul_assoc]
  congr 1
  rw [Nat.add_mul, Nat.mul_assoc]
  omega
theorem natOf_valD (l : List UInt8) : natOf l = valD (digitsOf l) := by
 have key : ∀ (l : List UInt8) (n : Nat), l.foldl (fun n c => 10 * n + (c.toNat - 48)) n = n * 10 ^ l.length + valD (digitsOf l) := by
  intro l
  induction l with
  | nil => intro n; simp [digitsOf, valD]
  | cons c r ih =>
   intro n
   have hl : (digitsOf r).length = r.length := digitsOf_len r
   have hd : digitsOf (c :: r) = (c.toNat - 48) :: digitsOf r := rfl
   rw [List.foldl_cons, ih, hd, valD, hl, List.length_cons, Nat.pow_succ, Nat.add_mul, Nat.mul_comm 10 n, Nat.mul_assoc, Nat.mul_comm 10 (10 ^ r.length), Nat.add_assoc]
 have := key l 0
 rw [Nat.zero_mul, Nat.zero_add] at this
 exact this
/-- digits behind the point that are exactly so many of 65536 -/
theorem rawL_exact (W R : List UInt8) (N f : Nat) (hW : ∀ c ∈ W, isDig c = true) (hN : natOf W = N) (hN5 : N ≤ 99999) (hR : ∀ c ∈ R, isDig c = true) (hv : valD (digitsOf R) * 65536 = f * 10 ^ R.length) :
  rawL W R = some ((N * 65536 + f : Nat) : Int) := by
 have ht : ¬ 5 < (W.dropWhile (· == 48)).length := fun h => by have := (trim_long W hW).1 h; omega
 unfold rawL
 rw [if_neg ht, natOf_trim, hN]
 obtain ⟨m, h1, h2⟩ := rounds_val 16 N (digitsOf R)
 have hd := rounds_digits 16 (N : Int) (digitsOf R) (digitsOf_lt R hR)
 have hl := rounds_len 16 (N : Int) (digitsOf R)
 have hlt := valD_lt _ hd
 rw [digitsOf_len] at h2 hl
 rw [hl] at hlt
 have hv2 := dbl_val (rounds 16 (N : Int) (digitsOf R)).2
 rw [hl] at hv2
 generalize (rounds 16 (N : Int) (digitsOf R)).2 = D at *
 generalize hP : 10 ^ R.length = P at *
 have hP0 : 0 < P := by rw [← hP]; exact Nat.pow_pos dD
 have e : m * P + valD D = (N * 65536 + f) * P := by
  rw [h2, Nat.add_mul, ← hv]
  have : (2 : Nat) ^ 16 = 65536 := by decide
  rw [this, Nat.mul_add, ← Nat.mul_assoc, Nat.mul_comm 65536 N, Nat.mul_comm 65536 (valD _)]
 have hm : m = N * 65536 + f := by
  have a : (m * P + valD D) / P = m := by rw [Nat.mul_comm, Nat.mul_add_div hP0, Nat.div_eq_of_lt hlt]; rfl
  have b : ((N * 65536 + f) * P) / P = N * 65536 + f := Nat.mul_div_cancel _ hP0
  rw [← a, e, b]
 have hD : valD D = 0 := by rw [hm] at e; omega
 have hc : (dbl D).2 = 0 := by
  rw [hD] at hv2
  rcases Nat.eq_zero_or_pos (dbl D).2 with h | h
  ·
   exact h
  ·
   have := Nat.mul_le_mul_right P h; omega
 rw [h1, hc, hm, Int.natCast_zero, Int.add_zero]
theorem isDig_ch (k : Nat) (h : k < 10) : isDig (ch (48 + (k : Int))) = true ∧ (ch (48 + (k : Int))).toNat = 48 + k := by
 have e : (ch (48 + (k : Int))).toNat = 48 + k := by
  unfold ch
  rw [show (48 + (k : Int)).toNat = 48 + k by omega, UInt8.toNat_ofNat']
  omega
 exact ⟨by unfold isDig; rw [e, decide_eq_true (show 48 ≤ 48 + k by omega), decide_eq_true (show 48 + k ≤ 57 by omega)]; rfl, e⟩
theorem fracK_val (k : Nat) : ∀ f : Nat, k ≤ 16 → f < 65536 → 2 ^ (16 - k) ∣ f → (∀ c ∈ fracK k f, isDig c = true) ∧ valD (digitsOf (fracK k f)) * 65536 = f * 10 ^ (fracK k f).length := by
 induction k with
 | zero =>
  intro f _ hf hd
  obtain ⟨c, hc⟩ := hd
  have : f = 0 := by simp at hc; omega
  subst this
  exact ⟨by simp [fracK], by simp [fracK, digitsOf, valD]⟩
 | succ k ih =>
  intro f hk hf hd
  rw [fracK]
  split
  ·
   next h => subst h; exact ⟨by simp, by simp [digitsOf, valD]⟩
  ·
   have h1 : 2 ^ (16 - k) ∣ f * 10 := by
    have e : 16 - k = (16 - (k + 1)) + 1 := by omega
    rw [e, Nat.pow_succ]
    exact Nat.mul_dvd_mul hd ⟨5, rfl⟩
   have h2 : 2 ^ (16 - k) ∣ 65536 := by
    rw [show (65536 : Nat) = 2 ^ 16 from rfl]
    exact Nat.pow_dvd_pow 2 oO
   obtain ⟨i1, i2⟩ := ih (f * 10 % 65536) oO oO ((Nat.dvd_mod_iff h2).2 h1)
   obtain ⟨c1, c2⟩ := isDig_ch (f * 10 / 65536) oO
   refine ⟨fun c hc => ?_, ?_⟩
   ·
    rcases List.mem_cons.1 hc with rfl | hc
    ·
     exact c1
    ·
     exact i1 c hc
   ·
    have hd2 : digitsOf (ch (48 + ((f * 10 / 65536 : Nat) : Int)) :: fracK k (f * 10 % 65536)) = (f * 10 / 65536) :: digitsOf (fracK k (f * 10 % 65536)) := by
     show (_ - 48) :: _ = _
     rw [c2]; congr 1; omega
    rw [hd2, valD, digitsOf_len, List.length_cons, Nat.pow_succ]
    generalize valD (digitsOf (fracK k (f * 10 % 65536))) = V at *
    generalize 10 ^ (fracK k (f * 10 % 65536)).length = P at *
    have hm := Nat.mod_add_div (f * 10) 65536
    generalize f * 10 % 65536 = r at *
    generalize f * 10 / 65536 = q at *
    rw [Nat.add_mul, i2, Nat.mul_comm P 10, ← Nat.mul_assoc, ← hm, Nat.add_mul, Nat.mul_right_comm, Nat.mul_comm q 65536]
    omega
theorem fracL_val (f : Nat) (h : f < 65536) : (∀ c ∈ fracL f, isDig c = true) ∧ valD (digitsOf (fracL f)) * 65536 = f * 10 ^ (fracL f).length :=
 fracK_val 16 f oO h (by simp)
theorem digitsL_val (n : Nat) : (∀ c ∈ digitsL n, isDig c = true) ∧ natOf (digitsL n) = n ∧ digitsL n ≠ [] := by
  induction n using Nat.strongRecOn with
  | _ n ih =>
    by_cases h : n < 10
    · rw [digitsL_lt n h]
      obtain ⟨c1, c2⟩ := isDig_ch n h
      exact ⟨by simpa using c1, by simp [natOf, c2], by simp⟩
    · rw [digitsL_ge n oO]
      obtain ⟨i1, i2, i3⟩ := ih (n / 10) oO
      obtain ⟨c1, c2⟩ := isDig_ch (n % 10) oO
      refine ⟨fun c hc => ?_, ?_, by simp⟩
      · rcases List.mem_append.1 hc with hc | hc
        · exact i1 c hc
        · rw [List.mem_singleton.1 hc]; exact c1
      · rw [natOf_snoc, i2, c2]; omega
/-- digits, then noughts -/
theorem digitsOf_append (a b : List UInt8) : digitsOf (a ++ b) = digitsOf a ++ digitsOf b := by simp [digitsOf]
theorem digitsOf_zeros (k : Nat) : digitsOf (List.replicate k 48) = List.replicate k 0 := by simp [digitsOf]
theorem val_zeros (R : List UInt8) (f k : Nat) (h : valD (digitsOf R) * 65536 = f * 10 ^ R.length) : valD (digitsOf (R ++ List.replicate k 48)) * 65536 = f * 10 ^ (R ++ List.replicate k 48).length := by
 rw [digitsOf_append, digitsOf_zeros, valD_append, valD_zeros, Nat.add_zero, List.length_append, List.length_replicate, List.length_replicate, Nat.pow_add, ← Nat.mul_assoc, ← h, Nat.mul_right_comm]
theorem natOf_zeros (k : Nat) (W : List UInt8) : natOf (List.replicate k 48 ++ W) = natOf W := by
 rw [natOf_valD, natOf_valD, digitsOf_append, digitsOf_zeros, valD_append, valD_zeros, Nat.zero_mul, Nat.zero_add]
theorem dig_zeros (k : Nat) (c : UInt8) (h : c ∈ List.replicate k (48 : UInt8)) : isDig c = true := by
 rw [List.mem_replicate] at h; rw [h.2]; rfl
/-- a sign, or none -/
def sgn (m : Option Bool) : List UInt8 := match m with | none => [] | some true => [45] | some false => [43]
def neg (m : Option Bool) : Bool := match m with | some true => true | _ => false
theorem signedL_sgn (m : Option Bool) (l : List UInt8) (h : ∀ c r, l = c :: r → isDig c = true) : signedL (sgn m ++ l) = (neg m, l) := by
 match m with
 | some true => rfl
 | some false => rfl
 | none =>
  cases l with
  | nil => rfl
  | cons c r => exact signedL_dig c r (h c r rfl)
theorem head_dig (W X : List UInt8) (hW : ∀ c ∈ W, isDig c = true) (h0 : W ≠ []) : ∀ c r, W ++ X = c :: r → isDig c = true := by
 intro c r e
 cases W with
 | nil => exact absurd rfl h0
 | cons d W =>
  simp only [List.cons_append, List.cons.injEq] at e
  rw [← e.1]; exact hW d (by simp)
theorem notdot (W : List UInt8) (hW : ∀ c ∈ W, isDig c = true) : 46 ∉ W := fun h => absurd (hW 46 h) dD
theorem mant_dot (W R : List UInt8) (hW : ∀ c ∈ W, isDig c = true) (hR : ∀ c ∈ R, isDig c = true) (h0 : W ≠ []) : mantOk (W ++ 46 :: R) = true := by
 have hl : 0 < W.length := List.length_pos_iff.2 h0
 unfold mantOk
 rw [cutDot_yes R W (notdot W hW)]
 simp only [Bool.and_eq_true, List.all_eq_true, decide_eq_true_eq]
 exact ⟨⟨hW, hR⟩, by omega⟩
/-- the number of digits with a point -/
theorem parseL_dot (m : Option Bool) (W R : List UInt8) (N f : Nat) (hW : ∀ c ∈ W, isDig c = true) (h0 : W ≠ []) (hR : ∀ c ∈ R, isDig c = true) (hN : natOf W = N) (hN5 : N ≤ 99999)
  (hv : valD (digitsOf R) * 65536 = f * 10 ^ R.length) (hfit : fitsB (if neg m then -((N * 65536 + f : Nat) : Int) else ((N * 65536 + f : Nat) : Int)) = true) :
  parseL (sgn m ++ (W ++ 46 :: R)) = (if neg m then -((N * 65536 + f : Nat) : Int) else ((N * 65536 + f : Nat) : Int), true) := by
 rw [parseL_eq, signedL_sgn m _ (head_dig W _ hW h0)]
 simp only
 rw [mant_dot W R hW hR h0, if_pos rfl, cutDot_yes R W (notdot W hW)]
 simp only
 rw [rawL_exact W R N f hW hN hN5 hR hv]
 unfold signL2
 simp only [hfit, if_true]
/-- a number's sign and its two parts -/
theorem signL_sgn (n : Int) : signL n = sgn (if n < 0 then some true else none) := by unfold signL sgn; split <;> rfl
theorem neg_of (n : Int) : (if neg (if n < 0 then some true else none) then -((n.natAbs / 65536 * 65536 + n.natAbs % 65536 : Nat) : Int) else ((n.natAbs / 65536 * 65536 + n.natAbs % 65536 : Nat) : Int)) = n := by
 have h : n.natAbs / 65536 * 65536 + n.natAbs % 65536 = n.natAbs := by omega
 rw [h]
 by_cases hn : n < 0
 ·
  rw [if_pos hn]; simp only [neg, if_true]; omega
 ·
  rw [if_neg hn]; simp only [neg, Bool.false_eq_true, if_false]; omega
theorem realL_form (n : Int) : ∃ R, realL n = sgn (if n < 0 then some true else none) ++ (wholeL n ++ 46 :: R) ∧ R ≠ [] ∧ R.length ≤ 16 ∧ (∀ c ∈ R, isDig c = true) ∧ valD (digitsOf R) * 65536 = (n.natAbs % 65536) * 10 ^ R.length := by
  obtain ⟨h1, h2⟩ := fracL_val (n.natAbs % 65536) oO
  unfold realL
  rw [signL_sgn]
  by_cases h0 : restL n = []
  · refine ⟨[48], by rw [if_pos h0]; simp, by simp, by simp, by simp; decide, ?_⟩
    rw [(restL_iff n).1 h0]; simp [digitsOf, valD]
  · refine ⟨restL n, by rw [if_neg h0]; simp, h0, fracL_len _, h1, h2⟩
theorem wholeL_facts (n : Int) (h1 : -2147483648 ≤ n) (h2 : n ≤ 2147483647) : (∀ c ∈ wholeL n, isDig c = true) ∧ wholeL n ≠ [] ∧ natOf (wholeL n) = n.natAbs / 65536 ∧ n.natAbs / 65536 ≤ 99999 ∧ (wholeL n).length ≤ 5 := by
 obtain ⟨a, b, c⟩ := digitsL_val (n.natAbs / 65536)
 exact ⟨a, c, b, by omega, digitsL_len 4 _ oO⟩
/-- what dec.PrintReal writes, with noughts ahead and behind, and with a sign of whatever kind -/
theorem parse_real (m : Option Bool) (n : Int) (a k : Nat) (h1 : -2147483648 ≤ n) (h2 : n ≤ 2147483647) (R : List UInt8) (hR : ∀ c ∈ R, isDig c = true) (hv : valD (digitsOf R) * 65536 = (n.natAbs % 65536) * 10 ^ R.length) (hm : neg m = decide (n < 0)) :
  parseL (sgn m ++ ((List.replicate a 48 ++ wholeL n) ++ 46 :: (R ++ List.replicate k 48))) = (n, true) := by
 obtain ⟨w1, w2, w3, w4, w5⟩ := wholeL_facts n h1 h2
 have hn : (if neg m then -((n.natAbs / 65536 * 65536 + n.natAbs % 65536 : Nat) : Int) else ((n.natAbs / 65536 * 65536 + n.natAbs % 65536 : Nat) : Int)) = n := by
  have := neg_of n
  rw [hm]
  by_cases h : n < 0
  ·
   rw [if_pos h] at this; rw [decide_eq_true h]; exact this
  ·
   rw [if_neg h] at this; rw [decide_eq_false h]; exact this
 rw [parseL_dot m _ _ (n.natAbs / 65536) (n.natAbs % 65536) (fun c hc => (List.mem_append.1 hc).elim (dig_zeros a c) (w1 c)) (by simp [w2]) (fun c hc => (List.mem_append.1 hc).elim (hR c) (dig_zeros k c)) (by rw [natOf_zeros, w3]) w4 (val_zeros R _ k hv) (by rw [hn]; exact fitsB_yes h1 h2), hn]
end
section
/-- an object with its data -/
inductive AV where
 | mk (kind n : Int) (text : List UInt8) (keys : List (List UInt8)) (list : List AV) (data : List UInt8)
def AV.kind : AV → Int | .mk k _ _ _ _ _ => k
def AV.n : AV → Int | .mk _ n _ _ _ _ => n
def AV.text : AV → List UInt8 | .mk _ _ t _ _ _ => t
def AV.keys : AV → List (List UInt8) | .mk _ _ _ ks _ _ => ks
def AV.list : AV → List AV | .mk _ _ _ _ l _ => l
def AV.data : AV → List UInt8 | .mk _ _ _ _ _ d => d
mutual
/-- an object without its data -/
def pvO : AV → PV
 | .mk k n t ks l _ => .mk k n t ks (pvL l)
def pvL : List AV → List PV
 | [] => []
 | o :: r => pvO o :: pvL r
end
theorem pvL_map : ∀ l : List AV, pvL l = l.map pvO
 | [] => by simp [pvL]
 | o :: r => by rw [pvL, pvL_map r]; rfl
/-- a byte of a name, as it is written -/
def needHash (c : UInt8) : Bool := decide (c.toNat < 33) || decide (126 < c.toNat) || c == 35 || delimB c
def nmE (c : UInt8) : List UInt8 := if needHash c then [35, hexDigits[c.toNat / 16]!, hexDigits[c.toNat % 16]!] else [c]
def nmT (s : List UInt8) : List UInt8 := 47 :: s.flatMap nmE
/-- a byte of a string, as it is written -/
def txE (c : UInt8) : List UInt8 := if c = 40 ∨ c = 41 ∨ c = 92 then [92, c] else if c.toNat < 32 ∨ 126 < c.toNat then octE c else [c]
def txT (s : List UInt8) : List UInt8 := 40 :: (s.flatMap txE ++ [41])
/-- a stream's end -/
def strmE (d : List UInt8) : List UInt8 := [32, 47, 76, 101, 110, 103, 116, 104, 32] ++ decL (d.length : Int) ++ [32, 62, 62, 10, 115, 116, 114, 101, 97, 109, 10] ++ d ++ [10, 101, 110, 100, 115, 116, 114, 101, 97, 109]
mutual
/-- an object as it is written -/
def prO : AV → List UInt8
 | .mk k n t ks l d =>
  if k = 0 then [110, 117, 108, 108]
  else if k = 1 then (if n = 1 then [116, 114, 117, 101] else [102, 97, 108, 115, 101])
  else if k = 2 then decL n
  else if k = 3 then realL (norm n)
  else if k = 4 then nmT t
  else if k = 5 then txT t
  else if k = 8 then decL n ++ [32, 48, 32, 82]
  else if k = 6 then 91 :: ((prB l).drop 1 ++ [93])
  else 60 :: 60 :: (prP ks l ++ (if k = 7 then [32, 62, 62] else strmE d))
/-- objects, each with a blank ahead -/
def prB : List AV → List UInt8
 | [] => []
 | o :: r => 32 :: (prO o ++ prB r)
/-- names and objects, each with a blank ahead -/
def prP : List (List UInt8) → List AV → List UInt8
 | k :: ks, o :: r => 32 :: (nmT k ++ 32 :: (prO o ++ prP ks r))
 | _, _ => []
end
theorem prB_append : ∀ a b : List AV, prB (a ++ b) = prB a ++ prB b
 | [], b => by simp [prB]
 | o :: r, b => by rw [List.cons_append, prB, prB, prB_append r b]; simp
theorem prB_snoc (a : List AV) (o : AV) : prB (a ++ [o]) = prB a ++ 32 :: prO o := by rw [prB_append]; simp [prB]
theorem prP_snoc : ∀ (ks : List (List UInt8)) (l : List AV) (k : List UInt8) (o : AV), ks.length = l.length → prP (ks ++ [k]) (l ++ [o]) = prP ks l ++ 32 :: (nmT k ++ 32 :: prO o)
 | [], [], k, o, _ => by simp [prP]
 | a :: ks, b :: l, k, o, h => by
  have := prP_snoc ks l k o (by simpa using h)
  simp only [List.cons_append, prP, this]
  simp
/-- may it be a name -/
def nmOk (s : List UInt8) : Prop := s ≠ [] ∧ 0 ∉ s ∧ s.length ≤ 127
/-- is an object sound, so deep at most, with streams, if so -/
inductive Snd : Int → Bool → AV → Prop
 | null (D : Int) (st : Bool) : Snd D st (.mk 0 0 [] [] [] [])
 | bool (D : Int) (st : Bool) (n : Int) (h : n = 0 ∨ n = 1) : Snd D st (.mk 1 n [] [] [] [])
 | num (D : Int) (st : Bool) (k n : Int) (hk : k = 2 ∨ k = 3) (h : fitsB n = true) : Snd D st (.mk k n [] [] [] [])
 | name (D : Int) (st : Bool) (t : List UInt8) (h : nmOk t) : Snd D st (.mk 4 0 t [] [] [])
 | text (D : Int) (st : Bool) (t : List UInt8) (h : t.length ≤ 65535) : Snd D st (.mk 5 0 t [] [] [])
 | ref (D : Int) (st : Bool) (n : Int) (h : 1 ≤ n ∧ n ≤ 4096) : Snd D st (.mk 8 n [] [] [] [])
 | arr (D : Int) (st : Bool) (l : List AV) (hD : 1 ≤ D) (hl : l.length ≤ 65535) (h : ∀ o ∈ l, Snd (D - 1) false o) : Snd D st (.mk 6 0 [] [] l [])
 | dict (D : Int) (st : Bool) (k : Int) (ks : List (List UInt8)) (l : List AV) (d : List UInt8) (hk : (k = 7 ∧ d = []) ∨ (k = 9 ∧ st = true ∧ d.length ≤ 1048576 ∧ [76, 101, 110, 103, 116, 104] ∉ ks)) (hD : 1 ≤ D) (hl : l.length ≤ 65535) (hkl : ks.length = l.length)
   (hn : ∀ x ∈ ks, nmOk x) (hnd : ks.Nodup) (h : ∀ o ∈ l, Snd (D - 1) false o) : Snd D st (.mk k 0 [] ks l d)
theorem snd_no9 {D : Int} {o : AV} (h : Snd D false o) : o.kind ≠ 9 := by
 cases h with
 | null => simp [AV.kind]
 | bool _ _ n h => simp [AV.kind]
 | num _ _ k n hk h => rcases hk with rfl | rfl <;> simp [AV.kind]
 | name _ _ t h => simp [AV.kind]
 | text _ _ t h => simp [AV.kind]
 | ref _ _ n h => simp [AV.kind]
 | arr _ _ l hD hl h => simp [AV.kind]
 | dict _ _ k ks l d hk hD hl hkl hn hnd h => rcases hk with ⟨rfl, -⟩ | ⟨-, h, -⟩; simp [AV.kind]; cases h
mutual
/-- how many lists are within one another -/
def dpO : AV → Nat
 | .mk k _ _ _ l _ => if k = 6 ∨ k = 7 then dpL l + 1 else 0
def dpL : List AV → Nat
 | [] => 0
 | o :: r => max (dpO o) (dpL r)
end
mutual
/-- how many values and letters -/
def bkO : AV → Nat
 | .mk _ _ t ks l d => t.length + bkK ks + bkL l + d.length + 7
def bkL : List AV → Nat
 | [] => 0
 | o :: r => bkO o + bkL r
def bkK : List (List UInt8) → Nat
 | [] => 0
 | k :: r => k.length + 1 + bkK r
end
theorem nmE_len (c : UInt8) : (nmE c).length ≤ 3 := by unfold nmE; split <;> simp
theorem txE_len (c : UInt8) : (txE c).length ≤ 4 := by unfold txE octE; split <;> (try split) <;> simp
theorem flat_len {f : UInt8 → List UInt8} {k : Nat} (hf : ∀ c, (f c).length ≤ k) : ∀ s : List UInt8, (s.flatMap f).length ≤ k * s.length
 | [] => by simp
 | c :: s => by
  have h1 := hf c; have h2 := flat_len hf s
  rw [List.flatMap_cons, List.length_append, List.length_cons, Nat.mul_add, Nat.mul_one]; omega
theorem decL_len (n : Int) (h : -9223372036854775808 ≤ n) (h' : n ≤ 9223372036854775807) : (decL n).length ≤ 21 := by
 have := decL_size n h h'
 rwa [bs_size] at this
theorem realL_len (n : Int) : (realL (norm n)).length ≤ 40 := by
 have h1 : (signL (norm n)).length ≤ 1 := by unfold signL; split <;> simp
 have h2 : (wholeL (norm n)).length ≤ 20 := by have := wholeL_size (norm n) (norm_lo n) (norm_hi n); rwa [bs_size] at this
 have h3 : (restL (norm n)).length ≤ 16 := fracL_len _
 unfold realL
 simp only [List.length_append, List.length_cons]
 split <;> simp <;> omega
theorem fitsB_i {n : Int} (h : fitsB n = true) : -2147483648 ≤ n ∧ n ≤ 2147483647 := by simpa [fitsB] using h
theorem norm_fits {n : Int} (h : fitsB n = true) : norm n = n := by unfold norm; rw [if_pos h]
theorem prB_len : ∀ l : List AV, (∀ o ∈ l, (prO o).length + 100 ≤ 40 * bkO o) → (prB l).length ≤ 40 * bkL l
 | [], _ => by simp [prB]
 | o :: r, h => by
  have h1 := h o (by simp)
  have h2 := prB_len r fun x hx => h x (by simp [hx])
  rw [prB, bkL, List.length_cons, List.length_append]; omega
theorem prP_len : ∀ (ks : List (List UInt8)) (l : List AV), (∀ o ∈ l, (prO o).length + 100 ≤ 40 * bkO o) → (prP ks l).length ≤ 40 * bkL l + 40 * bkK ks
 | k :: ks, o :: r, h => by
  have h1 := h o (by simp)
  have h2 := prP_len ks r fun x hx => h x (by simp [hx])
  have h3 := flat_len nmE_len k
  simp only [prP, bkL, bkK, nmT, List.length_cons, List.length_append]; omega
 | [], _, _ => by simp [prP]
 | _ :: _, [], _ => by simp [prP]
/-- what is written is no longer than so many times what there is -/
theorem pr_len {D : Int} {st : Bool} {o : AV} (h : Snd D st o) : (prO o).length + 100 ≤ 40 * bkO o := by
 induction h with
 | null D st => simp [prO, bkO, bkK, bkL]
 | bool D st n h => rcases h with rfl | rfl <;> simp [prO, bkO, bkK, bkL]
 | num D st k n hk h =>
  have hf := fitsB_i h
  have h1 := decL_len n oO oO
  have h2 := realL_len n
  rcases hk with rfl | rfl <;> simp [prO, bkO, bkK, bkL] <;> omega
 | name D st t h =>
  have h1 := flat_len nmE_len t
  have e : prO (.mk 4 0 t [] [] []) = nmT t := by simp [prO]
  rw [e, bkO, bkK, bkL]
  simp only [nmT, List.length_cons, List.length_nil]; omega
 | text D st t h =>
  have h1 := flat_len txE_len t
  have e : prO (.mk 5 0 t [] [] []) = txT t := by simp [prO]
  rw [e, bkO, bkK, bkL]
  simp only [txT, List.length_cons, List.length_append, List.length_nil]; omega
 | ref D st n h =>
  have h1 := decL_len n oO oO
  simp [prO, bkO, bkK, bkL]; omega
 | arr D st l hD hl h ih =>
  have h1 := prB_len l ih
  simp [prO, bkO, bkK]; omega
 | dict D st k ks l d hk hD hl hkl hn hnd h ih =>
  have h1 := prP_len ks l ih
  have h2 : d.length ≤ 1048576 := by rcases hk with ⟨-, rfl⟩ | h; simp; exact h.2.2.1
  have h3 := decL_len (d.length : Int) oO oO
  rcases hk with ⟨rfl, rfl⟩ | ⟨rfl, -⟩
  ·
   simp [prO, bkO]; omega
  ·
   simp [prO, bkO, strmE]; omega
end
section
theorem ObjC_all (p : Option Addr) (l : List UInt8) (c : Nat) (refs : Bool) (hc : l.length ≤ c) (hl : l.length ≤ 100000000) : ∀ (n : Nat) (D : Int), D.toNat ≤ n → -9223372036854775808 < D ∧ D ≤ 1000000000 → ObjC p l c refs D
 | 0, D, hn, hD => plex_object p l c refs hc hl D hD fun h => by omega
 | n + 1, D, hn, hD => plex_object p l c refs hc hl D hD fun h => ObjC_all p l c refs hc hl n (D - 1) oO oO
/-- the errors of objects -/
def Err3 (k : Int) : Prop := k = 23 ∨ k = 24 ∨ k = 25
theorem Err3.ne {k : Int} (h : Err3 k) : k ≠ 0 := by unfold Err3 at h; omega
theorem nameP_err {l : List UInt8} {t : Nat} {k : Int} (h : nameP l t = .error k) : Err3 k := by
 unfold nameP at h
 split at h
 ·
  cases h; exact .inl rfl
 ·
  split at h
  ·
   cases h; exact .inl rfl
  ·
   split at h
   ·
    cases h; exact .inr (.inr rfl)
   ·
    cases h
theorem textR_err {l : List UInt8} {t : Nat} {k : Int} (h : textR l t = .error k) : Err3 k := by
 unfold textR at h
 split at h
 ·
  cases h; exact .inr (.inl rfl)
 ·
  split at h
  ·
   cases h; exact .inr (.inr rfl)
  ·
   split at h
   ·
    cases h; exact .inl rfl
   ·
    cases h
theorem listP_err {obj : Nat → ObjE} {l : List UInt8} (hobj : ∀ t k, obj t = .error k → Err3 k) : ∀ (f : Nat) (acc : List PV) (t : Nat) (k : Int), listP obj l f acc t = .error k → Err3 k
 | 0, _, _, _, h => by cases h; exact .inr (.inl rfl)
 | f + 1, acc, t, k, h => by
  simp only [listP] at h
  split at h
  ·
   cases h; exact .inr (.inl rfl)
  ·
   split at h
   ·
    cases h
   ·
    split at h
    ·
     cases h; exact .inr (.inr rfl)
    ·
     split at h
     ·
      next ho => cases h; exact hobj _ _ ho
     ·
      exact listP_err hobj f _ _ _ h
theorem pairsP_err {obj : Nat → ObjE} {l : List UInt8} (hobj : ∀ t k, obj t = .error k → Err3 k) : ∀ (f : Nat) (ks : List (List UInt8)) (acc : List PV) (t : Nat) (k : Int), pairsP obj l f ks acc t = .error k → Err3 k
 | 0, _, _, _, _, h => by cases h; exact .inr (.inl rfl)
 | f + 1, ks, acc, t, k, h => by
  simp only [pairsP] at h
  split at h
  ·
   cases h; exact .inr (.inl rfl)
  ·
   split at h
   ·
    cases h; exact .inr (.inl rfl)
   ·
    split at h
    ·
     cases h
    ·
     split at h
     ·
      cases h; exact .inl rfl
     ·
      split at h
      ·
       next hn => cases h; exact nameP_err hn
      ·
       split at h
       ·
        cases h; exact .inl rfl
       ·
        split at h
        ·
         cases h; exact .inr (.inr rfl)
        ·
         split at h
         ·
          cases h; exact .inr (.inl rfl)
         ·
          split at h
          ·
           next ho => cases h; exact hobj _ _ ho
          ·
           exact pairsP_err hobj f _ _ _ _ h
theorem objP_err (refs : Bool) (l : List UInt8) : ∀ (d t : Nat) (k : Int), objP refs l d t = .error k → Err3 k := by
 have hname : ∀ t (k : Int), nameO l t = .error k → Err3 k := fun t k h => by
  unfold nameO at h
  split at h
  ·
   next hn => cases h; exact nameP_err hn
  ·
   cases h
 have htext : ∀ t (k : Int), textP l t = .error k → Err3 k := fun t k h => by
  unfold textP at h
  split at h
  ·
   next hn => cases h; exact textR_err hn
  ·
   cases h
 have hplain : ∀ t (k : Int), plainO (plexW refs l t) = .error k → Err3 k := fun t k h => by
  unfold plainO at h
  split at h
  ·
   cases h
  ·
   cases h; exact .inl rfl
 intro d
 induction d with
 | zero =>
  intro t k h
  simp only [objP] at h
  repeat' split at h
  all_goals first | exact hname _ _ h | exact htext _ _ h | exact hplain _ _ h | (cases h; first | exact .inl rfl | exact .inr (.inl rfl) | exact .inr (.inr rfl))
 | succ d ih =>
  have hlist : ∀ t (k : Int), listO (listP (objP refs l d) l (l.length + 1) [] t) = .error k → Err3 k := fun t k h => by
   unfold listO at h
   split at h
   ·
    next hn => cases h; exact listP_err ih _ _ _ _ hn
   ·
    cases h
  have hpairs : ∀ t (k : Int), pairsO (pairsP (objP refs l d) l (l.length + 1) [] [] t) = .error k → Err3 k := fun t k h => by
   unfold pairsO at h
   split at h
   ·
    next hn => cases h; exact pairsP_err ih _ _ _ _ _ hn
   ·
    cases h
  intro t k h
  simp only [objP] at h
  repeat' split at h
  all_goals first | exact hname _ _ h | exact htext _ _ h | exact hplain _ _ h | exact hlist _ _ h | exact hpairs _ _ h | (cases h; first | exact .inl rfl | exact .inr (.inl rfl) | exact .inr (.inr rfl))
end
section
/-- regular bytes end here -/
def Bnd (r : List UInt8) : Prop := ∀ c r', r = c :: r' → regB c = false
theorem Bnd.nil : Bnd [] := fun c r' h => by cases h
theorem Bnd.cons {c : UInt8} {r : List UInt8} (h : regB c = false) : Bnd (c :: r) := fun c' r' e => by cases e; exact h
theorem tw_app {A r : List UInt8} (hA : ∀ x ∈ A, regB x = true) (hr : Bnd r) : (A ++ r).takeWhile regB = A := by
 induction A with
 | nil =>
  cases r with
  | nil => rfl
  | cons c r => rw [List.nil_append, List.takeWhile_cons, hr c r rfl]; rfl
 | cons a A ih => rw [List.cons_append, List.takeWhile_cons, hA a (by simp), if_pos rfl, ih fun x hx => hA x (by simp [hx])]
theorem dw_app {A r : List UInt8} (hA : ∀ x ∈ A, regB x = true) (hr : Bnd r) : (A ++ r).dropWhile regB = r := by
 induction A with
 | nil =>
  cases r with
  | nil => rfl
  | cons c r => rw [List.nil_append, List.dropWhile_cons, hr c r rfl]; rfl
 | cons a A ih => rw [List.cons_append, List.dropWhile_cons, hA a (by simp), if_pos rfl, ih fun x hx => hA x (by simp [hx])]
section
variable {l : List UInt8} {t : Nat}
theorem word_at {A r : List UInt8} (ht : t ≤ l.length) (h : l.drop t = A ++ r) (hA : ∀ x ∈ A, regB x = true) (hr : Bnd r) : wordL l t = A ∧ wordAt l t = l.length - r.length ∧ l.drop (wordAt l t) = r := by
 have h1 : wordL l t = A := by rw [wordL_eq, h, tw_app hA hr]
 have hl := congrArg List.length h
 rw [List.length_drop, List.length_append] at hl
 have h2 : wordAt l t = t + A.length := by unfold wordAt; rw [h, tw_app hA hr]
 refine ⟨h1, by omega, ?_⟩
 rw [h2, ← List.drop_drop, h, List.drop_left]
theorem skip_at {x : List UInt8} (h : skipS false (l.drop t) = x) : skipAt false l t = l.length - x.length ∧ l.drop (skipAt false l t) = x := ⟨by unfold skipAt; rw [h], by rw [skipAt_drop, h]⟩
end
theorem skipS_stop {c : UInt8} {r : List UInt8} (h : blankB c = false) (h37 : c ≠ 37) : skipS false (c :: r) = c :: r := by simp [skipS, h, h37]
theorem skipS_32 (r : List UInt8) : skipS false (32 :: r) = skipS false r := by simp [skipS, blankB]
theorem all256 {q : UInt8 → Prop} [DecidablePred q] (key : ∀ n : Fin 256, q (UInt8.ofNat n.1)) (c : UInt8) : q c := by
 have h := key ⟨c.toNat, UInt8.toNat_lt c⟩
 have e : UInt8.ofNat (⟨c.toNat, UInt8.toNat_lt c⟩ : Fin 256).1 = c := UInt8.ofNat_toNat
 rw [e] at h
 exact h
theorem nmE_reg (c : UInt8) : ∀ x ∈ nmE c, regB x = true := all256 (q := fun c => ∀ x ∈ nmE c, regB x = true) (by decide +kernel) c
theorem nmE_dec (c : UInt8) : (needHash c = true → nmE c = [35, hexDigits[c.toNat / 16]!, hexDigits[c.toNat % 16]!] ∧ hexN hexDigits[c.toNat / 16]! < 16 ∧ hexN hexDigits[c.toNat % 16]! < 16 ∧ ch ((16 * hexN hexDigits[c.toNat / 16]! + hexN hexDigits[c.toNat % 16]! : Nat) : Int) = c) ∧ (needHash c = false → nmE c = [c] ∧ c ≠ 35) :=
 all256 (q := fun c => (needHash c = true → nmE c = [35, hexDigits[c.toNat / 16]!, hexDigits[c.toNat % 16]!] ∧ hexN hexDigits[c.toNat / 16]! < 16 ∧ hexN hexDigits[c.toNat % 16]! < 16 ∧ ch ((16 * hexN hexDigits[c.toNat / 16]! + hexN hexDigits[c.toNat % 16]! : Nat) : Int) = c) ∧ (needHash c = false → nmE c = [c] ∧ c ≠ 35)) (by decide +kernel) c
theorem decN_name : ∀ s : List UInt8, decN (s.flatMap nmE) = some s
 | [] => rfl
 | c :: s => by
  have ih := decN_name s
  have hd := nmE_dec c
  rw [List.flatMap_cons]
  cases hn : needHash c with
  | true =>
   obtain ⟨h1, h2, h3, h4⟩ := hd.1 hn
   rw [h1]
   show decN (35 :: hexDigits[c.toNat / 16]! :: hexDigits[c.toNat % 16]! :: s.flatMap nmE) = _
   rw [decN_cons, if_pos rfl]
   simp only
   rw [if_pos ⟨h2, h3⟩, ih, h4]; rfl
  | false =>
   obtain ⟨h1, h2⟩ := hd.2 hn
   rw [h1]
   show decN (c :: s.flatMap nmE) = _
   rw [decN_cons, if_neg h2, ih]; rfl
theorem name_reg (s : List UInt8) : ∀ x ∈ s.flatMap nmE, regB x = true := fun x hx => by
 obtain ⟨c, -, hc⟩ := List.mem_flatMap.1 hx
 exact nmE_reg c x hc
theorem nameP_at {l : List UInt8} {t : Nat} {s r : List UInt8} (ht : t ≤ l.length) (h : l.drop t = s.flatMap nmE ++ r) (hs : nmOk s) (hr : Bnd r) : nameP l t = .ok (s, l.length - r.length) := by
 obtain ⟨h1, h2, -⟩ := word_at ht h (name_reg s) hr
 unfold nameP
 rw [h1, decN_name]
 simp only
 rw [if_neg (fun h => h.elim hs.1 hs.2.1), if_neg (by have := hs.2.2; omega), h2]
theorem roundS_textE (c : UInt8) (o r : List UInt8) : roundS 1 o (txE c ++ r) = roundS 1 (o ++ [c]) r := by
 unfold txE
 split
 ·
  next h =>
  show roundS 1 o (92 :: c :: r) = _
  rw [roundS_92]
  have he : escS c r = ([c], r) := by rcases h with rfl | rfl | rfl <;> rfl
  rw [he]
 ·
  next h =>
  split
  ·
   show roundS 1 o (92 :: ch (48 + (c.toNat : Int) / 64) :: ch (48 + (c.toNat : Int) / 8 % 8) :: ch (48 + (c.toNat : Int) % 8) :: r) = _
   rw [roundS_92, esc_octE]
  ·
   next h2 =>
   exact roundS_plain _ _ _ _ (fun e => h (.inl e)) (fun e => h (.inr (.inl e))) (fun e => h (.inr (.inr e))) (fun e => by subst e; exact h2 (.inl dD))
theorem roundS_text : ∀ (s o r : List UInt8), roundS 1 o (s.flatMap txE ++ r) = roundS 1 (o ++ s) r
 | [], o, r => by simp
 | c :: s, o, r => by rw [List.flatMap_cons, List.append_assoc, roundS_textE, roundS_text s]; simp
theorem textR_at {l : List UInt8} {t : Nat} {s r : List UInt8} (ht : t ≤ l.length) (h : l.drop t = txT s ++ r) (hs : s.length ≤ 65535) : textR l t = .ok (s, l.length - r.length) := by
 have hl := congrArg List.length h
 have hN : nextR l (t : Int) = ⟨6, 0, s, ((l.length - r.length : Nat) : Int), 0⟩ := by
  unfold nextR
  rw [if_neg oO]
  rw [show (t : Int).toNat = t from rfl, h, show txT s ++ r = 40 :: (s.flatMap txE ++ (41 :: r)) by simp [txT], tokS_40, roundS_text, roundS_41, if_pos rfl]
  simp only [textS, List.nil_append]
  rw [if_neg oO]
  rfl
 unfold textR
 rw [hN]
 simp
/-- words of digits -/
theorem dec_form (n : Int) (h : fitsB n = true) : ∃ m : Option Bool, ∃ W : List UInt8, decL n = sgn m ++ W ∧ neg m = decide (n < 0) ∧ (∀ c ∈ W, isDig c = true) ∧ W ≠ [] ∧ natOf W = n.natAbs ∧ W.length ≤ 10 := by
 have hf := fitsB_i h
 obtain ⟨a, b, c⟩ := digitsL_val n.natAbs
 have hl := digitsL_len 9 n.natAbs oO
 unfold decL
 by_cases hn : n < 0
 ·
  exact ⟨some true, digitsL n.natAbs, by rw [if_pos hn]; rfl, by rw [decide_eq_true hn]; rfl, a, c, b, by omega⟩
 ·
  exact ⟨none, digitsL n.natAbs, by rw [if_neg hn]; rfl, by rw [decide_eq_false hn]; rfl, a, c, b, by omega⟩
theorem dig_reg (c : UInt8) (h : isDig c = true) : regB c = true := all256 (q := fun c => isDig c = true → regB c = true) (by decide +kernel) c h
theorem sgn_reg (m : Option Bool) : ∀ x ∈ sgn m, regB x = true := by
 match m with
 | none => exact fun x hx => by cases hx
 | some true => exact fun x hx => by simp [sgn] at hx; subst hx; decide
 | some false => exact fun x hx => by simp [sgn] at hx; subst hx; decide
theorem sgn_not (m : Option Bool) {x : UInt8} (h1 : x ≠ 45) (h2 : x ≠ 43) : x ∉ sgn m := by
 match m with
 | none => exact fun h => by cases h
 | some true => simp [sgn]; exact h1
 | some false => simp [sgn]; exact h2
theorem dec_reg (n : Int) (h : fitsB n = true) : ∀ x ∈ decL n, regB x = true := by
 obtain ⟨m, W, e, -, hW, -⟩ := dec_form n h
 rw [e]
 exact fun x hx => (List.mem_append.1 hx).elim (sgn_reg m x) fun hx => dig_reg x (hW x hx)
theorem dec_tok (n : Int) (h : fitsB n = true) : tokenL (decL n) = tokInt n := by
 obtain ⟨m, W, e, hm, hW, h0, hv, hl⟩ := dec_form n h
 have hf := fitsB_i h
 have hs : (sgn m).length ≤ 1 := by match m with
  | none => simp [sgn]
  | some true => simp [sgn]
  | some false => simp [sgn]
 have hr : radixOk (decL n) = false := by
  unfold radixOk
  rw [cutC_no 35 _ (by rw [e]; exact fun hx => (List.mem_append.1 hx).elim (sgn_not m dD dD) fun hx => absurd (hW 35 hx) dD)]
  rfl
 rw [tokenL_plain _ (by rw [e, List.length_append]; omega) hr]
 have hw : wholeT (decL n) = (n, true) := by
  unfold wholeT
  rw [e, signedL_sgn m W fun c r hc => hW c (by rw [hc]; simp)]
  simp only
  have h1 : (W.isEmpty || !W.all isDig) = false := by
   rw [List.all_eq_true.2 hW]
   cases W with
   | nil => exact absurd rfl h0
   | cons a b => rfl
  rw [h1]
  simp only [Bool.false_eq_true, if_false]
  rw [satOf_eq, hv, hm]
  have h2 : (min n.natAbs 1099511627776) = n.natAbs := by omega
  rw [h2]
  have h3 : (if decide (n < 0) = true then -(n.natAbs : Int) else (n.natAbs : Int)) = n := by
   by_cases hn : n < 0
   ·
    rw [decide_eq_true hn, if_pos rfl]; omega
   ·
    rw [decide_eq_false hn, if_neg dD]; omega
  rw [h3]
  simp [hf]
 rw [hw]; rfl
theorem dec_no46 (n : Int) (h : fitsB n = true) : (decL n).contains 46 = false := by
 obtain ⟨m, W, e, -, hW, -⟩ := dec_form n h
 cases hc : (decL n).contains 46 with
 | false => rfl
 | true =>
  rw [List.contains_iff_mem, e] at hc
  exact absurd hc fun hx => (List.mem_append.1 hx).elim (sgn_not m dD dD) fun hx => absurd (hW 46 hx) dD
theorem dec_pm (n : Int) (h : fitsB n = true) : (decL n).all pmDig = true := by
 obtain ⟨m, W, e, -, hW, -⟩ := dec_form n h
 rw [List.all_eq_true, e]
 intro x hx
 rcases List.mem_append.1 hx with hx | hx
 ·
  match m with
  | none => cases hx
  | some true => simp [sgn] at hx; subst hx; decide
  | some false => simp [sgn] at hx; subst hx; decide
 ·
  unfold pmDig; rw [hW x hx]; rfl
theorem numR_dec (n : Int) (h : fitsB n = true) : numR (decL n) = (2, n, true) := by
 unfold numR
 rw [dec_no46 n h, dec_tok n h, dec_pm n h]
 rfl
theorem real_facts (n : Int) (h : fitsB n = true) : parseP (realL n) = (n, true) ∧ (realL n).contains 46 = true ∧ (∀ x ∈ realL n, regB x = true) := by
 have hf := fitsB_i h
 obtain ⟨w1, w2, w3, w4, w5⟩ := wholeL_facts n hf.1 hf.2
 obtain ⟨R, e, r0, rl, hR, hv⟩ := realL_form n
 have hm : neg (if n < 0 then some true else none) = decide (n < 0) := by split <;> simp_all [neg]
 refine ⟨?_, ?_, ?_⟩
 ·
  unfold parseP
  have hs : (sgn (if n < 0 then some true else none)).length ≤ 1 := by split <;> simp [sgn]
  rw [if_neg (by rw [e]; simp only [List.length_append, List.length_cons]; omega), e]
  have := parse_real (if n < 0 then some true else none) n 0 0 hf.1 hf.2 R hR hv hm
  simpa using this
 ·
  rw [List.contains_iff_mem, e]; simp
 ·
  rw [e]
  intro x hx
  rcases List.mem_append.1 hx with hx | hx
  ·
   exact sgn_reg _ x hx
  ·
   rcases List.mem_append.1 hx with hx | hx
   ·
    exact dig_reg x (w1 x hx)
   ·
    rcases List.mem_cons.1 hx with rfl | hx
    ·
     decide
    ·
     exact dig_reg x (hR x hx)
/-- the first byte of a number -/
theorem dec_head (n : Int) (h : fitsB n = true) : ∃ c r, decL n = c :: r ∧ (isDig c = true ∨ c = 45 ∨ c = 43) := by
 obtain ⟨m, W, e, -, hW, h0, -⟩ := dec_form n h
 cases W with
 | nil => exact absurd rfl h0
 | cons a W =>
  match m with
  | none => exact ⟨a, W, e, .inl (hW a (by simp))⟩
  | some true => exact ⟨45, a :: W, e, .inr (.inl rfl)⟩
  | some false => exact ⟨43, a :: W, e, .inr (.inr rfl)⟩
theorem real_head (n : Int) (h : fitsB n = true) : ∃ c r, realL n = c :: r ∧ (isDig c = true ∨ c = 45 ∨ c = 43) := by
 have hf := fitsB_i h
 obtain ⟨w1, w2, -⟩ := wholeL_facts n hf.1 hf.2
 obtain ⟨R, e, -⟩ := realL_form n
 by_cases hn : n < 0
 ·
  rw [if_pos hn] at e; exact ⟨45, _, e, .inr (.inl rfl)⟩
 ·
  rw [if_neg hn] at e
  cases hw : wholeL n with
  | nil => exact absurd hw w2
  | cons a W => rw [hw] at e; exact ⟨a, _, e, .inl (w1 a (by rw [hw]; simp))⟩
end
section
theorem digc_reg {c : UInt8} (h : 48 ≤ c.toNat ∧ c.toNat ≤ 57) : regB c = true :=
 all256 (q := fun c => 48 ≤ c.toNat ∧ c.toNat ≤ 57 → regB c = true) (by decide +kernel) c h
theorem reg_skip {c : UInt8} (h : regB c = true) : blankB c = false ∧ c ≠ 37 :=
 all256 (q := fun c => regB c = true → blankB c = false ∧ c ≠ 37) (by decide +kernel) c h
theorem skipS_blanks : ∀ (B : List UInt8) (x : List UInt8), (∀ c ∈ B, blankB c = true) → skipS false (B ++ x) = skipS false x
 | [], _, _ => rfl
 | c :: B, x, h => by
  have hc := h c (by simp)
  have h37 : c ≠ 37 := fun e => by subst e; revert hc; decide
  rw [List.cons_append, ← skipS_blanks B x fun d hd => h d (by simp [hd])]
  simp [skipS, hc, h37]
/-- the next word, behind blanks -/
theorem nw_at {l : List UInt8} {t : Nat} {B A r : List UInt8} (h : l.drop t = B ++ (A ++ r)) (hB : ∀ c ∈ B, blankB c = true) (hA : A ≠ []) (hAr : ∀ c ∈ A, regB c = true) (hr : Bnd r) :
  wordL l (skipAt false l t) = A ∧ wordAt l (skipAt false l t) = l.length - r.length ∧ l.drop (wordAt l (skipAt false l t)) = r ∧ skipAt false l t < l.length := by
 obtain ⟨c, A', rfl⟩ := List.exists_cons_of_ne_nil hA
 have hc := reg_skip (hAr c (by simp))
 have hs : skipS false (l.drop t) = (c :: A') ++ r := by rw [h, skipS_blanks B _ hB, List.cons_append, skipS_stop hc.1 hc.2]
 obtain ⟨h1, h2⟩ := skip_at hs
 have h3 := word_at (skipAt_le false l t) h2 hAr hr
 refine ⟨h3.1, h3.2.1, h3.2.2, ?_⟩
 rw [h1]
 have h4 := congrArg List.length h2
 rw [List.length_drop] at h4
 simp only [List.length_append, List.length_cons] at h4 ⊢
 omega
theorem dig_ne (n : Nat) : digitsL n ≠ [] := by
 by_cases h : n < 10
 ·
  rw [digitsL_lt n h]; simp
 ·
  rw [digitsL_ge n oO]; simp
theorem digc_regs (n : Nat) : ∀ c ∈ digitsL n, regB c = true := fun c hc => digc_reg (digit_all n c hc)
theorem Bnd.blank {c : UInt8} {r : List UInt8} (h : blankB c = true) : Bnd (c :: r) := Bnd.cons (by simp [regB, h])
/-- an entry's parts -/
theorem entry_at {l : List UInt8} {t n : Nat} {r : List UInt8} (hn : n < 10000000000) (h : l.drop t = entryF n ++ r) :
  t + 20 ≤ l.length ∧ (l.drop t).take 10 = tenL n ∧ ((l.drop t).drop 10).take 10 = f_used ∧ l.drop (t + 20) = r := by
 have h10 := tenL_len hn
 have hlen := congrArg List.length h
 rw [List.length_drop, List.length_append, entryF_len hn] at hlen
 refine ⟨by omega, ?_, ?_, ?_⟩
 ·
  rw [h, entryF, List.append_assoc, ← h10, List.take_left]
 ·
  rw [h, entryF, List.append_assoc, ← h10, List.drop_left, h10]; rfl
 ·
  rw [← List.drop_drop, h, ← entryF_len hn, List.drop_left]
end
section
open Go.RowKit Go.ChangeMaps Go.MapKept
/-- block b is a map[int]int of at most n entries: g what it holds, c how many -/
structure MapI (P : Program) (k e : TypeId) (w : World) (b n : Nat) (g : Int → Option Int) (c : Nat) : Prop where
 ex : ∃ D : DataW Unit, w.ownsMap P k (plainElem P e) b n D ∧ Maps.size D = c ∧ ∀ a, (Lit.int .i64 a).wf = true → Maps.has D (.int .i64 a) = (g a).isSome ∧ D.atKey (.int .i64 a) (.lit (.int .i64 0)) = .lit (.int .i64 ((g a).getD 0))
section
variable {P : Program} {k e t : TypeId} {w w1 : World} {b n c : Nat} {g : Int → Option Int}
theorem MapI.lt (h : MapI P k e w b n g c) : b < w.heap.size := by obtain ⟨D, h1, -⟩ := h.ex; exact h1.lt
theorem MapI.same (h : MapI P k e w b n g c) (hs : ∀ j, j = b → j < w.heap.size → w1.heap[j]? = w.heap[j]?) : MapI P k e w1 b n g c := by
 obtain ⟨D, ⟨es, clock, h1, h2⟩, h3⟩ := h.ex
 exact ⟨D, ⟨es, clock, (hs b rfl (Array.getElem?_eq_some_iff.1 h1).1).trans h1, h2⟩, h3⟩
theorem MapI.below {B : Nat} (h : MapI P k e w b n g c) (hb : Below B w w1) (hl : b < B) : MapI P k e w1 b n g c := h.same fun j hj _ => by rw [hj]; exact hb.block b hl
theorem MapI.upd {d : Nat} (h : MapI P k e w b n g c) (hu : Upd d w w1) (hne : b ≠ d) : MapI P k e w1 b n g c := h.same fun j hj _ => by rw [hj]; exact hu.other b hne
theorem MapI.drew (h : MapI P k e w b n g c) (d : Drew w w1) : MapI P k e w1 b n g c := by obtain ⟨m, rfl⟩ := d; exact h.same fun _ _ _ => rfl
theorem MapI.len (h : MapI P k e w b n g c) : c ≤ n := by obtain ⟨D, h1, h2, -⟩ := h.ex; rw [← h2]; exact h1.size_le
theorem MapI.made (w : World) : MapI P k e (w.alloc (.map #[] 0)) w.heap.size 0 (fun _ => none) 0 :=
 ⟨.map [], World.ownsMap_made w P k _, rfl, fun a _ => ⟨rfl, rfl⟩⟩
theorem MapI.look (h : MapI P k e w b n g c) (ok : Bool) (hk : P.underlying k = some (.int .i64)) (he : P.underlying e = some (.int .i64)) (ht : P.underlying t = some (.map k e)) (hz : (zeroValue e).run P w = .ok (.int .i64 0) w)
  {a : Int} (ha : (Lit.int .i64 a).wf = true) : (Instr.lookup t (.map (some b)) (.int .i64 a) ok).run P w = .ok (if ok then .tuple #[.int .i64 ((g a).getD 0), .bool (g a).isSome] else .int .i64 ((g a).getD 0)) w := by
 obtain ⟨D, h1, -, h3⟩ := h.ex
 obtain ⟨h4, h5⟩ := h3 a ha
 cases ok with
 | true =>
  obtain ⟨v, ps, h6, h7⟩ := h1.look_ok (Maps.int_keyed hk) ht hz (plainElem_int he dD) (Maps.keyOf_int_mk hk ha)
  rw [h5] at h7
  obtain ⟨x, rfl, h8, -⟩ := plainElem_int_inv he h7
  simp only [Prod.mk.injEq, DataW.lit.injEq, Lit.int.injEq, true_and] at h8
  rw [h6, h4, h8.1]; rfl
 | false =>
  obtain ⟨x, h6, h7, -⟩ := h1.lookup_int (Maps.int_keyed hk) ht he hz (Maps.keyOf_int_mk hk ha)
  rw [h5] at h7
  simp only [DataW.lit.injEq, Lit.int.injEq, true_and] at h7
  rw [h6, h7]; rfl
theorem MapI.put (h : MapI P k e w b n g c) (hk : P.underlying k = some (.int .i64)) (he : P.underlying e = some (.int .i64)) (ht : P.underlying t = some (.map k e)) (hn : n < 1000000000)
    {a v : Int} (ha : (Lit.int .i64 a).wf = true) (hv : (Lit.int .i64 v).wf = true) : ∃ w1, (Instr.mapUpdate t (.map (some b)) (.int .i64 a) (.int .i64 v)).run P w = .ok () w1 ∧
      MapI P k e w1 b (n + 1) (fun x => if x = a then some v else g x) (if (g a).isSome then c else c + 1) ∧ Upd b w w1 ∧ w1.heap.size = w.heap.size := by
  obtain ⟨D, h1, h2, h3⟩ := h.ex
  have hT := h1.tidy (Maps.int_keyed hk)
  obtain ⟨w1, h4, h5, h6⟩ := h1.store (Maps.int_keyed hk) ht (by unfold maxLen; omega) (Maps.keyOf_int_mk hk ha) (plainElem_int (H := Unit) he hv)
  refine ⟨w1, h4, ⟨_, h5, ?_, fun x hx => ?_⟩, ?_, ?_⟩
  · rw [Maps.size_put hT, (h3 a ha).1, h2]
  · by_cases hxa : x = a
    · subst hxa
      rw [Maps.has_put_same hT.isMap (by first | trivial | exact ⟨_, _, rfl⟩ | simp [WideAt.IsKeyLit]), Maps.atKey_put_same hT.isMap (by first | trivial | simp [WideAt.IsKeyLit])]
      simp
    · have hne : Lit.int .i64 x ≠ Lit.int .i64 a := fun q => hxa (by cases q; rfl)
      rw [Maps.has_put_other hne, Maps.atKey_put_other hne]
      simp only [if_neg hxa]
      exact h3 x hx
  · have hg := h6.grown
    exact ⟨hg.os, hg.tape, hg.output, hg.size, fun j hj => by
      rcases Nat.lt_or_ge j w.heap.size with hl | hl
      · exact hg.block j hl (fun q => hj (by cases q; rfl))
      · obtain ⟨es, ck, es', ck', hb, rfl⟩ := h6
        simp only [setBlock]
        rw [Array.getElem?_setIfInBounds_ne (fun q => hj q.symm)]⟩
  · obtain ⟨es, ck, es', ck', hb, rfl⟩ := h6
    simp [setBlock]
end
section
variable {P : Program} {n : Sh} {f : Fr}
/-- make(map[int]int) -/
theorem WL.mkI {ops : Array Oper} {Q : Exit → Fr → World → Prop} {w : World} {rest : List Oper} {d ty : Nat} {pos : String} {aft : Array Edge} {t : TypeId} (k e : TypeId) (hd : Nat.blt d n.n = true)
  (hk : ∀ b w1, b = w.heap.size → MapI P k e w1 b 0 (fun _ => none) 0 → Upd b w w1 → w1.heap.size = b + 1 → WL P n ops Q rest ((d, .map (some b)) :: f) w1) :
  WL P n ops Q (⟨some d, .makeMap t none, ty, pos, aft, none⟩ :: rest) f w :=
 WL.run hd (w' := w.alloc (.map #[] 0)) (v := .map (some w.heap.size)) (fun ρ _ => by
  simp [execOp, run_makeMap]) (hk _ _ rfl (MapI.made w) (Upd.alloc _ _) (by simp))
/-- m[x] -/
theorem Rd.lkI {w : World} {t k e : TypeId} {x y : Operand} {b m c : Nat} {g : Int → Option Int} {a : Int} (h : MapI P k e w b m g c) (hk : P.underlying k = some (.int .i64)) (he : P.underlying e = some (.int .i64)) (ht : P.underlying t = some (.map k e))
  (hz : ∀ w, (zeroValue e).run P w = .ok (.int .i64 0) w) (hx : evo f x = some (.map (some b))) (hy : evo f y = some (.int .i64 a)) (ha : (Lit.int .i64 a).wf = true) : Rd P (.lookup t x y false) f w (.int .i64 ((g a).getD 0)) := fun ρ hρ d ty pos aft gd => by
 simp [execOp, hρ _ _ hx, hρ _ _ hy, h.look false hk he ht (hz w) ha]
/-- v, ok := m[x] -/
theorem Rd.lkIok {w : World} {t k e : TypeId} {x y : Operand} {b m c : Nat} {g : Int → Option Int} {a : Int} (h : MapI P k e w b m g c) (hk : P.underlying k = some (.int .i64)) (he : P.underlying e = some (.int .i64)) (ht : P.underlying t = some (.map k e))
  (hz : ∀ w, (zeroValue e).run P w = .ok (.int .i64 0) w) (hx : evo f x = some (.map (some b))) (hy : evo f y = some (.int .i64 a)) (ha : (Lit.int .i64 a).wf = true) : Rd P (.lookup t x y true) f w (.tuple #[.int .i64 ((g a).getD 0), .bool (g a).isSome]) := fun ρ hρ d ty pos aft gd => by
 simp [execOp, hρ _ _ hx, hρ _ _ hy, h.look true hk he ht (hz w) ha]
/-- len(m) -/
theorem Rd.lenI {w : World} {t k e : TypeId} {x : Operand} {b m c : Nat} {g : Int → Option Int} (h : MapI P k e w b m g c) (ht : P.underlying t = some (.map k e)) (hx : evo f x = some (.map (some b))) : Rd P (.call ⟨.builtin .len, #[x], #[t]⟩) f w (.int .i64 (c : Int)) := fun ρ hρ d ty pos aft gd => by
 obtain ⟨D, h1, h2, -⟩ := h.ex
 have h3 := h1.len ht ty
 rw [h2] at h3
 simp [execOp, resolve, invoke, builtin, hρ _ _ hx, h3]
/-- m[x] = y -/
theorem WL.upI {ops : Array Oper} {Q : Exit → Fr → World → Prop} {w : World} {rest : List Oper} {ty : Nat} {pos : String} {aft : Array Edge} {t k e : TypeId} {x y z : Operand} {b m c : Nat} {g : Int → Option Int} {a v : Int} (h : MapI P k e w b m g c)
  (hk : P.underlying k = some (.int .i64)) (he : P.underlying e = some (.int .i64)) (ht : P.underlying t = some (.map k e)) (hx : evo f x = some (.map (some b))) (hy : evo f y = some (.int .i64 a)) (hz : evo f z = some (.int .i64 v)) (ha : (Lit.int .i64 a).wf = true) (hv : (Lit.int .i64 v).wf = true) (hm : m < 1000000000)
  (kk : ∀ w1, MapI P k e w1 b (m + 1) (fun q => if q = a then some v else g q) (if (g a).isSome then c else c + 1) → Upd b w w1 → w1.heap.size = w.heap.size → WL P n ops Q rest f w1) :
  WL P n ops Q (⟨none, .mapUpdate t x y z, ty, pos, aft, none⟩ :: rest) f w := by
 obtain ⟨w1, h1, h2, h3, h4⟩ := h.put hk he ht hm ha hv
 exact WL.act (w' := w1) (fun ρ hρ => by simp [execOp, hρ _ _ hx, hρ _ _ hy, hρ _ _ hz, h1]) (kk w1 h2 h3 h4)
end
end
section
open Go.RowKit Go.WideShapes Go.ChangeShapes
/-- only this block of the old ones turned -/
structure Only (o : Option Nat) (w w1 : World) : Prop where
 os : w1.os = w.os
 tape : w1.tape = w.tape
 output : w1.output = w.output
 size : w1.heap.size = w.heap.size
 block : ∀ k, o ≠ some k → w1.heap[k]? = w.heap[k]?
theorem Only.refl (o : Option Nat) (w : World) : Only o w w := ⟨rfl, rfl, rfl, rfl, fun _ _ => rfl⟩
theorem Only.of_upd {g : Nat} {w w1 : World} (h : Upd g w w1) (hs : w1.heap.size = w.heap.size) : Only (some g) w w1 := ⟨h.os, h.tape, h.output, hs, fun k hk => h.other k fun e => hk (by rw [e])⟩
theorem Only.keepB {o : Option Nat} {w w1 : World} (h : Only o w w1) (B : Nat) (S : List Nat) (hS : ∀ g, o = some g → g ∈ S ∨ B ≤ g) : KeepB B S w w1 :=
 ⟨h.os, h.tape, h.output, by rw [h.size]; exact Nat.le_refl _, fun k hk hn => h.block k fun e => by rcases hS k e with h1 | h1 <;> first | exact hn h1 | omega⟩
theorem Blk.only {o : Option Nat} {w w1 : World} {c : Nat} {cs : Array Value} {t : TypeId} (h : Blk w c cs t) (ho : Only o w w1) (hc : o ≠ some c) : Blk w1 c cs t := (ho.block c hc).trans h
theorem OwnM.only {α : Type} {L : Lay α} {e : TypeId} {B : Nat} {o : Option Nat} {w w1 : World} {v : Value} {l : List α} (h : OwnM L e B w v l) (ho : Only o w w1) (hc : ∀ g, v.ownBlock = some g → o ≠ some g) : OwnM L e B w1 v l := h.same fun g hg => ho.block g (hc g hg)
theorem Blk.grown {w w1 : World} {c : Nat} {row : Option Nat} {cs : Array Value} {t : TypeId} (h : Blk w c cs t) (hg : w.grownBy w1 row) (hc : row ≠ some c) : Blk w1 c cs t := (hg.block c h.lt fun e => hc e.symm).trans h
theorem KeepB.wide {B B' : Nat} {S S' : List Nat} {a b : World} (h : KeepB B' S a b) (hB : B ≤ B') (hS : ∀ g ∈ S, g ∈ S' ∨ B ≤ g) : KeepB B S' a b := ⟨h.os, h.tape, h.output, h.size, fun i hi hn => h.block i oO fun hm => (hS i hm).elim hn fun q => by omega⟩
theorem RowAt.keepB {α : Type} {V : α → Value} {B : Nat} {S : List Nat} {w w1 : World} {p : Option Addr} {l : List α} (h : RowAt V w p l) (hT : KeepB B S w w1) (hp : 0 < l.length → (pA p).block < B ∧ (pA p).block ∉ S) : RowAt V w1 p l :=
 ⟨h.isp, fun j hj => by rw [World.cell?_of_block (w := w) (by rw [add_block]; exact hT.block _ (hp oO).1 (hp oO).2)]; exact h.cells j hj⟩
theorem BytesAt.keepB {B : Nat} {S : List Nat} {w w1 : World} {p : Option Addr} {l : List UInt8} (h : BytesAt w p l) (hT : KeepB B S w w1) (hp : 0 < l.length → (pA p).block < B ∧ (pA p).block ∉ S) : BytesAt w1 p l :=
 ⟨h.isp, fun j hj => by rw [World.cell?_of_block (w := w) (by rw [add_block]; exact hT.block _ (hp oO).1 (hp oO).2)]; exact h.cells j hj⟩
theorem Rd.b2sN {P : Program} {f : Fr} {tx ty e : TypeId} {x : Operand} {p : Option Addr} {l : List UInt8} {n c : Nat} {w : World} (hu : P.underlying tx = some (.slice e)) (he : P.underlying e = some (.int .u8)) (ht : P.underlying ty = some .string)
  (hx : evo f x = some (.slice p n c)) (hn : n = l.length) (hb : BytesAt w p l) : Rd P (.convert tx ty x) f w (.string (bs l)) := Rd.b2s hu he ht (hn ▸ hx) hb
end
section
open Go.RowKit Go.WideShapes Go.ChangeShapes
section
variable {P : Program} {n : Sh} {f : Fr}
/-- a struct or an array that is a part of a block -/
theorem Rd.ldF {α : Type} {L : Lay α} {t tb : TypeId} {x : Operand} {b o : Nat} {cs : Array Value} {w : World} {dd : TypeDesc} (hu : P.underlying t = some dd) (hdd : dd.isRow = true) (hi : (P.info? t).map (·.size) = some L.m) (hb : Blk w b cs tb) (y : α)
  (e : (cs.toList.drop o).take L.m = L.V y) (hx : evo f x = some (.pointer (some ⟨b, o, none⟩))) : Rd P (.load t x) f w (.agg (L.V y).toArray) := by
 have hr : RowM L w (some ⟨b, o, none⟩) [y] := by
  refine RowM.of_flat (fun _ => rfl) fun k v hk => ?_
  show w.cell? ((⟨b, o, none⟩ : Addr).add k) = _
  have hk' : (L.V y)[k]? = some v := by simpa [Lay.flat] using hk
  have hlt : k < L.m := by
   rcases Nat.lt_or_ge k L.m with h | h
   ·
    exact h
   ·
    rw [List.getElem?_eq_none (by rw [L.len]; exact h)] at hk'; cases hk'
  rw [add_lit, hb.cell, ← hk', ← e, List.getElem?_take_of_lt hlt, List.getElem?_drop]
  simp
 have h := Rd.ldS (P := P) (f := f) (x := x) hu hdd hi hr 0 (by simp) (by
  rw [hx]; show _ = some (Value.pointer (some ((⟨b, o, none⟩ : Addr).add (0 * L.m)))); rw [add_lit, Nat.zero_mul, Nat.add_zero])
 exact h
end
end
section
open Go.RowKit Go.WideShapes Go.ChangeShapes
def WH (P : Program) (n : Sh) (ops : Array Oper) (Q : Exit → Fr → World → Prop) (S : World → Prop) (fuel : Nat) (listed : Array Bool) (f : Fr) (w : World) : Prop := ∀ a, Rep n f a → wpAnyH P .any ops (lift n Q) S fuel listed a w
def dropS (d : Nat) : Fr → Fr
 | [] => []
 | (i, v) :: f => bif Nat.beq i d then dropS d f else (i, v) :: dropS d f
theorem look_dropS {d i : Nat} : ∀ (f : Fr), look (dropS d f) i = if i = d then none else look f i
 | [] => by simp [dropS, look]
 | (j, v) :: f => by
  have ih := look_dropS (d := d) (i := i) f
  unfold dropS
  cases h : Nat.beq j d with
  | true =>
   obtain rfl : j = d := Nat.eq_of_beq_eq_true h
   rw [cond_true, ih]
   by_cases hi : i = j
   ·
    rw [if_pos hi, if_pos hi]
   ·
    have hb : Nat.beq j i = false := by
     cases hq : Nat.beq j i with
     | true => exact absurd (Nat.eq_of_beq_eq_true hq).symm hi
     | false => rfl
    rw [if_neg hi, if_neg hi]
    show look f i = (bif Nat.beq j i then some v else look f i)
    rw [hb, cond_false]
  | false =>
   rw [cond_false]
   show (bif Nat.beq j i then some v else look (dropS d f) i) = if i = d then none else (bif Nat.beq j i then some v else look f i)
   cases hb : Nat.beq j i with
   | true =>
    obtain rfl : j = i := Nat.eq_of_beq_eq_true hb
    have hne : j ≠ d := fun q => by rw [q, Nat.beq_refl] at h; cases h
    rw [cond_true, cond_true, if_neg hne]
   | false => rw [cond_false, cond_false, ih]
theorem Rep.dropS {n : Sh} {g : Fr} {a : Act} {d : Nat} {v : Value} (h : Rep n g (a.put (some d) v)) (_ : Nat.blt d n.n = true) : Rep n (dropS d g) a := by
 refine ⟨h.1, by simpa [Act.put] using h.2.1, fun i u hu => ?_⟩
 rw [look_dropS] at hu
 by_cases hi : i = d
 ·
  rw [if_pos hi] at hu; cases hu
 ·
  rw [if_neg hi] at hu
  have := h.2.2 i u hu
  simp only [Act.put, Array.getD_eq_getD_getElem?] at this ⊢
  rwa [Array.getElem?_setIfInBounds_ne (fun q => hi q.symm)] at this
/-- where something panics, this stays known -/
def PnK (g0 : Fr) (Q : Exit → Fr → World → Prop) : Exit → Fr → World → Prop
 | .panic c, f, w => Sub g0 f ∧ Q (.panic c) g0 w
 | e, f, w => Q e f w
theorem sub_dropS {d : Nat} : ∀ {g0 f : Fr}, look g0 d = none → Sub g0 f → Sub g0 (dropS d f)
 | [], _, _, _ => trivial
 | (j, v) :: g, f, h, hs => by
  have hj : Nat.beq j d = false := by
   cases hb : Nat.beq j d with
   | true => rw [show look ((j, v) :: g) d = (bif Nat.beq j d then some v else look g d) from rfl, hb] at h; cases h
   | false => rfl
  rw [show look ((j, v) :: g) d = (bif Nat.beq j d then some v else look g d) from rfl, hj, cond_false] at h
  refine ⟨?_, sub_dropS h hs.2⟩
  rw [look_dropS, if_neg (fun q => by rw [q, Nat.beq_refl] at hj; cases hj)]
  exact hs.1
theorem pnK_drop {g0 f : Fr} {Q : Exit → Fr → World → Prop} {d : Nat} {c : List PanicEntry} {w : World} (hd : look g0 d = none) (h : PnK g0 Q (.panic c) f w) : PnK g0 Q (.panic c) (dropS d f) w := ⟨sub_dropS hd h.1, h.2⟩
theorem W.pnK {P : Program} {n : Sh} {f : Fr} {w : World} {c : Code} {Q : Exit → Fr → World → Prop} (g0 : Fr) (hm : ∀ c f w, Sub g0 f → Q (.panic c) g0 w → Q (.panic c) f w) (h : W P n c (PnK g0 Q) f w) : W P n c Q f w := h.mono fun e f w h => by
 cases e with
 | panic ch => exact hm ch f w h.1 h.2
 | normal => exact h
 | ret => exact h
 | exit i => exact h
 | goto l => exact h
 | outgrown => exact h
section
variable {P : Program} {n : Sh} {f : Fr} {ops : Array Oper} {Q : Exit → Fr → World → Prop} {w : World} {fuel : Nat} {listed : Array Bool} {S : World → Prop}
theorem W.regH {id : Nat} {l : List Oper} (N : Nat) (hN : l.length = N) (hm : P.follows .mixedOrders = true) (S : World → Prop) (h : ∀ w1, Drew w w1 → WH P n l.toArray Q S N (Array.replicate N false) f w1) : W P n (.region id l.toArray true) Q f w := by
 unfold W
 exact fun a ha => wp_region_held (S := S) hm (by
  subst hN
  have := h (w.drewN 1) ⟨1, rfl⟩ a ha
  rw [show l.toArray.size = l.length by simp]
  exact this)
/-- an operation that reads what stands is taken first -/
theorem WH.tk (i : Nat) {d ty : Nat} {pos : String} {aft : Array Edge} {op : Op} {v : Value} (hi : ops[i]? = some ⟨some d, op, ty, pos, aft, none⟩) (hp : ∀ w', S w' → Rd P op f w' v) (hS : S w) (hd : Nat.blt d n.n = true)
  (k : WH P n ops Q S fuel (listed.setIfInBounds i true) ((d, v) :: f) w) (hs : Region.noSelect ops = true := by kernel_rfl) (hf : Region.free .any ops listed i = true := by kernel_rfl)
  (hr : (Region.ready .any ops listed).contains i = true := by kernel_rfl) (hQ : ∀ c f w, Q (.panic c) f w → Q (.panic c) (dropS d f) w := by first | exact fun c f w h => pn_post h | exact fun c f w h => h | exact fun c f w h => pnK_drop rfl h) : WH P n ops Q S (fuel + 1) listed f w := by
 intro a ha
 refine wpAnyH_take hi hs hf hr ?_ (.inl ⟨by simp [Region.wanted], fun w' hw' => hp w' hw' _ ha.agr _ _ _ _ _⟩) hS (k _ (ha.put hd v))
 rintro c b w' ⟨g, hg, hq⟩
 exact ⟨dropS d g, hg.dropS hd, hQ c g w' hq⟩
theorem WH.tp (i : Nat) {d ty : Nat} {pos : String} {aft : Array Edge} {op : Op} {v : Value} (hi : ops[i]? = some ⟨some d, op, ty, pos, aft, none⟩) (hp : Pure P op f v) (hS : S w) (hd : Nat.blt d n.n = true)
  (k : WH P n ops Q S fuel (listed.setIfInBounds i true) ((d, v) :: f) w) (hs : Region.noSelect ops = true := by kernel_rfl) (hf : Region.free .any ops listed i = true := by kernel_rfl)
  (hr : (Region.ready .any ops listed).contains i = true := by kernel_rfl) (hQ : ∀ c f w, Q (.panic c) f w → Q (.panic c) (dropS d f) w := by first | exact fun c f w h => pn_post h | exact fun c f w h => h | exact fun c f w h => pnK_drop rfl h) : WH P n ops Q S (fuel + 1) listed f w :=
 WH.tk i hi (fun _ _ => hp.rd) hS hd k hs hf hr hQ
theorem yl_of {ops : Array Oper} {a : Act} {j dj : Nat} {t : Bool} (hj : (ops[j]?).bind (·.dst) = some dj) (hval : a.tmps.getD dj undef = .bool t) : yielded ops a.tmps j = some t := by
 unfold yielded
 cases ho : ops[j]? with
 | none => rw [ho] at hj; cases hj
 | some o =>
  rw [ho] at hj
  simp only [Option.bind_some] at hj
  have h1 : a.tmps[dj]? = some (.bool t) := by
   cases h : a.tmps[dj]? with
   | none => rw [Array.getD_eq_getD_getElem?, h] at hval; cases hval
   | some v => rw [Array.getD_eq_getD_getElem?, h] at hval; exact congrArg some hval
  simp [hj, h1]
/-- .. that is guarded, where the guard says yes -/
theorem WH.ty (i : Nat) {d ty j dj : Nat} {b t : Bool} {pos : String} {aft : Array Edge} {op : Op} {v : Value} (hi : ops[i]? = some ⟨some d, op, ty, pos, aft, some (j, b)⟩) (hj : (ops[j]?).bind (·.dst) = some dj) (ht : look f dj = some (.bool t)) (e : t = b)
  (hp : ∀ w', S w' → Rd P op f w' v) (hS : S w) (hd : Nat.blt d n.n = true)
  (k : WH P n ops Q S fuel (listed.setIfInBounds i true) ((d, v) :: f) w) (hs : Region.noSelect ops = true := by kernel_rfl) (hf : Region.free .any ops listed i = true := by kernel_rfl)
  (hr : (Region.ready .any ops listed).contains i = true := by kernel_rfl) (hQ : ∀ c f w, Q (.panic c) f w → Q (.panic c) (dropS d f) w := by first | exact fun c f w h => pn_post h | exact fun c f w h => h | exact fun c f w h => pnK_drop rfl h) : WH P n ops Q S (fuel + 1) listed f w := by
 intro a ha
 have hyl := yl_of hj (ha.2.2 _ _ ht)
 refine wpAnyH_take hi hs hf hr ?_ (.inl ⟨by simp [Region.wanted, hyl, e], fun w' hw' => hp w' hw' _ ha.agr _ _ _ _ _⟩) hS (k _ (ha.put hd v))
 rintro c b w' ⟨g, hg, hq⟩
 exact ⟨dropS d g, hg.dropS hd, hQ c g w' hq⟩
/-- .. where the guard says no: nothing is done -/
theorem WH.tn (i : Nat) {d ty j dj : Nat} {b t : Bool} {pos : String} {aft : Array Edge} {op : Op} (hi : ops[i]? = some ⟨some d, op, ty, pos, aft, some (j, b)⟩) (hj : (ops[j]?).bind (·.dst) = some dj) (ht : look f dj = some (.bool t)) (e : t = !b)
  (hS : S w) (hd : Nat.blt d n.n = true)
  (k : WH P n ops Q S fuel (listed.setIfInBounds i true) ((d, undef) :: f) w) (hs : Region.noSelect ops = true := by kernel_rfl) (hf : Region.free .any ops listed i = true := by kernel_rfl)
  (hr : (Region.ready .any ops listed).contains i = true := by kernel_rfl) (hQ : ∀ c f w, Q (.panic c) f w → Q (.panic c) (dropS d f) w := by first | exact fun c f w h => pn_post h | exact fun c f w h => h | exact fun c f w h => pnK_drop rfl h) : WH P n ops Q S (fuel + 1) listed f w := by
 intro a ha
 have hyl := yl_of hj (ha.2.2 _ _ ht)
 refine wpAnyH_take hi hs hf hr ?_ (.inr ⟨by simp only [Region.wanted, hyl, e]; cases b <;> rfl, rfl⟩) hS (k _ (ha.put hd undef))
 rintro c b w' ⟨g, hg, hq⟩
 exact ⟨dropS d g, hg.dropS hd, hQ c g w' hq⟩
/-- a guard, either way -/
theorem WH.cs {dj : Nat} {t : Bool} (b : Bool) (_ : look f dj = some (.bool t)) (hy : t = b → WH P n ops Q S fuel listed f w) (hn : t = !b → WH P n ops Q S fuel listed f w) : WH P n ops Q S fuel listed f w := by
 by_cases h : t = b
 ·
  exact hy h
 ·
  exact hn (by revert h; cases t <;> cases b <;> decide)
theorem WH.op (j : Nat) {o : Oper} (hi : ops[j]? = some o) (h : WL P n ops (nx (fun f' w' => S w' ∧ WH P n ops Q S fuel (listed.setIfInBounds j true) f' w') Q) [o] f w) (a : Act) (ha : Rep n f a) :
  wpOp P ops (lift n Q) j (fun a' w' => S w' ∧ wpAnyH P .any ops (lift n Q) S fuel (listed.setIfInBounds j true) a' w') a w := by
 unfold WL at h
 have := h a ha
 unfold wpOp
 simp only [hi]
 have conv : ∀ (e : Exit) (a : Act) (w : World), lift n (nx (fun f' w' => S w' ∧ WH P n ops Q S fuel (listed.setIfInBounds j true) f' w') Q) e a w → Exit.then (fun a' w' => S w' ∧ wpAnyH P .any ops (lift n Q) S fuel (listed.setIfInBounds j true) a' w') (lift n Q) e a w := by
  rintro e a w ⟨g, hg, hq⟩
  cases e with
  | normal => exact ⟨hq.1, hq.2 a hg⟩
  | _ => exact ⟨g, hg, hq⟩
 unfold wpList at this
 split
 ·
  next hwt =>
  rw [if_pos hwt] at this
  refine this.imp (fun h => ?_) fun ⟨h1, a', w', h2⟩ => ⟨h1, a', w', conv _ _ _ h2⟩
  have h' : o.wp P a w (fun a' w' => S w' ∧ wpAnyH P .any ops (lift n Q) S fuel (listed.setIfInBounds j true) a' w') (lift n (nx (fun f' w' => S w' ∧ WH P n ops Q S fuel (listed.setIfInBounds j true) f' w') Q)) :=
   Oper.wp_mono (fun a w h => conv .normal a w h) h
  exact upon_post h' fun e a w he h => by
   cases e with
   | normal => exact absurd rfl he
   | _ => exact conv _ a w h
 ·
  next hwt =>
  rw [if_neg hwt] at this
  exact conv .normal _ _ this
/-- the one that comes up now -/
theorem WH.br1 (i : Nat) {o : Oper} (hi : ops[i]? = some o) (h : WL P n ops (nx (fun f' w' => S w' ∧ WH P n ops Q S fuel (listed.setIfInBounds i true) f' w') Q) [o] f w) (hr : Region.ready .any ops listed = [i] := by kernel_rfl) : WH P n ops Q S (fuel + 1) listed f w := by
 intro a ha
 refine wpAnyH_all hr (by simp) fun j hj => ?_
 obtain rfl : j = i := by simpa using hj
 exact WH.op j hi h a ha
/-- two that may come up now -/
theorem WH.br2 (i : Nat) {o : Oper} (hi : ops[i]? = some o) (k : Nat) {o2 : Oper} (hk : ops[k]? = some o2) (h : WL P n ops (nx (fun f' w' => S w' ∧ WH P n ops Q S fuel (listed.setIfInBounds i true) f' w') Q) [o] f w)
    (h2 : WL P n ops (nx (fun f' w' => S w' ∧ WH P n ops Q S fuel (listed.setIfInBounds k true) f' w') Q) [o2] f w) (hr : Region.ready .any ops listed = [i, k] := by kernel_rfl) : WH P n ops Q S (fuel + 1) listed f w := by
  intro a ha
  refine wpAnyH_all hr (by simp) fun j hj => ?_
  rcases List.mem_cons.1 hj with rfl | hj
  · exact WH.op j hi h a ha
  · obtain rfl : j = k := by simpa using hj
    exact WH.op j hk h2 a ha
theorem WH.done (hr : Region.ready .any ops listed = []) (h : Q .normal f w) : WH P n ops Q S fuel listed f w := fun _ ha => wpAnyH_done hr ⟨f, ha, h⟩ fuel
end
attribute [irreducible] WH
end
section
theorem ref_ten (n : Nat) (w : World) (hn : n < 10000000000) : Calls Tryz.prog 17 #[.int .i64 (n : Int)] w fun e w' => e = .returned (.string (bs (tenL n))) ∧ Below w.heap.size w w' := by
 have hd : decL (n : Int) = digitsL n := by unfold decL; rw [if_neg oO]; simp
 have hl := digitsL_len 9 n oO
 refine W.enter func17 rfl ntmps17 (Nat.le_of_ble_eq_true rfl) ?_
 have hB0 := Below.refl (w.heap.size) w
 refine W.sr <| WL.z rfl rfl ?_
 refine W.sr <| WL.m rfl rfl <| WL.c1 hb18 rfl rfl ((ref_Dec n _ oO oO)) (fun w1 hw1 => ?_)
 have hB2 := btr hB0 hw1
 rw [hd]
 refine WL.z rfl rfl ?_
 refine W.seq <| W.block ?_
 refine W.loop (α := Nat) (fun t => [(3, .string (bs (List.replicate t 48 ++ digitsL n)))]) (fun t w' => Below w.heap.size w w' ∧ t + (digitsL n).length ≤ 10) (fun t => 10 - t) (0) ⟨rfl, trivial⟩ (⟨hB2, by omega⟩) (fun t w1 hR => ?_)
 obtain ⟨k, rfl⟩ : ∃ k, k = t := ⟨t, rfl⟩
 obtain ⟨hT, hk⟩ := hR
 refine W.seq <| W.sr <| WL.m rfl rfl <| WL.p (.iis ((k + (digitsL n).length : Int)) (.len underlying9 rfl) (by simp)) rfl <| WL.p (.lss rfl rfl) rfl <| WL.nil <| ?_
 refine W.cond rfl (fun h3 => ?_) (fun h3 => ?_)
 have h3' := dT h3
 refine W.skip <| W.block <| W.reg <| WL.m rfl rfl <| WL.p (.cat rfl rfl (by simp only [List.length_append, List.length_cons, List.length_nil, List.length_replicate]; omega)) rfl <| WL.z rfl rfl ?_
 exact ⟨k + 1, ⟨rfl, trivial⟩, ⟨hT, by omega⟩, by omega⟩
 have h3' := dF h3
 refine W.exit <| W.sr <| WL.m rfl rfl <| WL.z rfl rfl ?_
 refine W.ret (W.ret1 rfl rfl ?_)
 exact ⟨rvE (by rw [show k = 10 - (digitsL n).length by omega]; rfl), hT⟩
theorem pread_want (w : World) : Calls Tryz.prog 22 #[.bool true] w fun e w' => e = .returned (.tuple #[]) ∧ w = w' := by
 refine W.enter func22 rfl ntmps22 (Nat.le_of_ble_eq_true rfl) ?_
 refine W.sr <| WL.m rfl rfl <| WL.p (.not rfl) rfl <| WL.nil <| ?_
 refine W.condF rfl rfl ?_
 refine W.skip ?_
 refine W.norm (W.ret0 rfl ?_)
 exact ⟨rfl, rfl⟩
theorem plex_SkipN (p : Option Addr) (l : List UInt8) (c t : Nat) (w : World) (ht : t ≤ l.length) (hb : BytesAt w p l) (hl : l.length ≤ 100000000) :
  Calls Tryz.prog 34 #[.slice p l.length c, .int .i64 (t : Int)] w fun e w' => e = .returned (.int .i64 (skipAt false l t : Int)) ∧ w = w' := by
 have h := plex_Skip p l c (t : Int) w hb hl
 rwa [insA_nat l t ht] at h
theorem plex_WordN (p : Option Addr) (l : List UInt8) (c t : Nat) (w : World) (ht : t ≤ l.length) (hb : BytesAt w p l) (hc : l.length ≤ c) (hl : l.length ≤ 100000000) :
  Calls Tryz.prog 33 #[.slice p l.length c, .int .i64 (t : Int)] w fun e w' => e = .returned (.tuple #[.string (bs (wordL l t)), .int .i64 (wordAt l t : Int)]) ∧ w = w' := by
 have h := plex_Word p l c (t : Int) w hb hc hl
 rwa [insA_nat l t ht] at h
def rdC (p : Option Addr) (l : List UInt8) (c t : Nat) : Array Value := #[.slice p l.length c, .int .i64 (t : Int)]
/-- the next word has to be this -/
theorem rd_word (br : Nat) (p : Option Addr) (l : List UInt8) (c t : Nat) (s : List UInt8) (w : World) (h : Blk w br (rdC p l c t) 57) (hb : BytesAt w p l) (hc : l.length ≤ c) (hl : l.length ≤ 100000000) (ht : t ≤ l.length)
  (hpb : 0 < l.length → (pA p).block ≠ br) (hw : wordL l (skipAt false l t) = s) :
  Calls Tryz.prog 36 #[.pointer (some ⟨br, 0, none⟩), .string (bs s)] w fun e w' => e = .returned (.tuple #[]) ∧ KeepB w.heap.size [br] w w' ∧ Blk w' br (rdC p l c (wordAt l (skipAt false l t))) 57 := by
 refine W.enter func36 rfl ntmps36 (Nat.le_of_ble_eq_true rfl) ?_
 have hB0 := KeepB.refl w.heap.size ([br]) w
 refine W.seq <| W.regH 19 rfl mixed (fun w' => w'.heap[br]? = w.heap[br]? ∧ True) (fun w1 dw1 => ?_)
 have hk2 := h.drew dw1
 have hv3 := hb.drew dw1
 have hB4 := KeepB.trans hB0 (KeepB.of_drew dw1)
 refine WH.tp 0 rfl (.mv rfl) ⟨(hk2).trans (h).symm, trivial⟩ rfl ?_
 refine WH.tp 1 rfl (.nck rfl) ⟨(hk2).trans (h).symm, trivial⟩ rfl ?_
 refine WH.tp 2 rfl (.fa underlying57 rfl sizeOf26 dD rfl) ⟨(hk2).trans (h).symm, trivial⟩ rfl ?_
 refine WH.tk 3 rfl (fun w' hw' => Rd.ld (isAgg26 _) rfl ((hw'.1).trans h) rfl) ⟨(hk2).trans (h).symm, trivial⟩ rfl ?_
 refine WH.tp 4 rfl (.mv rfl) ⟨(hk2).trans (h).symm, trivial⟩ rfl ?_
 refine WH.tp 5 rfl (.nck rfl) ⟨(hk2).trans (h).symm, trivial⟩ rfl ?_
 refine WH.tp 6 rfl (.fa underlying57 rfl sizeOf26 dD rfl) ⟨(hk2).trans (h).symm, trivial⟩ rfl ?_
 refine WH.tk 7 rfl (fun w' hw' => Rd.ld (isAgg26 _) rfl ((hw'.1).trans h) rfl) ⟨(hk2).trans (h).symm, trivial⟩ rfl ?_
 refine WH.tp 8 rfl (.mv rfl) ⟨(hk2).trans (h).symm, trivial⟩ rfl ?_
 refine WH.tp 9 rfl (.nck rfl) ⟨(hk2).trans (h).symm, trivial⟩ rfl ?_
 refine WH.tp 10 rfl (.fa underlying57 rfl sizeOf3 dD rfl) ⟨(hk2).trans (h).symm, trivial⟩ rfl ?_
 refine WH.tk 11 rfl (fun w' hw' => Rd.ld (isAgg3 _) rfl ((hw'.1).trans h) rfl) ⟨(hk2).trans (h).symm, trivial⟩ rfl ?_
 refine WH.br1 12 rfl ?_
 refine WL.c1 hb34 rfl rfl ((plex_SkipN p l c t _ ht hv3 hl)) (fun w5 hw5 => ?_)
 obtain rfl := hw5
 refine WL.nil <| ?_
 refine ⟨⟨(hk2).trans (h).symm, trivial⟩, ?_⟩
 refine WH.br1 13 rfl ?_
 refine WL.c1 hb33 rfl rfl ((plex_WordN p l c (skipAt false l t) _ (skipAt_le _ _ _) hv3 hc hl)) (fun w6 hw6 => ?_)
 obtain rfl := hw6
 refine WL.nil <| ?_
 refine ⟨⟨(hk2).trans (h).symm, trivial⟩, ?_⟩
 refine WH.tp 14 rfl (.mv rfl) ⟨(hk2).trans (h).symm, trivial⟩ rfl ?_
 refine WH.tp 15 rfl (.ext rfl rfl) ⟨(hk2).trans (h).symm, trivial⟩ rfl ?_
 refine WH.tp 16 rfl (.ext rfl rfl) ⟨(hk2).trans (h).symm, trivial⟩ rfl ?_
 refine WH.tp 17 rfl (.as rfl) ⟨(hk2).trans (h).symm, trivial⟩ rfl ?_
 refine WH.tp 18 rfl (.as rfl) ⟨(hk2).trans (h).symm, trivial⟩ rfl ?_
 refine WH.done kR ?_
 refine W.sr <| WL.m rfl rfl <| WL.m rfl rfl <| WL.p (.bis (true) (.eqs rfl rfl) (by simp [hw])) rfl <| WL.c1 hb22 rfl rfl ((pread_want _)) (fun w7 hw7 => ?_)
 obtain rfl := hw7
 refine WL.nil <| ?_
 refine W.reg <| WL.m rfl rfl <| WL.m rfl rfl <| WL.p (.nck rfl) rfl <| WL.p (.fa underlying57 rfl sizeOf3 dD rfl) rfl <| WL.st sizeOf3 rfl rfl rfl hk2 oD (fun w8 hkw8 huw8 hsw8 => ?_)
 have hkw8 : Blk w8 br _ _ := hkw8
 have huw8 : Upd br _ _ := huw8
 have hB10 := KeepB.trans hB4 (by first | exact KeepB.of_new huw8 oO | exact KeepB.of_mem huw8 (by simp))
 refine WL.nil <| ?_
 refine W.norm (W.ret0 rfl ?_)
 exact ⟨rfl, hB10, hkw8⟩
/-- so many digits -/
theorem rd_fixed (p : Option Addr) (s : List UInt8) (n c : Nat) (w : World) (hn : s.length = n) (hb : BytesAt w p s) (hl : s.length ≤ 10) (hd : s.all isDig = true) :
  Calls Tryz.prog 49 #[.slice p n c] w fun e w' => e = .returned (.int .i64 (natOf s : Int)) ∧ Below w.heap.size w w' := by
 subst hn
 have hdig := List.all_eq_true.1 hd
 refine W.enter func49 rfl ntmps49 (Nat.le_of_ble_eq_true rfl) ?_
 have hB0 := Below.refl (w.heap.size) w
 refine W.sr <| WL.z rfl rfl ?_
 refine W.sr <| WL.m rfl rfl <| WL.r (Rd.b2s (l := s) underlying26 underlying5 underlying9 rfl (hb)) rfl <| WL.c1 hb67 rfl rfl ((lib_trim s [48, 49, 50, 51, 52, 53, 54, 55, 56, 57] _ oO dD dD)) (fun w1 hw1 => ?_)
 have hv2 := BytesAt.below hb hw1 (fun h0 => hb.lt h0)
 have hB3 := btr hB0 hw1
 refine WL.p (.bis (true) (.eqs rfl rfl) (by rw [trim_dig]; exact hd)) rfl <| WL.c1 hb22 rfl rfl ((pread_want _)) (fun w4 hw4 => ?_)
 obtain rfl := hw4
 refine WL.nil <| ?_
 refine W.sr <| WL.z rfl rfl ?_
 refine W.seq <| W.sr <| WL.m rfl rfl <| WL.p (.lenS underlying26 rfl) rfl <| WL.m rfl rfl <| WL.nil <| ?_
 refine W.block ?_
 refine W.loop (α := Nat) (fun t => [(0, .slice p s.length c), (3, .int .i64 (natOf (s.take t) : Int)), (11, .slice p s.length c), (12, .int .i64 (s.length : Int)), (13, .int .i64 (t : Int))]) (fun t w' => w1 = w' ∧ t ≤ s.length) (fun t => s.length - t) (0) ⟨rfl, rfl, rfl, rfl, rfl, trivial⟩ (⟨rfl, Nat.zero_le _⟩) (fun t w1 hR => ?_)
 obtain ⟨i, rfl⟩ : ∃ i, i = t := ⟨t, rfl⟩
 obtain ⟨rfl, hi⟩ := hR
 refine W.sr <| WL.p (.lss rfl rfl) rfl <| WL.nil <| ?_
 refine W.seq <| W.cond rfl (fun h5 => ?_) (fun h5 => ?_)
 have h5' := dT h5
 refine W.skip <| W.seq <| W.block <| W.seq ?_
 have hst := natOf_take s i oO
 have hbd := isDig_bounds (hdig _ (List.getElem_mem (show i < s.length by omega)))
 have hlt := natOf_lt (s.take i) (fun c hc => hdig c (List.mem_of_mem_take hc))
 have hpw : 10 ^ (s.take i).length ≤ 10 ^ 9 := Nat.pow_le_pow_right oO (by rw [List.length_take]; omega)
 refine W.reg <| WL.p (.ixb underlying26 sizeOf5 rfl rfl (hv2.isp oO) (i) (rfl) oO) rfl <| WL.r (Rd.ldc (isAgg5 _) rfl (hv2.cells (i) oO)) rfl <| WL.z rfl rfl ?_
 refine W.reg <| WL.m rfl rfl <| WL.p (.mul rfl rfl (i64w oO)) rfl <| WL.m rfl rfl <| WL.p (.sub rfl rfl (u8w oO)) rfl <| WL.p (.cvt underlying5 underlying3 rfl (i64w oO)) rfl <| WL.p (.iis ((natOf (s.take (i + 1)) : Int)) (.add rfl rfl (i64w oO)) oO) rfl <| WL.z rfl rfl ?_
 refine W.reg <| WL.p (.iis (((i + 1 : Nat) : Int)) (.add rfl rfl (i64w oO)) oO) rfl <| WL.m rfl rfl <| WL.nil <| ?_
 exact ⟨i + 1, ⟨rfl, rfl, rfl, rfl, rfl, trivial⟩, ⟨rfl, by ((try simp only) <;> omega)⟩, by ((try simp only) <;> omega)⟩
 have h5' := dF h5
 refine W.exit <| W.seq ?_
 obtain rfl : i = s.length := by omega
 rw [List.take_length]
 refine W.reg <| WL.m rfl rfl <| WL.z rfl rfl ?_
 refine W.ret (W.ret1 rfl rfl ?_)
 exact ⟨rfl, hB3⟩
/-- the next word has to be a number -/
theorem rd_number (br : Nat) (p : Option Addr) (l : List UInt8) (c t : Nat) (s : List UInt8) (w : World) (h : Blk w br (rdC p l c t) 57) (hb : BytesAt w p l) (hc : l.length ≤ c) (hl : l.length ≤ 100000000) (ht : t ≤ l.length)
  (hpb : 0 < l.length → (pA p).block ≠ br) (hw : wordL l (skipAt false l t) = s) (hs : wholeOk s = true) :
  Calls Tryz.prog 53 #[.pointer (some ⟨br, 0, none⟩)] w fun e w' => e = .returned (.int .i64 (natOf s : Int)) ∧ KeepB w.heap.size [br] w w' ∧ Blk w' br (rdC p l c (wordAt l (skipAt false l t))) 57 := by
 have hok' := hs
 unfold wholeOk at hok'
 simp only [Bool.and_eq_true, decide_eq_true_eq, Bool.not_eq_true', decide_eq_false_iff_not] at hok'
 have hdig := List.all_eq_true.1 hok'.2
 refine W.enter func53 rfl ntmps53 (Nat.le_of_ble_eq_true rfl) ?_
 have hB0 := KeepB.refl w.heap.size ([br]) w
 refine W.sr <| WL.z rfl rfl ?_
 refine W.seq <| W.regH 19 rfl mixed (fun w' => w'.heap[br]? = w.heap[br]? ∧ True) (fun w1 dw1 => ?_)
 have hk2 := h.drew dw1
 have hv3 := hb.drew dw1
 have hB4 := KeepB.trans hB0 (KeepB.of_drew dw1)
 refine WH.tp 0 rfl (.mv rfl) ⟨(hk2).trans (h).symm, trivial⟩ rfl ?_
 refine WH.tp 1 rfl (.nck rfl) ⟨(hk2).trans (h).symm, trivial⟩ rfl ?_
 refine WH.tp 2 rfl (.fa underlying57 rfl sizeOf26 dD rfl) ⟨(hk2).trans (h).symm, trivial⟩ rfl ?_
 refine WH.tk 3 rfl (fun w' hw' => Rd.ld (isAgg26 _) rfl ((hw'.1).trans h) rfl) ⟨(hk2).trans (h).symm, trivial⟩ rfl ?_
 refine WH.tp 4 rfl (.mv rfl) ⟨(hk2).trans (h).symm, trivial⟩ rfl ?_
 refine WH.tp 5 rfl (.nck rfl) ⟨(hk2).trans (h).symm, trivial⟩ rfl ?_
 refine WH.tp 6 rfl (.fa underlying57 rfl sizeOf26 dD rfl) ⟨(hk2).trans (h).symm, trivial⟩ rfl ?_
 refine WH.tk 7 rfl (fun w' hw' => Rd.ld (isAgg26 _) rfl ((hw'.1).trans h) rfl) ⟨(hk2).trans (h).symm, trivial⟩ rfl ?_
 refine WH.tp 8 rfl (.mv rfl) ⟨(hk2).trans (h).symm, trivial⟩ rfl ?_
 refine WH.tp 9 rfl (.nck rfl) ⟨(hk2).trans (h).symm, trivial⟩ rfl ?_
 refine WH.tp 10 rfl (.fa underlying57 rfl sizeOf3 dD rfl) ⟨(hk2).trans (h).symm, trivial⟩ rfl ?_
 refine WH.tk 11 rfl (fun w' hw' => Rd.ld (isAgg3 _) rfl ((hw'.1).trans h) rfl) ⟨(hk2).trans (h).symm, trivial⟩ rfl ?_
 refine WH.br1 12 rfl ?_
 refine WL.c1 hb34 rfl rfl ((plex_SkipN p l c t _ ht hv3 hl)) (fun w5 hw5 => ?_)
 obtain rfl := hw5
 refine WL.nil <| ?_
 refine ⟨⟨(hk2).trans (h).symm, trivial⟩, ?_⟩
 refine WH.br1 13 rfl ?_
 refine WL.c1 hb33 rfl rfl ((plex_WordN p l c (skipAt false l t) _ (skipAt_le _ _ _) hv3 hc hl)) (fun w6 hw6 => ?_)
 obtain rfl := hw6
 refine WL.nil <| ?_
 refine ⟨⟨(hk2).trans (h).symm, trivial⟩, ?_⟩
 refine WH.tp 14 rfl (.mv rfl) ⟨(hk2).trans (h).symm, trivial⟩ rfl ?_
 refine WH.tp 15 rfl (.ext rfl rfl) ⟨(hk2).trans (h).symm, trivial⟩ rfl ?_
 refine WH.tp 16 rfl (.ext rfl rfl) ⟨(hk2).trans (h).symm, trivial⟩ rfl ?_
 refine WH.tp 17 rfl (.as rfl) ⟨(hk2).trans (h).symm, trivial⟩ rfl ?_
 refine WH.tp 18 rfl (.as rfl) ⟨(hk2).trans (h).symm, trivial⟩ rfl ?_
 refine WH.done kR ?_
 refine W.seq ?_
 rw [hw]
 refine W.reg <| WL.m rfl rfl <| WL.p (.bis (true) (.nes rfl rfl) (by simp [hok'.1.1])) rfl <| WL.m rfl rfl <| WL.gy rfl rfl rfl rfl <| WL.m rfl rfl <| WL.gy rfl rfl rfl rfl <| WL.p (.len underlying9 rfl) rfl <| WL.gy rfl rfl rfl rfl <| WL.p (.bis (true) (.leq rfl rfl) (by simp; omega)) rfl <| WL.p (.pkT rfl rfl rfl) rfl <| WL.m rfl rfl <| WL.gy rfl rfl rfl rfl <| WL.m rfl rfl <| WL.gy rfl rfl rfl rfl <| WL.c1 hb67 rfl rfl ((lib_trim s [48, 49, 50, 51, 52, 53, 54, 55, 56, 57] _ oO dD dD)) (fun w7 hw7 => ?_)
 have hk8 := hk2.below hw7 hk2.lt
 have hB10 := KeepB.trans hB4 (KeepB.of_below hw7 hB4.size)
 refine WL.gy rfl rfl rfl rfl <| WL.p (.bis (true) (.eqs rfl rfl) (by rw [trim_dig]; exact hok'.2)) rfl <| WL.p (.pkT rfl rfl rfl) rfl <| WL.c1 hb22 rfl rfl ((pread_want _)) (fun w11 hw11 => ?_)
 obtain rfl := hw11
 refine WL.nil <| ?_
 refine W.sr <| WL.m rfl rfl <| WL.m rfl rfl <| WL.p (.nck rfl) rfl <| WL.p (.fa underlying57 rfl sizeOf3 dD rfl) rfl <| WL.st sizeOf3 rfl rfl rfl hk8 oD (fun w12 hkw12 huw12 hsw12 => ?_)
 have hkw12 : Blk w12 br _ _ := hkw12
 have huw12 : Upd br _ _ := huw12
 have hB14 := KeepB.trans hB10 (by first | exact KeepB.of_new huw12 oO | exact KeepB.of_mem huw12 (by simp))
 refine WL.nil <| ?_
 refine W.sr <| WL.z rfl rfl ?_
 refine W.seq <| W.sr <| WL.m rfl rfl <| WL.s2b underlying9 underlying26 underlying5 rfl rfl (fun b15 wb15 cz eb15 hz hcz hub15 hsb15 => ?_)
 have hl17 : br < b15 := by rw [eb15]; exact hkw12.lt
 have hk16 := hkw12.upd hub15 (Nat.ne_of_lt hl17)
 have hgeb15 : w.heap.size ≤ b15 := by rw [eb15]; exact hB14.size
 have hB20 := KeepB.trans hB14 (KeepB.of_new hub15 hgeb15)
 refine WL.p (.lenS underlying26 rfl) rfl <| WL.m rfl rfl <| WL.nil <| ?_
 refine W.block ?_
 refine W.loop (α := Nat) (fun t => [(0, .pointer (some ⟨br, 0, none⟩)), (5, .int .i64 (natOf (s.take t) : Int)), (43, .slice (some ⟨b15, 0, none⟩) s.length cz), (44, .int .i64 (s.length : Int)), (45, .int .i64 (t : Int))]) (fun t w' => wb15 = w' ∧ t ≤ s.length) (fun t => s.length - t) (0) ⟨rfl, rfl, rfl, rfl, rfl, trivial⟩ (⟨rfl, Nat.zero_le _⟩) (fun t w1 hR => ?_)
 obtain ⟨i, rfl⟩ : ∃ i, i = t := ⟨t, rfl⟩
 obtain ⟨rfl, hi⟩ := hR
 refine W.sr <| WL.p (.lss rfl rfl) rfl <| WL.nil <| ?_
 refine W.seq <| W.cond rfl (fun h21 => ?_) (fun h21 => ?_)
 have h21' := dT h21
 refine W.skip <| W.seq <| W.block <| W.sr <| WL.p (.ixb underlying26 sizeOf5 rfl rfl (hz.isp oO) (i) (rfl) oO) rfl <| WL.r (Rd.ldc (isAgg5 _) rfl (hz.cells (i) oO)) rfl <| WL.z rfl rfl ?_
 have hst := natOf_take s i oO
 have hbd := isDig_bounds (hdig _ (List.getElem_mem (show i < s.length by omega)))
 have hlt := natOf_lt (s.take i) (fun c hc => hdig c (List.mem_of_mem_take hc))
 have hpw : 10 ^ (s.take i).length ≤ 10 ^ 9 := Nat.pow_le_pow_right oO (by rw [List.length_take]; omega)
 refine W.reg <| WL.m rfl rfl <| WL.p (.mul rfl rfl (i64w oO)) rfl <| WL.m rfl rfl <| WL.p (.sub rfl rfl (u8w oO)) rfl <| WL.p (.cvt underlying5 underlying3 rfl (i64w oO)) rfl <| WL.p (.iis ((natOf (s.take (i + 1)) : Int)) (.add rfl rfl (i64w oO)) oO) rfl <| WL.z rfl rfl ?_
 refine W.reg <| WL.p (.iis (((i + 1 : Nat) : Int)) (.add rfl rfl (i64w oO)) oO) rfl <| WL.m rfl rfl <| WL.nil <| ?_
 exact ⟨i + 1, ⟨rfl, rfl, rfl, rfl, rfl, trivial⟩, ⟨rfl, by ((try simp only) <;> omega)⟩, by ((try simp only) <;> omega)⟩
 have h21' := dF h21
 refine W.exit <| W.seq ?_
 obtain rfl : i = s.length := by omega
 rw [List.take_length]
 refine W.reg <| WL.m rfl rfl <| WL.z rfl rfl ?_
 refine W.ret (W.ret1 rfl rfl ?_)
 exact ⟨rfl, hB20, hk16⟩
theorem ib_blank (c : UInt8) : decide (0 ≤ Lib.indexByte [0, 9, 10, 12, 13, 32] c) = blankB c := all256 (q := fun c => decide (0 ≤ Lib.indexByte [0, 9, 10, 12, 13, 32] c) = blankB c) (by decide +kernel) c
/-- bytes that are blank, up to one that is not -/
theorem rd_blanks (br : Nat) (p : Option Addr) (l : List UInt8) (c t0 k : Nat) (w : World) (h : Blk w br (rdC p l c t0) 57) (hb : BytesAt w p l) (hl : l.length ≤ 100000000) (hk : 0 < k) (ht : t0 + k ≤ l.length)
    (hpb : 0 < l.length → (pA p).block ≠ br) (hB : ∀ j (hj : j < l.length), t0 ≤ j → j < t0 + k → blankB l[j] = true) (hE : ∀ (hj : t0 + k < l.length), blankB l[t0 + k] = false) :
    Calls Tryz.prog 26 #[.pointer (some ⟨br, 0, none⟩)] w fun e w' => e = .returned (.tuple #[]) ∧ KeepB w.heap.size [br] w w' ∧ Blk w' br (rdC p l c (t0 + k)) 57 := by
  refine W.enter func26 rfl ntmps26 (Nat.le_of_ble_eq_true rfl) ?_
  have hB0 := KeepB.refl w.heap.size ([br]) w
  refine W.sr <| WL.m rfl rfl <| WL.p (.nck rfl) rfl <| WL.p (.fa underlying57 rfl sizeOf3 dD rfl) rfl <| WL.r (Rd.ld (isAgg3 _) rfl h rfl) rfl <| WL.z rfl rfl ?_
  refine W.seq <| W.block ?_
  refine W.loop (α := Nat) (fun t => [(0, .pointer (some ⟨br, 0, none⟩)), (2, .int .i64 (t0 : Int))]) (fun t w' => KeepB w.heap.size [br] w w' ∧ Blk w' br (rdC p l c t) 57 ∧ BytesAt w' p l ∧ t0 ≤ t ∧ t ≤ t0 + k) (fun t => t0 + k - t) (t0) ⟨rfl, rfl, trivial⟩ (⟨hB0, h, hb, Nat.le_refl _, by omega⟩) (fun t w1 hR => ?_)
  obtain ⟨i, rfl⟩ : ∃ i, i = t := ⟨t, rfl⟩
  obtain ⟨q1, q2, q3, q4, q5⟩ := hR
  refine W.seq <| W.seq <| W.regH 24 rfl mixed (fun w' => w'.heap[br]? = w1.heap[br]? ∧ BytesAt w' p l ∧ True) (fun w1 dw1 => ?_)
  have hk2 := q2.drew dw1
  have hv3 := q3.drew dw1
  have hB4 := KeepB.trans q1 (KeepB.of_drew dw1)
  refine WH.tp 0 rfl (.mv rfl) ⟨(hk2).trans (q2).symm, hv3, trivial⟩ rfl ?_
  refine WH.tp 1 rfl (.nck rfl) ⟨(hk2).trans (q2).symm, hv3, trivial⟩ rfl ?_
  refine WH.tp 2 rfl (.fa underlying57 rfl sizeOf3 dD rfl) ⟨(hk2).trans (q2).symm, hv3, trivial⟩ rfl ?_
  refine WH.tk 3 rfl (fun w' hw' => Rd.ld (isAgg3 _) rfl ((hw'.1).trans q2) rfl) ⟨(hk2).trans (q2).symm, hv3, trivial⟩ rfl ?_
  refine WH.tp 4 rfl (.mv rfl) ⟨(hk2).trans (q2).symm, hv3, trivial⟩ rfl ?_
  refine WH.tp 5 rfl (.nck rfl) ⟨(hk2).trans (q2).symm, hv3, trivial⟩ rfl ?_
  refine WH.tp 6 rfl (.fa underlying57 rfl sizeOf26 dD rfl) ⟨(hk2).trans (q2).symm, hv3, trivial⟩ rfl ?_
  refine WH.tk 7 rfl (fun w' hw' => Rd.ld (isAgg26 _) rfl ((hw'.1).trans q2) rfl) ⟨(hk2).trans (q2).symm, hv3, trivial⟩ rfl ?_
  refine WH.tp 8 rfl (.lenS underlying26 rfl) ⟨(hk2).trans (q2).symm, hv3, trivial⟩ rfl ?_
  refine WH.tp 9 rfl (.lss rfl rfl) ⟨(hk2).trans (q2).symm, hv3, trivial⟩ rfl ?_
  refine WH.tp 10 rfl (.mv rfl) ⟨(hk2).trans (q2).symm, hv3, trivial⟩ rfl ?_
  refine WH.cs (dj := 17) true rfl (fun g5 => ?_) (fun g5 => ?_)
  · have g5' := dT g5
    refine WH.ty 11 rfl rfl rfl g5 (fun _ _ => Pure.rd (.mv rfl)) ⟨(hk2).trans (q2).symm, hv3, trivial⟩ rfl ?_
    refine WH.ty 12 rfl rfl rfl g5 (fun _ _ => Pure.rd (.nck rfl)) ⟨(hk2).trans (q2).symm, hv3, trivial⟩ rfl ?_
    refine WH.ty 13 rfl rfl rfl g5 (fun _ _ => Pure.rd (.fa underlying57 rfl sizeOf26 dD rfl)) ⟨(hk2).trans (q2).symm, hv3, trivial⟩ rfl ?_
    refine WH.ty 14 rfl rfl rfl g5 (fun w' hw' => Rd.ld (isAgg26 _) rfl ((hw'.1).trans q2) rfl) ⟨(hk2).trans (q2).symm, hv3, trivial⟩ rfl ?_
    refine WH.ty 15 rfl rfl rfl g5 (fun _ _ => Pure.rd (.mv rfl)) ⟨(hk2).trans (q2).symm, hv3, trivial⟩ rfl ?_
    refine WH.ty 16 rfl rfl rfl g5 (fun _ _ => Pure.rd (.nck rfl)) ⟨(hk2).trans (q2).symm, hv3, trivial⟩ rfl ?_
    refine WH.ty 17 rfl rfl rfl g5 (fun _ _ => Pure.rd (.fa underlying57 rfl sizeOf3 dD rfl)) ⟨(hk2).trans (q2).symm, hv3, trivial⟩ rfl ?_
    refine WH.ty 18 rfl rfl rfl g5 (fun w' hw' => Rd.ld (isAgg3 _) rfl ((hw'.1).trans q2) rfl) ⟨(hk2).trans (q2).symm, hv3, trivial⟩ rfl ?_
    refine WH.ty 19 rfl rfl rfl g5 (fun _ _ => Pure.rd (.ixb underlying26 sizeOf5 rfl rfl (hv3.isp oO) (i) (rfl) oO)) ⟨(hk2).trans (q2).symm, hv3, trivial⟩ rfl ?_
    refine WH.ty 20 rfl rfl rfl g5 (fun w' hw' => Rd.ldc (isAgg5 _) rfl ((hw'.2.1).cells (i) oO)) ⟨(hk2).trans (q2).symm, hv3, trivial⟩ rfl ?_
    refine WH.br1 21 rfl ?_
    refine WL.gy rfl rfl rfl g5 <| WL.c1 hb48 rfl rfl ((lib_ib [0, 9, 10, 12, 13, 32] l[i] _)) (fun w6 hw6 => ?_)
    obtain rfl := hw6
    refine WL.nil <| ?_
    refine ⟨⟨(hk2).trans (q2).symm, hv3, trivial⟩, ?_⟩
    refine WH.ty 22 rfl rfl rfl g5 (fun _ _ => Pure.rd (.geq rfl rfl)) ⟨(hk2).trans (q2).symm, hv3, trivial⟩ rfl ?_
    refine WH.tp 23 rfl (.pkT rfl g5 rfl) ⟨(hk2).trans (q2).symm, hv3, trivial⟩ rfl ?_
    refine WH.done kR ?_
    refine W.cond rfl (fun h7 => ?_) (fun h7 => ?_)
    · have h7' := dT h7
      have hbl : blankB l[i] = true := by rw [← ib_blank]; exact decide_eq_true aS
      have hlt : i < t0 + k := Nat.lt_of_not_le fun q => by
        have e : i = t0 + k := by omega
        subst e
        rw [hE oO] at hbl
        cases hbl
      refine W.skip <| W.block <| W.reg <| WL.m rfl rfl <| WL.p (.nck rfl) rfl <| WL.p (.fa underlying57 rfl sizeOf3 dD rfl) rfl <| WL.r (Rd.ld (isAgg3 _) rfl hk2 rfl) rfl <| WL.p (.iis (((i + 1 : Nat) : Int)) (.add rfl rfl (i64w oO)) oO) rfl <| WL.p (.nck rfl) rfl <| WL.p (.fa underlying57 rfl sizeOf3 dD rfl) rfl <| WL.st sizeOf3 rfl rfl rfl hk2 oD (fun w8 hkw8 huw8 hsw8 => ?_)
      have hkw8 : Blk w8 br _ _ := hkw8
      have huw8 : Upd br _ _ := huw8
      have hv9 := BytesAt.upd hv3 huw8 (hpb)
      have hB10 := KeepB.trans hB4 (by first | exact KeepB.of_new huw8 oO | exact KeepB.of_mem huw8 (by simp))
      refine WL.nil <| ?_
      exact ⟨i + 1, ⟨rfl, rfl, trivial⟩, ⟨hB10, hkw8, hv9, by omega, by omega⟩, by omega⟩
    have h7' := dF h7
    have hik : i = t0 + k := by
      rcases Nat.lt_or_ge i (t0 + k) with q | q
      · have hbl := hB i oO oO q
        rw [← ib_blank] at hbl
        have := dT hbl
        omega
      · omega
    refine W.exit ?_
    have hik2 : i = t0 + k := by omega
    subst hik2
    refine W.reg <| WL.m rfl rfl <| WL.p (.nck rfl) rfl <| WL.p (.fa underlying57 rfl sizeOf3 dD rfl) rfl <| WL.r (Rd.ld (isAgg3 _) rfl hk2 rfl) rfl <| WL.m rfl rfl <| WL.p (.bis (true) (.gtr rfl rfl) (by simp; omega)) rfl <| WL.c1 hb22 rfl rfl ((pread_want _)) (fun w11 hw11 => ?_)
    obtain rfl := hw11
    refine WL.nil <| ?_
    refine W.norm (W.ret0 rfl ?_)
    exact ⟨rfl, hB4, hk2⟩
  have g5' := dF g5
  refine WH.tn 11 rfl rfl rfl g5 ⟨(hk2).trans (q2).symm, hv3, trivial⟩ rfl ?_
  refine WH.tn 12 rfl rfl rfl g5 ⟨(hk2).trans (q2).symm, hv3, trivial⟩ rfl ?_
  refine WH.tn 13 rfl rfl rfl g5 ⟨(hk2).trans (q2).symm, hv3, trivial⟩ rfl ?_
  refine WH.tn 14 rfl rfl rfl g5 ⟨(hk2).trans (q2).symm, hv3, trivial⟩ rfl ?_
  refine WH.tn 15 rfl rfl rfl g5 ⟨(hk2).trans (q2).symm, hv3, trivial⟩ rfl ?_
  refine WH.tn 16 rfl rfl rfl g5 ⟨(hk2).trans (q2).symm, hv3, trivial⟩ rfl ?_
  refine WH.tn 17 rfl rfl rfl g5 ⟨(hk2).trans (q2).symm, hv3, trivial⟩ rfl ?_
  refine WH.tn 18 rfl rfl rfl g5 ⟨(hk2).trans (q2).symm, hv3, trivial⟩ rfl ?_
  refine WH.tn 19 rfl rfl rfl g5 ⟨(hk2).trans (q2).symm, hv3, trivial⟩ rfl ?_
  refine WH.tn 20 rfl rfl rfl g5 ⟨(hk2).trans (q2).symm, hv3, trivial⟩ rfl ?_
  refine WH.tn 21 rfl rfl rfl g5 ⟨(hk2).trans (q2).symm, hv3, trivial⟩ rfl ?_
  refine WH.tn 22 rfl rfl rfl g5 ⟨(hk2).trans (q2).symm, hv3, trivial⟩ rfl ?_
  refine WH.tp 23 rfl (.pkF rfl g5 rfl) ⟨(hk2).trans (q2).symm, hv3, trivial⟩ rfl ?_
  refine WH.done kR ?_
  refine W.condF rfl rfl ?_
  refine W.exit ?_
  have hik2 : i = t0 + k := by omega
  subst hik2
  refine W.reg <| WL.m rfl rfl <| WL.p (.nck rfl) rfl <| WL.p (.fa underlying57 rfl sizeOf3 dD rfl) rfl <| WL.r (Rd.ld (isAgg3 _) rfl hk2 rfl) rfl <| WL.m rfl rfl <| WL.p (.bis (true) (.gtr rfl rfl) (by simp; omega)) rfl <| WL.c1 hb22 rfl rfl ((pread_want _)) (fun w12 hw12 => ?_)
  obtain rfl := hw12
  refine WL.nil <| ?_
  refine W.norm (W.ret0 rfl ?_)
  exact ⟨rfl, hB4, hk2⟩
end
section
/-- where an object begins, if the file has it -/
theorem rd_place (bf bm m cnt : Nat) (cs : Array Value) (p : Option Addr) (l : List UInt8) (c : Nat) (g : Int → Option Int) (n a : Int) (w : World) (h : Blk w bf cs 60) (h0 : cs[0]? = some (.slice p l.length c)) (h1 : cs[1]? = some (.map (some bm)))
  (hm : MapI Tryz.prog 3 3 w bm m g cnt) (hn : (Lit.int .i64 n).wf = true) (hg : g n = some a) (ha : a ≤ l.length) :
  Calls Tryz.prog 30 #[.pointer (some ⟨bf, 0, none⟩), .int .i64 n] w fun e w' => e = .returned (.int .i64 a) ∧ w = w' := by
 refine W.enter func30 rfl ntmps30 (Nat.le_of_ble_eq_true rfl) ?_
 refine W.sr <| WL.z rfl rfl ?_
 refine W.sr <| WL.m rfl rfl <| WL.p (.nck rfl) rfl <| WL.p (.fa underlying60 rfl sizeOf58 dD rfl) rfl <| WL.r (Rd.ld (isAgg58 _) rfl h h1) rfl <| WL.m rfl rfl <| WL.r (Rd.lkIok hm underlying3 underlying3 underlying58 zeroValue3 rfl rfl hn) rfl <| WL.m rfl rfl <| WL.p (.iis (a) (.ext rfl rfl) (by rw [hg]; rfl)) rfl <| WL.p (.bis (true) (.ext rfl rfl) (by rw [hg]; rfl)) rfl <| WL.a rfl rfl <| WL.z rfl rfl ?_
 refine W.seq <| W.sr <| WL.m rfl rfl <| WL.p (.not rfl) rfl <| WL.nil <| ?_
 refine W.condF rfl rfl ?_
 refine W.skip <| W.sr <| WL.m rfl rfl <| WL.m rfl rfl <| WL.p (.nck rfl) rfl <| WL.p (.fa underlying60 rfl sizeOf26 dD rfl) rfl <| WL.r (Rd.ld (isAgg26 _) rfl h h0) rfl <| WL.p (.lenS underlying26 rfl) rfl <| WL.p (.bis (true) (.leq rfl rfl) (by simp; omega)) rfl <| WL.c1 hb22 rfl rfl ((pread_want _)) (fun w1 hw1 => ?_)
 obtain rfl := hw1
 refine WL.nil <| ?_
 refine W.sr <| WL.m rfl rfl <| WL.z rfl rfl ?_
 refine W.ret (W.ret1 rfl rfl ?_)
 exact ⟨rfl, rfl⟩
end
section
theorem ten_dig {n : Nat} (_ : n < 10000000000) : (tenL n).all isDig = true := List.all_eq_true.2 fun c hc => by
 have := ten_all n c hc
 unfold isDig
 simp [this.1, this.2]
theorem natOf_ten (n : Nat) : natOf (tenL n) = n := numF_ten n
/-- an entry of the table: where it leads -/
theorem rd_entry (br : Nat) (p : Option Addr) (l : List UInt8) (c t n : Nat) (r : List UInt8) (w : World) (h : Blk w br (rdC p l c t) 57) (hb : BytesAt w p l) (hc : l.length ≤ c) (hl : l.length ≤ 100000000)
  (hpb : 0 < l.length → (pA p).block ≠ br) (hn : n < 10000000000) (he : l.drop t = entryF n ++ r) :
  Calls Tryz.prog 68 #[.pointer (some ⟨br, 0, none⟩)] w fun e w' => e = .returned (.tuple #[.int .i64 (n : Int), .bool true]) ∧ KeepB w.heap.size [br] w w' ∧ Blk w' br (rdC p l c (t + 20)) 57 := by
 obtain ⟨a1, a2, a3, a4⟩ := entry_at hn he
 have t10 := tenL_len hn
 have hXl : (tenL n ++ f_used).length = 20 := by rw [List.length_append, t10]; rfl
 have hX : (l.drop t).take (t + 20 - t) = tenL n ++ f_used := by
  rw [he, entryF, show t + 20 - t = (tenL n ++ f_used).length by omega, List.take_left]
 have hX0 : ((tenL n ++ f_used).drop 0).take (10 - 0) = tenL n := by
  rw [List.drop_zero, show 10 - 0 = (tenL n).length by omega, List.take_left]
 have hXd : ∀ j, (tenL n ++ f_used).drop (10 + j) = f_used.drop j := fun j => by rw [← List.drop_drop, ← t10, List.drop_left]
 have hX1 : ((tenL n ++ f_used).drop 11).take (16 - 11) = [48, 48, 48, 48, 48] := by rw [hXd 1]; rfl
 have hX2 : ((tenL n ++ f_used).drop 18).take (20 - 18) = [32, 10] := by rw [hXd 8]; rfl
 have hXi : ∀ j (h1 : 10 + j < (tenL n ++ f_used).length) (h2 : j < f_used.length), (tenL n ++ f_used)[10 + j] = f_used[j] := fun j h1 h2 => by
  rw [List.getElem_append_right oO]
  congr 1; omega
 have i10 : (tenL n ++ f_used)[10]'oO = 32 := hXi 0 _ dD
 have i16 : (tenL n ++ f_used)[16]'oO = 32 := hXi 6 _ dD
 have i17 : (tenL n ++ f_used)[17]'oO = 110 := hXi 7 _ dD
 refine W.enter func68 rfl ntmps68 (Nat.le_of_ble_eq_true rfl) ?_
 have hB0 := KeepB.refl w.heap.size ([br]) w
 refine W.sr <| WL.a rfl rfl <| WL.z rfl rfl ?_
 refine W.seq <| W.regH 12 rfl mixed (fun w' => w'.heap[br]? = w.heap[br]? ∧ True) (fun w1 dw1 => ?_)
 have hk2 := h.drew dw1
 have hv3 := hb.drew dw1
 have hB4 := KeepB.trans hB0 (KeepB.of_drew dw1)
 refine WH.tp 0 rfl (.mv rfl) ⟨(hk2).trans (h).symm, trivial⟩ rfl ?_
 refine WH.tp 1 rfl (.nck rfl) ⟨(hk2).trans (h).symm, trivial⟩ rfl ?_
 refine WH.tp 2 rfl (.fa underlying57 rfl sizeOf26 dD rfl) ⟨(hk2).trans (h).symm, trivial⟩ rfl ?_
 refine WH.tk 3 rfl (fun w' hw' => Rd.ld (isAgg26 _) rfl ((hw'.1).trans h) rfl) ⟨(hk2).trans (h).symm, trivial⟩ rfl ?_
 refine WH.tp 4 rfl (.lenS underlying26 rfl) ⟨(hk2).trans (h).symm, trivial⟩ rfl ?_
 refine WH.tp 5 rfl (.mv rfl) ⟨(hk2).trans (h).symm, trivial⟩ rfl ?_
 refine WH.tp 6 rfl (.nck rfl) ⟨(hk2).trans (h).symm, trivial⟩ rfl ?_
 refine WH.tp 7 rfl (.fa underlying57 rfl sizeOf3 dD rfl) ⟨(hk2).trans (h).symm, trivial⟩ rfl ?_
 refine WH.tk 8 rfl (fun w' hw' => Rd.ld (isAgg3 _) rfl ((hw'.1).trans h) rfl) ⟨(hk2).trans (h).symm, trivial⟩ rfl ?_
 refine WH.tp 9 rfl (.sub rfl rfl (i64w oO)) ⟨(hk2).trans (h).symm, trivial⟩ rfl ?_
 refine WH.tp 10 rfl (.bis (true) (.geq rfl rfl) (by simp; omega)) ⟨(hk2).trans (h).symm, trivial⟩ rfl ?_
 refine WH.br1 11 rfl ?_
 refine WL.c1 hb22 rfl rfl ((pread_want _)) (fun w5 hw5 => ?_)
 obtain rfl := hw5
 refine WL.nil <| ?_
 refine ⟨⟨(hk2).trans (h).symm, trivial⟩, ?_⟩
 refine WH.done kR ?_
 refine W.seq <| W.regH 15 rfl mixed (fun w' => w'.heap[br]? = w1.heap[br]? ∧ True) (fun w6 dw6 => ?_)
 have hk7 := hk2.drew dw6
 have hv8 := hv3.drew dw6
 have hB9 := KeepB.trans hB4 (KeepB.of_drew dw6)
 refine WH.tp 0 rfl (.mv rfl) ⟨(hk7).trans (hk2).symm, trivial⟩ rfl ?_
 refine WH.tp 1 rfl (.nck rfl) ⟨(hk7).trans (hk2).symm, trivial⟩ rfl ?_
 refine WH.tp 2 rfl (.fa underlying57 rfl sizeOf26 dD rfl) ⟨(hk7).trans (hk2).symm, trivial⟩ rfl ?_
 refine WH.tk 3 rfl (fun w' hw' => Rd.ld (isAgg26 _) rfl ((hw'.1).trans hk2) rfl) ⟨(hk7).trans (hk2).symm, trivial⟩ rfl ?_
 refine WH.tp 4 rfl (.mv rfl) ⟨(hk7).trans (hk2).symm, trivial⟩ rfl ?_
 refine WH.tp 5 rfl (.nck rfl) ⟨(hk7).trans (hk2).symm, trivial⟩ rfl ?_
 refine WH.tp 6 rfl (.fa underlying57 rfl sizeOf3 dD rfl) ⟨(hk7).trans (hk2).symm, trivial⟩ rfl ?_
 refine WH.tk 7 rfl (fun w' hw' => Rd.ld (isAgg3 _) rfl ((hw'.1).trans hk2) rfl) ⟨(hk7).trans (hk2).symm, trivial⟩ rfl ?_
 refine WH.tp 8 rfl (.mv rfl) ⟨(hk7).trans (hk2).symm, trivial⟩ rfl ?_
 refine WH.tp 9 rfl (.nck rfl) ⟨(hk7).trans (hk2).symm, trivial⟩ rfl ?_
 refine WH.tp 10 rfl (.fa underlying57 rfl sizeOf3 dD rfl) ⟨(hk7).trans (hk2).symm, trivial⟩ rfl ?_
 refine WH.tk 11 rfl (fun w' hw' => Rd.ld (isAgg3 _) rfl ((hw'.1).trans hk2) rfl) ⟨(hk7).trans (hk2).symm, trivial⟩ rfl ?_
 refine WH.tp 12 rfl (.add rfl rfl (i64w oO)) ⟨(hk7).trans (hk2).symm, trivial⟩ rfl ?_
 refine WH.tp 13 rfl (.slb underlying26 sizeOf5 rfl rfl rfl  (t) (t + 20) (rfl) (oO) (oO) (oO)) ⟨(hk7).trans (hk2).symm, trivial⟩ rfl ?_
 refine WH.tp 14 rfl (.as rfl) ⟨(hk7).trans (hk2).symm, trivial⟩ rfl ?_
 refine WH.done kR ?_
 refine W.sr <| WL.m rfl rfl <| WL.p (.nck rfl) rfl <| WL.p (.fa underlying57 rfl sizeOf3 dD rfl) rfl <| WL.r (Rd.ld (isAgg3 _) rfl hk7 rfl) rfl <| WL.p (.add rfl rfl (i64w oO)) rfl <| WL.p (.nck rfl) rfl <| WL.p (.fa underlying57 rfl sizeOf3 dD rfl) rfl <| WL.st sizeOf3 rfl rfl rfl hk7 oD (fun w10 hkw10 huw10 hsw10 => ?_)
 have hkw10 : Blk w10 br _ _ := hkw10
 have huw10 : Upd br _ _ := huw10
 have hv11 := BytesAt.upd hv8 huw10 (hpb)
 have hB12 := KeepB.trans hB9 (by first | exact KeepB.of_new huw10 oO | exact KeepB.of_mem huw10 (by simp))
 refine WL.nil <| ?_
 refine W.seq ?_
 have hx : BytesAt w10 (pPart p c t) (tenL n ++ f_used) := by
  have q := BytesAt.part (a := t) (b := t + 20) hv11 oO oO hc
  rwa [hX] at q
 have hx0 : BytesAt w10 (pPart (pPart p c t) (c - t) 0) (tenL n) := by
  have q := BytesAt.part (a := 0) (b := 10) (c := c - t) hx oO oO oO
  rwa [hX0] at q
 refine W.reg <| WL.m rfl rfl <| WL.p (.slbT underlying26 sizeOf5 rfl rfl  10 rfl oO) rfl <| WL.c1 hb49 rfl rfl ((rd_fixed _ (tenL n) 10 _ _ (tenL_len hn) hx0 oO (ten_dig hn))) (fun w13 hw13 => ?_)
 have hk14 := hkw10.below hw13 hkw10.lt
 have hv16 := BytesAt.below hx hw13 (fun h0 => hx.lt h0)
 have hB17 := KeepB.trans hB12 (KeepB.of_below hw13 hB12.size)
 refine WL.z rfl rfl ?_
 refine W.seq ?_
 have hx1 : BytesAt w13 (pPart (pPart p c t) (c - t) 11) [48, 48, 48, 48, 48] := by
  have q := BytesAt.part (a := 11) (b := 16) (c := c - t) hv16 oO oO oO
  rwa [hX1] at q
 refine W.reg <| WL.m rfl rfl <| WL.p (.slb underlying26 sizeOf5 rfl rfl rfl  11 16 rfl rfl oO oO) rfl <| WL.c1 hb49 rfl rfl ((rd_fixed _ [48, 48, 48, 48, 48] 5 _ _ rfl hx1 dD dD)) (fun w18 hw18 => ?_)
 have hk19 := hk14.below hw18 hk14.lt
 have hv21 := BytesAt.below hv16 hw18 (fun h0 => hv16.lt h0)
 have hB22 := KeepB.trans hB17 (KeepB.of_below hw18 hB17.size)
 refine WL.nil <| ?_
 refine W.seq ?_
 have hx2 : BytesAt w18 (pPart (pPart p c t) (c - t) 18) [32, 10] := by
  have q := BytesAt.part (a := 18) (b := 20) (c := c - t) hv21 oO oO oO
  rwa [hX2] at q
 refine W.reg <| WL.m rfl rfl <| WL.p (.slbF underlying26 sizeOf5 rfl rfl  (18) (rfl) (oO)) rfl <| WL.r (Rd.b2sN (l := [32, 10]) underlying26 underlying5 underlying9 rfl ((by show t + 20 - t - 18 = 2; omega)) (hx2)) rfl <| WL.z rfl rfl ?_
 refine W.sr <| WL.m rfl rfl <| WL.p (.ixb underlying26 sizeOf5 rfl rfl (hv21.isp oO) (10) (rfl) oO) rfl <| WL.r (Rd.ldc (isAgg5 _) rfl (hv21.cells (10) oO)) rfl <| WL.p (.bis (true) (.eql rfl rfl) (by rw [i10]; rfl)) rfl <| WL.m rfl rfl <| WL.gy rfl rfl rfl rfl <| WL.m rfl rfl <| WL.gy rfl rfl rfl rfl <| WL.p (.ixb underlying26 sizeOf5 rfl rfl (hv21.isp oO) (16) (rfl) oO) rfl <| WL.gy rfl rfl rfl rfl <| WL.r (Rd.ldc (isAgg5 _) rfl (hv21.cells (16) oO)) rfl <| WL.gy rfl rfl rfl rfl <| WL.p (.bis (true) (.eql rfl rfl) (by rw [i16]; rfl)) rfl <| WL.p (.pkT rfl rfl rfl) rfl <| WL.m rfl rfl <| WL.gy rfl rfl rfl rfl <| WL.m rfl rfl <| WL.gy rfl rfl rfl rfl <| WL.p (.ixb underlying26 sizeOf5 rfl rfl (hv21.isp oO) (17) (rfl) oO) rfl <| WL.gy rfl rfl rfl rfl <| WL.r (Rd.ldc (isAgg5 _) rfl (hv21.cells (17) oO)) rfl <| WL.gy rfl rfl rfl rfl <| WL.p (.bis (true) (.eql rfl rfl) (by rw [i17]; rfl)) rfl <| WL.gy rfl rfl rfl rfl <| WL.m rfl rfl <| WL.gn rfl rfl rfl rfl <| WL.gn rfl rfl rfl rfl <| WL.gn rfl rfl rfl rfl <| WL.gn rfl rfl rfl rfl <| WL.gy rfl rfl rfl rfl <| WL.p (.pkT rfl rfl rfl) rfl <| WL.p (.pkT rfl rfl rfl) rfl <| WL.m rfl rfl <| WL.gy rfl rfl rfl rfl <| WL.m rfl rfl <| WL.gy rfl rfl rfl rfl <| WL.p (.bis (false) (.eqs rfl rfl) dD) rfl <| WL.gy rfl rfl rfl rfl <| WL.m rfl rfl <| WL.gy rfl rfl rfl rfl <| WL.m rfl rfl <| WL.gy rfl rfl rfl rfl <| WL.p (.bis (true) (.eqs rfl rfl) dD) rfl <| WL.gy rfl rfl rfl rfl <| WL.p (.pkF rfl rfl rfl) rfl <| WL.gy rfl rfl rfl rfl <| WL.m rfl rfl <| WL.gn rfl rfl rfl rfl <| WL.gn rfl rfl rfl rfl <| WL.gy rfl rfl rfl rfl <| WL.p (.pkT rfl rfl rfl) rfl <| WL.p (.pkT rfl rfl rfl) rfl <| WL.c1 hb22 rfl rfl ((pread_want _)) (fun w23 hw23 => ?_)
 obtain rfl := hw23
 refine WL.nil <| ?_
 refine W.seq <| W.regQ mixed kR ?_
 refine WQ.p (.mv rfl) rfl <| WQ.p (.mv rfl) rfl <| WQ.p (.ixb underlying26 sizeOf5 rfl rfl (hv21.isp oO) (17) (rfl) oO) rfl <| WQ.r (fun m => Rd.ldc (isAgg5 _) rfl ((hv21.drewN m).cells (17) oO)) rfl <| WQ.p (.bis (true) (.eql rfl rfl) (by rw [i17]; rfl)) rfl <| WQ.p (.as rfl) rfl <| WQ.p (.as rfl) rfl <| WQ.nil (fun w24 dw24 => ?_)
 have hk25 := hk19.drew dw24
 have hB28 := KeepB.trans hB22 (KeepB.of_drew dw24)
 refine W.ret (W.ret2 rfl rfl rfl ?_)
 exact ⟨rvE (by rw [natOf_ten]), hB28, hk25⟩
/-- the first entry: no object -/
theorem rd_entry0 (br : Nat) (p : Option Addr) (l : List UInt8) (c t : Nat) (r : List UInt8) (w : World) (h : Blk w br (rdC p l c t) 57) (hb : BytesAt w p l) (hc : l.length ≤ c) (hl : l.length ≤ 100000000)
  (hpb : 0 < l.length → (pA p).block ≠ br) (ht : t + 20 ≤ l.length) (he : l.drop t = f_first ++ r) :
  Calls Tryz.prog 68 #[.pointer (some ⟨br, 0, none⟩)] w fun e w' => e = .returned (.tuple #[.int .i64 0, .bool false]) ∧ KeepB w.heap.size [br] w w' ∧ Blk w' br (rdC p l c (t + 20)) 57 := by
 have hX : (l.drop t).take (t + 20 - t) = f_first := by
  rw [he, show t + 20 - t = f_first.length by show _ = 20; omega, List.take_left]
 have hX0 : (f_first.drop 0).take (10 - 0) = [48, 48, 48, 48, 48, 48, 48, 48, 48, 48] := rfl
 have hX1 : (f_first.drop 11).take (16 - 11) = [54, 53, 53, 51, 53] := rfl
 have hX2 : (f_first.drop 18).take (20 - 18) = [32, 10] := rfl
 have hXl : f_first.length = 20 := rfl
 have i10 : f_first[10]'dD = 32 := rfl
 have i16 : f_first[16]'dD = 32 := rfl
 have i17 : f_first[17]'dD = 102 := rfl
 refine W.enter func68 rfl ntmps68 (Nat.le_of_ble_eq_true rfl) ?_
 have hB0 := KeepB.refl w.heap.size ([br]) w
 refine W.sr <| WL.a rfl rfl <| WL.z rfl rfl ?_
 refine W.seq <| W.regH 12 rfl mixed (fun w' => w'.heap[br]? = w.heap[br]? ∧ True) (fun w1 dw1 => ?_)
 have hk2 := h.drew dw1
 have hv3 := hb.drew dw1
 have hB4 := KeepB.trans hB0 (KeepB.of_drew dw1)
 refine WH.tp 0 rfl (.mv rfl) ⟨(hk2).trans (h).symm, trivial⟩ rfl ?_
 refine WH.tp 1 rfl (.nck rfl) ⟨(hk2).trans (h).symm, trivial⟩ rfl ?_
 refine WH.tp 2 rfl (.fa underlying57 rfl sizeOf26 dD rfl) ⟨(hk2).trans (h).symm, trivial⟩ rfl ?_
 refine WH.tk 3 rfl (fun w' hw' => Rd.ld (isAgg26 _) rfl ((hw'.1).trans h) rfl) ⟨(hk2).trans (h).symm, trivial⟩ rfl ?_
 refine WH.tp 4 rfl (.lenS underlying26 rfl) ⟨(hk2).trans (h).symm, trivial⟩ rfl ?_
 refine WH.tp 5 rfl (.mv rfl) ⟨(hk2).trans (h).symm, trivial⟩ rfl ?_
 refine WH.tp 6 rfl (.nck rfl) ⟨(hk2).trans (h).symm, trivial⟩ rfl ?_
 refine WH.tp 7 rfl (.fa underlying57 rfl sizeOf3 dD rfl) ⟨(hk2).trans (h).symm, trivial⟩ rfl ?_
 refine WH.tk 8 rfl (fun w' hw' => Rd.ld (isAgg3 _) rfl ((hw'.1).trans h) rfl) ⟨(hk2).trans (h).symm, trivial⟩ rfl ?_
 refine WH.tp 9 rfl (.sub rfl rfl (i64w oO)) ⟨(hk2).trans (h).symm, trivial⟩ rfl ?_
 refine WH.tp 10 rfl (.bis (true) (.geq rfl rfl) (by simp; omega)) ⟨(hk2).trans (h).symm, trivial⟩ rfl ?_
 refine WH.br1 11 rfl ?_
 refine WL.c1 hb22 rfl rfl ((pread_want _)) (fun w5 hw5 => ?_)
 obtain rfl := hw5
 refine WL.nil <| ?_
 refine ⟨⟨(hk2).trans (h).symm, trivial⟩, ?_⟩
 refine WH.done kR ?_
 refine W.seq <| W.regH 15 rfl mixed (fun w' => w'.heap[br]? = w1.heap[br]? ∧ True) (fun w6 dw6 => ?_)
 have hk7 := hk2.drew dw6
 have hv8 := hv3.drew dw6
 have hB9 := KeepB.trans hB4 (KeepB.of_drew dw6)
 refine WH.tp 0 rfl (.mv rfl) ⟨(hk7).trans (hk2).symm, trivial⟩ rfl ?_
 refine WH.tp 1 rfl (.nck rfl) ⟨(hk7).trans (hk2).symm, trivial⟩ rfl ?_
 refine WH.tp 2 rfl (.fa underlying57 rfl sizeOf26 dD rfl) ⟨(hk7).trans (hk2).symm, trivial⟩ rfl ?_
 refine WH.tk 3 rfl (fun w' hw' => Rd.ld (isAgg26 _) rfl ((hw'.1).trans hk2) rfl) ⟨(hk7).trans (hk2).symm, trivial⟩ rfl ?_
 refine WH.tp 4 rfl (.mv rfl) ⟨(hk7).trans (hk2).symm, trivial⟩ rfl ?_
 refine WH.tp 5 rfl (.nck rfl) ⟨(hk7).trans (hk2).symm, trivial⟩ rfl ?_
 refine WH.tp 6 rfl (.fa underlying57 rfl sizeOf3 dD rfl) ⟨(hk7).trans (hk2).symm, trivial⟩ rfl ?_
 refine WH.tk 7 rfl (fun w' hw' => Rd.ld (isAgg3 _) rfl ((hw'.1).trans hk2) rfl) ⟨(hk7).trans (hk2).symm, trivial⟩ rfl ?_
 refine WH.tp 8 rfl (.mv rfl) ⟨(hk7).trans (hk2).symm, trivial⟩ rfl ?_
 refine WH.tp 9 rfl (.nck rfl) ⟨(hk7).trans (hk2).symm, trivial⟩ rfl ?_
 refine WH.tp 10 rfl (.fa underlying57 rfl sizeOf3 dD rfl) ⟨(hk7).trans (hk2).symm, trivial⟩ rfl ?_
 refine WH.tk 11 rfl (fun w' hw' => Rd.ld (isAgg3 _) rfl ((hw'.1).trans hk2) rfl) ⟨(hk7).trans (hk2).symm, trivial⟩ rfl ?_
 refine WH.tp 12 rfl (.add rfl rfl (i64w oO)) ⟨(hk7).trans (hk2).symm, trivial⟩ rfl ?_
 refine WH.tp 13 rfl (.slb underlying26 sizeOf5 rfl rfl rfl  (t) (t + 20) (rfl) (oO) (oO) (oO)) ⟨(hk7).trans (hk2).symm, trivial⟩ rfl ?_
 refine WH.tp 14 rfl (.as rfl) ⟨(hk7).trans (hk2).symm, trivial⟩ rfl ?_
 refine WH.done kR ?_
 refine W.sr <| WL.m rfl rfl <| WL.p (.nck rfl) rfl <| WL.p (.fa underlying57 rfl sizeOf3 dD rfl) rfl <| WL.r (Rd.ld (isAgg3 _) rfl hk7 rfl) rfl <| WL.p (.add rfl rfl (i64w oO)) rfl <| WL.p (.nck rfl) rfl <| WL.p (.fa underlying57 rfl sizeOf3 dD rfl) rfl <| WL.st sizeOf3 rfl rfl rfl hk7 oD (fun w10 hkw10 huw10 hsw10 => ?_)
 have hkw10 : Blk w10 br _ _ := hkw10
 have huw10 : Upd br _ _ := huw10
 have hv11 := BytesAt.upd hv8 huw10 (hpb)
 have hB12 := KeepB.trans hB9 (by first | exact KeepB.of_new huw10 oO | exact KeepB.of_mem huw10 (by simp))
 refine WL.nil <| ?_
 refine W.seq ?_
 have hx : BytesAt w10 (pPart p c t) f_first := by
  have q := BytesAt.part (a := t) (b := t + 20) hv11 oO oO hc
  rwa [hX] at q
 have hx0 : BytesAt w10 (pPart (pPart p c t) (c - t) 0) [48, 48, 48, 48, 48, 48, 48, 48, 48, 48] := by
  have q := BytesAt.part (a := 0) (b := 10) (c := c - t) hx oO oO oO
  rwa [hX0] at q
 refine W.reg <| WL.m rfl rfl <| WL.p (.slbT underlying26 sizeOf5 rfl rfl  10 rfl oO) rfl <| WL.c1 hb49 rfl rfl ((rd_fixed _ [48, 48, 48, 48, 48, 48, 48, 48, 48, 48] 10 _ _ rfl hx0 dD dD)) (fun w13 hw13 => ?_)
 have hk14 := hkw10.below hw13 hkw10.lt
 have hv16 := BytesAt.below hx hw13 (fun h0 => hx.lt h0)
 have hB17 := KeepB.trans hB12 (KeepB.of_below hw13 hB12.size)
 refine WL.z rfl rfl ?_
 refine W.seq ?_
 have hx1 : BytesAt w13 (pPart (pPart p c t) (c - t) 11) [54, 53, 53, 51, 53] := by
  have q := BytesAt.part (a := 11) (b := 16) (c := c - t) hv16 oO oO oO
  rwa [hX1] at q
 refine W.reg <| WL.m rfl rfl <| WL.p (.slb underlying26 sizeOf5 rfl rfl rfl  11 16 rfl rfl oO oO) rfl <| WL.c1 hb49 rfl rfl ((rd_fixed _ [54, 53, 53, 51, 53] 5 _ _ rfl hx1 dD dD)) (fun w18 hw18 => ?_)
 have hk19 := hk14.below hw18 hk14.lt
 have hv21 := BytesAt.below hv16 hw18 (fun h0 => hv16.lt h0)
 have hB22 := KeepB.trans hB17 (KeepB.of_below hw18 hB17.size)
 refine WL.nil <| ?_
 refine W.seq ?_
 have hx2 : BytesAt w18 (pPart (pPart p c t) (c - t) 18) [32, 10] := by
  have q := BytesAt.part (a := 18) (b := 20) (c := c - t) hv21 oO oO oO
  rwa [hX2] at q
 refine W.reg <| WL.m rfl rfl <| WL.p (.slbF underlying26 sizeOf5 rfl rfl  (18) (rfl) (oO)) rfl <| WL.r (Rd.b2sN (l := [32, 10]) underlying26 underlying5 underlying9 rfl ((by show t + 20 - t - 18 = 2; omega)) (hx2)) rfl <| WL.z rfl rfl ?_
 refine W.sr <| WL.m rfl rfl <| WL.p (.ixb underlying26 sizeOf5 rfl rfl (hv21.isp oO) (10) (rfl) oO) rfl <| WL.r (Rd.ldc (isAgg5 _) rfl (hv21.cells (10) oO)) rfl <| WL.p (.bis (true) (.eql rfl rfl) (by rw [i10]; rfl)) rfl <| WL.m rfl rfl <| WL.gy rfl rfl rfl rfl <| WL.m rfl rfl <| WL.gy rfl rfl rfl rfl <| WL.p (.ixb underlying26 sizeOf5 rfl rfl (hv21.isp oO) (16) (rfl) oO) rfl <| WL.gy rfl rfl rfl rfl <| WL.r (Rd.ldc (isAgg5 _) rfl (hv21.cells (16) oO)) rfl <| WL.gy rfl rfl rfl rfl <| WL.p (.bis (true) (.eql rfl rfl) (by rw [i16]; rfl)) rfl <| WL.p (.pkT rfl rfl rfl) rfl <| WL.m rfl rfl <| WL.gy rfl rfl rfl rfl <| WL.m rfl rfl <| WL.gy rfl rfl rfl rfl <| WL.p (.ixb underlying26 sizeOf5 rfl rfl (hv21.isp oO) (17) (rfl) oO) rfl <| WL.gy rfl rfl rfl rfl <| WL.r (Rd.ldc (isAgg5 _) rfl (hv21.cells (17) oO)) rfl <| WL.gy rfl rfl rfl rfl <| WL.p (.bis (false) (.eql rfl rfl) (by rw [i17]; rfl)) rfl <| WL.gy rfl rfl rfl rfl <| WL.m rfl rfl <| WL.gy rfl rfl rfl rfl <| WL.m rfl rfl <| WL.gy rfl rfl rfl rfl <| WL.p (.ixb underlying26 sizeOf5 rfl rfl (hv21.isp oO) (17) (rfl) oO) rfl <| WL.gy rfl rfl rfl rfl <| WL.r (Rd.ldc (isAgg5 _) rfl (hv21.cells (17) oO)) rfl <| WL.gy rfl rfl rfl rfl <| WL.p (.bis (true) (.eql rfl rfl) (by rw [i17]; rfl)) rfl <| WL.gy rfl rfl rfl rfl <| WL.p (.pkF rfl rfl rfl) rfl <| WL.p (.pkT rfl rfl rfl) rfl <| WL.m rfl rfl <| WL.gy rfl rfl rfl rfl <| WL.m rfl rfl <| WL.gy rfl rfl rfl rfl <| WL.p (.bis (false) (.eqs rfl rfl) dD) rfl <| WL.gy rfl rfl rfl rfl <| WL.m rfl rfl <| WL.gy rfl rfl rfl rfl <| WL.m rfl rfl <| WL.gy rfl rfl rfl rfl <| WL.p (.bis (true) (.eqs rfl rfl) dD) rfl <| WL.gy rfl rfl rfl rfl <| WL.p (.pkF rfl rfl rfl) rfl <| WL.gy rfl rfl rfl rfl <| WL.m rfl rfl <| WL.gn rfl rfl rfl rfl <| WL.gn rfl rfl rfl rfl <| WL.gy rfl rfl rfl rfl <| WL.p (.pkT rfl rfl rfl) rfl <| WL.p (.pkT rfl rfl rfl) rfl <| WL.c1 hb22 rfl rfl ((pread_want _)) (fun w23 hw23 => ?_)
 obtain rfl := hw23
 refine WL.nil <| ?_
 refine W.seq <| W.regQ mixed kR ?_
 refine WQ.p (.mv rfl) rfl <| WQ.p (.mv rfl) rfl <| WQ.p (.ixb underlying26 sizeOf5 rfl rfl (hv21.isp oO) (17) (rfl) oO) rfl <| WQ.r (fun m => Rd.ldc (isAgg5 _) rfl ((hv21.drewN m).cells (17) oO)) rfl <| WQ.p (.bis (false) (.eql rfl rfl) (by rw [i17]; rfl)) rfl <| WQ.p (.as rfl) rfl <| WQ.p (.as rfl) rfl <| WQ.nil (fun w24 dw24 => ?_)
 have hk25 := hk19.drew dw24
 have hB28 := KeepB.trans hB22 (KeepB.of_drew dw24)
 refine W.ret (W.ret2 rfl rfl rfl ?_)
 exact ⟨rvE (by rfl), hB28, hk25⟩
end
section
/-- what Object answers: object, place, error -/
def objT (l : List UInt8) (a d : Int) : PV × Int × Int :=
 if a < 0 ∨ (l.length : Int) < a then (pv0 0 0 [], 0, 21)
 else if skipAt false l a.toNat < l.length then
  (match objP true l d.toNat (skipAt false l a.toNat) with
   | .ok (o, t') => (o, t', 0)
   | .error k => (pv0 0 0 [], 0, k))
 else (pv0 0 0 [], 0, 26)
/-- an answer of Object as it lies in memory, in blocks from B on -/
def ObjA (B : Nat) (R : PV × Int × Int) (e : Ending) (w' : World) : Prop :=
 ∃ x : PC, e = .returned (.tuple #[.agg (pcV x).toArray, .int .i64 R.2.1, .int .i64 R.2.2]) ∧ PRep w' (fun k => B ≤ k) x R.1
theorem plex_Object (p : Option Addr) (l : List UInt8) (c : Nat) (a d : Int) (w : World) (hb : BytesAt w p l) (hc : l.length ≤ c) (hl : l.length ≤ 100000000) (hd : -9223372036854775808 < d ∧ d ≤ 1000000000) :
    Calls Tryz.prog 51 #[.slice p l.length c, .int .i64 a, .int .i64 d] w fun e w' => ObjA w.heap.size (objT l a d) e w' ∧ Below w.heap.size w w' := by
  obtain ⟨R, hR⟩ : ∃ R, R = objT l a d := ⟨_, rfl⟩
  rw [← hR]
  unfold objT at hR
  obtain ⟨t, ht⟩ : ∃ t, t = skipAt false l (insA l a) := ⟨_, rfl⟩
  have hSk : ∀ w1, BytesAt w1 p l → Calls Tryz.prog 34 #[.slice p l.length c, .int .i64 a] w1 fun e w' => e = .returned (.int .i64 (t : Int)) ∧ w1 = w' := fun w1 h1 => by rw [ht]; exact plex_Skip p l c a w1 h1 hl
  have htl : t ≤ l.length := by rw [ht]; exact skipAt_le _ _ _
  have hta : ¬ (a < 0 ∨ (l.length : Int) < a) → skipAt false l a.toNat = t := fun h => by rw [ht]; unfold insA; rw [if_neg h]
  refine W.enterD func51 rfl ntmps51 (Nat.le_of_ble_eq_true rfl) ?_
  have hB0 := Below.refl (w.heap.size) w
  refine WD.seq ?_
  refine W.reg <| WL.alloc zeroValue28 rfl (fun b1 wb1 eb1 hkb1 hub1 hsb1 => ?_)
  have hvl3 := fun h0 => eb1 ▸ hb.lt h0
  have hv2 := bup hb hub1 hvl3
  have hB4 := Upd.below hB0 (by rw [eb1]; exact hB0.size) hub1
  have hgeb1 : w.heap.size ≤ b1 := by rw [eb1]; exact hB0.size
  refine WL.alloc zeroValue3 rfl (fun b5 wb5 eb5 hkb5 hub5 hsb5 => ?_)
  have hl7 : b1 < b5 := by rw [eb5]; exact hkb1.lt
  have hk6 := hkb1.upd hub5 (Nat.ne_of_lt hl7)
  have hvl9 := fun h0 => eb5 ▸ hv2.lt h0
  have hv8 := bup hv2 hub5 hvl9
  have hB10 := Upd.below hB4 (by rw [eb5]; exact hB4.size) hub5
  have hgeb5 : w.heap.size ≤ b5 := by rw [eb5]; exact hB4.size
  refine WL.alloc zeroValue29 rfl (fun b11 wb11 eb11 hkb11 hub11 hsb11 => ?_)
  have hl13 : b1 < b11 := by rw [eb11]; exact hk6.lt
  have hk12 := hk6.upd hub11 (Nat.ne_of_lt hl13)
  have hl15 : b5 < b11 := by rw [eb11]; exact hkb5.lt
  have hk14 := hkb5.upd hub11 (Nat.ne_of_lt hl15)
  have hvl17 := fun h0 => eb11 ▸ hv8.lt h0
  have hv16 := bup hv8 hub11 hvl17
  have hB18 := Upd.below hB10 (by rw [eb11]; exact hB10.size) hub11
  have hgeb11 : w.heap.size ≤ b11 := by rw [eb11]; exact hB10.size
  refine WL.nil <| ?_
  refine WD.seq ?_
  refine W.cutB 17 (decide (a < 0 ∨ (l.length : Int) < a)) ?_ ?_
  refine W.reg <| WL.m rfl rfl <| WL.p (.lss rfl rfl) rfl <| WL.m rfl rfl <| WL.gd rfl rfl rfl (fun g19 => ?_) (fun g19 => ?_)
  · have g19' := dF g19
    refine WL.m rfl rfl <| WL.gy rfl rfl rfl g19 <| WL.m rfl rfl <| WL.gy rfl rfl rfl g19 <| WL.p (.lenS underlying26 rfl) rfl <| WL.gy rfl rfl rfl g19 <| WL.p (.gtr rfl rfl) rfl <| WL.p (.pkF rfl g19 rfl) rfl <| WL.nil <| ?_
    exact ⟨leF rfl, rfl⟩
  have g19' := dT g19
  refine WL.gn rfl rfl rfl g19 <| WL.gn rfl rfl rfl g19 <| WL.gn rfl rfl rfl g19 <| WL.p (.pkT rfl g19 rfl) rfl <| WL.nil <| ?_
  exact ⟨leF rfl, rfl⟩
  refine W.cond rfl (fun h20 => ?_) (fun h20 => ?_)
  · have h20' := dT h20
    rw [if_pos aS] at hR
    subst hR
    refine W.sr <| WL.p (.buildL (ps := _) blt28 rfl rfl rfl pZ) rfl ?_
    refine WL.stL rfl rfl hk12 isz28 rfl rfl (fun w21 hkw21 huw21 hsw21 => ?_)
    have hk22 := hk14.up huw21
    have hk23 := hkb11.up huw21
    have hB25 := Upd.below hB18 oO huw21
    refine WL.st sizeOf3 rfl rfl rfl hk22 oD (fun w26 hkw26 huw26 hsw26 => ?_)
    have hkw26 : Blk w26 b5 _ _ := hkw26
    have huw26 : Upd b5 _ _ := huw26
    have hk27 := hkw21.up huw26
    have hk28 := hk23.up huw26
    have hB30 := Upd.below hB25 oO huw26
    refine WL.st sizeOf29 rfl rfl rfl hk28 oD (fun w31 hkw31 huw31 hsw31 => ?_)
    have hkw31 : Blk w31 b11 _ _ := hkw31
    have huw31 : Upd b11 _ _ := huw31
    have hk32 := hk27.up huw31
    have hk33 := hkw26.up huw31
    have hB35 := Upd.below hB30 oO huw31
    refine WL.nil <| ?_
    refine W.ret ?_
    first
    | exact PostD.ret hb69 (fun w' => _) (plex_quiet b1 b5 b11 _ hkw31) (fun w' hS => by subst hS; exact ⟨_, ResOk.cells3 rfl rfl rfl rfl (ldRow hk32 underlying28 rfl isz28) (ldCell hk33 (isAgg3 _) rfl) (ldCell hkw31 (isAgg29 _) rfl), ⟨x1, ret_val rfl, (FACT).mono (fun k hk _ => hk.2)⟩, hB35⟩)
    | exact PostD.ret0 (ResOk.cells3 rfl rfl rfl rfl (ldRow hk32 underlying28 rfl isz28) (ldCell hk33 (isAgg3 _) rfl) (ldCell hkw31 (isAgg29 _) rfl)) ⟨⟨pc0 0 0 [], ret_val rfl, PRep.zero _ _ _ _ _⟩, hB35⟩
  have h20' := dF h20
  rw [if_neg aS, hta aS] at hR
  refine W.skip ?_
  refine WD.seq ?_
  refine W.reg <| WL.m rfl rfl <| WL.m rfl rfl <| WL.c1 hb34 rfl rfl ((hSk _ hv16)) (fun w36 hw36 => ?_)
  obtain rfl := hw36
  refine WL.z rfl rfl ?_
  refine WD.seq ?_
  refine W.sr <| WL.m rfl rfl <| WL.m rfl rfl <| WL.p (.lenS underlying26 rfl) rfl <| WL.p (.eql rfl rfl) rfl <| WL.nil <| ?_
  refine W.cond rfl (fun h37 => ?_) (fun h37 => ?_)
  · have h37' := dT h37
    rw [if_neg oO] at hR
    subst hR
    refine W.sr <| WL.p (.buildL (ps := _) blt28 rfl rfl rfl pZ) rfl ?_
    refine WL.stL rfl rfl hk12 isz28 rfl rfl (fun w38 hkw38 huw38 hsw38 => ?_)
    have hk39 := hk14.up huw38
    have hk40 := hkb11.up huw38
    have hB42 := Upd.below hB18 oO huw38
    refine WL.st sizeOf3 rfl rfl rfl hk39 oD (fun w43 hkw43 huw43 hsw43 => ?_)
    have hkw43 : Blk w43 b5 _ _ := hkw43
    have huw43 : Upd b5 _ _ := huw43
    have hk44 := hkw38.up huw43
    have hk45 := hk40.up huw43
    have hB47 := Upd.below hB42 oO huw43
    refine WL.st sizeOf29 rfl rfl rfl hk45 oD (fun w48 hkw48 huw48 hsw48 => ?_)
    have hkw48 : Blk w48 b11 _ _ := hkw48
    have huw48 : Upd b11 _ _ := huw48
    have hk49 := hk44.up huw48
    have hk50 := hkw43.up huw48
    have hB52 := Upd.below hB47 oO huw48
    refine WL.nil <| ?_
    refine W.ret ?_
    first
    | exact PostD.ret hb69 (fun w' => _) (plex_quiet b1 b5 b11 _ hkw48) (fun w' hS => by subst hS; exact ⟨_, ResOk.cells3 rfl rfl rfl rfl (ldRow hk49 underlying28 rfl isz28) (ldCell hk50 (isAgg3 _) rfl) (ldCell hkw48 (isAgg29 _) rfl), ⟨x1, ret_val rfl, (FACT).mono (fun k hk _ => hk.2)⟩, hB52⟩)
    | exact PostD.ret0 (ResOk.cells3 rfl rfl rfl rfl (ldRow hk49 underlying28 rfl isz28) (ldCell hk50 (isAgg3 _) rfl) (ldCell hkw48 (isAgg29 _) rfl)) ⟨⟨pc0 0 0 [], ret_val rfl, PRep.zero _ _ _ _ _⟩, hB52⟩
  have h37' := dF h37
  have htlt : t < l.length := by omega
  rw [if_pos htlt] at hR
  refine W.skip ?_
  refine WD.defer rfl rfl ?_
  refine WD.of ?_
  refine W.sr <| WL.m rfl rfl <| WL.m rfl rfl <| ?_
  refine WL.p (.buildL (ps := _) blt98 rfl rfl rfl pS) rfl ?_
  refine WL.box rfl rfl (fun b53 wb53 eb53 hkb53 hub53 hsb53 => ?_)
  have hl55 : b1 < b53 := by rw [eb53]; exact hk12.lt
  have hk54 := hk12.upd hub53 (Nat.ne_of_lt hl55)
  have hl57 : b5 < b53 := by rw [eb53]; exact hk14.lt
  have hk56 := hk14.upd hub53 (Nat.ne_of_lt hl57)
  have hl59 : b11 < b53 := by rw [eb53]; exact hkb11.lt
  have hk58 := hkb11.upd hub53 (Nat.ne_of_lt hl59)
  have hvl61 := fun h0 => eb53 ▸ hv16.lt h0
  have hv60 := bup hv16 hub53 hvl61
  have hB62 := Upd.below hB18 (by rw [eb53]; exact hB18.size) hub53
  have hgeb53 : w.heap.size ≤ b53 := by rw [eb53]; exact hB18.size
  refine WL.z rfl rfl ?_
  refine W.sr <| WL.m rfl rfl <| WL.m rfl rfl <| WL.cx hb71 rfl rfl ((ObjC_all p l c true hc hl d.toNat d (Nat.le_refl _) hd b53 t _ ⟨hkb53, hv60⟩ (fun h0 => by have := hb.lt h0; omega) htlt)) (fun k65 w63 hrw63 hw63 => ?_) (fun a64 x66 w63 hrw63 hw63 => ?_)
  have hBew63 := Below.trans hB62 (Touch.below hw63 hB62.size oO)
  exact PostD.caught hb69 (fun w' => _) (plex_caught b1 b5 b11 w.heap.size _ _ _ _ _ _ _ _ k65 _ (Blk.touch hk54 hw63 hk54.lt oO) (Blk.touch hk56 hw63 hk56.lt oO) (Blk.touch hk58 hw63 hk58.lt oO) oO oO oO (objP_err true l _ _ _ hrw63).ne)
    (fun w' hS => ⟨_, ResOk.cells3 rfl rfl rfl rfl (ldRow hS.1 underlying28 rfl isz28) (ldCell hS.2.1 (isAgg3 _) rfl) (ldCell hS.2.2.1 (isAgg29 _) rfl), ⟨pc0 0 0 [], ret_val (by rw [hR, show objP true l d.toNat t = _ from hrw63]; rfl), by rw [hR, show objP true l d.toNat t = _ from hrw63]; exact PRep.zero _ _ _ _ _⟩, hBew63.trans hS.2.2.2⟩)
  have hrr := hrw63
  obtain ⟨oX, tX⟩ := a64
  obtain ⟨x1, rfl, hpx, hrd1, hT1⟩ := hw63
  have hpx1 := hpx.mono (T := fun k => b53 < k ∧ w.heap.size ≤ k) (fun k hk _ => by have h1 := (hkb53).lt; have h2 := hB62.size; omega)
  have hk61 := Blk.touch hk54 hT1 (hk54).lt oO
  have hk71 := Blk.touch hk56 hT1 (hk56).lt oO
  have hk81 := Blk.touch hk58 hT1 (hk58).lt oO
  have hB1 := Below.trans hB62 (Touch.below hT1 hB62.size oO)
  have hr1 := hrd1.1
  rw [show objP true l d.toNat t = _ from hrr] at hR
  subst hR
  refine WL.stL rfl rfl hk61 isz28 rfl rfl (fun w67 hkw67 huw67 hsw67 => ?_)
  have hF68 := PRep.same (w1 := w67) hpx1 (fun k hk hl => huw67.other k (by first | ((try simp only) <;> omega) | (have := hk.1; ((try simp only) <;> omega))))
  have hk69 := hk71.up huw67
  have hk70 := hk81.up huw67
  have hk71 := hr1.upd huw67 oM
  have hB73 := Upd.below hB1 oO huw67
  refine WL.nil <| ?_
  refine W.seq ?_
  refine W.noPn ?_
  refine W.regY 8 rfl mixed (fun w74 dw74 => ?_)
  have hF75 := PRep.same (w1 := w74) hF68 (fun k hk hl => (by obtain ⟨m, rfl⟩ := dw74; rfl))
  have hk76 := hkw67.drew dw74
  have hk77 := hk69.drew dw74
  have hk78 := hk70.drew dw74
  have hk79 := hk71.drew dw74
  have hB81 := Drew.below hB73 dw74
  refine WY.tk 1 rfl (.mv rfl) rfl ?_
  refine WY.tk 2 rfl (.nck rfl) rfl ?_
  refine WY.tk 3 rfl (.fa underlying98 rfl sizeOf3 dD rfl) rfl ?_
  refine WY.br2 0 rfl 4 rfl ?_ ?_
  refine WL.r (Rd.ldA rfl hk76 underlying28 rfl isz28) rfl <| WL.nil <| ?_
  refine WY.br2 4 rfl 5 rfl ?_ ?_
  refine WL.r (Rd.ld (isAgg3 _) rfl hk79 rfl) rfl <| WL.nil <| ?_
  refine WY.br1 5 rfl ?_
  refine WL.stL rfl rfl hk76 isz28 rfl rfl (fun w82 hkw82 huw82 hsw82 => ?_)
  have hF83 := PRep.same (w1 := w82) hF75 (fun k hk hl => huw82.other k (by first | ((try simp only) <;> omega) | (have := hk.1; ((try simp only) <;> omega))))
  have hk84 := hk77.up huw82
  have hk85 := hk78.up huw82
  have hB88 := Upd.below hB81 oO huw82
  refine WL.nil <| ?_
  refine WY.br1 6 rfl ?_
  refine WL.st sizeOf3 rfl rfl rfl hk84 oD (fun w89 hkw89 huw89 hsw89 => ?_)
  have hkw89 : Blk w89 b5 _ _ := hkw89
  have huw89 : Upd b5 _ _ := huw89
  have hF90 := PRep.same (w1 := w89) hF83 (fun k hk hl => huw89.other k (by first | ((try simp only) <;> omega) | (have := hk.1; ((try simp only) <;> omega))))
  have hk91 := hkw82.up huw89
  have hk92 := hk85.up huw89
  have hB95 := Upd.below hB88 oO huw89
  refine WL.nil <| ?_
  refine WY.br1 7 rfl ?_
  refine WL.st sizeOf29 rfl rfl rfl hk92 oD (fun w96 hkw96 huw96 hsw96 => ?_)
  have hkw96 : Blk w96 b11 _ _ := hkw96
  have huw96 : Upd b11 _ _ := huw96
  have hF97 := PRep.same (w1 := w96) hF90 (fun k hk hl => huw96.other k (by first | ((try simp only) <;> omega) | (have := hk.1; ((try simp only) <;> omega))))
  have hk98 := hk91.up huw96
  have hk99 := hkw89.up huw96
  have hB102 := Upd.below hB95 oO huw96
  refine WL.nil <| ?_
  refine WY.done kR ?_
  refine W.ret ?_
  first
  | exact PostD.ret hb69 (fun w' => _) (plex_quiet b1 b5 b11 _ hkw96) (fun w' hS => by subst hS; exact ⟨_, ResOk.cells3 rfl rfl rfl rfl (ldRow hk98 underlying28 rfl isz28) (ldCell hk99 (isAgg3 _) rfl) (ldCell hkw96 (isAgg29 _) rfl), ⟨x1, ret_val rfl, (hF97).mono (fun k hk _ => hk.2)⟩, hB102⟩)
  | exact PostD.ret0 (ResOk.cells3 rfl rfl rfl rfl (ldRow hk98 underlying28 rfl isz28) (ldCell hk99 (isAgg3 _) rfl) (ldCell hkw96 (isAgg29 _) rfl)) ⟨⟨pc0 0 0 [], ret_val rfl, PRep.zero _ _ _ _ _⟩, hB102⟩
  refine WL.stL rfl rfl hk76 isz28 rfl rfl (fun w103 hkw103 huw103 hsw103 => ?_)
  have hF104 := PRep.same (w1 := w103) hF75 (fun k hk hl => huw103.other k (by first | ((try simp only) <;> omega) | (have := hk.1; ((try simp only) <;> omega))))
  have hk105 := hk77.up huw103
  have hk106 := hk78.up huw103
  have hk107 := hk79.up huw103
  have hB109 := Upd.below hB81 oO huw103
  refine WL.nil <| ?_
  refine WY.br1 4 rfl ?_
  refine WL.r (Rd.ld (isAgg3 _) rfl hk107 rfl) rfl <| WL.nil <| ?_
  refine WY.br1 6 rfl ?_
  refine WL.st sizeOf3 rfl rfl rfl hk105 oD (fun w110 hkw110 huw110 hsw110 => ?_)
  have hkw110 : Blk w110 b5 _ _ := hkw110
  have huw110 : Upd b5 _ _ := huw110
  have hF111 := PRep.same (w1 := w110) hF104 (fun k hk hl => huw110.other k (by first | ((try simp only) <;> omega) | (have := hk.1; ((try simp only) <;> omega))))
  have hk112 := hkw103.up huw110
  have hk113 := hk106.up huw110
  have hB116 := Upd.below hB109 oO huw110
  refine WL.nil <| ?_
  refine WY.br1 7 rfl ?_
  refine WL.st sizeOf29 rfl rfl rfl hk113 oD (fun w117 hkw117 huw117 hsw117 => ?_)
  have hkw117 : Blk w117 b11 _ _ := hkw117
  have huw117 : Upd b11 _ _ := huw117
  have hF118 := PRep.same (w1 := w117) hF111 (fun k hk hl => huw117.other k (by first | ((try simp only) <;> omega) | (have := hk.1; ((try simp only) <;> omega))))
  have hk119 := hk112.up huw117
  have hk120 := hkw110.up huw117
  have hB123 := Upd.below hB116 oO huw117
  refine WL.nil <| ?_
  refine WY.done kR ?_
  refine W.ret ?_
  first
  | exact PostD.ret hb69 (fun w' => _) (plex_quiet b1 b5 b11 _ hkw117) (fun w' hS => by subst hS; exact ⟨_, ResOk.cells3 rfl rfl rfl rfl (ldRow hk119 underlying28 rfl isz28) (ldCell hk120 (isAgg3 _) rfl) (ldCell hkw117 (isAgg29 _) rfl), ⟨x1, ret_val rfl, (hF118).mono (fun k hk _ => hk.2)⟩, hB123⟩)
  | exact PostD.ret0 (ResOk.cells3 rfl rfl rfl rfl (ldRow hk119 underlying28 rfl isz28) (ldCell hk120 (isAgg3 _) rfl) (ldCell hkw117 (isAgg29 _) rfl)) ⟨⟨pc0 0 0 [], ret_val rfl, PRep.zero _ _ _ _ _⟩, hB123⟩
  refine WL.r (Rd.ld (isAgg3 _) rfl hk79 rfl) rfl <| WL.nil <| ?_
  refine WY.br1 0 rfl ?_
  refine WL.r (Rd.ldA rfl hk76 underlying28 rfl isz28) rfl <| WL.nil <| ?_
  refine WY.br1 5 rfl ?_
  refine WL.stL rfl rfl hk76 isz28 rfl rfl (fun w124 hkw124 huw124 hsw124 => ?_)
  have hF125 := PRep.same (w1 := w124) hF75 (fun k hk hl => huw124.other k (by first | ((try simp only) <;> omega) | (have := hk.1; ((try simp only) <;> omega))))
  have hk126 := hk77.up huw124
  have hk127 := hk78.up huw124
  have hB130 := Upd.below hB81 oO huw124
  refine WL.nil <| ?_
  refine WY.br1 6 rfl ?_
  refine WL.st sizeOf3 rfl rfl rfl hk126 oD (fun w131 hkw131 huw131 hsw131 => ?_)
  have hkw131 : Blk w131 b5 _ _ := hkw131
  have huw131 : Upd b5 _ _ := huw131
  have hF132 := PRep.same (w1 := w131) hF125 (fun k hk hl => huw131.other k (by first | ((try simp only) <;> omega) | (have := hk.1; ((try simp only) <;> omega))))
  have hk133 := hkw124.up huw131
  have hk134 := hk127.up huw131
  have hB137 := Upd.below hB130 oO huw131
  refine WL.nil <| ?_
  refine WY.br1 7 rfl ?_
  refine WL.st sizeOf29 rfl rfl rfl hk134 oD (fun w138 hkw138 huw138 hsw138 => ?_)
  have hkw138 : Blk w138 b11 _ _ := hkw138
  have huw138 : Upd b11 _ _ := huw138
  have hF139 := PRep.same (w1 := w138) hF132 (fun k hk hl => huw138.other k (by first | ((try simp only) <;> omega) | (have := hk.1; ((try simp only) <;> omega))))
  have hk140 := hk133.up huw138
  have hk141 := hkw131.up huw138
  have hB144 := Upd.below hB137 oO huw138
  refine WL.nil <| ?_
  refine WY.done kR ?_
  refine W.ret ?_
  first
  | exact PostD.ret hb69 (fun w' => _) (plex_quiet b1 b5 b11 _ hkw138) (fun w' hS => by subst hS; exact ⟨_, ResOk.cells3 rfl rfl rfl rfl (ldRow hk140 underlying28 rfl isz28) (ldCell hk141 (isAgg3 _) rfl) (ldCell hkw138 (isAgg29 _) rfl), ⟨x1, ret_val rfl, (hF139).mono (fun k hk _ => hk.2)⟩, hB144⟩)
  | exact PostD.ret0 (ResOk.cells3 rfl rfl rfl rfl (ldRow hk140 underlying28 rfl isz28) (ldCell hk141 (isAgg3 _) rfl) (ldCell hkw138 (isAgg29 _) rfl)) ⟨⟨pc0 0 0 [], ret_val rfl, PRep.zero _ _ _ _ _⟩, hB144⟩
end
section
theorem plex_ObjectN (p : Option Addr) (l : List UInt8) (c t t' : Nat) (v : PV) (w : World) (hb : BytesAt w p l) (hc : l.length ≤ c) (hl : l.length ≤ 100000000) (hv : objT l t 32 = (v, (t' : Int), 0)) :
  Calls Tryz.prog 51 #[.slice p l.length c, .int .i64 (t : Int), .int .i64 32] w fun e w' => ∃ r, e = .returned r ∧ Below w.heap.size w w' ∧ ∃ y : PC, r = .tuple #[.agg (pcV y).toArray, .int .i64 (t' : Int), .int .i64 0] ∧ PRep w' (fun k => w.heap.size ≤ k) y v :=
 (plex_Object p l c t 32 w hb hc hl dD).mono fun e w' h => by
  obtain ⟨⟨y, h1, h2⟩, h3⟩ := h
  rw [hv] at h1 h2
  exact ⟨_, h1, h3, y, rfl, h2⟩
/-- what stands behind an object's number -/
theorem rd_body (br : Nat) (p : Option Addr) (l : List UInt8) (c t t' : Nat) (v : PV) (w : World) (h : Blk w br (rdC p l c t) 57) (hb : BytesAt w p l) (hc : l.length ≤ c) (hl : l.length ≤ 100000000)
  (hpb : 0 < l.length → (pA p).block ≠ br) (hv : objT l t 32 = (v, (t' : Int), 0)) :
  Calls Tryz.prog 32 #[.pointer (some ⟨br, 0, none⟩)] w fun e w' => ∃ y : PC, e = .returned (.agg (pcV y).toArray) ∧ PRep w' (fun k => w.heap.size ≤ k) y v ∧ KeepB w.heap.size [br] w w' ∧ Blk w' br (rdC p l c t') 57 := by
 have hbl := h.lt
 refine W.enter func32 rfl ntmps32 (Nat.le_of_ble_eq_true rfl) ?_
 have hB0 := KeepB.refl w.heap.size ([br]) w
 refine W.sr <| WL.alloc zeroValue28 rfl (fun b1 wb1 eb1 hkb1 hub1 hsb1 => ?_)
 have hl3 : br < b1 := by rw [eb1]; exact h.lt
 have hk2 := h.upd hub1 (Nat.ne_of_lt hl3)
 have hvl5 := fun h0 => eb1 ▸ hb.lt h0
 have hv4 := bup hb hub1 hvl5
 have hgeb1 : w.heap.size ≤ b1 := by rw [eb1]; exact hB0.size
 have hB6 := KeepB.trans hB0 (KeepB.of_new hub1 hgeb1)
 refine WL.nil <| ?_
 refine W.seq <| W.regH 17 rfl mixed (fun w' => w'.heap[br]? = wb1.heap[br]? ∧ True) (fun w7 dw7 => ?_)
 have hk8 := hk2.drew dw7
 have hk9 := hkb1.drew dw7
 have hv10 := hv4.drew dw7
 have hB11 := KeepB.trans hB6 (KeepB.of_drew dw7)
 refine WH.tp 0 rfl (.mv rfl) ⟨(hk8).trans (hk2).symm, trivial⟩ rfl ?_
 refine WH.tp 1 rfl (.nck rfl) ⟨(hk8).trans (hk2).symm, trivial⟩ rfl ?_
 refine WH.tp 2 rfl (.fa underlying57 rfl sizeOf26 dD rfl) ⟨(hk8).trans (hk2).symm, trivial⟩ rfl ?_
 refine WH.tk 3 rfl (fun w' hw' => Rd.ld (isAgg26 _) rfl ((hw'.1).trans hk2) rfl) ⟨(hk8).trans (hk2).symm, trivial⟩ rfl ?_
 refine WH.tp 4 rfl (.mv rfl) ⟨(hk8).trans (hk2).symm, trivial⟩ rfl ?_
 refine WH.tp 5 rfl (.nck rfl) ⟨(hk8).trans (hk2).symm, trivial⟩ rfl ?_
 refine WH.tp 6 rfl (.fa underlying57 rfl sizeOf3 dD rfl) ⟨(hk8).trans (hk2).symm, trivial⟩ rfl ?_
 refine WH.tk 7 rfl (fun w' hw' => Rd.ld (isAgg3 _) rfl ((hw'.1).trans hk2) rfl) ⟨(hk8).trans (hk2).symm, trivial⟩ rfl ?_
 refine WH.br2 8 rfl 13 rfl ?_ ?_
 refine WL.call hb51 rfl rfl ((plex_ObjectN p l c t t' v _ hv10 hc hl hv)) (fun r w12 hw12 => ?_)
 have hk13 := hk8.below hw12.1 hk8.lt
 have hk14 := hk9.below hw12.1 hk9.lt
 have hB16 := KeepB.trans hB11 (KeepB.of_below hw12.1 hB11.size)
 obtain ⟨y, rfl, hy0⟩ := hw12.2
 have hs0 := hB11.size
 have hy := hy0.mono (T := fun k => w.heap.size ≤ k ∧ w7.heap.size ≤ k ∧ k < w12.heap.size) (fun k hk hlt => ⟨Nat.le_trans hs0 hk, hk, hlt⟩)
 have hb1l := (hk9).lt
 refine WL.nil <| ?_
 refine ⟨⟨(hk13).trans (hk2).symm, trivial⟩, ?_⟩
 refine WH.tp 9 rfl (.mv rfl) ⟨(hk13).trans (hk2).symm, trivial⟩ rfl ?_
 refine WH.tp 10 rfl (.ext rfl rfl) ⟨(hk13).trans (hk2).symm, trivial⟩ rfl ?_
 refine WH.tp 11 rfl (.ext rfl rfl) ⟨(hk13).trans (hk2).symm, trivial⟩ rfl ?_
 refine WH.tp 12 rfl (.ext rfl rfl) ⟨(hk13).trans (hk2).symm, trivial⟩ rfl ?_
 refine WH.br1 13 rfl ?_
 refine WL.alloc zeroValue28 rfl (fun b17 wb17 eb17 hkb17 hub17 hsb17 => ?_)
 have hF18 := PRep.same (w1 := wb17) hy (fun k hk hl => hub17.other k oO)
 have hl20 : br < b17 := by rw [eb17]; exact hk13.lt
 have hk19 := hk13.upd hub17 (Nat.ne_of_lt hl20)
 have hl22 : b1 < b17 := by rw [eb17]; exact hk14.lt
 have hk21 := hk14.upd hub17 (Nat.ne_of_lt hl22)
 have hgeb17 : w.heap.size ≤ b17 := by rw [eb17]; exact hB16.size
 have hB25 := KeepB.trans hB16 (KeepB.of_new hub17 hgeb17)
 refine WL.nil <| ?_
 refine ⟨⟨(hk19).trans (hk2).symm, trivial⟩, ?_⟩
 refine WH.br1 14 rfl ?_
 refine WL.stL rfl rfl hkb17 isz28 rfl rfl (fun w26 hkw26 huw26 hsw26 => ?_)
 have hF27 := PRep.same (w1 := w26) hF18 (fun k hk hl => huw26.other k (by first | ((try simp only) <;> omega) | (have := hk.1; ((try simp only) <;> omega))))
 have hk28 := hk19.up huw26
 have hk29 := hk21.up huw26
 have hB31 := KeepB.trans hB25 (by first | exact KeepB.of_new huw26 oO | exact KeepB.of_mem huw26 (by simp))
 refine WL.nil <| ?_
 refine ⟨⟨(hk28).trans (hk2).symm, trivial⟩, ?_⟩
 refine WH.tp 15 rfl (.as rfl) ⟨(hk28).trans (hk2).symm, trivial⟩ rfl ?_
 refine WH.tp 16 rfl (.as rfl) ⟨(hk28).trans (hk2).symm, trivial⟩ rfl ?_
 refine WH.done kR ?_
 refine W.seq <| W.block <| W.sr <| WL.m rfl rfl <| WL.p (.bis (false) (.eql rfl rfl) dD) rfl <| WL.z rfl rfl ?_
 refine W.condF rfl rfl ?_
 refine W.sr <| WL.m rfl rfl <| WL.p (.bis (false) (.neq rfl rfl) dD) rfl <| WL.z rfl rfl ?_
 refine W.condF rfl rfl ?_
 refine W.skip <| W.sr <| WL.m rfl rfl <| WL.m rfl rfl <| WL.p (.nck rfl) rfl <| WL.p (.fa underlying57 rfl sizeOf3 dD rfl) rfl <| WL.st sizeOf3 rfl rfl rfl hk28 oD (fun w32 hkw32 huw32 hsw32 => ?_)
 have hkw32 : Blk w32 br _ _ := hkw32
 have huw32 : Upd br _ _ := huw32
 have hF33 := PRep.same (w1 := w32) hF27 (fun k hk hl => huw32.other k (by first | ((try simp only) <;> omega) | (have := hk.1; ((try simp only) <;> omega))))
 have hk34 := hk29.up huw32
 have hk35 := hkw26.up huw32
 have hB37 := KeepB.trans hB31 (by first | exact KeepB.of_new huw32 oO | exact KeepB.of_mem huw32 (by simp))
 refine WL.nil <| ?_
 refine W.sr <| WL.r (Rd.ldA rfl hk35 underlying28 rfl isz28) rfl <| WL.stL rfl rfl hk34 isz28 rfl rfl (fun w38 hkw38 huw38 hsw38 => ?_)
 have hF39 := PRep.same (w1 := w38) hF33 (fun k hk hl => huw38.other k (by first | ((try simp only) <;> omega) | (have := hk.1; ((try simp only) <;> omega))))
 have hk40 := hkw32.up huw38
 have hB43 := KeepB.trans hB37 (by first | exact KeepB.of_new huw38 oO | exact KeepB.of_mem huw38 (by simp))
 refine WL.nil <| ?_
 refine W.ret (W.retc1 rfl rfl (ldRow hkw38 underlying28 rfl isz28)  ?_)
 exact ⟨y, rvE rfl, (hF39).mono (T := fun k => w.heap.size ≤ k) (fun k hk _ => hk.1), hB43, hk40⟩
 refine WL.alloc zeroValue28 rfl (fun b44 wb44 eb44 hkb44 hub44 hsb44 => ?_)
 have hl46 : br < b44 := by rw [eb44]; exact hk8.lt
 have hk45 := hk8.upd hub44 (Nat.ne_of_lt hl46)
 have hl48 : b1 < b44 := by rw [eb44]; exact hk9.lt
 have hk47 := hk9.upd hub44 (Nat.ne_of_lt hl48)
 have hvl50 := fun h0 => eb44 ▸ hv10.lt h0
 have hv49 := bup hv10 hub44 hvl50
 have hgeb44 : w.heap.size ≤ b44 := by rw [eb44]; exact hB11.size
 have hB51 := KeepB.trans hB11 (KeepB.of_new hub44 hgeb44)
 refine WL.nil <| ?_
 refine ⟨⟨(hk45).trans (hk2).symm, trivial⟩, ?_⟩
 refine WH.br1 8 rfl ?_
 refine WL.call hb51 rfl rfl ((plex_ObjectN p l c t t' v _ hv49 hc hl hv)) (fun r w52 hw52 => ?_)
 have hk53 := hk45.below hw52.1 hk45.lt
 have hk54 := hk47.below hw52.1 hk47.lt
 have hk55 := hkb44.below hw52.1 hkb44.lt
 have hB57 := KeepB.trans hB51 (KeepB.of_below hw52.1 hB51.size)
 obtain ⟨y, rfl, hy0⟩ := hw52.2
 have hs0 := hB51.size
 have hy := hy0.mono (T := fun k => w.heap.size ≤ k ∧ wb44.heap.size ≤ k ∧ k < w52.heap.size) (fun k hk hlt => ⟨Nat.le_trans hs0 hk, hk, hlt⟩)
 have hb1l := (hk47).lt
 refine WL.nil <| ?_
 refine ⟨⟨(hk53).trans (hk2).symm, trivial⟩, ?_⟩
 refine WH.tp 9 rfl (.mv rfl) ⟨(hk53).trans (hk2).symm, trivial⟩ rfl ?_
 refine WH.tp 10 rfl (.ext rfl rfl) ⟨(hk53).trans (hk2).symm, trivial⟩ rfl ?_
 refine WH.tp 11 rfl (.ext rfl rfl) ⟨(hk53).trans (hk2).symm, trivial⟩ rfl ?_
 refine WH.tp 12 rfl (.ext rfl rfl) ⟨(hk53).trans (hk2).symm, trivial⟩ rfl ?_
 refine WH.br1 14 rfl ?_
 refine WL.stL rfl rfl hk55 isz28 rfl rfl (fun w58 hkw58 huw58 hsw58 => ?_)
 have hF59 := PRep.same (w1 := w58) hy (fun k hk hl => huw58.other k (by first | ((try simp only) <;> omega) | (have := hk.1; ((try simp only) <;> omega))))
 have hk60 := hk53.up huw58
 have hk61 := hk54.up huw58
 have hB63 := KeepB.trans hB57 (by first | exact KeepB.of_new huw58 oO | exact KeepB.of_mem huw58 (by simp))
 refine WL.nil <| ?_
 refine ⟨⟨(hk60).trans (hk2).symm, trivial⟩, ?_⟩
 refine WH.tp 15 rfl (.as rfl) ⟨(hk60).trans (hk2).symm, trivial⟩ rfl ?_
 refine WH.tp 16 rfl (.as rfl) ⟨(hk60).trans (hk2).symm, trivial⟩ rfl ?_
 refine WH.done kR ?_
 refine W.seq <| W.block <| W.sr <| WL.m rfl rfl <| WL.p (.bis (false) (.eql rfl rfl) dD) rfl <| WL.z rfl rfl ?_
 refine W.condF rfl rfl ?_
 refine W.sr <| WL.m rfl rfl <| WL.p (.bis (false) (.neq rfl rfl) dD) rfl <| WL.z rfl rfl ?_
 refine W.condF rfl rfl ?_
 refine W.skip <| W.sr <| WL.m rfl rfl <| WL.m rfl rfl <| WL.p (.nck rfl) rfl <| WL.p (.fa underlying57 rfl sizeOf3 dD rfl) rfl <| WL.st sizeOf3 rfl rfl rfl hk60 oD (fun w64 hkw64 huw64 hsw64 => ?_)
 have hkw64 : Blk w64 br _ _ := hkw64
 have huw64 : Upd br _ _ := huw64
 have hF65 := PRep.same (w1 := w64) hF59 (fun k hk hl => huw64.other k (by first | ((try simp only) <;> omega) | (have := hk.1; ((try simp only) <;> omega))))
 have hk66 := hk61.up huw64
 have hk67 := hkw58.up huw64
 have hB69 := KeepB.trans hB63 (by first | exact KeepB.of_new huw64 oO | exact KeepB.of_mem huw64 (by simp))
 refine WL.nil <| ?_
 refine W.sr <| WL.r (Rd.ldA rfl hk67 underlying28 rfl isz28) rfl <| WL.stL rfl rfl hk66 isz28 rfl rfl (fun w70 hkw70 huw70 hsw70 => ?_)
 have hF71 := PRep.same (w1 := w70) hF65 (fun k hk hl => huw70.other k (by first | ((try simp only) <;> omega) | (have := hk.1; ((try simp only) <;> omega))))
 have hk72 := hkw64.up huw70
 have hB75 := KeepB.trans hB69 (by first | exact KeepB.of_new huw70 oO | exact KeepB.of_mem huw70 (by simp))
 refine WL.nil <| ?_
 refine W.ret (W.retc1 rfl rfl (ldRow hkw70 underlying28 rfl isz28)  ?_)
 exact ⟨y, rvE rfl, (hF71).mono (T := fun k => w.heap.size ≤ k) (fun k hk _ => hk.1), hB75, hk72⟩
end
end Go.Proofs.YthljhjcndpnleaaGreatDoor
