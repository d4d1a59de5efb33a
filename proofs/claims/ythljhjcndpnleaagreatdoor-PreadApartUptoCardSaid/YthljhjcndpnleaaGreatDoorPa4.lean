/-
  What the claim leans on, part 4: pruned and joined by my own tool out of the texts that stand in wip/ as templates.
-/
import Derived.Test.YthljhjcndpnleaaGreatDoorPa3
namespace Go.Proofs.YthljhjcndpnleaaGreatDoor
open Go.RowKit
open Go.Proofs.Tryz
section
theorem byt_Equal (p : Option Addr) (l : List UInt8) (n c : Nat) (q : Option Addr) (s : List UInt8) (m d : Nat) (w : World) (hn : l.length = n) (hm : s.length = m) (ha : BytesAt w p l) (hb : BytesAt w q s) :
  Calls Tryz.prog 45 #[.slice p n c, .slice q m d] w fun e w' => e = .returned (.bool (decide (l = s))) ∧ w = w' := by
 subst hn hm
 refine W.enter func45 rfl ntmps45 (Nat.le_of_ble_eq_true rfl) ?_
 refine W.sr <| WL.z rfl rfl ?_
 refine W.sr <| WL.m rfl rfl <| WL.r (Rd.b2s (l := l) underlying26 underlying5 underlying9 rfl (ha)) rfl <| WL.m rfl rfl <| WL.r (Rd.b2s (l := s) underlying26 underlying5 underlying9 rfl (hb)) rfl <| WL.p (.eqs rfl rfl) rfl <| WL.z rfl rfl ?_
 refine W.ret (W.ret1 rfl rfl ?_)
 exact ⟨rfl, rfl⟩
theorem byt_HasPrefix (p : Option Addr) (l : List UInt8) (n c : Nat) (q : Option Addr) (s : List UInt8) (m d : Nat) (w : World) (hn : l.length = n) (hm : s.length = m) (ha : BytesAt w p l) (hb : BytesAt w q s) (hle : s.length ≤ l.length) (hc : l.length ≤ c) :
  Calls Tryz.prog 23 #[.slice p n c, .slice q m d] w fun e w' => e = .returned (.bool (decide (l.take s.length = s))) ∧ w = w' := by
 subst hn hm
 have hp : BytesAt w (pPart p c 0) (l.take s.length) := by
  have := BytesAt.part (a := 0) (b := s.length) ha oO hle hc
  simpa using this
 refine W.enter func23 rfl ntmps23 (Nat.le_of_ble_eq_true rfl) ?_
 refine W.sr <| WL.z rfl rfl ?_
 refine W.sr <| WL.m rfl rfl <| WL.p (.lenS underlying26 rfl) rfl <| WL.m rfl rfl <| WL.p (.lenS underlying26 rfl) rfl <| WL.p (.bis (true) (.geq rfl rfl) (by simp; omega)) rfl <| WL.m rfl rfl <| WL.gy rfl rfl rfl rfl <| WL.m rfl rfl <| WL.gy rfl rfl rfl rfl <| WL.m rfl rfl <| WL.gy rfl rfl rfl rfl <| WL.p (.lenS underlying26 rfl) rfl <| WL.gy rfl rfl rfl rfl <| WL.p (.slbT underlying26 sizeOf5 rfl rfl  (s.length) (rfl) oO) rfl <| WL.gy rfl rfl rfl rfl <| WL.m rfl rfl <| WL.gy rfl rfl rfl rfl <| WL.c1 hb45 rfl rfl ((byt_Equal _ (l.take s.length) _ _ _ s _ _ _ (by rw [List.length_take]; omega) rfl hp hb)) (fun w1 hw1 => ?_)
 obtain rfl := hw1
 refine WL.p (.pkT rfl rfl rfl) rfl <| WL.z rfl rfl ?_
 refine W.ret (W.ret1 rfl rfl ?_)
 exact ⟨rfl, rfl⟩
theorem byt_HasPrefixB (t : Bool) (p : Option Addr) (l : List UInt8) (n c : Nat) (q : Option Addr) (s : List UInt8) (m d : Nat) (w : World) (hn : l.length = n) (hm : s.length = m) (ha : BytesAt w p l) (hb : BytesAt w q s) (hle : s.length ≤ l.length) (hc : l.length ≤ c) (ht : decide (l.take s.length = s) = t) :
  Calls Tryz.prog 23 #[.slice p n c, .slice q m d] w fun e w' => e = .returned (.bool t) ∧ w = w' :=
 (byt_HasPrefix p l n c q s m d w hn hm ha hb hle hc).mono fun e w' h => ⟨h.1.trans (rbE ht), h.2⟩
theorem Own.baseB {e : TypeId} {B C : Nat} {w : World} {v : Value} {l : List Value} (h : Own e B w v l) (hC : C ≤ B) : Own e C w v l := by
 obtain ⟨hl, h⟩ := h
 exact ⟨hl, h.imp id fun ⟨g, cap, cur, h1, h2, h3⟩ => ⟨g, cap, cur, h1, Nat.le_trans hC h2, h3⟩⟩
theorem byt_Clone' (p : Option Addr) (l : List UInt8) (c : Nat) (w : World) (h : BytesAt w p l) (hc : l = [] → c = 0 ∨ p ≠ none) (hl : l.length ≤ 100000000) :
  Calls Tryz.prog 25 #[.slice p l.length c] w fun e w' => ∃ v, e = .returned v ∧ Below w.heap.size w w' ∧ Own 5 w.heap.size w' v (byteVals l) := by
 refine W.enter func25 rfl ntmps25 (Nat.le_of_ble_eq_true rfl) ?_
 have hB0 := Below.refl (w.heap.size) w
 refine W.sr <| WL.z rfl rfl ?_
 refine W.seq <| W.sr <| WL.m rfl rfl <| WL.p (.eqSN underlying26 rfl) rfl <| WL.nil <| ?_
 refine W.cond rfl (fun h1 => ?_) (fun h1 => ?_)
 have hp : p = none := by cases p with | none => rfl | some a => exact absurd (show (some a).isNone = true by assumption) (by simp)
 have hl0 : l = [] := by
  cases l with
  | nil => rfl
  | cons x r => have := h.isp (by simp); rw [hp] at this; cases this
 subst hl0
 refine W.sr <| WL.z rfl rfl ?_
 refine W.ret (W.ret1 rfl rfl ?_)
 first
 | exact ⟨_, rfl, hB0, Own.nil _ _ _⟩
 | exact ⟨_, rfl, hB0, by simpa using Own.baseB (OWN) hgeb2⟩
 refine W.skip <| W.sr <| WL.bsl0 underlying26 sizeOf5 rfl (fun b2 wb2 eb2 hob2 hub2 hsb2 => ?_)
 have hvl4 := fun h0 => eb2 ▸ h.lt h0
 have hv3 := BytesAt.upd h hub2 (fun h0 => Nat.ne_of_lt (hvl4 h0))
 have hB5 := Upd.below hB0 (by rw [eb2]; exact hB0.size) hub2
 have hgeb2 : w.heap.size ≤ b2 := by rw [eb2]; exact hB0.size
 have hob2 := hob2 b2 (Nat.le_refl _)
 have hleb2 : b2 ≤ wb2.heap.size := by omega
 refine WL.m rfl rfl <| WL.appB underlying26 inf5 rfl rfl rfl hob2 rfl hv3 (by simp only [List.length_nil]; omega) (hleb2) rfl (hc) (fun v6 w7 how7 hbw7 hgw7 => ?_)
 have hB9 := Below.trans hB5 (hbw7.mono (hgeb2))
 have hle10 := Nat.le_trans hleb2 hbw7.size
 refine WL.z rfl rfl ?_
 refine W.ret (W.ret1 rfl rfl ?_)
 first
 | exact ⟨_, rfl, hB9, Own.nil _ _ _⟩
 | exact ⟨_, rfl, hB9, by simpa using Own.baseB (how7) hgeb2⟩
theorem byt_Clone (p : Option Addr) (l : List UInt8) (n c : Nat) (w : World) (hn : l.length = n) (h : BytesAt w p l) (hc : l = [] → c = 0 ∨ p ≠ none) (hl : l.length ≤ 100000000) :
  Calls Tryz.prog 25 #[.slice p n c] w fun e w' => ∃ v, e = .returned v ∧ Below w.heap.size w w' ∧ Own 5 w.heap.size w' v (byteVals l) := by
 subst hn; exact byt_Clone' p l c w h hc hl
/-- bytes of the call's own, in blocks of S -/
def DOwn (S : Nat → Prop) (w : World) (v : Value) (l : List UInt8) : Prop := Own 5 0 w v (byteVals l) ∧ ∀ g, v.ownBlock = some g → S g
theorem Own.ltB {e : TypeId} {B : Nat} {w : World} {v : Value} {xs : List Value} (h : Own e B w v xs) : ∀ g, v.ownBlock = some g → B ≤ g ∧ g < w.heap.size := fun g hg => by
 obtain ⟨hl, h⟩ := h
 rcases h with ⟨rfl, -⟩ | ⟨g', cap, cur, rfl, hB, hg', -⟩
 ·
  cases hg
 ·
  cases hg; exact ⟨hB, (Array.getElem?_eq_some_iff.1 hg').1⟩
theorem DOwn.same {S : Nat → Prop} {w w1 : World} {v : Value} {l : List UInt8} (h : DOwn S w v l) (hb : ∀ k, S k → k < w.heap.size → w1.heap[k]? = w.heap[k]?) : DOwn S w1 v l := by
 obtain ⟨⟨hl, h⟩, hS⟩ := h
 refine ⟨⟨hl, h.imp id fun ⟨g, cap, cur, e1, e2, e3, e4⟩ => ⟨g, cap, cur, e1, e2, ?_, e4⟩⟩, hS⟩
 subst e1
 exact (hb g (hS g rfl) (Array.getElem?_eq_some_iff.1 e3).1).trans e3
theorem DOwn.mono {S T : Nat → Prop} {w : World} {v : Value} {l : List UInt8} (h : DOwn S w v l) (hT : ∀ k, S k → k < w.heap.size → T k) : DOwn T w v l := ⟨h.1, fun g hg => hT g (h.2 g hg) (h.1.ltB g hg).2⟩
theorem DOwn.nil (S : Nat → Prop) (w : World) : DOwn S w (.slice none 0 0) [] := ⟨Own.nil _ _ _, fun g h => by cases h⟩
theorem byt_CloneP (p : Option Addr) (l : List UInt8) (n c : Nat) (w : World) (hn : l.length = n) (h : BytesAt w p l) (hc : l = [] → c = 0 ∨ p ≠ none) (hl : l.length ≤ 100000000) :
  Calls Tryz.prog 25 #[.slice p n c] w fun e w' => ∃ x : Option Addr × Nat, e = .returned (.slice x.1 l.length x.2) ∧ Below w.heap.size w w' ∧ BytesAt w' x.1 l ∧ (0 < l.length → w.heap.size ≤ (pA x.1).block) ∧ l.length ≤ x.2 ∧ x.2 ≤ 9223372036854775807 ∧ DOwn (fun k => w.heap.size ≤ k) w' (.slice x.1 l.length x.2) l := by
 subst hn
 refine (byt_Clone' p l c w h hc hl).mono fun e w' ⟨v, h1, h2, h3⟩ => ?_
 obtain ⟨q, d, rfl, h4, h5, h6, -⟩ := h3.bytesC
 refine ⟨(q, d), h1, h2, h4, h5, h6, ?_, Own.baseB h3 (Nat.zero_le _), fun g hg => (h3.ltB g hg).1⟩
 obtain ⟨hl, h7⟩ := h3
 rcases h7 with ⟨h8, -⟩ | ⟨g, cap, cur, h8, -, -, h9, h10, -⟩
 ·
  simp only [Value.slice.injEq] at h8; obtain ⟨-, -, rfl⟩ := h8; exact Nat.zero_le _
 ·
  simp only [Value.slice.injEq] at h8; obtain ⟨-, -, rfl⟩ := h8; unfold maxLen at h10; show d ≤ _; omega
theorem hb65 : HasBody Tryz.prog 65 := hasBody func65 kR
theorem hb47 : HasBody Tryz.prog 47 := hasBody func47 kR
theorem u32m (r : Int) : IntKind.u32.wrap r = r % 4294967296 := by rw [IntKind.wrap_u32']
theorem hrev_step (l : List UInt8) (k : Nat) (h1 : 1 ≤ k) (hk : k ≤ l.length) : (Lib.RK.H (l.drop k).reverse % 4294967296 * 16777619 % 4294967296 + ((l[k - 1]'oO).toNat : Int)) % 4294967296 = Lib.RK.H (l.drop (k - 1)).reverse % 4294967296 := by
 have e := List.drop_eq_getElem_cons (show k - 1 < l.length by omega)
 rw [show k - 1 + 1 = k by omega] at e
 rw [e, List.reverse_cons, Lib.RK.H_snoc]
 omega
theorem rrev_step (l : List UInt8) (n j : Nat) (hn : 1 ≤ n) (hj : 1 ≤ j) (h : j + n ≤ l.length) : ((Lib.RK.H ((l.drop j).take n).reverse % 4294967296 * 16777619 % 4294967296 + ((l[j - 1]'oO).toNat : Int)) % 4294967296 - 16777619 ^ n % 4294967296 * ((l[j - 1 + n]'oO).toNat : Int) % 4294967296) % 4294967296 = Lib.RK.H ((l.drop (j - 1)).take n).reverse % 4294967296 := by
  obtain ⟨m, rfl⟩ : ∃ m, n = m + 1 := ⟨n - 1, by omega⟩
  obtain ⟨i, rfl⟩ : ∃ i, j = i + 1 := ⟨j - 1, by omega⟩
  have e1 := Lib.RK.win_snoc l (i + 1) m oO
  have e2 := Lib.RK.win_cons l i m oO
  unfold Lib.RK.win at e1 e2
  have hx : l[i + 1 + m]'oO = l[i + 1 - 1 + (m + 1)]'oO := by congr 1; omega
  have hy : l[i]'oO = l[i + 1 - 1]'oO := by congr 1
  rw [hx] at e1; rw [hy] at e2
  have h1 := Lib.RK.roll_mod (h := Lib.RK.H ((l.drop (i + 1)).take (m + 1)).reverse % 4294967296) (pw := 16777619 ^ (m + 1) % 4294967296) (l[i + 1 - 1 + (m + 1)]'oO) (l[i + 1 - 1]'oO) ((l.drop (i + 1)).take m).reverse
    (by rw [e1, List.reverse_append, List.reverse_singleton, List.singleton_append]) (by rw [List.length_reverse, List.length_take, List.length_drop, Nat.min_eq_left oO])
  simp only [Nat.add_sub_cancel] at h1 e2 ⊢
  rw [e2, List.reverse_cons]
  have hc : ((l[i + (m + 1)]'oO).toNat : Int) % 4294967296 = ((l[i + (m + 1)]'oO).toNat : Int) := by have := (l[i + (m + 1)]'oO).toNat_lt; omega
  rw [hc] at h1
  rw [← h1]
  generalize Lib.RK.H ((l.drop (i + 1)).take (m + 1)).reverse % 4294967296 = a
  generalize (16777619 : Int) ^ (m + 1) % 4294967296 * ((l[i + (m + 1)]'oO).toNat : Int) = b
  omega
theorem Pure.shrK {P : Program} {f : Fr} {x y : Operand} {k ky : IntKind} {tx ty : TypeId} {a b : Int} (hx : evo f x = some (.int k a)) (hy : evo f y = some (.int ky b)) (h0 : 0 ≤ b) (h1 : b ≤ k.bits) (r : Int) (hr : a / 2 ^ b.toNat = r) : Pure P (.binOp .shr tx x y ty) f (.int k r) := fun ρ hρ d ty' pos aft g w => by
 have e := shift_shr k ky a b h0 h1
 rw [hr] at e
 simp [execOp, hρ _ _ hx, hρ _ _ hy, eqGuard, binOp_shr, e]
theorem byt_hashRev (p : Option Addr) (s : List UInt8) (c : Nat) (w : World) (hb : BytesAt w p s) (hl : s.length ≤ 100000000) :
  Calls Tryz.prog 65 #[.slice p s.length c] w fun e w' => e = .returned (.tuple #[.int .u32 (Lib.RK.H s.reverse % 4294967296), .int .u32 (16777619 ^ s.length % 4294967296)]) ∧ w = w' := by
 refine W.enter func65 rfl ntmps65 (Nat.le_of_ble_eq_true rfl) ?_
 refine W.sr <| WL.a rfl rfl <| WL.z rfl rfl ?_
 refine W.sr <| WL.z rfl rfl ?_
 refine W.seq <| W.sr <| WL.m rfl rfl <| WL.p (.lenS underlying26 rfl) rfl <| WL.p (.sub rfl rfl (i64w oO)) rfl <| WL.z rfl rfl ?_
 refine W.block ?_
 refine W.loop (α := Nat) (fun t => [(0, .slice p s.length c), (4, .int .u32 (Lib.RK.H (s.drop t).reverse % 4294967296)), (5, .int .i64 ((t : Int) - 1))]) (fun t w' => w = w' ∧ t ≤ s.length) (fun t => t) (s.length) ⟨rfl, lk_i rfl (by simp [Lib.RK.H]), rfl, trivial⟩ (⟨rfl, Nat.le_refl _⟩) (fun t w1 hR => ?_)
 obtain ⟨k, rfl⟩ : ∃ k, k = t := ⟨t, rfl⟩
 obtain ⟨rfl, hk⟩ := hR
 refine W.seq <| W.sr <| WL.m rfl rfl <| WL.p (.geq rfl rfl) rfl <| WL.nil <| ?_
 refine W.cond rfl (fun h1 => ?_) (fun h1 => ?_)
 have h1' := dT h1
 refine W.skip <| W.seq <| W.block ?_
 have hb8 := (s[k - 1]'oO).toNat_lt
 refine W.reg <| WL.m rfl rfl <| WL.p (.mul rfl rfl (u32m _)) rfl <| WL.m rfl rfl <| WL.m rfl rfl <| WL.p (.ixb underlying26 sizeOf5 rfl rfl (hb.isp oO) (k - 1) oO oO) rfl <| WL.r (Rd.ldc (isAgg5 _) rfl (hb.cells (k - 1) oO)) rfl <| WL.p (.cvt underlying5 underlying91 rfl (u32w oO)) rfl <| WL.p (.iis (Lib.RK.H (s.drop (k - 1)).reverse % 4294967296) (.add rfl rfl (u32m _)) (by exact hrev_step s k oO hk)) rfl <| WL.z rfl rfl ?_
 refine W.reg <| WL.m rfl rfl <| WL.p (.iis (((k - 1 : Nat) : Int) - 1) (.sub rfl rfl (i64w oO)) oO) rfl <| WL.z rfl rfl ?_
 exact ⟨k - 1, ⟨rfl, rfl, rfl, trivial⟩, ⟨rfl, by ((try simp only) <;> omega)⟩, by ((try simp only) <;> omega)⟩
 have h1' := dF h1
 refine W.exit <| W.seq ?_
 obtain rfl : k = 0 := by omega
 rw [List.drop_zero]
 refine W.reg <| WL.a rfl rfl <| WL.z rfl rfl ?_
 refine W.seq <| W.sr <| WL.m rfl rfl <| WL.p (.lenS underlying26 rfl) rfl <| WL.z rfl rfl ?_
 refine W.block ?_
 refine W.loop (α := Nat × Int × Int) (fun t => [(4, .int .u32 (Lib.RK.H s.reverse % 4294967296)), (6, .int .u32 t.2.1), (7, .int .u32 t.2.2), (8, .int .i64 (t.1 : Int))]) (fun t w' => w = w' ∧ t.1 ≤ s.length ∧ 0 ≤ t.2.1 ∧ t.2.1 < 4294967296 ∧ Lib.RK.PowInv s.length t.1 t.2.1 t.2.2) (fun t => t.1) ((s.length, 1, 16777619)) ⟨rfl, rfl, rfl, rfl, trivial⟩ (⟨rfl, Nat.le_refl _, (show (0 : Int) ≤ 1 by decide), (show (1 : Int) < 4294967296 by decide), Lib.RK.pow_start _⟩) (fun t w1 hR => ?_)
 obtain ⟨⟨i, pw, sq⟩, rfl⟩ : ∃ q, q = t := ⟨t, rfl⟩
 obtain ⟨rfl, hi, p0, p1, hinv⟩ := hR
 simp only at hi p0 p1 hinv
 refine W.seq <| W.sr <| WL.m rfl rfl <| WL.p (.gtr rfl rfl) rfl <| WL.nil <| ?_
 refine W.cond rfl (fun h2 => ?_) (fun h2 => ?_)
 have h2' := dT h2
 refine W.skip <| W.seq <| W.block <| W.seq <| W.sr <| WL.m rfl rfl <| WL.p (.and rfl rfl (and_one i oO)) rfl <| WL.p (.neq rfl rfl) rfl <| WL.nil <| ?_
 refine W.cond rfl (fun h3 => ?_) (fun h3 => ?_)
 have h3' := ndT h3
 refine W.reg <| WL.m rfl rfl <| WL.m rfl rfl <| WL.p (.mul rfl rfl (u32m _)) rfl <| WL.z rfl rfl ?_
 refine W.reg <| WL.m rfl rfl <| WL.m rfl rfl <| WL.p (.mul rfl rfl (u32m _)) rfl <| WL.z rfl rfl ?_
 refine W.reg <| WL.m rfl rfl <| WL.p (.shrK rfl rfl dD dD ((i / 2 : Nat) : Int) (by show (i : Int) / 2 = _; omega)) rfl <| WL.z rfl rfl ?_
 first
 | exact ⟨(i / 2, pw * sq % 4294967296, sq * sq % 4294967296), ⟨rfl, rfl, rfl, rfl, trivial⟩, ⟨rfl, by ((try simp only) <;> omega), by ((try simp only) <;> omega), by ((try simp only) <;> omega), Lib.RK.pow_odd hinv oO⟩, by ((try simp only) <;> omega)⟩
 | exact ⟨(i / 2, pw, sq * sq % 4294967296), ⟨rfl, rfl, rfl, rfl, trivial⟩, ⟨rfl, by ((try simp only) <;> omega), by ((try simp only) <;> omega), by ((try simp only) <;> omega), Lib.RK.pow_even hinv oO⟩, by ((try simp only) <;> omega)⟩
 have h3' := ndF h3
 refine W.skip <| W.reg <| WL.m rfl rfl <| WL.m rfl rfl <| WL.p (.mul rfl rfl (u32m _)) rfl <| WL.z rfl rfl ?_
 refine W.reg <| WL.m rfl rfl <| WL.p (.shrK rfl rfl dD dD ((i / 2 : Nat) : Int) (by show (i : Int) / 2 = _; omega)) rfl <| WL.z rfl rfl ?_
 first
 | exact ⟨(i / 2, pw * sq % 4294967296, sq * sq % 4294967296), ⟨rfl, rfl, rfl, rfl, trivial⟩, ⟨rfl, by ((try simp only) <;> omega), by ((try simp only) <;> omega), by ((try simp only) <;> omega), Lib.RK.pow_odd hinv oO⟩, by ((try simp only) <;> omega)⟩
 | exact ⟨(i / 2, pw, sq * sq % 4294967296), ⟨rfl, rfl, rfl, rfl, trivial⟩, ⟨rfl, by ((try simp only) <;> omega), by ((try simp only) <;> omega), by ((try simp only) <;> omega), Lib.RK.pow_even hinv oO⟩, by ((try simp only) <;> omega)⟩
 have h2' := dF h2
 refine W.exit <| W.seq ?_
 obtain rfl : i = 0 := by omega
 have epw := Lib.RK.pow_end hinv p0 p1
 refine W.reg <| WL.m rfl rfl <| WL.m rfl rfl <| WL.a rfl rfl <| WL.z rfl rfl ?_
 refine W.ret (W.ret2 rfl rfl rfl ?_)
 exact ⟨rvE (by rw [epw]), rfl⟩
theorem rk_hit {l s : List UInt8} {i j : Nat} (hwin : (l.drop i).take s.length = s) (hno : ∀ j, i < j → j + s.length ≤ l.length → (l.drop j).take s.length ≠ s) (hj : i < j) (hjl : j + s.length ≤ l.length) :
    decide ((l.drop (j - 1)).take (j - 1 + s.length - (j - 1)) = s) = decide (j - 1 = i) := by
  rw [Nat.add_sub_cancel_left]
  by_cases h : j - 1 = i
  · rw [h, hwin]; simp
  · have := hno (j - 1) oO oO
    simp [h, this]
theorem rk_miss {l s : List UInt8} {i j : Nat} (hwin : (l.drop i).take s.length = s) (h : ¬ Lib.RK.H ((l.drop (j - 1)).take s.length).reverse % 4294967296 = Lib.RK.H s.reverse % 4294967296) : false = decide (j - 1 = i) := by
 symm
 rw [decide_eq_false_iff_not]
 intro hji
 exact h (by rw [hji, hwin])
/-- where the needle stands last: at q, short of the end -/
theorem byt_LastRK (p : Option Addr) (l : List UInt8) (c : Nat) (q : Option Addr) (s : List UInt8) (d i : Nat) (w : World) (ha : BytesAt w p l) (hb : BytesAt w q s) (hc : l.length ≤ c) (hl : l.length ≤ 100000000) (h1 : 1 ≤ s.length) (hi : i + s.length < l.length)
  (hwin : (l.drop i).take s.length = s) (hno : ∀ j, i < j → j + s.length ≤ l.length → (l.drop j).take s.length ≠ s) :
  Calls Tryz.prog 47 #[.slice p l.length c, .slice q s.length d] w fun e w' => e = .returned (.int .i64 (i : Int)) ∧ Drew w w' := by
 obtain ⟨last, hlast⟩ : ∃ last : Nat, last + s.length = l.length := ⟨l.length - s.length, by omega⟩
 refine W.enter func47 rfl ntmps47 (Nat.le_of_ble_eq_true rfl) ?_
 refine W.sr <| WL.z rfl rfl ?_
 refine W.sr <| WL.m rfl rfl <| WL.c1 hb65 rfl rfl ((byt_hashRev q s d _ hb oO)) (fun w1 hw1 => ?_)
 obtain rfl := hw1
 refine WL.m rfl rfl <| WL.p (.ext rfl rfl) rfl <| WL.p (.ext rfl rfl) rfl <| WL.a rfl rfl <| WL.z rfl rfl ?_
 refine W.sr <| WL.m rfl rfl <| WL.p (.lenS underlying26 rfl) rfl <| WL.z rfl rfl ?_
 refine W.sr <| WL.m rfl rfl <| WL.p (.lenS underlying26 rfl) rfl <| WL.m rfl rfl <| WL.p (.iis ((last : Int)) (.sub rfl rfl (i64w oO)) oO) rfl <| WL.z rfl rfl ?_
 refine W.sr <| WL.z rfl rfl ?_
 refine W.seq <| W.sr <| WL.m rfl rfl <| WL.p (.lenS underlying26 rfl) rfl <| WL.p (.sub rfl rfl (i64w oO)) rfl <| WL.z rfl rfl ?_
 refine W.block ?_
 refine W.loop (α := Nat) (fun t => [(0, .slice p l.length c), (1, .slice q s.length d), (5, .int .u32 (Lib.RK.H s.reverse % 4294967296)), (6, .int .u32 (16777619 ^ s.length % 4294967296)), (7, .int .i64 (s.length : Int)), (8, .int .i64 (last : Int)), (9, .int .u32 (Lib.RK.H (l.drop t).reverse % 4294967296)), (10, .int .i64 ((t : Int) - 1))]) (fun t w' => w = w' ∧ t ≤ l.length ∧ last ≤ t) (fun t => t) (l.length) ⟨rfl, rfl, rfl, rfl, rfl, rfl, lk_i rfl (by simp [Lib.RK.H]), rfl, trivial⟩ (⟨rfl, Nat.le_refl _, by omega⟩) (fun t w1 hR => ?_)
 obtain ⟨k, rfl⟩ : ∃ k, k = t := ⟨t, rfl⟩
 obtain ⟨rfl, hk, hkl⟩ := hR
 refine W.seq <| W.sr <| WL.m rfl rfl <| WL.m rfl rfl <| WL.p (.geq rfl rfl) rfl <| WL.nil <| ?_
 refine W.cond rfl (fun h2 => ?_) (fun h2 => ?_)
 have h2' := dT h2
 refine W.skip <| W.seq <| W.block ?_
 have hb8 := (l[k - 1]'oO).toNat_lt
 refine W.reg <| WL.m rfl rfl <| WL.p (.mul rfl rfl (u32m _)) rfl <| WL.m rfl rfl <| WL.m rfl rfl <| WL.p (.ixb underlying26 sizeOf5 rfl rfl (ha.isp oO) (k - 1) oO oO) rfl <| WL.r (Rd.ldc (isAgg5 _) rfl (ha.cells (k - 1) oO)) rfl <| WL.p (.cvt underlying5 underlying91 rfl (u32w oO)) rfl <| WL.p (.iis (Lib.RK.H (l.drop (k - 1)).reverse % 4294967296) (.add rfl rfl (u32m _)) (by exact hrev_step l k oO hk)) rfl <| WL.z rfl rfl ?_
 refine W.reg <| WL.m rfl rfl <| WL.p (.iis (((k - 1 : Nat) : Int) - 1) (.sub rfl rfl (i64w oO)) oO) rfl <| WL.z rfl rfl ?_
 exact ⟨k - 1, ⟨rfl, rfl, rfl, rfl, rfl, rfl, rfl, rfl, trivial⟩, ⟨rfl, by ((try simp only) <;> omega), by ((try simp only) <;> omega)⟩, by ((try simp only) <;> omega)⟩
 have h2' := dF h2
 refine W.exit <| W.seq ?_
 obtain rfl : k = last := by omega
 have hne := hno k oO oO
 have hdk : (l.drop k).take s.length = l.drop k := List.take_of_length_le (by rw [List.length_drop]; omega)
 refine W.cutBQ 50 (false) ?_ (fun w3 dw3 => ?_)
 refine W.regQ mixed kR ?_
 refine WQ.p (.mv rfl) rfl <| WQ.p (.mv rfl) rfl <| WQ.p (.eql rfl rfl) rfl <| WQ.p (.mv rfl) rfl <| WQ.gd rfl rfl rfl (fun g4 => ?_) (fun g4 => ?_)
 have g4' := dT g4
 refine WQ.p (.mv rfl) rfl <| WQ.gy rfl rfl rfl g4 <| WQ.p (.mv rfl) rfl <| WQ.gy rfl rfl rfl g4 <| WQ.p (.slbF underlying26 sizeOf5 rfl rfl  (k) (rfl) oO) rfl <| WQ.gy rfl rfl rfl g4 <| WQ.r (fun m => Rd.b2sPart underlying26 underlying5 underlying9 rfl rfl (ha.drewN m) oO oO oO) rfl <| WQ.gy rfl rfl rfl g4 <| WQ.p (.mv rfl) rfl <| WQ.gy rfl rfl rfl g4 <| WQ.r (fun m => Rd.b2s (l := s) underlying26 underlying5 underlying9 rfl ((hb).drewN m)) rfl <| WQ.gy rfl rfl rfl g4 <| WQ.p (.eqs rfl rfl) rfl <| WQ.p (.pkT rfl g4 rfl) rfl <| WQ.nil (fun w5 dw5 => ?_)
 exact ⟨leE (lk_b rfl (by first | rfl | (rw [decide_eq_false_iff_not]; intro hq; exact hne (by rw [show s.length = l.length - k by omega]; simpa using hq)))), dw5⟩
 have g4' := dF g4
 refine WQ.gn rfl rfl rfl g4 <| WQ.gn rfl rfl rfl g4 <| WQ.gn rfl rfl rfl g4 <| WQ.gn rfl rfl rfl g4 <| WQ.gn rfl rfl rfl g4 <| WQ.gn rfl rfl rfl g4 <| WQ.p (.pkF rfl g4 rfl) rfl <| WQ.nil (fun w8 dw8 => ?_)
 exact ⟨leE (lk_b rfl (by first | rfl | (rw [decide_eq_false_iff_not]; intro hq; exact hne (by rw [show s.length = l.length - k by omega]; simpa using hq)))), dw8⟩
 refine W.condF rfl rfl ?_
 refine W.skip <| W.seq <| W.sr <| WL.m rfl rfl <| WL.p (.sub rfl rfl (i64w oO)) rfl <| WL.z rfl rfl ?_
 refine W.block ?_
 refine W.loop (α := Nat) (fun t => [(0, .slice p l.length c), (1, .slice q s.length d), (5, .int .u32 (Lib.RK.H s.reverse % 4294967296)), (6, .int .u32 (16777619 ^ s.length % 4294967296)), (7, .int .i64 (s.length : Int)), (9, .int .u32 (Lib.RK.H ((l.drop t).take s.length).reverse % 4294967296)), (11, .int .i64 ((t : Int) - 1))]) (fun t w' => Drew w w' ∧ i < t ∧ t ≤ k) (fun t => t) (k) ⟨rfl, rfl, rfl, rfl, rfl, lk_i rfl (by rw [hdk]), rfl, trivial⟩ (⟨dw3, by omega, Nat.le_refl _⟩) (fun t w1 hR => ?_)
 obtain ⟨j, rfl⟩ : ∃ j, j = t := ⟨t, rfl⟩
 obtain ⟨hD, hj, hjk⟩ := hR
 have ha1 := ha.drew hD
 have hb1 := hb.drew hD
 refine W.seq <| W.sr <| WL.m rfl rfl <| WL.p (.bis (true) (.geq rfl rfl) (by simp; omega)) rfl <| WL.nil <| ?_
 refine W.condT rfl rfl ?_
 refine W.skip <| W.seq <| W.block <| W.seq ?_
 have hb8 := (l[j - 1]'oO).toNat_lt
 have hb9 := (l[j - 1 + s.length]'oO).toNat_lt
 refine W.reg <| WL.m rfl rfl <| WL.p (.mul rfl rfl (u32m _)) rfl <| WL.z rfl rfl ?_
 refine W.sr <| WL.m rfl rfl <| WL.m rfl rfl <| WL.m rfl rfl <| WL.p (.ixb underlying26 sizeOf5 rfl rfl (ha1.isp oO) (j - 1) oO oO) rfl <| WL.r (Rd.ldc (isAgg5 _) rfl (ha1.cells (j - 1) oO)) rfl <| WL.p (.cvt underlying5 underlying91 rfl (u32w oO)) rfl <| WL.p (.add rfl rfl (u32m _)) rfl <| WL.z rfl rfl ?_
 refine W.sr <| WL.m rfl rfl <| WL.m rfl rfl <| WL.m rfl rfl <| WL.m rfl rfl <| WL.m rfl rfl <| WL.p (.add rfl rfl (i64w oO)) rfl <| WL.p (.ixb underlying26 sizeOf5 rfl rfl (ha1.isp oO) (j - 1 + s.length) oO oO) rfl <| WL.r (Rd.ldc (isAgg5 _) rfl (ha1.cells (j - 1 + s.length) oO)) rfl <| WL.p (.cvt underlying5 underlying91 rfl (u32w oO)) rfl <| WL.p (.mul rfl rfl (u32m _)) rfl <| WL.p (.iis (Lib.RK.H ((l.drop (j - 1)).take s.length).reverse % 4294967296) (.sub rfl rfl (u32m _)) (by exact rrev_step l s.length j h1 oO oO)) rfl <| WL.z rfl rfl ?_
 refine W.cutBQ 92 (decide (j - 1 = i)) ?_ (fun w13 dw13 => ?_)
 refine W.regQ mixed kR ?_
 refine WQ.p (.mv rfl) rfl <| WQ.p (.mv rfl) rfl <| WQ.p (.eql rfl rfl) rfl <| WQ.p (.mv rfl) rfl <| WQ.gd rfl rfl rfl (fun g14 => ?_) (fun g14 => ?_)
 have g14' := dT g14
 refine WQ.p (.mv rfl) rfl <| WQ.gy rfl rfl rfl g14 <| WQ.p (.mv rfl) rfl <| WQ.gy rfl rfl rfl g14 <| WQ.p (.mv rfl) rfl <| WQ.gy rfl rfl rfl g14 <| WQ.p (.mv rfl) rfl <| WQ.gy rfl rfl rfl g14 <| WQ.p (.add rfl rfl (i64w oO)) rfl <| WQ.gy rfl rfl rfl g14 <| WQ.p (.slb underlying26 sizeOf5 rfl rfl rfl  (j - 1) (j - 1 + s.length) oO oO oO oO) rfl <| WQ.gy rfl rfl rfl g14 <| WQ.r (fun m => Rd.b2sPart underlying26 underlying5 underlying9 rfl rfl (ha1.drewN m) oO oO oO) rfl <| WQ.gy rfl rfl rfl g14 <| WQ.p (.mv rfl) rfl <| WQ.gy rfl rfl rfl g14 <| WQ.r (fun m => Rd.b2s (l := s) underlying26 underlying5 underlying9 rfl ((hb1).drewN m)) rfl <| WQ.gy rfl rfl rfl g14 <| WQ.p (.eqs rfl rfl) rfl <| WQ.p (.pkT rfl g14 rfl) rfl <| WQ.nil (fun w15 dw15 => ?_)
 exact ⟨leE (lk_b rfl (by first | exact rk_hit hwin hno hj oO | exact rk_miss hwin aS)), dw15⟩
 have g14' := dF g14
 refine WQ.gn rfl rfl rfl g14 <| WQ.gn rfl rfl rfl g14 <| WQ.gn rfl rfl rfl g14 <| WQ.gn rfl rfl rfl g14 <| WQ.gn rfl rfl rfl g14 <| WQ.gn rfl rfl rfl g14 <| WQ.gn rfl rfl rfl g14 <| WQ.gn rfl rfl rfl g14 <| WQ.gn rfl rfl rfl g14 <| WQ.p (.pkF rfl g14 rfl) rfl <| WQ.nil (fun w18 dw18 => ?_)
 exact ⟨leE (lk_b rfl (by first | exact rk_hit hwin hno hj oO | exact rk_miss hwin aS)), dw18⟩
 refine W.cond rfl (fun h23 => ?_) (fun h23 => ?_)
 have h23' := dT h23
 refine W.sr <| WL.m rfl rfl <| WL.z rfl rfl ?_
 refine W.ret (W.ret1 rfl rfl ?_)
 exact ⟨rvE (by congr 1; omega), hD.trans dw13⟩
 have h23' := dF h23
 refine W.skip <| W.reg <| WL.m rfl rfl <| WL.p (.iis (((j - 1 : Nat) : Int) - 1) (.sub rfl rfl (i64w oO)) oO) rfl <| WL.z rfl rfl ?_
 exact ⟨j - 1, ⟨rfl, rfl, rfl, rfl, rfl, rfl, rfl, trivial⟩, ⟨hD.trans dw13, by ((try simp only) <;> omega), by ((try simp only) <;> omega)⟩, by ((try simp only) <;> omega)⟩
theorem byt_LastIndex (p : Option Addr) (l : List UInt8) (c : Nat) (q : Option Addr) (s : List UInt8) (d i : Nat) (w : World) (ha : BytesAt w p l) (hb : BytesAt w q s) (hc : l.length ≤ c) (hl : l.length ≤ 100000000) (h1 : 2 ≤ s.length) (hi : i + s.length < l.length)
  (hwin : (l.drop i).take s.length = s) (hno : ∀ j, i < j → j + s.length ≤ l.length → (l.drop j).take s.length ≠ s) :
  Calls Tryz.prog 24 #[.slice p l.length c, .slice q s.length d] w fun e w' => e = .returned (.int .i64 (i : Int)) ∧ Drew w w' := by
 refine W.enter func24 rfl ntmps24 (Nat.le_of_ble_eq_true rfl) ?_
 refine W.sr <| WL.z rfl rfl ?_
 refine W.sr <| WL.m rfl rfl <| WL.p (.lenS underlying26 rfl) rfl <| WL.z rfl rfl ?_
 refine W.seq <| W.block <| W.sr <| WL.m rfl rfl <| WL.p (.bis (false) (.eql rfl rfl) (by exact decide_eq_false oO)) rfl <| WL.z rfl rfl ?_
 refine W.condF rfl rfl ?_
 refine W.sr <| WL.m rfl rfl <| WL.p (.bis (false) (.eql rfl rfl) (by exact decide_eq_false oO)) rfl <| WL.z rfl rfl ?_
 refine W.condF rfl rfl ?_
 refine W.sr <| WL.m rfl rfl <| WL.m rfl rfl <| WL.p (.lenS underlying26 rfl) rfl <| WL.p (.bis (false) (.eql rfl rfl) (by exact decide_eq_false oO)) rfl <| WL.z rfl rfl ?_
 refine W.condF rfl rfl ?_
 refine W.sr <| WL.m rfl rfl <| WL.m rfl rfl <| WL.p (.lenS underlying26 rfl) rfl <| WL.p (.bis (false) (.gtr rfl rfl) (by exact decide_eq_false oO)) rfl <| WL.z rfl rfl ?_
 refine W.condF rfl rfl ?_
 refine W.skip <| W.sr <| WL.m rfl rfl <| WL.m rfl rfl <| WL.c1 hb47 rfl rfl ((byt_LastRK p l c q s d i _ ha hb hc hl oO hi hwin hno)) (fun w1 hw1 => ?_)
 refine WL.z rfl rfl ?_
 refine W.ret (W.ret1 rfl rfl ?_)
 exact ⟨rfl, hw1⟩
end
section
open Go.ChangeShapes Go.WideShapes Go.ChangeAt Go.RowKit
/-- what is known of a slice's length and room -/
structure SlOk {α : Type} (p : Option Addr) (l : List α) (c : Nat) : Prop where
 le : l.length ≤ c
 cap : c ≤ maxLen
 nil : l = [] → c = 0 ∨ p ≠ none
 none : p = none → l = [] ∧ c = 0
theorem SlOk.z {α : Type} : SlOk (α := α) Option.none [] 0 := ⟨Nat.le_refl _, by unfold maxLen; omega, fun _ => .inl rfl, fun _ => ⟨rfl, rfl⟩⟩
theorem list_choose {α : Type} (P : Nat → α → Prop) : ∀ n, (∀ i, i < n → ∃ o, P i o) → ∃ l : List α, l.length = n ∧ ∀ i (h : i < l.length), P i l[i]
  | 0, _ => ⟨[], rfl, fun i h => by simp at h⟩
  | n + 1, h => by
    obtain ⟨l, hl, hp⟩ := list_choose P n (fun i hi => h i oO)
    obtain ⟨o, ho⟩ := h n oO
    refine ⟨l ++ [o], by simp [hl], fun i hi => ?_⟩
    rw [List.length_append, List.length_singleton] at hi
    rcases Nat.lt_or_ge i l.length with h1 | h1
    · rw [List.getElem_append_left h1]; exact hp i h1
    · obtain rfl : i = l.length := by omega
      rw [List.getElem_append_right (Nat.le_refl _)]
      simp only [Nat.sub_self, List.getElem_cons_zero]
      rw [hl]; exact ho
theorem wf64 {n : Int} (h : (Lit.int .i64 n).wf = true) : -9223372036854775808 ≤ n ∧ n ≤ 9223372036854775807 := by
 simp only [Lit.wf, Bool.and_eq_true, decide_eq_true_eq] at h; exact h
end
section
open Go.ChangeShapes Go.WideShapes Go.ChangeAt Go.RowKit
/-- an object's cells -/
structure AC where
 kind : Int
 n : Int
 text : List UInt8
 kp : Option Addr
 kl : Nat
 kc : Nat
 lp : Option Addr
 ll : Nat
 lc : Nat
 dp : Option Addr
 dl : Nat
 dc : Nat
def acV (x : AC) : List Value := [.int .i64 x.kind, .int .i64 x.n, .string (bs x.text), .slice x.kp x.kl x.kc, .slice x.lp x.ll x.lc, .slice x.dp x.dl x.dc]
def acL : Lay AC := ⟨6, acV, by decide, fun _ => rfl, fun x u hu => List.all_eq_true.1 (show (acV x).all Value.oneCell' = true from rfl) u hu⟩
/-- lengths and numbers are what Go's are -/
structure ACok (x : AC) (nk nl nd : Nat) : Prop where
 n : -9223372036854775808 ≤ x.n ∧ x.n ≤ 9223372036854775807
 text : x.text.length ≤ 9223372036854775807
 kl : x.kl = nk
 ll : x.ll = nl
 dl : x.dl = nd
 kc : nk ≤ x.kc
 lc : nl ≤ x.lc
 dc : nd ≤ x.dc
 km : x.kc ≤ 9223372036854775807
 lm : x.lc ≤ 9223372036854775807
 dm : x.dc ≤ 9223372036854775807
/-- cells that hold an object; the rows that it leads to lie in blocks of S -/
inductive ARep (w : World) (S : Nat → Prop) : AC → AV → Prop
 | mk (x : AC) (keys : List (List UInt8)) (list : List AV) (data : List UInt8) (cs : List AC) (ok : ACok x keys.length cs.length data.length) (hkl : ∀ k ∈ keys, k.length ≤ 9223372036854775807)
   (hk : RowAt strV w x.kp keys) (hks : 0 < keys.length → S (pA x.kp).block) (hr : RowM acL w x.lp cs) (hrs : 0 < cs.length → S (pA x.lp).block)
   (hd : BytesAt w x.dp data) (hds : 0 < data.length → S (pA x.dp).block) (hlen : cs.length = list.length)
   (hsub : ∀ i (h : i < cs.length) (h2 : i < list.length), ARep w S cs[i] list[i]) : ARep w S x (.mk x.kind x.n x.text keys list data)
theorem RowAt.same {α : Type} {V : α → Value} {w w1 : World} {p : Option Addr} {l : List α} (h : RowAt V w p l) (hb : 0 < l.length → w1.heap[(pA p).block]? = w.heap[(pA p).block]?) : RowAt V w1 p l :=
 ⟨h.isp, fun j hj => by rw [World.cell?_of_block (w := w) (by rw [add_block]; exact hb oO)]; exact h.cells j hj⟩
theorem BytesAt.same {w w1 : World} {p : Option Addr} {l : List UInt8} (h : BytesAt w p l) (hb : 0 < l.length → w1.heap[(pA p).block]? = w.heap[(pA p).block]?) : BytesAt w1 p l :=
 ⟨h.isp, fun j hj => by rw [World.cell?_of_block (w := w) (by rw [add_block]; exact hb oO)]; exact h.cells j hj⟩
theorem ARep.same {S : Nat → Prop} {w w1 : World} {x : AC} {o : AV} (h : ARep w S x o) (hb : ∀ k, S k → k < w.heap.size → w1.heap[k]? = w.heap[k]?) : ARep w1 S x o := by
 induction h with
 | mk x keys list data cs ok hkl hk hks hr hrs hd hds hlen _ ih =>
  exact .mk x keys list data cs ok hkl (hk.same fun h0 => hb _ (hks h0) (hk.lt h0)) hks (hr.same fun h0 => hb _ (hrs h0) (hr.lt h0)) hrs (hd.same fun h0 => hb _ (hds h0) (hd.lt h0)) hds hlen ih
theorem ARep.mono {S T : Nat → Prop} {w : World} {x : AC} {o : AV} (h : ARep w S x o) (hST : ∀ k, S k → k < w.heap.size → T k) : ARep w T x o := by
 induction h with
 | mk x keys list data cs ok hkl hk hks hr hrs hd hds hlen _ ih =>
  exact .mk x keys list data cs ok hkl hk (fun h0 => hST _ (hks h0) (hk.lt h0)) hr (fun h0 => hST _ (hrs h0) (hr.lt h0)) hd (fun h0 => hST _ (hds h0) (hd.lt h0)) hlen ih
theorem ARep.drew {S : Nat → Prop} {w w1 : World} {x : AC} {o : AV} (h : ARep w S x o) (d : Drew w w1) : ARep w1 S x o := by obtain ⟨m, rfl⟩ := d; exact h.same fun _ _ _ => rfl
theorem ARep.inv {w : World} {S : Nat → Prop} {x : AC} {o : AV} (h : ARep w S x o) : ∃ (keys : List (List UInt8)) (list : List AV) (data : List UInt8) (cs : List AC), o = .mk x.kind x.n x.text keys list data ∧ ACok x keys.length cs.length data.length ∧ (∀ k ∈ keys, k.length ≤ 9223372036854775807) ∧ RowAt strV w x.kp keys ∧ (0 < keys.length → S (pA x.kp).block) ∧
  RowM acL w x.lp cs ∧ (0 < cs.length → S (pA x.lp).block) ∧ BytesAt w x.dp data ∧ (0 < data.length → S (pA x.dp).block) ∧ cs.length = list.length ∧ ∀ i (h : i < cs.length) (h2 : i < list.length), ARep w S cs[i] list[i] := by
 cases h with
 | mk x keys list data cs ok hkl hk hks hr hrs hd hds hlen hsub => exact ⟨keys, list, data, cs, rfl, ok, hkl, hk, hks, hr, hrs, hd, hds, hlen, hsub⟩
/-- objects that lie in blocks of S -/
structure AInv (w : World) (S : Nat → Prop) (cs : List AC) (acc : List AV) : Prop where
 len : cs.length = acc.length
 sub : ∀ i (h : i < cs.length) (h2 : i < acc.length), ARep w S cs[i] acc[i]
theorem AInv.same {w w1 : World} {S : Nat → Prop} {cs : List AC} {acc : List AV} (h : AInv w S cs acc) (hb : ∀ k, S k → k < w.heap.size → w1.heap[k]? = w.heap[k]?) : AInv w1 S cs acc := ⟨h.len, fun i h1 h2 => (h.sub i h1 h2).same hb⟩
theorem AInv.mono {w : World} {S T : Nat → Prop} {cs : List AC} {acc : List AV} (h : AInv w S cs acc) (hST : ∀ k, S k → k < w.heap.size → T k) : AInv w T cs acc := ⟨h.len, fun i h1 h2 => (h.sub i h1 h2).mono hST⟩
def acOf (x : PC) : AC := ⟨x.kind, x.n, x.text, x.kp, x.kl, x.kc, x.lp, x.ll, x.lc, none, 0, 0⟩
mutual
def avO : PV → AV
 | .mk k n t ks l => .mk k n t ks (avL l) []
def avL : List PV → List AV
 | [] => []
 | o :: r => avO o :: avL r
end
theorem avL_map : ∀ l : List PV, avL l = l.map avO
 | [] => by simp [avL]
 | o :: r => by rw [avL, avL_map r]; rfl
theorem rowOf {w : World} {p : Option Addr} {cs : List PC} (h : RowM pcL w p cs) : RowM acL w p (cs.map acOf) :=
 ⟨fun h0 => h.isp (by simpa using h0), fun j hj i hi => by
  have := h.cells j (by simpa using hj) i hi
  rw [List.getElem_map]
  exact this⟩
/-- numbers that Go's are -/
inductive PWf : PV → Prop
 | mk (k n : Int) (t : List UInt8) (ks : List (List UInt8)) (l : List PV) (hn : -9223372036854775808 ≤ n ∧ n ≤ 9223372036854775807) (ht : t.length ≤ 9223372036854775807) (hk : ∀ k ∈ ks, k.length ≤ 9223372036854775807) (h : ∀ o ∈ l, PWf o) : PWf (.mk k n t ks l)
theorem OwnM.full {α : Type} {L : Lay α} {e : TypeId} {B n c : Nat} {w : World} {p : Option Addr} {l : List α} (h : OwnM L e B w (.slice p n c) l) : n = l.length ∧ l.length ≤ c ∧ c ≤ 9223372036854775807 ∧ RowM L w p l ∧ (0 < l.length → (Value.slice p n c).ownBlock = some (pA p).block) := by
 obtain ⟨p', c', hv, hr, -, hc, -, ho, hm, -⟩ := h.row
 cases hv
 unfold maxLen at hm
 refine ⟨rfl, hc, by omega, hr, fun h0 => ?_⟩
 rw [ho, hr.isp h0]; rfl
theorem PRep.rep {w : World} {S : Nat → Prop} {x : PC} {o : PV} (h : PRep w S x o) (hw : PWf o) : ARep w S (acOf x) (avO o) := by
  induction h with
  | mk x keys list cs hk hr hlen hsub ih =>
    cases hw with
    | mk _ _ _ _ _ hn ht hkl hl =>
    obtain ⟨k1, k2, k3, k4, k5⟩ := hk.1.full
    obtain ⟨r1, r2, r3, r4, r5⟩ := hr.1.full
    rw [avO, avL_map]
    refine ARep.mk (acOf x) keys (list.map avO) [] (cs.map acOf) ⟨hn, ht, k1, by rw [List.length_map]; exact r1, rfl, k2, by rw [List.length_map]; exact r2, Nat.zero_le _, k3, r3, Nat.zero_le _⟩ hkl k4.strs (fun h0 => hk.2 _ (k5 h0)) (rowOf r4) (fun h0 => hr.2 _ (r5 (by simpa using h0)))
      ⟨fun h => by simp at h, fun j h => by simp at h⟩ (fun h => by simp at h) (by simpa using hlen) fun i h h2 => ?_
    rw [List.getElem_map, List.getElem_map]
    exact ih i (by simpa using h) (by simpa using h2) (hl _ (List.getElem_mem _))
/-- a sound object without data is what it is read as -/
theorem av_pv {D : Int} {st : Bool} {o : AV} (h : Snd D st o) : o.kind ≠ 9 → avO (pvO o) = o := by
 induction h with
 | null D st => intro _; simp [pvO, avO, pvL, avL]
 | bool D st n hn => intro _; simp [pvO, avO, pvL, avL]
 | num D st k n hk hf => intro _; simp [pvO, avO, pvL, avL]
 | name D st s hs => intro _; simp [pvO, avO, pvL, avL]
 | text D st s hs => intro _; simp [pvO, avO, pvL, avL]
 | ref D st n hn => intro _; simp [pvO, avO, pvL, avL]
 | arr D st L hD hl hS ih =>
  intro _
  rw [pvO, avO, pvL_map, avL_map, List.map_map]
  congr 1
  refine Eq.trans (List.map_congr_left fun o ho => ih o ho (snd_no9 (hS o ho))) (List.map_id'' (fun _ => rfl) L)
 | dict D st k ks L dd hk hD hl hkl hn hnd hS ih =>
  intro h9
  have hd : dd = [] := by rcases hk with ⟨-, h⟩ | ⟨h, -⟩; exact h; exact absurd h h9
  subst hd
  rw [pvO, avO, pvL_map, avL_map, List.map_map]
  congr 1
  refine Eq.trans (List.map_congr_left fun o ho => ih o ho (snd_no9 (hS o ho))) (List.map_id'' (fun _ => rfl) L)
theorem pwf_snd {D : Int} {st : Bool} {o : AV} (h : Snd D st o) : PWf (pvO o) := by
 induction h with
 | null D st => rw [pvO, pvL]; exact .mk _ _ _ _ _ oO (by simp) (fun o h => by cases h) (fun o h => by cases h)
 | bool D st n hn => rw [pvO, pvL]; exact .mk _ _ _ _ _ oO (by simp) (fun o h => by cases h) (fun o h => by cases h)
 | num D st k n hk hf => have := fitsB_i hf; rw [pvO, pvL]; exact .mk _ _ _ _ _ oO (by simp) (fun o h => by cases h) (fun o h => by cases h)
 | name D st s hs => have := hs.2.2; rw [pvO, pvL]; exact .mk _ _ _ _ _ oO oO (fun o h => by cases h) (fun o h => by cases h)
 | text D st s hs => rw [pvO, pvL]; exact .mk _ _ _ _ _ oO oO (fun o h => by cases h) (fun o h => by cases h)
 | ref D st n hn => rw [pvO, pvL]; exact .mk _ _ _ _ _ oO (by simp) (fun o h => by cases h) (fun o h => by cases h)
 | arr D st L hD hl hS ih => rw [pvO, pvL_map]; exact .mk _ _ _ _ _ oO (by simp) (fun o h => by cases h) (fun o h => by obtain ⟨a, ha, rfl⟩ := List.mem_map.1 h; exact ih a ha)
 | dict D st k ks L dd hk hD hl hkl hn hnd hS ih => rw [pvO, pvL_map]; exact .mk _ _ _ _ _ oO (by simp) (fun k h => by have := (hn k h).2.2; omega) (fun o h => by obtain ⟨a, ha, rfl⟩ := List.mem_map.1 h; exact ih a ha)
end
section
theorem r01_Texts (p : Option Addr) (l : List (List UInt8)) (c : Nat) (q : Option Addr) (d : Nat) (w : World) (ha : RowAt strV w p l) (hb : RowAt strV w q l) (hl : l.length ≤ 9223372036854775807) :
  Calls Tryz.prog 37 #[.slice p l.length c, .slice q l.length d] w fun e w' => e = .returned (.bool true) ∧ Drew w w' := by
 refine W.enter func37 rfl ntmps37 (Nat.le_of_ble_eq_true rfl) ?_
 refine W.sr <| WL.z rfl rfl ?_
 refine W.seq <| W.sr <| WL.m rfl rfl <| WL.p (.lenS underlying25 rfl) rfl <| WL.m rfl rfl <| WL.p (.lenS underlying25 rfl) rfl <| WL.p (.neq rfl rfl) rfl <| WL.nil <| ?_
 refine W.cond rfl (fun h1 => ?_) (fun h1 => ?_)
 have h1' := ndT h1
 omega
 have h1' := ndF h1
 refine W.skip <| W.seq <| W.sr <| WL.z rfl rfl ?_
 refine W.block ?_
 refine W.loop (α := Nat) (fun t => [(0, .slice p l.length c), (1, .slice q l.length d), (5, .int .i64 (t : Int))]) (fun t w' => Drew w w' ∧ t ≤ l.length) (fun t => l.length - t) (0) ⟨rfl, rfl, rfl, trivial⟩ (⟨Drew.refl _, Nat.zero_le _⟩) (fun t w1 hR => ?_)
 obtain ⟨hD, ht⟩ := hR
 have ha1 := ha.drew hD
 have hb1 := hb.drew hD
 refine W.seq <| W.sr <| WL.m rfl rfl <| WL.m rfl rfl <| WL.p (.lenS underlying25 rfl) rfl <| WL.p (.lss rfl rfl) rfl <| WL.nil <| ?_
 refine W.cond rfl (fun h2 => ?_) (fun h2 => ?_)
 have h2' := dT h2
 refine W.skip <| W.seq <| W.block <| W.seq <| W.regQ mixed kR ?_
 refine WQ.p (.mv rfl) rfl <| WQ.p (.mv rfl) rfl <| WQ.p (.ixb underlying25 sizeOf9 rfl rfl (ha1.isp oO) (t) oO oO) rfl <| WQ.r (fun m => Rd.ldc (isAgg9 _) rfl ((ha1.drewN m).cells (t) oO)) rfl <| WQ.p (.mv rfl) rfl <| WQ.p (.mv rfl) rfl <| WQ.p (.ixb underlying25 sizeOf9 rfl rfl (hb1.isp oO) (t) oO oO) rfl <| WQ.r (fun m => Rd.ldc (isAgg9 _) rfl ((hb1.drewN m).cells (t) oO)) rfl <| WQ.p (.nes rfl rfl) rfl <| WQ.nil (fun w3 dw3 => ?_)
 refine W.cond rfl (fun h6 => ?_) (fun h6 => ?_)
 have h6' := ndT h6
 contradiction
 have h6' := ndF h6
 refine W.skip <| W.reg <| WL.m rfl rfl <| WL.p (.iis (((t + 1 : Nat) : Int)) (.add rfl rfl (i64w oO)) oO) rfl <| WL.z rfl rfl ?_
 exact ⟨t + 1, ⟨rfl, rfl, rfl, trivial⟩, ⟨hD.trans dw3, by omega⟩, by omega⟩
 have h2' := dF h2
 refine W.exit <| W.sr <| WL.z rfl rfl ?_
 refine W.ret (W.ret1 rfl rfl ?_)
 exact ⟨rfl, hD⟩
theorem PRep.inv {w : World} {S : Nat → Prop} {x : PC} {o : PV} (h : PRep w S x o) : ∃ (keys : List (List UInt8)) (list : List PV) (cs : List PC), o = .mk x.kind x.n x.text keys list ∧ StrsAt S w (.slice x.kp x.kl x.kc) keys ∧ RowIn S w (.slice x.lp x.ll x.lc) cs ∧ LInv w S cs list := by
 cases h with
 | mk x keys list cs hk hr hlen hsub => exact ⟨keys, list, cs, rfl, hk, hr, hlen, hsub⟩
end
section
theorem lenz {α : Type} {l : List α} (h : (l.length : Int) = 0) : l = [] := List.length_eq_zero_iff.1 oO
theorem len0 {α β : Type} {l : List α} {m : List β} (hl : l.length = m.length) (h : (l.length : Int) = 0) : m = [] := List.length_eq_zero_iff.1 oO
section
variable {D : Int} {st : Bool} {k n : Int} {t : List UInt8} {ks : List (List UInt8)} {l : List AV} {cs : List AC} {d : List UInt8}
theorem fin0 (hl : cs.length = l.length) (hk : k = 0) (hn : n = 0) (ht : t = []) (h1 : (ks.length : Int) = 0) (h2 : (cs.length : Int) = 0) (h3 : (d.length : Int) = 0) : Snd D st (.mk k n t ks l d) := by
 rw [hk, hn, ht, lenz h1, len0 hl h2, lenz h3]; exact .null D st
theorem fin1 (hl : cs.length = l.length) (hk : k = 1) (hn : n = 0 ∨ n = 1) (ht : t = []) (h1 : (ks.length : Int) = 0) (h2 : (cs.length : Int) = 0) (h3 : (d.length : Int) = 0) : Snd D st (.mk k n t ks l d) := by
 rw [hk, ht, lenz h1, len0 hl h2, lenz h3]; exact .bool D st n hn
theorem fin2 (hl : cs.length = l.length) (hk : k = 2 ∨ k = 3) (hn : fitsB n = true) (ht : t = []) (h1 : (ks.length : Int) = 0) (h2 : (cs.length : Int) = 0) (h3 : (d.length : Int) = 0) : Snd D st (.mk k n t ks l d) := by
 rw [ht, lenz h1, len0 hl h2, lenz h3]; exact .num D st k n hk hn
theorem fin4 (hl : cs.length = l.length) (hk : k = 4) (hn : n = 0) (ht : nmOk t) (h1 : (ks.length : Int) = 0) (h2 : (cs.length : Int) = 0) (h3 : (d.length : Int) = 0) : Snd D st (.mk k n t ks l d) := by
 rw [hk, hn, lenz h1, len0 hl h2, lenz h3]; exact .name D st t ht
theorem fin5 (hl : cs.length = l.length) (hk : k = 5) (hn : n = 0) (ht : (t.length : Int) ≤ 65535) (h1 : (ks.length : Int) = 0) (h2 : (cs.length : Int) = 0) (h3 : (d.length : Int) = 0) : Snd D st (.mk k n t ks l d) := by
 rw [hk, hn, lenz h1, len0 hl h2, lenz h3]; exact .text D st t oO
theorem fin8 (hl : cs.length = l.length) (hk : k = 8) (hn : 1 ≤ n) (hn2 : n ≤ 4096) (ht : t = []) (h1 : (ks.length : Int) = 0) (h2 : (cs.length : Int) = 0) (h3 : (d.length : Int) = 0) : Snd D st (.mk k n t ks l d) := by
 rw [hk, ht, lenz h1, len0 hl h2, lenz h3]; exact .ref D st n ⟨hn, hn2⟩
end
/-- what has been seen of a list or a dictionary ahead of its objects -/
def PreS (D : Int) (st : Bool) (k n : Int) (t : List UInt8) (ks : List (List UInt8)) (m : Nat) (d : List UInt8) : Prop :=
 (k = 6 ∧ 1 ≤ D ∧ n = 0 ∧ t = [] ∧ ks = [] ∧ d = []) ∨
 (((k = 7 ∧ d = []) ∨ (k = 9 ∧ st = true ∧ d.length ≤ 1048576 ∧ [76, 101, 110, 103, 116, 104] ∉ ks)) ∧ 1 ≤ D ∧ n = 0 ∧ t = [] ∧ ks.length = m ∧ (∀ x ∈ ks, nmOk x) ∧ ks.Nodup)
theorem PreS.snd {D : Int} {st : Bool} {k n : Int} {t : List UInt8} {ks : List (List UInt8)} {l : List AV} {d : List UInt8} (h : PreS D st k n t ks l.length d) (hl : l.length ≤ 65535) (hs : ∀ o ∈ l, Snd (D - 1) false o) : Snd D st (.mk k n t ks l d) := by
 rcases h with ⟨rfl, h1, rfl, rfl, rfl, rfl⟩ | ⟨h0, h1, rfl, rfl, h2, h3, h4⟩
 ·
  exact .arr D st l h1 hl hs
 ·
  exact .dict D st k ks l d h0 h1 hl h2 h3 h4 hs
theorem PreS.one {D : Int} {st : Bool} {k n : Int} {t : List UInt8} {ks : List (List UInt8)} {m : Nat} {d : List UInt8} (h : PreS D st k n t ks m d) : 1 ≤ D := by
 rcases h with h | h
 ·
  exact h.2.1
 ·
  exact h.2.1
theorem u8_mem {c : UInt8} {l : List UInt8} {i : Nat} (hi : i < l.length) (h : c ∉ l.take i) (hc : l[i] ≠ c) : c ∉ l.take (i + 1) := by
 rw [List.take_add_one, List.getElem?_eq_getElem hi, Option.toList_some, List.mem_append, List.mem_singleton]
 exact fun hx => hx.elim h (fun e => hc e.symm)
/-- may it be a name -/
def nmB (s : List UInt8) : Bool := !decide (0 ∈ s) && decide (1 ≤ (s.length : Int)) && decide ((s.length : Int) ≤ 127)
theorem nmB_ok {s : List UInt8} (h : nmB s = true) : nmOk s := by
 unfold nmB at h
 simp only [Bool.and_eq_true, Bool.not_eq_true', decide_eq_true_eq, decide_eq_false_iff_not] at h
 exact ⟨fun e => by subst e; simp at h, h.1.1, by omega⟩
theorem r18_nameB (s : List UInt8) (w : World) (hs : s.length ≤ 9223372036854775807) :
  Calls Tryz.prog 61 #[.string (bs s)] w fun e w' => e = .returned (.bool (nmB s)) ∧ w = w' := by
 refine W.enter func61 rfl ntmps61 (Nat.le_of_ble_eq_true rfl) ?_
 refine W.sr <| WL.z rfl rfl ?_
 refine W.seq <| W.sr <| WL.z rfl rfl ?_
 refine W.block ?_
 refine W.loop (α := Nat) (fun t => [(0, .string (bs s)), (3, .int .i64 (t : Int))]) (fun t w' => w = w' ∧ t ≤ s.length ∧ 0 ∉ s.take t) (fun t => s.length - t) (0) ⟨rfl, rfl, trivial⟩ (⟨rfl, Nat.zero_le _, by simp⟩) (fun t w1 hR => ?_)
 obtain ⟨i, rfl⟩ : ∃ i, i = t := ⟨t, rfl⟩
 obtain ⟨rfl, hi, hno⟩ := hR
 refine W.seq <| W.sr <| WL.m rfl rfl <| WL.m rfl rfl <| WL.p (.len underlying9 rfl) rfl <| WL.p (.lss rfl rfl) rfl <| WL.nil <| ?_
 refine W.cond rfl (fun h1 => ?_) (fun h1 => ?_)
 have h1' := dT h1
 refine W.skip <| W.seq <| W.block <| W.sr <| WL.m rfl rfl <| WL.m rfl rfl <| WL.p (.ix underlying9 rfl rfl (i) (rfl) oO) rfl <| WL.p (.eql rfl rfl) rfl <| WL.nil <| ?_
 refine W.cond rfl (fun h2 => ?_) (fun h2 => ?_)
 have h2' := dT h2
 refine W.sr <| WL.z rfl rfl ?_
 refine W.ret (W.ret1 rfl rfl ?_)
 exact ⟨ret_bool (by unfold nmB; rw [show decide (0 ∈ s) = true from decide_eq_true (by rw [← show s[i]'oO = 0 from u8_eq (d := 0) aS]; exact List.getElem_mem _)]; rfl), rfl⟩
 have h2' := dF h2
 refine W.skip <| W.reg <| WL.m rfl rfl <| WL.p (.iis (((i + 1 : Nat) : Int)) (.add rfl rfl (i64w oO)) oO) rfl <| WL.z rfl rfl ?_
 exact ⟨i + 1, ⟨rfl, rfl, trivial⟩, ⟨rfl, by ((try simp only) <;> omega), u8_mem oO hno (u8_ne (d := 0) aS)⟩, by ((try simp only) <;> omega)⟩
 have h1' := dF h1
 refine W.exit <| W.seq ?_
 have hz : 0 ∉ s := by rw [← List.take_of_length_le (show s.length ≤ i by omega)]; exact hno
 refine W.reg <| WL.m rfl rfl <| WL.p (.len underlying9 rfl) rfl <| WL.p (.geq rfl rfl) rfl <| WL.m rfl rfl <| WL.gd rfl rfl rfl (fun g3 => ?_) (fun g3 => ?_)
 have g3' := dT g3
 refine WL.m rfl rfl <| WL.gy rfl rfl rfl g3 <| WL.p (.len underlying9 rfl) rfl <| WL.gy rfl rfl rfl g3 <| WL.p (.leq rfl rfl) rfl <| WL.p (.pkT rfl g3 rfl) rfl <| WL.z rfl rfl ?_
 refine W.ret (W.ret1 rfl rfl ?_)
 exact ⟨ret_bool (by unfold nmB; rw [decide_eq_false hz, show decide (1 ≤ (s.length : Int)) = true from decide_eq_true oO]; rfl), rfl⟩
 have g3' := dF g3
 refine WL.gn rfl rfl rfl g3 <| WL.gn rfl rfl rfl g3 <| WL.p (.pkF rfl g3 rfl) rfl <| WL.z rfl rfl ?_
 refine W.ret (W.ret1 rfl rfl ?_)
 exact ⟨ret_bool (by unfold nmB; rw [decide_eq_false hz, show decide (1 ≤ (s.length : Int)) = false from decide_eq_false oO]; rfl), rfl⟩
end
section
open Go.RowKit Go.WideShapes Go.ChangeShapes
/-- bytes as a conversion of a string lays them: the row's end is marked -/
structure Raw (w : World) (b c : Nat) (e : TypeId) (l : List UInt8) : Prop where
 cur : ∃ cur : Array Value, w.heap[b]? = some (.cells cur e (cur.size, cur.size + 1)) ∧ cur.size = c ∧ cur.toList.take l.length = byteVals l
 le : l.length ≤ c
theorem bytes_of_take {w : World} {g : Nat} {cur : Array Value} {e : TypeId} {fz : Nat × Nat} {l : List UInt8} (hg : w.heap[g]? = some (.cells cur e fz)) (ht : cur.toList.take l.length = byteVals l) : BytesAt w (some ⟨g, 0, none⟩) l := by
 refine ⟨fun _ => rfl, fun j hj => ?_⟩
 have e1 : (pA (some ⟨g, 0, none⟩)).add j = ⟨g, j, none⟩ := by
  show (⟨g, 0, none⟩ : Addr).add j = _
  unfold Addr.add; split
  ·
   next h => subst h; rfl
  ·
   simp
 rw [e1, Lib.cell_of_heap hg j, ← Array.getElem?_toList]
 have h2 : (cur.toList.take l.length)[j]? = (byteVals l)[j]? := by rw [ht]
 rw [List.getElem?_take, if_pos hj] at h2
 rw [h2]
 simp [byteVals, hj]
theorem Raw.bytes {w : World} {b c : Nat} {e : TypeId} {l : List UInt8} (h : Raw w b c e l) : BytesAt w (some ⟨b, 0, none⟩) l := by
 obtain ⟨cur, hg, -, ht⟩ := h.cur
 exact bytes_of_take hg ht
theorem Own.cat {e : TypeId} {B : Nat} {w : World} {v : Value} {l m : List UInt8} (h : Own e B w v (byteVals l ++ byteVals m)) : Own e B w v (byteVals (l ++ m)) := by
 rw [show byteVals (l ++ m) = byteVals l ++ byteVals m by simp [byteVals]]; exact h
end
section
open Go.RowKit Go.WideShapes Go.ChangeShapes
section
variable {P : Program} {n : Sh} {f : Fr}
/-- a part of a string -/
theorem Pure.slS {tx : TypeId} {x y z : Operand} {l : List UInt8} {kd ke : IntKind} {i j : Int} (hu : P.underlying tx = some .string) (hx : evo f x = some (.string (bs l))) (hi : evo f y = some (.int kd i)) (hj : evo f z = some (.int ke j)) (a b : Nat) (ei : i = a) (ej : j = b) (hab : a ≤ b) (hb : b ≤ l.length) :
  Pure P (.slice tx x (some y) (some z) none) f (.string (bs ((l.drop a).take (b - a)))) := fun ρ hρ d ty pos aft g w => by
 subst ei; subst ej
 have h3 : ¬ (b < a) := by omega
 simp [execOp, Instr.sliceAt, Instr.slice, Instr.sliceBounds, Instr.sliceBound, hρ _ _ hx, hρ _ _ hi, hρ _ _ hj, asIntOf, run_underlying hu, hab, hb, h3, fbs_extract, bs_size]
/-- a string's bytes put behind a row of the call's own -/
theorem WL.appS {ops : Array Oper} {Q : Exit → Fr → World → Prop} {w : World} {rest : List Oper} {d ty : Nat} {pos : String} {aft : Array Edge} {s x : Operand} {t u e : TypeId} {B : Nat} {v : Value} {xs : List Value} {l : List UInt8}
    (ht : P.underlying t = some (.slice e)) (hu : P.underlying u = some .string) (hi : (P.info? e).map (fun i => (i.zero, i.size, i.bytes)) = some (some (.int .u8 0), 1, 1))
    (hs : evo f s = some v) (hown : Own e B w v xs) (hx : evo f x = some (.string (bs l)))
    (hn : xs.length + l.length ≤ 1000000000) (hB : B ≤ w.heap.size) (hd : Nat.blt d n.n = true)
    (k : ∀ v' w', Own e B w' v' (xs ++ byteVals l) → Below B w w' → w.grownBy w' v.ownBlock → WL P n ops Q rest ((d, v') :: f) w') :
    WL P n ops Q (⟨some d, .call ⟨.builtin .append, #[s, x], #[t, u]⟩, ty, pos, aft, none⟩ :: rest) f w := by
  cases hh : P.info? e with
  | none => rw [hh] at hi; cases hi
  | some i =>
    rw [hh] at hi
    simp only [Option.map_some, Option.some.injEq, Prod.mk.injEq] at hi
    obtain ⟨hz, hsize, hby⟩ := hi
    have hsz : (bs l).size = l.length := bs_size l
    have hcells : Lib.strCells (bs l) = byteVals l := by simp [Lib.strCells, byteVals, bs]
    obtain ⟨v', w', h2, h3, h4, -⟩ := Lib.run_append_own_string (P := P) w B t u ty e i ht hu hh hz hsize hby v xs.length xs hown (bs l) (by rw [hsz]; unfold maxLen; omega) (by rw [hsz]; omega) hB
    rw [hsz, hcells] at h3
    refine WL.run hd (w' := w') (v := v') (fun ρ hρ => ?_) (k v' w' ?_ ((Below.refl _ _).grown h4 hB fun k hk => (hown.lt k hk).1) h4)
    · unfold execOp
      simp only [resolve, invoke, builtin, Sem.run_bind, Sem.run_pure, Result.andThen_ok, List.map_toArray, List.map_cons, List.map_nil, hρ _ _ hs, hρ _ _ hx, h2]
    · have e1 : (xs ++ byteVals l).length = xs.length + l.length := by simp [byteVals]
      unfold Own
      rw [e1]; exact h3
end
end
section
theorem r18_hexa (c : UInt8) (w : World) :
  Calls Tryz.prog 64 #[.int .u8 (c.toNat : Int)] w fun e w' => e = .returned (.string (bs [hexDigits[c.toNat / 16]!, hexDigits[c.toNat % 16]!])) ∧ Drew w w' := by
 have hc := UInt8.toNat_lt c
 have key : ∀ c : UInt8, ([48, 49, 50, 51, 52, 53, 54, 55, 56, 57, 97, 98, 99, 100, 101, 102].drop (c.toNat / 16)).take (c.toNat / 16 + 1 - c.toNat / 16) ++ ([48, 49, 50, 51, 52, 53, 54, 55, 56, 57, 97, 98, 99, 100, 101, 102].drop (c.toNat % 16)).take (c.toNat % 16 + 1 - c.toNat % 16) = [hexDigits[c.toNat / 16]!, hexDigits[c.toNat % 16]!] :=
  all256 (q := fun c => ([48, 49, 50, 51, 52, 53, 54, 55, 56, 57, 97, 98, 99, 100, 101, 102].drop (c.toNat / 16)).take (c.toNat / 16 + 1 - c.toNat / 16) ++ ([48, 49, 50, 51, 52, 53, 54, 55, 56, 57, 97, 98, 99, 100, 101, 102].drop (c.toNat % 16)).take (c.toNat % 16 + 1 - c.toNat % 16) = [hexDigits[c.toNat / 16]!, hexDigits[c.toNat % 16]!]) (by decide +kernel)
 refine W.enter func64 rfl ntmps64 (Nat.le_of_ble_eq_true rfl) ?_
 refine W.sr <| WL.z rfl rfl ?_
 refine W.sr <| WL.z rfl rfl ?_
 refine W.seq <| W.regQ mixed kR ?_
 refine WQ.p (.mv rfl) rfl <| WQ.p (.mv rfl) rfl <| WQ.p (.iis (((c.toNat / 16 : Nat) : Int)) (.quo rfl rfl oO (u8q oO oO oO)) oO) rfl <| WQ.p (.mv rfl) rfl <| WQ.p (.iis (((c.toNat / 16 : Nat) : Int)) (.quo rfl rfl oO (u8q oO oO oO)) oO) rfl <| WQ.p (.iis (((c.toNat / 16 + 1 : Nat) : Int)) (.add rfl rfl (u8w oO)) oO) rfl <| WQ.p (.slS underlying9 rfl rfl rfl (c.toNat / 16) (c.toNat / 16 + 1) (rfl) (rfl) oO (by simp; omega)) rfl <| WQ.p (.mv rfl) rfl <| WQ.p (.mv rfl) rfl <| WQ.p (.iis (((c.toNat % 16 : Nat) : Int)) (.rem rfl rfl oO (Int.tmod_eq_emod_of_nonneg oO)) oO) rfl <| WQ.p (.mv rfl) rfl <| WQ.p (.iis (((c.toNat % 16 : Nat) : Int)) (.rem rfl rfl oO (Int.tmod_eq_emod_of_nonneg oO)) oO) rfl <| WQ.p (.iis (((c.toNat % 16 + 1 : Nat) : Int)) (.add rfl rfl (u8w oO)) oO) rfl <| WQ.p (.slS underlying9 rfl rfl rfl (c.toNat % 16) (c.toNat % 16 + 1) (rfl) (rfl) oO (by simp; omega)) rfl <| WQ.p (.cat rfl rfl (by simp only [List.length_take, List.length_drop, List.length_cons, List.length_nil]; omega)) rfl <| WQ.p (.as rfl) rfl <| WQ.nil (fun w1 dw1 => ?_)
 refine W.ret (W.ret1 rfl rfl ?_)
 exact ⟨ret_val (by rw [key c]), dw1⟩
theorem flat_take {f : UInt8 → List UInt8} {s : List UInt8} {i : Nat} (h : i < s.length) : (s.take (i + 1)).flatMap f = (s.take i).flatMap f ++ f s[i] := by
 rw [List.take_succ_eq_append_getElem h, List.flatMap_append]; simp
theorem flat_take_len {f : UInt8 → List UInt8} {k : Nat} (hf : ∀ c, (f c).length ≤ k) (s : List UInt8) (i : Nat) : ((s.take i).flatMap f).length ≤ k * s.length := by
 have h1 := flat_len hf (s.take i)
 have h2 : (s.take i).length ≤ s.length := by rw [List.length_take]; omega
 exact Nat.le_trans h1 (Nat.mul_le_mul_left _ h2)
theorem take_one {s : List UInt8} {i : Nat} (h : i < s.length) : (s.drop i).take (i + 1 - i) = [s[i]] := by
 rw [show i + 1 - i = 1 by omega, List.drop_eq_getElem_cons h]; rfl
theorem needHash_int (c : UInt8) : needHash c = (decide ((c.toNat : Int) < 33) || decide ((c.toNat : Int) > 126) || decide ((c.toNat : Int) = 35) || delimB c) := by
 have h1 : (c == 35) = decide ((c.toNat : Int) = 35) := (u8_dec c 35).symm
 have h2 : decide (c.toNat < 33) = decide ((c.toNat : Int) < 33) := by rw [decide_eq_decide]; omega
 have h3 : decide (126 < c.toNat) = decide ((c.toNat : Int) > 126) := by rw [decide_eq_decide]; omega
 unfold needHash
 rw [h1, h2, h3]
theorem r18_NameA (s : List UInt8) (w : World) (hs : s.length ≤ 1000000) :
  Calls Tryz.prog 43 #[.string (bs s)] w fun e w' => e = .returned (.string (bs (nmT s))) ∧ Drew w w' := by
 refine W.enter func43 rfl ntmps43 (Nat.le_of_ble_eq_true rfl) ?_
 refine W.sr <| WL.z rfl rfl ?_
 refine W.sr <| WL.z rfl rfl ?_
 refine W.seq <| W.sr <| WL.z rfl rfl ?_
 refine W.block ?_
 refine W.loop (α := Nat) (fun t => [(0, .string (bs s)), (3, .string (bs (47 :: (s.take t).flatMap nmE))), (4, .int .i64 (t : Int))]) (fun t w' => Drew w w' ∧ t ≤ s.length) (fun t => s.length - t) (0) ⟨rfl, rfl, rfl, trivial⟩ (⟨Drew.refl _, Nat.zero_le _⟩) (fun t w1 hR => ?_)
 obtain ⟨i, rfl⟩ : ∃ i, i = t := ⟨t, rfl⟩
 obtain ⟨hD, hi⟩ := hR
 have hfl := flat_take_len nmE_len s i
 refine W.seq <| W.sr <| WL.m rfl rfl <| WL.m rfl rfl <| WL.p (.len underlying9 rfl) rfl <| WL.p (.lss rfl rfl) rfl <| WL.nil <| ?_
 refine W.cond rfl (fun h1 => ?_) (fun h1 => ?_)
 have h1' := dT h1
 refine W.skip <| W.seq <| W.block <| W.seq ?_
 have hft := flat_take (f := nmE) (show i < s.length by omega)
 obtain ⟨n1, hn1⟩ : ∃ b, b = decide (((s[i]'oO).toNat : Int) < 33) := ⟨_, rfl⟩
 obtain ⟨n2, hn2⟩ : ∃ b, b = decide (((s[i]'oO).toNat : Int) > 126) := ⟨_, rfl⟩
 obtain ⟨n3, hn3⟩ : ∃ b, b = decide (((s[i]'oO).toNat : Int) = 35) := ⟨_, rfl⟩
 have hnd : needHash (s[i]'oO) = (n1 || n2 || n3 || delimB (s[i]'oO)) := by rw [hn1, hn2, hn3]; exact needHash_int _
 refine W.reg <| WL.m rfl rfl <| WL.m rfl rfl <| WL.p (.ix underlying9 rfl rfl (i) (rfl) oO) rfl <| WL.z rfl rfl ?_
 refine W.cutB 28 ((n1 || n2 || n3 || delimB (s[i]'oO))) ?_ ?_
 refine W.reg <| WL.m rfl rfl <| WL.p (.bis (n1) (.lss rfl rfl) (by exact hn1.symm)) rfl <| WL.m rfl rfl <| WL.gd rfl rfl rfl (fun g2 => ?_) (fun g2 => ?_)
 refine WL.m rfl rfl <| WL.gy rfl rfl rfl g2 <| WL.p (.bis (n2) (.gtr rfl rfl) (by exact hn2.symm)) rfl <| WL.p (.pkF rfl g2 rfl) rfl <| WL.m rfl rfl <| WL.gd rfl rfl rfl (fun g3 => ?_) (fun g3 => ?_)
 refine WL.m rfl rfl <| WL.gy rfl rfl rfl g3 <| WL.p (.bis (n3) (.eql rfl rfl) (by exact hn3.symm)) rfl <| WL.p (.pkF rfl g3 rfl) rfl <| WL.m rfl rfl <| WL.gd rfl rfl rfl (fun g4 => ?_) (fun g4 => ?_)
 refine WL.m rfl rfl <| WL.gy rfl rfl rfl g4 <| WL.c1 hb63 rfl rfl ((ref_Delimiter _ _)) (fun w5 hw5 => ?_)
 obtain rfl := hw5
 refine WL.p (.pkF rfl g4 rfl) rfl <| WL.nil <| ?_
 exact ⟨leE (lk_b rfl (by cases n1 <;> cases n2 <;> cases n3 <;> first | rfl | contradiction)), rfl⟩
 refine WL.gn rfl rfl rfl g4 <| WL.p (.pkT rfl g4 rfl) rfl <| WL.nil <| ?_
 exact ⟨leE (lk_b rfl (by cases n1 <;> cases n2 <;> cases n3 <;> first | rfl | contradiction)), rfl⟩
 refine WL.gn rfl rfl rfl g3 <| WL.p (.pkT rfl g3 rfl) rfl <| WL.m rfl rfl <| WL.gn rfl rfl rfl rfl <| WL.gn rfl rfl rfl rfl <| WL.p (.pkT rfl rfl rfl) rfl <| WL.nil <| ?_
 exact ⟨leE (lk_b rfl (by cases n1 <;> cases n2 <;> cases n3 <;> first | rfl | contradiction)), rfl⟩
 refine WL.gn rfl rfl rfl g2 <| WL.p (.pkT rfl g2 rfl) rfl <| WL.m rfl rfl <| WL.gn rfl rfl rfl rfl <| WL.gn rfl rfl rfl rfl <| WL.p (.pkT rfl rfl rfl) rfl <| WL.m rfl rfl <| WL.gn rfl rfl rfl rfl <| WL.gn rfl rfl rfl rfl <| WL.p (.pkT rfl rfl rfl) rfl <| WL.nil <| ?_
 exact ⟨leE (lk_b rfl (by cases n1 <;> cases n2 <;> cases n3 <;> first | rfl | contradiction)), rfl⟩
 refine W.cond rfl (fun h6 => ?_) (fun h6 => ?_)
 refine W.reg <| WL.m rfl rfl <| WL.p (.cat rfl rfl (by simp only [List.length_append, List.length_cons, List.length_nil, List.length_take, List.length_drop]; omega)) rfl <| WL.m rfl rfl <| WL.c1 hb64 rfl rfl ((r18_hexa _ _)) (fun w7 hw7 => ?_)
 refine WL.p (.cat rfl rfl (by simp only [List.length_append, List.length_cons, List.length_nil, List.length_take, List.length_drop]; omega)) rfl <| WL.z rfl rfl ?_
 refine W.reg <| WL.m rfl rfl <| WL.p (.iis (((i + 1 : Nat) : Int)) (.add rfl rfl (i64w oO)) oO) rfl <| WL.z rfl rfl ?_
 exact ⟨i + 1, ⟨rfl, lk_s rfl (by rw [hft, show nmE (s[i]'oO) = [35, hexDigits[(s[i]'oO).toNat / 16]!, hexDigits[(s[i]'oO).toNat % 16]!] from if_pos (by rw [hnd]; assumption)]; simp), rfl, trivial⟩, ⟨hD.trans aS, by ((try simp only) <;> omega)⟩, by ((try simp only) <;> omega)⟩
 refine W.reg <| WL.m rfl rfl <| WL.m rfl rfl <| WL.m rfl rfl <| WL.m rfl rfl <| WL.p (.iis (((i + 1 : Nat) : Int)) (.add rfl rfl (i64w oO)) oO) rfl <| WL.p (.slS underlying9 rfl rfl rfl (i) (i + 1) (rfl) (rfl) oO oO) rfl <| WL.p (.cat rfl rfl (by simp only [List.length_append, List.length_cons, List.length_nil, List.length_take, List.length_drop]; omega)) rfl <| WL.z rfl rfl ?_
 refine W.reg <| WL.m rfl rfl <| WL.p (.iis (((i + 1 : Nat) : Int)) (.add rfl rfl (i64w oO)) oO) rfl <| WL.z rfl rfl ?_
 exact ⟨i + 1, ⟨rfl, lk_s rfl (by rw [hft, take_one oO, show nmE (s[i]'oO) = [s[i]'oO] from if_neg (bF (by rw [hnd]; assumption))]; simp), rfl, trivial⟩, ⟨hD, by ((try simp only) <;> omega)⟩, by ((try simp only) <;> omega)⟩
 have h1' := dF h1
 refine W.exit <| W.sr <| WL.m rfl rfl <| WL.z rfl rfl ?_
 refine W.ret (W.ret1 rfl rfl ?_)
 exact ⟨ret_val (by rw [List.take_of_length_le (show s.length ≤ i by omega)]; rfl), hD⟩
theorem txE_is (c : UInt8) : txE c = if (decide ((c.toNat : Int) = 40) || decide ((c.toNat : Int) = 41) || decide ((c.toNat : Int) = 92)) = true then [92, c] else if (decide ((c.toNat : Int) < 32) || decide ((c.toNat : Int) > 126)) = true then octE c else [c] := by
 have key : ∀ c : UInt8, txE c = if (decide ((c.toNat : Int) = 40) || decide ((c.toNat : Int) = 41) || decide ((c.toNat : Int) = 92)) = true then [92, c] else if (decide ((c.toNat : Int) < 32) || decide ((c.toNat : Int) > 126)) = true then octE c else [c] :=
  all256 (q := fun c => txE c = if (decide ((c.toNat : Int) = 40) || decide ((c.toNat : Int) = 41) || decide ((c.toNat : Int) = 92)) = true then [92, c] else if (decide ((c.toNat : Int) < 32) || decide ((c.toNat : Int) > 126)) = true then octE c else [c]) (by decide +kernel)
 exact key c
theorem octE_valsT (x : UInt8) : #[Value.int .u8 92, .int .u8 (48 + (x.toNat : Int) / 64), .int .u8 (48 + (x.toNat : Int) / 8 % 8), .int .u8 (48 + (x.toNat : Int) % 8)] = (byteVals (octE x)).toArray := by
 have hc := UInt8.toNat_lt x
 have v1 : ((ch (48 + (x.toNat : Int) / 64)).toNat : Int) = 48 + (x.toNat : Int) / 64 := ch_val _ oO oO
 have v2 : ((ch (48 + (x.toNat : Int) / 8 % 8)).toNat : Int) = 48 + (x.toNat : Int) / 8 % 8 := ch_val _ oO oO
 have v3 : ((ch (48 + (x.toNat : Int) % 8)).toNat : Int) = 48 + (x.toNat : Int) % 8 := ch_val _ oO oO
 simp [byteVals, octE, v1, v2, v3]
theorem r18_TextA (s : List UInt8) (w : World) (hs : s.length ≤ 1000000) :
  Calls Tryz.prog 44 #[.string (bs s)] w fun e w' => e = .returned (.string (bs (txT s))) ∧ Below w.heap.size w w' := by
 refine W.enter func44 rfl ntmps44 (Nat.le_of_ble_eq_true rfl) ?_
 have hB0 := Below.refl (w.heap.size) w
 refine W.sr <| WL.z rfl rfl ?_
 refine W.sr <| WL.bsl (ps := _) underlying26 sizeOf5 zeroValue5 rfl rfl rfl rfl rfl pR rfl (fun b1 wb1 eb1 hkb1 hub1 hsb1 => ?_)
 have hB2 := Upd.below hB0 (by rw [eb1]; exact hB0.size) hub1
 have hgeb1 : w.heap.size ≤ b1 := by rw [eb1]; exact hB0.size
 have ho3 := Own.lit (m := 1) hkb1 rfl (by unfold maxLen; omega)
 have hle4 : b1 ≤ wb1.heap.size := by omega
 have ho3x : Own _ _ _ _ (byteVals [40]) := ho3
 refine WL.z rfl rfl ?_
 refine W.seq <| W.sr <| WL.z rfl rfl ?_
 refine W.block ?_
 refine W.loop (α := Value × Nat) (fun t => [(0, .string (bs s)), (3, t.1), (4, .int .i64 (t.2 : Int))]) (fun t w' => Below w.heap.size w w' ∧ Own 5 b1 w' t.1 (byteVals (40 :: (s.take t.2).flatMap txE)) ∧ t.2 ≤ s.length ∧ b1 ≤ w'.heap.size) (fun t => s.length - t.2) ((_, 0)) ⟨rfl, rfl, rfl, trivial⟩ (⟨hB2, ho3x, Nat.zero_le _, hle4⟩) (fun t w1 hR => ?_)
 obtain ⟨v, i⟩ := t
 obtain ⟨hT, hown, hi, hle0⟩ := hR
 simp only at hown hi ⊢
 have hfl := flat_take_len txE_len s i
 refine W.seq <| W.sr <| WL.m rfl rfl <| WL.m rfl rfl <| WL.p (.len underlying9 rfl) rfl <| WL.p (.lss rfl rfl) rfl <| WL.nil <| ?_
 refine W.cond rfl (fun h5 => ?_) (fun h5 => ?_)
 have h5' := dT h5
 refine W.skip <| W.seq <| W.block <| W.seq ?_
 have hft := flat_take (f := txE) (show i < s.length by omega)
 have hte := txE_is (s[i]'oO)
 obtain ⟨n1, hn1⟩ : ∃ b, b = decide (((s[i]'oO).toNat : Int) = 40) := ⟨_, rfl⟩
 obtain ⟨n2, hn2⟩ : ∃ b, b = decide (((s[i]'oO).toNat : Int) = 41) := ⟨_, rfl⟩
 obtain ⟨n3, hn3⟩ : ∃ b, b = decide (((s[i]'oO).toNat : Int) = 92) := ⟨_, rfl⟩
 obtain ⟨n4, hn4⟩ : ∃ b, b = decide (((s[i]'oO).toNat : Int) < 32) := ⟨_, rfl⟩
 obtain ⟨n5, hn5⟩ : ∃ b, b = decide (((s[i]'oO).toNat : Int) > 126) := ⟨_, rfl⟩
 rw [← hn1, ← hn2, ← hn3, ← hn4, ← hn5] at hte
 have hcl := UInt8.toNat_lt (s[i]'oO)
 refine W.reg <| WL.m rfl rfl <| WL.m rfl rfl <| WL.p (.ix underlying9 rfl rfl (i) (rfl) oO) rfl <| WL.z rfl rfl ?_
 refine W.block ?_
 refine W.cutB 20 ((n1 || n2 || n3)) ?_ ?_
 refine W.reg <| WL.m rfl rfl <| WL.p (.bis (n1) (.eql rfl rfl) (by exact hn1.symm)) rfl <| WL.m rfl rfl <| WL.gd rfl rfl rfl (fun g6 => ?_) (fun g6 => ?_)
 refine WL.m rfl rfl <| WL.gy rfl rfl rfl g6 <| WL.p (.bis (n2) (.eql rfl rfl) (by exact hn2.symm)) rfl <| WL.p (.pkF rfl g6 rfl) rfl <| WL.m rfl rfl <| WL.gd rfl rfl rfl (fun g7 => ?_) (fun g7 => ?_)
 refine WL.m rfl rfl <| WL.gy rfl rfl rfl g7 <| WL.p (.bis (n3) (.eql rfl rfl) (by exact hn3.symm)) rfl <| WL.p (.pkF rfl g7 rfl) rfl <| WL.z rfl rfl ?_
 exact ⟨leE (lk_b rfl (by cases n1 <;> cases n2 <;> cases n3 <;> first | rfl | contradiction)), rfl⟩
 refine WL.gn rfl rfl rfl g7 <| WL.p (.pkT rfl g7 rfl) rfl <| WL.z rfl rfl ?_
 exact ⟨leE (lk_b rfl (by cases n1 <;> cases n2 <;> cases n3 <;> first | rfl | contradiction)), rfl⟩
 refine WL.gn rfl rfl rfl g6 <| WL.p (.pkT rfl g6 rfl) rfl <| WL.m rfl rfl <| WL.gn rfl rfl rfl rfl <| WL.gn rfl rfl rfl rfl <| WL.p (.pkT rfl rfl rfl) rfl <| WL.z rfl rfl ?_
 exact ⟨leE (lk_b rfl (by cases n1 <;> cases n2 <;> cases n3 <;> first | rfl | contradiction)), rfl⟩
 refine W.cond rfl (fun h8 => ?_) (fun h8 => ?_)
 refine W.reg <| WL.m rfl rfl <| WL.m rfl rfl <| WL.bsl (ps := _) underlying26 sizeOf5 zeroValue5 rfl rfl rfl rfl rfl pR rfl (fun b9 wb9 eb9 hkb9 hub9 hsb9 => ?_)
 have hle11 := Nat.le_trans hle0 hub9.size
 have ho10 := Own.new hown eb9 hub9
 have hB12 := Upd.below hT (by rw [eb9]; exact hT.size) hub9
 have hgeb9 : w.heap.size ≤ b9 := by rw [eb9]; exact hT.size
 have hzz := BytesAt.lit (l := [92, s[i]'oO]) hkb9 (rfl)
 refine WL.appB underlying26 inf5 rfl rfl rfl ho10 rfl hzz (by simp only [byteVals_len, List.length_cons, List.length_nil, octE]; omega) (hle11) rfl (fun h => nomatch h) (fun v13 w14 how14 hbw14 hgw14 => ?_)
 have hB15 := Below.trans hB12 (hbw14.mono (hgeb1))
 have ho16 := Own.cat how14
 have hle17 := Nat.le_trans hle11 hbw14.size
 refine WL.z rfl rfl ?_
 refine W.reg <| WL.m rfl rfl <| WL.p (.iis (((i + 1 : Nat) : Int)) (.add rfl rfl (i64w oO)) oO) rfl <| WL.z rfl rfl ?_
 exact ⟨(_, i + 1), ⟨rfl, rfl, rfl, trivial⟩, ⟨hB15, by rw [hft, hte, if_pos aS]; exact ho16, by ((try simp only) <;> omega), hle17⟩, by ((try simp only) <;> omega)⟩
 refine W.cutB 35 ((n4 || n5)) ?_ ?_
 refine W.reg <| WL.m rfl rfl <| WL.p (.bis (n4) (.lss rfl rfl) (by exact hn4.symm)) rfl <| WL.m rfl rfl <| WL.gd rfl rfl rfl (fun g18 => ?_) (fun g18 => ?_)
 refine WL.m rfl rfl <| WL.gy rfl rfl rfl g18 <| WL.p (.bis (n5) (.gtr rfl rfl) (by exact hn5.symm)) rfl <| WL.p (.pkF rfl g18 rfl) rfl <| WL.z rfl rfl ?_
 exact ⟨leE (lk_b rfl (by cases n4 <;> cases n5 <;> first | rfl | contradiction)), rfl⟩
 refine WL.gn rfl rfl rfl g18 <| WL.p (.pkT rfl g18 rfl) rfl <| WL.z rfl rfl ?_
 exact ⟨leE (lk_b rfl (by cases n4 <;> cases n5 <;> first | rfl | contradiction)), rfl⟩
 refine W.cond rfl (fun h19 => ?_) (fun h19 => ?_)
 refine W.reg <| WL.m rfl rfl <| WL.m rfl rfl <| WL.p (.quo rfl rfl oO (u8q oO oO oO)) rfl <| WL.p (.iis (48 + ((s[i]'oO).toNat : Int) / 64) (.add rfl rfl (u8w oO)) oO) rfl <| WL.m rfl rfl <| WL.p (.quo rfl rfl oO (u8q oO oO oO)) rfl <| WL.p (.rem rfl rfl oO (Int.tmod_eq_emod_of_nonneg oO)) rfl <| WL.p (.iis (48 + ((s[i]'oO).toNat : Int) / 8 % 8) (.add rfl rfl (u8w oO)) oO) rfl <| WL.m rfl rfl <| WL.p (.rem rfl rfl oO (Int.tmod_eq_emod_of_nonneg oO)) rfl <| WL.p (.iis (48 + ((s[i]'oO).toNat : Int) % 8) (.add rfl rfl (u8w oO)) oO) rfl <| WL.bsl (ps := _) underlying26 sizeOf5 zeroValue5 rfl rfl rfl rfl rfl pR rfl (fun b20 wb20 eb20 hkb20 hub20 hsb20 => ?_)
 have hle22 := Nat.le_trans hle0 hub20.size
 have ho21 := Own.new hown eb20 hub20
 have hB23 := Upd.below hT (by rw [eb20]; exact hT.size) hub20
 have hgeb20 : w.heap.size ≤ b20 := by rw [eb20]; exact hT.size
 have hyy := BytesAt.lit (l := octE (s[i]'oO)) hkb20 (octE_valsT _)
 refine WL.appB underlying26 inf5 rfl rfl rfl ho21 rfl hyy (by simp only [byteVals_len, List.length_cons, List.length_nil, octE]; omega) (hle22) rfl (fun h => by unfold octE at h; cases h) (fun v24 w25 how25 hbw25 hgw25 => ?_)
 have hB26 := Below.trans hB23 (hbw25.mono (hgeb1))
 have ho27 := Own.cat how25
 have hle28 := Nat.le_trans hle22 hbw25.size
 refine WL.z rfl rfl ?_
 refine W.reg <| WL.m rfl rfl <| WL.p (.iis (((i + 1 : Nat) : Int)) (.add rfl rfl (i64w oO)) oO) rfl <| WL.z rfl rfl ?_
 exact ⟨(_, i + 1), ⟨rfl, rfl, rfl, trivial⟩, ⟨hB26, by rw [hft, hte, if_neg (bF aS), if_pos aS]; exact ho27, by ((try simp only) <;> omega), hle28⟩, by ((try simp only) <;> omega)⟩
 refine W.reg <| WL.m rfl rfl <| WL.m rfl rfl <| WL.bsl (ps := _) underlying26 sizeOf5 zeroValue5 rfl rfl rfl rfl rfl pR rfl (fun b29 wb29 eb29 hkb29 hub29 hsb29 => ?_)
 have hle31 := Nat.le_trans hle0 hub29.size
 have ho30 := Own.new hown eb29 hub29
 have hB32 := Upd.below hT (by rw [eb29]; exact hT.size) hub29
 have hgeb29 : w.heap.size ≤ b29 := by rw [eb29]; exact hT.size
 refine WL.appm underlying26 inf5 rfl rfl rfl ho30 rfl hkb29 rfl (by simp only [byteVals_len, List.length_cons, List.length_nil, octE]; omega) (hle31) rfl (fun v33 w34 how34 hbw34 hgw34 => ?_)
 have hB35 := Below.trans hB32 (hbw34.mono (hgeb1))
 have ho36 := Own.snoc how34 (s[i]'oO) (rfl)
 have hle37 := Nat.le_trans hle31 hbw34.size
 refine WL.z rfl rfl ?_
 refine W.reg <| WL.m rfl rfl <| WL.p (.iis (((i + 1 : Nat) : Int)) (.add rfl rfl (i64w oO)) oO) rfl <| WL.z rfl rfl ?_
 exact ⟨(_, i + 1), ⟨rfl, rfl, rfl, trivial⟩, ⟨hB35, by rw [hft, hte, if_neg (bF aS), if_neg (bF aS)]; exact ho36, by ((try simp only) <;> omega), hle37⟩, by ((try simp only) <;> omega)⟩
 have h5' := dF h5
 refine W.exit <| W.seq ?_
 have hall : s.take i = s := List.take_of_length_le oO
 refine W.reg <| WL.m rfl rfl <| WL.bsl (ps := _) underlying26 sizeOf5 zeroValue5 rfl rfl rfl rfl rfl pR rfl (fun b38 wb38 eb38 hkb38 hub38 hsb38 => ?_)
 have hle40 := Nat.le_trans hle0 hub38.size
 have ho39 := Own.new hown eb38 hub38
 have hB41 := Upd.below hT (by rw [eb38]; exact hT.size) hub38
 have hgeb38 : w.heap.size ≤ b38 := by rw [eb38]; exact hT.size
 refine WL.appm underlying26 inf5 rfl rfl rfl ho39 rfl hkb38 rfl (by simp only [byteVals_len, List.length_cons, List.length_nil, octE]; omega) (hle40) rfl (fun v42 w43 how43 hbw43 hgw43 => ?_)
 have hB44 := Below.trans hB41 (hbw43.mono (hgeb1))
 have ho45 := Own.snoc how43 (41) (rfl)
 have hle46 := Nat.le_trans hle40 hbw43.size
 obtain ⟨pq, cq, eq, hq, hBq, hcq, hnq⟩ := Own.bytesC (l := (40 :: (s.take i).flatMap txE ++ [41])) ho45
 subst eq
 refine WL.r (Rd.b2s (l := (40 :: (s.take i).flatMap txE ++ [41])) underlying26 underlying5 underlying9 rfl (hq)) rfl <| WL.z rfl rfl ?_
 refine W.ret (W.ret1 rfl rfl ?_)
 exact ⟨ret_val (by rw [hall]; rfl), hB44⟩
end
section
/-- the first word, and what is behind it -/
def firstW (x : List UInt8) : List UInt8 := (skipS false x).takeWhile regB
def afterW (x : List UInt8) : List UInt8 := (skipS false x).dropWhile regB
/-- no reference goes on here -/
def NoR (k : Int) (r : List UInt8) : Prop := k = 2 → ¬ (firstW r = [48] ∧ firstW (afterW r) = [82])
theorem drop_tw : ∀ x : List UInt8, x.drop (x.takeWhile regB).length = x.dropWhile regB
 | [] => rfl
 | c :: r => by
  rw [List.takeWhile_cons, List.dropWhile_cons]
  cases h : regB c with
  | true => simp only [if_true, List.length_cons, List.drop_succ_cons]; exact drop_tw r
  | false => rfl
theorem drop_word (l : List UInt8) (a : Nat) : l.drop (wordAt l a) = (l.drop a).dropWhile regB := by
 unfold wordAt
 rw [← List.drop_drop]
 exact drop_tw (l.drop a)
theorem refR_words (refs : Bool) (l s : List UInt8) (t : Nat) (r : List UInt8) (h : l.drop t = r) (hn : ¬ (firstW r = [48] ∧ firstW (afterW r) = [82])) : refR refs l s t = none := by
 subst h
 unfold refR
 have e1 : wordL l (skipAt false l t) = firstW (l.drop t) := by rw [wordL_eq, skipAt_drop]; rfl
 have e2 : wordL l (skipAt false l (wordAt l (skipAt false l t))) = firstW (afterW (l.drop t)) := by rw [wordL_eq, skipAt_drop, drop_word, skipAt_drop]; rfl
 rw [e1, e2]
 split
 ·
  split
  ·
   rw [if_neg fun h => hn ⟨by assumption, h⟩]
  ·
   rfl
 ·
  rfl
section
variable {l : List UInt8} {t : Nat}
theorem head_at {c : UInt8} {r : List UInt8} (h : l.drop t = c :: r) : l[t]? = some c ∧ t < l.length ∧ l.drop (t + 1) = r := by
 have h0 : (l.drop t)[0]? = some c := by rw [h]; rfl
 rw [List.getElem?_drop] at h0
 refine ⟨h0, (List.getElem?_eq_some_iff.1 h0).1, ?_⟩
 rw [← List.drop_drop, h]; rfl
theorem plain_case (d : Nat) {c : UInt8} {r : List UInt8} (h : l.drop t = c :: r) (h1 : c ≠ 47) (h2 : c ≠ 91) (h3 : c ≠ 40) (h4 : c ≠ 60) : objP true l d t = plainO (plexW true l t) := by
 have := objP_at true l (d : Int) t c (head_at h).1
 rw [Int.toNat_natCast, if_neg h1, if_neg h2, if_neg h3, if_neg h4] at this
 exact this
end
/-- a byte with which an object begins -/
def headB (c : UInt8) : Bool := !blankB c && !(c == 37) && !(c == 93) && !(c == 62) && !(c == 82)
theorem num_head {c : UInt8} (h : isDig c = true ∨ c = 45 ∨ c = 43) : headB c = true ∧ c ≠ 47 ∧ c ≠ 91 ∧ c ≠ 40 ∧ c ≠ 60 ∧ c ≠ 110 ∧ c ≠ 116 ∧ c ≠ 102 := by
 have key : ∀ c : UInt8, (isDig c = true ∨ c = 45 ∨ c = 43) → headB c = true ∧ c ≠ 47 ∧ c ≠ 91 ∧ c ≠ 40 ∧ c ≠ 60 ∧ c ≠ 110 ∧ c ≠ 116 ∧ c ≠ 102 :=
  all256 (q := fun c => (isDig c = true ∨ c = 45 ∨ c = 43) → headB c = true ∧ c ≠ 47 ∧ c ≠ 91 ∧ c ≠ 40 ∧ c ≠ 60 ∧ c ≠ 110 ∧ c ≠ 116 ∧ c ≠ 102) (by decide +kernel)
 exact key c h
theorem pr_head {D : Int} {st : Bool} {o : AV} (h : Snd D st o) : ∃ c r, prO o = c :: r ∧ headB c = true := by
 cases h with
 | null => exact ⟨_, _, by simp [prO]; exact ⟨rfl, rfl⟩, by decide⟩
 | bool _ _ n h => rcases h with rfl | rfl <;> exact ⟨_, _, by simp [prO]; exact ⟨rfl, rfl⟩, by decide⟩
 | num _ _ k n hk h =>
  rcases hk with rfl | rfl
  ·
   obtain ⟨c, r, e, hc⟩ := dec_head n h
   exact ⟨c, r, by simp [prO]; exact e, (num_head hc).1⟩
  ·
   obtain ⟨c, r, e, hc⟩ := real_head n h
   exact ⟨c, r, by simp [prO, norm_fits h]; exact e, (num_head hc).1⟩
 | name _ _ t h => exact ⟨47, _, by simp [prO, nmT]; rfl, by decide⟩
 | text _ _ t h => exact ⟨40, _, by simp [prO, txT]; rfl, by decide⟩
 | ref _ _ n h =>
  obtain ⟨c, r, e, hc⟩ := dec_head n (by simp [fitsB]; omega)
  exact ⟨c, r ++ [32, 48, 32, 82], by simp [prO, e], (num_head hc).1⟩
 | arr _ _ l hD hl h => exact ⟨91, _, by simp [prO]; rfl, by decide⟩
 | dict _ _ k ks l d hk hD hl hkl hn hnd h => rcases hk with ⟨rfl, -⟩ | ⟨rfl, -⟩ <;> exact ⟨60, _, by simp [prO]; rfl, by decide⟩
theorem headB_f {c : UInt8} (h : headB c = true) : blankB c = false ∧ c ≠ 37 ∧ c ≠ 93 ∧ c ≠ 62 ∧ c ≠ 82 := by
 simp only [headB, Bool.and_eq_true, Bool.not_eq_true', beq_eq_false_iff_ne] at h
 exact ⟨h.1.1.1.1, h.1.1.1.2, h.1.1.2, h.1.2, h.2⟩
theorem pr_skip {D : Int} {st : Bool} {o : AV} (h : Snd D st o) (x : List UInt8) : skipS false (prO o ++ x) = prO o ++ x := by
 obtain ⟨c, r, e, hc⟩ := pr_head h
 have := headB_f hc
 rw [e, List.cons_append, skipS_stop this.1 this.2.1]
theorem first_R {D : Int} {st : Bool} {o : AV} (h : Snd D st o) (x : List UInt8) : firstW (prO o ++ x) ≠ [82] := by
 obtain ⟨c, r, e, hc⟩ := pr_head h
 have := headB_f hc
 unfold firstW
 rw [pr_skip h, e, List.cons_append, List.takeWhile_cons]
 split
 ·
  exact fun he => this.2.2.2.2 (List.cons.inj he).1
 ·
  exact fun he => by cases he
/-- if the first word is a nought, that is all -/
theorem first_0 {D : Int} {st : Bool} {o : AV} (h : Snd D st o) {x : List UInt8} (hx : Bnd x) (h0 : firstW (prO o ++ x) = [48]) : afterW (prO o ++ x) = x := by
 have hw : ∀ A : List UInt8, (∀ y ∈ A, regB y = true) → prO o = A → firstW (prO o ++ x) = A ∧ afterW (prO o ++ x) = x := fun A hA e => by
  unfold firstW afterW
  rw [pr_skip h, e, tw_app hA hx, dw_app hA hx]; exact ⟨rfl, rfl⟩
 have hd : ∀ (c : UInt8) (r : List UInt8), prO o = c :: r → regB c = false → firstW (prO o ++ x) = [] := fun c r e hc => by
  unfold firstW
  rw [pr_skip h, e, List.cons_append, List.takeWhile_cons, hc]; rfl
 cases h with
 | null => exact (hw [110, 117, 108, 108] dD (by simp [prO])).2
 | bool _ _ n h =>
  rcases h with rfl | rfl
  ·
   exact (hw [102, 97, 108, 115, 101] dD (by simp [prO])).2
  ·
   exact (hw [116, 114, 117, 101] dD (by simp [prO])).2
 | num _ _ k n hk h =>
  rcases hk with rfl | rfl
  ·
   exact (hw _ (dec_reg n h) (by simp [prO])).2
  ·
   exact (hw _ (real_facts n h).2.2 (by simp [prO, norm_fits h])).2
 | name _ _ t h => rw [hd 47 (t.flatMap nmE) (by simp [prO, nmT]) dD] at h0; cases h0
 | text _ _ t h => rw [hd 40 _ (by simp [prO, txT]; rfl) dD] at h0; cases h0
 | ref _ _ n h =>
  exfalso
  have hf : fitsB n = true := by simp [fitsB]; omega
  have hs := pr_skip (Snd.ref D st n h) x
  unfold firstW at h0
  have e : prO (.mk 8 n [] [] [] []) = decL n ++ [32, 48, 32, 82] := by simp [prO]
  rw [hs, e, List.append_assoc, show ([32, 48, 32, 82] : List UInt8) ++ x = 32 :: (48 :: 32 :: 82 :: x) from rfl, tw_app (dec_reg n hf) (Bnd.cons dD)] at h0
  obtain ⟨m, W, e2, -, -, -, hv, -⟩ := dec_form n hf
  have hn : natOf (digitsL n.natAbs) = n.natAbs := (digitsL_val n.natAbs).2.1
  have hd2 : decL n = digitsL n.natAbs := by unfold decL; rw [if_neg oO]
  rw [hd2] at h0
  rw [h0] at hn
  have : natOf [48] = 0 := by decide
  omega
 | arr _ _ l hD hl h => rw [hd 91 _ (by simp [prO]; rfl) dD] at h0; cases h0
 | dict _ _ k ks l d hk hD hl hkl hn hnd h =>
  have e : ∃ r, prO (.mk k 0 [] ks l d) = 60 :: r := by rcases hk with ⟨rfl, -⟩ | ⟨rfl, -⟩ <;> exact ⟨_, by simp [prO]; rfl⟩
  obtain ⟨r, e⟩ := e
  rw [hd 60 r e dD] at h0; cases h0
theorem bnd_list (r : List AV) (x : List UInt8) : Bnd (prB r ++ 93 :: x) := by
 cases r with
 | nil => exact Bnd.cons dD
 | cons o r => rw [prB]; exact Bnd.cons dD
theorem firstW_32 (x : List UInt8) : firstW (32 :: x) = firstW x ∧ afterW (32 :: x) = afterW x := by unfold firstW afterW; rw [skipS_32]; exact ⟨rfl, rfl⟩
theorem firstW_delim {c : UInt8} (x : List UInt8) (h : regB c = false) (h1 : blankB c = false) (h2 : c ≠ 37) : firstW (c :: x) = [] := by
 unfold firstW; rw [skipS_stop h1 h2, List.takeWhile_cons, h]; rfl
theorem nr_list {D : Int} (k : Int) (r : List AV) (hr : ∀ o ∈ r, Snd D false o) (x : List UInt8) : NoR k (prB r ++ 93 :: x) := by
 intro _ ⟨h0, h1⟩
 cases r with
 | nil =>
  rw [show prB [] ++ 93 :: x = 93 :: x by simp [prB], firstW_delim x dD dD dD] at h0; cases h0
 | cons o r =>
  have e : prB (o :: r) ++ 93 :: x = 32 :: (prO o ++ (prB r ++ 93 :: x)) := by simp [prB]
  rw [e, (firstW_32 _).1] at h0
  rw [e, (firstW_32 _).2, first_0 (hr o (by simp)) (bnd_list r x) h0] at h1
  cases r with
  | nil => rw [show prB [] ++ 93 :: x = 93 :: x by simp [prB], firstW_delim x dD dD dD] at h1; cases h1
  | cons o2 r =>
   have e : prB (o2 :: r) ++ 93 :: x = 32 :: (prO o2 ++ (prB r ++ 93 :: x)) := by simp [prB]
   rw [e, (firstW_32 _).1] at h1
   exact first_R (hr o2 (by simp)) _ h1
/-- what is behind a dictionary's names and objects -/
theorem pairs_head (ks : List (List UInt8)) (r : List AV) (x : List UInt8) : ∃ c y, prP ks r ++ 32 :: 62 :: x = 32 :: c :: y ∧ (c = 47 ∨ c = 62) := by
 match ks, r with
 | [], r => exact ⟨62, x, by simp [prP], .inr rfl⟩
 | k :: ks, [] => exact ⟨62, x, by simp [prP], .inr rfl⟩
 | k :: ks, o :: r => exact ⟨47, k.flatMap nmE ++ 32 :: (prO o ++ prP ks r) ++ 32 :: 62 :: x, by simp [prP, nmT], .inl rfl⟩
theorem nr_pairs (k : Int) (ks : List (List UInt8)) (r : List AV) (x : List UInt8) : NoR k (prP ks r ++ 32 :: 62 :: x) := by
 intro _ ⟨h0, _⟩
 obtain ⟨c, y, e, hc⟩ := pairs_head ks r x
 rw [e, (firstW_32 _).1, firstW_delim y (by rcases hc with rfl | rfl <;> decide) (by rcases hc with rfl | rfl <;> decide) (by rcases hc with rfl | rfl <;> decide)] at h0
 cases h0
theorem prB_ge : ∀ l : List AV, l.length ≤ (prB l).length
 | [] => Nat.le_refl _
 | o :: r => by
  have := prB_ge r
  rw [prB, List.length_cons, List.length_cons, List.length_append]; omega
theorem prP_ge : ∀ (ks : List (List UInt8)) (l : List AV), ks.length = l.length → l.length ≤ (prP ks l).length
 | [], [], _ => Nat.le_refl _
 | k :: ks, o :: r, h => by
  have := prP_ge ks r (by simpa using h)
  simp only [prP, List.length_cons, List.length_append]; omega
/-- an object is read as it was written -/
def Reads (o : AV) : Prop := ∀ (l : List UInt8) (t : Nat) (rest : List UInt8) (d : Nat), t ≤ l.length → l.drop t = prO o ++ rest → Bnd rest → NoR o.kind rest → objP true l d t = if dpO o ≤ d then .ok (pvO o, l.length - rest.length) else .error 25
theorem step_over {l A r : List UInt8} {t : Nat} (ht : t ≤ l.length) (h : l.drop t = A ++ r) : l.drop (l.length - r.length) = r ∧ l.length - r.length ≤ l.length ∧ r.length ≤ l.length := by
 have hl := congrArg List.length h
 rw [List.length_drop, List.length_append] at hl
 refine ⟨?_, by omega, by omega⟩
 rw [show l.length - r.length = t + A.length by omega, ← List.drop_drop, h, List.drop_left]
theorem listP_print (l : List UInt8) (d : Nat) (rest : List UInt8) {D : Int} : ∀ (r : List AV) (acc : List PV) (t f : Nat), (∀ o ∈ r, Snd D false o) → (∀ o ∈ r, Reads o) → t ≤ l.length → skipS false (l.drop t) = (prB r).drop 1 ++ 93 :: rest → r.length < f → acc.length + r.length ≤ 65535 →
  listP (objP true l d) l f acc t = if dpL r ≤ d then .ok (acc ++ pvL r, l.length - rest.length) else .error 25
 | [], acc, t, f, _, _, ht, h, hf, _ => by
  obtain ⟨-, h2⟩ := skip_at h
  rw [show (prB []).drop 1 ++ 93 :: rest = 93 :: rest by simp [prB]] at h2
  obtain ⟨h3, h4, -⟩ := head_at h2
  have hl := congrArg List.length h2
  rw [List.length_drop, List.length_cons] at hl
  rw [listP_step oO, h3]
  simp only [if_true]
  rw [if_pos (show dpL [] ≤ d by simp [dpL])]
  congr 2
  ·
   simp [pvL]
  ·
   omega
 | o :: r, acc, t, f, hS, hR, ht, h, hf, ha => by
  obtain ⟨-, h2⟩ := skip_at h
  have hso := hS o (by simp)
  rw [show (prB (o :: r)).drop 1 ++ 93 :: rest = prO o ++ (prB r ++ 93 :: rest) by simp [prB]] at h2
  obtain ⟨c, q, hq, hc⟩ := pr_head hso
  obtain ⟨h3, h4, -⟩ := head_at (show l.drop (skipAt false l t) = c :: (q ++ (prB r ++ 93 :: rest)) by rw [h2, hq]; rfl)
  rw [listP_step oO, h3]
  simp only
  simp only [List.length_cons] at hf ha
  rw [if_neg (headB_f hc).2.2.1, if_neg oO]
  rw [hR o (by simp) l _ _ d oO h2 (bnd_list r rest) (nr_list o.kind r (fun x hx => hS x (by simp [hx])) rest)]
  by_cases hd : dpO o ≤ d
  ·
   rw [if_pos hd]
   simp only
   obtain ⟨g1, g2, g3⟩ := step_over oO h2
   rw [listP_print l d rest r (acc ++ [pvO o]) _ (f - 1) (fun x hx => hS x (by simp [hx])) (fun x hx => hR x (by simp [hx])) g2 (by
    rw [g1]
    cases r with
    | nil => rw [show prB [] ++ 93 :: rest = 93 :: rest by simp [prB]]; exact skipS_stop dD dD
    | cons o2 r2 =>
     rw [show prB (o2 :: r2) ++ 93 :: rest = 32 :: (prO o2 ++ (prB r2 ++ 93 :: rest)) by simp [prB], skipS_32, pr_skip (hS o2 (by simp))]
     simp [prB]) oO (by rw [List.length_append, List.length_singleton]; omega)]
   have e : dpL (o :: r) = max (dpO o) (dpL r) := by rw [dpL]
   by_cases h5 : dpL r ≤ d
   ·
    rw [if_pos h5, if_pos oO]; simp [pvL]
   ·
    rw [if_neg h5, if_neg oO]
  ·
   rw [if_neg hd]
   simp only
   rw [if_neg (by rw [dpL]; omega)]
theorem pairsP_print (l : List UInt8) (d : Nat) (rest : List UInt8) {D : Int} : ∀ (ks : List (List UInt8)) (r : List AV) (ka : List (List UInt8)) (acc : List PV) (t f : Nat), ks.length = r.length → (∀ k ∈ ks, nmOk k) → (ka ++ ks).Nodup → (∀ o ∈ r, Snd D false o) → (∀ o ∈ r, Reads o) → t ≤ l.length →
  skipS false (l.drop t) = (prP ks r ++ 32 :: 62 :: 62 :: rest).drop 1 → r.length < f → acc.length + r.length ≤ 65535 →
  pairsP (objP true l d) l f ka acc t = if dpL r ≤ d then .ok (ka ++ ks, acc ++ pvL r, l.length - rest.length) else .error 25
 | [], [], ka, acc, t, f, _, _, _, _, _, ht, h, hf, _ => by
  obtain ⟨-, h2⟩ := skip_at h
  rw [show (prP [] [] ++ 32 :: 62 :: 62 :: rest).drop 1 = 62 :: 62 :: rest by simp [prP]] at h2
  obtain ⟨h3, h4, h5⟩ := head_at h2
  obtain ⟨h6, h7, -⟩ := head_at h5
  have hl := congrArg List.length h2
  rw [List.length_drop, List.length_cons, List.length_cons] at hl
  rw [pairsP_step oO, h3]
  simp only
  rw [if_neg (by rintro ⟨-, h⟩; omega), if_pos (by exact ⟨by trivial, h6⟩), if_pos (show dpL [] ≤ d by simp [dpL])]
  congr 3
  ·
   simp
  ·
   simp [pvL]
  ·
   omega
 | k :: ks, o :: r, ka, acc, t, f, hkl, hk, hnd, hS, hR, ht, h, hf, ha => by
  obtain ⟨-, h2⟩ := skip_at h
  have hso := hS o (by simp)
  have e0 : (prP (k :: ks) (o :: r) ++ 32 :: 62 :: 62 :: rest).drop 1 = 47 :: (k.flatMap nmE ++ 32 :: (prO o ++ (prP ks r ++ 32 :: 62 :: 62 :: rest))) := by simp [prP, nmT]
  rw [e0] at h2
  obtain ⟨h3, h4, h5⟩ := head_at h2
  simp only [List.length_cons] at hf ha
  have hnm := nameP_at oO h5 (hk k (by simp)) (Bnd.cons dD)
  obtain ⟨g1, g2, g3⟩ := step_over oO h5
  have g4 : skipS false (l.drop (l.length - (32 :: (prO o ++ (prP ks r ++ 32 :: 62 :: 62 :: rest))).length)) = prO o ++ (prP ks r ++ 32 :: 62 :: 62 :: rest) := by rw [g1, skipS_32, pr_skip hso]
  obtain ⟨-, g5⟩ := skip_at g4
  obtain ⟨c, q, hq, hc⟩ := pr_head hso
  obtain ⟨g6, g7, -⟩ := head_at (g5.trans (show _ = c :: (q ++ (prP ks r ++ 32 :: 62 :: 62 :: rest)) by rw [hq]; rfl))
  obtain ⟨c2, y2, e2, hc2⟩ := pairs_head ks r (62 :: rest)
  rw [pairsP_step oO, h3]
  simp only
  rw [if_neg (by rintro ⟨h, -⟩; cases h), if_neg (by rintro ⟨h, -⟩; cases h), if_neg (by simp), hnm]
  simp only
  have hka : k ∉ ka := fun hm => by
   have := (List.nodup_append.1 hnd).2.2 k hm k (by simp)
   exact this rfl
  rw [if_neg hka, if_neg oO, g6]
  simp only
  rw [hR o (by simp) l _ _ d oO g5 (by rw [e2]; exact Bnd.cons dD) (nr_pairs o.kind ks r (62 :: rest))]
  by_cases hd : dpO o ≤ d
  ·
   rw [if_pos hd]
   simp only
   obtain ⟨k1, k2, k3⟩ := step_over oO g5
   rw [pairsP_print l d rest ks r (ka ++ [k]) (acc ++ [pvO o]) _ (f - 1) (by simpa using hkl) (fun x hx => hk x (by simp [hx])) (by simpa using hnd) (fun x hx => hS x (by simp [hx])) (fun x hx => hR x (by simp [hx])) k2 (by
    rw [k1, e2, skipS_32, skipS_stop (by rcases hc2 with rfl | rfl <;> decide) (by rcases hc2 with rfl | rfl <;> decide)]; rfl) oO (by rw [List.length_append, List.length_singleton]; omega)]
   have e : dpL (o :: r) = max (dpO o) (dpL r) := by rw [dpL]
   by_cases h5 : dpL r ≤ d
   ·
    rw [if_pos h5, if_pos oO]; simp [pvL]
   ·
    rw [if_neg h5, if_neg oO]
  ·
   rw [if_neg hd]
   simp only
   rw [if_neg (by rw [dpL]; omega)]
theorem plexW_num (l : List UInt8) (t : Nat) (k n : Int) (s : List UInt8) (hs : wordL l t = s) (hh : ∃ c r, s = c :: r ∧ (isDig c = true ∨ c = 45 ∨ c = 43)) (hr : refR true l s (wordAt l t) = none) (hn : numR s = (k, n, true)) : plexW true l t = ⟨k, n, s, true, wordAt l t⟩ := by
 obtain ⟨c, r, e, hc⟩ := hh
 have hq := num_head hc
 unfold plexW
 rw [hs, if_neg (by rw [e]; intro h; exact hq.2.2.2.2.2.1 (List.cons.inj h).1), if_neg (by rw [e]; intro h; exact hq.2.2.2.2.2.2.1 (List.cons.inj h).1), if_neg (by rw [e]; intro h; exact hq.2.2.2.2.2.2.2 (List.cons.inj h).1), hr, hn]
 simp
theorem wholeV_dec (n : Int) (h : 1 ≤ n ∧ n ≤ 4096) : wholeV (decL n) 4096 = (n, true) := by
 obtain ⟨a, b, c⟩ := digitsL_val n.natAbs
 have hl := digitsL_len 3 n.natAbs oO
 have hd : decL n = digitsL n.natAbs := by unfold decL; rw [if_neg oO]
 unfold wholeV wholeOk
 rw [hd, List.all_eq_true.2 a, decide_eq_true (show (digitsL n.natAbs).length ≤ 10 by omega), decide_eq_false c]
 simp only [Bool.not_false, Bool.and_self, if_true]
 rw [b]
 simp; omega
/-- what is written is read -/
theorem reads {D : Int} {st : Bool} {o : AV} (h : Snd D st o) : o.kind ≠ 9 → Reads o := by
  induction h with
  | null D st =>
    intro _ l t rest d ht h hb _
    have e : prO (.mk 0 0 [] [] [] []) = [110, 117, 108, 108] := by simp [prO]
    rw [e] at h
    obtain ⟨w1, w2, -⟩ := word_at ht h dD hb
    rw [plain_case d h dD dD dD dD, if_pos (by simp [dpO])]
    unfold plexW
    rw [w1, if_pos rfl, w2]; simp [plainO, pvO, pvL, pv0]
  | bool D st n hn =>
    intro _ l t rest d ht h hb _
    rcases hn with rfl | rfl
    · have e : prO (.mk 1 0 [] [] [] []) = [102, 97, 108, 115, 101] := by simp [prO]
      rw [e] at h
      obtain ⟨w1, w2, -⟩ := word_at ht h dD hb
      rw [plain_case d h dD dD dD dD, if_pos (by simp [dpO])]
      unfold plexW
      rw [w1, if_neg dD, if_neg dD, if_pos rfl, w2]; simp [plainO, pvO, pvL, pv0]
    · have e : prO (.mk 1 1 [] [] [] []) = [116, 114, 117, 101] := by simp [prO]
      rw [e] at h
      obtain ⟨w1, w2, -⟩ := word_at ht h dD hb
      rw [plain_case d h dD dD dD dD, if_pos (by simp [dpO])]
      unfold plexW
      rw [w1, if_neg dD, if_pos rfl, w2]; simp [plainO, pvO, pvL, pv0]
  | num D st k n hk hf =>
    intro _ l t rest d ht h hb hnr
    rcases hk with rfl | rfl
    · have e : prO (.mk 2 n [] [] [] []) = decL n := by simp [prO]
      rw [e] at h
      obtain ⟨w1, w2, w3⟩ := word_at ht h (dec_reg n hf) hb
      obtain ⟨c, r, ec, hc⟩ := dec_head n hf
      have hq := num_head hc
      rw [plain_case d (show l.drop t = c :: (r ++ rest) by rw [h, ec]; rfl) hq.2.1 hq.2.2.1 hq.2.2.2.1 hq.2.2.2.2.1, if_pos (by simp [dpO])]
      rw [plexW_num l t 2 n _ w1 ⟨c, r, ec, hc⟩ (refR_words _ _ _ _ _ w3 (hnr rfl)) (numR_dec n hf), w2]
      simp [plainO, pvO, pvL, pv0]
    · have e : prO (.mk 3 n [] [] [] []) = realL n := by simp [prO, norm_fits hf]
      rw [e] at h
      obtain ⟨p1, p2, p3⟩ := real_facts n hf
      obtain ⟨w1, w2, w3⟩ := word_at ht h p3 hb
      obtain ⟨c, r, ec, hc⟩ := real_head n hf
      have hq := num_head hc
      rw [plain_case d (show l.drop t = c :: (r ++ rest) by rw [h, ec]; rfl) hq.2.1 hq.2.2.1 hq.2.2.2.1 hq.2.2.2.2.1, if_pos (by simp [dpO])]
      have hno : (wholeV (realL n) 4096).2 = false := by
        unfold wholeV wholeOk
        have : (realL n).all isDig = false := by
          cases hx : (realL n).all isDig with
          | false => rfl
          | true => exact absurd (List.all_eq_true.1 hx 46 (List.contains_iff_mem.1 p2)) dD
        rw [this]; simp
      rw [plexW_num l t 3 n _ w1 ⟨c, r, ec, hc⟩ (by unfold refR; rw [hno]; simp) (by unfold numR; rw [p2, p1]; rfl), w2]
      simp [plainO, pvO, pvL, pv0]
  | name D st s hs =>
    intro _ l t rest d ht h hb _
    have e : prO (.mk 4 0 s [] [] []) = 47 :: s.flatMap nmE := by simp [prO, nmT]
    rw [e] at h
    obtain ⟨h1, h2, h3⟩ := head_at h
    have := objP_at true l (d : Int) t 47 h1
    rw [Int.toNat_natCast, if_pos rfl] at this
    rw [this, if_pos (by simp [dpO])]
    unfold nameO
    rw [nameP_at oO h3 hs hb]
    simp [pvO, pvL, pv0]
  | text D st s hs =>
    intro _ l t rest d ht h hb _
    have e : prO (.mk 5 0 s [] [] []) = txT s := by simp [prO]
    rw [e] at h
    obtain ⟨h1, h2, h3⟩ := head_at (show l.drop t = 40 :: ((s.flatMap txE ++ [41]) ++ rest) by rw [h]; rfl)
    have := objP_at true l (d : Int) t 40 h1
    rw [Int.toNat_natCast, if_neg dD, if_neg dD, if_pos rfl] at this
    rw [this, if_pos (by simp [dpO])]
    unfold textP
    rw [textR_at ht h hs]
    simp [pvO, pvL, pv0]
  | ref D st n hn =>
    intro _ l t rest d ht h hb _
    have hf : fitsB n = true := by simp [fitsB]; omega
    have e : prO (.mk 8 n [] [] [] []) = decL n ++ [32, 48, 32, 82] := by simp [prO]
    rw [e, List.append_assoc] at h
    obtain ⟨w1, w2, w3⟩ := word_at ht h (dec_reg n hf) (Bnd.cons dD)
    obtain ⟨c, r, ec, hc⟩ := dec_head n hf
    have hq := num_head hc
    have hlen := congrArg List.length h
    simp only [List.length_drop, List.length_append, List.length_cons, List.length_nil] at hlen
    rw [plain_case d (show l.drop t = c :: (r ++ ([32, 48, 32, 82] ++ rest)) by rw [h, ec]; rfl) hq.2.1 hq.2.2.1 hq.2.2.2.1 hq.2.2.2.2.1, if_pos (by simp [dpO])]
    have s1 : skipS false (l.drop (wordAt l t)) = 48 :: 32 :: 82 :: rest := by rw [w3]; exact (skipS_32 _).trans (skipS_stop dD dD)
    obtain ⟨-, a1⟩ := skip_at s1
    obtain ⟨u1, u2, u3⟩ := word_at (skipAt_le _ _ _) (show l.drop (skipAt false l (wordAt l t)) = [48] ++ (32 :: 82 :: rest) by rw [a1]; rfl) dD (Bnd.cons dD)
    have s2 : skipS false (l.drop (wordAt l (skipAt false l (wordAt l t)))) = 82 :: rest := by rw [u3]; exact (skipS_32 _).trans (skipS_stop dD dD)
    obtain ⟨-, a2⟩ := skip_at s2
    obtain ⟨v1, v2, v3⟩ := word_at (skipAt_le _ _ _) (show l.drop (skipAt false l (wordAt l (skipAt false l (wordAt l t)))) = [82] ++ rest by rw [a2]; rfl) dD hb
    have hR : refR true l (decL n) (wordAt l t) = some (n, l.length - rest.length) := by
      unfold refR
      rw [wholeV_dec n hn, u1, v1, v2]
      simp; omega
    unfold plexW
    rw [w1, if_neg (by rw [ec]; intro h; exact hq.2.2.2.2.2.1 (List.cons.inj h).1), if_neg (by rw [ec]; intro h; exact hq.2.2.2.2.2.2.1 (List.cons.inj h).1), if_neg (by rw [ec]; intro h; exact hq.2.2.2.2.2.2.2 (List.cons.inj h).1), hR]
    simp [plainO, pvO, pvL, pv0, refK, refT]
  | arr D st L hD hl hS ih =>
    intro _ l t rest d ht h hb _
    have e : prO (.mk 6 0 [] [] L []) = 91 :: ((prB L).drop 1 ++ [93]) := by simp [prO]
    rw [e] at h
    obtain ⟨h1, h2, h3⟩ := head_at (show l.drop t = 91 :: ((prB L).drop 1 ++ [93] ++ rest) by rw [h]; rfl)
    have := objP_at true l (d : Int) t 91 h1
    rw [Int.toNat_natCast, if_neg dD, if_pos rfl] at this
    rw [this]
    have hdp : dpO (.mk 6 0 [] [] L []) = dpL L + 1 := by simp [dpO]
    rw [hdp]
    by_cases hd : (d : Int) < 1
    · rw [if_pos hd, if_neg oO]
    · rw [if_neg hd, show ((d : Int) - 1).toNat = d - 1 by omega]
      have hlen := congrArg List.length h3
      have hge := prB_ge L
      simp only [List.length_drop, List.length_append, List.length_cons, List.length_nil] at hlen
      rw [listP_print l (d - 1) rest L [] (t + 1) (l.length + 1) hS (fun o ho => ih o ho (snd_no9 (hS o ho))) oO (by
        rw [h3]
        cases L with
        | nil => simp only [prB, List.drop_nil, List.nil_append, List.cons_append]; exact skipS_stop dD dD
        | cons o r =>
          rw [show (prB (o :: r)).drop 1 ++ [93] ++ rest = prO o ++ (prB r ++ 93 :: rest) by simp [prB], pr_skip (hS o (by simp))]
          simp [prB]) oO (by simpa using hl)]
      by_cases h5 : dpL L ≤ d - 1
      · rw [if_pos h5, if_pos oO]; simp [listO, pvO]
      · rw [if_neg h5, if_neg oO]; rfl
  | dict D st k ks L dd hk hD hl hkl hn hnd hS ih =>
    intro h9 l t rest d ht h hb _
    rcases hk with ⟨rfl, rfl⟩ | ⟨rfl, -⟩
    · have e : prO (.mk 7 0 [] ks L []) = 60 :: 60 :: (prP ks L ++ [32, 62, 62]) := by simp [prO]
      rw [e] at h
      obtain ⟨h1, h2, h3⟩ := head_at (show l.drop t = 60 :: (60 :: (prP ks L ++ [32, 62, 62] ++ rest)) by rw [h]; rfl)
      obtain ⟨h4, h5, h6⟩ := head_at h3
      have := objP_at true l (d : Int) t 60 h1
      rw [Int.toNat_natCast, if_neg dD, if_neg dD, if_neg dD, if_pos rfl, if_neg oO, if_neg (fun h => h h4)] at this
      rw [this]
      have hdp : dpO (.mk 7 0 [] ks L []) = dpL L + 1 := by simp [dpO]
      rw [hdp]
      by_cases hd : (d : Int) < 1
      · rw [if_pos hd, if_neg oO]
      · rw [if_neg hd, show ((d : Int) - 1).toNat = d - 1 by omega]
        have hlen := congrArg List.length h6
        have hge := prP_ge ks L hkl
        simp only [List.length_drop, List.length_append, List.length_cons, List.length_nil] at hlen
        obtain ⟨c2, y2, e2, hc2⟩ := pairs_head ks L (62 :: rest)
        have e3 : l.drop (t + 1 + 1) = 32 :: c2 :: y2 := by rw [h6, ← e2]; simp
        rw [pairsP_print l (d - 1) rest ks L [] [] (t + 2) (l.length + 1) hkl hn (by simpa using hnd) hS (fun o ho => ih o ho (snd_no9 (hS o ho))) oO (by
          rw [show t + 2 = t + 1 + 1 from rfl, e3, e2, skipS_32, skipS_stop (by rcases hc2 with rfl | rfl <;> decide) (by rcases hc2 with rfl | rfl <;> decide)]; rfl) oO (by simpa using hl)]
        by_cases h5 : dpL L ≤ d - 1
        · rw [if_pos h5, if_pos oO]; simp [pairsO, pvO]
        · rw [if_neg h5, if_neg oO]; rfl
    · exact absurd rfl h9
end
section
theorem ref_Print_not (n : Int) (w : World) (h : fitsB n = false) :
  Calls Tryz.prog 62 #[.int .i64 n] w fun e w' => e = .returned (.string (bs [48])) ∧ Below w.heap.size w w' := by
 go_enter func62, ntmps62
 go_wp2_with (go_at_call 60; refine (ref_Fits _ _).mono ?_; rintro e w1 ⟨rfl, rfl⟩)
 go_ret
 exact ⟨rfl, Below.refl _ _⟩
theorem decL_pos (n : Int) (h : 0 ≤ n) : decL n = digitsL n.toNat := by
 unfold decL; rw [if_neg oO]; congr 1; omega
theorem printL_of (n m : Int) (hm : m = (n.natAbs : Int)) : printL n = signL n ++ decL (m / 65536) ++ (if 0 < m % 65536 then [46] else []) ++ fracL (m % 65536).toNat := by
  subst hm
  rw [decL_pos _ oO]
  have e1 : ((n.natAbs : Int) / 65536).toNat = n.natAbs / 65536 := by omega
  have e2 : ((n.natAbs : Int) % 65536).toNat = n.natAbs % 65536 := by omega
  rw [e1, e2]
  unfold printL wholeL restL
  by_cases h0 : n.natAbs % 65536 = 0
  · have hc : ¬ (0 : Int) < (n.natAbs : Int) % 65536 := by omega
    simp [hc, h0, fracL_zero]
  · have hc : (0 : Int) < (n.natAbs : Int) % 65536 := by omega
    simp [hc, fracL_ne _ (show 0 < n.natAbs % 65536 by omega) oO]
theorem bs_nil : (⟨#[]⟩ : ByteArray) = bs [] := rfl
theorem bs_one (c : UInt8) : (⟨#[c]⟩ : ByteArray) = bs [c] := rfl
set_option maxHeartbeats 400000 in
theorem ref_Print_pos (n : Int) (w : World) (h : 0 ≤ n) (h' : n ≤ 2147483647) :
    Calls Tryz.prog 62 #[.int .i64 n] w fun e w' => e = .returned (.string (bs (printL n))) ∧ Below w.heap.size w w' := by
  have hf := fitsB_yes (n := n) oO h'
  have hd := decL_size (n / 65536) oO oO
  have hP := printL_of n n oO
  rw [signL, if_neg oO] at hP
  by_cases hr : 0 < n % 65536
  all_goals
    first | rw [if_pos hr] at hP | rw [if_neg hr] at hP
    have HP := hid hP; clear hP
    go_enter func62, ntmps62
    go_wp2_with first | (go_at_call 60; refine (ref_Fits _ _).mono ?_; rintro e w1 ⟨rfl, rfl⟩) | (go_at_call 18; go_must (refine (ref_Dec _ _ oO oO).mono ?_); rintro e w1 ⟨rfl, hb1⟩)
    go_loopw [3, 4] (fun s r wr => ∃ (t : List UInt8) (m : Nat), s = .string (bs t) ∧ r = .int .i64 m ∧ m < 65536 ∧ Below w.heap.size w wr ∧ t.length + (fracL m).length ≤ 60 ∧ printL n = t ++ fracL m) (fun _ r _ => (fracL (intOf r).toNat).length)
    case atStart =>
      have hl := fracL_len (n % 65536).toNat
      rw [bs_size] at hd
      refine ⟨_, (n % 65536).toNat, ?_, by go_num, by omega, hb1, ?_, HP.out⟩
      · simp [bs_nil, bs_one, bs_append]
      · simp; omega
    case round =>
      obtain ⟨t, m, rfl, rfl, hm, hb, hlen, hp⟩ := hrel
      have Hp := hid hp; clear hp HP
      by_cases hm0 : 0 < m
      · have hst := fracL_step m hm0 hm
        have Hst := hid hst; clear hst
        have hl2 := congrArg List.length Hst.out
        simp only [List.length_cons] at hl2
        have hs1 : (bs t).size ≤ 60 := by rw [bs_size]; omega
        have hs2 := decL_size ((m : Int) * 10 / 65536) oO oO
        clear hd hb1
        have hsz := hb.size
        go_wp2_with (go_at_call 18; go_must (refine (ref_Dec _ _ oO oO).mono ?_); rintro e w1 ⟨rfl, hb1⟩)
        have e1 : decL ((m : Int) * 10 / 65536) = [ch (48 + ((m * 10 / 65536 : Nat) : Int))] := by
          rw [decL_pos _ oO, digitsL_lt _ oO, Int.toNat_of_nonneg oO, Int.natCast_ediv, Int.natCast_mul]; rfl
        refine ⟨⟨t ++ decL ((m : Int) * 10 / 65536), m * 10 % 65536, by rw [bs_append], by go_num, by omega, hb.trans (hb1.mono hsz), ?_, ?_⟩, ?_⟩
        · rw [e1]; simp; omega
        · rw [Hp.out, Hst.out, e1]; simp
        · have e2 : ((m : Int) * 10 % 65536).toNat = m * 10 % 65536 := by omega
          have e3 : ((m : Int)).toNat = m := by omega
          simp only [intOf, e2, e3]; omega
      · have hm00 : m = 0 := by omega
        have Hm := hid hm00; clear hm00
        go_wp2
        go_ret
        exact ⟨ret_str (by rw [Hp.out, Hm.out, fracL_zero, List.append_nil]), hb⟩
set_option maxHeartbeats 400000 in
theorem ref_Print_neg (k : Int) (w : World) (h : 0 < k) (h' : k ≤ 2147483648) :
    Calls Tryz.prog 62 #[.int .i64 (-k)] w fun e w' => e = .returned (.string (bs (printL (-k)))) ∧ Below w.heap.size w w' := by
  have hf := fitsB_yes (n := -k) oO oO
  have hd := decL_size (k / 65536) oO oO
  have hP := printL_of (-k) k oO
  rw [signL, if_pos oO] at hP
  by_cases hr : 0 < k % 65536
  all_goals
    first | rw [if_pos hr] at hP | rw [if_neg hr] at hP
    have HP := hid hP; clear hP
    go_enter func62, ntmps62
    go_wp2_with first | (go_at_call 60; refine (ref_Fits _ _).mono ?_; rintro e w1 ⟨rfl, rfl⟩) | (go_at_call 18; go_must (refine (ref_Dec _ _ oO oO).mono ?_); rintro e w1 ⟨rfl, hb1⟩)
    go_loopw [3, 4] (fun s r wr => ∃ (t : List UInt8) (m : Nat), s = .string (bs t) ∧ r = .int .i64 m ∧ m < 65536 ∧ Below w.heap.size w wr ∧ t.length + (fracL m).length ≤ 60 ∧ printL (-k) = t ++ fracL m) (fun _ r _ => (fracL (intOf r).toNat).length)
    case atStart =>
      have hl := fracL_len (k % 65536).toNat
      rw [bs_size] at hd
      refine ⟨_, (k % 65536).toNat, ?_, by go_num, by omega, hb1, ?_, HP.out⟩
      · simp [bs_one, bs_append]
      · simp; omega
    case round =>
      obtain ⟨t, m, rfl, rfl, hm, hb, hlen, hp⟩ := hrel
      have Hp := hid hp; clear hp HP
      by_cases hm0 : 0 < m
      · have hst := fracL_step m hm0 hm
        have Hst := hid hst; clear hst
        have hl2 := congrArg List.length Hst.out
        simp only [List.length_cons] at hl2
        have hs1 : (bs t).size ≤ 60 := by rw [bs_size]; omega
        have hs2 := decL_size ((m : Int) * 10 / 65536) oO oO
        clear hd hb1
        have hsz := hb.size
        go_wp2_with (go_at_call 18; go_must (refine (ref_Dec _ _ oO oO).mono ?_); rintro e w1 ⟨rfl, hb1⟩)
        have e1 : decL ((m : Int) * 10 / 65536) = [ch (48 + ((m * 10 / 65536 : Nat) : Int))] := by
          rw [decL_pos _ oO, digitsL_lt _ oO, Int.toNat_of_nonneg oO, Int.natCast_ediv, Int.natCast_mul]; rfl
        refine ⟨⟨t ++ decL ((m : Int) * 10 / 65536), m * 10 % 65536, by rw [bs_append], by go_num, by omega, hb.trans (hb1.mono hsz), ?_, ?_⟩, ?_⟩
        · rw [e1]; simp; omega
        · rw [Hp.out, Hst.out, e1]; simp
        · have e2 : ((m : Int) * 10 % 65536).toNat = m * 10 % 65536 := by omega
          have e3 : ((m : Int)).toNat = m := by omega
          simp only [intOf, e2, e3]; omega
      · have hm00 : m = 0 := by omega
        have Hm := hid hm00; clear hm00
        go_wp2
        go_ret
        exact ⟨ret_str (by rw [Hp.out, Hm.out, fracL_zero, List.append_nil]), hb⟩
theorem ref_Print (n : Int) (w : World) :
    Calls Tryz.prog 62 #[.int .i64 n] w fun e w' => e = .returned (.string (bs (printL (norm n)))) ∧ Below w.heap.size w w' := by
  have e0 : printL 0 = [48] := by
    have hz : restL 0 = [] := rfl
    have hd : digitsL 0 = [48] := by rw [digitsL_lt 0 oO]; rfl
    simp [printL, signL, wholeL, hz, hd]
  unfold norm
  by_cases h1 : n < -2147483648
  · rw [fitsB_lo h1]; simp only [Bool.false_eq_true, if_false, e0]; exact ref_Print_not n w (fitsB_lo h1)
  · by_cases h2 : 2147483647 < n
    · rw [fitsB_hi h2]; simp only [Bool.false_eq_true, if_false, e0]; exact ref_Print_not n w (fitsB_hi h2)
    · rw [fitsB_yes oO oO]
      by_cases h3 : n < 0
      · have h := ref_Print_neg (-n) w oO oO
        rw [Int.neg_neg] at h; exact h
      · exact ref_Print_pos n w oO oO
theorem tmod_zero (n : Int) : ((n.tmod 65536) == 0) = decide (n.natAbs % 65536 = 0) := by
 rw [Bool.eq_iff_iff]
 simp only [beq_iff_eq, decide_eq_true_eq]
 rcases Int.le_total 0 n with h | h
 ·
  rw [Int.tmod_eq_emod_of_nonneg h]; omega
 ·
  have e : n.tmod 65536 = -((-n) % 65536) := by
   rw [← Int.tmod_eq_emod_of_nonneg oO, Int.neg_tmod, Int.neg_neg]
  rw [e]; omega
theorem printL_size (n : Int) : (bs (printL (norm n))).size ≤ 60 := by
 have h1 := signL_size (norm n)
 have h2 := wholeL_size (norm n) (norm_lo n) (norm_hi n)
 have h3 := restL_size (norm n)
 rw [bs_size] at *
 unfold printL
 split <;> simp <;> omega
set_option maxHeartbeats 400000 in
theorem ref_PrintReal (n : Int) (w : World) :
    Calls Tryz.prog 42 #[.int .i64 n] w fun e w' => e = .returned (.string (bs (realL (norm n)))) ∧ Below w.heap.size w w' := by
  have hs := printL_size n
  by_cases hf : fitsB n = true
  · have hn : norm n = n := by rw [norm, hf]; rfl
    by_cases h0 : n.natAbs % 65536 = 0
    · have ht : (n.tmod 65536 == 0) = true := by rw [tmod_zero]; simpa using h0
      have hr := (restL_iff n).2 h0
      have Hr := hid hr; have Hn := hid hn; clear hr hn h0
      go_enter func42, ntmps42
      go_wp2_with first | (go_at_call 60; refine (ref_Fits _ _).mono ?_; rintro e w1 ⟨rfl, rfl⟩) | (go_at_call 62; go_must (refine (ref_Print _ _).mono ?_); rintro e w1 ⟨rfl, hb1⟩)
      go_ret
      refine ⟨ret_str ?_, hb1⟩
      rw [Hn.out, realL, printL, if_pos Hr.out, if_pos Hr.out]
      show bs _ ++ bs [46, 48] = _
      rw [bs_append]; simp
    · have ht : (n.tmod 65536 == 0) = false := by rw [tmod_zero]; simpa using h0
      have hr := fun x => h0 ((restL_iff n).1 x)
      have Hr := hid hr; have Hn := hid hn; clear hr hn h0
      go_enter func42, ntmps42
      go_wp2_with first | (go_at_call 60; refine (ref_Fits _ _).mono ?_; rintro e w1 ⟨rfl, rfl⟩) | (go_at_call 62; go_must (refine (ref_Print _ _).mono ?_); rintro e w1 ⟨rfl, hb1⟩)
      go_ret
      refine ⟨ret_str ?_, hb1⟩
      rw [Hn.out, realL, printL, if_neg Hr.out, if_neg Hr.out]
  · have hf' : fitsB n = false := by simpa using hf
    have hn : norm n = 0 := by rw [norm, hf']; rfl
    have Hn := hid hn; clear hf hn
    have hs0 := printL_size 0
    go_enter func42, ntmps42
    go_wp2_with first | (go_at_call 60; refine (ref_Fits _ _).mono ?_; rintro e w1 ⟨rfl, rfl⟩) | (go_at_call 62; go_must (refine (ref_Print _ _).mono ?_); rintro e w1 ⟨rfl, hb1⟩)
    go_ret
    refine ⟨ret_str ?_, hb1⟩
    have hz : restL 0 = [] := rfl
    have h0 : norm 0 = 0 := rfl
    rw [Hn.out, h0, realL, printL, if_pos hz, if_pos hz]
    show bs _ ++ bs [46, 48] = _
    rw [bs_append]; simp
end
section
theorem prO_le (l : List AV) (i : Nat) (hi : i < l.length) : (prO l[i]).length ≤ (prB l).length ∧ (prB (l.take (i + 1))).length ≤ (prB l).length := by
 have e : l = l.take i ++ l[i] :: l.drop (i + 1) := by rw [← List.drop_eq_getElem_cons hi, List.take_append_drop]
 have e2 : prB l = prB (l.take i) ++ (32 :: (prO l[i] ++ prB (l.drop (i + 1)))) := by conv => lhs; rw [e, prB_append, prB]
 have e3 : prB (l.take (i + 1)) = prB (l.take i) ++ 32 :: prO l[i] := by rw [List.take_succ_eq_append_getElem hi, prB_snoc]
 rw [e3, e2]
 simp only [List.length_append, List.length_cons]
 omega
theorem prB_take_le (l : List AV) (i : Nat) (hi : i < l.length) : (prB (l.take i)).length ≤ (prB l).length := by
 have e : l = l.take i ++ l.drop i := (List.take_append_drop i l).symm
 have e2 : prB l = prB (l.take i) ++ prB (l.drop i) := by conv => lhs; rw [e, prB_append]
 rw [e2, List.length_append]; omega
theorem prP_take : ∀ (ks : List (List UInt8)) (l : List AV) (i : Nat) (h1 : i < ks.length) (h2 : i < l.length), prP (ks.take (i + 1)) (l.take (i + 1)) = prP (ks.take i) (l.take i) ++ 32 :: (nmT ks[i] ++ 32 :: prO l[i])
 | k :: ks, o :: l, 0, _, _ => by simp [prP]
 | k :: ks, o :: l, i + 1, h1, h2 => by
  have := prP_take ks l i (by simpa using h1) (by simpa using h2)
  simp only [List.take_succ_cons, prP, List.getElem_cons_succ, this]
  simp
theorem prP_le (ks : List (List UInt8)) (l : List AV) (i : Nat) (h1 : i < ks.length) (h2 : i < l.length) : (prP (ks.take (i + 1)) (l.take (i + 1))).length ≤ (prP ks l).length := by
 have key : ∀ (ks : List (List UInt8)) (l : List AV) (j : Nat), (prP (ks.take j) (l.take j)).length ≤ (prP ks l).length := by
  intro ks
  induction ks with
  | nil => intro l j; simp [prP]
  | cons k ks ih =>
   intro l j
   cases l with
   | nil => simp [prP]
   | cons o l =>
    cases j with
    | zero => simp [prP]
    | succ j => have := ih l j; simp only [List.take_succ_cons, prP, List.length_cons, List.length_append]; omega
 exact key ks l (i + 1)
theorem drop1_snoc (l : List AV) (i : Nat) (hi : i < l.length) : (prB (l.take (i + 1))).drop 1 = (if i = 0 then [] else (prB (l.take i)).drop 1 ++ [32]) ++ prO l[i] := by
 rw [List.take_succ_eq_append_getElem hi, prB_snoc]
 cases i with
 | zero => simp [prB]
 | succ i =>
  rw [if_neg oO]
  have : 0 < (prB (l.take (i + 1))).length := by
   have := prB_ge (l.take (i + 1))
   rw [List.length_take] at this; omega
  rw [List.drop_append_of_le_length oO]
  simp
theorem dpL_mem : ∀ (l : List AV) (m : Nat), (∀ o ∈ l, dpO o ≤ m) → dpL l ≤ m
 | [], m, _ => by simp [dpL]
 | o :: r, m, h => by
  have h1 := h o (by simp)
  have h2 := dpL_mem r m fun x hx => h x (by simp [hx])
  rw [dpL]; omega
theorem dp_le {D : Int} {st : Bool} {o : AV} (h : Snd D st o) : (dpO o : Int) ≤ max D 0 := by
 induction h with
 | arr D st l hD hl h ih =>
  have := dpL_mem l (D - 1).toNat fun o ho => by have := ih o ho; omega
  rw [dpO, if_pos (.inl rfl)]; omega
 | dict D st k ks l d hk hD hl hkl hn hnd h ih =>
  have := dpL_mem l (D - 1).toNat fun o ho => by have := ih o ho; omega
  rw [dpO]; split <;> omega
 | num D st k n hk h => rw [dpO]; rcases hk with rfl | rfl <;> simp <;> omega
 | _ => simp [dpO]; omega
theorem ref_DecT (n : Int) (w : World) (h : -9223372036854775808 ≤ n) (h' : n ≤ 9223372036854775807) : Calls Tryz.prog 18 #[.int .i64 n] w fun e w' => e = .returned (.string (bs (decL n))) ∧ Below w.heap.size w w' := ref_Dec n w h h'
set_option maxHeartbeats 1000000 in
theorem r18_PrintA : ∀ (n : Nat) (o : AV), SizeOf.sizeOf o < n → ∀ (x : AC) (S : Nat → Prop) (D : Int) (st : Bool) (w : World), ARep w S x o → Snd D st o → (prO o).length ≤ 100000000 →
  Calls Tryz.prog 19 #[.agg (acV x).toArray] w fun e w' => e = .returned (.string (bs (prO o))) ∧ Below w.heap.size w w' := by
 intro n
 induction n with
 | zero => intro o h; omega
 | succ n ih =>
 intro o hn x S D st w hx hS hL
 obtain ⟨keys, list, data, cs, rfl, ok, hkl, hk, hks, hr, hrs, hd, hds, hcl, hsub⟩ := hx.inv
 obtain ⟨k, i, s, kp, kl, kc, lp, ll, lc, dp, dl, dc⟩ := x
 have e1 := ok.kl; have e2 := ok.ll; have e3 := ok.dl
 have m1 := ok.kc; have m2 := ok.lc; have m3 := ok.dc; have m4 := ok.km; have m5 := ok.lm; have m6 := ok.dm; have m7 := ok.text; have m8 := ok.n
 simp only at e1 e2 e3 m1 m2 m3 m4 m5 m6 m7 m8 hk hr hd hrs hS hL ⊢
 subst e1; subst e2; subst e3
 simp only [AV.mk.sizeOf_spec] at hn
 have hsz : ∀ j (h : j < list.length), SizeOf.sizeOf list[j] < n := fun j h => by have := List.sizeOf_lt_of_mem (List.getElem_mem h); omega
 have hs0 : AInv w S cs list := ⟨hcl, hsub⟩
 simp only [acV]
 obtain ⟨R, hX⟩ : ∃ R, R = prO (.mk k i s keys list data) := ⟨_, rfl⟩
 rw [← hX] at hL ⊢
 have hsub1 : k = 6 ∨ k = 7 ∨ k = 9 → ∀ o ∈ list, Snd (D - 1) false o := fun hk => by
  cases hS with
  | arr _ _ _ hD hl h => exact h
  | dict _ _ _ _ _ _ hk' hD hl hkl hn hnd h => exact h
  | num _ _ _ _ h' _ => rcases h' with rfl | rfl <;> omega
  | null => omega
  | bool => omega
  | name => omega
  | text => omega
  | ref => omega
 have hkeys : k = 7 ∨ k = 9 → keys.length = list.length ∧ (∀ x ∈ keys, nmOk x) := fun hk => by
  cases hS with
  | arr _ _ _ hD hl h => omega
  | dict _ _ _ _ _ _ hk' hD hl hkl hn hnd h => exact ⟨hkl, hn⟩
  | num _ _ _ _ h' _ => rcases h' with rfl | rfl <;> omega
  | null => omega
  | bool => omega
  | name => omega
  | text => omega
  | ref => omega
 have hkind : k = 0 ∨ k = 1 ∨ k = 2 ∨ k = 3 ∨ k = 4 ∨ k = 5 ∨ k = 8 ∨ k = 6 ∨ k = 7 ∨ k = 9 := by
  cases hS with
  | arr _ _ _ hD hl h => omega
  | dict _ _ _ _ _ _ hk' hD hl hkl hn hnd h => rcases hk' with ⟨h, -⟩ | ⟨h, -⟩ <;> omega
  | num _ _ _ _ h' _ => rcases h' with rfl | rfl <;> omega
  | null => omega
  | bool => omega
  | name => omega
  | text => omega
  | ref => omega
 have htext : s.length ≤ 65535 := by
  cases hS with
  | name _ _ _ h => have := h.2.2; omega
  | text _ _ _ h => exact h
  | _ => simp
 have hdata : data.length ≤ 1048576 := by
  cases hS with
  | dict _ _ _ _ _ _ hk' hD hl hkl hn hnd h => rcases hk' with ⟨-, rfl⟩ | h; simp; exact h.2.2.1
  | _ => simp
 rw [prO] at hX
 refine W.enter func19 rfl ntmps19 (Nat.le_of_ble_eq_true rfl) ?_
 have hB0 := Below.refl (w.heap.size) w
 refine W.sr <| WL.box rfl rfl (fun b1 wb1 eb1 hkb1 hub1 hsb1 => ?_)
 have hF2 := AInv.same (w1 := wb1) hs0 (fun k hk hl => hub1.other k oO)
 have hvl4 := fun h0 => eb1 ▸ hk.lt h0
 have hv3 := RowAt.upd hk hub1 (fun h0 => Nat.ne_of_lt (hvl4 h0))
 have hvl6 := fun h0 => eb1 ▸ hr.lt h0
 have hv5 := RowM.upd hr hub1 (fun h0 => Nat.ne_of_lt (hvl6 h0))
 have hvl8 := fun h0 => eb1 ▸ hd.lt h0
 have hv7 := bup hd hub1 hvl8
 have hB9 := Upd.below hB0 (by rw [eb1]; exact hB0.size) hub1
 have hgeb1 : w.heap.size ≤ b1 := by rw [eb1]; exact hB0.size
 refine WL.z rfl rfl ?_
 refine W.seq <| W.sr <| WL.p (.fa underlying28 rfl sizeOf3 dD rfl) rfl <| WL.r (Rd.ld (isAgg3 _) rfl hkb1 rfl) rfl <| WL.nil <| ?_
 refine W.block <| W.sr <| WL.p (.eql rfl rfl) rfl <| WL.z rfl rfl ?_
 refine W.cond rfl (fun h10 => ?_) (fun h10 => ?_)
 have h10' := dT h10
 refine W.sr <| WL.z rfl rfl ?_
 refine W.ret (W.ret1 rfl rfl ?_)
 (rw [if_pos aS] at hX; subst hX; exact ⟨rfl, hB9⟩)
 have h10' := dF h10
 refine W.sr <| WL.p (.eql rfl rfl) rfl <| WL.z rfl rfl ?_
 refine W.cond rfl (fun h11 => ?_) (fun h11 => ?_)
 have h11' := dT h11
 refine W.seq <| W.sr <| WL.p (.fa underlying28 rfl sizeOf3 dD rfl) rfl <| WL.r (Rd.ld (isAgg3 _) rfl hkb1 rfl) rfl <| WL.p (.eql rfl rfl) rfl <| WL.nil <| ?_
 refine W.cond rfl (fun h12 => ?_) (fun h12 => ?_)
 have h12' := dT h12
 refine W.sr <| WL.z rfl rfl ?_
 refine W.ret (W.ret1 rfl rfl ?_)
 (rw [if_neg oO, if_pos aS, if_pos aS] at hX; subst hX; exact ⟨rfl, hB9⟩)
 have h12' := dF h12
 refine W.skip <| W.sr <| WL.z rfl rfl ?_
 refine W.ret (W.ret1 rfl rfl ?_)
 (rw [if_neg oO, if_pos aS, if_neg aS] at hX; subst hX; exact ⟨rfl, hB9⟩)
 have h11' := dF h11
 refine W.sr <| WL.p (.eql rfl rfl) rfl <| WL.z rfl rfl ?_
 refine W.cond rfl (fun h13 => ?_) (fun h13 => ?_)
 have h13' := dT h13
 refine W.sr <| WL.p (.fa underlying28 rfl sizeOf3 dD rfl) rfl <| WL.r (Rd.ld (isAgg3 _) rfl hkb1 rfl) rfl <| WL.c1 hb18 rfl rfl ((ref_DecT i _ m8.1 m8.2)) (fun w14 hw14 => ?_)
 have hB20 := btr hB9 hw14
 refine WL.z rfl rfl ?_
 refine W.ret (W.ret1 rfl rfl ?_)
 (rw [if_neg oO, if_neg oO, if_pos aS] at hX; subst hX; exact ⟨rfl, hB20⟩)
 have h13' := dF h13
 refine W.sr <| WL.p (.eql rfl rfl) rfl <| WL.z rfl rfl ?_
 refine W.cond rfl (fun h21 => ?_) (fun h21 => ?_)
 have h21' := dT h21
 refine W.sr <| WL.p (.fa underlying28 rfl sizeOf3 dD rfl) rfl <| WL.r (Rd.ld (isAgg3 _) rfl hkb1 rfl) rfl <| WL.c1 hb42 rfl rfl ((ref_PrintReal i _)) (fun w22 hw22 => ?_)
 have hB28 := btr hB9 hw22
 refine WL.z rfl rfl ?_
 refine W.ret (W.ret1 rfl rfl ?_)
 (rw [if_neg oO, if_neg oO, if_neg oO, if_pos aS] at hX; subst hX; exact ⟨rfl, hB28⟩)
 have h21' := dF h21
 refine W.sr <| WL.p (.eql rfl rfl) rfl <| WL.z rfl rfl ?_
 refine W.cond rfl (fun h29 => ?_) (fun h29 => ?_)
 have h29' := dT h29
 refine W.sr <| WL.p (.fa underlying28 rfl sizeOf9 dD rfl) rfl <| WL.r (Rd.ld (isAgg9 _) rfl hkb1 rfl) rfl <| WL.c1 hb43 rfl rfl ((r18_NameA s _ oO)) (fun w30 hw30 => ?_)
 have hB36 := Drew.below hB9 hw30
 refine WL.z rfl rfl ?_
 refine W.ret (W.ret1 rfl rfl ?_)
 (rw [if_neg oO, if_neg oO, if_neg oO, if_neg oO, if_pos aS] at hX; subst hX; exact ⟨rfl, hB36⟩)
 have h29' := dF h29
 refine W.sr <| WL.p (.eql rfl rfl) rfl <| WL.z rfl rfl ?_
 refine W.cond rfl (fun h37 => ?_) (fun h37 => ?_)
 have h37' := dT h37
 refine W.sr <| WL.p (.fa underlying28 rfl sizeOf9 dD rfl) rfl <| WL.r (Rd.ld (isAgg9 _) rfl hkb1 rfl) rfl <| WL.c1 hb44 rfl rfl ((r18_TextA s _ oO)) (fun w38 hw38 => ?_)
 have hB44 := btr hB9 hw38
 refine WL.z rfl rfl ?_
 refine W.ret (W.ret1 rfl rfl ?_)
 (rw [if_neg oO, if_neg oO, if_neg oO, if_neg oO, if_neg oO, if_pos aS] at hX; subst hX; exact ⟨rfl, hB44⟩)
 have h37' := dF h37
 refine W.sr <| WL.p (.eql rfl rfl) rfl <| WL.z rfl rfl ?_
 refine W.cond rfl (fun h45 => ?_) (fun h45 => ?_)
 have h45' := dT h45
 refine W.sr <| WL.p (.fa underlying28 rfl sizeOf3 dD rfl) rfl <| WL.r (Rd.ld (isAgg3 _) rfl hkb1 rfl) rfl <| WL.c1 hb18 rfl rfl ((ref_DecT i _ m8.1 m8.2)) (fun w46 hw46 => ?_)
 have hB52 := btr hB9 hw46
 refine WL.p (.cat rfl rfl (by have := decL_len i m8.1 m8.2; simp only [List.length_cons, List.length_nil]; omega)) rfl <| WL.z rfl rfl ?_
 refine W.ret (W.ret1 rfl rfl ?_)
 (rw [if_neg oO, if_neg oO, if_neg oO, if_neg oO, if_neg oO, if_neg oO, if_pos aS] at hX; subst hX; exact ⟨rfl, hB52⟩)
 have h45' := dF h45
 refine W.sr <| WL.p (.eql rfl rfl) rfl <| WL.z rfl rfl ?_
 refine W.cond rfl (fun h53 => ?_) (fun h53 => ?_)
 have h53' := dT h53
 rw [if_neg oO, if_neg oO, if_neg oO, if_neg oO, if_neg oO, if_neg oO, if_neg oO, if_pos aS] at hX
 have hall := hsub1 oO
 have hRl : R.length = 1 + ((prB list).drop 1).length + 1 := by rw [hX]; simp; omega
 refine W.sr <| WL.z rfl rfl ?_
 refine W.seq <| W.sr <| WL.z rfl rfl ?_
 refine W.block ?_
 refine W.loop (α := Nat) (fun t => [(1, .pointer (some ⟨b1, 0, none⟩)), (3, .string (bs (91 :: (prB (list.take t)).drop 1))), (4, .int .i64 (t : Int))]) (fun t w' => Below w.heap.size w w' ∧ Blk w' b1 #[.int .i64 k, .int .i64 i, .string (bs s), .slice kp keys.length kc, .slice lp cs.length lc, .slice dp data.length dc] 28 ∧ RowM acL w' lp cs ∧ AInv w' S cs list ∧ t ≤ cs.length) (fun t => cs.length - t) (0) ⟨rfl, rfl, rfl, trivial⟩ (⟨hB9, hkb1, hv5, hF2, Nat.zero_le _⟩) (fun t w1 hR => ?_)
 obtain ⟨i0, rfl⟩ : ∃ i, i = t := ⟨t, rfl⟩
 obtain ⟨hT1, hk1, hlx1, hf1, ht⟩ := hR
 refine W.seq <| W.sr <| WL.m rfl rfl <| WL.p (.fa underlying28 rfl sizeOf22 dD rfl) rfl <| WL.r (Rd.ld (isAgg22 _) rfl hk1 rfl) rfl <| WL.p (.lenS underlying22 rfl) rfl <| WL.p (.lss rfl rfl) rfl <| WL.nil <| ?_
 refine W.cond rfl (fun h54 => ?_) (fun h54 => ?_)
 have h54' := dT h54
 refine W.skip <| W.seq <| W.block <| W.seq <| W.seq ?_
 have hle := prO_le list i0 oO
 have hle2 := prB_take_le list i0 oO
 have hd1 := drop1_snoc list i0 oO
 refine W.reg <| WL.m rfl rfl <| WL.p (.gtr rfl rfl) rfl <| WL.nil <| ?_
 refine W.cond rfl (fun h55 => ?_) (fun h55 => ?_)
 have h55' := dT h55
 refine W.reg <| WL.m rfl rfl <| WL.p (.cat rfl rfl oL) rfl <| WL.z rfl rfl ?_
 refine W.reg <| WL.m rfl rfl <| WL.p (.fa underlying28 rfl sizeOf22 dD rfl) rfl <| WL.r (Rd.ld (isAgg22 _) rfl hk1 rfl) rfl <| WL.m rfl rfl <| WL.p (.ixm underlying22 sizeOf28 rfl rfl (hlx1.isp (by first | omega | (simp only [List.length_cons, List.length_nil]; omega))) (i0) (rfl) oO) rfl <| WL.r (Rd.ldS underlying28 rfl isz28 hlx1 (i0) (by first | omega | (simp only [List.length_cons, List.length_nil]; omega)) rfl) rfl <| WL.c1 hb19 rfl rfl ((ih (list[i0]'oO) (hsz i0 oO) _ S (D - 1) false _ ((hf1).sub i0 oO oO) (hall _ (List.getElem_mem _)) (by simp only [List.length_drop] at hRl; omega))) (fun w56 hw56 => ?_)
 have hF57 := AInv.same (w1 := w56) hf1 (fun k hk hl => hw56.block k hl)
 have hk58 := hk1.below hw56 hk1.lt
 have hv59 := RowM.below hlx1 hw56 (fun h0 => hlx1.lt h0)
 have hB60 := btr hT1 hw56
 refine WL.p (.cat rfl rfl oL) rfl <| WL.z rfl rfl ?_
 refine W.reg <| WL.m rfl rfl <| WL.p (.iis (((i0 + 1 : Nat) : Int)) (.add rfl rfl (i64w oO)) oO) rfl <| WL.z rfl rfl ?_
 exact ⟨i0 + 1, ⟨rfl, lk_s rfl (by rw [hd1, if_neg oO]; simp), rfl, trivial⟩, ⟨hB60, hk58, hv59, hF57, by ((try simp only) <;> omega)⟩, by ((try simp only) <;> omega)⟩
 have h55' := dF h55
 refine W.skip <| W.reg <| WL.m rfl rfl <| WL.p (.fa underlying28 rfl sizeOf22 dD rfl) rfl <| WL.r (Rd.ld (isAgg22 _) rfl hk1 rfl) rfl <| WL.m rfl rfl <| WL.p (.ixm underlying22 sizeOf28 rfl rfl (hlx1.isp (by first | omega | (simp only [List.length_cons, List.length_nil]; omega))) (i0) (rfl) oO) rfl <| WL.r (Rd.ldS underlying28 rfl isz28 hlx1 (i0) (by first | omega | (simp only [List.length_cons, List.length_nil]; omega)) rfl) rfl <| WL.c1 hb19 rfl rfl ((ih (list[i0]'oO) (hsz i0 oO) _ S (D - 1) false _ ((hf1).sub i0 oO oO) (hall _ (List.getElem_mem _)) (by simp only [List.length_drop] at hRl; omega))) (fun w61 hw61 => ?_)
 have hF62 := AInv.same (w1 := w61) hf1 (fun k hk hl => hw61.block k hl)
 have hk63 := hk1.below hw61 hk1.lt
 have hv64 := RowM.below hlx1 hw61 (fun h0 => hlx1.lt h0)
 have hB65 := btr hT1 hw61
 refine WL.p (.cat rfl rfl oL) rfl <| WL.z rfl rfl ?_
 refine W.reg <| WL.m rfl rfl <| WL.p (.iis (((i0 + 1 : Nat) : Int)) (.add rfl rfl (i64w oO)) oO) rfl <| WL.z rfl rfl ?_
 exact ⟨i0 + 1, ⟨rfl, lk_s rfl (by (obtain rfl : i0 = 0 := oO); rw [hd1, if_pos rfl]; simp [prB]), rfl, trivial⟩, ⟨hB65, hk63, hv64, hF62, by ((try simp only) <;> omega)⟩, by ((try simp only) <;> omega)⟩
 have h54' := dF h54
 refine W.exit <| W.seq ?_
 have hti : list.take i0 = list := List.take_of_length_le oO
 rw [hti]
 refine W.reg <| WL.m rfl rfl <| WL.p (.cat rfl rfl oL) rfl <| WL.z rfl rfl ?_
 refine W.ret (W.ret1 rfl rfl ?_)
 exact ⟨ret_val (by rw [hX]; rfl), hT1⟩
 have h53' := dF h53
 rw [if_neg oO, if_neg oO, if_neg oO, if_neg oO, if_neg oO, if_neg oO, if_neg oO, if_neg aS] at hX
 have hk79 : k = 7 ∨ k = 9 := by omega
 have hall := hsub1 oO
 have hkk := hkeys hk79
 have hRl : 2 + (prP keys list).length ≤ R.length := by rw [hX]; simp; omega
 refine W.skip <| W.sr <| WL.z rfl rfl ?_
 refine W.seq <| W.sr <| WL.z rfl rfl ?_
 refine W.block ?_
 refine W.loop (α := Nat) (fun t => [(1, .pointer (some ⟨b1, 0, none⟩)), (5, .string (bs (60 :: 60 :: prP (keys.take t) (list.take t)))), (6, .int .i64 (t : Int))]) (fun t w' => Below w.heap.size w w' ∧ Blk w' b1 #[.int .i64 k, .int .i64 i, .string (bs s), .slice kp keys.length kc, .slice lp cs.length lc, .slice dp data.length dc] 28 ∧ RowAt strV w' kp keys ∧ RowM acL w' lp cs ∧ BytesAt w' dp data ∧ AInv w' S cs list ∧ t ≤ cs.length) (fun t => cs.length - t) (0) ⟨rfl, rfl, rfl, trivial⟩ (⟨hB9, hkb1, hv3, hv5, hv7, hF2, Nat.zero_le _⟩) (fun t w1 hR => ?_)
 obtain ⟨i0, rfl⟩ : ∃ i, i = t := ⟨t, rfl⟩
 obtain ⟨hT1, hk1, hkx1, hlx1, hdx1, hf1, ht⟩ := hR
 have hkc : keys.length = cs.length := by omega
 refine W.seq <| W.sr <| WL.m rfl rfl <| WL.p (.fa underlying28 rfl sizeOf25 dD rfl) rfl <| WL.r (Rd.ld (isAgg25 _) rfl hk1 rfl) rfl <| WL.p (.lenS underlying25 rfl) rfl <| WL.p (.lss rfl rfl) rfl <| WL.nil <| ?_
 refine W.cond rfl (fun h66 => ?_) (fun h66 => ?_)
 have h66' := dT h66
 refine W.skip <| W.seq <| W.block ?_
 have hpt := prP_take keys list i0 oO oO
 have hple := prP_le keys list i0 oO oO
 have hpl := congrArg List.length hpt
 simp only [List.length_append, List.length_cons] at hpl
 have hnm127 := (hkk.2 _ (List.getElem_mem (show i0 < keys.length by omega))).2.2
 refine W.regY 18 rfl mixed (fun w67 dw67 => ?_)
 have hF68 := AInv.same (w1 := w67) hf1 (fun k hk hl => (by obtain ⟨m, rfl⟩ := dw67; rfl))
 have hk69 := hk1.drew dw67
 have hv70 := hkx1.drew dw67
 have hv71 := hlx1.drew dw67
 have hv72 := hdx1.drew dw67
 have hB73 := Drew.below hT1 dw67
 refine WY.tk 0 rfl (.mv rfl) rfl ?_
 refine WY.tk 1 rfl (.cat rfl rfl oL) rfl ?_
 refine WY.tk 2 rfl (.fa underlying28 rfl sizeOf25 dD rfl) rfl ?_
 refine WY.tk 4 rfl (.mv rfl) rfl ?_
 refine WY.tk 10 rfl (.fa underlying28 rfl sizeOf22 dD rfl) rfl ?_
 refine WY.tk 12 rfl (.mv rfl) rfl ?_
 refine WY.br2 3 rfl 11 rfl ?_ ?_
 refine WL.r (Rd.ld (isAgg25 _) rfl hk69 rfl) rfl <| WL.nil <| ?_
 refine WY.tk 5 rfl (.ixb underlying25 sizeOf9 rfl rfl (hv70.isp oO) (i0) (rfl) oO) rfl ?_
 refine WY.br2 6 rfl 11 rfl ?_ ?_
 refine WL.r (Rd.ldc (isAgg9 _) rfl (hv70.cells (i0) oO)) rfl <| WL.nil <| ?_
 refine WY.br2 7 rfl 11 rfl ?_ ?_
 refine WL.c1 hb43 rfl rfl ((r18_NameA (keys[i0]'oO) _ oO)) (fun w74 hw74 => ?_)
 have hF75 := AInv.same (w1 := w74) hF68 (fun k hk hl => (by obtain ⟨m, rfl⟩ := hw74; rfl))
 have hk76 := hk69.drew hw74
 have hv77 := hv70.drew hw74
 have hv78 := hv71.drew hw74
 have hv79 := hv72.drew hw74
 have hB80 := Drew.below hB73 hw74
 refine WL.nil <| ?_
 refine WY.tk 8 rfl (.cat rfl rfl oL) rfl ?_
 refine WY.tk 9 rfl (.cat rfl rfl oL) rfl ?_
 refine WY.br1 11 rfl ?_
 refine WL.r (Rd.ld (isAgg22 _) rfl hk76 rfl) rfl <| WL.nil <| ?_
 refine WY.tk 13 rfl (.ixm underlying22 sizeOf28 rfl rfl (hv78.isp (by first | omega | (simp only [List.length_cons, List.length_nil]; omega))) (i0) (rfl) oO) rfl ?_
 refine WY.br1 14 rfl ?_
 refine WL.r (Rd.ldS underlying28 rfl isz28 hv78 (i0) (by first | omega | (simp only [List.length_cons, List.length_nil]; omega)) rfl) rfl <| WL.nil <| ?_
 refine WY.br1 15 rfl ?_
 refine WL.c1 hb19 rfl rfl ((ih (list[i0]'oO) (hsz i0 oO) _ S (D - 1) false _ ((hF75).sub i0 oO oO) (hall _ (List.getElem_mem _)) oO)) (fun w81 hw81 => ?_)
 have hF82 := AInv.same (w1 := w81) hF75 (fun k hk hl => hw81.block k hl)
 have hk83 := hk76.below hw81 hk76.lt
 have hv84 := RowAt.below hv77 hw81 (fun h0 => hv77.lt h0)
 have hv85 := RowM.below hv78 hw81 (fun h0 => hv78.lt h0)
 have hv86 := BytesAt.below hv79 hw81 (fun h0 => hv79.lt h0)
 have hB87 := btr hB80 hw81
 refine WL.nil <| ?_
 refine WY.tk 16 rfl (.cat rfl rfl oL) rfl ?_
 refine WY.tk 17 rfl (.as rfl) rfl ?_
 refine WY.done kR ?_
 refine W.reg <| WL.m rfl rfl <| WL.p (.iis (((i0 + 1 : Nat) : Int)) (.add rfl rfl (i64w oO)) oO) rfl <| WL.z rfl rfl ?_
 exact ⟨i0 + 1, ⟨rfl, lk_s rfl (by rw [hpt]; simp), rfl, trivial⟩, ⟨hB87, hk83, hv84, hv85, hv86, hF82, by ((try simp only) <;> omega)⟩, by ((try simp only) <;> omega)⟩
 refine WL.r (Rd.ld (isAgg22 _) rfl hk69 rfl) rfl <| WL.nil <| ?_
 refine WY.tk 13 rfl (.ixm underlying22 sizeOf28 rfl rfl (hv71.isp (by first | omega | (simp only [List.length_cons, List.length_nil]; omega))) (i0) (rfl) oO) rfl ?_
 refine WY.br2 7 rfl 14 rfl ?_ ?_
 refine WL.c1 hb43 rfl rfl ((r18_NameA (keys[i0]'oO) _ oO)) (fun w88 hw88 => ?_)
 have hF89 := AInv.same (w1 := w88) hF68 (fun k hk hl => (by obtain ⟨m, rfl⟩ := hw88; rfl))
 have hk90 := hk69.drew hw88
 have hv91 := hv70.drew hw88
 have hv92 := hv71.drew hw88
 have hv93 := hv72.drew hw88
 have hB94 := Drew.below hB73 hw88
 refine WL.nil <| ?_
 refine WY.tk 8 rfl (.cat rfl rfl oL) rfl ?_
 refine WY.tk 9 rfl (.cat rfl rfl oL) rfl ?_
 refine WY.br1 14 rfl ?_
 refine WL.r (Rd.ldS underlying28 rfl isz28 hv92 (i0) (by first | omega | (simp only [List.length_cons, List.length_nil]; omega)) rfl) rfl <| WL.nil <| ?_
 refine WY.br1 15 rfl ?_
 refine WL.c1 hb19 rfl rfl ((ih (list[i0]'oO) (hsz i0 oO) _ S (D - 1) false _ ((hF89).sub i0 oO oO) (hall _ (List.getElem_mem _)) oO)) (fun w95 hw95 => ?_)
 have hF96 := AInv.same (w1 := w95) hF89 (fun k hk hl => hw95.block k hl)
 have hk97 := hk90.below hw95 hk90.lt
 have hv98 := RowAt.below hv91 hw95 (fun h0 => hv91.lt h0)
 have hv99 := RowM.below hv92 hw95 (fun h0 => hv92.lt h0)
 have hv100 := BytesAt.below hv93 hw95 (fun h0 => hv93.lt h0)
 have hB101 := btr hB94 hw95
 refine WL.nil <| ?_
 refine WY.tk 16 rfl (.cat rfl rfl oL) rfl ?_
 refine WY.tk 17 rfl (.as rfl) rfl ?_
 refine WY.done kR ?_
 refine W.reg <| WL.m rfl rfl <| WL.p (.iis (((i0 + 1 : Nat) : Int)) (.add rfl rfl (i64w oO)) oO) rfl <| WL.z rfl rfl ?_
 exact ⟨i0 + 1, ⟨rfl, lk_s rfl (by rw [hpt]; simp), rfl, trivial⟩, ⟨hB101, hk97, hv98, hv99, hv100, hF96, by ((try simp only) <;> omega)⟩, by ((try simp only) <;> omega)⟩
 refine WL.r (Rd.ldS underlying28 rfl isz28 hv71 (i0) (by first | omega | (simp only [List.length_cons, List.length_nil]; omega)) rfl) rfl <| WL.nil <| ?_
 refine WY.br1 7 rfl ?_
 refine WL.c1 hb43 rfl rfl ((r18_NameA (keys[i0]'oO) _ oO)) (fun w102 hw102 => ?_)
 have hF103 := AInv.same (w1 := w102) hF68 (fun k hk hl => (by obtain ⟨m, rfl⟩ := hw102; rfl))
 have hk104 := hk69.drew hw102
 have hv105 := hv70.drew hw102
 have hv106 := hv71.drew hw102
 have hv107 := hv72.drew hw102
 have hB108 := Drew.below hB73 hw102
 refine WL.nil <| ?_
 refine WY.tk 8 rfl (.cat rfl rfl oL) rfl ?_
 refine WY.tk 9 rfl (.cat rfl rfl oL) rfl ?_
 refine WY.br1 15 rfl ?_
 refine WL.c1 hb19 rfl rfl ((ih (list[i0]'oO) (hsz i0 oO) _ S (D - 1) false _ ((hF103).sub i0 oO oO) (hall _ (List.getElem_mem _)) oO)) (fun w109 hw109 => ?_)
 have hF110 := AInv.same (w1 := w109) hF103 (fun k hk hl => hw109.block k hl)
 have hk111 := hk104.below hw109 hk104.lt
 have hv112 := RowAt.below hv105 hw109 (fun h0 => hv105.lt h0)
 have hv113 := RowM.below hv106 hw109 (fun h0 => hv106.lt h0)
 have hv114 := BytesAt.below hv107 hw109 (fun h0 => hv107.lt h0)
 have hB115 := btr hB108 hw109
 refine WL.nil <| ?_
 refine WY.tk 16 rfl (.cat rfl rfl oL) rfl ?_
 refine WY.tk 17 rfl (.as rfl) rfl ?_
 refine WY.done kR ?_
 refine W.reg <| WL.m rfl rfl <| WL.p (.iis (((i0 + 1 : Nat) : Int)) (.add rfl rfl (i64w oO)) oO) rfl <| WL.z rfl rfl ?_
 exact ⟨i0 + 1, ⟨rfl, lk_s rfl (by rw [hpt]; simp), rfl, trivial⟩, ⟨hB115, hk111, hv112, hv113, hv114, hF110, by ((try simp only) <;> omega)⟩, by ((try simp only) <;> omega)⟩
 refine WL.r (Rd.ld (isAgg22 _) rfl hk69 rfl) rfl <| WL.nil <| ?_
 refine WY.tk 13 rfl (.ixm underlying22 sizeOf28 rfl rfl (hv71.isp (by first | omega | (simp only [List.length_cons, List.length_nil]; omega))) (i0) (rfl) oO) rfl ?_
 refine WY.br2 6 rfl 14 rfl ?_ ?_
 refine WL.r (Rd.ldc (isAgg9 _) rfl (hv70.cells (i0) oO)) rfl <| WL.nil <| ?_
 refine WY.br2 7 rfl 14 rfl ?_ ?_
 refine WL.c1 hb43 rfl rfl ((r18_NameA (keys[i0]'oO) _ oO)) (fun w116 hw116 => ?_)
 have hF117 := AInv.same (w1 := w116) hF68 (fun k hk hl => (by obtain ⟨m, rfl⟩ := hw116; rfl))
 have hk118 := hk69.drew hw116
 have hv119 := hv70.drew hw116
 have hv120 := hv71.drew hw116
 have hv121 := hv72.drew hw116
 have hB122 := Drew.below hB73 hw116
 refine WL.nil <| ?_
 refine WY.tk 8 rfl (.cat rfl rfl oL) rfl ?_
 refine WY.tk 9 rfl (.cat rfl rfl oL) rfl ?_
 refine WY.br1 14 rfl ?_
 refine WL.r (Rd.ldS underlying28 rfl isz28 hv120 (i0) (by first | omega | (simp only [List.length_cons, List.length_nil]; omega)) rfl) rfl <| WL.nil <| ?_
 refine WY.br1 15 rfl ?_
 refine WL.c1 hb19 rfl rfl ((ih (list[i0]'oO) (hsz i0 oO) _ S (D - 1) false _ ((hF117).sub i0 oO oO) (hall _ (List.getElem_mem _)) oO)) (fun w123 hw123 => ?_)
 have hF124 := AInv.same (w1 := w123) hF117 (fun k hk hl => hw123.block k hl)
 have hk125 := hk118.below hw123 hk118.lt
 have hv126 := RowAt.below hv119 hw123 (fun h0 => hv119.lt h0)
 have hv127 := RowM.below hv120 hw123 (fun h0 => hv120.lt h0)
 have hv128 := BytesAt.below hv121 hw123 (fun h0 => hv121.lt h0)
 have hB129 := btr hB122 hw123
 refine WL.nil <| ?_
 refine WY.tk 16 rfl (.cat rfl rfl oL) rfl ?_
 refine WY.tk 17 rfl (.as rfl) rfl ?_
 refine WY.done kR ?_
 refine W.reg <| WL.m rfl rfl <| WL.p (.iis (((i0 + 1 : Nat) : Int)) (.add rfl rfl (i64w oO)) oO) rfl <| WL.z rfl rfl ?_
 exact ⟨i0 + 1, ⟨rfl, lk_s rfl (by rw [hpt]; simp), rfl, trivial⟩, ⟨hB129, hk125, hv126, hv127, hv128, hF124, by ((try simp only) <;> omega)⟩, by ((try simp only) <;> omega)⟩
 refine WL.r (Rd.ldS underlying28 rfl isz28 hv71 (i0) (by first | omega | (simp only [List.length_cons, List.length_nil]; omega)) rfl) rfl <| WL.nil <| ?_
 refine WY.br1 7 rfl ?_
 refine WL.c1 hb43 rfl rfl ((r18_NameA (keys[i0]'oO) _ oO)) (fun w130 hw130 => ?_)
 have hF131 := AInv.same (w1 := w130) hF68 (fun k hk hl => (by obtain ⟨m, rfl⟩ := hw130; rfl))
 have hk132 := hk69.drew hw130
 have hv133 := hv70.drew hw130
 have hv134 := hv71.drew hw130
 have hv135 := hv72.drew hw130
 have hB136 := Drew.below hB73 hw130
 refine WL.nil <| ?_
 refine WY.tk 8 rfl (.cat rfl rfl oL) rfl ?_
 refine WY.tk 9 rfl (.cat rfl rfl oL) rfl ?_
 refine WY.br1 15 rfl ?_
 refine WL.c1 hb19 rfl rfl ((ih (list[i0]'oO) (hsz i0 oO) _ S (D - 1) false _ ((hF131).sub i0 oO oO) (hall _ (List.getElem_mem _)) oO)) (fun w137 hw137 => ?_)
 have hF138 := AInv.same (w1 := w137) hF131 (fun k hk hl => hw137.block k hl)
 have hk139 := hk132.below hw137 hk132.lt
 have hv140 := RowAt.below hv133 hw137 (fun h0 => hv133.lt h0)
 have hv141 := RowM.below hv134 hw137 (fun h0 => hv134.lt h0)
 have hv142 := BytesAt.below hv135 hw137 (fun h0 => hv135.lt h0)
 have hB143 := btr hB136 hw137
 refine WL.nil <| ?_
 refine WY.tk 16 rfl (.cat rfl rfl oL) rfl ?_
 refine WY.tk 17 rfl (.as rfl) rfl ?_
 refine WY.done kR ?_
 refine W.reg <| WL.m rfl rfl <| WL.p (.iis (((i0 + 1 : Nat) : Int)) (.add rfl rfl (i64w oO)) oO) rfl <| WL.z rfl rfl ?_
 exact ⟨i0 + 1, ⟨rfl, lk_s rfl (by rw [hpt]; simp), rfl, trivial⟩, ⟨hB143, hk139, hv140, hv141, hv142, hF138, by ((try simp only) <;> omega)⟩, by ((try simp only) <;> omega)⟩
 refine WL.r (Rd.ldS underlying28 rfl isz28 hv71 (i0) (by first | omega | (simp only [List.length_cons, List.length_nil]; omega)) rfl) rfl <| WL.nil <| ?_
 refine WY.br1 6 rfl ?_
 refine WL.r (Rd.ldc (isAgg9 _) rfl (hv70.cells (i0) oO)) rfl <| WL.nil <| ?_
 refine WY.br1 7 rfl ?_
 refine WL.c1 hb43 rfl rfl ((r18_NameA (keys[i0]'oO) _ oO)) (fun w144 hw144 => ?_)
 have hF145 := AInv.same (w1 := w144) hF68 (fun k hk hl => (by obtain ⟨m, rfl⟩ := hw144; rfl))
 have hk146 := hk69.drew hw144
 have hv147 := hv70.drew hw144
 have hv148 := hv71.drew hw144
 have hv149 := hv72.drew hw144
 have hB150 := Drew.below hB73 hw144
 refine WL.nil <| ?_
 refine WY.tk 8 rfl (.cat rfl rfl oL) rfl ?_
 refine WY.tk 9 rfl (.cat rfl rfl oL) rfl ?_
 refine WY.br1 15 rfl ?_
 refine WL.c1 hb19 rfl rfl ((ih (list[i0]'oO) (hsz i0 oO) _ S (D - 1) false _ ((hF145).sub i0 oO oO) (hall _ (List.getElem_mem _)) oO)) (fun w151 hw151 => ?_)
 have hF152 := AInv.same (w1 := w151) hF145 (fun k hk hl => hw151.block k hl)
 have hk153 := hk146.below hw151 hk146.lt
 have hv154 := RowAt.below hv147 hw151 (fun h0 => hv147.lt h0)
 have hv155 := RowM.below hv148 hw151 (fun h0 => hv148.lt h0)
 have hv156 := BytesAt.below hv149 hw151 (fun h0 => hv149.lt h0)
 have hB157 := btr hB150 hw151
 refine WL.nil <| ?_
 refine WY.tk 16 rfl (.cat rfl rfl oL) rfl ?_
 refine WY.tk 17 rfl (.as rfl) rfl ?_
 refine WY.done kR ?_
 refine W.reg <| WL.m rfl rfl <| WL.p (.iis (((i0 + 1 : Nat) : Int)) (.add rfl rfl (i64w oO)) oO) rfl <| WL.z rfl rfl ?_
 exact ⟨i0 + 1, ⟨rfl, lk_s rfl (by rw [hpt]; simp), rfl, trivial⟩, ⟨hB157, hk153, hv154, hv155, hv156, hF152, by ((try simp only) <;> omega)⟩, by ((try simp only) <;> omega)⟩
 refine WL.r (Rd.ld (isAgg22 _) rfl hk69 rfl) rfl <| WL.nil <| ?_
 refine WY.tk 13 rfl (.ixm underlying22 sizeOf28 rfl rfl (hv71.isp (by first | omega | (simp only [List.length_cons, List.length_nil]; omega))) (i0) (rfl) oO) rfl ?_
 refine WY.br2 3 rfl 14 rfl ?_ ?_
 refine WL.r (Rd.ld (isAgg25 _) rfl hk69 rfl) rfl <| WL.nil <| ?_
 refine WY.tk 5 rfl (.ixb underlying25 sizeOf9 rfl rfl (hv70.isp oO) (i0) (rfl) oO) rfl ?_
 refine WY.br2 6 rfl 14 rfl ?_ ?_
 refine WL.r (Rd.ldc (isAgg9 _) rfl (hv70.cells (i0) oO)) rfl <| WL.nil <| ?_
 refine WY.br2 7 rfl 14 rfl ?_ ?_
 refine WL.c1 hb43 rfl rfl ((r18_NameA (keys[i0]'oO) _ oO)) (fun w158 hw158 => ?_)
 have hF159 := AInv.same (w1 := w158) hF68 (fun k hk hl => (by obtain ⟨m, rfl⟩ := hw158; rfl))
 have hk160 := hk69.drew hw158
 have hv161 := hv70.drew hw158
 have hv162 := hv71.drew hw158
 have hv163 := hv72.drew hw158
 have hB164 := Drew.below hB73 hw158
 refine WL.nil <| ?_
 refine WY.tk 8 rfl (.cat rfl rfl oL) rfl ?_
 refine WY.tk 9 rfl (.cat rfl rfl oL) rfl ?_
 refine WY.br1 14 rfl ?_
 refine WL.r (Rd.ldS underlying28 rfl isz28 hv162 (i0) (by first | omega | (simp only [List.length_cons, List.length_nil]; omega)) rfl) rfl <| WL.nil <| ?_
 refine WY.br1 15 rfl ?_
 refine WL.c1 hb19 rfl rfl ((ih (list[i0]'oO) (hsz i0 oO) _ S (D - 1) false _ ((hF159).sub i0 oO oO) (hall _ (List.getElem_mem _)) oO)) (fun w165 hw165 => ?_)
 have hF166 := AInv.same (w1 := w165) hF159 (fun k hk hl => hw165.block k hl)
 have hk167 := hk160.below hw165 hk160.lt
 have hv168 := RowAt.below hv161 hw165 (fun h0 => hv161.lt h0)
 have hv169 := RowM.below hv162 hw165 (fun h0 => hv162.lt h0)
 have hv170 := BytesAt.below hv163 hw165 (fun h0 => hv163.lt h0)
 have hB171 := btr hB164 hw165
 refine WL.nil <| ?_
 refine WY.tk 16 rfl (.cat rfl rfl oL) rfl ?_
 refine WY.tk 17 rfl (.as rfl) rfl ?_
 refine WY.done kR ?_
 refine W.reg <| WL.m rfl rfl <| WL.p (.iis (((i0 + 1 : Nat) : Int)) (.add rfl rfl (i64w oO)) oO) rfl <| WL.z rfl rfl ?_
 exact ⟨i0 + 1, ⟨rfl, lk_s rfl (by rw [hpt]; simp), rfl, trivial⟩, ⟨hB171, hk167, hv168, hv169, hv170, hF166, by ((try simp only) <;> omega)⟩, by ((try simp only) <;> omega)⟩
 refine WL.r (Rd.ldS underlying28 rfl isz28 hv71 (i0) (by first | omega | (simp only [List.length_cons, List.length_nil]; omega)) rfl) rfl <| WL.nil <| ?_
 refine WY.br1 7 rfl ?_
 refine WL.c1 hb43 rfl rfl ((r18_NameA (keys[i0]'oO) _ oO)) (fun w172 hw172 => ?_)
 have hF173 := AInv.same (w1 := w172) hF68 (fun k hk hl => (by obtain ⟨m, rfl⟩ := hw172; rfl))
 have hk174 := hk69.drew hw172
 have hv175 := hv70.drew hw172
 have hv176 := hv71.drew hw172
 have hv177 := hv72.drew hw172
 have hB178 := Drew.below hB73 hw172
 refine WL.nil <| ?_
 refine WY.tk 8 rfl (.cat rfl rfl oL) rfl ?_
 refine WY.tk 9 rfl (.cat rfl rfl oL) rfl ?_
 refine WY.br1 15 rfl ?_
 refine WL.c1 hb19 rfl rfl ((ih (list[i0]'oO) (hsz i0 oO) _ S (D - 1) false _ ((hF173).sub i0 oO oO) (hall _ (List.getElem_mem _)) oO)) (fun w179 hw179 => ?_)
 have hF180 := AInv.same (w1 := w179) hF173 (fun k hk hl => hw179.block k hl)
 have hk181 := hk174.below hw179 hk174.lt
 have hv182 := RowAt.below hv175 hw179 (fun h0 => hv175.lt h0)
 have hv183 := RowM.below hv176 hw179 (fun h0 => hv176.lt h0)
 have hv184 := BytesAt.below hv177 hw179 (fun h0 => hv177.lt h0)
 have hB185 := btr hB178 hw179
 refine WL.nil <| ?_
 refine WY.tk 16 rfl (.cat rfl rfl oL) rfl ?_
 refine WY.tk 17 rfl (.as rfl) rfl ?_
 refine WY.done kR ?_
 refine W.reg <| WL.m rfl rfl <| WL.p (.iis (((i0 + 1 : Nat) : Int)) (.add rfl rfl (i64w oO)) oO) rfl <| WL.z rfl rfl ?_
 exact ⟨i0 + 1, ⟨rfl, lk_s rfl (by rw [hpt]; simp), rfl, trivial⟩, ⟨hB185, hk181, hv182, hv183, hv184, hF180, by ((try simp only) <;> omega)⟩, by ((try simp only) <;> omega)⟩
 refine WL.r (Rd.ldS underlying28 rfl isz28 hv71 (i0) (by first | omega | (simp only [List.length_cons, List.length_nil]; omega)) rfl) rfl <| WL.nil <| ?_
 refine WY.br1 6 rfl ?_
 refine WL.r (Rd.ldc (isAgg9 _) rfl (hv70.cells (i0) oO)) rfl <| WL.nil <| ?_
 refine WY.br1 7 rfl ?_
 refine WL.c1 hb43 rfl rfl ((r18_NameA (keys[i0]'oO) _ oO)) (fun w186 hw186 => ?_)
 have hF187 := AInv.same (w1 := w186) hF68 (fun k hk hl => (by obtain ⟨m, rfl⟩ := hw186; rfl))
 have hk188 := hk69.drew hw186
 have hv189 := hv70.drew hw186
 have hv190 := hv71.drew hw186
 have hv191 := hv72.drew hw186
 have hB192 := Drew.below hB73 hw186
 refine WL.nil <| ?_
 refine WY.tk 8 rfl (.cat rfl rfl oL) rfl ?_
 refine WY.tk 9 rfl (.cat rfl rfl oL) rfl ?_
 refine WY.br1 15 rfl ?_
 refine WL.c1 hb19 rfl rfl ((ih (list[i0]'oO) (hsz i0 oO) _ S (D - 1) false _ ((hF187).sub i0 oO oO) (hall _ (List.getElem_mem _)) oO)) (fun w193 hw193 => ?_)
 have hF194 := AInv.same (w1 := w193) hF187 (fun k hk hl => hw193.block k hl)
 have hk195 := hk188.below hw193 hk188.lt
 have hv196 := RowAt.below hv189 hw193 (fun h0 => hv189.lt h0)
 have hv197 := RowM.below hv190 hw193 (fun h0 => hv190.lt h0)
 have hv198 := BytesAt.below hv191 hw193 (fun h0 => hv191.lt h0)
 have hB199 := btr hB192 hw193
 refine WL.nil <| ?_
 refine WY.tk 16 rfl (.cat rfl rfl oL) rfl ?_
 refine WY.tk 17 rfl (.as rfl) rfl ?_
 refine WY.done kR ?_
 refine W.reg <| WL.m rfl rfl <| WL.p (.iis (((i0 + 1 : Nat) : Int)) (.add rfl rfl (i64w oO)) oO) rfl <| WL.z rfl rfl ?_
 exact ⟨i0 + 1, ⟨rfl, lk_s rfl (by rw [hpt]; simp), rfl, trivial⟩, ⟨hB199, hk195, hv196, hv197, hv198, hF194, by ((try simp only) <;> omega)⟩, by ((try simp only) <;> omega)⟩
 refine WL.r (Rd.ldS underlying28 rfl isz28 hv71 (i0) (by first | omega | (simp only [List.length_cons, List.length_nil]; omega)) rfl) rfl <| WL.nil <| ?_
 refine WY.br1 3 rfl ?_
 refine WL.r (Rd.ld (isAgg25 _) rfl hk69 rfl) rfl <| WL.nil <| ?_
 refine WY.tk 5 rfl (.ixb underlying25 sizeOf9 rfl rfl (hv70.isp oO) (i0) (rfl) oO) rfl ?_
 refine WY.br1 6 rfl ?_
 refine WL.r (Rd.ldc (isAgg9 _) rfl (hv70.cells (i0) oO)) rfl <| WL.nil <| ?_
 refine WY.br1 7 rfl ?_
 refine WL.c1 hb43 rfl rfl ((r18_NameA (keys[i0]'oO) _ oO)) (fun w200 hw200 => ?_)
 have hF201 := AInv.same (w1 := w200) hF68 (fun k hk hl => (by obtain ⟨m, rfl⟩ := hw200; rfl))
 have hk202 := hk69.drew hw200
 have hv203 := hv70.drew hw200
 have hv204 := hv71.drew hw200
 have hv205 := hv72.drew hw200
 have hB206 := Drew.below hB73 hw200
 refine WL.nil <| ?_
 refine WY.tk 8 rfl (.cat rfl rfl oL) rfl ?_
 refine WY.tk 9 rfl (.cat rfl rfl oL) rfl ?_
 refine WY.br1 15 rfl ?_
 refine WL.c1 hb19 rfl rfl ((ih (list[i0]'oO) (hsz i0 oO) _ S (D - 1) false _ ((hF201).sub i0 oO oO) (hall _ (List.getElem_mem _)) oO)) (fun w207 hw207 => ?_)
 have hF208 := AInv.same (w1 := w207) hF201 (fun k hk hl => hw207.block k hl)
 have hk209 := hk202.below hw207 hk202.lt
 have hv210 := RowAt.below hv203 hw207 (fun h0 => hv203.lt h0)
 have hv211 := RowM.below hv204 hw207 (fun h0 => hv204.lt h0)
 have hv212 := BytesAt.below hv205 hw207 (fun h0 => hv205.lt h0)
 have hB213 := btr hB206 hw207
 refine WL.nil <| ?_
 refine WY.tk 16 rfl (.cat rfl rfl oL) rfl ?_
 refine WY.tk 17 rfl (.as rfl) rfl ?_
 refine WY.done kR ?_
 refine W.reg <| WL.m rfl rfl <| WL.p (.iis (((i0 + 1 : Nat) : Int)) (.add rfl rfl (i64w oO)) oO) rfl <| WL.z rfl rfl ?_
 exact ⟨i0 + 1, ⟨rfl, lk_s rfl (by rw [hpt]; simp), rfl, trivial⟩, ⟨hB213, hk209, hv210, hv211, hv212, hF208, by ((try simp only) <;> omega)⟩, by ((try simp only) <;> omega)⟩
 have h66' := dF h66
 refine W.exit <| W.seq <| W.seq ?_
 have hti : list.take i0 = list := List.take_of_length_le oO
 have hti2 : keys.take i0 = keys := List.take_of_length_le oO
 rw [hti, hti2]
 refine W.reg <| WL.p (.fa underlying28 rfl sizeOf3 dD rfl) rfl <| WL.r (Rd.ld (isAgg3 _) rfl hk1 rfl) rfl <| WL.p (.eql rfl rfl) rfl <| WL.nil <| ?_
 refine W.cond rfl (fun h214 => ?_) (fun h214 => ?_)
 have h214' := dT h214
 refine W.sr <| WL.m rfl rfl <| WL.p (.cat rfl rfl oL) rfl <| WL.z rfl rfl ?_
 refine W.ret (W.ret1 rfl rfl ?_)
 (rw [if_pos aS] at hX; subst hX; exact ⟨rfl, hT1⟩)
 have h214' := dF h214
 refine W.skip <| W.seq ?_
 have hdl := decL_len (data.length : Int) oO oO
 refine W.regY 14 rfl mixed (fun w215 dw215 => ?_)
 have hk217 := hk1.drew dw215
 have hv220 := hdx1.drew dw215
 have hB221 := Drew.below hT1 dw215
 refine WY.tk 0 rfl (.mv rfl) rfl ?_
 refine WY.tk 1 rfl (.cat rfl rfl oL) rfl ?_
 refine WY.tk 2 rfl (.fa underlying28 rfl sizeOf26 dD rfl) rfl ?_
 refine WY.tk 8 rfl (.fa underlying28 rfl sizeOf26 dD rfl) rfl ?_
 refine WY.br2 3 rfl 9 rfl ?_ ?_
 refine WL.r (Rd.ld (isAgg26 _) rfl hk217 rfl) rfl <| WL.nil <| ?_
 refine WY.tk 4 rfl (.lenS underlying26 rfl) rfl ?_
 refine WY.br2 5 rfl 9 rfl ?_ ?_
 refine WL.c1 hb18 rfl rfl ((ref_DecT _ _ oO oO)) (fun w222 hw222 => ?_)
 have hk224 := hk217.below hw222 hk217.lt
 have hv227 := BytesAt.below hv220 hw222 (fun h0 => hv220.lt h0)
 have hB228 := btr hB221 hw222
 refine WL.nil <| ?_
 refine WY.tk 6 rfl (.cat rfl rfl oL) rfl ?_
 refine WY.tk 7 rfl (.cat rfl rfl oL) rfl ?_
 refine WY.br1 9 rfl ?_
 refine WL.r (Rd.ld (isAgg26 _) rfl hk224 rfl) rfl <| WL.nil <| ?_
 refine WY.br1 10 rfl ?_
 refine WL.r (Rd.b2s (l := data) underlying26 underlying5 underlying9 rfl (hv227)) rfl <| WL.nil <| ?_
 refine WY.tk 11 rfl (.cat rfl rfl oL) rfl ?_
 refine WY.tk 12 rfl (.cat rfl rfl oL) rfl ?_
 refine WY.tk 13 rfl (.as rfl) rfl ?_
 refine WY.done kR ?_
 refine W.ret (W.ret1 rfl rfl ?_)
 exact ⟨ret_val (by rw [hX, if_neg aS]; simp [strmE]), hB228⟩
 refine WL.r (Rd.ld (isAgg26 _) rfl hk217 rfl) rfl <| WL.nil <| ?_
 refine WY.br2 5 rfl 10 rfl ?_ ?_
 refine WL.c1 hb18 rfl rfl ((ref_DecT _ _ oO oO)) (fun w229 hw229 => ?_)
 have hv234 := BytesAt.below hv220 hw229 (fun h0 => hv220.lt h0)
 have hB235 := btr hB221 hw229
 refine WL.nil <| ?_
 refine WY.tk 6 rfl (.cat rfl rfl oL) rfl ?_
 refine WY.tk 7 rfl (.cat rfl rfl oL) rfl ?_
 refine WY.br1 10 rfl ?_
 refine WL.r (Rd.b2s (l := data) underlying26 underlying5 underlying9 rfl (hv234)) rfl <| WL.nil <| ?_
 refine WY.tk 11 rfl (.cat rfl rfl oL) rfl ?_
 refine WY.tk 12 rfl (.cat rfl rfl oL) rfl ?_
 refine WY.tk 13 rfl (.as rfl) rfl ?_
 refine WY.done kR ?_
 refine W.ret (W.ret1 rfl rfl ?_)
 exact ⟨ret_val (by rw [hX, if_neg aS]; simp [strmE]), hB235⟩
 refine WL.r (Rd.b2s (l := data) underlying26 underlying5 underlying9 rfl (hv220)) rfl <| WL.nil <| ?_
 refine WY.br1 5 rfl ?_
 refine WL.c1 hb18 rfl rfl ((ref_DecT _ _ oO oO)) (fun w236 hw236 => ?_)
 have hB242 := btr hB221 hw236
 refine WL.nil <| ?_
 refine WY.tk 6 rfl (.cat rfl rfl oL) rfl ?_
 refine WY.tk 7 rfl (.cat rfl rfl oL) rfl ?_
 refine WY.tk 11 rfl (.cat rfl rfl oL) rfl ?_
 refine WY.tk 12 rfl (.cat rfl rfl oL) rfl ?_
 refine WY.tk 13 rfl (.as rfl) rfl ?_
 refine WY.done kR ?_
 refine W.ret (W.ret1 rfl rfl ?_)
 exact ⟨ret_val (by rw [hX, if_neg aS]; simp [strmE]), hB242⟩
 refine WL.r (Rd.ld (isAgg26 _) rfl hk217 rfl) rfl <| WL.nil <| ?_
 refine WY.br2 3 rfl 10 rfl ?_ ?_
 refine WL.r (Rd.ld (isAgg26 _) rfl hk217 rfl) rfl <| WL.nil <| ?_
 refine WY.tk 4 rfl (.lenS underlying26 rfl) rfl ?_
 refine WY.br2 5 rfl 10 rfl ?_ ?_
 refine WL.c1 hb18 rfl rfl ((ref_DecT _ _ oO oO)) (fun w243 hw243 => ?_)
 have hv248 := BytesAt.below hv220 hw243 (fun h0 => hv220.lt h0)
 have hB249 := btr hB221 hw243
 refine WL.nil <| ?_
 refine WY.tk 6 rfl (.cat rfl rfl oL) rfl ?_
 refine WY.tk 7 rfl (.cat rfl rfl oL) rfl ?_
 refine WY.br1 10 rfl ?_
 refine WL.r (Rd.b2s (l := data) underlying26 underlying5 underlying9 rfl (hv248)) rfl <| WL.nil <| ?_
 refine WY.tk 11 rfl (.cat rfl rfl oL) rfl ?_
 refine WY.tk 12 rfl (.cat rfl rfl oL) rfl ?_
 refine WY.tk 13 rfl (.as rfl) rfl ?_
 refine WY.done kR ?_
 refine W.ret (W.ret1 rfl rfl ?_)
 exact ⟨ret_val (by rw [hX, if_neg aS]; simp [strmE]), hB249⟩
 refine WL.r (Rd.b2s (l := data) underlying26 underlying5 underlying9 rfl (hv220)) rfl <| WL.nil <| ?_
 refine WY.br1 5 rfl ?_
 refine WL.c1 hb18 rfl rfl ((ref_DecT _ _ oO oO)) (fun w250 hw250 => ?_)
 have hB256 := btr hB221 hw250
 refine WL.nil <| ?_
 refine WY.tk 6 rfl (.cat rfl rfl oL) rfl ?_
 refine WY.tk 7 rfl (.cat rfl rfl oL) rfl ?_
 refine WY.tk 11 rfl (.cat rfl rfl oL) rfl ?_
 refine WY.tk 12 rfl (.cat rfl rfl oL) rfl ?_
 refine WY.tk 13 rfl (.as rfl) rfl ?_
 refine WY.done kR ?_
 refine W.ret (W.ret1 rfl rfl ?_)
 exact ⟨ret_val (by rw [hX, if_neg aS]; simp [strmE]), hB256⟩
 refine WL.r (Rd.b2s (l := data) underlying26 underlying5 underlying9 rfl (hv220)) rfl <| WL.nil <| ?_
 refine WY.br1 3 rfl ?_
 refine WL.r (Rd.ld (isAgg26 _) rfl hk217 rfl) rfl <| WL.nil <| ?_
 refine WY.tk 4 rfl (.lenS underlying26 rfl) rfl ?_
 refine WY.br1 5 rfl ?_
 refine WL.c1 hb18 rfl rfl ((ref_DecT _ _ oO oO)) (fun w257 hw257 => ?_)
 have hB263 := btr hB221 hw257
 refine WL.nil <| ?_
 refine WY.tk 6 rfl (.cat rfl rfl oL) rfl ?_
 refine WY.tk 7 rfl (.cat rfl rfl oL) rfl ?_
 refine WY.tk 11 rfl (.cat rfl rfl oL) rfl ?_
 refine WY.tk 12 rfl (.cat rfl rfl oL) rfl ?_
 refine WY.tk 13 rfl (.as rfl) rfl ?_
 refine WY.done kR ?_
 refine W.ret (W.ret1 rfl rfl ?_)
 exact ⟨ret_val (by rw [hX, if_neg aS]; simp [strmE]), hB263⟩
theorem r01_SameA (p : Option Addr) (l : List UInt8) (c : Nat) (q : Option Addr) (d : Nat) (w : World) (ha : BytesAt w p l) (hb : BytesAt w q l) (hl : l.length ≤ 9223372036854775807) :
  Calls Tryz.prog 38 #[.slice p l.length c, .slice q l.length d] w fun e w' => e = .returned (.bool true) ∧ Drew w w' := by
 refine W.enter func38 rfl ntmps38 (Nat.le_of_ble_eq_true rfl) ?_
 refine W.sr <| WL.z rfl rfl ?_
 refine W.seq <| W.sr <| WL.m rfl rfl <| WL.p (.lenS underlying26 rfl) rfl <| WL.m rfl rfl <| WL.p (.lenS underlying26 rfl) rfl <| WL.p (.neq rfl rfl) rfl <| WL.nil <| ?_
 refine W.cond rfl (fun h1 => ?_) (fun h1 => ?_)
 have h1' := ndT h1
 omega
 have h1' := ndF h1
 refine W.skip <| W.seq <| W.sr <| WL.z rfl rfl ?_
 refine W.block ?_
 refine W.loop (α := Nat) (fun t => [(0, .slice p l.length c), (1, .slice q l.length d), (5, .int .i64 (t : Int))]) (fun t w' => Drew w w' ∧ t ≤ l.length) (fun t => l.length - t) (0) ⟨rfl, rfl, rfl, trivial⟩ (⟨Drew.refl _, Nat.zero_le _⟩) (fun t w1 hR => ?_)
 obtain ⟨hD, ht⟩ := hR
 have ha1 := ha.drew hD
 have hb1 := hb.drew hD
 refine W.seq <| W.sr <| WL.m rfl rfl <| WL.m rfl rfl <| WL.p (.lenS underlying26 rfl) rfl <| WL.p (.lss rfl rfl) rfl <| WL.nil <| ?_
 refine W.cond rfl (fun h2 => ?_) (fun h2 => ?_)
 have h2' := dT h2
 refine W.skip <| W.seq <| W.block <| W.seq <| W.regQ mixed kR ?_
 refine WQ.p (.mv rfl) rfl <| WQ.p (.mv rfl) rfl <| WQ.p (.ixb underlying26 sizeOf5 rfl rfl (ha1.isp oO) (t) oO oO) rfl <| WQ.r (fun m => Rd.ldc (isAgg5 _) rfl ((ha1.drewN m).cells (t) oO)) rfl <| WQ.p (.mv rfl) rfl <| WQ.p (.mv rfl) rfl <| WQ.p (.ixb underlying26 sizeOf5 rfl rfl (hb1.isp oO) (t) oO oO) rfl <| WQ.r (fun m => Rd.ldc (isAgg5 _) rfl ((hb1.drewN m).cells (t) oO)) rfl <| WQ.p (.neq rfl rfl) rfl <| WQ.nil (fun w3 dw3 => ?_)
 refine W.cond rfl (fun h6 => ?_) (fun h6 => ?_)
 have h6' := ndT h6
 contradiction
 have h6' := ndF h6
 refine W.skip <| W.reg <| WL.m rfl rfl <| WL.p (.iis (((t + 1 : Nat) : Int)) (.add rfl rfl (i64w oO)) oO) rfl <| WL.z rfl rfl ?_
 exact ⟨t + 1, ⟨rfl, rfl, rfl, trivial⟩, ⟨hD.trans dw3, by omega⟩, by omega⟩
 have h2' := dF h2
 refine W.exit <| W.sr <| WL.z rfl rfl ?_
 refine W.ret (W.ret1 rfl rfl ?_)
 exact ⟨rfl, hD⟩
theorem r18_EqualA : ∀ (n : Nat) (o : AV), SizeOf.sizeOf o < n → ∀ (x y : AC) (S T : Nat → Prop) (w : World), ARep w S x o → ARep w T y o →
  Calls Tryz.prog 12 #[.agg (acV x).toArray, .agg (acV y).toArray] w fun e w' => e = .returned (.bool true) ∧ Below w.heap.size w w' := by
 intro n
 induction n with
 | zero => intro o h; omega
 | succ n ih =>
 intro o hn x y S T w hx hy
 obtain ⟨keys, list, data, cs, rfl, ok, hkl, hk, hks, hr, hrs, hd, hds, hcl, hsub⟩ := hx.inv
 obtain ⟨keys', list', data', cs', he, ok', hkl', hk', hks', hr', hrs', hd', hds', hcl', hsub'⟩ := hy.inv
 obtain ⟨k, i, s, kp, kl, kc, lp, ll, lc, dp, dl, dc⟩ := x
 obtain ⟨k', i', s', kp', kl', kc', lp', ll', lc', dp', dl', dc'⟩ := y
 simp only [AV.mk.injEq] at he hk hr hk' hr' hd hd'
 obtain ⟨rfl, rfl, rfl, rfl, rfl, rfl⟩ := he
 have e1 := ok.kl; have e2 := ok.ll; have e3 := ok.dl
 have f1 := ok'.kl; have f2 := ok'.ll; have f3 := ok'.dl
 have m1 := ok.kc; have m2 := ok.lc; have m3 := ok.dc; have m4 := ok.km; have m5 := ok.lm; have m6 := ok.dm
 simp only at e1 e2 e3 f1 f2 f3 m1 m2 m3 m4 m5 m6
 subst e1; subst e2; subst e3; subst f1; subst f2; subst f3
 simp only [AV.mk.sizeOf_spec] at hn
 have hsz : ∀ j (h : j < list.length), SizeOf.sizeOf list[j] < n := fun j h => by have := List.sizeOf_lt_of_mem (List.getElem_mem h); omega
 have hf0 : AInv w S cs list := ⟨hcl, hsub⟩
 have hf0' : AInv w T cs' list := ⟨hcl', hsub'⟩
 simp only [acV]
 refine W.enter func12 rfl ntmps12 (Nat.le_of_ble_eq_true rfl) ?_
 have hB0 := Below.refl (w.heap.size) w
 refine W.sr <| WL.box rfl rfl (fun b1 wb1 eb1 hkb1 hub1 hsb1 => ?_)
 have hvl3 := fun h0 => eb1 ▸ hk.lt h0
 have hv2 := RowAt.upd hk hub1 (fun h0 => Nat.ne_of_lt (hvl3 h0))
 have hvl5 := fun h0 => eb1 ▸ hk'.lt h0
 have hv4 := RowAt.upd hk' hub1 (fun h0 => Nat.ne_of_lt (hvl5 h0))
 have hvl7 := fun h0 => eb1 ▸ hr.lt h0
 have hv6 := RowM.upd hr hub1 (fun h0 => Nat.ne_of_lt (hvl7 h0))
 have hvl9 := fun h0 => eb1 ▸ hr'.lt h0
 have hv8 := RowM.upd hr' hub1 (fun h0 => Nat.ne_of_lt (hvl9 h0))
 have hvl11 := fun h0 => eb1 ▸ hd.lt h0
 have hv10 := bup hd hub1 hvl11
 have hvl13 := fun h0 => eb1 ▸ hd'.lt h0
 have hv12 := BytesAt.upd hd' hub1 (fun h0 => Nat.ne_of_lt (hvl13 h0))
 have hB14 := Upd.below hB0 (by rw [eb1]; exact hB0.size) hub1
 have hgeb1 : w.heap.size ≤ b1 := by rw [eb1]; exact hB0.size
 refine WL.box rfl rfl (fun b15 wb15 eb15 hkb15 hub15 hsb15 => ?_)
 have hl17 : b1 < b15 := by rw [eb15]; exact hkb1.lt
 have hk16 := hkb1.upd hub15 (Nat.ne_of_lt hl17)
 have hvl19 := fun h0 => eb15 ▸ hv2.lt h0
 have hv18 := RowAt.upd hv2 hub15 (fun h0 => Nat.ne_of_lt (hvl19 h0))
 have hvl21 := fun h0 => eb15 ▸ hv4.lt h0
 have hv20 := RowAt.upd hv4 hub15 (fun h0 => Nat.ne_of_lt (hvl21 h0))
 have hvl23 := fun h0 => eb15 ▸ hv6.lt h0
 have hv22 := RowM.upd hv6 hub15 (fun h0 => Nat.ne_of_lt (hvl23 h0))
 have hvl25 := fun h0 => eb15 ▸ hv8.lt h0
 have hv24 := RowM.upd hv8 hub15 (fun h0 => Nat.ne_of_lt (hvl25 h0))
 have hvl27 := fun h0 => eb15 ▸ hv10.lt h0
 have hv26 := bup hv10 hub15 hvl27
 have hvl29 := fun h0 => eb15 ▸ hv12.lt h0
 have hv28 := bup hv12 hub15 hvl29
 have hB30 := Upd.below hB14 (by rw [eb15]; exact hB14.size) hub15
 have hgeb15 : w.heap.size ≤ b15 := by rw [eb15]; exact hB14.size
 refine WL.z rfl rfl ?_
 refine W.seq <| W.sr <| WL.p (.fa underlying28 rfl sizeOf3 dD rfl) rfl <| WL.r (Rd.ld (isAgg3 _) rfl hk16 rfl) rfl <| WL.p (.fa underlying28 rfl sizeOf3 dD rfl) rfl <| WL.r (Rd.ld (isAgg3 _) rfl hkb15 rfl) rfl <| WL.p (.bis (false) (.neq rfl rfl) (by simp)) rfl <| WL.m rfl rfl <| WL.gy rfl rfl rfl rfl <| WL.p (.fa underlying28 rfl sizeOf3 dD rfl) rfl <| WL.gy rfl rfl rfl rfl <| WL.r (Rd.ld (isAgg3 _) rfl hk16 rfl) rfl <| WL.gy rfl rfl rfl rfl <| WL.p (.fa underlying28 rfl sizeOf3 dD rfl) rfl <| WL.gy rfl rfl rfl rfl <| WL.r (Rd.ld (isAgg3 _) rfl hkb15 rfl) rfl <| WL.gy rfl rfl rfl rfl <| WL.p (.bis (false) (.neq rfl rfl) (by simp)) rfl <| WL.p (.pkF rfl rfl rfl) rfl <| WL.m rfl rfl <| WL.gy rfl rfl rfl rfl <| WL.p (.fa underlying28 rfl sizeOf9 dD rfl) rfl <| WL.gy rfl rfl rfl rfl <| WL.r (Rd.ld (isAgg9 _) rfl hk16 rfl) rfl <| WL.gy rfl rfl rfl rfl <| WL.p (.fa underlying28 rfl sizeOf9 dD rfl) rfl <| WL.gy rfl rfl rfl rfl <| WL.r (Rd.ld (isAgg9 _) rfl hkb15 rfl) rfl <| WL.gy rfl rfl rfl rfl <| WL.p (.bis (false) (.nes rfl rfl) (by simp)) rfl <| WL.p (.pkF rfl rfl rfl) rfl <| WL.m rfl rfl <| WL.gy rfl rfl rfl rfl <| WL.p (.fa underlying28 rfl sizeOf25 dD rfl) rfl <| WL.gy rfl rfl rfl rfl <| WL.r (Rd.ld (isAgg25 _) rfl hk16 rfl) rfl <| WL.gy rfl rfl rfl rfl <| WL.p (.fa underlying28 rfl sizeOf25 dD rfl) rfl <| WL.gy rfl rfl rfl rfl <| WL.r (Rd.ld (isAgg25 _) rfl hkb15 rfl) rfl <| WL.gy rfl rfl rfl rfl <| WL.c1 hb37 rfl rfl ((r01_Texts _ _ _ _ _ _ hv18 hv20 oO)) (fun w31 hw31 => ?_)
 have hk32 := hk16.drew hw31
 have hk33 := hkb15.drew hw31
 have hv36 := hv22.drew hw31
 have hv37 := hv24.drew hw31
 have hv38 := hv26.drew hw31
 have hv39 := hv28.drew hw31
 have hB40 := Drew.below hB30 hw31
 refine WL.gy rfl rfl rfl rfl <| WL.p (.not rfl) rfl <| WL.p (.pkF rfl rfl rfl) rfl <| WL.m rfl rfl <| WL.gy rfl rfl rfl rfl <| WL.p (.fa underlying28 rfl sizeOf26 dD rfl) rfl <| WL.gy rfl rfl rfl rfl <| WL.r (Rd.ld (isAgg26 _) rfl hk32 rfl) rfl <| WL.gy rfl rfl rfl rfl <| WL.p (.fa underlying28 rfl sizeOf26 dD rfl) rfl <| WL.gy rfl rfl rfl rfl <| WL.r (Rd.ld (isAgg26 _) rfl hk33 rfl) rfl <| WL.gy rfl rfl rfl rfl <| WL.c1 hb38 rfl rfl ((r01_SameA _ _ _ _ _ _ hv38 hv39 oO)) (fun w41 hw41 => ?_)
 have hk42 := hk32.drew hw41
 have hk43 := hk33.drew hw41
 have hv46 := hv36.drew hw41
 have hv47 := hv37.drew hw41
 have hB50 := Drew.below hB40 hw41
 refine WL.gy rfl rfl rfl rfl <| WL.p (.not rfl) rfl <| WL.p (.pkF rfl rfl rfl) rfl <| WL.m rfl rfl <| WL.gy rfl rfl rfl rfl <| WL.p (.fa underlying28 rfl sizeOf22 dD rfl) rfl <| WL.gy rfl rfl rfl rfl <| WL.r (Rd.ld (isAgg22 _) rfl hk42 rfl) rfl <| WL.gy rfl rfl rfl rfl <| WL.p (.lenS underlying22 rfl) rfl <| WL.gy rfl rfl rfl rfl <| WL.p (.fa underlying28 rfl sizeOf22 dD rfl) rfl <| WL.gy rfl rfl rfl rfl <| WL.r (Rd.ld (isAgg22 _) rfl hk43 rfl) rfl <| WL.gy rfl rfl rfl rfl <| WL.p (.lenS underlying22 rfl) rfl <| WL.gy rfl rfl rfl rfl <| WL.p (.bis (false) (.neq rfl rfl) (by simp; omega)) rfl <| WL.p (.pkF rfl rfl rfl) rfl <| WL.nil <| ?_
 refine W.condF rfl rfl ?_
 refine W.skip <| W.seq <| W.sr <| WL.z rfl rfl ?_
 refine W.block ?_
 refine W.loop (α := Nat) (fun t => [(2, .pointer (some ⟨b1, 0, none⟩)), (3, .pointer (some ⟨b15, 0, none⟩)), (5, .int .i64 (t : Int))]) (fun t w' => Below w.heap.size w w' ∧ Blk w' b1 #[.int .i64 k, .int .i64 i, .string (bs s), .slice kp keys.length kc, .slice lp cs.length lc, .slice dp data.length dc] 28 ∧ Blk w' b15 #[.int .i64 k, .int .i64 i, .string (bs s), .slice kp' keys.length kc', .slice lp' cs'.length lc', .slice dp' data.length dc'] 28 ∧ RowM acL w' lp cs ∧ RowM acL w' lp' cs' ∧ AInv w' S cs list ∧ AInv w' T cs' list ∧ t ≤ cs.length) (fun t => cs.length - t) (0) ⟨rfl, rfl, rfl, trivial⟩ (⟨hB50, hk42, hk43, hv46, hv47, hf0.same (fun k hk hl => (hB50).block k hl), hf0'.same (fun k hk hl => (hB50).block k hl), Nat.zero_le _⟩) (fun t w1 hR => ?_)
 obtain ⟨hT1, hk1, hk2, hlx1, hly1, hf1, hf2, ht⟩ := hR
 refine W.seq <| W.sr <| WL.m rfl rfl <| WL.p (.fa underlying28 rfl sizeOf22 dD rfl) rfl <| WL.r (Rd.ld (isAgg22 _) rfl hk1 rfl) rfl <| WL.p (.lenS underlying22 rfl) rfl <| WL.p (.lss rfl rfl) rfl <| WL.nil <| ?_
 refine W.cond rfl (fun h51 => ?_) (fun h51 => ?_)
 have h51' := dT h51
 refine W.skip <| W.seq <| W.block <| W.seq <| W.regY 12 rfl mixed (fun w52 dw52 => ?_)
 have hF53 := AInv.same (w1 := w52) hf1 (fun k hk hl => (by obtain ⟨m, rfl⟩ := dw52; rfl))
 have hF54 := AInv.same (w1 := w52) hf2 (fun k hk hl => (by obtain ⟨m, rfl⟩ := dw52; rfl))
 have hk55 := hk1.drew dw52
 have hk56 := hk2.drew dw52
 have hv57 := hlx1.drew dw52
 have hv58 := hly1.drew dw52
 have hB59 := Drew.below hT1 dw52
 refine WY.tk 0 rfl (.fa underlying28 rfl sizeOf22 dD rfl) rfl ?_
 refine WY.tk 2 rfl (.mv rfl) rfl ?_
 refine WY.tk 5 rfl (.fa underlying28 rfl sizeOf22 dD rfl) rfl ?_
 refine WY.tk 7 rfl (.mv rfl) rfl ?_
 refine WY.br2 1 rfl 6 rfl ?_ ?_
 refine WL.r (Rd.ld (isAgg22 _) rfl hk55 rfl) rfl <| WL.nil <| ?_
 refine WY.tk 3 rfl (.ixm underlying22 sizeOf28 rfl rfl (hv57.isp (by first | omega | (simp only [List.length_cons, List.length_nil]; omega))) (t) (rfl) oO) rfl ?_
 refine WY.br2 4 rfl 6 rfl ?_ ?_
 refine WL.r (Rd.ldS underlying28 rfl isz28 hv57 (t) (by first | omega | (simp only [List.length_cons, List.length_nil]; omega)) rfl) rfl <| WL.nil <| ?_
 refine WY.br1 6 rfl ?_
 refine WL.r (Rd.ld (isAgg22 _) rfl hk56 rfl) rfl <| WL.nil <| ?_
 refine WY.tk 8 rfl (.ixm underlying22 sizeOf28 rfl rfl (hv58.isp (by first | omega | (simp only [List.length_cons, List.length_nil]; omega))) (t) (rfl) oO) rfl ?_
 refine WY.br1 9 rfl ?_
 refine WL.r (Rd.ldS underlying28 rfl isz28 hv58 (t) (by first | omega | (simp only [List.length_cons, List.length_nil]; omega)) rfl) rfl <| WL.nil <| ?_
 refine WY.br1 10 rfl ?_
 refine WL.c1 hb12 rfl rfl ((ih (list[t]'oO) (hsz t oO) _ _ S T _ ((hF53).sub t oO oO) ((hF54).sub t oO oO))) (fun w60 hw60 => ?_)
 have hF61 := AInv.same (w1 := w60) hF53 (fun k hk hl => hw60.block k hl)
 have hF62 := AInv.same (w1 := w60) hF54 (fun k hk hl => hw60.block k hl)
 have hk63 := hk55.below hw60 hk55.lt
 have hk64 := hk56.below hw60 hk56.lt
 have hv65 := RowM.below hv57 hw60 (fun h0 => hv57.lt h0)
 have hv66 := RowM.below hv58 hw60 (fun h0 => hv58.lt h0)
 have hB67 := btr hB59 hw60
 refine WL.nil <| ?_
 refine WY.tk 11 rfl (.not rfl) rfl ?_
 refine WY.done kR ?_
 refine W.condF rfl rfl ?_
 refine W.skip <| W.reg <| WL.m rfl rfl <| WL.p (.iis (((t + 1 : Nat) : Int)) (.add rfl rfl (i64w oO)) oO) rfl <| WL.z rfl rfl ?_
 exact ⟨t + 1, ⟨rfl, rfl, rfl, trivial⟩, ⟨hB67, hk63, hk64, hv65, hv66, hF61, hF62, by ((try simp only) <;> omega)⟩, by ((try simp only) <;> omega)⟩
 refine WL.r (Rd.ld (isAgg22 _) rfl hk56 rfl) rfl <| WL.nil <| ?_
 refine WY.tk 8 rfl (.ixm underlying22 sizeOf28 rfl rfl (hv58.isp (by first | omega | (simp only [List.length_cons, List.length_nil]; omega))) (t) (rfl) oO) rfl ?_
 refine WY.br2 4 rfl 9 rfl ?_ ?_
 refine WL.r (Rd.ldS underlying28 rfl isz28 hv57 (t) (by first | omega | (simp only [List.length_cons, List.length_nil]; omega)) rfl) rfl <| WL.nil <| ?_
 refine WY.br1 9 rfl ?_
 refine WL.r (Rd.ldS underlying28 rfl isz28 hv58 (t) (by first | omega | (simp only [List.length_cons, List.length_nil]; omega)) rfl) rfl <| WL.nil <| ?_
 refine WY.br1 10 rfl ?_
 refine WL.c1 hb12 rfl rfl ((ih (list[t]'oO) (hsz t oO) _ _ S T _ ((hF53).sub t oO oO) ((hF54).sub t oO oO))) (fun w68 hw68 => ?_)
 have hF69 := AInv.same (w1 := w68) hF53 (fun k hk hl => hw68.block k hl)
 have hF70 := AInv.same (w1 := w68) hF54 (fun k hk hl => hw68.block k hl)
 have hk71 := hk55.below hw68 hk55.lt
 have hk72 := hk56.below hw68 hk56.lt
 have hv73 := RowM.below hv57 hw68 (fun h0 => hv57.lt h0)
 have hv74 := RowM.below hv58 hw68 (fun h0 => hv58.lt h0)
 have hB75 := btr hB59 hw68
 refine WL.nil <| ?_
 refine WY.tk 11 rfl (.not rfl) rfl ?_
 refine WY.done kR ?_
 refine W.condF rfl rfl ?_
 refine W.skip <| W.reg <| WL.m rfl rfl <| WL.p (.iis (((t + 1 : Nat) : Int)) (.add rfl rfl (i64w oO)) oO) rfl <| WL.z rfl rfl ?_
 exact ⟨t + 1, ⟨rfl, rfl, rfl, trivial⟩, ⟨hB75, hk71, hk72, hv73, hv74, hF69, hF70, by ((try simp only) <;> omega)⟩, by ((try simp only) <;> omega)⟩
 refine WL.r (Rd.ldS underlying28 rfl isz28 hv58 (t) (by first | omega | (simp only [List.length_cons, List.length_nil]; omega)) rfl) rfl <| WL.nil <| ?_
 refine WY.br1 4 rfl ?_
 refine WL.r (Rd.ldS underlying28 rfl isz28 hv57 (t) (by first | omega | (simp only [List.length_cons, List.length_nil]; omega)) rfl) rfl <| WL.nil <| ?_
 refine WY.br1 10 rfl ?_
 refine WL.c1 hb12 rfl rfl ((ih (list[t]'oO) (hsz t oO) _ _ S T _ ((hF53).sub t oO oO) ((hF54).sub t oO oO))) (fun w76 hw76 => ?_)
 have hF77 := AInv.same (w1 := w76) hF53 (fun k hk hl => hw76.block k hl)
 have hF78 := AInv.same (w1 := w76) hF54 (fun k hk hl => hw76.block k hl)
 have hk79 := hk55.below hw76 hk55.lt
 have hk80 := hk56.below hw76 hk56.lt
 have hv81 := RowM.below hv57 hw76 (fun h0 => hv57.lt h0)
 have hv82 := RowM.below hv58 hw76 (fun h0 => hv58.lt h0)
 have hB83 := btr hB59 hw76
 refine WL.nil <| ?_
 refine WY.tk 11 rfl (.not rfl) rfl ?_
 refine WY.done kR ?_
 refine W.condF rfl rfl ?_
 refine W.skip <| W.reg <| WL.m rfl rfl <| WL.p (.iis (((t + 1 : Nat) : Int)) (.add rfl rfl (i64w oO)) oO) rfl <| WL.z rfl rfl ?_
 exact ⟨t + 1, ⟨rfl, rfl, rfl, trivial⟩, ⟨hB83, hk79, hk80, hv81, hv82, hF77, hF78, by ((try simp only) <;> omega)⟩, by ((try simp only) <;> omega)⟩
 refine WL.r (Rd.ld (isAgg22 _) rfl hk56 rfl) rfl <| WL.nil <| ?_
 refine WY.tk 8 rfl (.ixm underlying22 sizeOf28 rfl rfl (hv58.isp (by first | omega | (simp only [List.length_cons, List.length_nil]; omega))) (t) (rfl) oO) rfl ?_
 refine WY.br2 1 rfl 9 rfl ?_ ?_
 refine WL.r (Rd.ld (isAgg22 _) rfl hk55 rfl) rfl <| WL.nil <| ?_
 refine WY.tk 3 rfl (.ixm underlying22 sizeOf28 rfl rfl (hv57.isp (by first | omega | (simp only [List.length_cons, List.length_nil]; omega))) (t) (rfl) oO) rfl ?_
 refine WY.br2 4 rfl 9 rfl ?_ ?_
 refine WL.r (Rd.ldS underlying28 rfl isz28 hv57 (t) (by first | omega | (simp only [List.length_cons, List.length_nil]; omega)) rfl) rfl <| WL.nil <| ?_
 refine WY.br1 9 rfl ?_
 refine WL.r (Rd.ldS underlying28 rfl isz28 hv58 (t) (by first | omega | (simp only [List.length_cons, List.length_nil]; omega)) rfl) rfl <| WL.nil <| ?_
 refine WY.br1 10 rfl ?_
 refine WL.c1 hb12 rfl rfl ((ih (list[t]'oO) (hsz t oO) _ _ S T _ ((hF53).sub t oO oO) ((hF54).sub t oO oO))) (fun w84 hw84 => ?_)
 have hF85 := AInv.same (w1 := w84) hF53 (fun k hk hl => hw84.block k hl)
 have hF86 := AInv.same (w1 := w84) hF54 (fun k hk hl => hw84.block k hl)
 have hk87 := hk55.below hw84 hk55.lt
 have hk88 := hk56.below hw84 hk56.lt
 have hv89 := RowM.below hv57 hw84 (fun h0 => hv57.lt h0)
 have hv90 := RowM.below hv58 hw84 (fun h0 => hv58.lt h0)
 have hB91 := btr hB59 hw84
 refine WL.nil <| ?_
 refine WY.tk 11 rfl (.not rfl) rfl ?_
 refine WY.done kR ?_
 refine W.condF rfl rfl ?_
 refine W.skip <| W.reg <| WL.m rfl rfl <| WL.p (.iis (((t + 1 : Nat) : Int)) (.add rfl rfl (i64w oO)) oO) rfl <| WL.z rfl rfl ?_
 exact ⟨t + 1, ⟨rfl, rfl, rfl, trivial⟩, ⟨hB91, hk87, hk88, hv89, hv90, hF85, hF86, by ((try simp only) <;> omega)⟩, by ((try simp only) <;> omega)⟩
 refine WL.r (Rd.ldS underlying28 rfl isz28 hv58 (t) (by first | omega | (simp only [List.length_cons, List.length_nil]; omega)) rfl) rfl <| WL.nil <| ?_
 refine WY.br1 4 rfl ?_
 refine WL.r (Rd.ldS underlying28 rfl isz28 hv57 (t) (by first | omega | (simp only [List.length_cons, List.length_nil]; omega)) rfl) rfl <| WL.nil <| ?_
 refine WY.br1 10 rfl ?_
 refine WL.c1 hb12 rfl rfl ((ih (list[t]'oO) (hsz t oO) _ _ S T _ ((hF53).sub t oO oO) ((hF54).sub t oO oO))) (fun w92 hw92 => ?_)
 have hF93 := AInv.same (w1 := w92) hF53 (fun k hk hl => hw92.block k hl)
 have hF94 := AInv.same (w1 := w92) hF54 (fun k hk hl => hw92.block k hl)
 have hk95 := hk55.below hw92 hk55.lt
 have hk96 := hk56.below hw92 hk56.lt
 have hv97 := RowM.below hv57 hw92 (fun h0 => hv57.lt h0)
 have hv98 := RowM.below hv58 hw92 (fun h0 => hv58.lt h0)
 have hB99 := btr hB59 hw92
 refine WL.nil <| ?_
 refine WY.tk 11 rfl (.not rfl) rfl ?_
 refine WY.done kR ?_
 refine W.condF rfl rfl ?_
 refine W.skip <| W.reg <| WL.m rfl rfl <| WL.p (.iis (((t + 1 : Nat) : Int)) (.add rfl rfl (i64w oO)) oO) rfl <| WL.z rfl rfl ?_
 exact ⟨t + 1, ⟨rfl, rfl, rfl, trivial⟩, ⟨hB99, hk95, hk96, hv97, hv98, hF93, hF94, by ((try simp only) <;> omega)⟩, by ((try simp only) <;> omega)⟩
 refine WL.r (Rd.ldS underlying28 rfl isz28 hv58 (t) (by first | omega | (simp only [List.length_cons, List.length_nil]; omega)) rfl) rfl <| WL.nil <| ?_
 refine WY.br1 1 rfl ?_
 refine WL.r (Rd.ld (isAgg22 _) rfl hk55 rfl) rfl <| WL.nil <| ?_
 refine WY.tk 3 rfl (.ixm underlying22 sizeOf28 rfl rfl (hv57.isp (by first | omega | (simp only [List.length_cons, List.length_nil]; omega))) (t) (rfl) oO) rfl ?_
 refine WY.br1 4 rfl ?_
 refine WL.r (Rd.ldS underlying28 rfl isz28 hv57 (t) (by first | omega | (simp only [List.length_cons, List.length_nil]; omega)) rfl) rfl <| WL.nil <| ?_
 refine WY.br1 10 rfl ?_
 refine WL.c1 hb12 rfl rfl ((ih (list[t]'oO) (hsz t oO) _ _ S T _ ((hF53).sub t oO oO) ((hF54).sub t oO oO))) (fun w100 hw100 => ?_)
 have hF101 := AInv.same (w1 := w100) hF53 (fun k hk hl => hw100.block k hl)
 have hF102 := AInv.same (w1 := w100) hF54 (fun k hk hl => hw100.block k hl)
 have hk103 := hk55.below hw100 hk55.lt
 have hk104 := hk56.below hw100 hk56.lt
 have hv105 := RowM.below hv57 hw100 (fun h0 => hv57.lt h0)
 have hv106 := RowM.below hv58 hw100 (fun h0 => hv58.lt h0)
 have hB107 := btr hB59 hw100
 refine WL.nil <| ?_
 refine WY.tk 11 rfl (.not rfl) rfl ?_
 refine WY.done kR ?_
 refine W.condF rfl rfl ?_
 refine W.skip <| W.reg <| WL.m rfl rfl <| WL.p (.iis (((t + 1 : Nat) : Int)) (.add rfl rfl (i64w oO)) oO) rfl <| WL.z rfl rfl ?_
 exact ⟨t + 1, ⟨rfl, rfl, rfl, trivial⟩, ⟨hB107, hk103, hk104, hv105, hv106, hF101, hF102, by ((try simp only) <;> omega)⟩, by ((try simp only) <;> omega)⟩
 have h51' := dF h51
 refine W.exit <| W.sr <| WL.z rfl rfl ?_
 refine W.ret (W.ret1 rfl rfl ?_)
 exact ⟨rfl, hT1⟩
end
section
theorem objT_in {l : List UInt8} {a : Nat} {d : Int} {t : Nat} (ha : a ≤ l.length) (hs : skipAt false l a = t) (ht : t < l.length) : objT l a d = match objP true l d.toNat t with | .ok (o, t') => (o, (t' : Int), 0) | .error k => (pv0 0 0 [], 0, k) := by
 unfold objT
 rw [if_neg oO, show (a : Int).toNat = a from rfl, hs, if_pos ht]
 all_goals (cases objP true l d.toNat t <;> rfl)
theorem NoR.nil (k : Int) : NoR k [] := fun _ h => by cases h.1
end
section
/-- where a rest begins -/
def sx (l r : List UInt8) : Nat := l.length - r.length
theorem sx_le (l r : List UInt8) : sx l r ≤ l.length := Nat.sub_le _ _
theorem sx_drop {l r : List UInt8} (h : r <:+ l) : l.drop (sx l r) = r := by
 obtain ⟨a, rfl⟩ := h
 unfold sx
 rw [List.length_append, Nat.add_sub_cancel, List.drop_left]
theorem sfx_of {l A r : List UInt8} (h : (A ++ r) <:+ l) : r <:+ l := (List.suffix_append A r).trans h
theorem sfx_cons {l r : List UInt8} {c : UInt8} (h : (c :: r) <:+ l) : r <:+ l := (List.suffix_cons c r).trans h
theorem sx_add {l A r : List UInt8} (h : (A ++ r) <:+ l) : sx l (A ++ r) + A.length = sx l r := by
 have := h.length_le
 unfold sx; simp only [List.length_append] at this ⊢; omega
theorem sx_len {l r : List UInt8} (h : r <:+ l) : sx l r + r.length = l.length := by
 have := h.length_le
 unfold sx; omega
theorem wholeOk_dig (n : Nat) (hn : n < 10000000000) : wholeOk (digitsL n) = true := by
 have h1 := digitsL_len 9 n oO
 have h2 := dig_ne n
 have h3 : (digitsL n).all isDig = true := List.all_eq_true.2 fun c hc => by
  have := digit_all n c hc
  unfold isDig
  simp [this.1, this.2]
 unfold wholeOk
 simp [h2, h3]; omega
section
variable {br : Nat} {p : Option Addr} {l : List UInt8} {c : Nat} {w : World}
theorem rd_wordS (B s r : List UInt8) (h : Blk w br (rdC p l c (sx l (B ++ (s ++ r)))) 57) (hb : BytesAt w p l) (hc : l.length ≤ c) (hl : l.length ≤ 100000000) (hpb : 0 < l.length → (pA p).block ≠ br)
  (hs : (B ++ (s ++ r)) <:+ l) (hB : ∀ c ∈ B, blankB c = true) (hs0 : s ≠ []) (hreg : ∀ c ∈ s, regB c = true) (hr : Bnd r) :
  Calls Tryz.prog 36 #[.pointer (some ⟨br, 0, none⟩), .string (bs s)] w fun e w' => e = .returned (.tuple #[]) ∧ KeepB w.heap.size [br] w w' ∧ Blk w' br (rdC p l c (sx l r)) 57 := by
 obtain ⟨h1, h2, -, -⟩ := nw_at (sx_drop hs) hB hs0 hreg hr
 have := rd_word br p l c (sx l _) s w h hb hc hl (sx_le _ _) hpb h1
 rw [h2] at this; exact this
theorem rd_numberS (n : Nat) (hn : n < 10000000000) (B r : List UInt8) (h : Blk w br (rdC p l c (sx l (B ++ (digitsL n ++ r)))) 57) (hb : BytesAt w p l) (hc : l.length ≤ c) (hl : l.length ≤ 100000000) (hpb : 0 < l.length → (pA p).block ≠ br)
  (hs : (B ++ (digitsL n ++ r)) <:+ l) (hB : ∀ c ∈ B, blankB c = true) (hr : Bnd r) :
  Calls Tryz.prog 53 #[.pointer (some ⟨br, 0, none⟩)] w fun e w' => e = .returned (.int .i64 (n : Int)) ∧ KeepB w.heap.size [br] w w' ∧ Blk w' br (rdC p l c (sx l r)) 57 := by
 obtain ⟨h1, h2, -, -⟩ := nw_at (sx_drop hs) hB (dig_ne n) (digc_regs n) hr
 have := rd_number br p l c (sx l _) (digitsL n) w h hb hc hl (sx_le _ _) hpb h1 (wholeOk_dig n hn)
 rw [h2, show natOf (digitsL n) = n from numF_digits n] at this; exact this
theorem rd_blanksS (b d : UInt8) (r : List UInt8) (h : Blk w br (rdC p l c (sx l (b :: d :: r))) 57) (hb : BytesAt w p l) (hl : l.length ≤ 100000000) (hpb : 0 < l.length → (pA p).block ≠ br)
  (hs : (b :: d :: r) <:+ l) (hbb : blankB b = true) (hd : blankB d = false) :
  Calls Tryz.prog 26 #[.pointer (some ⟨br, 0, none⟩)] w fun e w' => e = .returned (.tuple #[]) ∧ KeepB w.heap.size [br] w w' ∧ Blk w' br (rdC p l c (sx l (d :: r))) 57 := by
 have hD := sx_drop hs
 have hlen := sx_len hs
 simp only [List.length_cons] at hlen
 have e0 : l[sx l (b :: d :: r)]'oO = b := by
  have q := List.drop_eq_getElem_cons (l := l) (i := sx l (b :: d :: r)) oO
  rw [hD] at q; injection q with q1 q2; exact q1.symm
 have e1 : l[sx l (b :: d :: r) + 1]'oO = d := by
  have q := List.drop_eq_getElem_cons (l := l) (i := sx l (b :: d :: r) + 1) oO
  rw [← List.drop_drop, hD] at q; simp only [List.drop_succ_cons, List.drop_zero] at q; injection q with q1 q2; exact q1.symm
 have hA : sx l (b :: d :: r) + 1 = sx l (d :: r) := sx_add (A := [b]) hs
 have := rd_blanks br p l c (sx l (b :: d :: r)) 1 w h hb hl oO oO hpb (fun j hj h1 h2 => by
  obtain rfl : j = sx l (b :: d :: r) := by omega
  rw [e0]; exact hbb) (fun _ => by rw [e1]; exact hd)
 rw [hA] at this; exact this
theorem rd_entryS (n : Nat) (hn : n < 10000000000) (r : List UInt8) (h : Blk w br (rdC p l c (sx l (entryF n ++ r))) 57) (hb : BytesAt w p l) (hc : l.length ≤ c) (hl : l.length ≤ 100000000) (hpb : 0 < l.length → (pA p).block ≠ br)
  (hs : (entryF n ++ r) <:+ l) : Calls Tryz.prog 68 #[.pointer (some ⟨br, 0, none⟩)] w fun e w' => e = .returned (.tuple #[.int .i64 (n : Int), .bool true]) ∧ KeepB w.heap.size [br] w w' ∧ Blk w' br (rdC p l c (sx l r)) 57 := by
 have := rd_entry br p l c _ n r w h hb hc hl hpb hn (sx_drop hs)
 rw [← entryF_len hn, sx_add hs] at this; exact this
theorem rd_firstS (r : List UInt8) (h : Blk w br (rdC p l c (sx l (f_first ++ r))) 57) (hb : BytesAt w p l) (hc : l.length ≤ c) (hl : l.length ≤ 100000000) (hpb : 0 < l.length → (pA p).block ≠ br)
  (hs : (f_first ++ r) <:+ l) : Calls Tryz.prog 68 #[.pointer (some ⟨br, 0, none⟩)] w fun e w' => e = .returned (.tuple #[.int .i64 0, .bool false]) ∧ KeepB w.heap.size [br] w w' ∧ Blk w' br (rdC p l c (sx l r)) 57 := by
 have hlen := sx_len hs
 have h20 : f_first.length = 20 := rfl
 have := rd_entry0 br p l c _ r w h hb hc hl hpb (by rw [List.length_append] at hlen; omega) (sx_drop hs)
 rw [← h20, sx_add hs] at this; exact this
end
theorem bnd_blank {c : UInt8} {r : List UInt8} (h : blankB c = true) : Bnd (c :: r) := Bnd.blank h
/-- what an object begins with -/
theorem rd_headS (br : Nat) (p : Option Addr) (l : List UInt8) (c n : Nat) (hn : n < 10000000000) (r : List UInt8) (w : World) (h : Blk w br (rdC p l c (sx l (digitsL n ++ (32 :: 48 :: 32 :: 111 :: 98 :: 106 :: 10 :: r)))) 57) (hb : BytesAt w p l) (hc : l.length ≤ c) (hl : l.length ≤ 100000000) (hpb : 0 < l.length → (pA p).block ≠ br)
  (hs : (digitsL n ++ (32 :: 48 :: 32 :: 111 :: 98 :: 106 :: 10 :: r)) <:+ l) :
  Calls Tryz.prog 31 #[.pointer (some ⟨br, 0, none⟩), .int .i64 (n : Int)] w fun e w' => e = .returned (.tuple #[]) ∧ KeepB w.heap.size [br] w w' ∧ Blk w' br (rdC p l c (sx l (10 :: r))) 57 := by
 have s1 := sfx_of hs
 have s2 := sfx_of (A := [32, 48]) s1
 refine W.enter func31 rfl ntmps31 (Nat.le_of_ble_eq_true rfl) ?_
 have hB0 := KeepB.refl w.heap.size ([br]) w
 refine W.sr <| WL.m rfl rfl <| WL.c1 hb53 rfl rfl ((rd_numberS n hn [] _ h hb hc hl hpb hs (by simp) (bnd_blank dD))) (fun w1 hw1 => ?_)
 have hv2 := BytesAt.keepB hb hw1.1 (fun h0 => ⟨hb.lt h0, by first | simpa using (hpb) h0 | (have q := (hpb) h0; have q1 := hb.lt h0; simp only [List.mem_cons, List.not_mem_nil, or_false, not_or, not_false_eq_true]; omega)⟩)
 have hB3 := KeepB.trans hB0 (KeepB.wide hw1.1 hB0.size (by simp <;> omega))
 have hm2 := hw1.2
 refine WL.m rfl rfl <| WL.p (.bis (true) (.eql rfl rfl) (by simp)) rfl <| WL.c1 hb22 rfl rfl ((pread_want _)) (fun w4 hw4 => ?_)
 obtain rfl := hw4
 refine WL.nil <| ?_
 refine W.sr <| WL.m rfl rfl <| WL.c1 hb36 rfl rfl ((rd_wordS [32] [48] _ hm2 hv2 hc hl hpb s1 dD dD dD (bnd_blank dD))) (fun w5 hw5 => ?_)
 have hv6 := BytesAt.keepB hv2 hw5.1 (fun h0 => ⟨hv2.lt h0, by first | simpa using (hpb) h0 | (have q := (hpb) h0; have q1 := hv2.lt h0; simp only [List.mem_cons, List.not_mem_nil, or_false, not_or, not_false_eq_true]; omega)⟩)
 have hB7 := KeepB.trans hB3 (KeepB.wide hw5.1 hB3.size (by simp <;> omega))
 have hm3 := hw5.2
 refine WL.nil <| ?_
 refine W.reg <| WL.m rfl rfl <| WL.c1 hb36 rfl rfl ((rd_wordS [32] [111, 98, 106] _ hm3 hv6 hc hl hpb s2 dD dD dD (bnd_blank dD))) (fun w8 hw8 => ?_)
 have hB10 := KeepB.trans hB7 (KeepB.wide hw8.1 hB7.size (by simp <;> omega))
 have hm4 := hw8.2
 refine WL.nil <| ?_
 refine W.norm (W.ret0 rfl ?_)
 exact ⟨rfl, hB10, hm4⟩
def plG (ps : List Nat) (x : Int) : Option Int := if 1 ≤ x then (ps[(x - 1).toNat]?).map fun n => (n : Int) else none
def seenG (i : Nat) (x : Int) : Option Int := if 0 ≤ x ∧ x < i then some 1 else none
theorem seenG_put (i : Nat) : (fun x : Int => if x = (i : Int) then some (1 : Int) else seenG i x) = seenG (i + 1) := by
 funext x
 unfold seenG
 by_cases h : x = (i : Int)
 ·
  rw [if_pos h, if_pos oO]
 ·
  rw [if_neg h]
  by_cases h2 : 0 ≤ x ∧ x < i
  ·
   rw [if_pos h2, if_pos oO]
  ·
   rw [if_neg h2, if_neg oO]
theorem seenG_at (i : Nat) : seenG i (i : Int) = none := by unfold seenG; rw [if_neg oO]
theorem plG_put (ps : List Nat) (i : Nat) (h : i < ps.length) : (fun x : Int => if x = ((i + 1 : Nat) : Int) then some (ps[i] : Int) else plG (ps.take i) x) = plG (ps.take (i + 1)) := by
 funext x
 unfold plG
 by_cases h1 : x = ((i + 1 : Nat) : Int)
 ·
  rw [if_pos h1, if_pos oO, show (x - 1).toNat = i by omega, List.getElem?_take, if_pos oO, List.getElem?_eq_getElem h]; rfl
 ·
  rw [if_neg h1]
  by_cases h2 : 1 ≤ x
  ·
   rw [if_pos h2, if_pos h2, List.getElem?_take, List.getElem?_take]
   by_cases h3 : (x - 1).toNat < i
   ·
    rw [if_pos h3, if_pos oO]
   ·
    rw [if_neg h3, if_neg oO]
  ·
   rw [if_neg h2, if_neg h2]
theorem plG_at (ps : List Nat) (i : Nat) : plG (ps.take i) ((i + 1 : Nat) : Int) = none := by
 unfold plG
 rw [if_pos oO, show (((i + 1 : Nat) : Int) - 1).toNat = i by omega, List.getElem?_take, if_neg oO]; rfl
theorem plG_nil : plG [] = fun _ => none := by funext x; unfold plG; split <;> simp
theorem plG_of (ps : List Nat) (j : Nat) (h : j < ps.length) : plG ps ((j + 1 : Nat) : Int) = some (ps[j] : Int) := by
 unfold plG
 rw [if_pos oO, show (((j + 1 : Nat) : Int) - 1).toNat = j by omega, List.getElem?_eq_getElem h]; rfl
end
section
theorem wfI {n : Int} (h : -9223372036854775808 ≤ n ∧ n ≤ 9223372036854775807) : (Lit.int .i64 n).wf = true := by
 simp only [Lit.wf, Bool.and_eq_true, decide_eq_true_eq]; exact h
/-- what is still to read of a section ahead of its i-th entry -/
def remF (ps : List Nat) (rest : List UInt8) : Nat → List UInt8
 | 0 => f_first ++ (ps.flatMap entryF ++ rest)
 | i + 1 => (ps.drop i).flatMap entryF ++ rest
def plV (ps : List Nat) : Nat → Nat
 | 0 => 0
 | i + 1 => ps.getD i 0
theorem rd_entryI (br : Nat) (p : Option Addr) (l : List UInt8) (c : Nat) (ps : List Nat) (rest : List UInt8) (i : Nat) (w : World) (h : Blk w br (rdC p l c (sx l (remF ps rest i))) 57) (hb : BytesAt w p l) (hc : l.length ≤ c) (hl : l.length ≤ 100000000) (hpb : 0 < l.length → (pA p).block ≠ br)
  (hs : remF ps rest i <:+ l) (hps : ∀ n ∈ ps, n < 10000000000) (hi : i < ps.length + 1) :
  Calls Tryz.prog 68 #[.pointer (some ⟨br, 0, none⟩)] w fun e w' => e = .returned (.tuple #[.int .i64 (plV ps i : Int), .bool (decide (0 < i))]) ∧ KeepB w.heap.size [br] w w' ∧ Blk w' br (rdC p l c (sx l (remF ps rest (i + 1)))) 57 := by
 cases i with
 | zero =>
  have := rd_firstS _ h hb hc hl hpb hs
  simpa [remF, plV] using this
 | succ j =>
  have hj : j < ps.length := by omega
  have e : remF ps rest (j + 1) = entryF ps[j] ++ remF ps rest (j + 2) := by
   show (ps.drop j).flatMap entryF ++ rest = entryF ps[j] ++ ((ps.drop (j + 1)).flatMap entryF ++ rest)
   rw [List.drop_eq_getElem_cons hj, List.flatMap_cons, List.append_assoc]
  rw [e] at h hs
  have := rd_entryS ps[j] (hps _ (List.getElem_mem hj)) _ h hb hc hl hpb hs
  have hv : plV ps (j + 1) = ps[j] := by show ps.getD j 0 = _; rw [List.getD_eq_getElem?_getD, List.getElem?_eq_getElem hj]; rfl
  rw [hv, show decide (0 < j + 1) = true by simp]
  exact this
theorem remF_sfx {ps : List Nat} {rest l : List UInt8} (h : (tableF ps ++ rest) <:+ l) : ∀ i, i ≤ ps.length + 1 → remF ps rest i <:+ l
 | 0, _ => by
  show f_first ++ (ps.flatMap entryF ++ rest) <:+ l
  rw [← List.append_assoc]; exact h
 | i + 1, hi => by
  have h1 : ps.flatMap entryF ++ rest <:+ l := by
   unfold tableF at h; rw [List.append_assoc] at h; exact sfx_of h
  show (ps.drop i).flatMap entryF ++ rest <:+ l
  conv at h1 => lhs; rw [← List.take_append_drop i ps, List.flatMap_append, List.append_assoc]
  exact sfx_of h1
/-- the table's only section -/
theorem rd_section (br bf bs bm : Nat) (p : Option Addr) (l : List UInt8) (c : Nat) (cs : Array Value) (ps : List Nat) (rest : List UInt8) (w : World)
    (h : Blk w br (rdC p l c (sx l (digitsL 0 ++ (32 :: (digitsL (ps.length + 1) ++ (10 :: (tableF ps ++ rest))))))) 57) (hf : Blk w bf cs 60) (h1 : cs[1]? = some (.map (some bm)))
    (hms : MapI Tryz.prog 3 3 w bs 0 (seenG 0) 0) (hmm : MapI Tryz.prog 3 3 w bm 0 (plG []) 0)
    (hb : BytesAt w p l) (hc : l.length ≤ c) (hl : l.length ≤ 100000000) (hs : (digitsL 0 ++ (32 :: (digitsL (ps.length + 1) ++ (10 :: (tableF ps ++ rest))))) <:+ l) (hps : ∀ n ∈ ps, n < 10000000000) (hpl : ps.length ≤ 4096)
    (hpb : 0 < l.length → (pA p).block ≠ br) (hpb2 : 0 < l.length → (pA p).block ≠ bs) (hpb3 : 0 < l.length → (pA p).block ≠ bm)
    (n1 : bf ≠ br) (n2 : bs ≠ br) (n3 : bm ≠ br) (n4 : bs ≠ bm) (n5 : bf ≠ bs) (n6 : bf ≠ bm) :
    Calls Tryz.prog 50 #[.pointer (some ⟨br, 0, none⟩), .pointer (some ⟨bf, 0, none⟩), .map (some bs)] w fun e w' => e = .returned (.tuple #[]) ∧ KeepB w.heap.size [br, bs, bm] w w' ∧ Blk w' br (rdC p l c (sx l rest)) 57 ∧
      MapI Tryz.prog 3 3 w' bs (ps.length + 1) (seenG (ps.length + 1)) (ps.length + 1) ∧ MapI Tryz.prog 3 3 w' bm ps.length (plG ps) ps.length := by
  have s1 := sfx_of hs
  have s2 : (10 :: (tableF ps ++ rest)) <:+ l := sfx_of (sfx_cons s1)
  have s3 : (tableF ps ++ rest) <:+ l := sfx_cons s2
  have hrem := remF_sfx s3
  have e48 : tableF ps ++ rest = 48 :: ((f_first.tail ++ ps.flatMap entryF) ++ rest) := rfl
  have e0 : remF ps rest 0 = 48 :: ((f_first.tail ++ ps.flatMap entryF) ++ rest) := by rw [← e48]; show f_first ++ (ps.flatMap entryF ++ rest) = _; rw [← List.append_assoc]; rfl
  have eN : remF ps rest (ps.length + 1) = rest := by show (ps.drop ps.length).flatMap entryF ++ rest = rest; rw [List.drop_length]; rfl
  have hmsl := hms.lt
  have hmml := hmm.lt
  refine W.enter func50 rfl ntmps50 (Nat.le_of_ble_eq_true rfl) ?_
  have hB0 := KeepB.refl w.heap.size ([br, bs, bm]) w
  refine W.sr <| WL.m rfl rfl <| WL.c1 hb53 rfl rfl ((rd_numberS 0 dD [] _ h hb hc hl hpb hs (by simp) (bnd_blank dD))) (fun w1 hw1 => ?_)
  have hF2 := MapI.same (w1 := w1) hms (fun k hk hl => hw1.1.block k hl (by first | (simp only [List.mem_cons, List.not_mem_nil, or_false, not_or, not_false_eq_true]; omega) | (simp only [List.mem_cons, List.not_mem_nil, or_false, not_or, not_false_eq_true]; have := hk.1; omega)))
  have hF3 := MapI.same (w1 := w1) hmm (fun k hk hl => hw1.1.block k hl (by first | (simp only [List.mem_cons, List.not_mem_nil, or_false, not_or, not_false_eq_true]; omega) | (simp only [List.mem_cons, List.not_mem_nil, or_false, not_or, not_false_eq_true]; have := hk.1; omega)))
  have hk4 := Blk.keepB hf hw1.1 hf.lt (by simp only [List.mem_cons, List.not_mem_nil, or_false, not_or, not_false_eq_true]; omega)
  have hv5 := BytesAt.keepB hb hw1.1 (fun h0 => ⟨hb.lt h0, by first | simpa using (hpb) h0 | (have q := (hpb) h0; have q1 := hb.lt h0; simp only [List.mem_cons, List.not_mem_nil, or_false, not_or, not_false_eq_true]; omega)⟩)
  have hB6 := KeepB.trans hB0 (KeepB.wide hw1.1 hB0.size (by simp <;> omega))
  have hm2 := hw1.2
  refine WL.z rfl rfl ?_
  refine W.sr <| WL.m rfl rfl <| WL.c1 hb53 rfl rfl ((rd_numberS (ps.length + 1) oO [32] _ hm2 hv5 hc hl hpb s1 dD (bnd_blank dD))) (fun w7 hw7 => ?_)
  have hF8 := MapI.same (w1 := w7) hF2 (fun k hk hl => hw7.1.block k hl (by first | (simp only [List.mem_cons, List.not_mem_nil, or_false, not_or, not_false_eq_true]; omega) | (simp only [List.mem_cons, List.not_mem_nil, or_false, not_or, not_false_eq_true]; have := hk.1; omega)))
  have hF9 := MapI.same (w1 := w7) hF3 (fun k hk hl => hw7.1.block k hl (by first | (simp only [List.mem_cons, List.not_mem_nil, or_false, not_or, not_false_eq_true]; omega) | (simp only [List.mem_cons, List.not_mem_nil, or_false, not_or, not_false_eq_true]; have := hk.1; omega)))
  have hk10 := Blk.keepB hk4 hw7.1 hk4.lt (by simp only [List.mem_cons, List.not_mem_nil, or_false, not_or, not_false_eq_true]; omega)
  have hv11 := BytesAt.keepB hv5 hw7.1 (fun h0 => ⟨hv5.lt h0, by first | simpa using (hpb) h0 | (have q := (hpb) h0; have q1 := hv5.lt h0; simp only [List.mem_cons, List.not_mem_nil, or_false, not_or, not_false_eq_true]; omega)⟩)
  have hB12 := KeepB.trans hB6 (KeepB.wide hw7.1 hB6.size (by simp <;> omega))
  have hm3 := hw7.2
  refine WL.z rfl rfl ?_
  refine W.sr <| WL.m rfl rfl <| WL.c1 hb26 rfl rfl ((rd_blanksS 10 48 ((f_first.tail ++ ps.flatMap entryF) ++ rest) (by rw [← e48]; exact hm3) hv11 hl hpb (by rw [← e48]; exact s2) dD dD)) (fun w13 hw13 => ?_)
  have hF14 := MapI.same (w1 := w13) hF8 (fun k hk hl => hw13.1.block k hl (by first | (simp only [List.mem_cons, List.not_mem_nil, or_false, not_or, not_false_eq_true]; omega) | (simp only [List.mem_cons, List.not_mem_nil, or_false, not_or, not_false_eq_true]; have := hk.1; omega)))
  have hF15 := MapI.same (w1 := w13) hF9 (fun k hk hl => hw13.1.block k hl (by first | (simp only [List.mem_cons, List.not_mem_nil, or_false, not_or, not_false_eq_true]; omega) | (simp only [List.mem_cons, List.not_mem_nil, or_false, not_or, not_false_eq_true]; have := hk.1; omega)))
  have hk16 := Blk.keepB hk10 hw13.1 hk10.lt (by simp only [List.mem_cons, List.not_mem_nil, or_false, not_or, not_false_eq_true]; omega)
  have hv17 := BytesAt.keepB hv11 hw13.1 (fun h0 => ⟨hv11.lt h0, by first | simpa using (hpb) h0 | (have q := (hpb) h0; have q1 := hv11.lt h0; simp only [List.mem_cons, List.not_mem_nil, or_false, not_or, not_false_eq_true]; omega)⟩)
  have hB18 := KeepB.trans hB12 (KeepB.wide hw13.1 hB12.size (by simp <;> omega))
  have hm4 := hw13.2
  refine WL.nil <| ?_
  refine W.sr <| WL.m rfl rfl <| WL.m rfl rfl <| WL.nil <| ?_
  refine W.block ?_
  refine W.loop (α := Nat) (fun t => [(0, .pointer (some ⟨br, 0, none⟩)), (1, .pointer (some ⟨bf, 0, none⟩)), (2, .map (some bs)), (6, .int .i64 0), (18, .int .i64 ((ps.length + 1 : Nat) : Int)), (19, .int .i64 (t : Int))]) (fun t w' => KeepB w.heap.size [br, bs, bm] w w' ∧ Blk w' br (rdC p l c (sx l (remF ps rest t))) 57 ∧ Blk w' bf cs 60 ∧ BytesAt w' p l ∧ MapI Tryz.prog 3 3 w' bs t (seenG t) t ∧ MapI Tryz.prog 3 3 w' bm (t - 1) (plG (ps.take (t - 1))) (t - 1) ∧ t ≤ ps.length + 1) (fun t => ps.length + 1 - t) (0) ⟨rfl, rfl, rfl, rfl, rfl, rfl, trivial⟩ (⟨hB18, by rw [e0]; exact hm4, hk16, hv17, hF14, hF15, Nat.zero_le _⟩) (fun t w1 hR => ?_)
  obtain ⟨i, rfl⟩ : ∃ i, i = t := ⟨t, rfl⟩
  obtain ⟨q1, q2, q3, q4, q5, q6, q7⟩ := hR
  have q5l := q5.lt
  have q6l := q6.lt
  refine W.sr <| WL.p (.lss rfl rfl) rfl <| WL.nil <| ?_
  refine W.seq <| W.cond rfl (fun h19 => ?_) (fun h19 => ?_)
  · have h19' := dT h19
    refine W.skip <| W.seq <| W.block <| W.sr <| WL.m rfl rfl <| WL.z rfl rfl ?_
    refine W.sr <| WL.m rfl rfl <| WL.c1 hb68 rfl rfl ((rd_entryI br p l c ps rest i _ q2 q4 hc hl hpb (hrem i oO) hps oO)) (fun w20 hw20 => ?_)
    have hF21 := MapI.same (w1 := w20) q5 (fun k hk hl => hw20.1.block k hl (by first | (simp only [List.mem_cons, List.not_mem_nil, or_false, not_or, not_false_eq_true]; omega) | (simp only [List.mem_cons, List.not_mem_nil, or_false, not_or, not_false_eq_true]; have := hk.1; omega)))
    have hF22 := MapI.same (w1 := w20) q6 (fun k hk hl => hw20.1.block k hl (by first | (simp only [List.mem_cons, List.not_mem_nil, or_false, not_or, not_false_eq_true]; omega) | (simp only [List.mem_cons, List.not_mem_nil, or_false, not_or, not_false_eq_true]; have := hk.1; omega)))
    have hk23 := Blk.keepB q3 hw20.1 q3.lt (by simp only [List.mem_cons, List.not_mem_nil, or_false, not_or, not_false_eq_true]; omega)
    have hv24 := BytesAt.keepB q4 hw20.1 (fun h0 => ⟨q4.lt h0, by first | simpa using (hpb) h0 | (have q := (hpb) h0; have q1 := q4.lt h0; simp only [List.mem_cons, List.not_mem_nil, or_false, not_or, not_false_eq_true]; omega)⟩)
    have hB25 := KeepB.trans q1 (KeepB.wide hw20.1 q1.size (by simp <;> omega))
    have hm5 := hw20.2
    refine WL.m rfl rfl <| WL.p (.ext rfl rfl) rfl <| WL.p (.ext rfl rfl) rfl <| WL.a rfl rfl <| WL.z rfl rfl ?_
    refine W.sr <| WL.m rfl rfl <| WL.m rfl rfl <| WL.p (.iis ((i : Int)) (.add rfl rfl (i64w oO)) oO) rfl <| WL.z rfl rfl ?_
    refine W.seq <| W.sr <| WL.m rfl rfl <| WL.p (.bis (false) (.gtr rfl rfl) (by exact decide_eq_false oO)) rfl <| WL.m rfl rfl <| WL.gy rfl rfl rfl rfl <| WL.m rfl rfl <| WL.gy rfl rfl rfl rfl <| WL.m rfl rfl <| WL.gy rfl rfl rfl rfl <| WL.r (Rd.lkI hF21 underlying3 underlying3 underlying58 zeroValue3 rfl rfl (wfI oO)) rfl <| WL.gy rfl rfl rfl rfl <| WL.p (.bis (false) (.gtr rfl rfl) (by rw [seenG_at]; rfl)) rfl <| WL.p (.pkF rfl rfl rfl) rfl <| WL.nil <| ?_
    refine W.condF rfl rfl ?_
    refine W.skip <| W.sr <| WL.m rfl rfl <| WL.m rfl rfl <| WL.r (Rd.lkI hF21 underlying3 underlying3 underlying58 zeroValue3 rfl rfl (wfI oO)) rfl <| WL.p (.iis (1) (.add rfl rfl (i64w (by rw [seenG_at]; decide))) (by rw [seenG_at]; rfl)) rfl <| WL.upI hF21 underlying3 underlying3 underlying58 rfl rfl rfl (wfI oO) (wfI dD) (oO) (fun w26 hmw26 huw26 hsw26 => ?_)
    have hF27 := MapI.same (w1 := w26) hF22 (fun k hk hl => huw26.other k (by first | ((try simp only) <;> omega) | (have := hk.1; ((try simp only) <;> omega))))
    have hk28 := hk23.up huw26
    have hk29 := hm5.upd huw26 oM
    have hv30 := BytesAt.upd hv24 huw26 hpb2
    have hB31 := KeepB.trans hB25 (by first | exact KeepB.of_new huw26 oO | exact KeepB.of_mem huw26 (by simp))
    refine WL.nil <| ?_
    refine W.seq ?_
    have hfs := hmw26
    rw [seenG_put, seenG_at, if_neg (by simp)] at hfs
    refine W.reg <| WL.m rfl rfl <| WL.nil <| ?_
    refine W.cond rfl (fun h32 => ?_) (fun h32 => ?_)
    obtain ⟨j, rfl⟩ : ∃ j, i = j + 1 := ⟨i - 1, by have := dT (show decide (0 < i) = true by assumption); omega⟩
    have hj : j < ps.length := by omega
    have hv : plV ps (j + 1) = ps[j] := by show ps.getD j 0 = _; rw [List.getD_eq_getElem?_getD, List.getElem?_eq_getElem hj]; rfl
    have hvl := hps _ (List.getElem_mem hj)
    refine W.reg <| WL.m rfl rfl <| WL.p (.nck rfl) rfl <| WL.p (.fa underlying60 rfl sizeOf58 dD rfl) rfl <| WL.r (Rd.ld (isAgg58 _) rfl hk28 h1) rfl <| WL.m rfl rfl <| WL.m rfl rfl <| WL.upI hF27 underlying3 underlying3 underlying58 rfl rfl rfl (wfI oO) (wfI oO) (oO) (fun w33 hmw33 huw33 hsw33 => ?_)
    have hF34 := MapI.same (w1 := w33) hfs (fun k hk hl => huw33.other k (by first | ((try simp only) <;> omega) | (have := hk.1; ((try simp only) <;> omega))))
    have hk35 := hk28.up huw33
    have hk36 := hk29.up huw33
    have hv37 := BytesAt.upd hv30 huw33 hpb3
    have hB38 := KeepB.trans hB31 (by first | exact KeepB.of_new huw33 oO | exact KeepB.of_mem huw33 (by simp))
    refine WL.nil <| ?_
    refine W.reg <| WL.p (.add rfl rfl (i64w oO)) rfl <| WL.m rfl rfl <| WL.nil <| ?_
    first
    | (have hfm := hmw33
       rw [hv] at hfm
       simp only [Nat.add_sub_cancel] at hfm
       rw [plG_put ps j hj, plG_at, if_neg (by simp)] at hfm
       exact ⟨j + 1 + 1, ⟨rfl, rfl, rfl, rfl, rfl, rfl, trivial⟩, ⟨hB38, hk36, hk35, hv37, hF34, hfm, by ((try simp only) <;> omega)⟩, by ((try simp only) <;> omega)⟩)
    | exact ⟨1, ⟨rfl, rfl, rfl, rfl, rfl, rfl, trivial⟩, ⟨hB38, hk36, hk35, hv37, hF34, hmw33, by ((try simp only) <;> omega)⟩, by ((try simp only) <;> omega)⟩
    obtain rfl : i = 0 := by have := dF (show decide (0 < i) = false by assumption); omega
    refine W.skip <| W.reg <| WL.p (.add rfl rfl (i64w oO)) rfl <| WL.m rfl rfl <| WL.nil <| ?_
    first
    | (have hfm := hF27
       rw [hv] at hfm
       simp only [Nat.add_sub_cancel] at hfm
       rw [plG_put ps j hj, plG_at, if_neg (by simp)] at hfm
       exact ⟨j + 1 + 1, ⟨rfl, rfl, rfl, rfl, rfl, rfl, trivial⟩, ⟨hB31, hk29, hk28, hv30, hfs, hfm, by ((try simp only) <;> omega)⟩, by ((try simp only) <;> omega)⟩)
    | exact ⟨1, ⟨rfl, rfl, rfl, rfl, rfl, rfl, trivial⟩, ⟨hB31, hk29, hk28, hv30, hfs, hF27, by ((try simp only) <;> omega)⟩, by ((try simp only) <;> omega)⟩
  have h19' := dF h19
  refine W.exit ?_
  refine W.norm (W.ret0 rfl ?_)
  obtain rfl : i = ps.length + 1 := by omega
  rw [eN] at q2
  rw [Nat.add_sub_cancel, List.take_length] at q6
  exact ⟨rfl, q1, q2, q5, q6⟩
end
section
theorem lib_idxN (q : Option Addr) (s : List (List UInt8)) (c : Nat) (x : List UInt8) (w : World) (hb : RowAt strV w q s) (hl : s.length ≤ 1000000000) (i : Nat) (hi : i < s.length) (hx : s[i] = x) (hf : x ∉ s.take i) :
    Calls Tryz.prog 72 #[.slice q s.length c, .string (bs x)] w fun e w' => e = .returned (.int .i64 (i : Int)) ∧ w = w' := by
  refine W.enter func72 rfl ntmps72 (Nat.le_of_ble_eq_true rfl) ?_
  refine W.sr <| WL.z rfl rfl ?_
  refine W.seq <| W.sr <| WL.m rfl rfl <| WL.p (.lenS underlying25 rfl) rfl <| WL.m rfl rfl <| WL.nil <| ?_
  refine W.block ?_
  refine W.loop (α := Nat) (fun t => [(0, .slice q s.length c), (1, .string (bs x)), (7, .int .i64 (s.length : Int)), (8, .int .i64 (t : Int))]) (fun t w' => w = w' ∧ t ≤ i) (fun t => s.length - t) (0) ⟨rfl, rfl, rfl, rfl, trivial⟩ (⟨rfl, Nat.zero_le _⟩) (fun t w1 hR => ?_)
  obtain ⟨k, rfl⟩ : ∃ i, i = t := ⟨t, rfl⟩
  obtain ⟨rfl, hk⟩ := hR
  refine W.sr <| WL.p (.lss rfl rfl) rfl <| WL.nil <| ?_
  refine W.seq <| W.cond rfl (fun h1 => ?_) (fun h1 => ?_)
  · have h1' := dT h1
    refine W.skip <| W.seq <| W.block <| W.sr <| WL.m rfl rfl <| WL.z rfl rfl ?_
    refine W.sr <| WL.m rfl rfl <| WL.m rfl rfl <| WL.m rfl rfl <| WL.p (.ixb underlying25 sizeOf9 rfl rfl (hb.isp oO) (k) (rfl) oO) rfl <| WL.r (Rd.ldc (isAgg9 _) rfl (hb.cells (k) oO)) rfl <| WL.p (.eqs rfl rfl) rfl <| WL.nil <| ?_
    refine W.cond rfl (fun h2 => ?_) (fun h2 => ?_)
    · have h2' := dT h2
      refine W.sr <| WL.m rfl rfl <| WL.z rfl rfl ?_
      refine W.ret (W.ret1 rfl rfl ?_)
      first
      | (exfalso; omega)
      | exact ⟨rvE (by
          rcases Nat.lt_or_ge k i with q1 | q1
          · exact absurd (show x ∈ s.take i by
              rw [show x = s[k]'oO by assumption]
              exact List.mem_take_iff_getElem.2 ⟨k, by omega, rfl⟩) hf
          · obtain rfl : k = i := by omega
            rfl), rfl⟩
    have h2' := dF h2
    refine W.skip <| W.reg <| WL.p (.iis (((k + 1 : Nat) : Int)) (.add rfl rfl (i64w oO)) oO) rfl <| WL.m rfl rfl <| WL.nil <| ?_
    exact ⟨k + 1, ⟨rfl, rfl, rfl, rfl, trivial⟩, ⟨rfl, by
      rcases Nat.lt_or_ge k i with q1 | q1
      · ((try simp only) <;> omega)
      · obtain rfl : k = i := by omega
        exact absurd hx.symm aS⟩, by ((try simp only) <;> omega)⟩
  have h1' := dF h1
  refine W.exit <| W.sr <| WL.z rfl rfl ?_
  refine W.ret (W.ret1 rfl rfl ?_)
  first
  | (exfalso; omega)
  | exact ⟨rvE (by
      rcases Nat.lt_or_ge k i with q1 | q1
      · exact absurd (show x ∈ s.take i by
          rw [show x = s[k]'oO by assumption]
          exact List.mem_take_iff_getElem.2 ⟨k, by omega, rfl⟩) hf
      · obtain rfl : k = i := by omega
        rfl), rfl⟩
theorem PRep.parts {w : World} {S : Nat → Prop} {x : PC} {k n : Int} {t : List UInt8} {ks : List (List UInt8)} {l : List PV} (h : PRep w S x (.mk k n t ks l)) : ∃ cs : List PC, x.kind = k ∧ x.n = n ∧ x.text = t ∧ StrsAt S w (.slice x.kp x.kl x.kc) ks ∧ RowIn S w (.slice x.lp x.ll x.lc) cs ∧ cs.length = l.length ∧ ∀ i (h : i < cs.length) (h2 : i < l.length), PRep w S cs[i] l[i] := by
 obtain ⟨o, ho⟩ : ∃ o, o = PV.mk k n t ks l := ⟨_, rfl⟩
 rw [← ho] at h
 cases h with
 | mk _ keys list cs hk hr hlen hsub =>
  injection ho with h1 h2 h3 h4 h5
  subst h1 h2 h3 h4 h5
  exact ⟨cs, rfl, rfl, rfl, hk, hr, hlen, hsub⟩
/-- a file's cells -/
def fdC (p : Option Addr) (l : List UInt8) (c bm : Nat) (y : PC) : Array Value := #[.slice p l.length c, .map (some bm), .int .i64 y.kind, .int .i64 y.n, .string (bs y.text), .slice y.kp y.kl y.kc, .slice y.lp y.ll y.lc, .slice none 0 0]
theorem pread_key (bf bm : Nat) (p : Option Addr) (l : List UInt8) (c : Nat) (y : PC) (S : Nat → Prop) (kd n : Int) (tx : List UInt8) (ks : List (List UInt8)) (vs : List PV) (x : List UInt8) (i : Nat) (w : World) (h : Blk w bf (fdC p l c bm y) 60)
  (hy : PRep w S y (.mk kd n tx ks vs)) (hi : i < ks.length) (hi2 : i < vs.length) (hl : ks.length ≤ 1000000000) (hx : ks[i] = x) (hf : x ∉ ks.take i) :
  Calls Tryz.prog 52 #[.pointer (some ⟨bf, 0, none⟩), .string (bs x)] w fun e w' => ∃ z : { z : PC // PRep w S z vs[i] }, e = .returned (.agg (pcV z.1).toArray) ∧ Below w.heap.size w w' := by
 obtain ⟨cs, -, -, -, hk, hr, hlen, hsub⟩ := hy.parts
 obtain ⟨k1, k2, k3, k4, -⟩ := hk.1.full
 obtain ⟨r1, r2, r3, r4, -⟩ := hr.1.full
 have k5 := k4.strs
 obtain ⟨yk, yn, yt, ykp, ykl, ykc, ylp, yll, ylc⟩ := y
 simp only at k1 r1 k5 r4 k2 r2
 subst k1 r1
 refine W.enter func52 rfl ntmps52 (Nat.le_of_ble_eq_true rfl) ?_
 have hB0 := Below.refl (w.heap.size) w
 refine W.sr <| WL.alloc zeroValue28 rfl (fun b1 wb1 eb1 hkb1 hub1 hsb1 => ?_)
 have hl3 : bf < b1 := by rw [eb1]; exact h.lt
 have hk2 := h.upd hub1 (Nat.ne_of_lt hl3)
 have hvl5 := fun h0 => eb1 ▸ k5.lt h0
 have hv4 := RowAt.upd k5 hub1 (fun h0 => Nat.ne_of_lt (hvl5 h0))
 have hvl7 := fun h0 => eb1 ▸ r4.lt h0
 have hv6 := RowM.upd r4 hub1 (fun h0 => Nat.ne_of_lt (hvl7 h0))
 have hB8 := Upd.below hB0 (by rw [eb1]; exact hB0.size) hub1
 have hgeb1 : w.heap.size ≤ b1 := by rw [eb1]; exact hB0.size
 refine WL.nil <| ?_
 refine W.sr <| WL.m rfl rfl <| WL.p (.nck rfl) rfl <| WL.p (.fa underlying60 rfl sizeOf28 dD rfl) rfl <| WL.p (.fa underlying28 rfl sizeOf25 dD rfl) rfl <| WL.r (Rd.ld (isAgg25 _) rfl hk2 rfl) rfl <| WL.m rfl rfl <| WL.c1 hb72 rfl rfl ((lib_idxN _ ks _ x _ hv4 hl i hi hx hf)) (fun w9 hw9 => ?_)
 obtain rfl := hw9
 refine WL.z rfl rfl ?_
 refine W.seq <| W.sr <| WL.m rfl rfl <| WL.p (.lss rfl rfl) rfl <| WL.nil <| ?_
 refine W.condF rfl rfl ?_
 refine W.skip <| W.sr <| WL.m rfl rfl <| WL.p (.nck rfl) rfl <| WL.p (.fa underlying60 rfl sizeOf28 dD rfl) rfl <| WL.p (.fa underlying28 rfl sizeOf22 dD rfl) rfl <| WL.r (Rd.ld (isAgg22 _) rfl hk2 rfl) rfl <| WL.m rfl rfl <| WL.p (.ixm underlying22 sizeOf28 rfl rfl (hv6.isp (by first | omega | (simp only [List.length_cons, List.length_nil]; omega))) (i) (rfl) (by show i < cs.length; omega)) rfl <| WL.r (Rd.ldS underlying28 rfl isz28 hv6 (i) (by first | omega | (simp only [List.length_cons, List.length_nil]; omega)) rfl) rfl <| WL.stL rfl rfl hkb1 isz28 rfl rfl (fun w10 hkw10 huw10 hsw10 => ?_)
 have hB14 := Upd.below hB8 oO huw10
 refine WL.nil <| ?_
 refine W.ret (W.retc1 rfl rfl (ldRow hkw10 underlying28 rfl isz28)  ?_)
 exact ⟨⟨_, hsub i oO hi2⟩, rfl, hB14⟩
end
section
section
variable {P : Program} {n : Sh} {f : Fr}
/-- a struct or an array into the middle of a block -/
theorem WL.stB {ops : Array Oper} {Q : Exit → Fr → World → Prop} {w : World} {rest : List Oper} {ty : Nat} {pos : String} {aft : Array Edge} {t tb : TypeId} {x y : Operand} {p : Addr} {b o : Nat} {cs : Array Value} {vs : List Value} (new : Array Value)
  (hx : evo f x = some (.pointer (some p))) (hp : p = ⟨b, o, none⟩) (hy : evo f y = some (.agg vs.toArray)) (hb : Blk w b cs tb) (hi : (P.info? t).map (·.size) = some vs.length) (h1 : ones vs = true) (ho : o + vs.length ≤ cs.size) (hn : (cs.toList.take o ++ vs ++ cs.toList.drop (o + vs.length)).toArray = new)
  (k : ∀ w1, Blk w1 b new tb → Upd b w w1 → w1.heap.size = w.heap.size → WL P n ops Q rest f w1) : WL P n ops Q (⟨none, .store t x y, ty, pos, aft, none⟩ :: rest) f w := by
 subst hp
 have hst := run_storeCells_at P b o tb vs 0 cs w hb oO (ones_mem h1)
 simp only [Nat.add_zero] at hst
 have hlt := hb.lt
 refine WL.act (w' := w.setRow b (cs.toList.take o ++ vs ++ cs.toList.drop (o + vs.length)).toArray) (fun ρ hρ => ?_)
  (k _ (hn ▸ setRow_heap w b cs _ tb _ hb) (Upd.setRow _ _ _) (by simp [World.setRow]))
 cases hq : P.info? t with
 | none => simp [hq] at hi
 | some i =>
  have hs : i.size = vs.length := by simpa [hq] using hi
  unfold execOp
  simp [hρ _ _ hx, hρ _ _ hy, Instr.storeAt, Instr.sureAddr, storeVar, Sem.run_bind, sizeOf, typeInfo, hq, hs, Value.cells, hst]
end
end
section
/-- an object behind blanks -/
theorem objT_sx {D : Int} {st : Bool} {o : AV} (h : Snd D st o) (h9 : o.kind ≠ 9) {l B r : List UInt8} (hs : (B ++ (prO o ++ r)) <:+ l) (hB : ∀ c ∈ B, blankB c = true) (hb : Bnd r) (hn : NoR o.kind r) (hd : dpO o ≤ 32) :
  objT l (sx l (B ++ (prO o ++ r)) : Nat) 32 = (pvO o, (sx l r : Int), 0) := by
 have e : skipS false (l.drop (sx l (B ++ (prO o ++ r)))) = prO o ++ r := by rw [sx_drop hs, skipS_blanks B _ hB]; exact pr_skip h r
 obtain ⟨h1, h2⟩ := skip_at e
 have hs2 := sfx_of hs
 have h3 := sx_len hs2
 obtain ⟨ch, rr, ec, hch⟩ := pr_head h
 rw [ec] at h3
 simp only [List.cons_append, List.length_cons] at h3
 have h4 : l.length - (prO o ++ r).length = sx l (prO o ++ r) := rfl
 rw [objT_in (sx_le _ _) h1 (by rw [h4, ec]; simp only [List.cons_append]; omega), reads h h9 l _ r (32 : Int).toNat (by rw [h4]; exact sx_le _ _) (by rw [h4]; exact sx_drop hs2) hb hn, if_pos (by show dpO o ≤ 32; exact hd)]
 rfl
def kRoot : List UInt8 := [82, 111, 111, 116]
def kSize : List UInt8 := [83, 105, 122, 101]
/-- the trailer -/
def trA (K : Nat) : AV := .mk 7 0 [] [kRoot, kSize] [.mk 8 1 [] [] [] [], .mk 2 (K : Int) [] [] [] []] []
theorem trA_pr (K : Nat) : prO (trA K) = [60, 60, 32, 47, 82, 111, 111, 116, 32, 49, 32, 48, 32, 82, 32, 47, 83, 105, 122, 101, 32] ++ (digitsL K ++ [32, 62, 62]) := by
 have h1 : nmT kRoot = [47, 82, 111, 111, 116] := by decide
 have h2 : nmT kSize = [47, 83, 105, 122, 101] := by decide
 have h4 : ∀ K : Nat, decL (K : Int) = digitsL K := fun K => by unfold decL; rw [if_neg oO]; simp
 have h3 : decL (1 : Int) = [49] := by rw [show (1 : Int) = ((1 : Nat) : Int) from rfl, h4, digitsL_lt 1 dD]; rfl
 simp [trA, prO, prP, h1, h2, h3, h4]
theorem trA_snd (K : Nat) (hK : K ≤ 10000) : Snd 32 true (trA K) := by
 refine .dict _ _ 7 _ _ _ (.inl ⟨rfl, rfl⟩) dD (by simp) rfl ?_ dD ?_
 ·
  intro x hx
  rcases List.mem_cons.1 hx with rfl | hx
  ·
   exact ⟨by decide, by decide, by decide⟩
  ·
   rw [List.mem_singleton] at hx; subst hx; exact ⟨by decide, by decide, by decide⟩
 ·
  intro o ho
  rcases List.mem_cons.1 ho with rfl | ho
  ·
   exact .ref _ _ _ dD
  ·
   rw [List.mem_singleton] at ho; subst ho
   exact .num _ _ _ _ (.inl rfl) (by unfold fitsB; simp; omega)
def f_tr : List UInt8 := [116, 114, 97, 105, 108, 101, 114]
/-- what is still to read ahead of the table's word, and behind its section -/
def tabR (ps : List Nat) (r : List UInt8) : Nat → List UInt8
 | 0 => digitsL 0 ++ (32 :: (digitsL (ps.length + 1) ++ (10 :: (tableF ps ++ (f_tr ++ (10 :: (prO (trA (ps.length + 1)) ++ (10 :: r))))))))
 | _ + 1 => f_tr ++ (10 :: (prO (trA (ps.length + 1)) ++ (10 :: r)))
def trP (K : Nat) : PV := .mk 7 0 [] [kRoot, kSize] [.mk 8 1 [] [] [], .mk 2 (K : Int) [] [] []]
theorem pvO_tr (K : Nat) : pvO (trA K) = trP K := by simp [trA, trP, pvO, pvL]
theorem PRep.kindE {w : World} {S : Nat → Prop} {x : PC} {k n : Int} {t : List UInt8} {ks : List (List UInt8)} {l : List PV} (h : PRep w S x (.mk k n t ks l)) : x.kind = k := h.parts.choose_spec.1
theorem seenG0 : seenG 0 = fun _ => none := by funext x; unfold seenG; rw [if_neg oO]
theorem tabW (k : Nat) (h : k ≤ 1) : decide ((if k = 0 then [48] else f_tr) = [116, 114, 97, 105, 108, 101, 114]) = decide (k = 1) := by
 rcases (by omega : k = 0 ∨ k = 1) with rfl | rfl
 ·
  decide
 ·
  decide
theorem dpO_tr (K : Nat) : dpO (trA K) ≤ 32 := by simp [trA, dpO, dpL]
theorem rd_table (br bf bm : Nat) (p : Option Addr) (l : List UInt8) (c : Nat) (ps : List Nat) (r : List UInt8) (w : World)
  (h : Blk w br (rdC p l c (sx l ([120, 114, 101, 102] ++ (10 :: tabR ps r 0)))) 57) (hf : Blk w bf (fdC p l c bm (pc0 0 0 [])) 60)
  (hmm : MapI Tryz.prog 3 3 w bm 0 (plG []) 0)
  (hb : BytesAt w p l) (hc : l.length ≤ c) (hl : l.length ≤ 100000000) (hs : ([120, 114, 101, 102] ++ (10 :: tabR ps r 0)) <:+ l) (hps : ∀ n ∈ ps, n < 10000000000) (hpl : ps.length ≤ 4096)
  (hpb : 0 < l.length → (pA p).block ≠ br) (hpb2 : 0 < l.length → (pA p).block ≠ bf) (hpb3 : 0 < l.length → (pA p).block ≠ bm)
  (n1 : bf ≠ br) (n3 : bm ≠ br) (n6 : bf ≠ bm) :
  Calls Tryz.prog 28 #[.pointer (some ⟨br, 0, none⟩), .pointer (some ⟨bf, 0, none⟩)] w fun e w' => e = .returned (.tuple #[]) ∧ KeepB w.heap.size [br, bf, bm] w w' ∧
   ∃ y, Blk w' bf (fdC p l c bm y) 60 ∧ PRep w' (fun k => w.heap.size ≤ k) y (trP (ps.length + 1)) ∧ MapI Tryz.prog 3 3 w' bm ps.length (plG ps) ps.length := by
 have s0 : (10 :: tabR ps r 0) <:+ l := sfx_of hs
 have e48 : tabR ps r 0 = 48 :: (32 :: (digitsL (ps.length + 1) ++ (10 :: (tableF ps ++ (f_tr ++ (10 :: (prO (trA (ps.length + 1)) ++ (10 :: r)))))))) := by
  show digitsL 0 ++ _ = _
  rw [digitsL_lt 0 dD]; rfl
 have s1 : tabR ps r 0 <:+ l := sfx_cons s0
 have sT : ∀ t, tabR ps r t <:+ l := fun t => by
  cases t with
  | zero => exact s1
  | succ t =>
   have q : (tableF ps ++ tabR ps r 1) <:+ l := sfx_cons (sfx_of (sfx_cons (sfx_of (A := digitsL 0) s1)))
   exact sfx_of q
 have s2 : (10 :: (prO (trA (ps.length + 1)) ++ (10 :: r))) <:+ l := sfx_of (sT 1)
 have hW : ∀ t, wordL l (skipAt false l (sx l (tabR ps r t))) = if t = 0 then [48] else f_tr := fun t => by
  cases t with
  | zero => exact (nw_at (B := []) (A := digitsL 0) (sx_drop (sT 0)) (by simp) (dig_ne 0) (digc_regs 0) (bnd_blank dD)).1.trans (digitsL_lt 0 dD)
  | succ t => exact (nw_at (B := []) (A := f_tr) (sx_drop (sT (t + 1))) (by simp) dD dD (bnd_blank dD)).1
 have hN : wordAt l (skipAt false l (sx l (tabR ps r 1))) = sx l (10 :: (prO (trA (ps.length + 1)) ++ (10 :: r))) := (nw_at (B := []) (A := f_tr) (sx_drop (sT 1)) (by simp) dD dD (bnd_blank dD)).2.1
 have hO := objT_sx (B := [10]) (trA_snd (ps.length + 1) oO) (by simp [trA, AV.kind]) s2 dD (bnd_blank dD) (fun q => by simp [trA, AV.kind] at q) (dpO_tr _)
 rw [pvO_tr] at hO
 have hmml := hmm.lt
 refine W.enter func28 rfl ntmps28 (Nat.le_of_ble_eq_true rfl) ?_
 have hB0 := KeepB.refl w.heap.size ([br, bf, bm]) w
 refine W.sr <| WL.m rfl rfl <| WL.c1 hb36 rfl rfl ((rd_wordS [] [120, 114, 101, 102] _ h hb hc hl hpb hs (by simp) dD dD (bnd_blank dD))) (fun w1 hw1 => ?_)
 have hF2 := MapI.same (w1 := w1) hmm (fun k hk hl => hw1.1.block k hl (by first | (simp only [List.mem_cons, List.not_mem_nil, or_false, not_or, not_false_eq_true]; omega) | (simp only [List.mem_cons, List.not_mem_nil, or_false, not_or, not_false_eq_true]; have := hk.1; omega)))
 have hk3 := Blk.keepB hf hw1.1 hf.lt (by simp only [List.mem_cons, List.not_mem_nil, or_false, not_or, not_false_eq_true]; omega)
 have hv4 := BytesAt.keepB hb hw1.1 (fun h0 => ⟨hb.lt h0, by first | simpa using (hpb) h0 | (have q := (hpb) h0; have q1 := hb.lt h0; simp only [List.mem_cons, List.not_mem_nil, or_false, not_or, not_false_eq_true]; omega)⟩)
 have hB5 := KeepB.trans hB0 (KeepB.wide hw1.1 hB0.size (by simp <;> omega))
 have hm2 := hw1.2
 refine WL.nil <| ?_
 refine W.sr <| WL.m rfl rfl <| WL.c1 hb26 rfl rfl ((rd_blanksS 10 48 _ (by rw [← e48]; exact hm2) hv4 hl hpb (by rw [← e48]; exact s0) dD dD)) (fun w6 hw6 => ?_)
 have hF7 := MapI.same (w1 := w6) hF2 (fun k hk hl => hw6.1.block k hl (by first | (simp only [List.mem_cons, List.not_mem_nil, or_false, not_or, not_false_eq_true]; omega) | (simp only [List.mem_cons, List.not_mem_nil, or_false, not_or, not_false_eq_true]; have := hk.1; omega)))
 have hk8 := Blk.keepB hk3 hw6.1 hk3.lt (by simp only [List.mem_cons, List.not_mem_nil, or_false, not_or, not_false_eq_true]; omega)
 have hv9 := BytesAt.keepB hv4 hw6.1 (fun h0 => ⟨hv4.lt h0, by first | simpa using (hpb) h0 | (have q := (hpb) h0; have q1 := hv4.lt h0; simp only [List.mem_cons, List.not_mem_nil, or_false, not_or, not_false_eq_true]; omega)⟩)
 have hB10 := KeepB.trans hB5 (KeepB.wide hw6.1 hB5.size (by simp <;> omega))
 have hm4 := hw6.2
 refine WL.nil <| ?_
 refine W.seq <| W.reg ?_
 have hv0 := hv9
 have hbr0 := (hm4).lt
 have hbf0 := (hk8).lt
 have hbm0 := (hF7).lt
 refine WL.mkI 3 3 rfl (fun b11 wb11 eb11 hmb11 hub11 hsb11 => ?_)
 have hF12 := MapI.same (w1 := wb11) hF7 (fun k hk hl => hub11.other k oO)
 have hl14 : bf < b11 := by rw [eb11]; exact hk8.lt
 have hk13 := hk8.upd hub11 (Nat.ne_of_lt hl14)
 have hl16 : br < b11 := by rw [eb11]; exact hm4.lt
 have hk15 := hm4.upd hub11 (Nat.ne_of_lt hl16)
 have hvl18 := fun h0 => eb11 ▸ hv9.lt h0
 have hv17 := bup hv9 hub11 hvl18
 have hgeb11 : w.heap.size ≤ b11 := by rw [eb11]; exact hB10.size
 have hB19 := KeepB.trans hB10 (KeepB.of_new hub11 hgeb11)
 refine WL.z rfl rfl ?_
 refine W.seq <| W.sr <| WL.z rfl rfl ?_
 refine W.block ?_
 have hpb4 : 0 < l.length → (pA p).block ≠ b11 := fun h0 => by have := hv0.lt h0; omega
 have hfs1 := hmb11
 have hfs0 := hfs1.lt
 have hge0 := hB19.size
 have hva := hv17
 refine W.loop (α := Nat) (fun t => [(0, .pointer (some ⟨br, 0, none⟩)), (1, .pointer (some ⟨bf, 0, none⟩)), (4, .map (some b11)), (5, .int .i64 (t : Int))]) (fun t w' => KeepB w.heap.size [br, bf, bm] w w' ∧ Blk w' br (rdC p l c (sx l (tabR ps r t))) 57 ∧ Blk w' bf (fdC p l c bm (pc0 0 0 [])) 60 ∧ BytesAt w' p l ∧ MapI Tryz.prog 3 3 w' b11 (t * (ps.length + 1)) (seenG (t * (ps.length + 1))) (t * (ps.length + 1)) ∧ MapI Tryz.prog 3 3 w' bm (t * ps.length) (plG (ps.take (t * ps.length))) (t * ps.length) ∧ t ≤ 1) (fun t => 1 - t) (0) ⟨rfl, rfl, rfl, rfl, trivial⟩ (⟨hB19, by rw [e48]; exact hk15, hk13, hv17, by simpa [seenG0] using hmb11, by simpa using hF12, Nat.zero_le _⟩) (fun t w1 hR => ?_)
 obtain ⟨k, rfl⟩ : ∃ i, i = t := ⟨t, rfl⟩
 obtain ⟨q1, q2, q3, q4, q5, q6, q7⟩ := hR
 have q5l := q5.lt
 have q6l := q6.lt
 refine W.seq <| W.block <| W.seq <| W.regH 19 rfl mixed (fun w' => w'.heap[br]? = w1.heap[br]? ∧ True) (fun w20 dw20 => ?_)
 have hF21 := MapI.same (w1 := w20) q5 (fun k hk hl => (by obtain ⟨m, rfl⟩ := dw20; rfl))
 have hF22 := MapI.same (w1 := w20) q6 (fun k hk hl => (by obtain ⟨m, rfl⟩ := dw20; rfl))
 have hk23 := q2.drew dw20
 have hk24 := q3.drew dw20
 have hv25 := q4.drew dw20
 have hB26 := KeepB.trans q1 (KeepB.of_drew dw20)
 refine WH.tp 0 rfl (.mv rfl) ⟨(hk23).trans (q2).symm, trivial⟩ rfl ?_
 refine WH.tp 1 rfl (.nck rfl) ⟨(hk23).trans (q2).symm, trivial⟩ rfl ?_
 refine WH.tp 2 rfl (.fa underlying57 rfl sizeOf26 dD rfl) ⟨(hk23).trans (q2).symm, trivial⟩ rfl ?_
 refine WH.tk 3 rfl (fun w' hw' => Rd.ld (isAgg26 _) rfl ((hw'.1).trans q2) rfl) ⟨(hk23).trans (q2).symm, trivial⟩ rfl ?_
 refine WH.tp 4 rfl (.mv rfl) ⟨(hk23).trans (q2).symm, trivial⟩ rfl ?_
 refine WH.tp 5 rfl (.nck rfl) ⟨(hk23).trans (q2).symm, trivial⟩ rfl ?_
 refine WH.tp 6 rfl (.fa underlying57 rfl sizeOf26 dD rfl) ⟨(hk23).trans (q2).symm, trivial⟩ rfl ?_
 refine WH.tk 7 rfl (fun w' hw' => Rd.ld (isAgg26 _) rfl ((hw'.1).trans q2) rfl) ⟨(hk23).trans (q2).symm, trivial⟩ rfl ?_
 refine WH.tp 8 rfl (.mv rfl) ⟨(hk23).trans (q2).symm, trivial⟩ rfl ?_
 refine WH.tp 9 rfl (.nck rfl) ⟨(hk23).trans (q2).symm, trivial⟩ rfl ?_
 refine WH.tp 10 rfl (.fa underlying57 rfl sizeOf3 dD rfl) ⟨(hk23).trans (q2).symm, trivial⟩ rfl ?_
 refine WH.tk 11 rfl (fun w' hw' => Rd.ld (isAgg3 _) rfl ((hw'.1).trans q2) rfl) ⟨(hk23).trans (q2).symm, trivial⟩ rfl ?_
 refine WH.br1 12 rfl ?_
 refine WL.c1 hb34 rfl rfl ((plex_SkipN p l c _ _ (sx_le _ _) hv25 hl)) (fun w27 hw27 => ?_)
 obtain rfl := hw27
 refine WL.nil <| ?_
 refine ⟨⟨(hk23).trans (q2).symm, trivial⟩, ?_⟩
 refine WH.br1 13 rfl ?_
 refine WL.c1 hb33 rfl rfl ((plex_WordN p l c _ _ (skipAt_le _ _ _) hv25 hc hl)) (fun w28 hw28 => ?_)
 obtain rfl := hw28
 refine WL.nil <| ?_
 refine ⟨⟨(hk23).trans (q2).symm, trivial⟩, ?_⟩
 refine WH.tp 14 rfl (.mv rfl) ⟨(hk23).trans (q2).symm, trivial⟩ rfl ?_
 refine WH.tp 15 rfl (.ext rfl rfl) ⟨(hk23).trans (q2).symm, trivial⟩ rfl ?_
 refine WH.tp 16 rfl (.ext rfl rfl) ⟨(hk23).trans (q2).symm, trivial⟩ rfl ?_
 refine WH.tp 17 rfl (.as rfl) ⟨(hk23).trans (q2).symm, trivial⟩ rfl ?_
 refine WH.tp 18 rfl (.as rfl) ⟨(hk23).trans (q2).symm, trivial⟩ rfl ?_
 refine WH.done kR ?_
 refine W.seq ?_
 refine W.cutB 40 (decide (k = 1)) ?_ ?_
 refine W.reg <| WL.m rfl rfl <| WL.p (.bis (decide (k = 1)) (.eqs rfl rfl) (by rw [hW]; exact tabW k q7)) rfl <| WL.m rfl rfl <| WL.gd rfl rfl rfl (fun g29 => ?_) (fun g29 => ?_)
 have g29' := dT g29
 refine WL.m rfl rfl <| WL.gy rfl rfl rfl g29 <| WL.p (.gtr rfl rfl) rfl <| WL.p (.pkT rfl g29 rfl) rfl <| WL.nil <| ?_
 exact ⟨leE (lk_b rfl (by first | (apply Bool.eq_iff_iff.2; (try simp) <;> omega) | simp_all)), rfl⟩
 have g29' := dF g29
 refine WL.gn rfl rfl rfl g29 <| WL.p (.pkF rfl g29 rfl) rfl <| WL.nil <| ?_
 exact ⟨leE (lk_b rfl (by first | (apply Bool.eq_iff_iff.2; (try simp) <;> omega) | simp_all)), rfl⟩
 refine W.cond rfl (fun h30 => ?_) (fun h30 => ?_)
 have h30' := dT h30
 obtain rfl : k = 1 := by assumption
 rw [hN]
 refine W.sr <| WL.m rfl rfl <| WL.m rfl rfl <| WL.p (.nck rfl) rfl <| WL.p (.fa underlying57 rfl sizeOf3 dD rfl) rfl <| WL.st sizeOf3 rfl rfl rfl hk23 oD (fun w31 hkw31 huw31 hsw31 => ?_)
 have hkw31 : Blk w31 br _ _ := hkw31
 have huw31 : Upd br _ _ := huw31
 have hF33 := MapI.same (w1 := w31) hF22 (fun k hk hl => huw31.other k (by first | ((try simp only) <;> omega) | (have := hk.1; ((try simp only) <;> omega))))
 have hk34 := hk24.up huw31
 have hv35 := BytesAt.upd hv25 huw31 hpb
 have hB36 := KeepB.trans hB26 (by first | exact KeepB.of_new huw31 oO | exact KeepB.of_mem huw31 (by simp))
 refine WL.nil <| ?_
 refine W.exit <| W.seq <| W.regH 17 rfl mixed (fun w' => w'.heap[br]? = w31.heap[br]? ∧ True) (fun w37 dw37 => ?_)
 have hF39 := MapI.same (w1 := w37) hF33 (fun k hk hl => (by obtain ⟨m, rfl⟩ := dw37; rfl))
 have hk40 := hkw31.drew dw37
 have hk41 := hk34.drew dw37
 have hv42 := hv35.drew dw37
 have hB43 := KeepB.trans hB36 (KeepB.of_drew dw37)
 refine WH.tp 0 rfl (.mv rfl) ⟨(hk40).trans (hkw31).symm, trivial⟩ rfl ?_
 refine WH.tp 1 rfl (.nck rfl) ⟨(hk40).trans (hkw31).symm, trivial⟩ rfl ?_
 refine WH.tp 2 rfl (.fa underlying57 rfl sizeOf26 dD rfl) ⟨(hk40).trans (hkw31).symm, trivial⟩ rfl ?_
 refine WH.tk 3 rfl (fun w' hw' => Rd.ld (isAgg26 _) rfl ((hw'.1).trans hkw31) rfl) ⟨(hk40).trans (hkw31).symm, trivial⟩ rfl ?_
 refine WH.tp 4 rfl (.mv rfl) ⟨(hk40).trans (hkw31).symm, trivial⟩ rfl ?_
 refine WH.tp 5 rfl (.nck rfl) ⟨(hk40).trans (hkw31).symm, trivial⟩ rfl ?_
 refine WH.tp 6 rfl (.fa underlying57 rfl sizeOf3 dD rfl) ⟨(hk40).trans (hkw31).symm, trivial⟩ rfl ?_
 refine WH.tk 7 rfl (fun w' hw' => Rd.ld (isAgg3 _) rfl ((hw'.1).trans hkw31) rfl) ⟨(hk40).trans (hkw31).symm, trivial⟩ rfl ?_
 refine WH.br2 8 rfl 13 rfl ?_ ?_
 refine WL.call hb51 rfl rfl ((plex_ObjectN p l c _ _ _ _ hv42 hc hl hO)) (fun rr w44 hw44 => ?_)
 have hF46 := MapI.same (w1 := w44) hF39 (fun k hk hl => hw44.1.block k hl)
 have hk47 := hk40.below hw44.1 hk40.lt
 have hk48 := hk41.below hw44.1 hk41.lt
 have hB50 := KeepB.trans hB43 (KeepB.of_below hw44.1 hB43.size)
 obtain ⟨y, rfl, hy0⟩ := hw44.2
 have hs0 := hB43.size
 have hy := hy0.mono (T := fun k => w.heap.size ≤ k ∧ w37.heap.size ≤ k ∧ k < w44.heap.size) (fun k hk hlt => ⟨Nat.le_trans hs0 hk, hk, hlt⟩)
 have hyk := hy0.kindE
 have hbfl := (hk41).lt
 have hbrl := (hk40).lt
 have hbml := (hF39).lt
 refine WL.nil <| ?_
 refine ⟨⟨(hk47).trans (hkw31).symm, trivial⟩, ?_⟩
 refine WH.tp 9 rfl (.mv rfl) ⟨(hk47).trans (hkw31).symm, trivial⟩ rfl ?_
 refine WH.tp 10 rfl (.ext rfl rfl) ⟨(hk47).trans (hkw31).symm, trivial⟩ rfl ?_
 refine WH.tp 11 rfl (.ext rfl rfl) ⟨(hk47).trans (hkw31).symm, trivial⟩ rfl ?_
 refine WH.tp 12 rfl (.ext rfl rfl) ⟨(hk47).trans (hkw31).symm, trivial⟩ rfl ?_
 refine WH.br1 13 rfl ?_
 refine WL.alloc zeroValue28 rfl (fun b51 wb51 eb51 hkb51 hub51 hsb51 => ?_)
 have hF53 := MapI.same (w1 := wb51) hF46 (fun k hk hl => hub51.other k oO)
 have hF54 := PRep.same (w1 := wb51) hy (fun k hk hl => hub51.other k oO)
 have hl56 : br < b51 := by rw [eb51]; exact hk47.lt
 have hk55 := hk47.upd hub51 (Nat.ne_of_lt hl56)
 have hl58 : bf < b51 := by rw [eb51]; exact hk48.lt
 have hk57 := hk48.upd hub51 (Nat.ne_of_lt hl58)
 have hgeb51 : w.heap.size ≤ b51 := by rw [eb51]; exact hB50.size
 have hB61 := KeepB.trans hB50 (KeepB.of_new hub51 hgeb51)
 refine WL.nil <| ?_
 refine ⟨⟨(hk55).trans (hkw31).symm, trivial⟩, ?_⟩
 refine WH.br1 14 rfl ?_
 refine WL.stL rfl rfl hkb51 isz28 rfl rfl (fun w62 hkw62 huw62 hsw62 => ?_)
 have hF64 := MapI.same (w1 := w62) hF53 (fun k hk hl => huw62.other k (by first | ((try simp only) <;> omega) | (have := hk.1; ((try simp only) <;> omega))))
 have hF65 := PRep.same (w1 := w62) hF54 (fun k hk hl => huw62.other k (by first | ((try simp only) <;> omega) | (have := hk.1; ((try simp only) <;> omega))))
 have hk66 := hk55.up huw62
 have hk67 := hk57.up huw62
 have hB69 := KeepB.trans hB61 (by first | exact KeepB.of_new huw62 oO | exact KeepB.of_mem huw62 (by simp))
 refine WL.nil <| ?_
 refine ⟨⟨(hk66).trans (hkw31).symm, trivial⟩, ?_⟩
 refine WH.tp 15 rfl (.as rfl) ⟨(hk66).trans (hkw31).symm, trivial⟩ rfl ?_
 refine WH.tp 16 rfl (.as rfl) ⟨(hk66).trans (hkw31).symm, trivial⟩ rfl ?_
 refine WH.done kR ?_
 refine W.seq <| W.sr <| WL.m rfl rfl <| WL.p (.bis (false) (.neq rfl rfl) dD) rfl <| WL.nil <| ?_
 refine W.condF rfl rfl ?_
 refine W.skip <| W.sr <| WL.p (.fa underlying28 rfl sizeOf3 dD rfl) rfl <| WL.r (Rd.ld (isAgg3 _) rfl hkw62 rfl) rfl <| WL.p (.bis (true) (.eql rfl rfl) (by rw [hyk]; rfl)) rfl <| WL.c1 hb22 rfl rfl ((pread_want _)) (fun w70 hw70 => ?_)
 obtain rfl := hw70
 refine WL.nil <| ?_
 refine W.sr <| WL.m rfl rfl <| WL.r (Rd.ldA rfl hkw62 underlying28 rfl isz28) rfl <| WL.p (.nck rfl) rfl <| WL.p (.fa underlying60 rfl sizeOf28 dD rfl) rfl <| WL.stB (o := 2) (fdC p l c bm y) rfl (rfl) rfl hk67 isz28 rfl (Nat.le_of_ble_eq_true rfl) (rfl) (fun w71 hkw71 huw71 hsw71 => ?_)
 have hkw71 : Blk w71 bf _ _ := hkw71
 have huw71 : Upd bf _ _ := huw71
 have hF73 := MapI.same (w1 := w71) hF64 (fun k hk hl => huw71.other k (by first | ((try simp only) <;> omega) | (have := hk.1; ((try simp only) <;> omega))))
 have hF74 := PRep.same (w1 := w71) hF65 (fun k hk hl => huw71.other k (by first | ((try simp only) <;> omega) | (have := hk.1; ((try simp only) <;> omega))))
 have hB78 := KeepB.trans hB69 (by first | exact KeepB.of_new huw71 oO | exact KeepB.of_mem huw71 (by simp))
 refine WL.nil <| ?_
 refine W.reg <| WL.m rfl rfl <| WL.call hb52 rfl rfl ((pread_key bf bm p l c y _ 7 0 [] [kRoot, kSize] _ kSize 1 _ hkw71 hF74 dD (by simp) dD rfl dD)) (fun z1 w79 hw79 => ?_)
 have hF81 := MapI.same (w1 := w79) hF73 (fun k hk hl => hw79.block k hl)
 have hF82 := PRep.same (w1 := w79) hF74 (fun k hk hl => hw79.block k hl)
 have hk84 := hkw71.below hw79 hkw71.lt
 have hB87 := KeepB.trans hB78 (KeepB.of_below hw79 hB78.size)
 refine WL.p (.fld underlying28 rfl isAgg3 rfl rfl) rfl <| WL.p (.bis (true) (.eql rfl rfl) (by rw [PRep.kindE z1.2]; rfl)) rfl <| WL.m rfl rfl <| WL.gy rfl rfl rfl rfl <| WL.m rfl rfl <| WL.gy rfl rfl rfl rfl <| WL.call hb52 rfl rfl ((pread_key bf bm p l c y _ 7 0 [] [kRoot, kSize] _ kRoot 0 _ hk84 hF82 dD (by simp) dD rfl dD)) (fun z2 w88 hw88 => ?_)
 have hF90 := MapI.same (w1 := w88) hF81 (fun k hk hl => hw88.block k hl)
 have hF91 := PRep.same (w1 := w88) hF82 (fun k hk hl => hw88.block k hl)
 have hk93 := hk84.below hw88 hk84.lt
 have hB96 := KeepB.trans hB87 (KeepB.of_below hw88 hB87.size)
 refine WL.gy rfl rfl rfl rfl <| WL.p (.fld underlying28 rfl isAgg3 rfl rfl) rfl <| WL.gy rfl rfl rfl rfl <| WL.p (.bis (true) (.eql rfl rfl) (by rw [PRep.kindE z2.2]; rfl)) rfl <| WL.p (.pkT rfl rfl rfl) rfl <| WL.c1 hb22 rfl rfl ((pread_want _)) (fun w97 hw97 => ?_)
 obtain rfl := hw97
 refine WL.nil <| ?_
 refine W.norm (W.ret0 rfl ?_)
 exact ⟨rfl, hB96, y, hk93, (hF91).mono (fun k hk _ => hk.1), by simpa using hF90⟩
 refine WL.alloc zeroValue28 rfl (fun b98 wb98 eb98 hkb98 hub98 hsb98 => ?_)
 have hF100 := MapI.same (w1 := wb98) hF39 (fun k hk hl => hub98.other k oO)
 have hl102 : br < b98 := by rw [eb98]; exact hk40.lt
 have hk101 := hk40.upd hub98 (Nat.ne_of_lt hl102)
 have hl104 : bf < b98 := by rw [eb98]; exact hk41.lt
 have hk103 := hk41.upd hub98 (Nat.ne_of_lt hl104)
 have hvl106 := fun h0 => eb98 ▸ hv42.lt h0
 have hv105 := bup hv42 hub98 hvl106
 have hgeb98 : w.heap.size ≤ b98 := by rw [eb98]; exact hB43.size
 have hB107 := KeepB.trans hB43 (KeepB.of_new hub98 hgeb98)
 refine WL.nil <| ?_
 refine ⟨⟨(hk101).trans (hkw31).symm, trivial⟩, ?_⟩
 refine WH.br1 8 rfl ?_
 refine WL.call hb51 rfl rfl ((plex_ObjectN p l c _ _ _ _ hv105 hc hl hO)) (fun rr w108 hw108 => ?_)
 have hF110 := MapI.same (w1 := w108) hF100 (fun k hk hl => hw108.1.block k hl)
 have hk111 := hk101.below hw108.1 hk101.lt
 have hk112 := hk103.below hw108.1 hk103.lt
 have hk113 := hkb98.below hw108.1 hkb98.lt
 have hB115 := KeepB.trans hB107 (KeepB.of_below hw108.1 hB107.size)
 obtain ⟨y, rfl, hy0⟩ := hw108.2
 have hs0 := hB107.size
 have hy := hy0.mono (T := fun k => w.heap.size ≤ k ∧ wb98.heap.size ≤ k ∧ k < w108.heap.size) (fun k hk hlt => ⟨Nat.le_trans hs0 hk, hk, hlt⟩)
 have hyk := hy0.kindE
 have hbfl := (hk103).lt
 have hbrl := (hk101).lt
 have hbml := (hF100).lt
 refine WL.nil <| ?_
 refine ⟨⟨(hk111).trans (hkw31).symm, trivial⟩, ?_⟩
 refine WH.tp 9 rfl (.mv rfl) ⟨(hk111).trans (hkw31).symm, trivial⟩ rfl ?_
 refine WH.tp 10 rfl (.ext rfl rfl) ⟨(hk111).trans (hkw31).symm, trivial⟩ rfl ?_
 refine WH.tp 11 rfl (.ext rfl rfl) ⟨(hk111).trans (hkw31).symm, trivial⟩ rfl ?_
 refine WH.tp 12 rfl (.ext rfl rfl) ⟨(hk111).trans (hkw31).symm, trivial⟩ rfl ?_
 refine WH.br1 14 rfl ?_
 refine WL.stL rfl rfl hk113 isz28 rfl rfl (fun w116 hkw116 huw116 hsw116 => ?_)
 have hF118 := MapI.same (w1 := w116) hF110 (fun k hk hl => huw116.other k (by first | ((try simp only) <;> omega) | (have := hk.1; ((try simp only) <;> omega))))
 have hF119 := PRep.same (w1 := w116) hy (fun k hk hl => huw116.other k (by first | ((try simp only) <;> omega) | (have := hk.1; ((try simp only) <;> omega))))
 have hk120 := hk111.up huw116
 have hk121 := hk112.up huw116
 have hB123 := KeepB.trans hB115 (by first | exact KeepB.of_new huw116 oO | exact KeepB.of_mem huw116 (by simp))
 refine WL.nil <| ?_
 refine ⟨⟨(hk120).trans (hkw31).symm, trivial⟩, ?_⟩
 refine WH.tp 15 rfl (.as rfl) ⟨(hk120).trans (hkw31).symm, trivial⟩ rfl ?_
 refine WH.tp 16 rfl (.as rfl) ⟨(hk120).trans (hkw31).symm, trivial⟩ rfl ?_
 refine WH.done kR ?_
 refine W.seq <| W.sr <| WL.m rfl rfl <| WL.p (.bis (false) (.neq rfl rfl) dD) rfl <| WL.nil <| ?_
 refine W.condF rfl rfl ?_
 refine W.skip <| W.sr <| WL.p (.fa underlying28 rfl sizeOf3 dD rfl) rfl <| WL.r (Rd.ld (isAgg3 _) rfl hkw116 rfl) rfl <| WL.p (.bis (true) (.eql rfl rfl) (by rw [hyk]; rfl)) rfl <| WL.c1 hb22 rfl rfl ((pread_want _)) (fun w124 hw124 => ?_)
 obtain rfl := hw124
 refine WL.nil <| ?_
 refine W.sr <| WL.m rfl rfl <| WL.r (Rd.ldA rfl hkw116 underlying28 rfl isz28) rfl <| WL.p (.nck rfl) rfl <| WL.p (.fa underlying60 rfl sizeOf28 dD rfl) rfl <| WL.stB (o := 2) (fdC p l c bm y) rfl (rfl) rfl hk121 isz28 rfl (Nat.le_of_ble_eq_true rfl) (rfl) (fun w125 hkw125 huw125 hsw125 => ?_)
 have hkw125 : Blk w125 bf _ _ := hkw125
 have huw125 : Upd bf _ _ := huw125
 have hF127 := MapI.same (w1 := w125) hF118 (fun k hk hl => huw125.other k (by first | ((try simp only) <;> omega) | (have := hk.1; ((try simp only) <;> omega))))
 have hF128 := PRep.same (w1 := w125) hF119 (fun k hk hl => huw125.other k (by first | ((try simp only) <;> omega) | (have := hk.1; ((try simp only) <;> omega))))
 have hB132 := KeepB.trans hB123 (by first | exact KeepB.of_new huw125 oO | exact KeepB.of_mem huw125 (by simp))
 refine WL.nil <| ?_
 refine W.reg <| WL.m rfl rfl <| WL.call hb52 rfl rfl ((pread_key bf bm p l c y _ 7 0 [] [kRoot, kSize] _ kSize 1 _ hkw125 hF128 dD (by simp) dD rfl dD)) (fun z1 w133 hw133 => ?_)
 have hF135 := MapI.same (w1 := w133) hF127 (fun k hk hl => hw133.block k hl)
 have hF136 := PRep.same (w1 := w133) hF128 (fun k hk hl => hw133.block k hl)
 have hk138 := hkw125.below hw133 hkw125.lt
 have hB141 := KeepB.trans hB132 (KeepB.of_below hw133 hB132.size)
 refine WL.p (.fld underlying28 rfl isAgg3 rfl rfl) rfl <| WL.p (.bis (true) (.eql rfl rfl) (by rw [PRep.kindE z1.2]; rfl)) rfl <| WL.m rfl rfl <| WL.gy rfl rfl rfl rfl <| WL.m rfl rfl <| WL.gy rfl rfl rfl rfl <| WL.call hb52 rfl rfl ((pread_key bf bm p l c y _ 7 0 [] [kRoot, kSize] _ kRoot 0 _ hk138 hF136 dD (by simp) dD rfl dD)) (fun z2 w142 hw142 => ?_)
 have hF144 := MapI.same (w1 := w142) hF135 (fun k hk hl => hw142.block k hl)
 have hF145 := PRep.same (w1 := w142) hF136 (fun k hk hl => hw142.block k hl)
 have hk147 := hk138.below hw142 hk138.lt
 have hB150 := KeepB.trans hB141 (KeepB.of_below hw142 hB141.size)
 refine WL.gy rfl rfl rfl rfl <| WL.p (.fld underlying28 rfl isAgg3 rfl rfl) rfl <| WL.gy rfl rfl rfl rfl <| WL.p (.bis (true) (.eql rfl rfl) (by rw [PRep.kindE z2.2]; rfl)) rfl <| WL.p (.pkT rfl rfl rfl) rfl <| WL.c1 hb22 rfl rfl ((pread_want _)) (fun w151 hw151 => ?_)
 obtain rfl := hw151
 refine WL.nil <| ?_
 refine W.norm (W.ret0 rfl ?_)
 exact ⟨rfl, hB150, y, hk147, (hF145).mono (fun k hk _ => hk.1), by simpa using hF144⟩
 have h30' := dF h30
 obtain rfl : k = 0 := by omega
 refine W.skip <| W.reg <| WL.m rfl rfl <| WL.m rfl rfl <| WL.m rfl rfl <| WL.c1 hb50 rfl rfl ((rd_section br bf b11 bm p l c _ ps (tabR ps r 1) _ hk23 hk24 rfl (by simpa [seenG0] using hF21) (by simpa using hF22) hv25 hc hl s1 hps hpl hpb hpb4 hpb3 n1 oO n3 oO oO n6)) (fun w152 hw152 => ?_)
 have hk153 := Blk.keepB hk24 hw152.1 hk24.lt (by simp only [List.mem_cons, List.not_mem_nil, or_false, not_or, not_false_eq_true]; omega)
 have hv154 := BytesAt.keepB hv25 hw152.1 (fun h0 => ⟨hv25.lt h0, by first | simpa using (hpb) h0 | (have q := (hpb) h0; have q1 := hv25.lt h0; simp only [List.mem_cons, List.not_mem_nil, or_false, not_or, not_false_eq_true]; omega)⟩)
 have hB155 := KeepB.trans hB26 (KeepB.wide hw152.1 hB26.size (by simp <;> omega))
 have hx1 := hw152.2.1
 have hx2 := hw152.2.2.1
 have hx3 := hw152.2.2.2
 refine WL.nil <| ?_
 refine W.reg <| WL.m rfl rfl <| WL.p (.add rfl rfl (i64w oO)) rfl <| WL.z rfl rfl ?_
 exact ⟨1, ⟨rfl, rfl, rfl, rfl, trivial⟩, ⟨hB155, hx1, hk153, hv154, by simpa using hx2, by simpa using hx3, by ((try simp only) <;> omega)⟩, by ((try simp only) <;> omega)⟩
end
section
def f_sx : List UInt8 := [115, 116, 97, 114, 116, 120, 114, 101, 102]
def fileAt (ts : List (List UInt8)) : Nat := 9 + (bodyF 0 ts).length
def endR (ts : List (List UInt8)) : List UInt8 := f_sx ++ (10 :: (digitsL (fileAt ts) ++ (10 :: 37 :: 37 :: 69 :: 79 :: 70 :: [10])))
theorem file_eq (ts : List (List UInt8)) : fileF ts = (f_head ++ bodyF 0 ts) ++ ([120, 114, 101, 102] ++ (10 :: tabR (placeF 9 0 ts) (endR ts) 0)) := by
 unfold fileF
 rw [List.append_assoc]
 congr 2
 have h0 : digitsL 0 = [48] := digitsL_lt 0 dD
 simp only [tabR, h0, trA_pr, f_xref, f_trailer, f_start, f_tr, endR, f_sx, f_eof, fileAt, placeF_len, List.append_assoc, List.cons_append, List.nil_append]
theorem file_tab (ts : List (List UInt8)) : ([120, 114, 101, 102] ++ (10 :: tabR (placeF 9 0 ts) (endR ts) 0)) <:+ fileF ts := by rw [file_eq]; exact List.suffix_append _ _
theorem file_tab_at (ts : List (List UInt8)) : sx (fileF ts) ([120, 114, 101, 102] ++ (10 :: tabR (placeF 9 0 ts) (endR ts) 0)) = fileAt ts := by
 unfold sx
 rw [file_eq, List.length_append, Nat.add_sub_cancel, List.length_append]; rfl
theorem file_end (ts : List (List UInt8)) : endR ts <:+ fileF ts := by
 have h0 := file_tab ts
 have h1 : tabR (placeF 9 0 ts) (endR ts) 0 <:+ fileF ts := sfx_of (A := [120, 114, 101, 102, 10]) h0
 have q : (tableF (placeF 9 0 ts) ++ tabR (placeF 9 0 ts) (endR ts) 1) <:+ fileF ts := sfx_cons (sfx_of (sfx_cons (sfx_of (A := digitsL 0) h1)))
 exact sfx_cons (sfx_of (sfx_cons (sfx_of (A := f_tr) (sfx_of q))))
theorem file_head (ts : List (List UInt8)) : ∃ r, fileF ts = 37 :: 80 :: 68 :: 70 :: 45 :: 49 :: 46 :: 52 :: 10 :: r := ⟨_, rfl⟩
theorem end_win (ts : List (List UInt8)) : ((fileF ts).drop (sx (fileF ts) (endR ts))).take f_sx.length = f_sx := by
 rw [sx_drop (file_end ts)]
 exact List.take_left
theorem end_no (ts : List (List UInt8)) (j : Nat) (hj : sx (fileF ts) (endR ts) < j) (hjl : j + f_sx.length ≤ (fileF ts).length) : ((fileF ts).drop j).take f_sx.length ≠ f_sx := by
 intro h
 obtain ⟨i, rfl⟩ : ∃ i, j = sx (fileF ts) (endR ts) + (i + 1) := ⟨j - sx (fileF ts) (endR ts) - 1, by omega⟩
 rw [← List.drop_drop, sx_drop (file_end ts)] at h
 have hm : (115 : UInt8) ∈ ((endR ts).drop (i + 1)).take f_sx.length := by rw [h]; decide
 have hm2 := List.mem_of_mem_drop (show (115 : UInt8) ∈ ((endR ts).drop 1).drop i by rw [List.drop_drop, Nat.add_comm 1 i]; exact List.mem_of_mem_take hm)
 have e : (endR ts).drop 1 = [116, 97, 114, 116, 120, 114, 101, 102, 10] ++ (digitsL (fileAt ts) ++ [10, 37, 37, 69, 79, 70, 10]) := rfl
 rw [e] at hm2
 rcases List.mem_append.1 hm2 with h1 | h1
 ·
  revert h1; decide
 ·
  rcases List.mem_append.1 h1 with h2 | h2
  ·
   have := (digit_all _ _ h2).2; revert this; decide
  ·
   revert h2; decide
theorem end_len (ts : List (List UInt8)) : sx (fileF ts) (endR ts) + f_sx.length < (fileF ts).length := by
 have := sx_len (file_end ts)
 have e : (endR ts).length = 9 + (1 + ((digitsL (fileAt ts)).length + 7)) := by simp only [endR, List.length_append, List.length_cons, List.length_nil]; show 9 + _ = _; omega
 have h9 : f_sx.length = 9 := rfl
 omega
/-- a file, in blocks of S -/
def FileAt (S : Nat → Prop) (w : World) (bf : Nat) (l : List UInt8) (ps : List Nat) : Prop :=
 ∃ p c bm y, Blk w bf (fdC p l c bm y) 60 ∧ S bf ∧ BytesAt w p l ∧ (0 < l.length → S (pA p).block) ∧ l.length ≤ c ∧ MapI Tryz.prog 3 3 w bm ps.length (plG ps) ps.length ∧ S bm ∧ PRep w S y (trP (ps.length + 1))
theorem FileAt.same {S : Nat → Prop} {w w1 : World} {bf : Nat} {l : List UInt8} {ps : List Nat} (h : FileAt S w bf l ps) (hb : ∀ k, S k → k < w.heap.size → w1.heap[k]? = w.heap[k]?) : FileAt S w1 bf l ps := by
 obtain ⟨p, c, bm, y, h1, h2, h3, h4, h5, h6, h7, h8⟩ := h
 exact ⟨p, c, bm, y, (hb bf h2 h1.lt).trans h1, h2, h3.same fun h0 => hb _ (h4 h0) (h3.lt h0), h4, h5, h6.same fun j hj hl => hb j (hj ▸ h7) hl, h7, h8.same hb⟩
theorem FileAt.mono {S T : Nat → Prop} {w : World} {bf : Nat} {l : List UInt8} {ps : List Nat} (h : FileAt S w bf l ps) (hb : ∀ k, S k → k < w.heap.size → T k) : FileAt T w bf l ps := by
 obtain ⟨p, c, bm, y, h1, h2, h3, h4, h5, h6, h7, h8⟩ := h
 exact ⟨p, c, bm, y, h1, hb _ h2 h1.lt, h3, fun h0 => hb _ (h4 h0) (h3.lt h0), h5, h6, hb _ h7 h6.lt, h8.mono hb⟩
theorem BytesAt.rest {w : World} {p : Option Addr} {l r : List UInt8} {c : Nat} (h : BytesAt w p l) (hc : l.length ≤ c) (hs : r <:+ l) : BytesAt w (pPart p c (sx l r)) r := by
 have := BytesAt.part (a := sx l r) (b := l.length) h (sx_le _ _) (Nat.le_refl _) hc
 rwa [sx_drop hs, List.take_of_length_le (by have := sx_len hs; omega)] at this
/-- the number behind startxref, and the file's end -/
theorem rd_ending (br : Nat) (p : Option Addr) (l : List UInt8) (c n : Nat) (r : List UInt8) (w : World) (h : Blk w br (rdC p l c (sx l (digitsL n ++ (10 :: 37 :: 37 :: 69 :: 79 :: 70 :: r)))) 57) (hb : BytesAt w p l) (hc : l.length ≤ c) (hl : l.length ≤ 100000000) (hpb : 0 < l.length → (pA p).block ≠ br)
  (hs : (digitsL n ++ (10 :: 37 :: 37 :: 69 :: 79 :: 70 :: r)) <:+ l) (hn : n < 10000000000) :
  Calls Tryz.prog 27 #[.pointer (some ⟨br, 0, none⟩)] w fun e w' => e = .returned (.int .i64 (n : Int)) ∧ KeepB w.heap.size [br] w w' ∧ ∃ t, Blk w' br (rdC p l c t) 57 := by
 obtain ⟨hw1, hw2, -⟩ := word_at (sx_le _ _) (sx_drop hs) (digc_regs n) (bnd_blank dD)
 have hd10 := digitsL_len 9 n oO
 have hall : (digitsL n).all isDig = true := List.all_eq_true.2 fun c hc => by
  have := digit_all n c hc
  unfold isDig
  simp [this.1, this.2]
 have s1 := sfx_of hs
 have s2 := sfx_cons s1
 have hlen := sx_len s2
 refine W.enter func27 rfl ntmps27 (Nat.le_of_ble_eq_true rfl) ?_
 have hB0 := KeepB.refl w.heap.size ([br]) w
 refine W.sr <| WL.z rfl rfl ?_
 refine W.seq <| W.regH 14 rfl mixed (fun w' => w'.heap[br]? = w.heap[br]? ∧ True) (fun w1 dw1 => ?_)
 have hk2 := h.drew dw1
 have hv3 := hb.drew dw1
 have hB4 := KeepB.trans hB0 (KeepB.of_drew dw1)
 refine WH.tp 0 rfl (.mv rfl) ⟨(hk2).trans (h).symm, trivial⟩ rfl ?_
 refine WH.tp 1 rfl (.nck rfl) ⟨(hk2).trans (h).symm, trivial⟩ rfl ?_
 refine WH.tp 2 rfl (.fa underlying57 rfl sizeOf26 dD rfl) ⟨(hk2).trans (h).symm, trivial⟩ rfl ?_
 refine WH.tk 3 rfl (fun w' hw' => Rd.ld (isAgg26 _) rfl ((hw'.1).trans h) rfl) ⟨(hk2).trans (h).symm, trivial⟩ rfl ?_
 refine WH.tp 4 rfl (.mv rfl) ⟨(hk2).trans (h).symm, trivial⟩ rfl ?_
 refine WH.tp 5 rfl (.nck rfl) ⟨(hk2).trans (h).symm, trivial⟩ rfl ?_
 refine WH.tp 6 rfl (.fa underlying57 rfl sizeOf3 dD rfl) ⟨(hk2).trans (h).symm, trivial⟩ rfl ?_
 refine WH.tk 7 rfl (fun w' hw' => Rd.ld (isAgg3 _) rfl ((hw'.1).trans h) rfl) ⟨(hk2).trans (h).symm, trivial⟩ rfl ?_
 refine WH.br1 8 rfl ?_
 refine WL.c1 hb33 rfl rfl ((plex_WordN p l c _ _ (sx_le _ _) hv3 hc hl)) (fun w5 hw5 => ?_)
 obtain rfl := hw5
 refine WL.nil <| ?_
 refine ⟨⟨(hk2).trans (h).symm, trivial⟩, ?_⟩
 refine WH.tp 9 rfl (.mv rfl) ⟨(hk2).trans (h).symm, trivial⟩ rfl ?_
 refine WH.tp 10 rfl (.ext rfl rfl) ⟨(hk2).trans (h).symm, trivial⟩ rfl ?_
 refine WH.tp 11 rfl (.ext rfl rfl) ⟨(hk2).trans (h).symm, trivial⟩ rfl ?_
 refine WH.tp 12 rfl (.as rfl) ⟨(hk2).trans (h).symm, trivial⟩ rfl ?_
 refine WH.tp 13 rfl (.as rfl) ⟨(hk2).trans (h).symm, trivial⟩ rfl ?_
 refine WH.done kR ?_
 refine W.seq ?_
 rw [hw1, hw2]
 refine W.reg <| WL.m rfl rfl <| WL.p (.bis (true) (.nes rfl rfl) (by simp [dig_ne])) rfl <| WL.m rfl rfl <| WL.gy rfl rfl rfl rfl <| WL.m rfl rfl <| WL.gy rfl rfl rfl rfl <| WL.p (.len underlying9 rfl) rfl <| WL.gy rfl rfl rfl rfl <| WL.p (.bis (true) (.leq rfl rfl) (by exact decide_eq_true oO)) rfl <| WL.p (.pkT rfl rfl rfl) rfl <| WL.c1 hb22 rfl rfl ((pread_want _)) (fun w6 hw6 => ?_)
 obtain rfl := hw6
 refine WL.nil <| ?_
 refine W.sr <| WL.m rfl rfl <| WL.s2b underlying9 underlying26 underlying5 rfl rfl (fun b7 wb7 cz eb7 hz hcz hub7 hsb7 => ?_)
 have hl9 : br < b7 := by rw [eb7]; exact hk2.lt
 have hk8 := hk2.upd hub7 (Nat.ne_of_lt hl9)
 have hvl11 := fun h0 => eb7 ▸ hv3.lt h0
 have hv10 := bup hv3 hub7 hvl11
 have hgeb7 : w.heap.size ≤ b7 := by rw [eb7]; exact hB4.size
 have hB12 := KeepB.trans hB4 (KeepB.of_new hub7 hgeb7)
 refine WL.c1 hb49 rfl rfl ((by have q := rd_fixed _ (digitsL n) _ cz _ rfl hz hd10 hall; rw [show natOf (digitsL n) = n from numF_digits n] at q; exact q)) (fun w13 hw13 => ?_)
 have hk14 := hk8.below hw13 hk8.lt
 have hv15 := BytesAt.below hv10 hw13 (fun h0 => hv10.lt h0)
 have hB17 := KeepB.trans hB12 (KeepB.of_below hw13 hB12.size)
 refine WL.z rfl rfl ?_
 refine W.sr <| WL.m rfl rfl <| WL.m rfl rfl <| WL.p (.nck rfl) rfl <| WL.p (.fa underlying57 rfl sizeOf3 dD rfl) rfl <| WL.st sizeOf3 rfl rfl rfl hk14 oD (fun w18 hkw18 huw18 hsw18 => ?_)
 have hkw18 : Blk w18 br _ _ := hkw18
 have huw18 : Upd br _ _ := huw18
 have hv19 := BytesAt.upd hv15 huw18 (hpb)
 have hB21 := KeepB.trans hB17 (by first | exact KeepB.of_new huw18 oO | exact KeepB.of_mem huw18 (by simp))
 refine WL.nil <| ?_
 refine W.sr <| WL.m rfl rfl <| WL.c1 hb26 rfl rfl ((rd_blanksS 10 37 _ hkw18 hv19 hl hpb s1 dD dD)) (fun w22 hw22 => ?_)
 have hv23 := BytesAt.keepB hv19 hw22.1 (fun h0 => ⟨hv19.lt h0, by first | simpa using (hpb) h0 | (have q := (hpb) h0; have q1 := hv19.lt h0; simp only [List.mem_cons, List.not_mem_nil, or_false, not_or, not_false_eq_true]; omega)⟩)
 have hB25 := KeepB.trans hB21 (KeepB.wide hw22.1 hB21.size (by simp <;> omega))
 have hm4 := hw22.2
 refine WL.nil <| ?_
 refine W.seq <| W.regH 13 rfl mixed (fun w' => w'.heap[br]? = w22.heap[br]? ∧ True) (fun w26 dw26 => ?_)
 have hk27 := hm4.drew dw26
 have hv28 := hv23.drew dw26
 have hB30 := KeepB.trans hB25 (KeepB.of_drew dw26)
 refine WH.tp 0 rfl (.mv rfl) ⟨(hk27).trans (hm4).symm, trivial⟩ rfl ?_
 refine WH.tp 1 rfl (.nck rfl) ⟨(hk27).trans (hm4).symm, trivial⟩ rfl ?_
 refine WH.tp 2 rfl (.fa underlying57 rfl sizeOf26 dD rfl) ⟨(hk27).trans (hm4).symm, trivial⟩ rfl ?_
 refine WH.tk 3 rfl (fun w' hw' => Rd.ld (isAgg26 _) rfl ((hw'.1).trans hm4) rfl) ⟨(hk27).trans (hm4).symm, trivial⟩ rfl ?_
 refine WH.tp 4 rfl (.mv rfl) ⟨(hk27).trans (hm4).symm, trivial⟩ rfl ?_
 refine WH.tp 5 rfl (.nck rfl) ⟨(hk27).trans (hm4).symm, trivial⟩ rfl ?_
 refine WH.tp 6 rfl (.fa underlying57 rfl sizeOf3 dD rfl) ⟨(hk27).trans (hm4).symm, trivial⟩ rfl ?_
 refine WH.tk 7 rfl (fun w' hw' => Rd.ld (isAgg3 _) rfl ((hw'.1).trans hm4) rfl) ⟨(hk27).trans (hm4).symm, trivial⟩ rfl ?_
 refine WH.tp 8 rfl (.slbF underlying26 sizeOf5 rfl rfl  (sx l (37 :: 37 :: 69 :: 79 :: 70 :: r)) (rfl) (sx_le _ _)) ⟨(hk27).trans (hm4).symm, trivial⟩ rfl ?_
 refine WH.br1 9 rfl ?_
 refine WL.bsl (ps := _) underlying26 sizeOf5 zeroValue5 rfl rfl rfl rfl rfl pR rfl (fun b31 wb31 eb31 hkb31 hub31 hsb31 => ?_)
 have hl33 : br < b31 := by rw [eb31]; exact hk27.lt
 have hk32 := hk27.upd hub31 (Nat.ne_of_lt hl33)
 have hvl35 := fun h0 => eb31 ▸ hv28.lt h0
 have hv34 := bup hv28 hub31 hvl35
 have hgeb31 : w.heap.size ≤ b31 := by rw [eb31]; exact hB30.size
 have hB38 := KeepB.trans hB30 (KeepB.of_new hub31 hgeb31)
 refine WL.nil <| ?_
 refine ⟨⟨(hk32).trans (hm4).symm, trivial⟩, ?_⟩
 refine WH.br1 10 rfl ?_
 refine WL.cvB ([37, 37, 69, 79, 70]) underlying26 underlying5 rfl hkb31 rfl rfl (fun w39 hy huw39 hsw39 => ?_)
 have hk40 := hk32.up huw39
 have hv41 := bup hv34 huw39 hvl35
 have hB43 := KeepB.trans hB38 (by first | exact KeepB.of_new huw39 oO | exact KeepB.of_mem huw39 (by simp))
 refine WL.nil <| ?_
 refine ⟨⟨(hk40).trans (hm4).symm, trivial⟩, ?_⟩
 refine WH.br1 11 rfl ?_
 have hPx := (hv41).rest hc s2
 refine WL.c1 hb23 rfl rfl ((byt_HasPrefix _ (37 :: 37 :: 69 :: 79 :: 70 :: r) _ _ _ [37, 37, 69, 79, 70] _ _ _ oO rfl hPx hy (by simp only [List.length_cons, List.length_nil]; omega) oO)) (fun w44 hw44 => ?_)
 obtain rfl := hw44
 refine WL.nil <| ?_
 refine ⟨⟨(hk40).trans (hm4).symm, trivial⟩, ?_⟩
 refine WH.br1 12 rfl ?_
 refine WL.c1 hb22 rfl rfl ((pread_want _)) (fun w45 hw45 => ?_)
 obtain rfl := hw45
 refine WL.nil <| ?_
 refine ⟨⟨(hk40).trans (hm4).symm, trivial⟩, ?_⟩
 refine WH.done kR ?_
 refine W.sr <| WL.m rfl rfl <| WL.z rfl rfl ?_
 refine W.ret (W.ret1 rfl rfl ?_)
 exact ⟨rfl, hB43, _, hk40⟩
end
section
theorem pread_Len (bf bm m cnt : Nat) (cs : Array Value) (g : Int → Option Int) (w : World) (h : Blk w bf cs 60) (h1 : cs[1]? = some (.map (some bm))) (hm : MapI Tryz.prog 3 3 w bm m g cnt) :
  Calls Tryz.prog 10 #[.pointer (some ⟨bf, 0, none⟩)] w fun e w' => e = .returned (.int .i64 (cnt : Int)) ∧ w = w' := by
 refine W.enter func10 rfl ntmps10 (Nat.le_of_ble_eq_true rfl) ?_
 refine W.sr <| WL.z rfl rfl ?_
 refine W.seq <| W.sr <| WL.m rfl rfl <| WL.p (.eqP underlying32 rfl) rfl <| WL.nil <| ?_
 refine W.condF rfl rfl ?_
 refine W.skip <| W.sr <| WL.m rfl rfl <| WL.p (.nck rfl) rfl <| WL.p (.fa underlying60 rfl sizeOf58 dD rfl) rfl <| WL.r (Rd.ld (isAgg58 _) rfl h h1) rfl <| WL.r (Rd.lenI hm underlying58 rfl) rfl <| WL.z rfl rfl ?_
 refine W.ret (W.ret1 rfl rfl ?_)
 exact ⟨rfl, rfl⟩
theorem pread_Len0 (w : World) : Calls Tryz.prog 10 #[.pointer none] w fun e w' => e = .returned (.int .i64 0) ∧ w = w' := by
 refine W.enter func10 rfl ntmps10 (Nat.le_of_ble_eq_true rfl) ?_
 refine W.sr <| WL.z rfl rfl ?_
 refine W.seq <| W.sr <| WL.m rfl rfl <| WL.p (.eqP underlying32 rfl) rfl <| WL.nil <| ?_
 refine W.condT rfl rfl ?_
 refine W.sr <| WL.z rfl rfl ?_
 refine W.ret (W.ret1 rfl rfl ?_)
 exact ⟨rfl, rfl⟩
theorem pread_Trailer0 (w : World) : Calls Tryz.prog 14 #[.pointer none] w fun e w' => e = .returned (.agg (pcV (pc0 0 0 [])).toArray) ∧ Below w.heap.size w w' := by
 refine W.enter func14 rfl ntmps14 (Nat.le_of_ble_eq_true rfl) ?_
 have hB0 := Below.refl (w.heap.size) w
 refine W.sr <| WL.alloc zeroValue28 rfl (fun b1 wb1 eb1 hkb1 hub1 hsb1 => ?_)
 have hB2 := Upd.below hB0 (by rw [eb1]; exact hB0.size) hub1
 have hgeb1 : w.heap.size ≤ b1 := by rw [eb1]; exact hB0.size
 refine WL.nil <| ?_
 refine W.seq <| W.sr <| WL.m rfl rfl <| WL.p (.eqP underlying32 rfl) rfl <| WL.nil <| ?_
 refine W.condT rfl rfl ?_
 refine W.sr <| WL.p (.buildL (ps := _) blt28 rfl rfl rfl pZ) rfl ?_
 refine WL.stL rfl rfl hkb1 isz28 rfl rfl (fun w3 hkw3 huw3 hsw3 => ?_)
 have hB4 := Upd.below hB2 oO huw3
 refine WL.nil <| ?_
 refine W.ret (W.retc1 rfl rfl (ldRow hkw3 underlying28 rfl isz28)  ?_)
 exact ⟨rvE rfl, hB4⟩
theorem pread_Resolve0 (cs : Array Value) (w : World) : Calls Tryz.prog 13 #[.pointer none, .agg cs] w fun e w' => e = .returned (.tuple #[.agg (pcV (pc0 0 0 [])).toArray, .int .i64 21]) ∧ Below w.heap.size w w' := by
 refine W.enter func13 rfl ntmps13 (Nat.le_of_ble_eq_true rfl) ?_
 have hB0 := Below.refl (w.heap.size) w
 refine W.sr <| WL.box rfl rfl (fun b1 wb1 eb1 hkb1 hub1 hsb1 => ?_)
 have hB2 := Upd.below hB0 (by rw [eb1]; exact hB0.size) hub1
 have hgeb1 : w.heap.size ≤ b1 := by rw [eb1]; exact hB0.size
 refine WL.alloc zeroValue28 rfl (fun b3 wb3 eb3 hkb3 hub3 hsb3 => ?_)
 have hl5 : b1 < b3 := by rw [eb3]; exact hkb1.lt
 have hB6 := Upd.below hB2 (by rw [eb3]; exact hB2.size) hub3
 have hgeb3 : w.heap.size ≤ b3 := by rw [eb3]; exact hB2.size
 refine WL.z rfl rfl ?_
 refine W.seq <| W.sr <| WL.m rfl rfl <| WL.p (.eqP underlying32 rfl) rfl <| WL.nil <| ?_
 refine W.condT rfl rfl ?_
 refine W.sr <| WL.p (.buildL (ps := _) blt28 rfl rfl rfl pZ) rfl ?_
 refine WL.stL rfl rfl hkb3 isz28 rfl rfl (fun w7 hkw7 huw7 hsw7 => ?_)
 have hB9 := Upd.below hB6 oO huw7
 refine WL.z rfl rfl ?_
 refine W.ret (W.retc2 rfl rfl (ldRow hkw7 underlying28 rfl isz28) rfl ?_)
 exact ⟨rvE rfl, hB9⟩
theorem ResOk.cells2 {P : Program} {fn : Func} {f : Fr} {w : World} {a b : Tmp} {ta tb : TypeId} {pa pb : Addr} {x y : Value} (hr : fn.results = #[.cell a ta, .cell b tb]) (ha : look f a = some (.pointer (some pa))) (hb : look f b = some (.pointer (some pb)))
  (hx : (loadVar ta pa).run P w = .ok x w) (hy : (loadVar tb pb).run P w = .ok y w) : ResOk P fn f w (.tuple #[x, y]) := fun tmps hh => by
 have e1 := hh _ _ ha; have e2 := hh _ _ hb
 simp only [Array.getD_eq_getD_getElem?] at e1 e2
 simp [results, hr, e1, e2, asAddr, hx, hy]
theorem pread_Object0 (n : Int) (w : World) : Calls Tryz.prog 11 #[.pointer none, .int .i64 n] w fun e w' => e = .returned (.tuple #[.agg (pcV (pc0 0 0 [])).toArray, .int .i64 21]) ∧ Below w.heap.size w w' := by
 refine W.enterD func11 rfl ntmps11 (Nat.le_of_ble_eq_true rfl) ?_
 have hB0 := Below.refl (w.heap.size) w
 refine WD.seq ?_
 refine W.reg <| WL.alloc zeroValue28 rfl (fun b1 wb1 eb1 hkb1 hub1 hsb1 => ?_)
 have hB2 := Upd.below hB0 (by rw [eb1]; exact hB0.size) hub1
 have hgeb1 : w.heap.size ≤ b1 := by rw [eb1]; exact hB0.size
 refine WL.alloc zeroValue29 rfl (fun b3 wb3 eb3 hkb3 hub3 hsb3 => ?_)
 have hl5 : b1 < b3 := by rw [eb3]; exact hkb1.lt
 have hk4 := hkb1.upd hub3 (Nat.ne_of_lt hl5)
 have hB6 := Upd.below hB2 (by rw [eb3]; exact hB2.size) hub3
 have hgeb3 : w.heap.size ≤ b3 := by rw [eb3]; exact hB2.size
 refine WL.nil <| ?_
 refine WD.seq ?_
 refine W.sr <| WL.m rfl rfl <| WL.p (.eqP underlying32 rfl) rfl <| WL.nil <| ?_
 refine W.condT rfl rfl ?_
 refine W.sr <| WL.p (.buildL (ps := _) blt28 rfl rfl rfl pZ) rfl ?_
 refine WL.stL rfl rfl hk4 isz28 rfl rfl (fun w7 hkw7 huw7 hsw7 => ?_)
 have hk8 := hkb3.up huw7
 have hB9 := Upd.below hB6 oO huw7
 refine WL.st sizeOf29 rfl rfl rfl hk8 oD (fun w10 hkw10 huw10 hsw10 => ?_)
 have hkw10 : Blk w10 b3 _ _ := hkw10
 have huw10 : Upd b3 _ _ := huw10
 have hk11 := hkw7.up huw10
 have hB12 := Upd.below hB9 oO huw10
 refine WL.nil <| ?_
 refine W.ret ?_
 exact PostD.ret0 (ResOk.cells2 rfl rfl rfl (ldRow hk11 underlying28 rfl isz28) (ldCell hkw10 (isAgg29 _) rfl)) ⟨rvE rfl, hB12⟩
end
section
theorem prd_guard_nil (b : Nat) (w : World) : Calls Tryz.prog 21 #[.nilIface, .pointer (some ⟨b, 0, none⟩)] w fun e w' => e = .returned (.tuple #[]) ∧ w = w' := by
 refine W.enter func21 rfl ntmps21 (Nat.le_of_ble_eq_true rfl) ?_
 refine W.seq <| W.sr <| WL.m rfl rfl <| WL.p (.eqNil0 kR rfl) rfl <| WL.nil <| ?_
 refine W.condT rfl rfl ?_
 refine W.ret (W.ret0 rfl  ?_)
 exact ⟨rfl, rfl⟩
theorem open_quiet (b2 b3 : Nat) (w : World) (h : Blk w b3 #[.int .i64 0] 29) :
  CallsD Tryz.prog 20 #[.pointer (some ⟨b3, 0, none⟩), .pointer (some ⟨b2, 0, none⟩)] .returning w fun e u' w' => u' = .returning ∧ (∃ v, e = .returned v) ∧ w' = w := by
 refine CallsD.rec func20 rfl ntmps20 (Nat.le_of_ble_eq_true rfl) rfl ?_
 refine WL.c1 hb21 rfl rfl ((prd_guard_nil _ _)) (fun w1 hw1 => ?_)
 obtain rfl := hw1
 refine WL.nil <| ?_
 refine W.sr <| WL.r (Rd.ld (isAgg29 _) rfl h rfl) rfl <| WL.p (.neq rfl rfl) rfl <| WL.nil <| ?_
 refine W.condF rfl rfl ?_
 refine W.skip ?_
 refine W.norm (W.ret0 rfl ?_)
 exact ⟨⟨_, rfl⟩, rfl⟩
theorem dig_cons (n : Nat) : ∃ d ds, digitsL n = d :: ds ∧ blankB d = false := by
 obtain ⟨d, ds, hd⟩ := List.exists_cons_of_ne_nil (dig_ne n)
 exact ⟨d, ds, hd, (reg_skip (digc_reg (digit_all n d (by rw [hd]; simp)))).1⟩
theorem pread_Open (p0 : Option Addr) (c0 : Nat) (ts : List (List UInt8)) (w : World) (ha : BytesAt w p0 (fileF ts)) (hc : (fileF ts).length ≤ c0) (hl : (fileF ts).length ≤ 1048576) (hts : ts.length ≤ 4096) :
  Calls Tryz.prog 9 #[.slice p0 (fileF ts).length c0] w fun e w' => ∃ bf, e = .returned (.tuple #[.pointer (some ⟨bf, 0, none⟩), .int .i64 0]) ∧ FileAt (fun k => w.heap.size ≤ k) w' bf (fileF ts) (placeF 9 0 ts) ∧ Below w.heap.size w w' := by
 have hwin := end_win ts
 have hno := end_no ts
 have hel := end_len ts
 have hend := file_end ts
 have htab := file_tab ts
 have htab_at := file_tab_at ts
 have hpl := placeF_len ts 9 0
 have hps : ∀ n ∈ placeF 9 0 ts, n < 10000000000 := fun n hn => by
  have h1 := placeF_le ts 9 0 n hn
  have h2 := sx_le (fileF ts) ([120, 114, 101, 102] ++ (10 :: tabR (placeF 9 0 ts) (endR ts) 0))
  rw [htab_at] at h2; unfold fileAt at h2; omega
 have hat := sx_le (fileF ts) ([120, 114, 101, 102] ++ (10 :: tabR (placeF 9 0 ts) (endR ts) 0))
 rw [htab_at] at hat
 obtain ⟨hr, hh⟩ := file_head ts
 have hR : endR ts = f_sx ++ (10 :: (digitsL (fileAt ts) ++ (10 :: 37 :: 37 :: 69 :: 79 :: 70 :: [10]))) := rfl
 generalize placeF 9 0 ts = ps at *
 generalize fileAt ts = at0 at *
 generalize endR ts = R at *
 generalize fileF ts = l at *
 subst hR
 have e8 : 8 < l.length := by rw [hh]; simp only [List.length_cons]; omega
 have e7 : l[7] = 52 := by subst hh; rfl
 have hpre : decide (l.take 7 = [37, 80, 68, 70, 45, 49, 46]) = true := by rw [hh]; rfl
 have s1 := sfx_of hend
 have s2 := sfx_cons s1
 have a9 := sx_add hend
 have h9 : f_sx.length = 9 := rfl
 obtain ⟨d, ds, hdd, hdb⟩ := dig_cons at0
 have hnil : l = [] → c0 = 0 ∨ p0 ≠ none := fun e => by rw [e] at e8; simp at e8
 refine W.enterD func9 rfl ntmps9 (Nat.le_of_ble_eq_true rfl) ?_
 have hB0 := Below.refl (w.heap.size) w
 refine WD.seq ?_
 refine W.reg <| WL.alloc zeroValue32 rfl (fun b1 wb1 eb1 hkb1 hub1 hsb1 => ?_)
 have hvl3 := fun h0 => eb1 ▸ ha.lt h0
 have hv2 := bup ha hub1 hvl3
 have hB4 := Upd.below hB0 (by rw [eb1]; exact hB0.size) hub1
 have hgeb1 : w.heap.size ≤ b1 := by rw [eb1]; exact hB0.size
 refine WL.alloc zeroValue29 rfl (fun b5 wb5 eb5 hkb5 hub5 hsb5 => ?_)
 have hl7 : b1 < b5 := by rw [eb5]; exact hkb1.lt
 have hk6 := hkb1.upd hub5 (Nat.ne_of_lt hl7)
 have hvl9 := fun h0 => eb5 ▸ hv2.lt h0
 have hv8 := bup hv2 hub5 hvl9
 have hB10 := Upd.below hB4 (by rw [eb5]; exact hB4.size) hub5
 have hgeb5 : w.heap.size ≤ b5 := by rw [eb5]; exact hB4.size
 refine WL.nil <| ?_
 refine WD.seq ?_
 refine W.sr <| WL.m rfl rfl <| WL.p (.lenS underlying26 rfl) rfl <| WL.p (.bis (false) (.gtr rfl rfl) (by exact decide_eq_false oO)) rfl <| WL.nil <| ?_
 refine W.condF rfl rfl ?_
 refine W.skip ?_
 refine WD.defer rfl rfl ?_
 refine WD.of ?_
 refine W.sr <| WL.bsl (ps := _) underlying26 sizeOf5 zeroValue5 rfl rfl rfl rfl rfl pR rfl (fun b11 wb11 eb11 hkb11 hub11 hsb11 => ?_)
 have hl13 : b1 < b11 := by rw [eb11]; exact hk6.lt
 have hk12 := hk6.upd hub11 (Nat.ne_of_lt hl13)
 have hl15 : b5 < b11 := by rw [eb11]; exact hkb5.lt
 have hk14 := hkb5.upd hub11 (Nat.ne_of_lt hl15)
 have hvl17 := fun h0 => eb11 ▸ hv8.lt h0
 have hv16 := bup hv8 hub11 hvl17
 have hB18 := Upd.below hB10 (by rw [eb11]; exact hB10.size) hub11
 have hgeb11 : w.heap.size ≤ b11 := by rw [eb11]; exact hB10.size
 refine WL.cvB ([37, 80, 68, 70, 45, 49, 46]) underlying26 underlying5 rfl hkb11 rfl rfl (fun w19 hhd huw19 hsw19 => ?_)
 have hk20 := hk12.up huw19
 have hk21 := hk14.up huw19
 have hv22 := bup hv16 huw19 hvl17
 have hB23 := Upd.below hB18 oO huw19
 refine WL.z rfl rfl ?_
 refine W.sr <| WL.m rfl rfl <| WL.m rfl rfl <| WL.c1 hb23 rfl rfl ((byt_HasPrefixB true p0 l _ c0 _ [37, 80, 68, 70, 45, 49, 46] _ 7 _ rfl rfl hv22 hhd (by simp only [List.length_cons, List.length_nil]; omega) hc hpre)) (fun w24 hw24 => ?_)
 obtain rfl := hw24
 refine WL.m rfl rfl <| WL.gy rfl rfl rfl rfl <| WL.m rfl rfl <| WL.gy rfl rfl rfl rfl <| WL.p (.lenS underlying26 rfl) rfl <| WL.gy rfl rfl rfl rfl <| WL.m rfl rfl <| WL.gy rfl rfl rfl rfl <| WL.p (.lenS underlying26 rfl) rfl <| WL.gy rfl rfl rfl rfl <| WL.p (.bis (true) (.gtr rfl rfl) (by exact decide_eq_true oO)) rfl <| WL.p (.pkT rfl rfl rfl) rfl <| WL.m rfl rfl <| WL.gy rfl rfl rfl rfl <| WL.m rfl rfl <| WL.gy rfl rfl rfl rfl <| WL.m rfl rfl <| WL.gy rfl rfl rfl rfl <| WL.p (.lenS underlying26 rfl) rfl <| WL.gy rfl rfl rfl rfl <| WL.p (.ixb underlying26 sizeOf5 rfl rfl (hv22.isp oO) (7) (rfl) oO) rfl <| WL.gy rfl rfl rfl rfl <| WL.r (Rd.ldc (isAgg5 _) rfl (hv22.cells (7) oO)) rfl <| WL.gy rfl rfl rfl rfl <| WL.p (.bis (true) (.geq rfl rfl) (by rw [e7]; rfl)) rfl <| WL.p (.pkT rfl rfl rfl) rfl <| WL.m rfl rfl <| WL.gy rfl rfl rfl rfl <| WL.m rfl rfl <| WL.gy rfl rfl rfl rfl <| WL.m rfl rfl <| WL.gy rfl rfl rfl rfl <| WL.p (.lenS underlying26 rfl) rfl <| WL.gy rfl rfl rfl rfl <| WL.p (.ixb underlying26 sizeOf5 rfl rfl (hv22.isp oO) (7) (rfl) oO) rfl <| WL.gy rfl rfl rfl rfl <| WL.r (Rd.ldc (isAgg5 _) rfl (hv22.cells (7) oO)) rfl <| WL.gy rfl rfl rfl rfl <| WL.p (.bis (true) (.leq rfl rfl) (by rw [e7]; rfl)) rfl <| WL.p (.pkT rfl rfl rfl) rfl <| WL.c1 hb22 rfl rfl ((pread_want _)) (fun w25 hw25 => ?_)
 obtain rfl := hw25
 refine WL.nil <| ?_
 refine W.sr <| WL.m rfl rfl <| WL.bsl (ps := _) underlying26 sizeOf5 zeroValue5 rfl rfl rfl rfl rfl pR rfl (fun b26 wb26 eb26 hkb26 hub26 hsb26 => ?_)
 have hl28 : b1 < b26 := by rw [eb26]; exact hk20.lt
 have hk27 := hk20.upd hub26 (Nat.ne_of_lt hl28)
 have hl30 : b5 < b26 := by rw [eb26]; exact hk21.lt
 have hk29 := hk21.upd hub26 (Nat.ne_of_lt hl30)
 have hvl32 := fun h0 => eb26 ▸ hv22.lt h0
 have hv31 := bup hv22 hub26 hvl32
 have hB35 := Upd.below hB23 (by rw [eb26]; exact hB23.size) hub26
 have hgeb26 : w.heap.size ≤ b26 := by rw [eb26]; exact hB23.size
 refine WL.cvB ([115, 116, 97, 114, 116, 120, 114, 101, 102]) underlying26 underlying5 rfl hkb26 rfl rfl (fun w36 hsx huw36 hsw36 => ?_)
 have hk37 := hk27.up huw36
 have hk38 := hk29.up huw36
 have hv39 := bup hv31 huw36 hvl32
 have hB41 := Upd.below hB35 oO huw36
 refine WL.c1 hb24 rfl rfl ((byt_LastIndex p0 l c0 _ f_sx _ _ _ hv39 hsx hc oO dD hel hwin hno)) (fun w42 hw42 => ?_)
 have hk43 := hk37.drew hw42
 have hk44 := hk38.drew hw42
 have hv45 := hv39.drew hw42
 have hB48 := Drew.below hB41 hw42
 refine WL.z rfl rfl ?_
 refine W.sr <| WL.m rfl rfl <| WL.p (.bis (true) (.geq rfl rfl) (by exact decide_eq_true oO)) rfl <| WL.c1 hb22 rfl rfl ((pread_want _)) (fun w49 hw49 => ?_)
 obtain rfl := hw49
 refine WL.nil <| ?_
 refine W.sr <| WL.m rfl rfl <| ?_
 have hb1l := (hk43).lt
 have hb5l := (hk44).lt
 refine WL.call hb25 rfl rfl ((byt_Clone p0 l _ c0 _ rfl hv45 hnil oO)) (fun v w50 hw50 => ?_)
 have hk51 := hk43.below hw50.1 hk43.lt
 have hk52 := hk44.below hw50.1 hk44.lt
 have hB56 := btr hB48 hw50.1
 have hown := hw50.2
 have hgec := hB48.size
 obtain ⟨pcl, ccl, ecl, hcl, hBcl, hccl, hncl⟩ := Own.bytesC (l := l) hown
 subst ecl
 have hclt := (hcl).lt
 refine WL.m rfl rfl <| WL.p (.iis ((sx l (10 :: (digitsL at0 ++ (10 :: 37 :: 37 :: 69 :: 79 :: 70 :: [10]))) : Int)) (.add rfl rfl (i64w oO)) oO) rfl <| ?_
 refine WL.p (.buildL (ps := _) blt57 rfl rfl rfl pS) rfl ?_
 refine WL.box rfl rfl (fun b57 wb57 eb57 hkb57 hub57 hsb57 => ?_)
 have hl59 : b1 < b57 := by rw [eb57]; exact hk51.lt
 have hk58 := hk51.upd hub57 (Nat.ne_of_lt hl59)
 have hl61 : b5 < b57 := by rw [eb57]; exact hk52.lt
 have hk60 := hk52.upd hub57 (Nat.ne_of_lt hl61)
 have hvl69 := fun h0 => eb57 ▸ hcl.lt h0
 have hv68 := bup hcl hub57 hvl69
 have hB70 := Upd.below hB56 (by rw [eb57]; exact hB56.size) hub57
 have hgeb57 : w.heap.size ≤ b57 := by rw [eb57]; exact hB56.size
 have hrd : Blk wb57 b57 (rdC pcl l ccl (sx l (10 :: (digitsL at0 ++ (10 :: 37 :: 37 :: 69 :: 79 :: 70 :: [10]))))) 57 := hkb57
 have hrdne : 0 < l.length → (pA pcl).block ≠ b57 := fun h0 => by have := hclt h0; omega
 refine WL.z rfl rfl ?_
 refine W.sr <| WL.m rfl rfl <| WL.c1 hb26 rfl rfl ((rd_blanksS 10 d (ds ++ (10 :: 37 :: 37 :: 69 :: 79 :: 70 :: [10])) (by rw [show 10 :: d :: (ds ++ (10 :: 37 :: 37 :: 69 :: 79 :: 70 :: [10])) = 10 :: (digitsL at0 ++ (10 :: 37 :: 37 :: 69 :: 79 :: 70 :: [10])) by rw [hdd]; rfl]; exact hrd) hv68 oO hrdne (by rw [show 10 :: d :: (ds ++ (10 :: 37 :: 37 :: 69 :: 79 :: 70 :: [10])) = 10 :: (digitsL at0 ++ (10 :: 37 :: 37 :: 69 :: 79 :: 70 :: [10])) by rw [hdd]; rfl]; exact s1) dD hdb)) (fun w71 hw71 => ?_)
 have hk72 := Blk.keepB hk58 hw71.1 hk58.lt (by simp only [List.mem_cons, List.not_mem_nil, or_false, not_or, not_false_eq_true]; omega)
 have hk73 := Blk.keepB hk60 hw71.1 hk60.lt (by simp only [List.mem_cons, List.not_mem_nil, or_false, not_or, not_false_eq_true]; omega)
 have hv77 := BytesAt.keepB hv68 hw71.1 (fun h0 => ⟨hv68.lt h0, by first | (have q2 := hcl69 h0; have q3 := hcl68 h0; have q1 := hrdne h0; simp only [List.mem_cons, List.not_mem_nil, or_false, not_or, not_false_eq_true]; omega) | simpa using hrdne h0⟩)
 have hB78 := Below.trans hB70 (KeepB.below hw71.1 hB70.size (by simp <;> omega))
 have hm4 : Blk w71 b57 (rdC pcl l ccl (sx l (digitsL at0 ++ (10 :: 37 :: 37 :: 69 :: 79 :: 70 :: [10])))) 57 := by have q := hw71.2; rwa [show d :: (ds ++ (10 :: 37 :: 37 :: 69 :: 79 :: 70 :: [10])) = digitsL at0 ++ (10 :: 37 :: 37 :: 69 :: 79 :: 70 :: [10]) by rw [hdd]; rfl] at q
 refine WL.nil <| ?_
 refine W.sr <| WL.m rfl rfl <| WL.c1 hb27 rfl rfl ((rd_ending b57 pcl l ccl at0 [10] _ hm4 hv77 hccl oO hrdne s2 oO)) (fun w79 hw79 => ?_)
 have hk80 := Blk.keepB hk72 hw79.1 hk72.lt (by simp only [List.mem_cons, List.not_mem_nil, or_false, not_or, not_false_eq_true]; omega)
 have hk81 := Blk.keepB hk73 hw79.1 hk73.lt (by simp only [List.mem_cons, List.not_mem_nil, or_false, not_or, not_false_eq_true]; omega)
 have hv85 := BytesAt.keepB hv77 hw79.1 (fun h0 => ⟨hv77.lt h0, by first | (have q2 := hcl69 h0; have q3 := hcl68 h0; have q1 := hrdne h0; simp only [List.mem_cons, List.not_mem_nil, or_false, not_or, not_false_eq_true]; omega) | simpa using hrdne h0⟩)
 have hB86 := Below.trans hB78 (KeepB.below hw79.1 hB78.size (by simp <;> omega))
 obtain ⟨t5, hm5⟩ := hw79.2
 refine WL.z rfl rfl ?_
 refine W.sr <| WL.m rfl rfl <| WL.m rfl rfl <| WL.p (.lenS underlying26 rfl) rfl <| WL.p (.bis (true) (.leq rfl rfl) (by exact decide_eq_true oO)) rfl <| WL.c1 hb22 rfl rfl ((pread_want _)) (fun w87 hw87 => ?_)
 obtain rfl := hw87
 refine WL.nil <| ?_
 refine W.sr <| WL.m rfl rfl <| WL.p (.nck rfl) rfl <| WL.p (.fa underlying57 rfl sizeOf26 dD rfl) rfl <| WL.r (Rd.ld (isAgg26 _) rfl hm5 rfl) rfl <| ?_
 have hcl67 := (hv85).lt
 have hrl67 := (hm5).lt
 refine WL.mkI 3 3 rfl (fun b88 wb88 eb88 hmb88 hub88 hsb88 => ?_)
 have hl90 : b1 < b88 := by rw [eb88]; exact hk80.lt
 have hk89 := hk80.upd hub88 (Nat.ne_of_lt hl90)
 have hl92 : b5 < b88 := by rw [eb88]; exact hk81.lt
 have hk91 := hk81.upd hub88 (Nat.ne_of_lt hl92)
 have hl94 : b57 < b88 := by rw [eb88]; exact hm5.lt
 have hk93 := hm5.upd hub88 (Nat.ne_of_lt hl94)
 have hvl102 := fun h0 => eb88 ▸ hv85.lt h0
 have hv101 := bup hv85 hub88 hvl102
 have hB103 := Upd.below hB86 (by rw [eb88]; exact hB86.size) hub88
 have hgeb88 : w.heap.size ≤ b88 := by rw [eb88]; exact hB86.size
 refine WL.p (.build (cs := fdC pcl l ccl b88 (pc0 0 0 [])) rfl (by rw [blt60]; rfl)) rfl ?_
 refine WL.box rfl rfl (fun b104 wb104 eb104 hkb104 hub104 hsb104 => ?_)
 have hF105 := MapI.same (w1 := wb104) hmb88 (fun k hk hl => hub104.other k oO)
 have hl107 : b1 < b104 := by rw [eb104]; exact hk89.lt
 have hk106 := hk89.upd hub104 (Nat.ne_of_lt hl107)
 have hl109 : b5 < b104 := by rw [eb104]; exact hk91.lt
 have hk108 := hk91.upd hub104 (Nat.ne_of_lt hl109)
 have hl111 : b57 < b104 := by rw [eb104]; exact hk93.lt
 have hk110 := hk93.upd hub104 (Nat.ne_of_lt hl111)
 have hvl119 := fun h0 => eb104 ▸ hv101.lt h0
 have hv118 := bup hv101 hub104 hvl119
 have hB120 := Upd.below hB103 (by rw [eb104]; exact hB103.size) hub104
 have hgeb104 : w.heap.size ≤ b104 := by rw [eb104]; exact hB103.size
 have hcl69 : 0 < l.length → (pA pcl).block ≠ b104 := fun h0 => by have := (hv118).lt h0; have := hcl67 h0; omega
 have hcl68 : 0 < l.length → (pA pcl).block ≠ b88 := fun h0 => by have := hcl67 h0; omega
 have hfd : Blk wb104 b104 (fdC pcl l ccl b88 (pc0 0 0 [])) 60 := hkb104
 have hfm0 : MapI Tryz.prog 3 3 wb104 b88 0 (plG []) 0 := by rw [plG_nil]; exact hF105
 refine WL.st sizeOf32 rfl rfl rfl hk106 oD (fun w121 hkw121 huw121 hsw121 => ?_)
 have hkw121 : Blk w121 b1 _ _ := hkw121
 have huw121 : Upd b1 _ _ := huw121
 have hF122 := MapI.same (w1 := w121) hfm0 (fun k hk hl => huw121.other k (by first | ((try simp only) <;> omega) | (have := hk.1; ((try simp only) <;> omega))))
 have hk123 := hk108.up huw121
 have hk124 := hk110.up huw121
 have hk125 := hfd.upd huw121 oM
 have hv129 := BytesAt.upd hv118 huw121 (fun h0 => by have := hBcl h0; omega)
 have hB130 := Upd.below hB120 oO huw121
 refine WL.nil <| ?_
 refine W.sr <| WL.m rfl rfl <| WL.m rfl rfl <| WL.p (.nck rfl) rfl <| WL.p (.fa underlying57 rfl sizeOf3 dD rfl) rfl <| WL.st sizeOf3 rfl rfl rfl hk124 oD (fun w131 hkw131 huw131 hsw131 => ?_)
 have hkw131 : Blk w131 b57 _ _ := hkw131
 have huw131 : Upd b57 _ _ := huw131
 have hF132 := MapI.same (w1 := w131) hF122 (fun k hk hl => huw131.other k (by first | ((try simp only) <;> omega) | (have := hk.1; ((try simp only) <;> omega))))
 have hk133 := hkw121.up huw131
 have hk134 := hk123.up huw131
 have hk135 := hk125.up huw131
 have hv139 := bup hv129 huw131 hvl69
 have hB140 := Upd.below hB130 oO huw131
 refine WL.nil <| ?_
 refine W.sr <| WL.m rfl rfl <| WL.r (Rd.ld (isAgg32 _) rfl hk133 rfl) rfl <| WL.c1 hb28 rfl rfl ((rd_table b57 b104 b88 pcl l ccl ps _ _ (by rw [htab_at]; exact hkw131) hk135 hF132 hv139 hccl oO htab hps oO hrdne hcl69 hcl68 oO oO oO)) (fun w141 hw141 => ?_)
 have hk142 := Blk.keepB hk133 hw141.1 hk133.lt (by simp only [List.mem_cons, List.not_mem_nil, or_false, not_or, not_false_eq_true]; omega)
 have hk143 := Blk.keepB hk134 hw141.1 hk134.lt (by simp only [List.mem_cons, List.not_mem_nil, or_false, not_or, not_false_eq_true]; omega)
 have hv147 := BytesAt.keepB hv139 hw141.1 (fun h0 => ⟨hv139.lt h0, by first | (have q2 := hcl69 h0; have q3 := hcl68 h0; have q1 := hrdne h0; simp only [List.mem_cons, List.not_mem_nil, or_false, not_or, not_false_eq_true]; omega) | simpa using hrdne h0⟩)
 have hB148 := Below.trans hB140 (KeepB.below hw141.1 hB140.size (by simp <;> omega))
 obtain ⟨y, hf2, hpy, hm2⟩ := hw141.2
 refine WL.nil <| ?_
 refine W.sr <| WL.r (Rd.ld (isAgg32 _) rfl hk142 rfl) rfl <| WL.st sizeOf32 rfl rfl rfl hk142 oD (fun w149 hkw149 huw149 hsw149 => ?_)
 have hkw149 : Blk w149 b1 _ _ := hkw149
 have huw149 : Upd b1 _ _ := huw149
 have hF150 := MapI.same (w1 := w149) hm2 (fun k hk hl => huw149.other k (by first | ((try simp only) <;> omega) | (have := hk.1; ((try simp only) <;> omega))))
 have hF151 := PRep.same (w1 := w149) hpy (fun k hk hl => huw149.other k (by first | ((try simp only) <;> omega) | (have := hk.1; ((try simp only) <;> omega))))
 have hk152 := hk143.up huw149
 have hk153 := hf2.upd huw149 oM
 have hv157 := BytesAt.upd hv147 huw149 (fun h0 => by have := hBcl h0; omega)
 have hB158 := Upd.below hB148 oO huw149
 refine WL.st sizeOf29 rfl rfl rfl hk152 oD (fun w159 hkw159 huw159 hsw159 => ?_)
 have hkw159 : Blk w159 b5 _ _ := hkw159
 have huw159 : Upd b5 _ _ := huw159
 have hF160 := MapI.same (w1 := w159) hF150 (fun k hk hl => huw159.other k (by first | ((try simp only) <;> omega) | (have := hk.1; ((try simp only) <;> omega))))
 have hF161 := PRep.same (w1 := w159) hF151 (fun k hk hl => huw159.other k (by first | ((try simp only) <;> omega) | (have := hk.1; ((try simp only) <;> omega))))
 have hk162 := hkw149.up huw159
 have hk163 := hk153.up huw159
 have hv167 := BytesAt.upd hv157 huw159 (fun h0 => by have := hBcl h0; omega)
 have hB168 := Upd.below hB158 oO huw159
 refine WL.nil <| ?_
 refine W.ret ?_
 exact PostD.ret hb20 (fun w' => _) (open_quiet b1 b5 _ hkw159) (fun w' hS => by
  subst hS
  exact ⟨_, ResOk.cells2 rfl rfl rfl (ldCell hk162 (isAgg32 _) rfl) (ldCell hkw159 (isAgg29 _) rfl), ⟨b104, rvE rfl, ⟨pcl, ccl, b88, y, hk163, by omega, hv167, fun h0 => by (have := hBcl h0; omega), hccl, hF160, by omega, (hF161).mono (fun k hk _ => by omega)⟩, hB168⟩⟩)
end
end Go.Proofs.YthljhjcndpnleaaGreatDoor
