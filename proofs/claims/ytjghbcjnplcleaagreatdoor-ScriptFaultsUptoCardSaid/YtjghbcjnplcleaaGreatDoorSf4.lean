/-
  What the claim leans on, part 4: pruned and joined by my own tool out of the texts that stand in wip/ as templates.
-/
import Derived.Test.YtjghbcjnplcleaaGreatDoorSf3
namespace Go.Proofs.YtjghbcjnplcleaaGreatDoor
open Go.RowKit
open Go.Proofs.Tryz
section
theorem hb254 : HasBody Tryz.prog 254 := hasBody func254 kR
theorem hb228 : HasBody Tryz.prog 228 := hasBody func228 kR
theorem hb255 : HasBody Tryz.prog 255 := hasBody func255 kR
theorem hb229 : HasBody Tryz.prog 229 := hasBody func229 kR
theorem lib_HasPrefix1 (l : List UInt8) (c : UInt8) (w : World) (hl : l.length ≤ 9223372036854775807) :
  Calls Tryz.prog 254 #[.string (bs l), .string (bs [c])] w fun e w' => e = .returned (.bool (decide (l.take 1 = [c]))) ∧ w = w' := by
 refine W.enter func254 rfl ntmps254 (Nat.le_of_ble_eq_true rfl) ?_
 refine W.sr <| WL.z rfl rfl ?_
 refine W.sr <| WL.m rfl rfl <| WL.p (.len underlying9 rfl) rfl <| WL.m rfl rfl <| WL.p (.len underlying9 rfl) rfl <| WL.p (.geq rfl rfl) rfl <| WL.m rfl rfl <| WL.gd rfl rfl rfl (fun g1 => ?_) (fun g1 => ?_)
 have g1' := dT g1
 refine WL.m rfl rfl <| WL.gy rfl rfl rfl g1 <| WL.m rfl rfl <| WL.gy rfl rfl rfl g1 <| WL.p (.len underlying9 rfl) rfl <| WL.gy rfl rfl rfl g1 <| WL.p (.slT underlying9 rfl rfl (1) (rfl) (by have h9 : ((l.length : Nat) : Int) ≥ (([c].length : Nat) : Int) := aS; simp only [List.length_cons, List.length_nil] at h9; omega)) rfl <| WL.gy rfl rfl rfl g1 <| WL.m rfl rfl <| WL.gy rfl rfl rfl g1 <| WL.p (.eqs rfl rfl) rfl <| WL.p (.pkT rfl g1 rfl) rfl <| WL.z rfl rfl ?_
 refine W.ret (W.ret1 rfl rfl ?_)
 first
 | exact ⟨rfl, rfl⟩
 | exact ⟨scr_val (by
   cases l with
   | nil => simp
   | cons x r => exfalso; simp_all; omega), rfl⟩
 have g1' := dF g1
 refine WL.gn rfl rfl rfl g1 <| WL.gn rfl rfl rfl g1 <| WL.gn rfl rfl rfl g1 <| WL.gn rfl rfl rfl g1 <| WL.gn rfl rfl rfl g1 <| WL.p (.pkF rfl g1 rfl) rfl <| WL.z rfl rfl ?_
 refine W.ret (W.ret1 rfl rfl ?_)
 first
 | exact ⟨rfl, rfl⟩
 | exact ⟨scr_val (by
   cases l with
   | nil => simp
   | cons x r => exfalso; simp_all; omega), rfl⟩
theorem lib_CutPrefix0 (l : List UInt8) (c : UInt8) (w : World) (hl : l.length ≤ 9223372036854775807) :
  Calls Tryz.prog 228 #[.string (bs l), .string (bs [c])] w fun e w' => e = .returned (.tuple #[.string (bs (if l.take 1 = [c] then l.drop 1 else l)), .bool (decide (l.take 1 = [c]))]) ∧ w = w' := by
 refine W.enter func228 rfl ntmps228 (Nat.le_of_ble_eq_true rfl) ?_
 refine W.sr <| WL.a rfl rfl <| WL.z rfl rfl ?_
 refine W.seq <| W.sr <| WL.m rfl rfl <| WL.m rfl rfl <| WL.c1 hb254 rfl rfl ((lib_HasPrefix1 l c _ hl)) (fun w1 hw1 => ?_)
 obtain rfl := hw1
 refine WL.p (.not rfl) rfl <| WL.nil <| ?_
 refine W.cond rfl (fun h2 => ?_) (fun h2 => ?_)
 have h2' := (nT h2)
 have ht : ¬ l.take 1 = [c] := dF aS
 refine W.sr <| WL.m rfl rfl <| WL.a rfl rfl <| WL.z rfl rfl ?_
 refine W.ret (W.ret2 rfl rfl rfl ?_)
 first
 | exact ⟨by rw [if_pos ht, decide_eq_true ht], rfl⟩
 | exact ⟨by rw [if_neg ht, decide_eq_false ht], rfl⟩
 have h2' := (nF h2)
 have ht : l.take 1 = [c] := dT aS
 have hl1 : 1 ≤ l.length := by
  cases l with
  | nil => simp at ht
  | cons x r => simp
 refine W.skip <| W.sr <| WL.m rfl rfl <| WL.m rfl rfl <| WL.p (.len underlying9 rfl) rfl <| WL.p (.slF underlying9 rfl rfl (1) (rfl) oO) rfl <| WL.a rfl rfl <| WL.z rfl rfl ?_
 refine W.ret (W.ret2 rfl rfl rfl ?_)
 first
 | exact ⟨by rw [if_pos ht, decide_eq_true ht], rfl⟩
 | exact ⟨by rw [if_neg ht, decide_eq_false ht], rfl⟩
theorem lib_CutPrefix1 (l : List UInt8) (c : UInt8) (w : World) (hl : l.length ≤ 9223372036854775807) :
  Calls Tryz.prog 188 #[.string (bs l), .string (bs [c])] w fun e w' => e = .returned (.tuple #[.string (bs (if l.take 1 = [c] then l.drop 1 else l)), .bool (decide (l.take 1 = [c]))]) ∧ w = w' := by
 refine W.enter func188 rfl ntmps188 (Nat.le_of_ble_eq_true rfl) ?_
 refine W.sr <| WL.a rfl rfl <| WL.z rfl rfl ?_
 refine W.sr <| WL.m rfl rfl <| WL.m rfl rfl <| WL.c1 hb228 rfl rfl ((lib_CutPrefix0 l c _ hl)) (fun w1 hw1 => ?_)
 obtain rfl := hw1
 refine WL.p (.ext rfl rfl) rfl <| WL.p (.ext rfl rfl) rfl <| WL.a rfl rfl <| WL.z rfl rfl ?_
 refine W.ret (W.ret2 rfl rfl rfl ?_)
 exact ⟨rfl, rfl⟩
theorem lib_TrimHex (l : List UInt8) (w : World) (hl : l.length ≤ 100000000) :
  Calls Tryz.prog 116 #[.string (bs l), .string (bs digS)] w fun e w' => ∃ t : List UInt8, e = .returned (.string (bs t)) ∧ decide (t = []) = l.all hexB ∧ Below w.heap.size w w' := by
 refine (Any.strings_Trim_laid Tryz.lays160 kR (bs l) (bs digS) w (by rw [bs_size]; omega) dD (ascii_of_all dD)).mono ?_
 rintro e w' ⟨rfl, hb⟩
 refine ⟨_, rfl, ?_, hb⟩
 have e1 : (bs l).data.toList = l := by simp [bs]
 have e2 : (bs digS).data.toList = digS := by simp [bs]
 rw [e1, e2, Bool.eq_iff_iff, decide_eq_true_eq, trimS_nil_iff]
 rfl
theorem bits_low (c : UInt8) (h : 97 ≤ c.toNat ∧ c.toNat ≤ 102) : bits .or .u8 (c.toNat : Int) 32 = (c.toNat : Int) := by
 have key : ∀ n : Nat, n < 103 → 97 ≤ n → bits .or .u8 (n : Int) 32 = (n : Int) := by decide +kernel
 exact key _ oO h.1
theorem lib_lower (c : UInt8) (h : 97 ≤ c.toNat ∧ c.toNat ≤ 102) (w : World) :
  Calls Tryz.prog 255 #[.int .u8 (c.toNat : Int)] w fun e w' => e = .returned (.int .u8 (c.toNat : Int)) ∧ w = w' := by
 refine W.enter func255 rfl ntmps255 (Nat.le_of_ble_eq_true rfl) ?_
 refine W.sr <| WL.z rfl rfl ?_
 refine W.sr <| WL.m rfl rfl <| WL.p (.orb rfl rfl (bits_low c h)) rfl <| WL.z rfl rfl ?_
 refine W.ret (W.ret1 rfl rfl ?_)
 exact ⟨rfl, rfl⟩
theorem hexB_cases {c : UInt8} (h : hexB c = true) : (48 ≤ c.toNat ∧ c.toNat ≤ 57 ∧ hexV c = c.toNat - 48) ∨ (97 ≤ c.toNat ∧ c.toNat ≤ 102 ∧ hexV c = c.toNat - 87) := by
 have key : ∀ n : Fin 256, digS.contains (UInt8.ofNat n.val) = true → (48 ≤ n.val ∧ n.val ≤ 57) ∨ (97 ≤ n.val ∧ n.val ≤ 102) := by decide +kernel
 have h2 := key ⟨c.toNat, UInt8.toNat_lt c⟩ (by simpa [hexB] using h)
 rcases h2 with h2 | h2
 ·
  exact .inl ⟨h2.1, h2.2, by unfold hexV; rw [if_pos h2]⟩
 ·
  exact .inr ⟨h2.1, h2.2, by unfold hexV; rw [if_neg (by simp only at h2; omega)]⟩
/-- the number of the first i digits -/
def hv (a b : UInt8) : Nat → Nat
 | 0 => 0
 | 1 => hexV a
 | _ => 16 * hexV a + hexV b
theorem hv_step (a b : UInt8) (i : Nat) (h : i < [a, b].length) : hv a b (i + 1) = 16 * hv a b i + hexV [a, b][i] := by
 have h2 : i < 2 := h
 obtain rfl | rfl : i = 0 ∨ i = 1 := by omega
 ·
  simp [hv]
 ·
  simp [hv]
set_option maxHeartbeats 1600000 in
theorem lib_ParseUint2 (a b : UInt8) (w : World) (ha : hexB a = true) (hb' : hexB b = true) :
  Calls Tryz.prog 229 #[.string (bs [a, b]), .int .i64 16, .int .i64 8] w fun e w' => e = .returned (.tuple #[.int .u64 ((16 * hexV a + hexV b : Nat) : Int), .nilIface]) ∧ Below w.heap.size w w' := by
 refine W.enter func229 rfl ntmps229 (Nat.le_of_ble_eq_true rfl) ?_
 have hB0 := Below.refl (w.heap.size) w
 refine W.sr <| WL.a rfl rfl <| WL.z rfl rfl ?_
 refine W.seq <| W.sr <| WL.m rfl rfl <| WL.p (.bis (false) (.eqs rfl rfl) (by exact decide_eq_false (by simp))) rfl <| WL.nil <| ?_
 refine W.condF rfl rfl ?_
 refine W.skip <| W.sr <| WL.m rfl rfl <| WL.p (.bis (false) (.eql rfl rfl) (by rfl)) rfl <| WL.z rfl rfl ?_
 refine W.sr <| WL.m rfl rfl <| WL.z rfl rfl ?_
 refine W.seq <| W.block <| W.sr <| WL.m rfl rfl <| WL.p (.bis (true) (.leq rfl rfl) (by rfl)) rfl <| WL.m rfl rfl <| WL.gy rfl rfl rfl rfl <| WL.m rfl rfl <| WL.gy rfl rfl rfl rfl <| WL.p (.bis (true) (.leq rfl rfl) (by rfl)) rfl <| WL.p (.bis (true) (.pkT rfl rfl rfl) (by rfl)) rfl <| WL.z rfl rfl ?_
 refine W.condT rfl rfl ?_
 refine W.skip <| W.seq <| W.sr <| WL.m rfl rfl <| WL.p (.bis (false) (.eql rfl rfl) (by rfl)) rfl <| WL.nil <| ?_
 refine W.condF rfl rfl ?_
 refine W.sr <| WL.m rfl rfl <| WL.p (.bis (false) (.lss rfl rfl) (by rfl)) rfl <| WL.m rfl rfl <| WL.gy rfl rfl rfl rfl <| WL.m rfl rfl <| WL.gy rfl rfl rfl rfl <| WL.p (.bis (false) (.gtr rfl rfl) (by rfl)) rfl <| WL.p (.bis (false) (.pkF rfl rfl rfl) (by rfl)) rfl <| WL.nil <| ?_
 refine W.condF rfl rfl ?_
 refine W.skip <| W.sr <| WL.z rfl rfl ?_
 refine W.seq <| W.sr <| WL.m rfl rfl <| WL.nil <| ?_
 refine W.block <| W.sr <| WL.p (.bis (false) (.eql rfl rfl) (by rfl)) rfl <| WL.z rfl rfl ?_
 refine W.condF rfl rfl ?_
 refine W.sr <| WL.p (.bis (true) (.eql rfl rfl) (by rfl)) rfl <| WL.z rfl rfl ?_
 refine W.condT rfl rfl ?_
 refine W.reg <| WL.z rfl rfl ?_
 refine W.sr <| WL.m rfl rfl <| WL.p (.cvt underlying3 underlying139 rfl (u64w oO)) rfl <| WL.p (.shlk rfl rfl dD dD 256 rfl) rfl <| WL.p (.iis (255) (.sub rfl rfl (u64w oO)) (by rfl)) rfl <| WL.z rfl rfl ?_
 refine W.sr <| WL.z rfl rfl ?_
 refine W.sr <| WL.z rfl rfl ?_
 refine W.seq <| W.sr <| WL.m rfl rfl <| WL.s2b underlying9 underlying22 underlying5 rfl rfl (fun b1 wb1 cs99 eb1 hs99 hcs99 hub1 hsb1 => ?_)
 have hB2 := Upd.below hB0 (by rw [eb1]; exact hB0.size) hub1
 have hgeb1 : w.heap.size ≤ b1 := by rw [eb1]; exact hB0.size
 refine WL.p (.lenS underlying22 rfl) rfl <| WL.m rfl rfl <| WL.nil <| ?_
 refine W.block ?_
 refine W.loop (α := Nat) (fun t => [(1, .int .i64 16), (8, .bool false), (10, .int .u64 1152921504606846976), (11, .int .u64 255), (12, .bool false), (13, .int .u64 ((hv a b t : Nat) : Int)), (99, .slice (some ⟨b1, 0, none⟩) 2 cs99), (100, .int .i64 2), (101, .int .i64 (t : Int))]) (fun t w' => Below w.heap.size w w' ∧ BytesAt w' (some ⟨b1, 0, none⟩) [a, b] ∧ t ≤ 2) (fun t => 2 - t) (0) ⟨rfl, rfl, rfl, rfl, rfl, rfl, rfl, rfl, rfl, trivial⟩ (⟨hB2, hs99, Nat.zero_le _⟩) (fun t w1 hR => ?_)
 obtain ⟨i, rfl⟩ : ∃ i, i = t := ⟨t, rfl⟩
 obtain ⟨hT, hv1, hi⟩ := hR
 refine W.sr <| WL.p (.lss rfl rfl) rfl <| WL.nil <| ?_
 refine W.seq <| W.cond rfl (fun h3 => ?_) (fun h3 => ?_)
 have h3' := dT h3
 have hi2 : i < [a, b].length := by simp only [List.length_cons, List.length_nil]; omega
 have hst := hv_step a b i hi2
 have hcb : hexB [a, b][i] = true := by
  obtain rfl | rfl : i = 0 ∨ i = 1 := by simp only [List.length_cons, List.length_nil] at hi2; omega
  exact ha
  exact hb'
 have hcc := hexB_cases hcb
 have hlo : hv a b i ≤ 15 := by
  have h1 := hexB_cases ha
  obtain rfl | rfl : i = 0 ∨ i = 1 := by simp only [List.length_cons, List.length_nil] at hi2; omega
  simp [hv]
  simp only [hv]; omega
 refine W.skip <| W.seq <| W.block <| W.sr <| WL.p (.ixb underlying22 sizeOf5 rfl rfl (hv1.isp oO) (i) (rfl) (hi2)) rfl <| WL.r (Rd.ldc (isAgg5 _) rfl (hv1.cells (i) oO)) rfl <| WL.z rfl rfl ?_
 refine W.sr <| WL.z rfl rfl ?_
 refine W.seq <| W.block <| W.sr <| WL.m rfl rfl <| WL.p (.bis (false) (.eql rfl rfl) (by exact decide_eq_false oO)) rfl <| WL.m rfl rfl <| WL.gn rfl rfl rfl rfl <| WL.p (.pkF rfl rfl rfl) rfl <| WL.z rfl rfl ?_
 refine W.condF rfl rfl ?_
 refine W.sr <| WL.m rfl rfl <| WL.p (.leq rfl rfl) rfl <| WL.m rfl rfl <| WL.gd rfl rfl rfl (fun g4 => ?_) (fun g4 => ?_)
 have g4' := dT g4
 refine WL.m rfl rfl <| WL.gy rfl rfl rfl g4 <| WL.p (.leq rfl rfl) rfl <| WL.p (.pkT rfl g4 rfl) rfl <| WL.z rfl rfl ?_
 refine W.cond rfl (fun h5 => ?_) (fun h5 => ?_)
 have h5' := dT h5
 refine W.reg <| WL.m rfl rfl <| WL.p (.iis (((hexV [a, b][i] : Nat) : Int)) (.sub rfl rfl (u8w oO)) oO) rfl <| WL.z rfl rfl ?_
 refine W.seq <| W.sr <| WL.m rfl rfl <| WL.m rfl rfl <| WL.p (.cvt underlying3 underlying5 rfl (u8w oO)) rfl <| WL.p (.geq rfl rfl) rfl <| WL.nil <| ?_
 refine W.cond rfl (fun h6 => ?_) (fun h6 => ?_)
 have h6' := dT h6
 exfalso; omega
 have h6' := dF h6
 refine W.skip <| W.seq <| W.sr <| WL.m rfl rfl <| WL.m rfl rfl <| WL.p (.geq rfl rfl) rfl <| WL.nil <| ?_
 refine W.cond rfl (fun h7 => ?_) (fun h7 => ?_)
 have h7' := dT h7
 exfalso; omega
 have h7' := dF h7
 refine W.skip <| W.sr <| WL.m rfl rfl <| WL.m rfl rfl <| WL.p (.cvt underlying3 underlying100 rfl (u64w oO)) rfl <| WL.p (.iis (((16 * hv a b i : Nat) : Int)) (.mul rfl rfl (u64w oO)) oO) rfl <| WL.z rfl rfl ?_
 refine W.sr <| WL.m rfl rfl <| WL.m rfl rfl <| WL.p (.cvt underlying5 underlying100 rfl (u64w oO)) rfl <| WL.p (.iis (((hv a b (i + 1) : Nat) : Int)) (.add rfl rfl (u64w oO)) oO) rfl <| WL.z rfl rfl ?_
 refine W.seq <| W.sr <| WL.m rfl rfl <| WL.m rfl rfl <| WL.p (.lss rfl rfl) rfl <| WL.m rfl rfl <| WL.gd rfl rfl rfl (fun g8 => ?_) (fun g8 => ?_)
 have g8' := dF g8
 refine WL.m rfl rfl <| WL.gy rfl rfl rfl g8 <| WL.m rfl rfl <| WL.gy rfl rfl rfl g8 <| WL.p (.gtr rfl rfl) rfl <| WL.p (.pkF rfl g8 rfl) rfl <| WL.nil <| ?_
 refine W.cond rfl (fun h9 => ?_) (fun h9 => ?_)
 have h9' := dT h9
 exfalso; simp_all; omega
 have h9' := dF h9
 refine W.skip <| W.reg <| WL.m rfl rfl <| WL.z rfl rfl ?_
 refine W.reg <| WL.p (.iis (((i + 1 : Nat) : Int)) (.add rfl rfl (i64w oO)) oO) rfl <| WL.m rfl rfl <| WL.nil <| ?_
 exact ⟨i + 1, ⟨rfl, rfl, rfl, rfl, rfl, rfl, rfl, rfl, rfl, trivial⟩, ⟨hT, hv1, by ((try simp only) <;> omega)⟩, by ((try simp only) <;> omega)⟩
 have g8' := dT g8
 refine WL.gn rfl rfl rfl g8 <| WL.gn rfl rfl rfl g8 <| WL.p (.pkT rfl g8 rfl) rfl <| WL.nil <| ?_
 refine W.condT rfl rfl ?_
 refine W.sr <| WL.m rfl rfl <| WL.p (.mkI underlying256 rfl) rfl <| WL.a rfl rfl <| WL.z rfl rfl ?_
 refine W.ret (W.ret2 rfl rfl rfl ?_)
 first
 | exact ⟨rfl, hT⟩
 | (exfalso; omega)
 have h5' := dF h5
 refine W.sr <| WL.m rfl rfl <| WL.c1 hb255 rfl rfl ((lib_lower [a, b][i] oO _)) (fun w10 hw10 => ?_)
 obtain rfl := hw10
 refine WL.p (.leq rfl rfl) rfl <| WL.m rfl rfl <| WL.gd rfl rfl rfl (fun g11 => ?_) (fun g11 => ?_)
 have g11' := dT g11
 refine WL.m rfl rfl <| WL.gy rfl rfl rfl g11 <| WL.c1 hb255 rfl rfl ((lib_lower [a, b][i] oO _)) (fun w12 hw12 => ?_)
 obtain rfl := hw12
 refine WL.gy rfl rfl rfl g11 <| WL.p (.leq rfl rfl) rfl <| WL.p (.pkT rfl g11 rfl) rfl <| WL.z rfl rfl ?_
 refine W.cond rfl (fun h13 => ?_) (fun h13 => ?_)
 have h13' := dT h13
 refine W.reg <| WL.m rfl rfl <| WL.c1 hb255 rfl rfl ((lib_lower [a, b][i] oO _)) (fun w14 hw14 => ?_)
 obtain rfl := hw14
 refine WL.p (.sub rfl rfl (u8w oO)) rfl <| WL.p (.iis (((hexV [a, b][i] : Nat) : Int)) (.add rfl rfl (u8w oO)) oO) rfl <| WL.z rfl rfl ?_
 refine W.seq <| W.sr <| WL.m rfl rfl <| WL.m rfl rfl <| WL.p (.cvt underlying3 underlying5 rfl (u8w oO)) rfl <| WL.p (.geq rfl rfl) rfl <| WL.nil <| ?_
 refine W.cond rfl (fun h15 => ?_) (fun h15 => ?_)
 have h15' := dT h15
 exfalso; omega
 have h15' := dF h15
 refine W.skip <| W.seq <| W.sr <| WL.m rfl rfl <| WL.m rfl rfl <| WL.p (.geq rfl rfl) rfl <| WL.nil <| ?_
 refine W.cond rfl (fun h16 => ?_) (fun h16 => ?_)
 have h16' := dT h16
 exfalso; omega
 have h16' := dF h16
 refine W.skip <| W.sr <| WL.m rfl rfl <| WL.m rfl rfl <| WL.p (.cvt underlying3 underlying100 rfl (u64w oO)) rfl <| WL.p (.iis (((16 * hv a b i : Nat) : Int)) (.mul rfl rfl (u64w oO)) oO) rfl <| WL.z rfl rfl ?_
 refine W.sr <| WL.m rfl rfl <| WL.m rfl rfl <| WL.p (.cvt underlying5 underlying100 rfl (u64w oO)) rfl <| WL.p (.iis (((hv a b (i + 1) : Nat) : Int)) (.add rfl rfl (u64w oO)) oO) rfl <| WL.z rfl rfl ?_
 refine W.seq <| W.sr <| WL.m rfl rfl <| WL.m rfl rfl <| WL.p (.lss rfl rfl) rfl <| WL.m rfl rfl <| WL.gd rfl rfl rfl (fun g17 => ?_) (fun g17 => ?_)
 have g17' := dF g17
 refine WL.m rfl rfl <| WL.gy rfl rfl rfl g17 <| WL.m rfl rfl <| WL.gy rfl rfl rfl g17 <| WL.p (.gtr rfl rfl) rfl <| WL.p (.pkF rfl g17 rfl) rfl <| WL.nil <| ?_
 refine W.cond rfl (fun h18 => ?_) (fun h18 => ?_)
 have h18' := dT h18
 exfalso; simp_all; omega
 have h18' := dF h18
 refine W.skip <| W.reg <| WL.m rfl rfl <| WL.z rfl rfl ?_
 refine W.reg <| WL.p (.iis (((i + 1 : Nat) : Int)) (.add rfl rfl (i64w oO)) oO) rfl <| WL.m rfl rfl <| WL.nil <| ?_
 exact ⟨i + 1, ⟨rfl, rfl, rfl, rfl, rfl, rfl, rfl, rfl, rfl, trivial⟩, ⟨hT, hv1, by ((try simp only) <;> omega)⟩, by ((try simp only) <;> omega)⟩
 have g17' := dT g17
 refine WL.gn rfl rfl rfl g17 <| WL.gn rfl rfl rfl g17 <| WL.p (.pkT rfl g17 rfl) rfl <| WL.nil <| ?_
 refine W.condT rfl rfl ?_
 refine W.sr <| WL.m rfl rfl <| WL.p (.mkI underlying256 rfl) rfl <| WL.a rfl rfl <| WL.z rfl rfl ?_
 refine W.ret (W.ret2 rfl rfl rfl ?_)
 first
 | exact ⟨rfl, hT⟩
 | (exfalso; omega)
 have h13' := dF h13
 refine W.sr <| WL.p (.mkI underlying256 rfl) rfl <| WL.a rfl rfl <| WL.z rfl rfl ?_
 refine W.ret (W.ret2 rfl rfl rfl ?_)
 first
 | exact ⟨rfl, hT⟩
 | (exfalso; omega)
 have g11' := dF g11
 refine WL.gn rfl rfl rfl g11 <| WL.gn rfl rfl rfl g11 <| WL.p (.pkF rfl g11 rfl) rfl <| WL.z rfl rfl ?_
 refine W.condF rfl rfl ?_
 refine W.sr <| WL.p (.mkI underlying256 rfl) rfl <| WL.a rfl rfl <| WL.z rfl rfl ?_
 refine W.ret (W.ret2 rfl rfl rfl ?_)
 first
 | exact ⟨rfl, hT⟩
 | (exfalso; omega)
 have g4' := dF g4
 refine WL.gn rfl rfl rfl g4 <| WL.p (.pkF rfl g4 rfl) rfl <| WL.z rfl rfl ?_
 refine W.condF rfl rfl ?_
 refine W.sr <| WL.m rfl rfl <| WL.c1 hb255 rfl rfl ((lib_lower [a, b][i] oO _)) (fun w19 hw19 => ?_)
 obtain rfl := hw19
 refine WL.p (.leq rfl rfl) rfl <| WL.m rfl rfl <| WL.gd rfl rfl rfl (fun g20 => ?_) (fun g20 => ?_)
 have g20' := dT g20
 refine WL.m rfl rfl <| WL.gy rfl rfl rfl g20 <| WL.c1 hb255 rfl rfl ((lib_lower [a, b][i] oO _)) (fun w21 hw21 => ?_)
 obtain rfl := hw21
 refine WL.gy rfl rfl rfl g20 <| WL.p (.leq rfl rfl) rfl <| WL.p (.pkT rfl g20 rfl) rfl <| WL.z rfl rfl ?_
 refine W.cond rfl (fun h22 => ?_) (fun h22 => ?_)
 have h22' := dT h22
 refine W.reg <| WL.m rfl rfl <| WL.c1 hb255 rfl rfl ((lib_lower [a, b][i] oO _)) (fun w23 hw23 => ?_)
 obtain rfl := hw23
 refine WL.p (.sub rfl rfl (u8w oO)) rfl <| WL.p (.iis (((hexV [a, b][i] : Nat) : Int)) (.add rfl rfl (u8w oO)) oO) rfl <| WL.z rfl rfl ?_
 refine W.seq <| W.sr <| WL.m rfl rfl <| WL.m rfl rfl <| WL.p (.cvt underlying3 underlying5 rfl (u8w oO)) rfl <| WL.p (.geq rfl rfl) rfl <| WL.nil <| ?_
 refine W.cond rfl (fun h24 => ?_) (fun h24 => ?_)
 have h24' := dT h24
 exfalso; omega
 have h24' := dF h24
 refine W.skip <| W.seq <| W.sr <| WL.m rfl rfl <| WL.m rfl rfl <| WL.p (.geq rfl rfl) rfl <| WL.nil <| ?_
 refine W.cond rfl (fun h25 => ?_) (fun h25 => ?_)
 have h25' := dT h25
 exfalso; omega
 have h25' := dF h25
 refine W.skip <| W.sr <| WL.m rfl rfl <| WL.m rfl rfl <| WL.p (.cvt underlying3 underlying100 rfl (u64w oO)) rfl <| WL.p (.iis (((16 * hv a b i : Nat) : Int)) (.mul rfl rfl (u64w oO)) oO) rfl <| WL.z rfl rfl ?_
 refine W.sr <| WL.m rfl rfl <| WL.m rfl rfl <| WL.p (.cvt underlying5 underlying100 rfl (u64w oO)) rfl <| WL.p (.iis (((hv a b (i + 1) : Nat) : Int)) (.add rfl rfl (u64w oO)) oO) rfl <| WL.z rfl rfl ?_
 refine W.seq <| W.sr <| WL.m rfl rfl <| WL.m rfl rfl <| WL.p (.lss rfl rfl) rfl <| WL.m rfl rfl <| WL.gd rfl rfl rfl (fun g26 => ?_) (fun g26 => ?_)
 have g26' := dF g26
 refine WL.m rfl rfl <| WL.gy rfl rfl rfl g26 <| WL.m rfl rfl <| WL.gy rfl rfl rfl g26 <| WL.p (.gtr rfl rfl) rfl <| WL.p (.pkF rfl g26 rfl) rfl <| WL.nil <| ?_
 refine W.cond rfl (fun h27 => ?_) (fun h27 => ?_)
 have h27' := dT h27
 exfalso; simp_all; omega
 have h27' := dF h27
 refine W.skip <| W.reg <| WL.m rfl rfl <| WL.z rfl rfl ?_
 refine W.reg <| WL.p (.iis (((i + 1 : Nat) : Int)) (.add rfl rfl (i64w oO)) oO) rfl <| WL.m rfl rfl <| WL.nil <| ?_
 exact ⟨i + 1, ⟨rfl, rfl, rfl, rfl, rfl, rfl, rfl, rfl, rfl, trivial⟩, ⟨hT, hv1, by ((try simp only) <;> omega)⟩, by ((try simp only) <;> omega)⟩
 have g26' := dT g26
 refine WL.gn rfl rfl rfl g26 <| WL.gn rfl rfl rfl g26 <| WL.p (.pkT rfl g26 rfl) rfl <| WL.nil <| ?_
 refine W.condT rfl rfl ?_
 refine W.sr <| WL.m rfl rfl <| WL.p (.mkI underlying256 rfl) rfl <| WL.a rfl rfl <| WL.z rfl rfl ?_
 refine W.ret (W.ret2 rfl rfl rfl ?_)
 first
 | exact ⟨rfl, hT⟩
 | (exfalso; omega)
 have h22' := dF h22
 refine W.sr <| WL.p (.mkI underlying256 rfl) rfl <| WL.a rfl rfl <| WL.z rfl rfl ?_
 refine W.ret (W.ret2 rfl rfl rfl ?_)
 first
 | exact ⟨rfl, hT⟩
 | (exfalso; omega)
 have g20' := dF g20
 refine WL.gn rfl rfl rfl g20 <| WL.gn rfl rfl rfl g20 <| WL.p (.pkF rfl g20 rfl) rfl <| WL.z rfl rfl ?_
 refine W.condF rfl rfl ?_
 refine W.sr <| WL.p (.mkI underlying256 rfl) rfl <| WL.a rfl rfl <| WL.z rfl rfl ?_
 refine W.ret (W.ret2 rfl rfl rfl ?_)
 first
 | exact ⟨rfl, hT⟩
 | (exfalso; omega)
 have h3' := dF h3
 obtain rfl : i = 2 := by omega
 refine W.exit <| W.seq <| W.sr <| WL.m rfl rfl <| WL.m rfl rfl <| WL.gn rfl rfl rfl rfl <| WL.gn rfl rfl rfl rfl <| WL.gn rfl rfl rfl rfl <| WL.p (.pkF rfl rfl rfl) rfl <| WL.nil <| ?_
 refine W.condF rfl rfl ?_
 refine W.skip <| W.sr <| WL.m rfl rfl <| WL.a rfl rfl <| WL.z rfl rfl ?_
 refine W.ret (W.ret2 rfl rfl rfl ?_)
 first
 | exact ⟨rfl, hT⟩
 | (exfalso; omega)
theorem lib_ParseUint (a b : UInt8) (w : World) (ha : hexB a = true) (hb' : hexB b = true) :
  Calls Tryz.prog 189 #[.string (bs [a, b]), .int .i64 16, .int .i64 8] w fun e w' => e = .returned (.tuple #[.int .u64 ((16 * hexV a + hexV b : Nat) : Int), .nilIface]) ∧ Below w.heap.size w w' := by
 refine W.enter func189 rfl ntmps189 (Nat.le_of_ble_eq_true rfl) ?_
 have hB0 := Below.refl (w.heap.size) w
 refine W.sr <| WL.a rfl rfl <| WL.z rfl rfl ?_
 refine W.sr <| WL.m rfl rfl <| WL.m rfl rfl <| WL.m rfl rfl <| WL.c1 hb229 rfl rfl ((lib_ParseUint2 a b _ ha hb')) (fun w1 hw1 => ?_)
 have hB2 := btr hB0 hw1
 refine WL.m rfl rfl <| WL.p (.ext rfl rfl) rfl <| WL.p (.ext rfl rfl) rfl <| WL.a rfl rfl <| WL.z rfl rfl ?_
 refine W.seq <| W.sr <| WL.m rfl rfl <| WL.p (.neNil0 kR rfl) rfl <| WL.nil <| ?_
 refine W.condF rfl rfl ?_
 refine W.skip <| W.sr <| WL.m rfl rfl <| WL.a rfl rfl <| WL.z rfl rfl ?_
 refine W.ret (W.ret2 rfl rfl rfl ?_)
 exact ⟨rfl, hB2⟩
theorem bytesP_no1 {w : List UInt8} (h : ¬ w.take 1 = [120]) : bytesP w = none := by
 unfold bytesP
 split
 ·
  simp at h
 ·
  rfl
theorem bytesP_yes1 {w : List UInt8} (h : w.take 1 = [120]) : bytesP w = if (w.drop 1).length % 2 = 0 ∧ (w.drop 1).all hexB = true then some (unhex (w.drop 1)) else none := by
 cases w with
 | nil => simp at h
 | cons x r =>
  obtain rfl : x = 120 := by simpa using h
  rfl
theorem rBytes_no {s : RS} (h : bytesP (rWord s).1 = none) : rBytes s = ([], ⟨(rWord s).2.ws, true⟩) := by unfold rBytes; rw [h]
theorem rBytes_yes {s : RS} {l : List UInt8} (h : bytesP (rWord s).1 = some l) : rBytes s = (l, (rWord s).2) := by unfold rBytes; rw [h]
theorem unhex_snoc : ∀ (k : Nat) (W : List UInt8) (h : 2 * k + 1 < W.length), unhex (W.take (2 * (k + 1))) = unhex (W.take (2 * k)) ++ [UInt8.ofNat (16 * hexV (W[2 * k]'oO) + hexV W[2 * k + 1])]
 | 0, [], h => by simp at h
 | 0, [_], h => by simp at h
 | 0, _ :: _ :: _, _ => by simp [unhex]
 | k + 1, [], h => by simp at h
 | k + 1, [_], h => by simp at h
 | k + 1, a :: b :: W, h => by
  have ih := unhex_snoc k W (by simp only [List.length_cons] at h; omega)
  show UInt8.ofNat (16 * hexV a + hexV b) :: unhex (W.take (2 * (k + 1))) = _
  rw [ih]; rfl
theorem unhex_len' : ∀ (l : List UInt8), (unhex l).length ≤ l.length
 | [] => by simp [unhex]
 | [_] => by simp [unhex]
 | _ :: _ :: r => by
  have := unhex_len' r
  simp only [unhex, List.length_cons]; omega
theorem unhex_len : ∀ (l : List UInt8), l.length ≤ 4000000 → (unhex l).length ≤ 4000000
 | [], _ => by simp [unhex]
 | [_], _ => by simp [unhex]
 | _ :: _ :: r, h => by
  have := unhex_len' r
  simp only [unhex, List.length_cons] at h ⊢; omega
theorem ofNat_toNat {n : Nat} (h : n < 256) : (UInt8.ofNat n).toNat = n := by simp; omega
theorem take2 (W : List UInt8) (k : Nat) (h : k + 1 < W.length) : (W.drop k).take 2 = [W[k]'oO, W[k + 1]] := by
 rw [List.drop_eq_getElem_cons oO, List.drop_eq_getElem_cons h]; rfl
theorem rdr_bytes_no (r : Nat) (s : RS) (w : World) (h : Rdr w r s) (ht : ¬ (rWord s).1.take 1 = [120]) :
  Calls Tryz.prog 138 #[.pointer (some ⟨r, 0, none⟩)] w fun e w' => ∃ v, e = .returned v ∧ Rdr w' r (rBytes s).2 ∧ Own 5 w.heap.size w' v (byteVals (rBytes s).1) ∧ Touch w.heap.size r w w' := by
 have hrl := h.lt
 have hwl := rWord_len h
 refine W.enter func138 rfl ntmps138 (Nat.le_of_ble_eq_true rfl) ?_
 refine W.sr <| WL.z rfl rfl ?_
 refine W.sr <| WL.m rfl rfl <| WL.c1 hb92 rfl rfl ((rdr_word r s _ h)) (fun w1 hw1 => ?_)
 obtain ⟨hR1, hT1⟩ := hw1
 refine WL.c1 hb188 rfl rfl (((lib_CutPrefix1 _ 120 _ oO).mono fun e w' h => by rw [if_neg ht, decide_eq_false ht] at h; exact h)) (fun w2 hw2 => ?_)
 obtain rfl := hw2
 obtain ⟨p, c, hk, hset⟩ := hR1.blk
 refine WL.m rfl rfl <| WL.p (.ext rfl rfl) rfl <| WL.p (.ext rfl rfl) rfl <| WL.a rfl rfl <| WL.z rfl rfl ?_
 refine W.seq <| W.sr <| WL.m rfl rfl <| WL.p (.not rfl) rfl <| WL.m rfl rfl <| WL.gn rfl rfl rfl rfl <| WL.gn rfl rfl rfl rfl <| WL.gn rfl rfl rfl rfl <| WL.gn rfl rfl rfl rfl <| WL.p (.pkT rfl rfl rfl) rfl <| WL.m rfl rfl <| WL.gn rfl rfl rfl rfl <| WL.gn rfl rfl rfl rfl <| WL.gn rfl rfl rfl rfl <| WL.p (.pkT rfl rfl rfl) rfl <| WL.nil <| ?_
 refine W.condT rfl rfl ?_
 refine W.sr <| WL.m rfl rfl <| WL.p (.nck rfl) rfl <| WL.p (.fa underlying129 rfl sizeOf4 dD rfl) rfl <| WL.st sizeOf4 rfl rfl rfl hk oD (fun w3 hkw3 huw3 hsw3 => ?_)
 have hkw3 : Blk w3 r _ _ := hkw3
 have huw3 : Upd r _ _ := huw3
 refine WL.nil <| ?_
 refine W.sr <| WL.z rfl rfl ?_
 refine W.ret (W.ret1 rfl rfl ?_)
 rw [rBytes_no (bytesP_no1 ht)]
 exact ⟨_, rfl, hset _ _ hkw3 (Touch.of_upd huw3), Own.nil _ _ _, hT1.trans (Touch.of_upd huw3)⟩
set_option maxHeartbeats 1600000 in
theorem rdr_bytes_yes (r : Nat) (s : RS) (w : World) (h : Rdr w r s) (X : List UInt8) (ht : (rWord s).1.take 1 = [120]) (hX : (rWord s).1.drop 1 = X) :
    Calls Tryz.prog 138 #[.pointer (some ⟨r, 0, none⟩)] w fun e w' => ∃ v, e = .returned v ∧ Rdr w' r (rBytes s).2 ∧ Own 5 w.heap.size w' v (byteVals (rBytes s).1) ∧ Touch w.heap.size r w w' := by
  have hrl := h.lt
  have hwl : X.length ≤ 2000000 := by have := rWord_len h; rw [← hX, List.length_drop]; omega
  have hbp := bytesP_yes1 ht
  rw [hX] at hbp
  refine W.enter func138 rfl ntmps138 (Nat.le_of_ble_eq_true rfl) ?_
  refine W.sr <| WL.z rfl rfl ?_
  refine W.sr <| WL.m rfl rfl <| WL.c1 hb92 rfl rfl ((rdr_word r s _ h)) (fun w1 hw1 => ?_)
  obtain ⟨hR1, hT1⟩ := hw1
  have hRz := hR1
  have hTz := hT1
  refine WL.c1 hb188 rfl rfl (((lib_CutPrefix1 _ 120 _ (by have := rWord_len h; omega)).mono fun e w' h => by rw [if_pos ht, decide_eq_true ht, hX] at h; exact h)) (fun w2 hw2 => ?_)
  obtain rfl := hw2
  obtain ⟨p, c, hk, hset⟩ := hR1.blk
  refine WL.m rfl rfl <| WL.p (.ext rfl rfl) rfl <| WL.p (.ext rfl rfl) rfl <| WL.a rfl rfl <| WL.z rfl rfl ?_
  refine W.seq <| W.sr <| WL.m rfl rfl <| WL.p (.not rfl) rfl <| WL.m rfl rfl <| WL.gy rfl rfl rfl rfl <| WL.m rfl rfl <| WL.gy rfl rfl rfl rfl <| WL.p (.len underlying9 rfl) rfl <| WL.gy rfl rfl rfl rfl <| WL.p (.rem rfl rfl oO (Int.tmod_eq_emod_of_nonneg oO)) rfl <| WL.gy rfl rfl rfl rfl <| WL.p (.gtr rfl rfl) rfl <| WL.p (.pkF rfl rfl rfl) rfl <| WL.m rfl rfl <| WL.gd rfl rfl rfl (fun g3 => ?_) (fun g3 => ?_)
  · have g3' := dF g3
    refine WL.m rfl rfl <| WL.gy rfl rfl rfl g3 <| WL.call hb116 rfl rfl ((lib_TrimHex _ _ oO)) (fun t w4 hw4 => ?_)
    obtain ⟨htr, hB2⟩ := hw4
    have hRz := hR1.below hB2 hR1.lt
    have hTz := hT1.trans ((Touch.of_below hB2).mono hT1.size)
    obtain ⟨p, c, hk, hset⟩ := hRz.blk
    refine WL.gy rfl rfl rfl g3 <| WL.p (.nes rfl rfl) rfl <| WL.p (.pkF rfl g3 rfl) rfl <| WL.nil <| ?_
    refine W.cond rfl (fun h5 => ?_) (fun h5 => ?_)
    · have h5' := ndT h5
      refine W.sr <| WL.m rfl rfl <| WL.p (.nck rfl) rfl <| WL.p (.fa underlying129 rfl sizeOf4 dD rfl) rfl <| WL.st sizeOf4 rfl rfl rfl hk oD (fun w6 hkw6 huw6 hsw6 => ?_)
      have hkw6 : Blk w6 r _ _ := hkw6
      have huw6 : Upd r _ _ := huw6
      refine WL.nil <| ?_
      refine W.sr <| WL.z rfl rfl ?_
      refine W.ret (W.ret1 rfl rfl ?_)
      first
      | (have hno : bytesP (rWord s).1 = none := hbp.trans (if_neg (by first | omega | exact fun hh => absurd (dT (htr.trans hh.2)) aS))
         rw [rBytes_no hno]; exact ⟨_, rfl, hset _ _ hkw6 (Touch.of_upd huw6), Own.nil _ _ _, hTz.trans (Touch.of_upd huw6)⟩)
      | (rw [rBytes_yes hyes]; exact ⟨_, rfl, hR, ho, hT⟩)
    have h5' := ndF h5
    have hev : X.length % 2 = 0 := by omega
    have hall : X.all hexB = true := by rw [← htr]; exact decide_eq_true aS
    have hyes : bytesP (rWord s).1 = some (unhex X) := by rw [hbp, if_pos ⟨hev, hall⟩]
    have hle0 := hTz.size
    refine W.skip <| W.seq <| W.block ?_
    refine W.loop (α := Nat × Value) (fun t => [(0, .pointer (some ⟨r, 0, none⟩)), (2, t.2), (3, .string (bs (X.drop (2 * t.1))))]) (fun t w' => Rdr w' r (rWord s).2 ∧ Own 5 w.heap.size w' t.2 (byteVals (unhex (X.take (2 * t.1)))) ∧ Touch w.heap.size r w w' ∧ 2 * t.1 ≤ X.length) (fun t => X.length - t.1) ((0, .slice none 0 0)) ⟨rfl, rfl, rfl, trivial⟩ (⟨hRz, Own.nil _ _ _, hTz, Nat.zero_le _⟩) (fun t w1 hR => ?_)
    obtain ⟨i, v⟩ := t
    obtain ⟨hR, ho, hT, hi⟩ := hR
    simp only at hR ho hT hi ⊢
    have hle := hT.size
    refine W.seq <| W.sr <| WL.m rfl rfl <| WL.p (.nes rfl rfl) rfl <| WL.nil <| ?_
    refine W.cond rfl (fun h7 => ?_) (fun h7 => ?_)
    · have h7' := ndT h7
      have hi2 : 2 * i + 1 < X.length := by
        have h30 : ¬ X.drop (2 * i) = [] := by assumption
        rw [List.drop_eq_nil_iff] at h30; omega
      have hsn := unhex_snoc i X hi2
      have ha := List.all_eq_true.1 hall _ (List.getElem_mem (show 2 * i < X.length by omega))
      have hb := List.all_eq_true.1 hall _ (List.getElem_mem hi2)
      have hca := hexB_cases ha
      have hcb := hexB_cases hb
      have hul : (unhex (X.take (2 * i))).length ≤ 4000000 := unhex_len _ (by rw [List.length_take]; omega)
      have hdl : (X.drop (2 * i)).length = X.length - 2 * i := List.length_drop
      refine W.skip <| W.seq <| W.block <| W.sr <| WL.m rfl rfl <| WL.p (.sis ([X[2 * i]'oO, X[2 * i + 1]]) (.slT underlying9 rfl rfl 2 rfl oO) (by exact take2 X (2 * i) hi2)) rfl <| WL.c1 hb189 rfl rfl ((lib_ParseUint _ _ _ ha hb)) (fun w8 hw8 => ?_)
      have hR3 := hR.below hw8 hR.lt
      have ho3 := ho.below hw8
      have hT3 := hT.trans ((Touch.of_below hw8).mono hle)
      have hle3 := hT3.size
      refine WL.m rfl rfl <| WL.p (.ext rfl rfl) rfl <| WL.p (.ext rfl rfl) rfl <| WL.a rfl rfl <| WL.z rfl rfl ?_
      refine W.reg <| WL.m rfl rfl <| WL.m rfl rfl <| WL.p (.cvt underlying100 underlying5 rfl (u8w oO)) rfl <| WL.bsl (ps := _) underlying22 sizeOf5 zeroValue5 rfl rfl rfl rfl rfl pR rfl (fun b9 wb9 eb9 hkb9 hub9 hsb9 => ?_)
      have hle11 := Nat.le_trans hle3 hub9.size
      have ho10 := Own.new ho3 eb9 hub9
      have hR4 := hR3.below (Upd.below (Below.refl _ _) oO hub9) hR3.lt
      have hT4 := hT3.trans (Touch.of_new hub9 oO)
      refine WL.appm underlying22 inf5 rfl rfl rfl ho10 rfl hkb9 rfl (by rw [byteVals_len]; omega) (hle11) rfl (fun v12 w13 how13 hbw13 hgw13 => ?_)
      have ho14 := Own.snoc how13 (UInt8.ofNat (16 * hexV (X[2 * i]'oO) + hexV X[2 * i + 1])) (by rw [ofNat_toNat oO])
      have hle15 := Nat.le_trans hle11 hbw13.size
      refine WL.z rfl rfl ?_
      refine W.reg <| WL.m rfl rfl <| WL.p (.sis (X.drop (2 * (i + 1))) (.slF underlying9 rfl rfl 2 rfl oO) (by rw [List.drop_drop]; rfl)) rfl <| WL.z rfl rfl ?_
      exact ⟨(i + 1, v12), ⟨rfl, rfl, rfl, trivial⟩, ⟨hR4.below hbw13 hrl, by rw [hsn]; exact ho14, hT4.trans (Touch.of_below hbw13), by ((try simp only) <;> omega)⟩, by ((try simp only) <;> omega)⟩
    have h7' := ndF h7
    have hd : X.drop (2 * i) = [] := by assumption
    rw [List.drop_eq_nil_iff] at hd
    rw [List.take_of_length_le hd] at ho
    refine W.exit <| W.sr <| WL.m rfl rfl <| WL.z rfl rfl ?_
    refine W.ret (W.ret1 rfl rfl ?_)
    first
    | (have hno : bytesP (rWord s).1 = none := hbp.trans (if_neg (by first | omega | exact fun hh => absurd (dT (htr.trans hh.2)) aS))
       rw [rBytes_no hno]; exact ⟨_, rfl, hset _ _ HBLK (Touch.of_upd huw1), Own.nil _ _ _, hTz.trans (Touch.of_upd huw1)⟩)
    | (rw [rBytes_yes hyes]; exact ⟨_, rfl, hR, ho, hT⟩)
  have g3' := dT g3
  refine WL.gn rfl rfl rfl g3 <| WL.gn rfl rfl rfl g3 <| WL.p (.pkT rfl g3 rfl) rfl <| WL.nil <| ?_
  refine W.condT rfl rfl ?_
  refine W.sr <| WL.m rfl rfl <| WL.p (.nck rfl) rfl <| WL.p (.fa underlying129 rfl sizeOf4 dD rfl) rfl <| WL.st sizeOf4 rfl rfl rfl hk oD (fun w16 hkw16 huw16 hsw16 => ?_)
  have hkw16 : Blk w16 r _ _ := hkw16
  have huw16 : Upd r _ _ := huw16
  refine WL.nil <| ?_
  refine W.sr <| WL.z rfl rfl ?_
  refine W.ret (W.ret1 rfl rfl ?_)
  first
  | (have hno : bytesP (rWord s).1 = none := hbp.trans (if_neg (by first | omega | exact fun hh => absurd (dT (htr.trans hh.2)) aS))
     rw [rBytes_no hno]; exact ⟨_, rfl, hset _ _ hkw16 (Touch.of_upd huw16), Own.nil _ _ _, hTz.trans (Touch.of_upd huw16)⟩)
  | (rw [rBytes_yes hyes]; exact ⟨_, rfl, hR, ho, hT⟩)
theorem rdr_bytes (r : Nat) (s : RS) (w : World) (h : Rdr w r s) :
  Calls Tryz.prog 138 #[.pointer (some ⟨r, 0, none⟩)] w fun e w' => ∃ v, e = .returned v ∧ Rdr w' r (rBytes s).2 ∧ Own 5 w.heap.size w' v (byteVals (rBytes s).1) ∧ Touch w.heap.size r w w' := by
 by_cases ht : (rWord s).1.take 1 = [120]
 ·
  exact rdr_bytes_yes r s w h _ ht rfl
 ·
  exact rdr_bytes_no r s w h ht
end
section
theorem Own.slB {e : TypeId} {B : Nat} {w : World} {v : Value} {l : List UInt8} (h : Own e B w v (byteVals l)) : ∃ p c, v = .slice p l.length c ∧ BytesAt w p l ∧ SlOk p l c ∧ (0 < l.length → Btw B w.heap.size (pA p).block) := by
 obtain ⟨p, c, hv, hb, hB, hc, hn⟩ := h.bytesC
 refine ⟨p, c, hv, hb, ⟨hc, ?_, hn, ?_⟩, fun h0 => ⟨hB h0, hb.lt h0⟩⟩
 ·
  rcases h.2 with ⟨h1, h2⟩ | ⟨g, cap, cur, h1, h2, h3, h4, h5, h6⟩
  ·
   rw [hv] at h1; simp only [Value.slice.injEq] at h1; obtain ⟨-, -, rfl⟩ := h1; exact Nat.zero_le _
  ·
   rw [hv] at h1; simp only [Value.slice.injEq] at h1; obtain ⟨-, -, rfl⟩ := h1; exact h5
 ·
  intro hp
  subst hp
  rcases h.2 with ⟨h1, h2⟩ | ⟨g, cap, cur, h1, h2, h3, h4, h5, h6⟩
  ·
   rw [hv] at h1; simp only [Value.slice.injEq] at h1; obtain ⟨-, -, rfl⟩ := h1
   exact ⟨List.length_eq_zero_iff.1 (by rw [byteVals_len] at h2; exact h2), rfl⟩
  ·
   rw [hv] at h1; simp only [Value.slice.injEq] at h1; cases h1.1
def it0 : ItemV := ⟨0, none, [], 0, col0, none, [], 0, pen00, 0, 0, 0, 0, 0, 0, 0, none, [], 0⟩
def matOf (l : List Int) : ItemV := ⟨0, none, [], 0, col0, none, [], 0, pen00, 0, l.getD 0 0, l.getD 1 0, l.getD 2 0, l.getD 3 0, l.getD 4 0, l.getD 5 0, none, [], 0⟩
theorem mat_flat : ∀ l : List Int, l.length = 6 → intL.flat l = matL.V (matOf l)
 | [_, _, _, _, _, _], _ => rfl
theorem blz87 : Tryz.prog.built 87 [] = some (itemV it0).toArray := by kernel_rfl
theorem pen00_ok (w : World) : PenOk w pen00 := ⟨rfl, rfl, rfl, rfl, RowAt.nil w, SlOk.z, (fun y hy => nomatch hy), rfl⟩
theorem pen00_in (D : Nat → Prop) : PenIn D pen00 := ⟨fun h => by cases h⟩
theorem rItem_fill {wd : List UInt8} {s : RS} (h : wd = [102, 105, 108, 108] ∨ wd = [101, 111, 102, 105, 108, 108]) : rItem wd s = (some ⟨if wd = [101, 111, 102, 105, 108, 108] then 2 else 1, none, (rPath (rColor s).2).1, 0, (rColor s).1, none, [], 0, pen00, 0, 0, 0, 0, 0, 0, 0, none, [], 0⟩, (rPath (rColor s).2).2) := by
 unfold rItem; rw [if_pos h]
theorem rItem_stroke {s : RS} : rItem [115, 116, 114, 111, 107, 101] s = (some ⟨3, none, (rPath (rPen (rColor s).2).2).1, 0, (rColor s).1, none, [], 0, (rPen (rColor s).2).1, 0, 0, 0, 0, 0, 0, 0, none, [], 0⟩, (rPath (rPen (rColor s).2).2).2) := rfl
theorem rItem_text {s : RS} : rItem [116, 101, 120, 116] s = (some ⟨4, none, [], 0, (rColor s).1, none, [], 0, pen00, (rSmall 2147483647 (rColor s).2).1,
   (rNums 6 (rSmall 2147483647 (rColor s).2).2).1.getD 0 0, (rNums 6 (rSmall 2147483647 (rColor s).2).2).1.getD 1 0, (rNums 6 (rSmall 2147483647 (rColor s).2).2).1.getD 2 0, (rNums 6 (rSmall 2147483647 (rColor s).2).2).1.getD 3 0, (rNums 6 (rSmall 2147483647 (rColor s).2).2).1.getD 4 0, (rNums 6 (rSmall 2147483647 (rColor s).2).2).1.getD 5 0,
   none, (rBytes (rNums 6 (rSmall 2147483647 (rColor s).2).2).2).1, 0⟩, (rBytes (rNums 6 (rSmall 2147483647 (rColor s).2).2).2).2) := rfl
theorem rItem_none {wd : List UInt8} {s : RS} (h1 : ¬ wd = [102, 105, 108, 108]) (h2 : ¬ wd = [101, 111, 102, 105, 108, 108]) (h3 : ¬ wd = [115, 116, 114, 111, 107, 101]) (h4 : ¬ wd = [116, 101, 120, 116]) : rItem wd s = (none, s) := by
 unfold rItem; rw [if_neg (by rintro (h | h); exact h1 h; exact h2 h), if_neg h3, if_neg h4]
theorem rColor_wsl (s : RS) : (rColor s).2.ws.length ≤ s.ws.length := by
 have h : ∀ (n : Nat) (s : RS), (rNums n s).2.ws.length ≤ s.ws.length := fun n => by
  induction n with
  | zero => intro s; exact Nat.le_refl _
  | succ n ih => intro s; have := ih s; simp only [rNums, rNum_ws, List.length_tail]; omega
 have h1 := h (rSmall 4 s).1.toNat (rSmall 4 s).2
 rw [rSmall_ws, List.length_tail] at h1
 unfold rColor; simp only []; omega
theorem rPen_wsl (s : RS) : (rPen s).2.ws.length ≤ s.ws.length := by
 have h : ∀ (n : Nat) (s : RS), (rNums n s).2.ws.length ≤ s.ws.length := fun n => by
  induction n with
  | zero => intro s; exact Nat.le_refl _
  | succ n ih => intro s; have := ih s; simp only [rNums, rNum_ws, List.length_tail]; omega
 have h1 := h (rSmall 11 (rNum (rSmall 2 (rSmall 2 (rNum s).2).2).2).2).1.toNat (rSmall 11 (rNum (rSmall 2 (rSmall 2 (rNum s).2).2).2).2).2
 simp only [rSmall_ws, rNum_ws, List.length_tail] at h1
 unfold rPen; simp only [rNum_ws, List.length_tail]; omega
set_option maxHeartbeats 3200000 in
theorem rdr_item (r : Nat) (wd : List UInt8) (s : RS) (w : World) (h : Rdr w r s) (hE : ∀ w1, Below r w w1 → Env w1) (hsl : s.ws.length ≤ 9000000) :
  Calls Tryz.prog 95 #[.pointer (some ⟨r, 0, none⟩), .string (bs wd)] w fun e w' => ∃ x : ItemV, e = .returned (.tuple #[.agg (itemV x).toArray, .bool (rItem wd s).1.isSome]) ∧ (∀ y, (rItem wd s).1 = some y → erItem x = y) ∧ ItemOk w' x ∧ ItemIn (Btw w.heap.size w'.heap.size) x ∧ x.fClips = [] ∧ Rdr w' r (rItem wd s).2 ∧ Touch w.heap.size r w w' := by
 have hrl := h.lt
 have hr0 : ∀ {w1 : World}, Touch w.heap.size r w w1 → ∀ w2, Below r w1 w2 → Env w2 := fun hT w2 hb => hE w2 ((hT.below (Nat.le_of_lt hrl) (Nat.le_refl _)).trans hb)
 have hcw := rColor_wsl s
 have hpw := rPen_wsl (rColor s).2
 refine W.enter func95 rfl ntmps95 (Nat.le_of_ble_eq_true rfl) ?_
 refine W.sr <| WL.alloc zeroValue87 rfl (fun b1 wb1 eb1 hkb1 hub1 hsb1 => ?_)
 have hTa : Touch w.heap.size r w wb1 := Touch.of_new hub1 (Nat.le_of_eq eb1.symm)
 have hRa := h.below (Upd.below (Below.refl w.heap.size _) (Nat.le_of_eq eb1.symm) hub1) hrl
 have hb4 : w.heap.size ≤ b1 := Nat.le_of_eq eb1.symm
 refine WL.z rfl rfl ?_
 refine W.seq <| W.sr <| WL.m rfl rfl <| WL.nil <| ?_
 refine W.block <| W.seq <| W.sr <| WL.p (.eqs rfl rfl) rfl <| WL.z rfl rfl ?_
 refine W.cond rfl (fun h2 => ?_) (fun h2 => ?_)
 have h2' := dT h2
 refine W.skip <| W.condT rfl h2 ?_
 refine W.sr <| WL.p (.fa underlying87 rfl sizeOf3 dD rfl) rfl <| WL.stC (o := 0) ((itemV { it0 with fKind := 1 }).toArray) sizeOf3 rfl (rfl) rfl (rfl) hkb1 (Nat.le_of_ble_eq_true rfl) (rfl) (fun w3 hkw3 huw3 hsw3 => ?_)
 have hkw3 : Blk w3 b1 _ _ := hkw3
 have huw3 : Upd b1 _ _ := huw3
 have hTa := hTa.trans (Touch.of_new huw3 hb4)
 have hRa := hRa.below (Upd.below (Below.refl b1 _) (Nat.le_refl _) huw3) oO
 refine WL.nil <| ?_
 refine W.seq <| W.sr <| WL.m rfl rfl <| WL.p (.eqs rfl rfl) rfl <| WL.nil <| ?_
 refine W.cond rfl (fun h4 => ?_) (fun h4 => ?_)
 have h4' := dT h4
 refine W.reg <| WL.p (.fa underlying87 rfl sizeOf3 dD rfl) rfl <| WL.stC (o := 0) ((itemV { it0 with fKind := 2 }).toArray) sizeOf3 rfl (rfl) rfl (rfl) hkw3 (Nat.le_of_ble_eq_true rfl) (rfl) (fun w5 hkw5 huw5 hsw5 => ?_)
 have hkw5 : Blk w5 b1 _ _ := hkw5
 have huw5 : Upd b1 _ _ := huw5
 have hTa := hTa.trans (Touch.of_new huw5 hb4)
 have hRa := hRa.below (Upd.below (Below.refl b1 _) (Nat.le_refl _) huw5) oO
 refine WL.nil <| ?_
 refine W.seq ?_
 have hkb : Blk w5 b1 (itemV { it0 with fKind := if wd = [101, 111, 102, 105, 108, 108] then 2 else 1 }).toArray 87 := by
  first
  | (rw [if_pos aS]; exact hkw5)
  | (rw [if_neg aS]; exact hkw5)
 have hit := rItem_fill (wd := wd) (s := s) (by first | exact .inl aS | exact .inr aS)
 refine W.reg <| WL.m rfl rfl <| WL.c1 hb134 rfl rfl ((rdr_color r s _ hRa (hr0 hTa))) (fun w6 hw6 => ?_)
 obtain ⟨hR1, hT1⟩ := hw6
 have hTb := hTa.trans (hT1.mono hTa.size)
 have hk1 := (hkb).touch hT1 (hkb).lt oO
 refine WL.p (.fa underlying87 rfl sizeOf80 dD rfl) rfl <| WL.stB (o := 2) ((itemV { it0 with fKind := if wd = [101, 111, 102, 105, 108, 108] then 2 else 1, fColor := (rColor s).1 }).toArray) rfl (rfl) rfl hk1 isz80 rfl (Nat.le_of_ble_eq_true rfl) (rfl) (fun w7 hkw7 huw7 hsw7 => ?_)
 have hkw7 : Blk w7 b1 _ _ := hkw7
 have huw7 : Upd b1 _ _ := huw7
 have hTb := hTb.trans (Touch.of_new huw7 hb4)
 have hRb := hR1.below (Upd.below (Below.refl b1 _) (Nat.le_refl _) huw7) oO
 have hlb := (hkw7).lt
 refine WL.nil <| ?_
 refine W.reg <| WL.m rfl rfl <| WL.call hb94 rfl rfl ((rdr_path r _ _ hRb oO)) (fun vp w8 hw8 => ?_)
 obtain ⟨hR2, ho2, hT2⟩ := hw8
 have hTc := hTb.trans (hT2.mono hTb.size)
 have hk2 := (hkw7).touch hT2 (hkw7).lt oO
 obtain ⟨pd, cd, evd, hrd, hsd, hbd⟩ := ho2.sl
 subst evd
 have hsz2 := hTb.size
 have hsz3 := hT2.size
 refine WL.p (.fa underlying87 rfl sizeOf77 dD rfl) rfl <| WL.stC (o := 1) ((itemV { it0 with fKind := if wd = [101, 111, 102, 105, 108, 108] then 2 else 1, fColor := (rColor s).1, pfPath := pd, fPath := (rPath (rColor s).2).1, cfPath := cd }).toArray) sizeOf77 rfl (rfl) rfl (rfl) hk2 (Nat.le_of_ble_eq_true rfl) (rfl) (fun w9 hkw9 huw9 hsw9 => ?_)
 have hkw9 : Blk w9 b1 _ _ := hkw9
 have huw9 : Upd b1 _ _ := huw9
 have hTc := hTc.trans (Touch.of_new huw9 hb4)
 have hRc := hR2.below (Upd.below (Below.refl b1 _) (Nat.le_refl _) huw9) oO
 have hrc := hrd.upd huw9 (fun h0 => by have := (hbd h0).1; omega)
 have hTq := hTc
 have hRq := hRc
 refine WL.nil <| ?_
 refine W.sr <| WL.r (Rd.ldA rfl hkw9 underlying87 rfl isz87) rfl <| WL.stL rfl rfl hkw9 isz87 rfl rfl (fun w10 hkw10 huw10 hsw10 => ?_)
 have hTf := hTq.trans (Touch.of_new huw10 hb4)
 have hRf := hRq.below (Upd.below (Below.refl b1 _) (Nat.le_refl _) huw10) oO
 refine WL.z rfl rfl ?_
 refine W.ret (W.retc2 rfl rfl (ldRow hkw10 underlying87 rfl isz87) rfl ?_)
 first
 | exact ⟨{ it0 with fKind := if wd = [101, 111, 102, 105, 108, 108] then 2 else 1, fColor := (rColor s).1, pfPath := pd, fPath := (rPath (rColor s).2).1, cfPath := cd }, by rw [hit]; rfl, fun y hy => by rw [hit] at hy; cases hy; rfl, ⟨show (Lit.int .i64 (if wd = [101, 111, 102, 105, 108, 108] then 2 else 1)).wf = true by split <;> rfl, hrc.upd huw10 (fun h0 => by have := (hbd h0).1; omega), hsd, rPath_ok _ _, rColor_ok s _, RowM.nil _, SlOk.z, (fun y hy => nomatch hy), pen00_ok _, rfl, rfl, rfl, rfl, rfl, rfl, rfl, BytesAt.nil _, SlOk.z⟩, ⟨fun h0 => (hbd h0).mono oO oO, (fun h0 => nomatch h0), (fun y hy => nomatch hy), pen00_in _, (fun h0 => nomatch h0)⟩, rfl, by rw [hit]; exact hRf, hTf⟩
 | exact ⟨{ it0 with fKind := 3, fColor := (rColor s).1, fPen := xp, pfPath := pd, fPath := (rPath (rPen (rColor s).2).2).1, cfPath := cd }, rfl, fun y hy => by rw [rItem_stroke] at hy; cases hy; rw [← hep]; rfl, ⟨rfl, hrc.upd huw10 (fun h0 => by have := (hbd h0).1; omega), hsd, rPath_ok _ _, rColor_ok s _, RowM.nil _, SlOk.z, (fun y hy => nomatch hy), hpo.same hpi (fun g hg => (huw10).other g (by have := hg.1; omega)), rfl, rfl, rfl, rfl, rfl, rfl, rfl, BytesAt.nil _, SlOk.z⟩, ⟨fun h0 => (hbd h0).mono oO oO, (fun h0 => nomatch h0), (fun y hy => nomatch hy), hpi.mono (fun g hg => hg.mono oO oO), (fun h0 => nomatch h0)⟩, rfl, hRf, hTf⟩
 | exact ⟨{ matOf (rNums 6 (rSmall 2147483647 (rColor s).2).2).1 with fKind := 4, fColor := (rColor s).1, fFont := (rSmall 2147483647 (rColor s).2).1, pfBytes := pb, fBytes := (rBytes (rNums 6 (rSmall 2147483647 (rColor s).2).2).2).1, cfBytes := cb }, rfl, fun y hy => by rw [rItem_text] at hy; cases hy; rfl, ⟨rfl, RowM.nil _, SlOk.z, (fun y hy => nomatch hy), rColor_ok s _, RowM.nil _, SlOk.z, (fun y hy => nomatch hy), pen00_ok _, small_wf (rSmall_le 2147483647 _ dD) dD, fits_wf (hfm 0), fits_wf (hfm 1), fits_wf (hfm 2), fits_wf (hfm 3), fits_wf (hfm 4), fits_wf (hfm 5), hrb.upd huw10 (fun h0 => by have := (hbb h0).1; omega), hsb⟩, ⟨(fun h0 => nomatch h0), (fun h0 => nomatch h0), (fun y hy => nomatch hy), pen00_in _, fun h0 => (hbb h0).mono oO oO⟩, rfl, hRf, hTf⟩
 | exact ⟨it0, by rw [hno]; rfl, (fun y hy => by rw [hno] at hy; cases hy), ⟨rfl, RowM.nil _, SlOk.z, (fun y hy => nomatch hy), ⟨rfl, rfl, rfl, rfl, rfl⟩, RowM.nil _, SlOk.z, (fun y hy => nomatch hy), pen00_ok _, rfl, rfl, rfl, rfl, rfl, rfl, rfl, BytesAt.nil _, SlOk.z⟩, ⟨(fun h0 => nomatch h0), (fun h0 => nomatch h0), (fun y hy => nomatch hy), pen00_in _, (fun h0 => nomatch h0)⟩, rfl, by rw [hno]; exact hRf, hTf⟩
 have h4' := dF h4
 refine W.skip <| W.seq ?_
 have hkb : Blk w3 b1 (itemV { it0 with fKind := if wd = [101, 111, 102, 105, 108, 108] then 2 else 1 }).toArray 87 := by
  first
  | (rw [if_pos aS]; exact hkw3)
  | (rw [if_neg aS]; exact hkw3)
 have hit := rItem_fill (wd := wd) (s := s) (by first | exact .inl aS | exact .inr aS)
 refine W.reg <| WL.m rfl rfl <| WL.c1 hb134 rfl rfl ((rdr_color r s _ hRa (hr0 hTa))) (fun w11 hw11 => ?_)
 obtain ⟨hR1, hT1⟩ := hw11
 have hTb := hTa.trans (hT1.mono hTa.size)
 have hk1 := (hkb).touch hT1 (hkb).lt oO
 refine WL.p (.fa underlying87 rfl sizeOf80 dD rfl) rfl <| WL.stB (o := 2) ((itemV { it0 with fKind := if wd = [101, 111, 102, 105, 108, 108] then 2 else 1, fColor := (rColor s).1 }).toArray) rfl (rfl) rfl hk1 isz80 rfl (Nat.le_of_ble_eq_true rfl) (rfl) (fun w12 hkw12 huw12 hsw12 => ?_)
 have hkw12 : Blk w12 b1 _ _ := hkw12
 have huw12 : Upd b1 _ _ := huw12
 have hTb := hTb.trans (Touch.of_new huw12 hb4)
 have hRb := hR1.below (Upd.below (Below.refl b1 _) (Nat.le_refl _) huw12) oO
 have hlb := (hkw12).lt
 refine WL.nil <| ?_
 refine W.reg <| WL.m rfl rfl <| WL.call hb94 rfl rfl ((rdr_path r _ _ hRb oO)) (fun vp w13 hw13 => ?_)
 obtain ⟨hR2, ho2, hT2⟩ := hw13
 have hTc := hTb.trans (hT2.mono hTb.size)
 have hk2 := (hkw12).touch hT2 (hkw12).lt oO
 obtain ⟨pd, cd, evd, hrd, hsd, hbd⟩ := ho2.sl
 subst evd
 have hsz2 := hTb.size
 have hsz3 := hT2.size
 refine WL.p (.fa underlying87 rfl sizeOf77 dD rfl) rfl <| WL.stC (o := 1) ((itemV { it0 with fKind := if wd = [101, 111, 102, 105, 108, 108] then 2 else 1, fColor := (rColor s).1, pfPath := pd, fPath := (rPath (rColor s).2).1, cfPath := cd }).toArray) sizeOf77 rfl (rfl) rfl (rfl) hk2 (Nat.le_of_ble_eq_true rfl) (rfl) (fun w14 hkw14 huw14 hsw14 => ?_)
 have hkw14 : Blk w14 b1 _ _ := hkw14
 have huw14 : Upd b1 _ _ := huw14
 have hTc := hTc.trans (Touch.of_new huw14 hb4)
 have hRc := hR2.below (Upd.below (Below.refl b1 _) (Nat.le_refl _) huw14) oO
 have hrc := hrd.upd huw14 (fun h0 => by have := (hbd h0).1; omega)
 have hTq := hTc
 have hRq := hRc
 refine WL.nil <| ?_
 refine W.sr <| WL.r (Rd.ldA rfl hkw14 underlying87 rfl isz87) rfl <| WL.stL rfl rfl hkw14 isz87 rfl rfl (fun w15 hkw15 huw15 hsw15 => ?_)
 have hTf := hTq.trans (Touch.of_new huw15 hb4)
 have hRf := hRq.below (Upd.below (Below.refl b1 _) (Nat.le_refl _) huw15) oO
 refine WL.z rfl rfl ?_
 refine W.ret (W.retc2 rfl rfl (ldRow hkw15 underlying87 rfl isz87) rfl ?_)
 first
 | exact ⟨{ it0 with fKind := if wd = [101, 111, 102, 105, 108, 108] then 2 else 1, fColor := (rColor s).1, pfPath := pd, fPath := (rPath (rColor s).2).1, cfPath := cd }, by rw [hit]; rfl, fun y hy => by rw [hit] at hy; cases hy; rfl, ⟨show (Lit.int .i64 (if wd = [101, 111, 102, 105, 108, 108] then 2 else 1)).wf = true by split <;> rfl, hrc.upd huw15 (fun h0 => by have := (hbd h0).1; omega), hsd, rPath_ok _ _, rColor_ok s _, RowM.nil _, SlOk.z, (fun y hy => nomatch hy), pen00_ok _, rfl, rfl, rfl, rfl, rfl, rfl, rfl, BytesAt.nil _, SlOk.z⟩, ⟨fun h0 => (hbd h0).mono oO oO, (fun h0 => nomatch h0), (fun y hy => nomatch hy), pen00_in _, (fun h0 => nomatch h0)⟩, rfl, by rw [hit]; exact hRf, hTf⟩
 | exact ⟨{ it0 with fKind := 3, fColor := (rColor s).1, fPen := xp, pfPath := pd, fPath := (rPath (rPen (rColor s).2).2).1, cfPath := cd }, rfl, fun y hy => by rw [rItem_stroke] at hy; cases hy; rw [← hep]; rfl, ⟨rfl, hrc.upd huw15 (fun h0 => by have := (hbd h0).1; omega), hsd, rPath_ok _ _, rColor_ok s _, RowM.nil _, SlOk.z, (fun y hy => nomatch hy), hpo.same hpi (fun g hg => (huw15).other g (by have := hg.1; omega)), rfl, rfl, rfl, rfl, rfl, rfl, rfl, BytesAt.nil _, SlOk.z⟩, ⟨fun h0 => (hbd h0).mono oO oO, (fun h0 => nomatch h0), (fun y hy => nomatch hy), hpi.mono (fun g hg => hg.mono oO oO), (fun h0 => nomatch h0)⟩, rfl, hRf, hTf⟩
 | exact ⟨{ matOf (rNums 6 (rSmall 2147483647 (rColor s).2).2).1 with fKind := 4, fColor := (rColor s).1, fFont := (rSmall 2147483647 (rColor s).2).1, pfBytes := pb, fBytes := (rBytes (rNums 6 (rSmall 2147483647 (rColor s).2).2).2).1, cfBytes := cb }, rfl, fun y hy => by rw [rItem_text] at hy; cases hy; rfl, ⟨rfl, RowM.nil _, SlOk.z, (fun y hy => nomatch hy), rColor_ok s _, RowM.nil _, SlOk.z, (fun y hy => nomatch hy), pen00_ok _, small_wf (rSmall_le 2147483647 _ dD) dD, fits_wf (hfm 0), fits_wf (hfm 1), fits_wf (hfm 2), fits_wf (hfm 3), fits_wf (hfm 4), fits_wf (hfm 5), hrb.upd huw15 (fun h0 => by have := (hbb h0).1; omega), hsb⟩, ⟨(fun h0 => nomatch h0), (fun h0 => nomatch h0), (fun y hy => nomatch hy), pen00_in _, fun h0 => (hbb h0).mono oO oO⟩, rfl, hRf, hTf⟩
 | exact ⟨it0, by rw [hno]; rfl, (fun y hy => by rw [hno] at hy; cases hy), ⟨rfl, RowM.nil _, SlOk.z, (fun y hy => nomatch hy), ⟨rfl, rfl, rfl, rfl, rfl⟩, RowM.nil _, SlOk.z, (fun y hy => nomatch hy), pen00_ok _, rfl, rfl, rfl, rfl, rfl, rfl, rfl, BytesAt.nil _, SlOk.z⟩, ⟨(fun h0 => nomatch h0), (fun h0 => nomatch h0), (fun y hy => nomatch hy), pen00_in _, (fun h0 => nomatch h0)⟩, rfl, by rw [hno]; exact hRf, hTf⟩
 have h2' := dF h2
 refine W.reg <| WL.p (.eqs rfl rfl) rfl <| WL.z rfl rfl ?_
 refine W.cond rfl (fun h16 => ?_) (fun h16 => ?_)
 have h16' := dT h16
 refine W.sr <| WL.p (.fa underlying87 rfl sizeOf3 dD rfl) rfl <| WL.stC (o := 0) ((itemV { it0 with fKind := 1 }).toArray) sizeOf3 rfl (rfl) rfl (rfl) hkb1 (Nat.le_of_ble_eq_true rfl) (rfl) (fun w17 hkw17 huw17 hsw17 => ?_)
 have hkw17 : Blk w17 b1 _ _ := hkw17
 have huw17 : Upd b1 _ _ := huw17
 have hTa := hTa.trans (Touch.of_new huw17 hb4)
 have hRa := hRa.below (Upd.below (Below.refl b1 _) (Nat.le_refl _) huw17) oO
 refine WL.nil <| ?_
 refine W.seq <| W.sr <| WL.m rfl rfl <| WL.p (.eqs rfl rfl) rfl <| WL.nil <| ?_
 refine W.cond rfl (fun h18 => ?_) (fun h18 => ?_)
 have h18' := dT h18
 refine W.reg <| WL.p (.fa underlying87 rfl sizeOf3 dD rfl) rfl <| WL.stC (o := 0) ((itemV { it0 with fKind := 2 }).toArray) sizeOf3 rfl (rfl) rfl (rfl) hkw17 (Nat.le_of_ble_eq_true rfl) (rfl) (fun w19 hkw19 huw19 hsw19 => ?_)
 have hkw19 : Blk w19 b1 _ _ := hkw19
 have huw19 : Upd b1 _ _ := huw19
 have hTa := hTa.trans (Touch.of_new huw19 hb4)
 have hRa := hRa.below (Upd.below (Below.refl b1 _) (Nat.le_refl _) huw19) oO
 refine WL.nil <| ?_
 refine W.seq ?_
 have hkb : Blk w19 b1 (itemV { it0 with fKind := if wd = [101, 111, 102, 105, 108, 108] then 2 else 1 }).toArray 87 := by
  first
  | (rw [if_pos aS]; exact hkw19)
  | (rw [if_neg aS]; exact hkw19)
 have hit := rItem_fill (wd := wd) (s := s) (by first | exact .inl aS | exact .inr aS)
 refine W.reg <| WL.m rfl rfl <| WL.c1 hb134 rfl rfl ((rdr_color r s _ hRa (hr0 hTa))) (fun w20 hw20 => ?_)
 obtain ⟨hR1, hT1⟩ := hw20
 have hTb := hTa.trans (hT1.mono hTa.size)
 have hk1 := (hkb).touch hT1 (hkb).lt oO
 refine WL.p (.fa underlying87 rfl sizeOf80 dD rfl) rfl <| WL.stB (o := 2) ((itemV { it0 with fKind := if wd = [101, 111, 102, 105, 108, 108] then 2 else 1, fColor := (rColor s).1 }).toArray) rfl (rfl) rfl hk1 isz80 rfl (Nat.le_of_ble_eq_true rfl) (rfl) (fun w21 hkw21 huw21 hsw21 => ?_)
 have hkw21 : Blk w21 b1 _ _ := hkw21
 have huw21 : Upd b1 _ _ := huw21
 have hTb := hTb.trans (Touch.of_new huw21 hb4)
 have hRb := hR1.below (Upd.below (Below.refl b1 _) (Nat.le_refl _) huw21) oO
 have hlb := (hkw21).lt
 refine WL.nil <| ?_
 refine W.reg <| WL.m rfl rfl <| WL.call hb94 rfl rfl ((rdr_path r _ _ hRb oO)) (fun vp w22 hw22 => ?_)
 obtain ⟨hR2, ho2, hT2⟩ := hw22
 have hTc := hTb.trans (hT2.mono hTb.size)
 have hk2 := (hkw21).touch hT2 (hkw21).lt oO
 obtain ⟨pd, cd, evd, hrd, hsd, hbd⟩ := ho2.sl
 subst evd
 have hsz2 := hTb.size
 have hsz3 := hT2.size
 refine WL.p (.fa underlying87 rfl sizeOf77 dD rfl) rfl <| WL.stC (o := 1) ((itemV { it0 with fKind := if wd = [101, 111, 102, 105, 108, 108] then 2 else 1, fColor := (rColor s).1, pfPath := pd, fPath := (rPath (rColor s).2).1, cfPath := cd }).toArray) sizeOf77 rfl (rfl) rfl (rfl) hk2 (Nat.le_of_ble_eq_true rfl) (rfl) (fun w23 hkw23 huw23 hsw23 => ?_)
 have hkw23 : Blk w23 b1 _ _ := hkw23
 have huw23 : Upd b1 _ _ := huw23
 have hTc := hTc.trans (Touch.of_new huw23 hb4)
 have hRc := hR2.below (Upd.below (Below.refl b1 _) (Nat.le_refl _) huw23) oO
 have hrc := hrd.upd huw23 (fun h0 => by have := (hbd h0).1; omega)
 have hTq := hTc
 have hRq := hRc
 refine WL.nil <| ?_
 refine W.sr <| WL.r (Rd.ldA rfl hkw23 underlying87 rfl isz87) rfl <| WL.stL rfl rfl hkw23 isz87 rfl rfl (fun w24 hkw24 huw24 hsw24 => ?_)
 have hTf := hTq.trans (Touch.of_new huw24 hb4)
 have hRf := hRq.below (Upd.below (Below.refl b1 _) (Nat.le_refl _) huw24) oO
 refine WL.z rfl rfl ?_
 refine W.ret (W.retc2 rfl rfl (ldRow hkw24 underlying87 rfl isz87) rfl ?_)
 first
 | exact ⟨{ it0 with fKind := if wd = [101, 111, 102, 105, 108, 108] then 2 else 1, fColor := (rColor s).1, pfPath := pd, fPath := (rPath (rColor s).2).1, cfPath := cd }, by rw [hit]; rfl, fun y hy => by rw [hit] at hy; cases hy; rfl, ⟨show (Lit.int .i64 (if wd = [101, 111, 102, 105, 108, 108] then 2 else 1)).wf = true by split <;> rfl, hrc.upd huw24 (fun h0 => by have := (hbd h0).1; omega), hsd, rPath_ok _ _, rColor_ok s _, RowM.nil _, SlOk.z, (fun y hy => nomatch hy), pen00_ok _, rfl, rfl, rfl, rfl, rfl, rfl, rfl, BytesAt.nil _, SlOk.z⟩, ⟨fun h0 => (hbd h0).mono oO oO, (fun h0 => nomatch h0), (fun y hy => nomatch hy), pen00_in _, (fun h0 => nomatch h0)⟩, rfl, by rw [hit]; exact hRf, hTf⟩
 | exact ⟨{ it0 with fKind := 3, fColor := (rColor s).1, fPen := xp, pfPath := pd, fPath := (rPath (rPen (rColor s).2).2).1, cfPath := cd }, rfl, fun y hy => by rw [rItem_stroke] at hy; cases hy; rw [← hep]; rfl, ⟨rfl, hrc.upd huw24 (fun h0 => by have := (hbd h0).1; omega), hsd, rPath_ok _ _, rColor_ok s _, RowM.nil _, SlOk.z, (fun y hy => nomatch hy), hpo.same hpi (fun g hg => (huw24).other g (by have := hg.1; omega)), rfl, rfl, rfl, rfl, rfl, rfl, rfl, BytesAt.nil _, SlOk.z⟩, ⟨fun h0 => (hbd h0).mono oO oO, (fun h0 => nomatch h0), (fun y hy => nomatch hy), hpi.mono (fun g hg => hg.mono oO oO), (fun h0 => nomatch h0)⟩, rfl, hRf, hTf⟩
 | exact ⟨{ matOf (rNums 6 (rSmall 2147483647 (rColor s).2).2).1 with fKind := 4, fColor := (rColor s).1, fFont := (rSmall 2147483647 (rColor s).2).1, pfBytes := pb, fBytes := (rBytes (rNums 6 (rSmall 2147483647 (rColor s).2).2).2).1, cfBytes := cb }, rfl, fun y hy => by rw [rItem_text] at hy; cases hy; rfl, ⟨rfl, RowM.nil _, SlOk.z, (fun y hy => nomatch hy), rColor_ok s _, RowM.nil _, SlOk.z, (fun y hy => nomatch hy), pen00_ok _, small_wf (rSmall_le 2147483647 _ dD) dD, fits_wf (hfm 0), fits_wf (hfm 1), fits_wf (hfm 2), fits_wf (hfm 3), fits_wf (hfm 4), fits_wf (hfm 5), hrb.upd huw24 (fun h0 => by have := (hbb h0).1; omega), hsb⟩, ⟨(fun h0 => nomatch h0), (fun h0 => nomatch h0), (fun y hy => nomatch hy), pen00_in _, fun h0 => (hbb h0).mono oO oO⟩, rfl, hRf, hTf⟩
 | exact ⟨it0, by rw [hno]; rfl, (fun y hy => by rw [hno] at hy; cases hy), ⟨rfl, RowM.nil _, SlOk.z, (fun y hy => nomatch hy), ⟨rfl, rfl, rfl, rfl, rfl⟩, RowM.nil _, SlOk.z, (fun y hy => nomatch hy), pen00_ok _, rfl, rfl, rfl, rfl, rfl, rfl, rfl, BytesAt.nil _, SlOk.z⟩, ⟨(fun h0 => nomatch h0), (fun h0 => nomatch h0), (fun y hy => nomatch hy), pen00_in _, (fun h0 => nomatch h0)⟩, rfl, by rw [hno]; exact hRf, hTf⟩
 have h18' := dF h18
 refine W.skip <| W.seq ?_
 have hkb : Blk w17 b1 (itemV { it0 with fKind := if wd = [101, 111, 102, 105, 108, 108] then 2 else 1 }).toArray 87 := by
  first
  | (rw [if_pos aS]; exact hkw17)
  | (rw [if_neg aS]; exact hkw17)
 have hit := rItem_fill (wd := wd) (s := s) (by first | exact .inl aS | exact .inr aS)
 refine W.reg <| WL.m rfl rfl <| WL.c1 hb134 rfl rfl ((rdr_color r s _ hRa (hr0 hTa))) (fun w25 hw25 => ?_)
 obtain ⟨hR1, hT1⟩ := hw25
 have hTb := hTa.trans (hT1.mono hTa.size)
 have hk1 := (hkb).touch hT1 (hkb).lt oO
 refine WL.p (.fa underlying87 rfl sizeOf80 dD rfl) rfl <| WL.stB (o := 2) ((itemV { it0 with fKind := if wd = [101, 111, 102, 105, 108, 108] then 2 else 1, fColor := (rColor s).1 }).toArray) rfl (rfl) rfl hk1 isz80 rfl (Nat.le_of_ble_eq_true rfl) (rfl) (fun w26 hkw26 huw26 hsw26 => ?_)
 have hkw26 : Blk w26 b1 _ _ := hkw26
 have huw26 : Upd b1 _ _ := huw26
 have hTb := hTb.trans (Touch.of_new huw26 hb4)
 have hRb := hR1.below (Upd.below (Below.refl b1 _) (Nat.le_refl _) huw26) oO
 have hlb := (hkw26).lt
 refine WL.nil <| ?_
 refine W.reg <| WL.m rfl rfl <| WL.call hb94 rfl rfl ((rdr_path r _ _ hRb oO)) (fun vp w27 hw27 => ?_)
 obtain ⟨hR2, ho2, hT2⟩ := hw27
 have hTc := hTb.trans (hT2.mono hTb.size)
 have hk2 := (hkw26).touch hT2 (hkw26).lt oO
 obtain ⟨pd, cd, evd, hrd, hsd, hbd⟩ := ho2.sl
 subst evd
 have hsz2 := hTb.size
 have hsz3 := hT2.size
 refine WL.p (.fa underlying87 rfl sizeOf77 dD rfl) rfl <| WL.stC (o := 1) ((itemV { it0 with fKind := if wd = [101, 111, 102, 105, 108, 108] then 2 else 1, fColor := (rColor s).1, pfPath := pd, fPath := (rPath (rColor s).2).1, cfPath := cd }).toArray) sizeOf77 rfl (rfl) rfl (rfl) hk2 (Nat.le_of_ble_eq_true rfl) (rfl) (fun w28 hkw28 huw28 hsw28 => ?_)
 have hkw28 : Blk w28 b1 _ _ := hkw28
 have huw28 : Upd b1 _ _ := huw28
 have hTc := hTc.trans (Touch.of_new huw28 hb4)
 have hRc := hR2.below (Upd.below (Below.refl b1 _) (Nat.le_refl _) huw28) oO
 have hrc := hrd.upd huw28 (fun h0 => by have := (hbd h0).1; omega)
 have hTq := hTc
 have hRq := hRc
 refine WL.nil <| ?_
 refine W.sr <| WL.r (Rd.ldA rfl hkw28 underlying87 rfl isz87) rfl <| WL.stL rfl rfl hkw28 isz87 rfl rfl (fun w29 hkw29 huw29 hsw29 => ?_)
 have hTf := hTq.trans (Touch.of_new huw29 hb4)
 have hRf := hRq.below (Upd.below (Below.refl b1 _) (Nat.le_refl _) huw29) oO
 refine WL.z rfl rfl ?_
 refine W.ret (W.retc2 rfl rfl (ldRow hkw29 underlying87 rfl isz87) rfl ?_)
 first
 | exact ⟨{ it0 with fKind := if wd = [101, 111, 102, 105, 108, 108] then 2 else 1, fColor := (rColor s).1, pfPath := pd, fPath := (rPath (rColor s).2).1, cfPath := cd }, by rw [hit]; rfl, fun y hy => by rw [hit] at hy; cases hy; rfl, ⟨show (Lit.int .i64 (if wd = [101, 111, 102, 105, 108, 108] then 2 else 1)).wf = true by split <;> rfl, hrc.upd huw29 (fun h0 => by have := (hbd h0).1; omega), hsd, rPath_ok _ _, rColor_ok s _, RowM.nil _, SlOk.z, (fun y hy => nomatch hy), pen00_ok _, rfl, rfl, rfl, rfl, rfl, rfl, rfl, BytesAt.nil _, SlOk.z⟩, ⟨fun h0 => (hbd h0).mono oO oO, (fun h0 => nomatch h0), (fun y hy => nomatch hy), pen00_in _, (fun h0 => nomatch h0)⟩, rfl, by rw [hit]; exact hRf, hTf⟩
 | exact ⟨{ it0 with fKind := 3, fColor := (rColor s).1, fPen := xp, pfPath := pd, fPath := (rPath (rPen (rColor s).2).2).1, cfPath := cd }, rfl, fun y hy => by rw [rItem_stroke] at hy; cases hy; rw [← hep]; rfl, ⟨rfl, hrc.upd huw29 (fun h0 => by have := (hbd h0).1; omega), hsd, rPath_ok _ _, rColor_ok s _, RowM.nil _, SlOk.z, (fun y hy => nomatch hy), hpo.same hpi (fun g hg => (huw29).other g (by have := hg.1; omega)), rfl, rfl, rfl, rfl, rfl, rfl, rfl, BytesAt.nil _, SlOk.z⟩, ⟨fun h0 => (hbd h0).mono oO oO, (fun h0 => nomatch h0), (fun y hy => nomatch hy), hpi.mono (fun g hg => hg.mono oO oO), (fun h0 => nomatch h0)⟩, rfl, hRf, hTf⟩
 | exact ⟨{ matOf (rNums 6 (rSmall 2147483647 (rColor s).2).2).1 with fKind := 4, fColor := (rColor s).1, fFont := (rSmall 2147483647 (rColor s).2).1, pfBytes := pb, fBytes := (rBytes (rNums 6 (rSmall 2147483647 (rColor s).2).2).2).1, cfBytes := cb }, rfl, fun y hy => by rw [rItem_text] at hy; cases hy; rfl, ⟨rfl, RowM.nil _, SlOk.z, (fun y hy => nomatch hy), rColor_ok s _, RowM.nil _, SlOk.z, (fun y hy => nomatch hy), pen00_ok _, small_wf (rSmall_le 2147483647 _ dD) dD, fits_wf (hfm 0), fits_wf (hfm 1), fits_wf (hfm 2), fits_wf (hfm 3), fits_wf (hfm 4), fits_wf (hfm 5), hrb.upd huw29 (fun h0 => by have := (hbb h0).1; omega), hsb⟩, ⟨(fun h0 => nomatch h0), (fun h0 => nomatch h0), (fun y hy => nomatch hy), pen00_in _, fun h0 => (hbb h0).mono oO oO⟩, rfl, hRf, hTf⟩
 | exact ⟨it0, by rw [hno]; rfl, (fun y hy => by rw [hno] at hy; cases hy), ⟨rfl, RowM.nil _, SlOk.z, (fun y hy => nomatch hy), ⟨rfl, rfl, rfl, rfl, rfl⟩, RowM.nil _, SlOk.z, (fun y hy => nomatch hy), pen00_ok _, rfl, rfl, rfl, rfl, rfl, rfl, rfl, BytesAt.nil _, SlOk.z⟩, ⟨(fun h0 => nomatch h0), (fun h0 => nomatch h0), (fun y hy => nomatch hy), pen00_in _, (fun h0 => nomatch h0)⟩, rfl, by rw [hno]; exact hRf, hTf⟩
 have h16' := dF h16
 refine W.sr <| WL.p (.eqs rfl rfl) rfl <| WL.z rfl rfl ?_
 refine W.cond rfl (fun h30 => ?_) (fun h30 => ?_)
 have h30' := dT h30
 obtain rfl : wd = [115, 116, 114, 111, 107, 101] := by assumption
 refine W.sr <| WL.p (.fa underlying87 rfl sizeOf3 dD rfl) rfl <| WL.stC (o := 0) ((itemV { it0 with fKind := 3 }).toArray) sizeOf3 rfl (rfl) rfl (rfl) hkb1 (Nat.le_of_ble_eq_true rfl) (rfl) (fun w31 hkw31 huw31 hsw31 => ?_)
 have hkw31 : Blk w31 b1 _ _ := hkw31
 have huw31 : Upd b1 _ _ := huw31
 have hTa := hTa.trans (Touch.of_new huw31 hb4)
 have hRa := hRa.below (Upd.below (Below.refl b1 _) (Nat.le_refl _) huw31) oO
 refine WL.nil <| ?_
 refine W.sr <| WL.m rfl rfl <| WL.c1 hb134 rfl rfl ((rdr_color r s _ hRa (hr0 hTa))) (fun w32 hw32 => ?_)
 obtain ⟨hR1, hT1⟩ := hw32
 have hTb := hTa.trans (hT1.mono hTa.size)
 have hk1 := (hkw31).touch hT1 (hkw31).lt oO
 refine WL.p (.fa underlying87 rfl sizeOf80 dD rfl) rfl <| WL.stB (o := 2) ((itemV { it0 with fKind := 3, fColor := (rColor s).1 }).toArray) rfl (rfl) rfl hk1 isz80 rfl (Nat.le_of_ble_eq_true rfl) (rfl) (fun w33 hkw33 huw33 hsw33 => ?_)
 have hkw33 : Blk w33 b1 _ _ := hkw33
 have huw33 : Upd b1 _ _ := huw33
 have hTb := hTb.trans (Touch.of_new huw33 hb4)
 have hRb := hR1.below (Upd.below (Below.refl b1 _) (Nat.le_refl _) huw33) oO
 have hlb := (hkw33).lt
 refine WL.nil <| ?_
 refine W.sr <| WL.m rfl rfl <| WL.call hb135 rfl rfl ((rdr_pen r _ _ hRb (hr0 hTb))) (fun xp w34 hw34 => ?_)
 obtain ⟨hep, hpo, hpi, hR3, hT3⟩ := hw34
 have hTc := hTb.trans (hT3.mono hTb.size)
 have hk3 := (hkw33).touch hT3 (hkw33).lt oO
 have hsz2 := hTb.size
 have hsz3 := hT3.size
 refine WL.p (.fa underlying87 rfl sizeOf84 dD rfl) rfl <| WL.stB (o := 8) ((itemV { it0 with fKind := 3, fColor := (rColor s).1, fPen := xp }).toArray) rfl (rfl) rfl hk3 isz84 rfl (Nat.le_of_ble_eq_true rfl) (rfl) (fun w35 hkw35 huw35 hsw35 => ?_)
 have hkw35 : Blk w35 b1 _ _ := hkw35
 have huw35 : Upd b1 _ _ := huw35
 have hTc := hTc.trans (Touch.of_new huw35 hb4)
 have hRc := hR3.below (Upd.below (Below.refl b1 _) (Nat.le_refl _) huw35) oO
 have hpo := hpo.same hpi (fun g hg => (huw35).other g (by have := hg.1; omega))
 refine WL.nil <| ?_
 refine W.reg <| WL.m rfl rfl <| WL.call hb94 rfl rfl ((rdr_path r _ _ hRc oO)) (fun vp w36 hw36 => ?_)
 obtain ⟨hR4, ho4, hT4⟩ := hw36
 have hTd := hTc.trans (hT4.mono hTc.size)
 have hk4 := (hkw35).touch hT4 (hkw35).lt oO
 obtain ⟨pd, cd, evd, hrd, hsd, hbd⟩ := ho4.sl
 subst evd
 have hsz4 := hTc.size
 have hsz5 := hT4.size
 have hpo := hpo.same hpi (fun g hg => hT4.block g (by have := hg.2; omega) (by have := hg.1; omega))
 refine WL.p (.fa underlying87 rfl sizeOf77 dD rfl) rfl <| WL.stC (o := 1) ((itemV { it0 with fKind := 3, fColor := (rColor s).1, fPen := xp, pfPath := pd, fPath := (rPath (rPen (rColor s).2).2).1, cfPath := cd }).toArray) sizeOf77 rfl (rfl) rfl (rfl) hk4 (Nat.le_of_ble_eq_true rfl) (rfl) (fun w37 hkw37 huw37 hsw37 => ?_)
 have hkw37 : Blk w37 b1 _ _ := hkw37
 have huw37 : Upd b1 _ _ := huw37
 have hTd := hTd.trans (Touch.of_new huw37 hb4)
 have hRd := hR4.below (Upd.below (Below.refl b1 _) (Nat.le_refl _) huw37) oO
 have hrc := hrd.upd huw37 (fun h0 => by have := (hbd h0).1; omega)
 have hpo := hpo.same hpi (fun g hg => (huw37).other g (by have := hg.1; omega))
 have hTq := hTd
 have hRq := hRd
 refine WL.nil <| ?_
 refine W.sr <| WL.r (Rd.ldA rfl hkw37 underlying87 rfl isz87) rfl <| WL.stL rfl rfl hkw37 isz87 rfl rfl (fun w38 hkw38 huw38 hsw38 => ?_)
 have hTf := hTq.trans (Touch.of_new huw38 hb4)
 have hRf := hRq.below (Upd.below (Below.refl b1 _) (Nat.le_refl _) huw38) oO
 refine WL.z rfl rfl ?_
 refine W.ret (W.retc2 rfl rfl (ldRow hkw38 underlying87 rfl isz87) rfl ?_)
 first
 | exact ⟨{ it0 with fKind := if wd = [101, 111, 102, 105, 108, 108] then 2 else 1, fColor := (rColor s).1, pfPath := pd, fPath := (rPath (rColor s).2).1, cfPath := cd }, by rw [hit]; rfl, fun y hy => by rw [hit] at hy; cases hy; rfl, ⟨show (Lit.int .i64 (if wd = [101, 111, 102, 105, 108, 108] then 2 else 1)).wf = true by split <;> rfl, hrc.upd huw38 (fun h0 => by have := (hbd h0).1; omega), hsd, rPath_ok _ _, rColor_ok s _, RowM.nil _, SlOk.z, (fun y hy => nomatch hy), pen00_ok _, rfl, rfl, rfl, rfl, rfl, rfl, rfl, BytesAt.nil _, SlOk.z⟩, ⟨fun h0 => (hbd h0).mono oO oO, (fun h0 => nomatch h0), (fun y hy => nomatch hy), pen00_in _, (fun h0 => nomatch h0)⟩, rfl, by rw [hit]; exact hRf, hTf⟩
 | exact ⟨{ it0 with fKind := 3, fColor := (rColor s).1, fPen := xp, pfPath := pd, fPath := (rPath (rPen (rColor s).2).2).1, cfPath := cd }, rfl, fun y hy => by rw [rItem_stroke] at hy; cases hy; rw [← hep]; rfl, ⟨rfl, hrc.upd huw38 (fun h0 => by have := (hbd h0).1; omega), hsd, rPath_ok _ _, rColor_ok s _, RowM.nil _, SlOk.z, (fun y hy => nomatch hy), hpo.same hpi (fun g hg => (huw38).other g (by have := hg.1; omega)), rfl, rfl, rfl, rfl, rfl, rfl, rfl, BytesAt.nil _, SlOk.z⟩, ⟨fun h0 => (hbd h0).mono oO oO, (fun h0 => nomatch h0), (fun y hy => nomatch hy), hpi.mono (fun g hg => hg.mono oO oO), (fun h0 => nomatch h0)⟩, rfl, hRf, hTf⟩
 | exact ⟨{ matOf (rNums 6 (rSmall 2147483647 (rColor s).2).2).1 with fKind := 4, fColor := (rColor s).1, fFont := (rSmall 2147483647 (rColor s).2).1, pfBytes := pb, fBytes := (rBytes (rNums 6 (rSmall 2147483647 (rColor s).2).2).2).1, cfBytes := cb }, rfl, fun y hy => by rw [rItem_text] at hy; cases hy; rfl, ⟨rfl, RowM.nil _, SlOk.z, (fun y hy => nomatch hy), rColor_ok s _, RowM.nil _, SlOk.z, (fun y hy => nomatch hy), pen00_ok _, small_wf (rSmall_le 2147483647 _ dD) dD, fits_wf (hfm 0), fits_wf (hfm 1), fits_wf (hfm 2), fits_wf (hfm 3), fits_wf (hfm 4), fits_wf (hfm 5), hrb.upd huw38 (fun h0 => by have := (hbb h0).1; omega), hsb⟩, ⟨(fun h0 => nomatch h0), (fun h0 => nomatch h0), (fun y hy => nomatch hy), pen00_in _, fun h0 => (hbb h0).mono oO oO⟩, rfl, hRf, hTf⟩
 | exact ⟨it0, by rw [hno]; rfl, (fun y hy => by rw [hno] at hy; cases hy), ⟨rfl, RowM.nil _, SlOk.z, (fun y hy => nomatch hy), ⟨rfl, rfl, rfl, rfl, rfl⟩, RowM.nil _, SlOk.z, (fun y hy => nomatch hy), pen00_ok _, rfl, rfl, rfl, rfl, rfl, rfl, rfl, BytesAt.nil _, SlOk.z⟩, ⟨(fun h0 => nomatch h0), (fun h0 => nomatch h0), (fun y hy => nomatch hy), pen00_in _, (fun h0 => nomatch h0)⟩, rfl, by rw [hno]; exact hRf, hTf⟩
 have h30' := dF h30
 refine W.sr <| WL.p (.eqs rfl rfl) rfl <| WL.z rfl rfl ?_
 refine W.cond rfl (fun h39 => ?_) (fun h39 => ?_)
 have h39' := dT h39
 obtain rfl : wd = [116, 101, 120, 116] := by assumption
 refine W.sr <| WL.p (.fa underlying87 rfl sizeOf3 dD rfl) rfl <| WL.stC (o := 0) ((itemV { it0 with fKind := 4 }).toArray) sizeOf3 rfl (rfl) rfl (rfl) hkb1 (Nat.le_of_ble_eq_true rfl) (rfl) (fun w40 hkw40 huw40 hsw40 => ?_)
 have hkw40 : Blk w40 b1 _ _ := hkw40
 have huw40 : Upd b1 _ _ := huw40
 have hTa := hTa.trans (Touch.of_new huw40 hb4)
 have hRa := hRa.below (Upd.below (Below.refl b1 _) (Nat.le_refl _) huw40) oO
 refine WL.nil <| ?_
 refine W.sr <| WL.m rfl rfl <| WL.c1 hb134 rfl rfl ((rdr_color r s _ hRa (hr0 hTa))) (fun w41 hw41 => ?_)
 obtain ⟨hR1, hT1⟩ := hw41
 have hTb := hTa.trans (hT1.mono hTa.size)
 have hk1 := (hkw40).touch hT1 (hkw40).lt oO
 refine WL.p (.fa underlying87 rfl sizeOf80 dD rfl) rfl <| WL.stB (o := 2) ((itemV { it0 with fKind := 4, fColor := (rColor s).1 }).toArray) rfl (rfl) rfl hk1 isz80 rfl (Nat.le_of_ble_eq_true rfl) (rfl) (fun w42 hkw42 huw42 hsw42 => ?_)
 have hkw42 : Blk w42 b1 _ _ := hkw42
 have huw42 : Upd b1 _ _ := huw42
 have hTb := hTb.trans (Touch.of_new huw42 hb4)
 have hRb := hR1.below (Upd.below (Below.refl b1 _) (Nat.le_refl _) huw42) oO
 have hlb := (hkw42).lt
 refine WL.nil <| ?_
 refine W.sr <| WL.m rfl rfl <| WL.c1 hb136 rfl rfl ((rdr_small r 2147483647 _ _ hRb (hr0 hTb) dD)) (fun w43 hw43 => ?_)
 obtain ⟨hR3, hT3⟩ := hw43
 have hTc := hTb.trans (hT3.mono hTb.size)
 have hk3 := (hkw42).touch hT3 (hkw42).lt oO
 have hsz2 := hTb.size
 have hsz3 := hT3.size
 refine WL.p (.fa underlying87 rfl sizeOf3 dD rfl) rfl <| WL.stC (o := 14) ((itemV { it0 with fKind := 4, fColor := (rColor s).1, fFont := (rSmall 2147483647 (rColor s).2).1 }).toArray) sizeOf3 rfl (rfl) rfl (rfl) hk3 (Nat.le_of_ble_eq_true rfl) (rfl) (fun w44 hkw44 huw44 hsw44 => ?_)
 have hkw44 : Blk w44 b1 _ _ := hkw44
 have huw44 : Upd b1 _ _ := huw44
 have hTc := hTc.trans (Touch.of_new huw44 hb4)
 have hRc := hR3.below (Upd.below (Below.refl b1 _) (Nat.le_refl _) huw44) oO
 refine WL.nil <| ?_
 refine W.sr <| WL.m rfl rfl <| WL.call hb137 rfl rfl ((rdr_numbers r 6 _ _ hRc dD dD)) (fun vn w45 hw45 => ?_)
 obtain ⟨hR4, ho4, hT4⟩ := hw45
 have hTd := hTc.trans (hT4.mono hTc.size)
 have hk4 := (hkw44).touch hT4 (hkw44).lt oO
 obtain ⟨pn, cn, evn, hrn, -, -⟩ := ho4.sl
 subst evn
 have hsz4 := hTc.size
 have hsz5 := hT4.size
 have hn6 := rNums_len 6 (rSmall 2147483647 (rColor s).2).2
 have hfm : ∀ i, fitsB ((rNums 6 (rSmall 2147483647 (rColor s).2).2).1.getD i 0) = true := fun i => getD_fits (rNums_fits _ _) i
 refine WL.p (.s2a underlying85 rfl (Nat.le_of_eq hn6.symm)) rfl <| WL.r (Rd.ldR (L := intL) (L' := matL) underlying85 rfl isz85 hrn (matOf (rNums 6 (rSmall 2147483647 (rColor s).2).2).1) (mat_flat _ hn6) (by rw [show (6 : Int).toNat = 6 from rfl, hn6]; decide) rfl) rfl <| WL.p (.fa underlying87 rfl sizeOf85 dD rfl) rfl <| WL.stB (o := 15) ((itemV { matOf (rNums 6 (rSmall 2147483647 (rColor s).2).2).1 with fKind := 4, fColor := (rColor s).1, fFont := (rSmall 2147483647 (rColor s).2).1 }).toArray) rfl (rfl) rfl hk4 isz85 rfl (Nat.le_of_ble_eq_true rfl) (rfl) (fun w46 hkw46 huw46 hsw46 => ?_)
 have hkw46 : Blk w46 b1 _ _ := hkw46
 have huw46 : Upd b1 _ _ := huw46
 have hTd := hTd.trans (Touch.of_new huw46 hb4)
 have hRd := hR4.below (Upd.below (Below.refl b1 _) (Nat.le_refl _) huw46) oO
 refine WL.nil <| ?_
 refine W.reg <| WL.m rfl rfl <| WL.call hb138 rfl rfl ((rdr_bytes r _ _ hRd)) (fun vb w47 hw47 => ?_)
 obtain ⟨hR5, ho5, hT5⟩ := hw47
 have hTe := hTd.trans (hT5.mono hTd.size)
 have hk5 := (hkw46).touch hT5 (hkw46).lt oO
 obtain ⟨pb, cb, evb, hrb, hsb, hbb⟩ := ho5.slB
 subst evb
 have hsz6 := hTd.size
 have hsz7 := hT5.size
 refine WL.p (.fa underlying87 rfl sizeOf22 dD rfl) rfl <| WL.stC (o := 21) ((itemV { matOf (rNums 6 (rSmall 2147483647 (rColor s).2).2).1 with fKind := 4, fColor := (rColor s).1, fFont := (rSmall 2147483647 (rColor s).2).1, pfBytes := pb, fBytes := (rBytes (rNums 6 (rSmall 2147483647 (rColor s).2).2).2).1, cfBytes := cb }).toArray) sizeOf22 rfl (rfl) rfl (rfl) hk5 (Nat.le_of_ble_eq_true rfl) (rfl) (fun w48 hkw48 huw48 hsw48 => ?_)
 have hkw48 : Blk w48 b1 _ _ := hkw48
 have huw48 : Upd b1 _ _ := huw48
 have hTe := hTe.trans (Touch.of_new huw48 hb4)
 have hRe := hR5.below (Upd.below (Below.refl b1 _) (Nat.le_refl _) huw48) oO
 have hrb := hrb.upd huw48 (fun h0 => by have := (hbb h0).1; omega)
 have hTq := hTe
 have hRq := hRe
 refine WL.nil <| ?_
 refine W.sr <| WL.r (Rd.ldA rfl hkw48 underlying87 rfl isz87) rfl <| WL.stL rfl rfl hkw48 isz87 rfl rfl (fun w49 hkw49 huw49 hsw49 => ?_)
 have hTf := hTq.trans (Touch.of_new huw49 hb4)
 have hRf := hRq.below (Upd.below (Below.refl b1 _) (Nat.le_refl _) huw49) oO
 refine WL.z rfl rfl ?_
 refine W.ret (W.retc2 rfl rfl (ldRow hkw49 underlying87 rfl isz87) rfl ?_)
 first
 | exact ⟨{ it0 with fKind := if wd = [101, 111, 102, 105, 108, 108] then 2 else 1, fColor := (rColor s).1, pfPath := pd, fPath := (rPath (rColor s).2).1, cfPath := cd }, by rw [hit]; rfl, fun y hy => by rw [hit] at hy; cases hy; rfl, ⟨show (Lit.int .i64 (if wd = [101, 111, 102, 105, 108, 108] then 2 else 1)).wf = true by split <;> rfl, hrc.upd huw49 (fun h0 => by have := (hbd h0).1; omega), hsd, rPath_ok _ _, rColor_ok s _, RowM.nil _, SlOk.z, (fun y hy => nomatch hy), pen00_ok _, rfl, rfl, rfl, rfl, rfl, rfl, rfl, BytesAt.nil _, SlOk.z⟩, ⟨fun h0 => (hbd h0).mono oO oO, (fun h0 => nomatch h0), (fun y hy => nomatch hy), pen00_in _, (fun h0 => nomatch h0)⟩, rfl, by rw [hit]; exact hRf, hTf⟩
 | exact ⟨{ it0 with fKind := 3, fColor := (rColor s).1, fPen := xp, pfPath := pd, fPath := (rPath (rPen (rColor s).2).2).1, cfPath := cd }, rfl, fun y hy => by rw [rItem_stroke] at hy; cases hy; rw [← hep]; rfl, ⟨rfl, hrc.upd huw49 (fun h0 => by have := (hbd h0).1; omega), hsd, rPath_ok _ _, rColor_ok s _, RowM.nil _, SlOk.z, (fun y hy => nomatch hy), hpo.same hpi (fun g hg => (huw49).other g (by have := hg.1; omega)), rfl, rfl, rfl, rfl, rfl, rfl, rfl, BytesAt.nil _, SlOk.z⟩, ⟨fun h0 => (hbd h0).mono oO oO, (fun h0 => nomatch h0), (fun y hy => nomatch hy), hpi.mono (fun g hg => hg.mono oO oO), (fun h0 => nomatch h0)⟩, rfl, hRf, hTf⟩
 | exact ⟨{ matOf (rNums 6 (rSmall 2147483647 (rColor s).2).2).1 with fKind := 4, fColor := (rColor s).1, fFont := (rSmall 2147483647 (rColor s).2).1, pfBytes := pb, fBytes := (rBytes (rNums 6 (rSmall 2147483647 (rColor s).2).2).2).1, cfBytes := cb }, rfl, fun y hy => by rw [rItem_text] at hy; cases hy; rfl, ⟨rfl, RowM.nil _, SlOk.z, (fun y hy => nomatch hy), rColor_ok s _, RowM.nil _, SlOk.z, (fun y hy => nomatch hy), pen00_ok _, small_wf (rSmall_le 2147483647 _ dD) dD, fits_wf (hfm 0), fits_wf (hfm 1), fits_wf (hfm 2), fits_wf (hfm 3), fits_wf (hfm 4), fits_wf (hfm 5), hrb.upd huw49 (fun h0 => by have := (hbb h0).1; omega), hsb⟩, ⟨(fun h0 => nomatch h0), (fun h0 => nomatch h0), (fun y hy => nomatch hy), pen00_in _, fun h0 => (hbb h0).mono oO oO⟩, rfl, hRf, hTf⟩
 | exact ⟨it0, by rw [hno]; rfl, (fun y hy => by rw [hno] at hy; cases hy), ⟨rfl, RowM.nil _, SlOk.z, (fun y hy => nomatch hy), ⟨rfl, rfl, rfl, rfl, rfl⟩, RowM.nil _, SlOk.z, (fun y hy => nomatch hy), pen00_ok _, rfl, rfl, rfl, rfl, rfl, rfl, rfl, BytesAt.nil _, SlOk.z⟩, ⟨(fun h0 => nomatch h0), (fun h0 => nomatch h0), (fun y hy => nomatch hy), pen00_in _, (fun h0 => nomatch h0)⟩, rfl, by rw [hno]; exact hRf, hTf⟩
 have h39' := dF h39
 have hno := rItem_none (s := s) (show ¬ wd = [102, 105, 108, 108] by assumption) aS aS aS
 have hTq := hTa
 have hRq := hRa
 refine W.sr <| WL.p (.build (ps := []) (vs := []) rfl blz87) rfl ?_
 refine WL.stL rfl rfl hkb1 isz87 rfl rfl (fun w50 hkw50 huw50 hsw50 => ?_)
 have hTf := hTq.trans (Touch.of_new huw50 hb4)
 have hRf := hRq.below (Upd.below (Below.refl b1 _) (Nat.le_refl _) huw50) oO
 refine WL.z rfl rfl ?_
 refine W.ret (W.retc2 rfl rfl (ldRow hkw50 underlying87 rfl isz87) rfl ?_)
 first
 | exact ⟨{ it0 with fKind := if wd = [101, 111, 102, 105, 108, 108] then 2 else 1, fColor := (rColor s).1, pfPath := pd, fPath := (rPath (rColor s).2).1, cfPath := cd }, by rw [hit]; rfl, fun y hy => by rw [hit] at hy; cases hy; rfl, ⟨show (Lit.int .i64 (if wd = [101, 111, 102, 105, 108, 108] then 2 else 1)).wf = true by split <;> rfl, hrc.upd huw50 (fun h0 => by have := (hbd h0).1; omega), hsd, rPath_ok _ _, rColor_ok s _, RowM.nil _, SlOk.z, (fun y hy => nomatch hy), pen00_ok _, rfl, rfl, rfl, rfl, rfl, rfl, rfl, BytesAt.nil _, SlOk.z⟩, ⟨fun h0 => (hbd h0).mono oO oO, (fun h0 => nomatch h0), (fun y hy => nomatch hy), pen00_in _, (fun h0 => nomatch h0)⟩, rfl, by rw [hit]; exact hRf, hTf⟩
 | exact ⟨{ it0 with fKind := 3, fColor := (rColor s).1, fPen := xp, pfPath := pd, fPath := (rPath (rPen (rColor s).2).2).1, cfPath := cd }, rfl, fun y hy => by rw [rItem_stroke] at hy; cases hy; rw [← hep]; rfl, ⟨rfl, hrc.upd huw50 (fun h0 => by have := (hbd h0).1; omega), hsd, rPath_ok _ _, rColor_ok s _, RowM.nil _, SlOk.z, (fun y hy => nomatch hy), hpo.same hpi (fun g hg => (huw50).other g (by have := hg.1; omega)), rfl, rfl, rfl, rfl, rfl, rfl, rfl, BytesAt.nil _, SlOk.z⟩, ⟨fun h0 => (hbd h0).mono oO oO, (fun h0 => nomatch h0), (fun y hy => nomatch hy), hpi.mono (fun g hg => hg.mono oO oO), (fun h0 => nomatch h0)⟩, rfl, hRf, hTf⟩
 | exact ⟨{ matOf (rNums 6 (rSmall 2147483647 (rColor s).2).2).1 with fKind := 4, fColor := (rColor s).1, fFont := (rSmall 2147483647 (rColor s).2).1, pfBytes := pb, fBytes := (rBytes (rNums 6 (rSmall 2147483647 (rColor s).2).2).2).1, cfBytes := cb }, rfl, fun y hy => by rw [rItem_text] at hy; cases hy; rfl, ⟨rfl, RowM.nil _, SlOk.z, (fun y hy => nomatch hy), rColor_ok s _, RowM.nil _, SlOk.z, (fun y hy => nomatch hy), pen00_ok _, small_wf (rSmall_le 2147483647 _ dD) dD, fits_wf (hfm 0), fits_wf (hfm 1), fits_wf (hfm 2), fits_wf (hfm 3), fits_wf (hfm 4), fits_wf (hfm 5), hrb.upd huw50 (fun h0 => by have := (hbb h0).1; omega), hsb⟩, ⟨(fun h0 => nomatch h0), (fun h0 => nomatch h0), (fun y hy => nomatch hy), pen00_in _, fun h0 => (hbb h0).mono oO oO⟩, rfl, hRf, hTf⟩
 | exact ⟨it0, by rw [hno]; rfl, (fun y hy => by rw [hno] at hy; cases hy), ⟨rfl, RowM.nil _, SlOk.z, (fun y hy => nomatch hy), ⟨rfl, rfl, rfl, rfl, rfl⟩, RowM.nil _, SlOk.z, (fun y hy => nomatch hy), pen00_ok _, rfl, rfl, rfl, rfl, rfl, rfl, rfl, BytesAt.nil _, SlOk.z⟩, ⟨(fun h0 => nomatch h0), (fun h0 => nomatch h0), (fun y hy => nomatch hy), pen00_in _, (fun h0 => nomatch h0)⟩, rfl, by rw [hno]; exact hRf, hTf⟩
end
section
/-- the blocks that nothing writes any more: behind b, ahead of n, none of those that are still appended to -/
def Dp (b n : Nat) (vp vc : Value) (it : Option Nat) (g : Nat) : Prop := b < g ∧ g < n ∧ vp.ownBlock ≠ some g ∧ vc.ownBlock ≠ some g ∧ it ≠ some g
theorem Dp.grow {b n m : Nat} {vp vc : Value} {it : Option Nat} {g : Nat} (h : Dp b n vp vc it g) (hn : n ≤ m) : Dp b m vp vc it g := ⟨h.1, Nat.lt_of_lt_of_le h.2.1 hn, h.2.2⟩
def lB (last : Option PageV) : Option Nat := last.bind fun x => x.pfItems.map (·.block)
/-- block b is a parser that has read pages (the last one apart) and clips -/
structure PSt (w : World) (b : Nat) (vp vc : Value) (init : List PageV) (last : Option PageV) (clips : List ClipV) : Prop where
 blk : Blk w b #[vp, vc] 92
 op : OwnM pageL 76 (b + 1) w vp (init ++ last.toList)
 oc : OwnM clipL 89 (b + 1) w vc clips
 ne : ∀ g, vp.ownBlock = some g → vc.ownBlock ≠ some g
 ol : ∀ x, last = some x → OwnM itemL 87 (b + 1) w (.slice x.pfItems x.fItems.length x.cfItems) x.fItems ∧ (Lit.int .i64 x.fWidth).wf = true ∧ (Lit.int .i64 x.fHeight).wf = true ∧ ∀ y ∈ x.fItems, ItemOk w y ∧ ItemIn (Dp b w.heap.size vp vc (lB last)) y
 nl : ∀ g, lB last = some g → vp.ownBlock ≠ some g ∧ vc.ownBlock ≠ some g
 pi : ∀ x ∈ init, PageOk w x ∧ PageIn (Dp b w.heap.size vp vc (lB last)) x
 cl : ∀ x ∈ clips, ClipOk w x ∧ ClipIn (Dp b w.heap.size vp vc (lB last)) x
 le : last = none → init = []
theorem OwnM.mk {α : Type} {L : Lay α} {e : TypeId} {B : Nat} {w : World} {v : Value} {l : List α} (h : OwnM L e B w v l) : ∃ p c, v = .slice p l.length c ∧ RowM L w p l ∧ SlOk p l c ∧ v.ownBlock = p.map (·.block) ∧ (0 < l.length → v.ownBlock = some (pA p).block) := by
 obtain ⟨p, c, rfl, hr, hb, hc, hn, ho, hm, hx⟩ := h.row
 obtain ⟨p', c', e, hr', hs, hb'⟩ := h.sl
 cases e
 exact ⟨p, c, rfl, hr, hs, ho, fun h0 => by rw [ho, hr.isp h0]; rfl⟩
theorem PSt.lt {w : World} {b : Nat} {vp vc : Value} {init : List PageV} {last : Option PageV} {clips : List ClipV} (h : PSt w b vp vc init last clips) :
  b < w.heap.size ∧ (∀ g, vp.ownBlock = some g → b < g ∧ g < w.heap.size) ∧ (∀ g, vc.ownBlock = some g → b < g ∧ g < w.heap.size) ∧ ∀ g, lB last = some g → b < g ∧ g < w.heap.size := by
 refine ⟨h.blk.lt, fun g hg => h.op.lt g hg, fun g hg => h.oc.lt g hg, fun g hg => ?_⟩
 cases hl : last with
 | none => rw [hl] at hg; cases hg
 | some x =>
  rw [hl] at hg
  have h1 := (h.ol x hl).1
  have h2 : (Value.slice x.pfItems x.fItems.length x.cfItems).ownBlock = some g := by
   cases hp : x.pfItems with
   | none => rw [show lB (some x) = x.pfItems.map (·.block) from rfl, hp] at hg; cases hg
   | some a => rw [show lB (some x) = x.pfItems.map (·.block) from rfl, hp] at hg; exact hg
  exact h1.lt g h2
/-- all stands while the world only grows -/
theorem PSt.below {w w1 : World} {b : Nat} {vp vc : Value} {init : List PageV} {last : Option PageV} {clips : List ClipV} (h : PSt w b vp vc init last clips) (hb : Below w.heap.size w w1) : PSt w1 b vp vc init last clips := by
 have hD : ∀ g, Dp b w.heap.size vp vc (lB last) g → Dp b w1.heap.size vp vc (lB last) g := fun g hg => ⟨hg.1, Nat.lt_of_lt_of_le hg.2.1 hb.size, hg.2.2⟩
 exact ⟨h.blk.below hb h.blk.lt, h.op.below hb, h.oc.below hb, h.ne, fun x hx => ⟨(h.ol x hx).1.below hb, (h.ol x hx).2.1, (h.ol x hx).2.2.1, fun y hy => ⟨((h.ol x hx).2.2.2 y hy).1.below hb, ((h.ol x hx).2.2.2 y hy).2.mono hD⟩⟩, h.nl,
  fun x hx => ⟨(h.pi x hx).1.below hb, (h.pi x hx).2.mono hD⟩, fun x hx => ⟨(h.cl x hx).1.below hb, (h.cl x hx).2.mono hD⟩, h.le⟩
theorem PSt.start {w : World} {b : Nat} (h : Blk w b #[.slice none 0 0, .slice none 0 0] 92) : PSt w b (.slice none 0 0) (.slice none 0 0) [] none [] :=
 ⟨h, OwnM.nil _ _ _ _, OwnM.nil _ _ _ _, (fun g hg => by cases hg), (fun x hx => by cases hx), (fun g hg => by cases hg), (fun x hx => by cases hx), (fun x hx => by cases hx), fun _ => rfl⟩
theorem PageOk.of_last {w : World} {x : PageV} {B : Nat} (h : OwnM itemL 87 B w (.slice x.pfItems x.fItems.length x.cfItems) x.fItems) (h1 : (Lit.int .i64 x.fWidth).wf = true) (h2 : (Lit.int .i64 x.fHeight).wf = true) (h3 : ∀ y ∈ x.fItems, ItemOk w y) : PageOk w x := by
 obtain ⟨p, c, e, hr, hs, -⟩ := h.mk
 simp only [Value.slice.injEq, true_and] at e
 obtain ⟨rfl, rfl⟩ := e
 exact ⟨h1, h2, hr, hs, h3⟩
theorem PSt.pages {w : World} {b : Nat} {vp vc : Value} {init : List PageV} {last : Option PageV} {clips : List ClipV} (h : PSt w b vp vc init last clips) : ∀ x ∈ init ++ last.toList, PageOk w x := fun x hx => by
  rcases List.mem_append.1 hx with hx | hx
  · exact (h.pi x hx).1
  · have hx' : last = some x := by simpa using hx
    obtain ⟨h1, h2, h3, h4⟩ := h.ol x hx'
    exact PageOk.of_last h1 h2 h3 fun y hy => (h4 y hy).1
/-- a page comes behind -/
theorem PSt.addPage {w w2 w3 : World} {b : Nat} {vp vp' vc : Value} {init : List PageV} {last : Option PageV} {clips : List ClipV} {n1 n2 : Int} (h : PSt w b vp vc init last clips)
    (ho : OwnM pageL 76 (b + 1) w2 vp' ((init ++ last.toList) ++ [⟨n1, n2, none, [], 0⟩])) (hg : w.grownBy w2 vp.ownBlock) (hf : ∀ g, vp'.ownBlock = some g → vp.ownBlock = some g ∨ w.heap.size ≤ g)
    (hu : Upd b w2 w3) (hk : Blk w3 b #[vp', vc] 92) (h1 : (Lit.int .i64 n1).wf = true) (h2 : (Lit.int .i64 n2).wf = true) :
    PSt w3 b vp' vc (init ++ last.toList) (some ⟨n1, n2, none, [], 0⟩) clips ∧ ∀ g, Dp b w.heap.size vp vc (lB last) g → Dp b w3.heap.size vp' vc none g ∧ w3.heap[g]? = w.heap[g]? := by
  obtain ⟨hb, hpl, hcl, hll⟩ := h.lt
  have hsz : w.heap.size ≤ w3.heap.size := Nat.le_trans hg.size hu.size
  have hs : ∀ g, b < g → g < w.heap.size → vp.ownBlock ≠ some g → w3.heap[g]? = w.heap[g]? := fun g h3 h4 h5 => by
    rw [hu.other g oO, hg.block g h4 (fun e => h5 e.symm)]
  have hD : ∀ g, Dp b w.heap.size vp vc (lB last) g → Dp b w3.heap.size vp' vc none g := fun g hgd => ⟨hgd.1, by have := hgd.2.1; omega, fun e => by
    rcases hf g e with e2 | e2
    · exact hgd.2.2.1 e2
    · have := hgd.2.1; omega, hgd.2.2.2.1, (fun e => by cases e)⟩
  have hS : ∀ g, Dp b w.heap.size vp vc (lB last) g → w3.heap[g]? = w.heap[g]? := fun g hgd => hs g hgd.1 hgd.2.1 hgd.2.2.1
  have hoc : ∀ g, vc.ownBlock = some g → w3.heap[g]? = w.heap[g]? := fun g hg2 => hs g (hcl g hg2).1 (hcl g hg2).2 (fun e => h.ne g e hg2)
  refine ⟨⟨hk, ho.touch hu oO, h.oc.same hoc, fun g hg2 => ?_, fun x hx => ?_, (fun g hg2 => by cases hg2), fun x hx => ?_, fun x hx => ⟨(h.cl x hx).1.same (h.cl x hx).2 hS, (h.cl x hx).2.mono hD⟩, (fun e => by cases e)⟩, fun g hgd => ⟨hD g hgd, hS g hgd⟩⟩
  · rcases hf g hg2 with e | e
    · exact h.ne g e
    · intro e2; have := (hcl g e2).2; omega
  · cases hx
    exact ⟨OwnM.nil _ _ _ _, h1, h2, (fun y hy => by cases hy)⟩
  · rcases List.mem_append.1 hx with hx | hx
    · exact ⟨(h.pi x hx).1.same (h.pi x hx).2 hS, (h.pi x hx).2.mono hD⟩
    · have hx' : last = some x := by simpa using hx
      obtain ⟨o1, o2, o3, o4⟩ := h.ol x hx'
      have hbl : 0 < x.fItems.length → lB last = some (pA x.pfItems).block := fun h0 => by
        obtain ⟨p, c, e, hr, hs2, hob, hob2⟩ := o1.mk
        simp only [Value.slice.injEq, true_and] at e
        obtain ⟨rfl, rfl⟩ := e
        rw [hx', show lB (some x) = x.pfItems.map (·.block) from rfl, hr.isp h0]; rfl
      have o1' : OwnM itemL 87 (b + 1) w3 (.slice x.pfItems x.fItems.length x.cfItems) x.fItems := o1.same fun g hg2 => hs g (o1.lt g hg2).1 (o1.lt g hg2).2 (fun e => by
        have : lB last = some g := by
          rw [hx']; cases hp : x.pfItems with
          | none => rw [hp] at hg2; cases hg2
          | some a => rw [show lB (some x) = x.pfItems.map (·.block) from rfl, hp]; rw [hp] at hg2; exact hg2
        exact (h.nl g this).1 e)
      refine ⟨PageOk.of_last o1' o2 o3 fun y hy => (o4 y hy).1.same (o4 y hy).2 hS, ⟨fun h0 => ?_, fun y hy => (o4 y hy).2.mono hD⟩⟩
      have e := hbl h0
      have hn := h.nl _ e
      have hl := hll _ e
      exact ⟨hl.1, by omega, fun e2 => by
        rcases hf _ e2 with e3 | e3
        · exact hn.1 e3
        · omega, hn.2, (fun e2 => by cases e2)⟩
/-- a clip waits -/
theorem PSt.addClip {w0 w w2 w3 : World} {b : Nat} {vp vc vc' : Value} {init : List PageV} {last : Option PageV} {clips : List ClipV} {x : ClipV} (h0 : PSt w0 b vp vc init last clips) (hw : Below w0.heap.size w0 w)
    (hx : ClipOk w x) (hxi : ClipIn (Btw w0.heap.size w.heap.size) x)
    (ho : OwnM clipL 89 (b + 1) w2 vc' (clips ++ [x])) (hg : w.grownBy w2 vc.ownBlock) (hf : ∀ g, vc'.ownBlock = some g → vc.ownBlock = some g ∨ w.heap.size ≤ g)
    (hu : Upd b w2 w3) (hk : Blk w3 b #[vp, vc'] 92) : PSt w3 b vp vc' init last (clips ++ [x]) ∧ ∀ g, Dp b w.heap.size vp vc (lB last) g → Dp b w3.heap.size vp vc' (lB last) g ∧ w3.heap[g]? = w.heap[g]? := by
  have h := h0.below hw
  obtain ⟨hb, hpl, hcl, hll⟩ := h.lt
  obtain ⟨hb0, hpl0, hcl0, hll0⟩ := h0.lt
  have hsz : w.heap.size ≤ w3.heap.size := Nat.le_trans hg.size hu.size
  have hs : ∀ g, b < g → g < w.heap.size → vc.ownBlock ≠ some g → w3.heap[g]? = w.heap[g]? := fun g h3 h4 h5 => by
    rw [hu.other g oO, hg.block g h4 (fun e => h5 e.symm)]
  have hnew : ∀ g, Btw w0.heap.size w.heap.size g → Dp b w.heap.size vp vc (lB last) g := fun g hgb => ⟨by have := hgb.1; omega, hgb.2, fun e => by have := (hpl0 g e).2; have := hgb.1; omega, fun e => by have := (hcl0 g e).2; have := hgb.1; omega, fun e => by have := (hll0 g e).2; have := hgb.1; omega⟩
  have hD : ∀ g, Dp b w.heap.size vp vc (lB last) g → Dp b w3.heap.size vp vc' (lB last) g := fun g hgd => ⟨hgd.1, by have := hgd.2.1; omega, hgd.2.2.1, fun e => by
    rcases hf g e with e2 | e2
    · exact hgd.2.2.2.1 e2
    · have := hgd.2.1; omega, hgd.2.2.2.2⟩
  have hS : ∀ g, Dp b w.heap.size vp vc (lB last) g → w3.heap[g]? = w.heap[g]? := fun g hgd => hs g hgd.1 hgd.2.1 hgd.2.2.2.1
  refine ⟨⟨hk, h.op.same fun g hg2 => hs g (hpl g hg2).1 (hpl g hg2).2 (h.ne g hg2), ho.touch hu oO, fun g hg2 e => ?_, fun y hy => ?_, fun g hg2 => ⟨(h.nl g hg2).1, fun e => ?_⟩, fun y hy => ⟨(h.pi y hy).1.same (h.pi y hy).2 hS, (h.pi y hy).2.mono hD⟩, fun y hy => ?_, h.le⟩, fun g hgd => ⟨hD g hgd, hS g hgd⟩⟩
  · rcases hf g e with e2 | e2
    · exact h.ne g hg2 e2
    · have := (hpl g hg2).2; omega
  · obtain ⟨o1, o2, o3, o4⟩ := h.ol y hy
    refine ⟨o1.same fun g hg2 => hs g (o1.lt g hg2).1 (o1.lt g hg2).2 (fun e => ?_), o2, o3, fun z hz => ⟨(o4 z hz).1.same (o4 z hz).2 hS, (o4 z hz).2.mono hD⟩⟩
    have : lB last = some g := by
      rw [hy]; cases hp : y.pfItems with
      | none => rw [hp] at hg2; cases hg2
      | some a => rw [show lB (some y) = y.pfItems.map (·.block) from rfl, hp]; rw [hp] at hg2; exact hg2
    exact (h.nl g this).2 e
  · rcases hf g e with e2 | e2
    · exact (h.nl g hg2).2 e2
    · have := (hll g hg2).2; omega
  · rcases List.mem_append.1 hy with hy | hy
    · exact ⟨(h.cl y hy).1.same (h.cl y hy).2 hS, (h.cl y hy).2.mono hD⟩
    · obtain rfl : y = x := by simpa using hy
      exact ⟨hx.same (hxi.mono hnew) hS, (hxi.mono hnew).mono hD⟩
/-- the clips that wait go over to an item -/
theorem PSt.take {w0 w w1 : World} {b : Nat} {vp : Value} {pc : Option Addr} {cc : Nat} {init : List PageV} {last : Option PageV} {clips : List ClipV} {y : ItemV} (h0 : PSt w0 b vp (.slice pc clips.length cc) init last clips) (hw : Below w0.heap.size w0 w)
  (hy : ItemOk w y) (hyi : ItemIn (Btw w0.heap.size w.heap.size) y) (hu : Upd b w w1) (hz : w1.heap.size = w.heap.size) (hk : Blk w1 b #[vp, .slice none 0 0] 92) :
  PSt w1 b vp (.slice none 0 0) init last [] ∧ ItemOk w1 { y with pfClips := pc, fClips := clips, cfClips := cc } ∧ ItemIn (Dp b w1.heap.size vp (.slice none 0 0) (lB last)) { y with pfClips := pc, fClips := clips, cfClips := cc } ∧ ∀ g, Dp b w.heap.size vp (.slice pc clips.length cc) (lB last) g → Dp b w1.heap.size vp (.slice none 0 0) (lB last) g ∧ w1.heap[g]? = w.heap[g]? := by
 have h := h0.below hw
 obtain ⟨hb, hpl, hcl, hll⟩ := h.lt
 obtain ⟨hb0, hpl0, hcl0, hll0⟩ := h0.lt
 have hs : ∀ g, b < g → w1.heap[g]? = w.heap[g]? := fun g h3 => hu.other g oO
 have hnew : ∀ g, Btw w0.heap.size w.heap.size g → Dp b w1.heap.size vp (.slice none 0 0) (lB last) g := fun g hgb => ⟨by have := hgb.1; omega, by rw [hz]; exact hgb.2, fun e => by have := (hpl0 g e).2; have := hgb.1; omega, (fun e => by cases e), fun e => by have := (hll0 g e).2; have := hgb.1; omega⟩
 have hD : ∀ g, Dp b w.heap.size vp (.slice pc clips.length cc) (lB last) g → Dp b w1.heap.size vp (.slice none 0 0) (lB last) g := fun g hgd => ⟨hgd.1, by rw [hz]; exact hgd.2.1, hgd.2.2.1, (fun e => by cases e), hgd.2.2.2.2⟩
 have hS : ∀ g, Dp b w.heap.size vp (.slice pc clips.length cc) (lB last) g → w1.heap[g]? = w.heap[g]? := fun g hgd => hs g hgd.1
 obtain ⟨p, c, e, hr, hsl, hob, hob2⟩ := h.oc.mk
 simp only [Value.slice.injEq, true_and] at e
 obtain ⟨rfl, rfl⟩ := e
 have hSy : ∀ g, Btw w0.heap.size w.heap.size g → w1.heap[g]? = w.heap[g]? := fun g hgb => hs g (by have := hgb.1; omega)
 have hy1 := hy.same hyi hSy
 have hyi1 := hyi.mono hnew
 refine ⟨⟨hk, h.op.same fun g hg2 => hs g (hpl g hg2).1, OwnM.nil _ _ _ _, (fun g _ e => by cases e), fun x hx => ?_, fun g hg2 => ⟨(h.nl g hg2).1, (fun e => by cases e)⟩, fun x hx => ⟨(h.pi x hx).1.same (h.pi x hx).2 hS, (h.pi x hx).2.mono hD⟩, (fun x hx => by cases hx), h.le⟩, ?_, ?_, fun g hgd => ⟨hD g hgd, hS g hgd⟩⟩
 ·
  obtain ⟨o1, o2, o3, o4⟩ := h.ol x hx
  exact ⟨o1.same fun g hg2 => hs g (o1.lt g hg2).1, o2, o3, fun z hz2 => ⟨(o4 z hz2).1.same (o4 z hz2).2 hS, (o4 z hz2).2.mono hD⟩⟩
 ·
  have hrw : RowM clipL w1 pc clips := hr.same fun h2 => hs _ (hcl _ (hob2 h2)).1
  exact ⟨hy1.wf_fKind, hy1.row_fPath, hy1.sl_fPath, hy1.all_fPath, hy1.ok_fColor, hrw, hsl, fun x hx => (h.cl x hx).1.same (h.cl x hx).2 hS, hy1.ok_fPen, hy1.wf_fFont, hy1.wf_fMatrix_0, hy1.wf_fMatrix_1, hy1.wf_fMatrix_2, hy1.wf_fMatrix_3, hy1.wf_fMatrix_4, hy1.wf_fMatrix_5, hy1.row_fBytes, hy1.sl_fBytes⟩
 ·
  refine ⟨hyi1.in_fPath, fun h2 => ?_, fun x hx => (h.cl x hx).2.mono hD, hyi1.in_fPen, hyi1.in_fBytes⟩
  have e2 := hob2 h2
  exact ⟨(hcl _ e2).1, by rw [hz]; exact (hcl _ e2).2, fun e3 => h.ne _ e3 e2, (fun e3 => by cases e3), fun e3 => (h.nl _ e3).2 e2⟩
/-- an item comes behind on the last page -/
theorem PSt.push {w w2 w3 : World} {b gp : Nat} {vp : Value} {init : List PageV} {x : PageV} {y : ItemV} {p' : Option Addr} {c' n' : Nat} (h : PSt w b vp (.slice none 0 0) init (some x) [])
    (hy : ItemOk w y) (hyi : ItemIn (Dp b w.heap.size vp (.slice none 0 0) (lB (some x))) y)
    (ho : OwnM itemL 87 (b + 1) w2 (.slice p' n' c') (x.fItems ++ [y])) (hg : w.grownBy w2 (Value.slice x.pfItems x.fItems.length x.cfItems).ownBlock) (hf : ∀ g, (Value.slice p' n' c').ownBlock = some g → (Value.slice x.pfItems x.fItems.length x.cfItems).ownBlock = some g ∨ w.heap.size ≤ g)
    (hgp : vp.ownBlock = some gp) (hu : Upd gp w2 w3)
    (hop : OwnM pageL 76 (b + 1) w3 vp (init ++ [⟨x.fWidth, x.fHeight, p', x.fItems ++ [y], c'⟩])) : PSt w3 b vp (.slice none 0 0) init (some ⟨x.fWidth, x.fHeight, p', x.fItems ++ [y], c'⟩) [] ∧ ∀ g, Dp b w.heap.size vp (.slice none 0 0) (lB (some x)) g → Dp b w3.heap.size vp (.slice none 0 0) (lB (some (⟨x.fWidth, x.fHeight, p', x.fItems ++ [y], c'⟩ : PageV))) g ∧ w3.heap[g]? = w.heap[g]? := by
  obtain ⟨hb, hpl, hcl, hll⟩ := h.lt
  have hgpl := hpl gp hgp
  have hsz : w.heap.size ≤ w3.heap.size := Nat.le_trans hg.size hu.size
  have hxo : ∀ g, (Value.slice x.pfItems x.fItems.length x.cfItems).ownBlock = some g → lB (some x) = some g := fun g hg2 => by
    cases hp : x.pfItems with
    | none => rw [hp] at hg2; cases hg2
    | some a => rw [show lB (some x) = x.pfItems.map (·.block) from rfl, hp]; rw [hp] at hg2; exact hg2
  have hyo : ∀ g, lB (some (⟨x.fWidth, x.fHeight, p', x.fItems ++ [y], c'⟩ : PageV)) = some g → (Value.slice p' n' c').ownBlock = some g := fun g hg2 => by
    have hg3 : p'.map (·.block) = some g := hg2
    cases hp : p' with
    | none => rw [hp] at hg3; cases hg3
    | some a => rw [hp] at hg3; exact hg3
  have hs : ∀ g, g < w.heap.size → g ≠ gp → lB (some x) ≠ some g → w3.heap[g]? = w.heap[g]? := fun g h4 h5 h6 => by
    rw [hu.other g h5, hg.block g h4 (fun e => h6 (hxo g e.symm))]
  have hD : ∀ g, Dp b w.heap.size vp (.slice none 0 0) (lB (some x)) g → Dp b w3.heap.size vp (.slice none 0 0) (lB (some (⟨x.fWidth, x.fHeight, p', x.fItems ++ [y], c'⟩ : PageV))) g := fun g hgd => ⟨hgd.1, by have := hgd.2.1; omega, hgd.2.2.1, hgd.2.2.2.1, fun e => by
    rcases hf g (hyo g e) with e2 | e2
    · exact hgd.2.2.2.2 (hxo g e2)
    · have := hgd.2.1; omega⟩
  have hS : ∀ g, Dp b w.heap.size vp (.slice none 0 0) (lB (some x)) g → w3.heap[g]? = w.heap[g]? := fun g hgd => hs g hgd.2.1 (fun e => hgd.2.2.1 (e ▸ hgp)) hgd.2.2.2.2
  have hn' : n' = (x.fItems ++ [y]).length := by
    obtain ⟨p2, c2, e, -⟩ := ho.mk
    simp only [Value.slice.injEq] at e
    exact e.2.1
  subst hn'
  obtain ⟨o1, o2, o3, o4⟩ := h.ol x rfl
  have hbk : w3.heap[b]? = w.heap[b]? := by
    rw [hu.other b oO, hg.block b hb (fun e => by have := (hll b (hxo b e.symm)).1; omega)]
  refine ⟨⟨hbk.trans h.blk, hop, OwnM.nil _ _ _ _, (fun g _ e => by cases e), fun z hz => ?_, fun g hg2 => ⟨fun e => ?_, (fun e => by cases e)⟩, fun z hz => ⟨(h.pi z hz).1.same (h.pi z hz).2 hS, (h.pi z hz).2.mono hD⟩, (fun z hz => by cases hz), (fun e => by cases e)⟩, fun g hgd => ⟨hD g hgd, hS g hgd⟩⟩
  · cases hz
    refine ⟨ho.same fun g hg2 => hu.other g (fun e => ?_), o2, o3, fun z hz => ?_⟩
    · rcases hf g hg2 with e2 | e2
      · exact (h.nl g (hxo g e2)).1 (e ▸ hgp)
      · omega
    · rcases List.mem_append.1 hz with hz | hz
      · exact ⟨(o4 z hz).1.same (o4 z hz).2 hS, (o4 z hz).2.mono hD⟩
      · obtain rfl : z = y := by simpa using hz
        exact ⟨hy.same hyi hS, hyi.mono hD⟩
  · rcases hf g (hyo g hg2) with e2 | e2
    · exact (h.nl g (hxo g e2)).1 e
    · have := (hpl g e).2; omega
end
section
theorem splitC_len (c : UInt8) : ∀ l : List UInt8, (splitC c l).length ≤ l.length + 1 ∧ ∀ x ∈ splitC c l, x.length ≤ l.length
  | [] => by simp [splitC]
  | y :: r => by
    have ih := splitC_len c r
    unfold splitC
    split
    · refine ⟨by simp only [List.length_cons]; omega, fun x hx => ?_⟩
      rcases List.mem_cons.1 hx with rfl | hx
      · simp
      · have := ih.2 x hx; simp only [List.length_cons]; omega
    · split
      · rename_i e; exact absurd e (splitC_ne c r)
      · rename_i h t e
        rw [e] at ih
        refine ⟨by simp only [List.length_cons] at ih ⊢; omega, fun x hx => ?_⟩
        rcases List.mem_cons.1 hx with rfl | hx
        · have := ih.2 h (List.mem_cons_self ..); simp only [List.length_cons]; omega
        · have := ih.2 x (List.mem_cons_of_mem _ hx); simp only [List.length_cons]; omega
/-- what was read, but for where it lies -/
def psOf (init : List PageV) (last : Option PageV) (clips : List ClipV) : PS := ⟨(init ++ last.toList).map erPage, clips.map erClip⟩
theorem fin_eq (s : RS) : fin s = (!s.bad && decide ((s.ws.length : Int) = 0)) := by
 unfold fin
 congr 1
 rw [decide_eq_decide]
 cases s.ws with
 | nil => simp
 | cons x l => simp; omega
theorem rLine_page {ws : List (List UInt8)} {p : PS} (h : (rWord ⟨ws, false⟩).1 = [112, 97, 103, 101]) : rLine ws p = if p.clips ≠ [] then none else if fin (rNum (rNum (rWord ⟨ws, false⟩).2).2).2 then some ⟨p.pages ++ [⟨(rNum (rWord ⟨ws, false⟩).2).1, (rNum (rNum (rWord ⟨ws, false⟩).2).2).1, none, [], 0⟩], p.clips⟩ else none := by
 unfold rLine; simp only [if_pos h]
def pageN (n1 n2 : Int) : PageV := ⟨n1, n2, none, [], 0⟩
/-- what a line comes to in memory -/
def LineOk (b : Nat) (vp0 vc0 : Value) (last0 : Option PageV) (r : Option PS) (w : World) (e : Ending) (w' : World) : Prop :=
 e = .returned (.bool r.isSome) ∧ Below b w w' ∧ ∀ ps, r = some ps → ∃ vp vc init last clips, PSt w' b vp vc init last clips ∧ psOf init last clips = ps ∧ ∀ g, Dp b w.heap.size vp0 vc0 (lB last0) g → Dp b w'.heap.size vp vc (lB last) g ∧ w'.heap[g]? = w.heap[g]?
theorem inf76 : (Tryz.prog.info? 76).map (fun i => (i.zero, i.size, i.bytes)) = some (some (.agg #[.int .i64 0, .int .i64 0, .slice none 0 0]), 3, 40) := by kernel_rfl
theorem inf89 : (Tryz.prog.info? 89).map (fun i => (i.zero, i.size, i.bytes)) = some (some (.agg #[.slice none 0 0, .bool false]), 2, 32) := by kernel_rfl
theorem inf87 : (Tryz.prog.info? 87).map (fun i => (i.zero, i.size, i.bytes)) = some (some (.agg (itemV it0).toArray), 22, 240) := by kernel_rfl
set_option maxHeartbeats 1600000 in
theorem prs_page (b : Nat) (l : List UInt8) (vp vc : Value) (init : List PageV) (last : Option PageV) (clips : List ClipV) (w : World) (h : PSt w b vp vc init last clips) (hE : Env w) (hl : l.length ≤ 1100000) (hnp : (init ++ last.toList).length ≤ 5000000) (hnc : clips.length ≤ 5000000)
    (hwd : (rWord ⟨splitC 32 l, false⟩).1 = [112, 97, 103, 101]) :
    Calls Tryz.prog 53 #[.pointer (some ⟨b, 0, none⟩), .string (bs l)] w fun e w' => LineOk b vp vc last (rLine (splitC 32 l) (psOf init last clips)) w e w' := by
  obtain ⟨hbw, hpl, hcl, hll⟩ := h.lt
  have hsl := splitC_len 32 l
  obtain ⟨ppg, cpg, evp, -, -, hpob, -⟩ := h.op.mk
  obtain ⟨pcl, ccl, evc, -⟩ := h.oc.mk
  subst evp evc
  have hrl := rLine_page (p := psOf init last clips) hwd
  refine W.enter func53 rfl ntmps53 (Nat.le_of_ble_eq_true rfl) ?_
  refine W.sr <| WL.z rfl rfl ?_
  refine W.sr <| WL.m rfl rfl <| WL.c1 hb52 rfl rfl ((lib_Split l 32 _ hE oO)) (fun w1 hw1 => ?_)
  obtain ⟨hB1, hrow1, hsz1⟩ := hw1
  refine WL.p (.buildL (ps := _) blt129 rfl rfl rfl pS) rfl ?_
  refine WL.box rfl rfl (fun b2 wb2 eb2 hkb2 hub2 hsb2 => ?_)
  have hRd : Rdr wb2 b2 ⟨splitC 32 l, false⟩ := ⟨_, _, hkb2, hrow1.below (Upd.below (Below.refl b2 _) (Nat.le_refl _) hub2) (fun _ => by show w.heap.size < _; omega), fun _ => by show w.heap.size < _; omega, Nat.le_refl _, fun x hx => by have := hsl.2 x hx; omega⟩
  have hBr : Below w.heap.size w wb2 := hB1.trans (Upd.below (Below.refl w.heap.size _) oO hub2)
  have hEr : ∀ w1, Below b2 wb2 w1 → Env w1 := fun w1 hb => hE.below (hBr.trans (hb.mono oO))
  have hrw : w.heap.size < b2 := by omega
  refine WL.z rfl rfl ?_
  refine W.seq <| W.sr <| WL.m rfl rfl <| WL.c1 hb92 rfl rfl ((rdr_word b2 _ _ hRd)) (fun w3 hw3 => ?_)
  obtain ⟨hR1, hT1⟩ := hw3
  have hB2 := hBr.trans (hT1.below hBr.size oO)
  have hk1 := (h.below hB2).blk
  refine WL.z rfl rfl ?_
  refine W.sr <| WL.m rfl rfl <| WL.nil <| ?_
  refine W.block <| W.sr <| WL.p (.bis (true) (.eqs rfl rfl) (by exact decide_eq_true hwd)) rfl <| WL.z rfl rfl ?_
  refine W.condT rfl rfl ?_
  refine W.seq <| W.sr <| WL.m rfl rfl <| WL.p (.nck rfl) rfl <| WL.p (.fa underlying92 rfl sizeOf81 dD rfl) rfl <| WL.r (Rd.ld (isAgg81 _) rfl hk1 rfl) rfl <| WL.p (.lenS underlying81 rfl) rfl <| WL.p (.gtr rfl rfl) rfl <| WL.nil <| ?_
  refine W.cond rfl (fun h4 => ?_) (fun h4 => ?_)
  · have h4' := dT h4
    refine W.sr <| WL.z rfl rfl ?_
    refine W.ret (W.ret1 rfl rfl ?_)
    first
    | (have hn : rLine (splitC 32 l) (psOf init last clips) = none := by
         rw [hrl, if_pos]
         intro e
         have h2 : clips.map erClip = [] := e
         have h3 : clips.length = 0 := by rw [← List.length_map (f := erClip), h2]; rfl
         omega
       rw [hn]
       exact ⟨rfl, hB2.mono oO, fun ps hps => by cases hps⟩)
    | (have hc0 : clips = [] := List.length_eq_zero_iff.1 oO
       rw [if_neg (by rw [hc0]; simp [psOf])] at hrl
       rw [hrl, fin_eq]
       refine ⟨scr_val ?_, hBF, fun ps hps => ?_⟩
       · split <;> simp_all
       · split at hps
         · cases hps
           exact ⟨_, _, _, _, _, hpsF, by simp [psOf, erPage], fun g hgd => ⟨(hmv g (hgd.grow hB5.size)).1, (hmv g (hgd.grow hB5.size)).2.trans (hB5.block g hgd.2.1)⟩⟩
         · cases hps)
  have h4' := dF h4
  refine W.skip <| W.sr <| WL.m rfl rfl <| WL.c1 hb93 rfl rfl ((rdr_number b2 _ _ hR1)) (fun w5 hw5 => ?_)
  obtain ⟨hR2, hT2⟩ := hw5
  have hB3 := hB2.trans (hT2.below hB2.size oO)
  have hk2 := (h.below hB3).blk
  refine WL.z rfl rfl ?_
  refine W.regY 14 rfl mixed (fun w6 dw6 => ?_)
  have hk7 := hk2.drew dw6
  refine WY.tk 0 rfl (.mv rfl) rfl ?_
  refine WY.tk 1 rfl (.mv rfl) rfl ?_
  refine WY.tk 2 rfl (.nck rfl) rfl ?_
  refine WY.tk 3 rfl (.fa underlying92 rfl sizeOf47 dD rfl) rfl ?_
  refine WY.tk 5 rfl (.mv rfl) rfl ?_
  refine WY.tk 6 rfl (.mv rfl) rfl ?_
  refine WY.br2 4 rfl 7 rfl ?_ ?_
  refine WL.r (Rd.ld (isAgg47 _) rfl hk7 rfl) rfl <| WL.nil <| ?_
  refine WY.br1 7 rfl ?_
  refine WL.c1 hb93 rfl rfl ((rdr_number b2 _ _ (hR2.below (Drew.below (Below.refl (b2 + 1) _) dw6) (Nat.lt_succ_self _)))) (fun w8 hw8 => ?_)
  obtain ⟨hR3, hT3⟩ := hw8
  have hB3d := Drew.below hB3 dw6
  have hB4 := hB3d.trans (hT3.below hB3d.size oO)
  have hk3 := (h.below hB4).blk
  obtain ⟨pr, cr, hkr, -⟩ := hR3.blk
  refine WL.nil <| ?_
  refine WY.tk 8 rfl (.buildL (ps := _) blt76 rfl rfl rfl pS) rfl ?_
  refine WY.br1 9 rfl ?_
  refine WL.bslM (L := pageL) (ps := _) ([pageN (rNum (rWord ⟨splitC 32 l, false⟩).2).1 (rNum (rNum (rWord ⟨splitC 32 l, false⟩).2).2).1]) underlying47 sizeOf76 zeroValue76 rfl rfl rfl rfl rfl (by first | rfl | decide) rfl rfl (fun b9 wb9 eb9 hob9 hub9 hsb9 => ?_)
  have hl11 : b < b9 := by rw [eb9]; exact hk3.lt
  have hk10 := hk3.upd hub9 (Nat.ne_of_lt hl11)
  have hl13 : b2 < b9 := by rw [eb9]; exact hkr.lt
  have hk12 := hkr.upd hub9 (Nat.ne_of_lt hl13)
  have hleb9 : b9 ≤ wb9.heap.size := by omega
  refine WL.nil <| ?_
  refine WY.br1 10 rfl ?_
  have hB5 := Upd.below hB4 oO hub9
  have hps5 := h.below hB5
  have hop5 := hps5.op
  have hle5 : b + 1 ≤ wb9.heap.size := hps5.blk.lt
  have hkr5 := hk12
  refine WL.appM underlying47 inf76 rfl rfl rfl hop5 rfl (hob9).rowp (by simp only [List.length_cons, List.length_nil]; omega) (hle5) rfl (fun h => nomatch h) (fun v14 w15 how15 hbw15 hgw15 hfw15 => ?_)
  have hk16 := hk10.below hbw15 oO
  have hle17 := Nat.le_trans hle5 hbw15.size
  have hoA := how15
  have hkr6 : Blk w15 b2 #[.slice pr (rNum (rNum (rWord ⟨splitC 32 l, false⟩).2).2).2.ws.length cr, .bool (rNum (rNum (rWord ⟨splitC 32 l, false⟩).2).2).2.bad] 129 := (hgw15.block b2 hkr5.lt (fun e => by have := (hpl _ e.symm).2; omega)).trans hkr5
  have hbA := hbw15
  have hgA := hgw15
  have hfA := hfw15
  refine WL.nil <| ?_
  refine WY.tk 11 rfl (.nck rfl) rfl ?_
  refine WY.tk 12 rfl (.fa underlying92 rfl sizeOf47 dD rfl) rfl ?_
  refine WY.br1 13 rfl ?_
  refine WL.st sizeOf47 rfl rfl (how15).one hk16 oD (fun w18 hkw18 huw18 hsw18 => ?_)
  have hkw18 : Blk w18 b _ _ := hkw18
  have huw18 : Upd b _ _ := huw18
  have hle20 := Nat.le_trans hle17 huw18.size
  have hk21 := hkr6.up huw18
  obtain ⟨hpsF, hmv⟩ := hps5.addPage hoA hgA hfA huw18 hkw18 (fits_wf (rNum_fits _)) (fits_wf (rNum_fits _))
  have hBF : Below b w w18 := (hB5.mono oO).trans (Upd.below (hbA.mono (Nat.le_succ b)) (Nat.le_refl _) huw18)
  refine WL.nil <| ?_
  refine WY.done kR ?_
  refine W.sr <| WL.m rfl rfl <| WL.p (.nck rfl) rfl <| WL.p (.fa underlying129 rfl sizeOf4 dD rfl) rfl <| WL.r (Rd.ld (isAgg4 _) rfl hk21 rfl) rfl <| WL.p (.not rfl) rfl <| WL.m rfl rfl <| WL.gd rfl rfl rfl (fun g22 => ?_) (fun g22 => ?_)
  · have g22' := (nT g22)
    refine WL.m rfl rfl <| WL.gy rfl rfl rfl (by rw [(nT g22)] <;> rfl) <| WL.p (.nck rfl) rfl <| WL.gy rfl rfl rfl (by rw [(nT g22)] <;> rfl) <| WL.p (.fa underlying129 rfl sizeOf28 dD rfl) rfl <| WL.gy rfl rfl rfl (by rw [(nT g22)] <;> rfl) <| WL.r (Rd.ld (isAgg28 _) rfl hk21 rfl) rfl <| WL.gy rfl rfl rfl (by rw [(nT g22)] <;> rfl) <| WL.p (.lenS underlying28 rfl) rfl <| WL.gy rfl rfl rfl (by rw [(nT g22)] <;> rfl) <| WL.p (.eql rfl rfl) rfl <| WL.p (.pkT rfl (by rw [(nT g22)] <;> rfl) rfl) rfl <| WL.z rfl rfl ?_
    refine W.ret (W.ret1 rfl rfl ?_)
    first
    | (have hn : rLine (splitC 32 l) (psOf init last clips) = none := by
         rw [hrl, if_pos]
         intro e
         have h2 : clips.map erClip = [] := e
         have h3 : clips.length = 0 := by rw [← List.length_map (f := erClip), h2]; rfl
         omega
       rw [hn]
       exact ⟨rfl, hB2.mono oO, fun ps hps => by cases hps⟩)
    | (have hc0 : clips = [] := List.length_eq_zero_iff.1 oO
       rw [if_neg (by rw [hc0]; simp [psOf])] at hrl
       rw [hrl, fin_eq]
       refine ⟨scr_val ?_, hBF, fun ps hps => ?_⟩
       · split <;> simp_all
       · split at hps
         · cases hps
           exact ⟨_, _, _, _, _, hpsF, by simp [psOf, erPage], fun g hgd => ⟨(hmv g (hgd.grow hB5.size)).1, (hmv g (hgd.grow hB5.size)).2.trans (hB5.block g hgd.2.1)⟩⟩
         · cases hps)
  have g22' := (nF g22)
  refine WL.gn rfl rfl rfl (by rw [(nF g22)] <;> rfl) <| WL.gn rfl rfl rfl (by rw [(nF g22)] <;> rfl) <| WL.gn rfl rfl rfl (by rw [(nF g22)] <;> rfl) <| WL.gn rfl rfl rfl (by rw [(nF g22)] <;> rfl) <| WL.gn rfl rfl rfl (by rw [(nF g22)] <;> rfl) <| WL.p (.pkF rfl (by rw [(nF g22)] <;> rfl) rfl) rfl <| WL.z rfl rfl ?_
  refine W.ret (W.ret1 rfl rfl ?_)
  first
  | (have hn : rLine (splitC 32 l) (psOf init last clips) = none := by
       rw [hrl, if_pos]
       intro e
       have h2 : clips.map erClip = [] := e
       have h3 : clips.length = 0 := by rw [← List.length_map (f := erClip), h2]; rfl
       omega
     rw [hn]
     exact ⟨rfl, hB2.mono oO, fun ps hps => by cases hps⟩)
  | (have hc0 : clips = [] := List.length_eq_zero_iff.1 oO
     rw [if_neg (by rw [hc0]; simp [psOf])] at hrl
     rw [hrl, fin_eq]
     refine ⟨scr_val ?_, hBF, fun ps hps => ?_⟩
     · split <;> simp_all
     · split at hps
       · cases hps
         exact ⟨_, _, _, _, _, hpsF, by simp [psOf, erPage], fun g hgd => ⟨(hmv g (hgd.grow hB5.size)).1, (hmv g (hgd.grow hB5.size)).2.trans (hB5.block g hgd.2.1)⟩⟩
       · cases hps)
  refine WL.c1 hb93 rfl rfl ((rdr_number b2 _ _ (hR2.below (Drew.below (Below.refl (b2 + 1) _) dw6) (Nat.lt_succ_self _)))) (fun w23 hw23 => ?_)
  obtain ⟨hR3, hT3⟩ := hw23
  have hB3d := Drew.below hB3 dw6
  have hB4 := hB3d.trans (hT3.below hB3d.size oO)
  have hk3 := (h.below hB4).blk
  obtain ⟨pr, cr, hkr, -⟩ := hR3.blk
  refine WL.nil <| ?_
  refine WY.tk 8 rfl (.buildL (ps := _) blt76 rfl rfl rfl pS) rfl ?_
  refine WY.br2 4 rfl 9 rfl ?_ ?_
  refine WL.r (Rd.ld (isAgg47 _) rfl hk3 rfl) rfl <| WL.nil <| ?_
  refine WY.br1 9 rfl ?_
  refine WL.bslM (L := pageL) (ps := _) ([pageN (rNum (rWord ⟨splitC 32 l, false⟩).2).1 (rNum (rNum (rWord ⟨splitC 32 l, false⟩).2).2).1]) underlying47 sizeOf76 zeroValue76 rfl rfl rfl rfl rfl (by first | rfl | decide) rfl rfl (fun b24 wb24 eb24 hob24 hub24 hsb24 => ?_)
  have hl26 : b < b24 := by rw [eb24]; exact hk3.lt
  have hk25 := hk3.upd hub24 (Nat.ne_of_lt hl26)
  have hl28 : b2 < b24 := by rw [eb24]; exact hkr.lt
  have hk27 := hkr.upd hub24 (Nat.ne_of_lt hl28)
  have hleb24 : b24 ≤ wb24.heap.size := by omega
  refine WL.nil <| ?_
  refine WY.br1 10 rfl ?_
  have hB5 := Upd.below hB4 oO hub24
  have hps5 := h.below hB5
  have hop5 := hps5.op
  have hle5 : b + 1 ≤ wb24.heap.size := hps5.blk.lt
  have hkr5 := hk27
  refine WL.appM underlying47 inf76 rfl rfl rfl hop5 rfl (hob24).rowp (by simp only [List.length_cons, List.length_nil]; omega) (hle5) rfl (fun h => nomatch h) (fun v29 w30 how30 hbw30 hgw30 hfw30 => ?_)
  have hk31 := hk25.below hbw30 oO
  have hle32 := Nat.le_trans hle5 hbw30.size
  have hoA := how30
  have hkr6 : Blk w30 b2 #[.slice pr (rNum (rNum (rWord ⟨splitC 32 l, false⟩).2).2).2.ws.length cr, .bool (rNum (rNum (rWord ⟨splitC 32 l, false⟩).2).2).2.bad] 129 := (hgw30.block b2 hkr5.lt (fun e => by have := (hpl _ e.symm).2; omega)).trans hkr5
  have hbA := hbw30
  have hgA := hgw30
  have hfA := hfw30
  refine WL.nil <| ?_
  refine WY.tk 11 rfl (.nck rfl) rfl ?_
  refine WY.tk 12 rfl (.fa underlying92 rfl sizeOf47 dD rfl) rfl ?_
  refine WY.br1 13 rfl ?_
  refine WL.st sizeOf47 rfl rfl (how30).one hk31 oD (fun w33 hkw33 huw33 hsw33 => ?_)
  have hkw33 : Blk w33 b _ _ := hkw33
  have huw33 : Upd b _ _ := huw33
  have hle35 := Nat.le_trans hle32 huw33.size
  have hk36 := hkr6.up huw33
  obtain ⟨hpsF, hmv⟩ := hps5.addPage hoA hgA hfA huw33 hkw33 (fits_wf (rNum_fits _)) (fits_wf (rNum_fits _))
  have hBF : Below b w w33 := (hB5.mono oO).trans (Upd.below (hbA.mono (Nat.le_succ b)) (Nat.le_refl _) huw33)
  refine WL.nil <| ?_
  refine WY.done kR ?_
  refine W.sr <| WL.m rfl rfl <| WL.p (.nck rfl) rfl <| WL.p (.fa underlying129 rfl sizeOf4 dD rfl) rfl <| WL.r (Rd.ld (isAgg4 _) rfl hk36 rfl) rfl <| WL.p (.not rfl) rfl <| WL.m rfl rfl <| WL.gd rfl rfl rfl (fun g37 => ?_) (fun g37 => ?_)
  · have g37' := (nT g37)
    refine WL.m rfl rfl <| WL.gy rfl rfl rfl (by rw [(nT g37)] <;> rfl) <| WL.p (.nck rfl) rfl <| WL.gy rfl rfl rfl (by rw [(nT g37)] <;> rfl) <| WL.p (.fa underlying129 rfl sizeOf28 dD rfl) rfl <| WL.gy rfl rfl rfl (by rw [(nT g37)] <;> rfl) <| WL.r (Rd.ld (isAgg28 _) rfl hk36 rfl) rfl <| WL.gy rfl rfl rfl (by rw [(nT g37)] <;> rfl) <| WL.p (.lenS underlying28 rfl) rfl <| WL.gy rfl rfl rfl (by rw [(nT g37)] <;> rfl) <| WL.p (.eql rfl rfl) rfl <| WL.p (.pkT rfl (by rw [(nT g37)] <;> rfl) rfl) rfl <| WL.z rfl rfl ?_
    refine W.ret (W.ret1 rfl rfl ?_)
    first
    | (have hn : rLine (splitC 32 l) (psOf init last clips) = none := by
         rw [hrl, if_pos]
         intro e
         have h2 : clips.map erClip = [] := e
         have h3 : clips.length = 0 := by rw [← List.length_map (f := erClip), h2]; rfl
         omega
       rw [hn]
       exact ⟨rfl, hB2.mono oO, fun ps hps => by cases hps⟩)
    | (have hc0 : clips = [] := List.length_eq_zero_iff.1 oO
       rw [if_neg (by rw [hc0]; simp [psOf])] at hrl
       rw [hrl, fin_eq]
       refine ⟨scr_val ?_, hBF, fun ps hps => ?_⟩
       · split <;> simp_all
       · split at hps
         · cases hps
           exact ⟨_, _, _, _, _, hpsF, by simp [psOf, erPage], fun g hgd => ⟨(hmv g (hgd.grow hB5.size)).1, (hmv g (hgd.grow hB5.size)).2.trans (hB5.block g hgd.2.1)⟩⟩
         · cases hps)
  have g37' := (nF g37)
  refine WL.gn rfl rfl rfl (by rw [(nF g37)] <;> rfl) <| WL.gn rfl rfl rfl (by rw [(nF g37)] <;> rfl) <| WL.gn rfl rfl rfl (by rw [(nF g37)] <;> rfl) <| WL.gn rfl rfl rfl (by rw [(nF g37)] <;> rfl) <| WL.gn rfl rfl rfl (by rw [(nF g37)] <;> rfl) <| WL.p (.pkF rfl (by rw [(nF g37)] <;> rfl) rfl) rfl <| WL.z rfl rfl ?_
  refine W.ret (W.ret1 rfl rfl ?_)
  first
  | (have hn : rLine (splitC 32 l) (psOf init last clips) = none := by
       rw [hrl, if_pos]
       intro e
       have h2 : clips.map erClip = [] := e
       have h3 : clips.length = 0 := by rw [← List.length_map (f := erClip), h2]; rfl
       omega
     rw [hn]
     exact ⟨rfl, hB2.mono oO, fun ps hps => by cases hps⟩)
  | (have hc0 : clips = [] := List.length_eq_zero_iff.1 oO
     rw [if_neg (by rw [hc0]; simp [psOf])] at hrl
     rw [hrl, fin_eq]
     refine ⟨scr_val ?_, hBF, fun ps hps => ?_⟩
     · split <;> simp_all
     · split at hps
       · cases hps
         exact ⟨_, _, _, _, _, hpsF, by simp [psOf, erPage], fun g hgd => ⟨(hmv g (hgd.grow hB5.size)).1, (hmv g (hgd.grow hB5.size)).2.trans (hB5.block g hgd.2.1)⟩⟩
       · cases hps)
  refine WL.bslM (L := pageL) (ps := _) ([pageN (rNum (rWord ⟨splitC 32 l, false⟩).2).1 (rNum (rNum (rWord ⟨splitC 32 l, false⟩).2).2).1]) underlying47 sizeOf76 zeroValue76 rfl rfl rfl rfl rfl (by first | rfl | decide) rfl rfl (fun b38 wb38 eb38 hob38 hub38 hsb38 => ?_)
  have hl40 : b < b38 := by rw [eb38]; exact hk3.lt
  have hk39 := hk3.upd hub38 (Nat.ne_of_lt hl40)
  have hl42 : b2 < b38 := by rw [eb38]; exact hkr.lt
  have hk41 := hkr.upd hub38 (Nat.ne_of_lt hl42)
  have hleb38 : b38 ≤ wb38.heap.size := by omega
  refine WL.nil <| ?_
  refine WY.br1 4 rfl ?_
  refine WL.r (Rd.ld (isAgg47 _) rfl hk39 rfl) rfl <| WL.nil <| ?_
  refine WY.br1 10 rfl ?_
  have hB5 := Upd.below hB4 oO hub38
  have hps5 := h.below hB5
  have hop5 := hps5.op
  have hle5 : b + 1 ≤ wb38.heap.size := hps5.blk.lt
  have hkr5 := hk41
  refine WL.appM underlying47 inf76 rfl rfl rfl hop5 rfl (hob38).rowp (by simp only [List.length_cons, List.length_nil]; omega) (hle5) rfl (fun h => nomatch h) (fun v43 w44 how44 hbw44 hgw44 hfw44 => ?_)
  have hk45 := hk39.below hbw44 oO
  have hle46 := Nat.le_trans hle5 hbw44.size
  have hoA := how44
  have hkr6 : Blk w44 b2 #[.slice pr (rNum (rNum (rWord ⟨splitC 32 l, false⟩).2).2).2.ws.length cr, .bool (rNum (rNum (rWord ⟨splitC 32 l, false⟩).2).2).2.bad] 129 := (hgw44.block b2 hkr5.lt (fun e => by have := (hpl _ e.symm).2; omega)).trans hkr5
  have hbA := hbw44
  have hgA := hgw44
  have hfA := hfw44
  refine WL.nil <| ?_
  refine WY.tk 11 rfl (.nck rfl) rfl ?_
  refine WY.tk 12 rfl (.fa underlying92 rfl sizeOf47 dD rfl) rfl ?_
  refine WY.br1 13 rfl ?_
  refine WL.st sizeOf47 rfl rfl (how44).one hk45 oD (fun w47 hkw47 huw47 hsw47 => ?_)
  have hkw47 : Blk w47 b _ _ := hkw47
  have huw47 : Upd b _ _ := huw47
  have hle49 := Nat.le_trans hle46 huw47.size
  have hk50 := hkr6.up huw47
  obtain ⟨hpsF, hmv⟩ := hps5.addPage hoA hgA hfA huw47 hkw47 (fits_wf (rNum_fits _)) (fits_wf (rNum_fits _))
  have hBF : Below b w w47 := (hB5.mono oO).trans (Upd.below (hbA.mono (Nat.le_succ b)) (Nat.le_refl _) huw47)
  refine WL.nil <| ?_
  refine WY.done kR ?_
  refine W.sr <| WL.m rfl rfl <| WL.p (.nck rfl) rfl <| WL.p (.fa underlying129 rfl sizeOf4 dD rfl) rfl <| WL.r (Rd.ld (isAgg4 _) rfl hk50 rfl) rfl <| WL.p (.not rfl) rfl <| WL.m rfl rfl <| WL.gd rfl rfl rfl (fun g51 => ?_) (fun g51 => ?_)
  · have g51' := (nT g51)
    refine WL.m rfl rfl <| WL.gy rfl rfl rfl (by rw [(nT g51)] <;> rfl) <| WL.p (.nck rfl) rfl <| WL.gy rfl rfl rfl (by rw [(nT g51)] <;> rfl) <| WL.p (.fa underlying129 rfl sizeOf28 dD rfl) rfl <| WL.gy rfl rfl rfl (by rw [(nT g51)] <;> rfl) <| WL.r (Rd.ld (isAgg28 _) rfl hk50 rfl) rfl <| WL.gy rfl rfl rfl (by rw [(nT g51)] <;> rfl) <| WL.p (.lenS underlying28 rfl) rfl <| WL.gy rfl rfl rfl (by rw [(nT g51)] <;> rfl) <| WL.p (.eql rfl rfl) rfl <| WL.p (.pkT rfl (by rw [(nT g51)] <;> rfl) rfl) rfl <| WL.z rfl rfl ?_
    refine W.ret (W.ret1 rfl rfl ?_)
    first
    | (have hn : rLine (splitC 32 l) (psOf init last clips) = none := by
         rw [hrl, if_pos]
         intro e
         have h2 : clips.map erClip = [] := e
         have h3 : clips.length = 0 := by rw [← List.length_map (f := erClip), h2]; rfl
         omega
       rw [hn]
       exact ⟨rfl, hB2.mono oO, fun ps hps => by cases hps⟩)
    | (have hc0 : clips = [] := List.length_eq_zero_iff.1 oO
       rw [if_neg (by rw [hc0]; simp [psOf])] at hrl
       rw [hrl, fin_eq]
       refine ⟨scr_val ?_, hBF, fun ps hps => ?_⟩
       · split <;> simp_all
       · split at hps
         · cases hps
           exact ⟨_, _, _, _, _, hpsF, by simp [psOf, erPage], fun g hgd => ⟨(hmv g (hgd.grow hB5.size)).1, (hmv g (hgd.grow hB5.size)).2.trans (hB5.block g hgd.2.1)⟩⟩
         · cases hps)
  have g51' := (nF g51)
  refine WL.gn rfl rfl rfl (by rw [(nF g51)] <;> rfl) <| WL.gn rfl rfl rfl (by rw [(nF g51)] <;> rfl) <| WL.gn rfl rfl rfl (by rw [(nF g51)] <;> rfl) <| WL.gn rfl rfl rfl (by rw [(nF g51)] <;> rfl) <| WL.gn rfl rfl rfl (by rw [(nF g51)] <;> rfl) <| WL.p (.pkF rfl (by rw [(nF g51)] <;> rfl) rfl) rfl <| WL.z rfl rfl ?_
  refine W.ret (W.ret1 rfl rfl ?_)
  first
  | (have hn : rLine (splitC 32 l) (psOf init last clips) = none := by
       rw [hrl, if_pos]
       intro e
       have h2 : clips.map erClip = [] := e
       have h3 : clips.length = 0 := by rw [← List.length_map (f := erClip), h2]; rfl
       omega
     rw [hn]
     exact ⟨rfl, hB2.mono oO, fun ps hps => by cases hps⟩)
  | (have hc0 : clips = [] := List.length_eq_zero_iff.1 oO
     rw [if_neg (by rw [hc0]; simp [psOf])] at hrl
     rw [hrl, fin_eq]
     refine ⟨scr_val ?_, hBF, fun ps hps => ?_⟩
     · split <;> simp_all
     · split at hps
       · cases hps
         exact ⟨_, _, _, _, _, hpsF, by simp [psOf, erPage], fun g hgd => ⟨(hmv g (hgd.grow hB5.size)).1, (hmv g (hgd.grow hB5.size)).2.trans (hB5.block g hgd.2.1)⟩⟩
       · cases hps)
end
section
theorem rLine_clip {ws : List (List UInt8)} {p : PS} {wd : List UInt8} (hwd : (rWord ⟨ws, false⟩).1 = wd) (h : wd = [99, 108, 105, 112] ∨ wd = [101, 111, 99, 108, 105, 112]) : rLine ws p = if p.pages = [] then none else if fin (rPath (rWord ⟨ws, false⟩).2).2 then some ⟨p.pages, p.clips ++ [⟨none, (rPath (rWord ⟨ws, false⟩).2).1, 0, decide (wd = [101, 111, 99, 108, 105, 112])⟩]⟩ else none := by
 have h0 : ¬ wd = [112, 97, 103, 101] := by rintro rfl; rcases h with h | h <;> cases h
 unfold rLine; simp only [hwd, if_neg h0, if_pos h]
def clipN (p : Option Addr) (l : List SegV) (c : Nat) (eo : Bool) : ClipV := ⟨p, l, c, eo⟩
set_option maxHeartbeats 1600000 in
theorem prs_clip (b : Nat) (l : List UInt8) (vp vc : Value) (init : List PageV) (last : Option PageV) (clips : List ClipV) (w : World) (h : PSt w b vp vc init last clips) (hE : Env w) (hl : l.length ≤ 1100000) (hnp : (init ++ last.toList).length ≤ 5000000) (hnc : clips.length ≤ 5000000)
    (wd : List UInt8) (hwd : (rWord ⟨splitC 32 l, false⟩).1 = wd) (hw2 : wd = [99, 108, 105, 112] ∨ wd = [101, 111, 99, 108, 105, 112]) :
    Calls Tryz.prog 53 #[.pointer (some ⟨b, 0, none⟩), .string (bs l)] w fun e w' => LineOk b vp vc last (rLine (splitC 32 l) (psOf init last clips)) w e w' := by
  obtain ⟨hbw, hpl, hcl, hll⟩ := h.lt
  have hsl := splitC_len 32 l
  obtain ⟨ppg, cpg, evp, -⟩ := h.op.mk
  obtain ⟨pcl, ccl, evc, -⟩ := h.oc.mk
  subst evp evc
  have hrl := rLine_clip (p := psOf init last clips) hwd hw2
  have h0 : ¬ wd = [112, 97, 103, 101] := by rintro rfl; rcases hw2 with h | h <;> cases h
  have hwsl : (rWord ⟨splitC 32 l, false⟩).2.ws.length ≤ 1100001 := by rw [rWord_ws, List.length_tail]; have := hsl.1; simp only []; omega
  refine W.enter func53 rfl ntmps53 (Nat.le_of_ble_eq_true rfl) ?_
  refine W.sr <| WL.z rfl rfl ?_
  refine W.sr <| WL.m rfl rfl <| WL.c1 hb52 rfl rfl ((lib_Split l 32 _ hE oO)) (fun w1 hw1 => ?_)
  obtain ⟨hB1, hrow1, hsz1⟩ := hw1
  refine WL.p (.buildL (ps := _) blt129 rfl rfl rfl pS) rfl ?_
  refine WL.box rfl rfl (fun b2 wb2 eb2 hkb2 hub2 hsb2 => ?_)
  have hRd : Rdr wb2 b2 ⟨splitC 32 l, false⟩ := ⟨_, _, hkb2, hrow1.below (Upd.below (Below.refl b2 _) (Nat.le_refl _) hub2) (fun _ => by show w.heap.size < _; omega), fun _ => by show w.heap.size < _; omega, Nat.le_refl _, fun x hx => by have := hsl.2 x hx; omega⟩
  have hBr : Below w.heap.size w wb2 := hB1.trans (Upd.below (Below.refl w.heap.size _) oO hub2)
  have hrw : w.heap.size < b2 := by omega
  refine WL.z rfl rfl ?_
  refine W.seq <| W.sr <| WL.m rfl rfl <| WL.c1 hb92 rfl rfl ((rdr_word b2 _ _ hRd)) (fun w3 hw3 => ?_)
  obtain ⟨hR1, hT1⟩ := hw3
  have hB2 := hBr.trans (hT1.below hBr.size oO)
  have hk1 := (h.below hB2).blk
  rw [hwd]
  refine WL.z rfl rfl ?_
  refine W.sr <| WL.m rfl rfl <| WL.nil <| ?_
  refine W.block <| W.sr <| WL.p (.bis (false) (.eqs rfl rfl) (by exact decide_eq_false h0)) rfl <| WL.z rfl rfl ?_
  refine W.condF rfl rfl ?_
  refine W.seq <| W.sr <| WL.p (.eqs rfl rfl) rfl <| WL.z rfl rfl ?_
  refine W.cond rfl (fun h4 => ?_) (fun h4 => ?_)
  · have h4' := dT h4
    refine W.skip <| W.condT rfl h4 ?_
    refine W.seq <| W.sr <| WL.m rfl rfl <| WL.p (.nck rfl) rfl <| WL.p (.fa underlying92 rfl sizeOf47 dD rfl) rfl <| WL.r (Rd.ld (isAgg47 _) rfl hk1 rfl) rfl <| WL.p (.lenS underlying47 rfl) rfl <| WL.p (.eql rfl rfl) rfl <| WL.nil <| ?_
    refine W.cond rfl (fun h5 => ?_) (fun h5 => ?_)
    · have h5' := dT h5
      refine W.sr <| WL.z rfl rfl ?_
      refine W.ret (W.ret1 rfl rfl ?_)
      first
      | (have hn : rLine (splitC 32 l) (psOf init last clips) = none := by
           rw [hrl, if_pos]
           have h3 : (init ++ last.toList) = [] := List.length_eq_zero_iff.1 oO
           simp only [psOf, h3, List.map_nil]
         rw [hn]
         exact ⟨rfl, hB2.mono oO, fun ps hps => by cases hps⟩)
      | (have hc0 : ¬ (psOf init last clips).pages = [] := by
           intro e
           have h2 : (init ++ last.toList).map erPage = [] := e
           have h3 : (init ++ last.toList).length = 0 := by rw [← List.length_map (f := erPage), h2]; rfl
           omega
         rw [if_neg hc0] at hrl
         rw [hrl, fin_eq]
         refine ⟨scr_val ?_, hBF, fun ps hps => ?_⟩
         · split <;> simp_all
         · split at hps
           · cases hps
             exact ⟨_, _, _, _, _, hpsF, by simp [psOf, erClip, clipN], fun g hgd => ⟨(hmv g (hgd.grow hB5.size)).1, (hmv g (hgd.grow hB5.size)).2.trans (hB5.block g hgd.2.1)⟩⟩
           · cases hps)
    have h5' := dF h5
    refine W.skip <| W.regY 15 rfl mixed (fun w6 dw6 => ?_)
    have hk7 := hk1.drew dw6
    refine WY.tk 0 rfl (.mv rfl) rfl ?_
    refine WY.tk 1 rfl (.mv rfl) rfl ?_
    refine WY.tk 2 rfl (.nck rfl) rfl ?_
    refine WY.tk 3 rfl (.fa underlying92 rfl sizeOf81 dD rfl) rfl ?_
    refine WY.tk 5 rfl (.mv rfl) rfl ?_
    refine WY.tk 7 rfl (.mv rfl) rfl ?_
    refine WY.tk 8 rfl (.eqs rfl rfl) rfl ?_
    refine WY.br2 4 rfl 6 rfl ?_ ?_
    refine WL.r (Rd.ld (isAgg81 _) rfl hk7 rfl) rfl <| WL.nil <| ?_
    refine WY.br1 6 rfl ?_
    refine WL.call hb94 rfl rfl ((rdr_path b2 _ _ (hR1.below (Drew.below (Below.refl (b2 + 1) _) dw6) (Nat.lt_succ_self _)) oO)) (fun vq w8 hw8 => ?_)
    obtain ⟨hR3, ho3, hT3⟩ := hw8
    have hB3d := Drew.below hB2 dw6
    have hB4 := hB3d.trans (hT3.below hB3d.size oO)
    have hk3 := (h.below hB4).blk
    obtain ⟨pr, cr, hkr, -⟩ := hR3.blk
    obtain ⟨pq, cq, evq, hrq, hsq, hbq⟩ := ho3.sl
    subst evq
    have hszd := hB3d.size
    have hsz4 := hB4.size
    refine WL.nil <| ?_
    refine WY.tk 9 rfl (.buildL (ps := _) blt89 rfl rfl rfl pS) rfl ?_
    refine WY.br1 10 rfl ?_
    refine WL.bslM (L := clipL) (ps := _) ([clipN pq (rPath (rWord ⟨splitC 32 l, false⟩).2).1 cq (decide (wd = [101, 111, 99, 108, 105, 112]))]) underlying81 sizeOf89 zeroValue89 rfl rfl rfl rfl rfl (by first | rfl | decide) rfl rfl (fun b9 wb9 eb9 hob9 hub9 hsb9 => ?_)
    have hl11 : b < b9 := by rw [eb9]; exact hk3.lt
    have hk10 := hk3.upd hub9 (Nat.ne_of_lt hl11)
    have hl13 : b2 < b9 := by rw [eb9]; exact hkr.lt
    have hk12 := hkr.upd hub9 (Nat.ne_of_lt hl13)
    have hleb9 : b9 ≤ wb9.heap.size := by omega
    refine WL.nil <| ?_
    refine WY.br1 11 rfl ?_
    have hB5 := Upd.below hB4 oO hub9
    have hps5 := h.below hB5
    have hoc5 := hps5.oc
    have hle5 : b + 1 ≤ wb9.heap.size := hps5.blk.lt
    have hkr5 := hk12
    have hx5 : ClipOk wb9 (clipN pq (rPath (rWord ⟨splitC 32 l, false⟩).2).1 cq (decide (wd = [101, 111, 99, 108, 105, 112]))) := ⟨hrq.upd hub9 (fun h0 => by have := (hbq h0).2; omega), hsq, rPath_ok _ _⟩
    have hxi5 : ClipIn (Btw w.heap.size wb9.heap.size) (clipN pq (rPath (rWord ⟨splitC 32 l, false⟩).2).1 cq (decide (wd = [101, 111, 99, 108, 105, 112]))) := ⟨fun h0 => (hbq h0).mono oO oO⟩
    refine WL.appM underlying81 inf89 rfl rfl rfl hoc5 rfl (hob9).rowp (by simp only [List.length_cons, List.length_nil]; omega) (hle5) rfl (fun h => nomatch h) (fun v14 w15 how15 hbw15 hgw15 hfw15 => ?_)
    have hk16 := hk10.below hbw15 oO
    have hle17 := Nat.le_trans hle5 hbw15.size
    have hoA := how15
    have hkr6 : Blk w15 b2 #[.slice pr (rPath (rWord ⟨splitC 32 l, false⟩).2).2.ws.length cr, .bool (rPath (rWord ⟨splitC 32 l, false⟩).2).2.bad] 129 := (hgw15.block b2 hkr5.lt (fun e => by have := (hcl _ e.symm).2; omega)).trans hkr5
    have hbA := hbw15
    have hgA := hgw15
    have hfA := hfw15
    refine WL.nil <| ?_
    refine WY.tk 12 rfl (.nck rfl) rfl ?_
    refine WY.tk 13 rfl (.fa underlying92 rfl sizeOf81 dD rfl) rfl ?_
    refine WY.br1 14 rfl ?_
    refine WL.st sizeOf81 rfl rfl (how15).one hk16 oD (fun w18 hkw18 huw18 hsw18 => ?_)
    have hkw18 : Blk w18 b _ _ := hkw18
    have huw18 : Upd b _ _ := huw18
    have hle20 := Nat.le_trans hle17 huw18.size
    have hk21 := hkr6.up huw18
    obtain ⟨hpsF, hmv⟩ := h.addClip hB5 hx5 hxi5 hoA hgA hfA huw18 hkw18
    have hBF : Below b w w18 := (hB5.mono oO).trans (Upd.below (hbA.mono (Nat.le_succ b)) (Nat.le_refl _) huw18)
    refine WL.nil <| ?_
    refine WY.done kR ?_
    refine W.sr <| WL.m rfl rfl <| WL.p (.nck rfl) rfl <| WL.p (.fa underlying129 rfl sizeOf4 dD rfl) rfl <| WL.r (Rd.ld (isAgg4 _) rfl hk21 rfl) rfl <| WL.p (.not rfl) rfl <| WL.m rfl rfl <| WL.gd rfl rfl rfl (fun g22 => ?_) (fun g22 => ?_)
    · have g22' := (nT g22)
      refine WL.m rfl rfl <| WL.gy rfl rfl rfl (by rw [(nT g22)] <;> rfl) <| WL.p (.nck rfl) rfl <| WL.gy rfl rfl rfl (by rw [(nT g22)] <;> rfl) <| WL.p (.fa underlying129 rfl sizeOf28 dD rfl) rfl <| WL.gy rfl rfl rfl (by rw [(nT g22)] <;> rfl) <| WL.r (Rd.ld (isAgg28 _) rfl hk21 rfl) rfl <| WL.gy rfl rfl rfl (by rw [(nT g22)] <;> rfl) <| WL.p (.lenS underlying28 rfl) rfl <| WL.gy rfl rfl rfl (by rw [(nT g22)] <;> rfl) <| WL.p (.eql rfl rfl) rfl <| WL.p (.pkT rfl (by rw [(nT g22)] <;> rfl) rfl) rfl <| WL.z rfl rfl ?_
      refine W.ret (W.ret1 rfl rfl ?_)
      first
      | (have hn : rLine (splitC 32 l) (psOf init last clips) = none := by
           rw [hrl, if_pos]
           have h3 : (init ++ last.toList) = [] := List.length_eq_zero_iff.1 oO
           simp only [psOf, h3, List.map_nil]
         rw [hn]
         exact ⟨rfl, hB2.mono oO, fun ps hps => by cases hps⟩)
      | (have hc0 : ¬ (psOf init last clips).pages = [] := by
           intro e
           have h2 : (init ++ last.toList).map erPage = [] := e
           have h3 : (init ++ last.toList).length = 0 := by rw [← List.length_map (f := erPage), h2]; rfl
           omega
         rw [if_neg hc0] at hrl
         rw [hrl, fin_eq]
         refine ⟨scr_val ?_, hBF, fun ps hps => ?_⟩
         · split <;> simp_all
         · split at hps
           · cases hps
             exact ⟨_, _, _, _, _, hpsF, by simp [psOf, erClip, clipN], fun g hgd => ⟨(hmv g (hgd.grow hB5.size)).1, (hmv g (hgd.grow hB5.size)).2.trans (hB5.block g hgd.2.1)⟩⟩
           · cases hps)
    have g22' := (nF g22)
    refine WL.gn rfl rfl rfl (by rw [(nF g22)] <;> rfl) <| WL.gn rfl rfl rfl (by rw [(nF g22)] <;> rfl) <| WL.gn rfl rfl rfl (by rw [(nF g22)] <;> rfl) <| WL.gn rfl rfl rfl (by rw [(nF g22)] <;> rfl) <| WL.gn rfl rfl rfl (by rw [(nF g22)] <;> rfl) <| WL.p (.pkF rfl (by rw [(nF g22)] <;> rfl) rfl) rfl <| WL.z rfl rfl ?_
    refine W.ret (W.ret1 rfl rfl ?_)
    first
    | (have hn : rLine (splitC 32 l) (psOf init last clips) = none := by
         rw [hrl, if_pos]
         have h3 : (init ++ last.toList) = [] := List.length_eq_zero_iff.1 oO
         simp only [psOf, h3, List.map_nil]
       rw [hn]
       exact ⟨rfl, hB2.mono oO, fun ps hps => by cases hps⟩)
    | (have hc0 : ¬ (psOf init last clips).pages = [] := by
         intro e
         have h2 : (init ++ last.toList).map erPage = [] := e
         have h3 : (init ++ last.toList).length = 0 := by rw [← List.length_map (f := erPage), h2]; rfl
         omega
       rw [if_neg hc0] at hrl
       rw [hrl, fin_eq]
       refine ⟨scr_val ?_, hBF, fun ps hps => ?_⟩
       · split <;> simp_all
       · split at hps
         · cases hps
           exact ⟨_, _, _, _, _, hpsF, by simp [psOf, erClip, clipN], fun g hgd => ⟨(hmv g (hgd.grow hB5.size)).1, (hmv g (hgd.grow hB5.size)).2.trans (hB5.block g hgd.2.1)⟩⟩
         · cases hps)
    refine WL.call hb94 rfl rfl ((rdr_path b2 _ _ (hR1.below (Drew.below (Below.refl (b2 + 1) _) dw6) (Nat.lt_succ_self _)) oO)) (fun vq w23 hw23 => ?_)
    obtain ⟨hR3, ho3, hT3⟩ := hw23
    have hB3d := Drew.below hB2 dw6
    have hB4 := hB3d.trans (hT3.below hB3d.size oO)
    have hk3 := (h.below hB4).blk
    obtain ⟨pr, cr, hkr, -⟩ := hR3.blk
    obtain ⟨pq, cq, evq, hrq, hsq, hbq⟩ := ho3.sl
    subst evq
    have hszd := hB3d.size
    have hsz4 := hB4.size
    refine WL.nil <| ?_
    refine WY.tk 9 rfl (.buildL (ps := _) blt89 rfl rfl rfl pS) rfl ?_
    refine WY.br2 4 rfl 10 rfl ?_ ?_
    refine WL.r (Rd.ld (isAgg81 _) rfl hk3 rfl) rfl <| WL.nil <| ?_
    refine WY.br1 10 rfl ?_
    refine WL.bslM (L := clipL) (ps := _) ([clipN pq (rPath (rWord ⟨splitC 32 l, false⟩).2).1 cq (decide (wd = [101, 111, 99, 108, 105, 112]))]) underlying81 sizeOf89 zeroValue89 rfl rfl rfl rfl rfl (by first | rfl | decide) rfl rfl (fun b24 wb24 eb24 hob24 hub24 hsb24 => ?_)
    have hl26 : b < b24 := by rw [eb24]; exact hk3.lt
    have hk25 := hk3.upd hub24 (Nat.ne_of_lt hl26)
    have hl28 : b2 < b24 := by rw [eb24]; exact hkr.lt
    have hk27 := hkr.upd hub24 (Nat.ne_of_lt hl28)
    have hleb24 : b24 ≤ wb24.heap.size := by omega
    refine WL.nil <| ?_
    refine WY.br1 11 rfl ?_
    have hB5 := Upd.below hB4 oO hub24
    have hps5 := h.below hB5
    have hoc5 := hps5.oc
    have hle5 : b + 1 ≤ wb24.heap.size := hps5.blk.lt
    have hkr5 := hk27
    have hx5 : ClipOk wb24 (clipN pq (rPath (rWord ⟨splitC 32 l, false⟩).2).1 cq (decide (wd = [101, 111, 99, 108, 105, 112]))) := ⟨hrq.upd hub24 (fun h0 => by have := (hbq h0).2; omega), hsq, rPath_ok _ _⟩
    have hxi5 : ClipIn (Btw w.heap.size wb24.heap.size) (clipN pq (rPath (rWord ⟨splitC 32 l, false⟩).2).1 cq (decide (wd = [101, 111, 99, 108, 105, 112]))) := ⟨fun h0 => (hbq h0).mono oO oO⟩
    refine WL.appM underlying81 inf89 rfl rfl rfl hoc5 rfl (hob24).rowp (by simp only [List.length_cons, List.length_nil]; omega) (hle5) rfl (fun h => nomatch h) (fun v29 w30 how30 hbw30 hgw30 hfw30 => ?_)
    have hk31 := hk25.below hbw30 oO
    have hle32 := Nat.le_trans hle5 hbw30.size
    have hoA := how30
    have hkr6 : Blk w30 b2 #[.slice pr (rPath (rWord ⟨splitC 32 l, false⟩).2).2.ws.length cr, .bool (rPath (rWord ⟨splitC 32 l, false⟩).2).2.bad] 129 := (hgw30.block b2 hkr5.lt (fun e => by have := (hcl _ e.symm).2; omega)).trans hkr5
    have hbA := hbw30
    have hgA := hgw30
    have hfA := hfw30
    refine WL.nil <| ?_
    refine WY.tk 12 rfl (.nck rfl) rfl ?_
    refine WY.tk 13 rfl (.fa underlying92 rfl sizeOf81 dD rfl) rfl ?_
    refine WY.br1 14 rfl ?_
    refine WL.st sizeOf81 rfl rfl (how30).one hk31 oD (fun w33 hkw33 huw33 hsw33 => ?_)
    have hkw33 : Blk w33 b _ _ := hkw33
    have huw33 : Upd b _ _ := huw33
    have hle35 := Nat.le_trans hle32 huw33.size
    have hk36 := hkr6.up huw33
    obtain ⟨hpsF, hmv⟩ := h.addClip hB5 hx5 hxi5 hoA hgA hfA huw33 hkw33
    have hBF : Below b w w33 := (hB5.mono oO).trans (Upd.below (hbA.mono (Nat.le_succ b)) (Nat.le_refl _) huw33)
    refine WL.nil <| ?_
    refine WY.done kR ?_
    refine W.sr <| WL.m rfl rfl <| WL.p (.nck rfl) rfl <| WL.p (.fa underlying129 rfl sizeOf4 dD rfl) rfl <| WL.r (Rd.ld (isAgg4 _) rfl hk36 rfl) rfl <| WL.p (.not rfl) rfl <| WL.m rfl rfl <| WL.gd rfl rfl rfl (fun g37 => ?_) (fun g37 => ?_)
    · have g37' := (nT g37)
      refine WL.m rfl rfl <| WL.gy rfl rfl rfl (by rw [(nT g37)] <;> rfl) <| WL.p (.nck rfl) rfl <| WL.gy rfl rfl rfl (by rw [(nT g37)] <;> rfl) <| WL.p (.fa underlying129 rfl sizeOf28 dD rfl) rfl <| WL.gy rfl rfl rfl (by rw [(nT g37)] <;> rfl) <| WL.r (Rd.ld (isAgg28 _) rfl hk36 rfl) rfl <| WL.gy rfl rfl rfl (by rw [(nT g37)] <;> rfl) <| WL.p (.lenS underlying28 rfl) rfl <| WL.gy rfl rfl rfl (by rw [(nT g37)] <;> rfl) <| WL.p (.eql rfl rfl) rfl <| WL.p (.pkT rfl (by rw [(nT g37)] <;> rfl) rfl) rfl <| WL.z rfl rfl ?_
      refine W.ret (W.ret1 rfl rfl ?_)
      first
      | (have hn : rLine (splitC 32 l) (psOf init last clips) = none := by
           rw [hrl, if_pos]
           have h3 : (init ++ last.toList) = [] := List.length_eq_zero_iff.1 oO
           simp only [psOf, h3, List.map_nil]
         rw [hn]
         exact ⟨rfl, hB2.mono oO, fun ps hps => by cases hps⟩)
      | (have hc0 : ¬ (psOf init last clips).pages = [] := by
           intro e
           have h2 : (init ++ last.toList).map erPage = [] := e
           have h3 : (init ++ last.toList).length = 0 := by rw [← List.length_map (f := erPage), h2]; rfl
           omega
         rw [if_neg hc0] at hrl
         rw [hrl, fin_eq]
         refine ⟨scr_val ?_, hBF, fun ps hps => ?_⟩
         · split <;> simp_all
         · split at hps
           · cases hps
             exact ⟨_, _, _, _, _, hpsF, by simp [psOf, erClip, clipN], fun g hgd => ⟨(hmv g (hgd.grow hB5.size)).1, (hmv g (hgd.grow hB5.size)).2.trans (hB5.block g hgd.2.1)⟩⟩
           · cases hps)
    have g37' := (nF g37)
    refine WL.gn rfl rfl rfl (by rw [(nF g37)] <;> rfl) <| WL.gn rfl rfl rfl (by rw [(nF g37)] <;> rfl) <| WL.gn rfl rfl rfl (by rw [(nF g37)] <;> rfl) <| WL.gn rfl rfl rfl (by rw [(nF g37)] <;> rfl) <| WL.gn rfl rfl rfl (by rw [(nF g37)] <;> rfl) <| WL.p (.pkF rfl (by rw [(nF g37)] <;> rfl) rfl) rfl <| WL.z rfl rfl ?_
    refine W.ret (W.ret1 rfl rfl ?_)
    first
    | (have hn : rLine (splitC 32 l) (psOf init last clips) = none := by
         rw [hrl, if_pos]
         have h3 : (init ++ last.toList) = [] := List.length_eq_zero_iff.1 oO
         simp only [psOf, h3, List.map_nil]
       rw [hn]
       exact ⟨rfl, hB2.mono oO, fun ps hps => by cases hps⟩)
    | (have hc0 : ¬ (psOf init last clips).pages = [] := by
         intro e
         have h2 : (init ++ last.toList).map erPage = [] := e
         have h3 : (init ++ last.toList).length = 0 := by rw [← List.length_map (f := erPage), h2]; rfl
         omega
       rw [if_neg hc0] at hrl
       rw [hrl, fin_eq]
       refine ⟨scr_val ?_, hBF, fun ps hps => ?_⟩
       · split <;> simp_all
       · split at hps
         · cases hps
           exact ⟨_, _, _, _, _, hpsF, by simp [psOf, erClip, clipN], fun g hgd => ⟨(hmv g (hgd.grow hB5.size)).1, (hmv g (hgd.grow hB5.size)).2.trans (hB5.block g hgd.2.1)⟩⟩
         · cases hps)
    refine WL.bslM (L := clipL) (ps := _) ([clipN pq (rPath (rWord ⟨splitC 32 l, false⟩).2).1 cq (decide (wd = [101, 111, 99, 108, 105, 112]))]) underlying81 sizeOf89 zeroValue89 rfl rfl rfl rfl rfl (by first | rfl | decide) rfl rfl (fun b38 wb38 eb38 hob38 hub38 hsb38 => ?_)
    have hl40 : b < b38 := by rw [eb38]; exact hk3.lt
    have hk39 := hk3.upd hub38 (Nat.ne_of_lt hl40)
    have hl42 : b2 < b38 := by rw [eb38]; exact hkr.lt
    have hk41 := hkr.upd hub38 (Nat.ne_of_lt hl42)
    have hleb38 : b38 ≤ wb38.heap.size := by omega
    refine WL.nil <| ?_
    refine WY.br1 4 rfl ?_
    refine WL.r (Rd.ld (isAgg81 _) rfl hk39 rfl) rfl <| WL.nil <| ?_
    refine WY.br1 11 rfl ?_
    have hB5 := Upd.below hB4 oO hub38
    have hps5 := h.below hB5
    have hoc5 := hps5.oc
    have hle5 : b + 1 ≤ wb38.heap.size := hps5.blk.lt
    have hkr5 := hk41
    have hx5 : ClipOk wb38 (clipN pq (rPath (rWord ⟨splitC 32 l, false⟩).2).1 cq (decide (wd = [101, 111, 99, 108, 105, 112]))) := ⟨hrq.upd hub38 (fun h0 => by have := (hbq h0).2; omega), hsq, rPath_ok _ _⟩
    have hxi5 : ClipIn (Btw w.heap.size wb38.heap.size) (clipN pq (rPath (rWord ⟨splitC 32 l, false⟩).2).1 cq (decide (wd = [101, 111, 99, 108, 105, 112]))) := ⟨fun h0 => (hbq h0).mono oO oO⟩
    refine WL.appM underlying81 inf89 rfl rfl rfl hoc5 rfl (hob38).rowp (by simp only [List.length_cons, List.length_nil]; omega) (hle5) rfl (fun h => nomatch h) (fun v43 w44 how44 hbw44 hgw44 hfw44 => ?_)
    have hk45 := hk39.below hbw44 oO
    have hle46 := Nat.le_trans hle5 hbw44.size
    have hoA := how44
    have hkr6 : Blk w44 b2 #[.slice pr (rPath (rWord ⟨splitC 32 l, false⟩).2).2.ws.length cr, .bool (rPath (rWord ⟨splitC 32 l, false⟩).2).2.bad] 129 := (hgw44.block b2 hkr5.lt (fun e => by have := (hcl _ e.symm).2; omega)).trans hkr5
    have hbA := hbw44
    have hgA := hgw44
    have hfA := hfw44
    refine WL.nil <| ?_
    refine WY.tk 12 rfl (.nck rfl) rfl ?_
    refine WY.tk 13 rfl (.fa underlying92 rfl sizeOf81 dD rfl) rfl ?_
    refine WY.br1 14 rfl ?_
    refine WL.st sizeOf81 rfl rfl (how44).one hk45 oD (fun w47 hkw47 huw47 hsw47 => ?_)
    have hkw47 : Blk w47 b _ _ := hkw47
    have huw47 : Upd b _ _ := huw47
    have hle49 := Nat.le_trans hle46 huw47.size
    have hk50 := hkr6.up huw47
    obtain ⟨hpsF, hmv⟩ := h.addClip hB5 hx5 hxi5 hoA hgA hfA huw47 hkw47
    have hBF : Below b w w47 := (hB5.mono oO).trans (Upd.below (hbA.mono (Nat.le_succ b)) (Nat.le_refl _) huw47)
    refine WL.nil <| ?_
    refine WY.done kR ?_
    refine W.sr <| WL.m rfl rfl <| WL.p (.nck rfl) rfl <| WL.p (.fa underlying129 rfl sizeOf4 dD rfl) rfl <| WL.r (Rd.ld (isAgg4 _) rfl hk50 rfl) rfl <| WL.p (.not rfl) rfl <| WL.m rfl rfl <| WL.gd rfl rfl rfl (fun g51 => ?_) (fun g51 => ?_)
    · have g51' := (nT g51)
      refine WL.m rfl rfl <| WL.gy rfl rfl rfl (by rw [(nT g51)] <;> rfl) <| WL.p (.nck rfl) rfl <| WL.gy rfl rfl rfl (by rw [(nT g51)] <;> rfl) <| WL.p (.fa underlying129 rfl sizeOf28 dD rfl) rfl <| WL.gy rfl rfl rfl (by rw [(nT g51)] <;> rfl) <| WL.r (Rd.ld (isAgg28 _) rfl hk50 rfl) rfl <| WL.gy rfl rfl rfl (by rw [(nT g51)] <;> rfl) <| WL.p (.lenS underlying28 rfl) rfl <| WL.gy rfl rfl rfl (by rw [(nT g51)] <;> rfl) <| WL.p (.eql rfl rfl) rfl <| WL.p (.pkT rfl (by rw [(nT g51)] <;> rfl) rfl) rfl <| WL.z rfl rfl ?_
      refine W.ret (W.ret1 rfl rfl ?_)
      first
      | (have hn : rLine (splitC 32 l) (psOf init last clips) = none := by
           rw [hrl, if_pos]
           have h3 : (init ++ last.toList) = [] := List.length_eq_zero_iff.1 oO
           simp only [psOf, h3, List.map_nil]
         rw [hn]
         exact ⟨rfl, hB2.mono oO, fun ps hps => by cases hps⟩)
      | (have hc0 : ¬ (psOf init last clips).pages = [] := by
           intro e
           have h2 : (init ++ last.toList).map erPage = [] := e
           have h3 : (init ++ last.toList).length = 0 := by rw [← List.length_map (f := erPage), h2]; rfl
           omega
         rw [if_neg hc0] at hrl
         rw [hrl, fin_eq]
         refine ⟨scr_val ?_, hBF, fun ps hps => ?_⟩
         · split <;> simp_all
         · split at hps
           · cases hps
             exact ⟨_, _, _, _, _, hpsF, by simp [psOf, erClip, clipN], fun g hgd => ⟨(hmv g (hgd.grow hB5.size)).1, (hmv g (hgd.grow hB5.size)).2.trans (hB5.block g hgd.2.1)⟩⟩
           · cases hps)
    have g51' := (nF g51)
    refine WL.gn rfl rfl rfl (by rw [(nF g51)] <;> rfl) <| WL.gn rfl rfl rfl (by rw [(nF g51)] <;> rfl) <| WL.gn rfl rfl rfl (by rw [(nF g51)] <;> rfl) <| WL.gn rfl rfl rfl (by rw [(nF g51)] <;> rfl) <| WL.gn rfl rfl rfl (by rw [(nF g51)] <;> rfl) <| WL.p (.pkF rfl (by rw [(nF g51)] <;> rfl) rfl) rfl <| WL.z rfl rfl ?_
    refine W.ret (W.ret1 rfl rfl ?_)
    first
    | (have hn : rLine (splitC 32 l) (psOf init last clips) = none := by
         rw [hrl, if_pos]
         have h3 : (init ++ last.toList) = [] := List.length_eq_zero_iff.1 oO
         simp only [psOf, h3, List.map_nil]
       rw [hn]
       exact ⟨rfl, hB2.mono oO, fun ps hps => by cases hps⟩)
    | (have hc0 : ¬ (psOf init last clips).pages = [] := by
         intro e
         have h2 : (init ++ last.toList).map erPage = [] := e
         have h3 : (init ++ last.toList).length = 0 := by rw [← List.length_map (f := erPage), h2]; rfl
         omega
       rw [if_neg hc0] at hrl
       rw [hrl, fin_eq]
       refine ⟨scr_val ?_, hBF, fun ps hps => ?_⟩
       · split <;> simp_all
       · split at hps
         · cases hps
           exact ⟨_, _, _, _, _, hpsF, by simp [psOf, erClip, clipN], fun g hgd => ⟨(hmv g (hgd.grow hB5.size)).1, (hmv g (hgd.grow hB5.size)).2.trans (hB5.block g hgd.2.1)⟩⟩
         · cases hps)
  have h4' := dF h4
  refine W.reg <| WL.p (.bis (true) (.eqs rfl rfl) (by exact decide_eq_true (hw2.resolve_left aS))) rfl <| WL.z rfl rfl ?_
  refine W.condT rfl rfl ?_
  refine W.seq <| W.sr <| WL.m rfl rfl <| WL.p (.nck rfl) rfl <| WL.p (.fa underlying92 rfl sizeOf47 dD rfl) rfl <| WL.r (Rd.ld (isAgg47 _) rfl hk1 rfl) rfl <| WL.p (.lenS underlying47 rfl) rfl <| WL.p (.eql rfl rfl) rfl <| WL.nil <| ?_
  refine W.cond rfl (fun h52 => ?_) (fun h52 => ?_)
  · have h52' := dT h52
    refine W.sr <| WL.z rfl rfl ?_
    refine W.ret (W.ret1 rfl rfl ?_)
    first
    | (have hn : rLine (splitC 32 l) (psOf init last clips) = none := by
         rw [hrl, if_pos]
         have h3 : (init ++ last.toList) = [] := List.length_eq_zero_iff.1 oO
         simp only [psOf, h3, List.map_nil]
       rw [hn]
       exact ⟨rfl, hB2.mono oO, fun ps hps => by cases hps⟩)
    | (have hc0 : ¬ (psOf init last clips).pages = [] := by
         intro e
         have h2 : (init ++ last.toList).map erPage = [] := e
         have h3 : (init ++ last.toList).length = 0 := by rw [← List.length_map (f := erPage), h2]; rfl
         omega
       rw [if_neg hc0] at hrl
       rw [hrl, fin_eq]
       refine ⟨scr_val ?_, hBF, fun ps hps => ?_⟩
       · split <;> simp_all
       · split at hps
         · cases hps
           exact ⟨_, _, _, _, _, hpsF, by simp [psOf, erClip, clipN], fun g hgd => ⟨(hmv g (hgd.grow hB5.size)).1, (hmv g (hgd.grow hB5.size)).2.trans (hB5.block g hgd.2.1)⟩⟩
         · cases hps)
  have h52' := dF h52
  refine W.skip <| W.regY 15 rfl mixed (fun w53 dw53 => ?_)
  have hk54 := hk1.drew dw53
  refine WY.tk 0 rfl (.mv rfl) rfl ?_
  refine WY.tk 1 rfl (.mv rfl) rfl ?_
  refine WY.tk 2 rfl (.nck rfl) rfl ?_
  refine WY.tk 3 rfl (.fa underlying92 rfl sizeOf81 dD rfl) rfl ?_
  refine WY.tk 5 rfl (.mv rfl) rfl ?_
  refine WY.tk 7 rfl (.mv rfl) rfl ?_
  refine WY.tk 8 rfl (.eqs rfl rfl) rfl ?_
  refine WY.br2 4 rfl 6 rfl ?_ ?_
  refine WL.r (Rd.ld (isAgg81 _) rfl hk54 rfl) rfl <| WL.nil <| ?_
  refine WY.br1 6 rfl ?_
  refine WL.call hb94 rfl rfl ((rdr_path b2 _ _ (hR1.below (Drew.below (Below.refl (b2 + 1) _) dw53) (Nat.lt_succ_self _)) oO)) (fun vq w55 hw55 => ?_)
  obtain ⟨hR3, ho3, hT3⟩ := hw55
  have hB3d := Drew.below hB2 dw53
  have hB4 := hB3d.trans (hT3.below hB3d.size oO)
  have hk3 := (h.below hB4).blk
  obtain ⟨pr, cr, hkr, -⟩ := hR3.blk
  obtain ⟨pq, cq, evq, hrq, hsq, hbq⟩ := ho3.sl
  subst evq
  have hszd := hB3d.size
  have hsz4 := hB4.size
  refine WL.nil <| ?_
  refine WY.tk 9 rfl (.buildL (ps := _) blt89 rfl rfl rfl pS) rfl ?_
  refine WY.br1 10 rfl ?_
  refine WL.bslM (L := clipL) (ps := _) ([clipN pq (rPath (rWord ⟨splitC 32 l, false⟩).2).1 cq (decide (wd = [101, 111, 99, 108, 105, 112]))]) underlying81 sizeOf89 zeroValue89 rfl rfl rfl rfl rfl (by first | rfl | decide) rfl rfl (fun b56 wb56 eb56 hob56 hub56 hsb56 => ?_)
  have hl58 : b < b56 := by rw [eb56]; exact hk3.lt
  have hk57 := hk3.upd hub56 (Nat.ne_of_lt hl58)
  have hl60 : b2 < b56 := by rw [eb56]; exact hkr.lt
  have hk59 := hkr.upd hub56 (Nat.ne_of_lt hl60)
  have hleb56 : b56 ≤ wb56.heap.size := by omega
  refine WL.nil <| ?_
  refine WY.br1 11 rfl ?_
  have hB5 := Upd.below hB4 oO hub56
  have hps5 := h.below hB5
  have hoc5 := hps5.oc
  have hle5 : b + 1 ≤ wb56.heap.size := hps5.blk.lt
  have hkr5 := hk59
  have hx5 : ClipOk wb56 (clipN pq (rPath (rWord ⟨splitC 32 l, false⟩).2).1 cq (decide (wd = [101, 111, 99, 108, 105, 112]))) := ⟨hrq.upd hub56 (fun h0 => by have := (hbq h0).2; omega), hsq, rPath_ok _ _⟩
  have hxi5 : ClipIn (Btw w.heap.size wb56.heap.size) (clipN pq (rPath (rWord ⟨splitC 32 l, false⟩).2).1 cq (decide (wd = [101, 111, 99, 108, 105, 112]))) := ⟨fun h0 => (hbq h0).mono oO oO⟩
  refine WL.appM underlying81 inf89 rfl rfl rfl hoc5 rfl (hob56).rowp (by simp only [List.length_cons, List.length_nil]; omega) (hle5) rfl (fun h => nomatch h) (fun v61 w62 how62 hbw62 hgw62 hfw62 => ?_)
  have hk63 := hk57.below hbw62 oO
  have hle64 := Nat.le_trans hle5 hbw62.size
  have hoA := how62
  have hkr6 : Blk w62 b2 #[.slice pr (rPath (rWord ⟨splitC 32 l, false⟩).2).2.ws.length cr, .bool (rPath (rWord ⟨splitC 32 l, false⟩).2).2.bad] 129 := (hgw62.block b2 hkr5.lt (fun e => by have := (hcl _ e.symm).2; omega)).trans hkr5
  have hbA := hbw62
  have hgA := hgw62
  have hfA := hfw62
  refine WL.nil <| ?_
  refine WY.tk 12 rfl (.nck rfl) rfl ?_
  refine WY.tk 13 rfl (.fa underlying92 rfl sizeOf81 dD rfl) rfl ?_
  refine WY.br1 14 rfl ?_
  refine WL.st sizeOf81 rfl rfl (how62).one hk63 oD (fun w65 hkw65 huw65 hsw65 => ?_)
  have hkw65 : Blk w65 b _ _ := hkw65
  have huw65 : Upd b _ _ := huw65
  have hle67 := Nat.le_trans hle64 huw65.size
  have hk68 := hkr6.up huw65
  obtain ⟨hpsF, hmv⟩ := h.addClip hB5 hx5 hxi5 hoA hgA hfA huw65 hkw65
  have hBF : Below b w w65 := (hB5.mono oO).trans (Upd.below (hbA.mono (Nat.le_succ b)) (Nat.le_refl _) huw65)
  refine WL.nil <| ?_
  refine WY.done kR ?_
  refine W.sr <| WL.m rfl rfl <| WL.p (.nck rfl) rfl <| WL.p (.fa underlying129 rfl sizeOf4 dD rfl) rfl <| WL.r (Rd.ld (isAgg4 _) rfl hk68 rfl) rfl <| WL.p (.not rfl) rfl <| WL.m rfl rfl <| WL.gd rfl rfl rfl (fun g69 => ?_) (fun g69 => ?_)
  · have g69' := (nT g69)
    refine WL.m rfl rfl <| WL.gy rfl rfl rfl (by rw [(nT g69)] <;> rfl) <| WL.p (.nck rfl) rfl <| WL.gy rfl rfl rfl (by rw [(nT g69)] <;> rfl) <| WL.p (.fa underlying129 rfl sizeOf28 dD rfl) rfl <| WL.gy rfl rfl rfl (by rw [(nT g69)] <;> rfl) <| WL.r (Rd.ld (isAgg28 _) rfl hk68 rfl) rfl <| WL.gy rfl rfl rfl (by rw [(nT g69)] <;> rfl) <| WL.p (.lenS underlying28 rfl) rfl <| WL.gy rfl rfl rfl (by rw [(nT g69)] <;> rfl) <| WL.p (.eql rfl rfl) rfl <| WL.p (.pkT rfl (by rw [(nT g69)] <;> rfl) rfl) rfl <| WL.z rfl rfl ?_
    refine W.ret (W.ret1 rfl rfl ?_)
    first
    | (have hn : rLine (splitC 32 l) (psOf init last clips) = none := by
         rw [hrl, if_pos]
         have h3 : (init ++ last.toList) = [] := List.length_eq_zero_iff.1 oO
         simp only [psOf, h3, List.map_nil]
       rw [hn]
       exact ⟨rfl, hB2.mono oO, fun ps hps => by cases hps⟩)
    | (have hc0 : ¬ (psOf init last clips).pages = [] := by
         intro e
         have h2 : (init ++ last.toList).map erPage = [] := e
         have h3 : (init ++ last.toList).length = 0 := by rw [← List.length_map (f := erPage), h2]; rfl
         omega
       rw [if_neg hc0] at hrl
       rw [hrl, fin_eq]
       refine ⟨scr_val ?_, hBF, fun ps hps => ?_⟩
       · split <;> simp_all
       · split at hps
         · cases hps
           exact ⟨_, _, _, _, _, hpsF, by simp [psOf, erClip, clipN], fun g hgd => ⟨(hmv g (hgd.grow hB5.size)).1, (hmv g (hgd.grow hB5.size)).2.trans (hB5.block g hgd.2.1)⟩⟩
         · cases hps)
  have g69' := (nF g69)
  refine WL.gn rfl rfl rfl (by rw [(nF g69)] <;> rfl) <| WL.gn rfl rfl rfl (by rw [(nF g69)] <;> rfl) <| WL.gn rfl rfl rfl (by rw [(nF g69)] <;> rfl) <| WL.gn rfl rfl rfl (by rw [(nF g69)] <;> rfl) <| WL.gn rfl rfl rfl (by rw [(nF g69)] <;> rfl) <| WL.p (.pkF rfl (by rw [(nF g69)] <;> rfl) rfl) rfl <| WL.z rfl rfl ?_
  refine W.ret (W.ret1 rfl rfl ?_)
  first
  | (have hn : rLine (splitC 32 l) (psOf init last clips) = none := by
       rw [hrl, if_pos]
       have h3 : (init ++ last.toList) = [] := List.length_eq_zero_iff.1 oO
       simp only [psOf, h3, List.map_nil]
     rw [hn]
     exact ⟨rfl, hB2.mono oO, fun ps hps => by cases hps⟩)
  | (have hc0 : ¬ (psOf init last clips).pages = [] := by
       intro e
       have h2 : (init ++ last.toList).map erPage = [] := e
       have h3 : (init ++ last.toList).length = 0 := by rw [← List.length_map (f := erPage), h2]; rfl
       omega
     rw [if_neg hc0] at hrl
     rw [hrl, fin_eq]
     refine ⟨scr_val ?_, hBF, fun ps hps => ?_⟩
     · split <;> simp_all
     · split at hps
       · cases hps
         exact ⟨_, _, _, _, _, hpsF, by simp [psOf, erClip, clipN], fun g hgd => ⟨(hmv g (hgd.grow hB5.size)).1, (hmv g (hgd.grow hB5.size)).2.trans (hB5.block g hgd.2.1)⟩⟩
       · cases hps)
  refine WL.call hb94 rfl rfl ((rdr_path b2 _ _ (hR1.below (Drew.below (Below.refl (b2 + 1) _) dw53) (Nat.lt_succ_self _)) oO)) (fun vq w70 hw70 => ?_)
  obtain ⟨hR3, ho3, hT3⟩ := hw70
  have hB3d := Drew.below hB2 dw53
  have hB4 := hB3d.trans (hT3.below hB3d.size oO)
  have hk3 := (h.below hB4).blk
  obtain ⟨pr, cr, hkr, -⟩ := hR3.blk
  obtain ⟨pq, cq, evq, hrq, hsq, hbq⟩ := ho3.sl
  subst evq
  have hszd := hB3d.size
  have hsz4 := hB4.size
  refine WL.nil <| ?_
  refine WY.tk 9 rfl (.buildL (ps := _) blt89 rfl rfl rfl pS) rfl ?_
  refine WY.br2 4 rfl 10 rfl ?_ ?_
  refine WL.r (Rd.ld (isAgg81 _) rfl hk3 rfl) rfl <| WL.nil <| ?_
  refine WY.br1 10 rfl ?_
  refine WL.bslM (L := clipL) (ps := _) ([clipN pq (rPath (rWord ⟨splitC 32 l, false⟩).2).1 cq (decide (wd = [101, 111, 99, 108, 105, 112]))]) underlying81 sizeOf89 zeroValue89 rfl rfl rfl rfl rfl (by first | rfl | decide) rfl rfl (fun b71 wb71 eb71 hob71 hub71 hsb71 => ?_)
  have hl73 : b < b71 := by rw [eb71]; exact hk3.lt
  have hk72 := hk3.upd hub71 (Nat.ne_of_lt hl73)
  have hl75 : b2 < b71 := by rw [eb71]; exact hkr.lt
  have hk74 := hkr.upd hub71 (Nat.ne_of_lt hl75)
  have hleb71 : b71 ≤ wb71.heap.size := by omega
  refine WL.nil <| ?_
  refine WY.br1 11 rfl ?_
  have hB5 := Upd.below hB4 oO hub71
  have hps5 := h.below hB5
  have hoc5 := hps5.oc
  have hle5 : b + 1 ≤ wb71.heap.size := hps5.blk.lt
  have hkr5 := hk74
  have hx5 : ClipOk wb71 (clipN pq (rPath (rWord ⟨splitC 32 l, false⟩).2).1 cq (decide (wd = [101, 111, 99, 108, 105, 112]))) := ⟨hrq.upd hub71 (fun h0 => by have := (hbq h0).2; omega), hsq, rPath_ok _ _⟩
  have hxi5 : ClipIn (Btw w.heap.size wb71.heap.size) (clipN pq (rPath (rWord ⟨splitC 32 l, false⟩).2).1 cq (decide (wd = [101, 111, 99, 108, 105, 112]))) := ⟨fun h0 => (hbq h0).mono oO oO⟩
  refine WL.appM underlying81 inf89 rfl rfl rfl hoc5 rfl (hob71).rowp (by simp only [List.length_cons, List.length_nil]; omega) (hle5) rfl (fun h => nomatch h) (fun v76 w77 how77 hbw77 hgw77 hfw77 => ?_)
  have hk78 := hk72.below hbw77 oO
  have hle79 := Nat.le_trans hle5 hbw77.size
  have hoA := how77
  have hkr6 : Blk w77 b2 #[.slice pr (rPath (rWord ⟨splitC 32 l, false⟩).2).2.ws.length cr, .bool (rPath (rWord ⟨splitC 32 l, false⟩).2).2.bad] 129 := (hgw77.block b2 hkr5.lt (fun e => by have := (hcl _ e.symm).2; omega)).trans hkr5
  have hbA := hbw77
  have hgA := hgw77
  have hfA := hfw77
  refine WL.nil <| ?_
  refine WY.tk 12 rfl (.nck rfl) rfl ?_
  refine WY.tk 13 rfl (.fa underlying92 rfl sizeOf81 dD rfl) rfl ?_
  refine WY.br1 14 rfl ?_
  refine WL.st sizeOf81 rfl rfl (how77).one hk78 oD (fun w80 hkw80 huw80 hsw80 => ?_)
  have hkw80 : Blk w80 b _ _ := hkw80
  have huw80 : Upd b _ _ := huw80
  have hle82 := Nat.le_trans hle79 huw80.size
  have hk83 := hkr6.up huw80
  obtain ⟨hpsF, hmv⟩ := h.addClip hB5 hx5 hxi5 hoA hgA hfA huw80 hkw80
  have hBF : Below b w w80 := (hB5.mono oO).trans (Upd.below (hbA.mono (Nat.le_succ b)) (Nat.le_refl _) huw80)
  refine WL.nil <| ?_
  refine WY.done kR ?_
  refine W.sr <| WL.m rfl rfl <| WL.p (.nck rfl) rfl <| WL.p (.fa underlying129 rfl sizeOf4 dD rfl) rfl <| WL.r (Rd.ld (isAgg4 _) rfl hk83 rfl) rfl <| WL.p (.not rfl) rfl <| WL.m rfl rfl <| WL.gd rfl rfl rfl (fun g84 => ?_) (fun g84 => ?_)
  · have g84' := (nT g84)
    refine WL.m rfl rfl <| WL.gy rfl rfl rfl (by rw [(nT g84)] <;> rfl) <| WL.p (.nck rfl) rfl <| WL.gy rfl rfl rfl (by rw [(nT g84)] <;> rfl) <| WL.p (.fa underlying129 rfl sizeOf28 dD rfl) rfl <| WL.gy rfl rfl rfl (by rw [(nT g84)] <;> rfl) <| WL.r (Rd.ld (isAgg28 _) rfl hk83 rfl) rfl <| WL.gy rfl rfl rfl (by rw [(nT g84)] <;> rfl) <| WL.p (.lenS underlying28 rfl) rfl <| WL.gy rfl rfl rfl (by rw [(nT g84)] <;> rfl) <| WL.p (.eql rfl rfl) rfl <| WL.p (.pkT rfl (by rw [(nT g84)] <;> rfl) rfl) rfl <| WL.z rfl rfl ?_
    refine W.ret (W.ret1 rfl rfl ?_)
    first
    | (have hn : rLine (splitC 32 l) (psOf init last clips) = none := by
         rw [hrl, if_pos]
         have h3 : (init ++ last.toList) = [] := List.length_eq_zero_iff.1 oO
         simp only [psOf, h3, List.map_nil]
       rw [hn]
       exact ⟨rfl, hB2.mono oO, fun ps hps => by cases hps⟩)
    | (have hc0 : ¬ (psOf init last clips).pages = [] := by
         intro e
         have h2 : (init ++ last.toList).map erPage = [] := e
         have h3 : (init ++ last.toList).length = 0 := by rw [← List.length_map (f := erPage), h2]; rfl
         omega
       rw [if_neg hc0] at hrl
       rw [hrl, fin_eq]
       refine ⟨scr_val ?_, hBF, fun ps hps => ?_⟩
       · split <;> simp_all
       · split at hps
         · cases hps
           exact ⟨_, _, _, _, _, hpsF, by simp [psOf, erClip, clipN], fun g hgd => ⟨(hmv g (hgd.grow hB5.size)).1, (hmv g (hgd.grow hB5.size)).2.trans (hB5.block g hgd.2.1)⟩⟩
         · cases hps)
  have g84' := (nF g84)
  refine WL.gn rfl rfl rfl (by rw [(nF g84)] <;> rfl) <| WL.gn rfl rfl rfl (by rw [(nF g84)] <;> rfl) <| WL.gn rfl rfl rfl (by rw [(nF g84)] <;> rfl) <| WL.gn rfl rfl rfl (by rw [(nF g84)] <;> rfl) <| WL.gn rfl rfl rfl (by rw [(nF g84)] <;> rfl) <| WL.p (.pkF rfl (by rw [(nF g84)] <;> rfl) rfl) rfl <| WL.z rfl rfl ?_
  refine W.ret (W.ret1 rfl rfl ?_)
  first
  | (have hn : rLine (splitC 32 l) (psOf init last clips) = none := by
       rw [hrl, if_pos]
       have h3 : (init ++ last.toList) = [] := List.length_eq_zero_iff.1 oO
       simp only [psOf, h3, List.map_nil]
     rw [hn]
     exact ⟨rfl, hB2.mono oO, fun ps hps => by cases hps⟩)
  | (have hc0 : ¬ (psOf init last clips).pages = [] := by
       intro e
       have h2 : (init ++ last.toList).map erPage = [] := e
       have h3 : (init ++ last.toList).length = 0 := by rw [← List.length_map (f := erPage), h2]; rfl
       omega
     rw [if_neg hc0] at hrl
     rw [hrl, fin_eq]
     refine ⟨scr_val ?_, hBF, fun ps hps => ?_⟩
     · split <;> simp_all
     · split at hps
       · cases hps
         exact ⟨_, _, _, _, _, hpsF, by simp [psOf, erClip, clipN], fun g hgd => ⟨(hmv g (hgd.grow hB5.size)).1, (hmv g (hgd.grow hB5.size)).2.trans (hB5.block g hgd.2.1)⟩⟩
       · cases hps)
  refine WL.bslM (L := clipL) (ps := _) ([clipN pq (rPath (rWord ⟨splitC 32 l, false⟩).2).1 cq (decide (wd = [101, 111, 99, 108, 105, 112]))]) underlying81 sizeOf89 zeroValue89 rfl rfl rfl rfl rfl (by first | rfl | decide) rfl rfl (fun b85 wb85 eb85 hob85 hub85 hsb85 => ?_)
  have hl87 : b < b85 := by rw [eb85]; exact hk3.lt
  have hk86 := hk3.upd hub85 (Nat.ne_of_lt hl87)
  have hl89 : b2 < b85 := by rw [eb85]; exact hkr.lt
  have hk88 := hkr.upd hub85 (Nat.ne_of_lt hl89)
  have hleb85 : b85 ≤ wb85.heap.size := by omega
  refine WL.nil <| ?_
  refine WY.br1 4 rfl ?_
  refine WL.r (Rd.ld (isAgg81 _) rfl hk86 rfl) rfl <| WL.nil <| ?_
  refine WY.br1 11 rfl ?_
  have hB5 := Upd.below hB4 oO hub85
  have hps5 := h.below hB5
  have hoc5 := hps5.oc
  have hle5 : b + 1 ≤ wb85.heap.size := hps5.blk.lt
  have hkr5 := hk88
  have hx5 : ClipOk wb85 (clipN pq (rPath (rWord ⟨splitC 32 l, false⟩).2).1 cq (decide (wd = [101, 111, 99, 108, 105, 112]))) := ⟨hrq.upd hub85 (fun h0 => by have := (hbq h0).2; omega), hsq, rPath_ok _ _⟩
  have hxi5 : ClipIn (Btw w.heap.size wb85.heap.size) (clipN pq (rPath (rWord ⟨splitC 32 l, false⟩).2).1 cq (decide (wd = [101, 111, 99, 108, 105, 112]))) := ⟨fun h0 => (hbq h0).mono oO oO⟩
  refine WL.appM underlying81 inf89 rfl rfl rfl hoc5 rfl (hob85).rowp (by simp only [List.length_cons, List.length_nil]; omega) (hle5) rfl (fun h => nomatch h) (fun v90 w91 how91 hbw91 hgw91 hfw91 => ?_)
  have hk92 := hk86.below hbw91 oO
  have hle93 := Nat.le_trans hle5 hbw91.size
  have hoA := how91
  have hkr6 : Blk w91 b2 #[.slice pr (rPath (rWord ⟨splitC 32 l, false⟩).2).2.ws.length cr, .bool (rPath (rWord ⟨splitC 32 l, false⟩).2).2.bad] 129 := (hgw91.block b2 hkr5.lt (fun e => by have := (hcl _ e.symm).2; omega)).trans hkr5
  have hbA := hbw91
  have hgA := hgw91
  have hfA := hfw91
  refine WL.nil <| ?_
  refine WY.tk 12 rfl (.nck rfl) rfl ?_
  refine WY.tk 13 rfl (.fa underlying92 rfl sizeOf81 dD rfl) rfl ?_
  refine WY.br1 14 rfl ?_
  refine WL.st sizeOf81 rfl rfl (how91).one hk92 oD (fun w94 hkw94 huw94 hsw94 => ?_)
  have hkw94 : Blk w94 b _ _ := hkw94
  have huw94 : Upd b _ _ := huw94
  have hle96 := Nat.le_trans hle93 huw94.size
  have hk97 := hkr6.up huw94
  obtain ⟨hpsF, hmv⟩ := h.addClip hB5 hx5 hxi5 hoA hgA hfA huw94 hkw94
  have hBF : Below b w w94 := (hB5.mono oO).trans (Upd.below (hbA.mono (Nat.le_succ b)) (Nat.le_refl _) huw94)
  refine WL.nil <| ?_
  refine WY.done kR ?_
  refine W.sr <| WL.m rfl rfl <| WL.p (.nck rfl) rfl <| WL.p (.fa underlying129 rfl sizeOf4 dD rfl) rfl <| WL.r (Rd.ld (isAgg4 _) rfl hk97 rfl) rfl <| WL.p (.not rfl) rfl <| WL.m rfl rfl <| WL.gd rfl rfl rfl (fun g98 => ?_) (fun g98 => ?_)
  · have g98' := (nT g98)
    refine WL.m rfl rfl <| WL.gy rfl rfl rfl (by rw [(nT g98)] <;> rfl) <| WL.p (.nck rfl) rfl <| WL.gy rfl rfl rfl (by rw [(nT g98)] <;> rfl) <| WL.p (.fa underlying129 rfl sizeOf28 dD rfl) rfl <| WL.gy rfl rfl rfl (by rw [(nT g98)] <;> rfl) <| WL.r (Rd.ld (isAgg28 _) rfl hk97 rfl) rfl <| WL.gy rfl rfl rfl (by rw [(nT g98)] <;> rfl) <| WL.p (.lenS underlying28 rfl) rfl <| WL.gy rfl rfl rfl (by rw [(nT g98)] <;> rfl) <| WL.p (.eql rfl rfl) rfl <| WL.p (.pkT rfl (by rw [(nT g98)] <;> rfl) rfl) rfl <| WL.z rfl rfl ?_
    refine W.ret (W.ret1 rfl rfl ?_)
    first
    | (have hn : rLine (splitC 32 l) (psOf init last clips) = none := by
         rw [hrl, if_pos]
         have h3 : (init ++ last.toList) = [] := List.length_eq_zero_iff.1 oO
         simp only [psOf, h3, List.map_nil]
       rw [hn]
       exact ⟨rfl, hB2.mono oO, fun ps hps => by cases hps⟩)
    | (have hc0 : ¬ (psOf init last clips).pages = [] := by
         intro e
         have h2 : (init ++ last.toList).map erPage = [] := e
         have h3 : (init ++ last.toList).length = 0 := by rw [← List.length_map (f := erPage), h2]; rfl
         omega
       rw [if_neg hc0] at hrl
       rw [hrl, fin_eq]
       refine ⟨scr_val ?_, hBF, fun ps hps => ?_⟩
       · split <;> simp_all
       · split at hps
         · cases hps
           exact ⟨_, _, _, _, _, hpsF, by simp [psOf, erClip, clipN], fun g hgd => ⟨(hmv g (hgd.grow hB5.size)).1, (hmv g (hgd.grow hB5.size)).2.trans (hB5.block g hgd.2.1)⟩⟩
         · cases hps)
  have g98' := (nF g98)
  refine WL.gn rfl rfl rfl (by rw [(nF g98)] <;> rfl) <| WL.gn rfl rfl rfl (by rw [(nF g98)] <;> rfl) <| WL.gn rfl rfl rfl (by rw [(nF g98)] <;> rfl) <| WL.gn rfl rfl rfl (by rw [(nF g98)] <;> rfl) <| WL.gn rfl rfl rfl (by rw [(nF g98)] <;> rfl) <| WL.p (.pkF rfl (by rw [(nF g98)] <;> rfl) rfl) rfl <| WL.z rfl rfl ?_
  refine W.ret (W.ret1 rfl rfl ?_)
  first
  | (have hn : rLine (splitC 32 l) (psOf init last clips) = none := by
       rw [hrl, if_pos]
       have h3 : (init ++ last.toList) = [] := List.length_eq_zero_iff.1 oO
       simp only [psOf, h3, List.map_nil]
     rw [hn]
     exact ⟨rfl, hB2.mono oO, fun ps hps => by cases hps⟩)
  | (have hc0 : ¬ (psOf init last clips).pages = [] := by
       intro e
       have h2 : (init ++ last.toList).map erPage = [] := e
       have h3 : (init ++ last.toList).length = 0 := by rw [← List.length_map (f := erPage), h2]; rfl
       omega
     rw [if_neg hc0] at hrl
     rw [hrl, fin_eq]
     refine ⟨scr_val ?_, hBF, fun ps hps => ?_⟩
     · split <;> simp_all
     · split at hps
       · cases hps
         exact ⟨_, _, _, _, _, hpsF, by simp [psOf, erClip, clipN], fun g hgd => ⟨(hmv g (hgd.grow hB5.size)).1, (hmv g (hgd.grow hB5.size)).2.trans (hB5.block g hgd.2.1)⟩⟩
       · cases hps)
end
section
theorem rLine_item {ws : List (List UInt8)} {p : PS} {wd : List UInt8} (hwd : (rWord ⟨ws, false⟩).1 = wd) (h0 : ¬ wd = [112, 97, 103, 101]) (h1 : ¬ wd = [99, 108, 105, 112]) (h2 : ¬ wd = [101, 111, 99, 108, 105, 112]) : rLine ws p = match (rItem wd (rWord ⟨ws, false⟩).2).1 with
  | none => none
  | some it => if p.pages = [] then none else if fin (rItem wd (rWord ⟨ws, false⟩).2).2 then some ⟨addItem p.pages { it with fClips := p.clips }, []⟩ else none := by
 have h3 : ¬ (wd = [99, 108, 105, 112] ∨ wd = [101, 111, 99, 108, 105, 112]) := by rintro (h | h); exact h1 h; exact h2 h
 unfold rLine; simp only [hwd, if_neg h0, if_neg h3]
 rfl
theorem lB_own {x : PageV} {g : Nat} (h : (Value.slice x.pfItems x.fItems.length x.cfItems).ownBlock = some g) : lB (some x) = some g := by
 cases hp : x.pfItems with
 | none => rw [hp] at h; cases h
 | some a => rw [show lB (some x) = x.pfItems.map (·.block) from rfl, hp]; rw [hp] at h; exact h
theorem addItem_er (init : List PageV) (x : PageV) (y : ItemV) (p : Option Addr) (c : Nat) : addItem ((init ++ (some x).toList).map erPage) (erItem y) = (init ++ (some (⟨x.fWidth, x.fHeight, p, x.fItems ++ [y], c⟩ : PageV)).toList).map erPage := by
 unfold addItem
 simp [erPage]
set_option maxHeartbeats 3200000 in
theorem prs_item (b : Nat) (l : List UInt8) (vp vc : Value) (init : List PageV) (last : Option PageV) (clips : List ClipV) (w : World) (h : PSt w b vp vc init last clips) (hE : Env w) (hl : l.length ≤ 1100000) (hnp : (init ++ last.toList).length ≤ 5000000) (hnc : clips.length ≤ 5000000) (hni : ∀ x, last = some x → x.fItems.length ≤ 5000000)
    (wd : List UInt8) (hwd : (rWord ⟨splitC 32 l, false⟩).1 = wd) (h0 : ¬ wd = [112, 97, 103, 101]) (h1 : ¬ wd = [99, 108, 105, 112]) (h2 : ¬ wd = [101, 111, 99, 108, 105, 112]) :
    Calls Tryz.prog 53 #[.pointer (some ⟨b, 0, none⟩), .string (bs l)] w fun e w' => LineOk b vp vc last (rLine (splitC 32 l) (psOf init last clips)) w e w' := by
  obtain ⟨hbw, hpl, hcl, hll⟩ := h.lt
  have hsl := splitC_len 32 l
  obtain ⟨ppg, cpg, evp, -⟩ := h.op.mk
  obtain ⟨pcl, ccl, evc, -⟩ := h.oc.mk
  subst evp evc
  have hrl := rLine_item (p := psOf init last clips) hwd h0 h1 h2
  have hwsl : (rWord ⟨splitC 32 l, false⟩).2.ws.length ≤ 1100001 := by rw [rWord_ws, List.length_tail]; have := hsl.1; simp only []; omega
  generalize hs1 : (rWord ⟨splitC 32 l, false⟩).2 = s1 at hrl hwsl
  refine W.enter func53 rfl ntmps53 (Nat.le_of_ble_eq_true rfl) ?_
  refine W.sr <| WL.z rfl rfl ?_
  refine W.sr <| WL.m rfl rfl <| WL.c1 hb52 rfl rfl ((lib_Split l 32 _ hE oO)) (fun w1 hw1 => ?_)
  obtain ⟨hB1, hrow1, hsz1⟩ := hw1
  refine WL.p (.buildL (ps := _) blt129 rfl rfl rfl pS) rfl ?_
  refine WL.box rfl rfl (fun b2 wb2 eb2 hkb2 hub2 hsb2 => ?_)
  have hRd : Rdr wb2 b2 ⟨splitC 32 l, false⟩ := ⟨_, _, hkb2, hrow1.below (Upd.below (Below.refl b2 _) (Nat.le_refl _) hub2) (fun _ => by show w.heap.size < _; omega), fun _ => by show w.heap.size < _; omega, Nat.le_refl _, fun x hx => by have := hsl.2 x hx; omega⟩
  have hBr : Below w.heap.size w wb2 := hB1.trans (Upd.below (Below.refl w.heap.size _) oO hub2)
  have hrw : w.heap.size < b2 := by omega
  refine WL.z rfl rfl ?_
  refine W.seq <| W.sr <| WL.m rfl rfl <| WL.c1 hb92 rfl rfl ((rdr_word b2 _ _ hRd)) (fun w3 hw3 => ?_)
  obtain ⟨hR1, hT1⟩ := hw3
  have hB2 := hBr.trans (hT1.below hBr.size oO)
  rw [hwd]
  rw [hs1] at hR1
  refine WL.z rfl rfl ?_
  refine W.sr <| WL.m rfl rfl <| WL.nil <| ?_
  refine W.block <| W.sr <| WL.p (.bis (false) (.eqs rfl rfl) (by exact decide_eq_false h0)) rfl <| WL.z rfl rfl ?_
  refine W.condF rfl rfl ?_
  refine W.seq <| W.sr <| WL.p (.bis (false) (.eqs rfl rfl) (by exact decide_eq_false h1)) rfl <| WL.z rfl rfl ?_
  refine W.condF rfl rfl ?_
  refine W.reg <| WL.p (.bis (false) (.eqs rfl rfl) (by exact decide_eq_false h2)) rfl <| WL.z rfl rfl ?_
  refine W.condF rfl rfl ?_
  refine W.sr <| WL.m rfl rfl <| WL.m rfl rfl <| WL.call hb95 rfl rfl ((rdr_item b2 wd _ _ hR1 (fun w1 hb => hE.below (hB2.trans (hb.mono oO))) oO)) (fun x w4 hw4 => ?_)
  obtain ⟨hex, hxo, hxi, hxc, hR3, hT3⟩ := hw4
  have hB4 := hB2.trans (hT3.below hB2.size oO)
  have hk3 := (h.below hB4).blk
  obtain ⟨pr, cr, hkr, -⟩ := hR3.blk
  have hsz2 := hB2.size
  have hsz3 := hT3.size
  have hrl3 := hkr.lt
  refine WL.m rfl rfl <| WL.p (.ext rfl rfl) rfl <| WL.p (.ext rfl rfl) rfl <| WL.alloc zeroValue87 rfl (fun b5 wb5 eb5 hkb5 hub5 hsb5 => ?_)
  have hl7 : b < b5 := by rw [eb5]; exact hk3.lt
  have hk6 := hk3.upd hub5 (Nat.ne_of_lt hl7)
  have hl9 : b2 < b5 := by rw [eb5]; exact hkr.lt
  have hk8 := hkr.upd hub5 (Nat.ne_of_lt hl9)
  refine WL.stL rfl rfl hkb5 isz87 rfl rfl (fun w10 hkw10 huw10 hsw10 => ?_)
  have hk11 := hk6.up huw10
  have hk12 := hk8.up huw10
  refine WL.z rfl rfl ?_
  refine W.seq <| W.seq ?_
  have hB5 : Below w.heap.size w w10 := Upd.below (Upd.below hB4 oO hub5) oO huw10
  have hxo5 : ItemOk w10 x := (hxo.same hxi (fun g hg => (hub5).other g (by have := hg.2; omega))).same hxi (fun g hg => (huw10).other g (by have := hg.2; omega))
  refine W.reg <| WL.m rfl rfl <| WL.p (.not rfl) rfl <| WL.m rfl rfl <| WL.gd rfl rfl rfl (fun g13 => ?_) (fun g13 => ?_)
  · have g13' := (nF g13)
    refine WL.m rfl rfl <| WL.gy rfl rfl rfl (by rw [(nF g13)] <;> rfl) <| WL.p (.nck rfl) rfl <| WL.gy rfl rfl rfl (by rw [(nF g13)] <;> rfl) <| WL.p (.fa underlying92 rfl sizeOf47 dD rfl) rfl <| WL.gy rfl rfl rfl (by rw [(nF g13)] <;> rfl) <| WL.r (Rd.ld (isAgg47 _) rfl hk11 rfl) rfl <| WL.gy rfl rfl rfl (by rw [(nF g13)] <;> rfl) <| WL.p (.lenS underlying47 rfl) rfl <| WL.gy rfl rfl rfl (by rw [(nF g13)] <;> rfl) <| WL.p (.eql rfl rfl) rfl <| WL.p (.pkF rfl (by rw [(nF g13)] <;> rfl) rfl) rfl <| WL.nil <| ?_
    refine W.cond rfl (fun h14 => ?_) (fun h14 => ?_)
    · have h14' := dT h14
      refine W.sr <| WL.z rfl rfl ?_
      refine W.ret (W.ret1 rfl rfl ?_)
      first
      | (have hn : rLine (splitC 32 l) (psOf init last clips) = none := by
           rw [hrl]
           cases hq : (rItem wd s1).1 with
           | none => rfl
           | some it =>
             have h3 : (init ++ last.toList) = [] := List.length_eq_zero_iff.1 (by first | omega | (exfalso; simp_all))
             simp only [psOf, h3, List.map_nil, if_pos]
         rw [hn]
         exact ⟨rfl, hB5.mono oO, fun ps hps => by cases hps⟩)
      | (obtain ⟨it, hit⟩ := Option.isSome_iff_exists.1 hsome
         have hei := hex it hit
         have hc0 : ¬ (psOf init (some xl) clips).pages = [] := by
           intro e
           have h2 : (init ++ (some xl).toList).map erPage = [] := e
           simp at h2
         rw [hit] at hrl
         simp only [if_neg hc0] at hrl
         rw [hrl, fin_eq]
         refine ⟨scr_val ?_, hBF, fun ps hps => ?_⟩
         · split <;> simp_all
         · split at hps
           · cases hps
             refine ⟨_, _, _, _, _, hpsF, ?_, fun g hgd => ?_⟩
             · unfold psOf
               rw [← addItem_er, ← hei]; rfl
             · have g1 := hmT g (hgd.grow hB6.size)
               have g2 := hmF g (g1.1.grow hBT2.size)
               exact ⟨g2.1, g2.2.trans ((hBT2.block g g1.1.2.1).trans (g1.2.trans (hB6.block g hgd.2.1)))⟩
           · cases hps)
    have h14' := dF h14
    have hsome : (rItem wd s1).1.isSome = true := by
      cases hq : (rItem wd s1).1.isSome with
      | true => rfl
      | false => exfalso; simp_all
    have hne : (init ++ last.toList).length ≠ 0 := by
      intro hq
      first
      | omega
      | (exfalso; simp_all)
    obtain ⟨xl, rfl⟩ : ∃ xl, last = some xl := by
      cases hq : last with
      | none => exact absurd (by rw [h.le hq, hq]; rfl) hne
      | some xl => exact ⟨xl, rfl⟩
    have hgl : (init ++ (some xl).toList)[init.length]'(by simp) = xl := by simp
    refine W.skip <| W.sr <| WL.m rfl rfl <| WL.m rfl rfl <| WL.p (.nck rfl) rfl <| WL.p (.fa underlying92 rfl sizeOf81 dD rfl) rfl <| WL.r (Rd.ld (isAgg81 _) rfl hk11 rfl) rfl <| WL.p (.fa underlying87 rfl sizeOf81 dD rfl) rfl <| WL.stC (o := 7) ((itemV { x with pfClips := pcl, fClips := clips, cfClips := ccl }).toArray) sizeOf81 rfl (rfl) rfl (rfl) hkw10 (Nat.le_of_ble_eq_true rfl) (rfl) (fun w15 hkw15 huw15 hsw15 => ?_)
    have hkw15 : Blk w15 b5 _ _ := hkw15
    have huw15 : Upd b5 _ _ := huw15
    have hk16 := hk11.up huw15
    have hk17 := hk12.up huw15
    have hB6 := Upd.below hB5 oO huw15
    have hxo6 := hxo5.same hxi (fun g hg => (huw15).other g (by have := hg.2; omega))
    refine WL.p (.nck rfl) rfl <| WL.p (.fa underlying92 rfl sizeOf81 dD rfl) rfl <| WL.st sizeOf81 rfl rfl rfl hk16 oD (fun w18 hkw18 huw18 hsw18 => ?_)
    have hkw18 : Blk w18 b _ _ := hkw18
    have huw18 : Upd b _ _ := huw18
    have hk19 := hk17.up huw18
    have hk20 := hkw15.up huw18
    obtain ⟨hpsT, hyT, hyiT, hmT⟩ := PSt.take h hB6 hxo6 (hxi.mono (fun g hg => hg.mono oO oO)) huw18 hsw18 hkw18
    have hBT : Below b w w18 := Upd.below (hB6.mono oO) (Nat.le_refl _) huw18
    have hBT0 := Below.refl w18.heap.size w18
    have hrv := OwnM.rowp hpsT.op
    refine WL.nil <| ?_
    refine W.seq <| W.regY 12 rfl mixed (fun w21 dw21 => ?_)
    have hk22 := hkw18.drew dw21
    have hk23 := hk19.drew dw21
    have hk24 := hk20.drew dw21
    have hv25 := hrv.drew dw21
    refine WY.tk 0 rfl (.mv rfl) rfl ?_
    refine WY.tk 1 rfl (.nck rfl) rfl ?_
    refine WY.tk 2 rfl (.fa underlying92 rfl sizeOf47 dD rfl) rfl ?_
    refine WY.tk 4 rfl (.mv rfl) rfl ?_
    refine WY.tk 5 rfl (.nck rfl) rfl ?_
    refine WY.tk 6 rfl (.fa underlying92 rfl sizeOf47 dD rfl) rfl ?_
    refine WY.br2 3 rfl 7 rfl ?_ ?_
    refine WL.r (Rd.ld (isAgg47 _) rfl hk22 rfl) rfl <| WL.nil <| ?_
    refine WY.br1 7 rfl ?_
    refine WL.r (Rd.ld (isAgg47 _) rfl hk22 rfl) rfl <| WL.nil <| ?_
    refine WY.tk 8 rfl (.lenS underlying47 rfl) rfl ?_
    refine WY.tk 9 rfl (.iis (((init.length : Nat) : Int)) (.sub rfl rfl (i64w oO)) (by simp only [List.length_append, Option.toList_some, List.length_cons, List.length_nil]; omega)) rfl ?_
    refine WY.tk 10 rfl (.ixm underlying47 sizeOf76 rfl rfl (hv25.isp oO) (init.length) (rfl) (by simp)) rfl ?_
    refine WY.tk 11 rfl (.as rfl) rfl ?_
    refine WY.done kR ?_
    have hBT1 := Drew.below hBT0 dw21
    have hz8 := Drew.size dw21
    refine W.regY 11 rfl mixed (fun w26 dw26 => ?_)
    have hk27 := hk22.drew dw26
    have hk28 := hk23.drew dw26
    have hk29 := hk24.drew dw26
    have hv30 := hv25.drew dw26
    refine WY.tk 0 rfl (.mv rfl) rfl ?_
    refine WY.tk 1 rfl (.mv rfl) rfl ?_
    refine WY.tk 2 rfl (.nck rfl) rfl ?_
    refine WY.tk 3 rfl (.fa underlying76 rfl sizeOf74 dD rfl) rfl ?_
    refine WY.br2 4 rfl 5 rfl ?_ ?_
    have hc57 := ((hv30).field init.length (by simp) 2 dD).trans (show (pageL.V (init ++ (some xl).toList)[init.length])[2]? = some (.slice xl.pfItems xl.fItems.length xl.cfItems) by rw [hgl]; rfl)
    refine WL.r (Rd.ldc (isAgg74 _) rfl hc57) rfl <| WL.nil <| ?_
    refine WY.br1 5 rfl ?_
    refine WL.r (Rd.ldA rfl hk29 underlying87 rfl isz87) rfl <| WL.nil <| ?_
    refine WY.br1 6 rfl ?_
    refine WL.bslM (L := itemL) (ps := _) ([({ x with pfClips := pcl, fClips := clips, cfClips := ccl } : ItemV)]) underlying74 sizeOf87 zeroValue87 rfl rfl rfl rfl rfl (by first | rfl | decide) rfl rfl (fun b31 wb31 eb31 hob31 hub31 hsb31 => ?_)
    have hl33 : b < b31 := by rw [eb31]; exact hk27.lt
    have hl35 : b2 < b31 := by rw [eb31]; exact hk28.lt
    have hk34 := hk28.upd hub31 (Nat.ne_of_lt hl35)
    have hl37 : b5 < b31 := by rw [eb31]; exact hk29.lt
    have hleb31 : b31 ≤ wb31.heap.size := by omega
    refine WL.nil <| ?_
    refine WY.br1 7 rfl ?_
    have hz9 := Drew.size dw26
    have hBT2 := Upd.below (Drew.below hBT1 dw26) oO hub31
    have hps9 := hpsT.below hBT2
    have hyo9 := hyT.below hBT2
    have hyi9 := hyiT.mono (fun g hg => (⟨hg.1, Nat.lt_of_lt_of_le hg.2.1 hBT2.size, hg.2.2⟩ : Dp b wb31.heap.size _ _ _ g))
    obtain ⟨hol9, -⟩ := hps9.ol xl rfl
    have hle9 : b + 1 ≤ wb31.heap.size := hps9.blk.lt
    have hkr9 := hk34
    refine WL.appM underlying74 inf87 rfl rfl rfl hol9 rfl (hob31).rowp (by have := hni xl rfl; simp only [List.length_cons, List.length_nil]; omega) (hle9) rfl (fun h => nomatch h) (fun v40 w41 how41 hbw41 hgw41 hfw41 => ?_)
    have hle43 := Nat.le_trans hle9 hbw41.size
    obtain ⟨pi, ci, evi, -⟩ := (how41).mk
    subst evi
    have hoA := how41
    have hgA := hgw41
    have hfA := hfw41
    have hbA := hbw41
    have hopA := hps9.op.same (w1 := w41) (fun g hg => hgA.block g (hps9.lt.2.1 g hg).2 (fun e => (hps9.nl g (lB_own e.symm)).1 hg))
    have hkr10 : Blk w41 b2 #[.slice pr (rItem wd s1).2.ws.length cr, .bool (rItem wd s1).2.bad] 129 := (hgA.block b2 hkr9.lt (fun e => by have := (hll _ (lB_own e.symm)).2; omega)).trans hkr9
    refine WL.nil <| ?_
    refine WY.tk 8 rfl (.nck rfl) rfl ?_
    refine WY.tk 9 rfl (.fa underlying76 rfl sizeOf74 dD rfl) rfl ?_
    refine WY.br1 10 rfl ?_
    refine WL.stF (L := pageL) ⟨xl.fWidth, xl.fHeight, pi, xl.fItems ++ [{ x with pfClips := pcl, fClips := clips, cfClips := ccl }], ci⟩ init.length 2 hopA (by simp) dD sizeOf74 rfl rfl rfl (by rw [hgl]; rfl) (fun wc gc hgc huc hoc => ?_)
    have hgo : (Value.slice ppg (init ++ (some xl).toList).length cpg).ownBlock = some gc := by rw [hgc]; rfl
    obtain ⟨hpsF, hmF⟩ := PSt.push hps9 hyo9 hyi9 hoA hgA hfA hgo huc (by simpa using hoc)
    have hgcl := hpl gc hgo
    have hkr11 := hkr10.upd huc oO
    have hBF : Below b w wc := Upd.below ((hBT.trans (hBT2.mono (by have := hBT.size; omega))).trans (hbA.mono (Nat.le_succ b))) oO huc
    refine WL.nil <| ?_
    refine WY.done kR ?_
    refine W.sr <| WL.m rfl rfl <| WL.p (.nck rfl) rfl <| WL.p (.fa underlying129 rfl sizeOf4 dD rfl) rfl <| WL.r (Rd.ld (isAgg4 _) rfl hkr11 rfl) rfl <| WL.p (.not rfl) rfl <| WL.m rfl rfl <| WL.gd rfl rfl rfl (fun g45 => ?_) (fun g45 => ?_)
    · have g45' := (nT g45)
      refine WL.m rfl rfl <| WL.gy rfl rfl rfl (by rw [(nT g45)] <;> rfl) <| WL.p (.nck rfl) rfl <| WL.gy rfl rfl rfl (by rw [(nT g45)] <;> rfl) <| WL.p (.fa underlying129 rfl sizeOf28 dD rfl) rfl <| WL.gy rfl rfl rfl (by rw [(nT g45)] <;> rfl) <| WL.r (Rd.ld (isAgg28 _) rfl hkr11 rfl) rfl <| WL.gy rfl rfl rfl (by rw [(nT g45)] <;> rfl) <| WL.p (.lenS underlying28 rfl) rfl <| WL.gy rfl rfl rfl (by rw [(nT g45)] <;> rfl) <| WL.p (.eql rfl rfl) rfl <| WL.p (.pkT rfl (by rw [(nT g45)] <;> rfl) rfl) rfl <| WL.z rfl rfl ?_
      refine W.ret (W.ret1 rfl rfl ?_)
      first
      | (have hn : rLine (splitC 32 l) (psOf init last clips) = none := by
           rw [hrl]
           cases hq : (rItem wd s1).1 with
           | none => rfl
           | some it =>
             have h3 : (init ++ last.toList) = [] := List.length_eq_zero_iff.1 (by first | omega | (exfalso; simp_all))
             simp only [psOf, h3, List.map_nil, if_pos]
         rw [hn]
         exact ⟨rfl, hB5.mono oO, fun ps hps => by cases hps⟩)
      | (obtain ⟨it, hit⟩ := Option.isSome_iff_exists.1 hsome
         have hei := hex it hit
         have hc0 : ¬ (psOf init (some xl) clips).pages = [] := by
           intro e
           have h2 : (init ++ (some xl).toList).map erPage = [] := e
           simp at h2
         rw [hit] at hrl
         simp only [if_neg hc0] at hrl
         rw [hrl, fin_eq]
         refine ⟨scr_val ?_, hBF, fun ps hps => ?_⟩
         · split <;> simp_all
         · split at hps
           · cases hps
             refine ⟨_, _, _, _, _, hpsF, ?_, fun g hgd => ?_⟩
             · unfold psOf
               rw [← addItem_er, ← hei]; rfl
             · have g1 := hmT g (hgd.grow hB6.size)
               have g2 := hmF g (g1.1.grow hBT2.size)
               exact ⟨g2.1, g2.2.trans ((hBT2.block g g1.1.2.1).trans (g1.2.trans (hB6.block g hgd.2.1)))⟩
           · cases hps)
    have g45' := (nF g45)
    refine WL.gn rfl rfl rfl (by rw [(nF g45)] <;> rfl) <| WL.gn rfl rfl rfl (by rw [(nF g45)] <;> rfl) <| WL.gn rfl rfl rfl (by rw [(nF g45)] <;> rfl) <| WL.gn rfl rfl rfl (by rw [(nF g45)] <;> rfl) <| WL.gn rfl rfl rfl (by rw [(nF g45)] <;> rfl) <| WL.p (.pkF rfl (by rw [(nF g45)] <;> rfl) rfl) rfl <| WL.z rfl rfl ?_
    refine W.ret (W.ret1 rfl rfl ?_)
    first
    | (have hn : rLine (splitC 32 l) (psOf init last clips) = none := by
         rw [hrl]
         cases hq : (rItem wd s1).1 with
         | none => rfl
         | some it =>
           have h3 : (init ++ last.toList) = [] := List.length_eq_zero_iff.1 (by first | omega | (exfalso; simp_all))
           simp only [psOf, h3, List.map_nil, if_pos]
       rw [hn]
       exact ⟨rfl, hB5.mono oO, fun ps hps => by cases hps⟩)
    | (obtain ⟨it, hit⟩ := Option.isSome_iff_exists.1 hsome
       have hei := hex it hit
       have hc0 : ¬ (psOf init (some xl) clips).pages = [] := by
         intro e
         have h2 : (init ++ (some xl).toList).map erPage = [] := e
         simp at h2
       rw [hit] at hrl
       simp only [if_neg hc0] at hrl
       rw [hrl, fin_eq]
       refine ⟨scr_val ?_, hBF, fun ps hps => ?_⟩
       · split <;> simp_all
       · split at hps
         · cases hps
           refine ⟨_, _, _, _, _, hpsF, ?_, fun g hgd => ?_⟩
           · unfold psOf
             rw [← addItem_er, ← hei]; rfl
           · have g1 := hmT g (hgd.grow hB6.size)
             have g2 := hmF g (g1.1.grow hBT2.size)
             exact ⟨g2.1, g2.2.trans ((hBT2.block g g1.1.2.1).trans (g1.2.trans (hB6.block g hgd.2.1)))⟩
         · cases hps)
    refine WL.r (Rd.ldA rfl hk29 underlying87 rfl isz87) rfl <| WL.nil <| ?_
    refine WY.br2 4 rfl 6 rfl ?_ ?_
    have hc57 := ((hv30).field init.length (by simp) 2 dD).trans (show (pageL.V (init ++ (some xl).toList)[init.length])[2]? = some (.slice xl.pfItems xl.fItems.length xl.cfItems) by rw [hgl]; rfl)
    refine WL.r (Rd.ldc (isAgg74 _) rfl hc57) rfl <| WL.nil <| ?_
    refine WY.br1 6 rfl ?_
    refine WL.bslM (L := itemL) (ps := _) ([({ x with pfClips := pcl, fClips := clips, cfClips := ccl } : ItemV)]) underlying74 sizeOf87 zeroValue87 rfl rfl rfl rfl rfl (by first | rfl | decide) rfl rfl (fun b46 wb46 eb46 hob46 hub46 hsb46 => ?_)
    have hl48 : b < b46 := by rw [eb46]; exact hk27.lt
    have hl50 : b2 < b46 := by rw [eb46]; exact hk28.lt
    have hk49 := hk28.upd hub46 (Nat.ne_of_lt hl50)
    have hl52 : b5 < b46 := by rw [eb46]; exact hk29.lt
    have hleb46 : b46 ≤ wb46.heap.size := by omega
    refine WL.nil <| ?_
    refine WY.br1 7 rfl ?_
    have hz9 := Drew.size dw26
    have hBT2 := Upd.below (Drew.below hBT1 dw26) oO hub46
    have hps9 := hpsT.below hBT2
    have hyo9 := hyT.below hBT2
    have hyi9 := hyiT.mono (fun g hg => (⟨hg.1, Nat.lt_of_lt_of_le hg.2.1 hBT2.size, hg.2.2⟩ : Dp b wb46.heap.size _ _ _ g))
    obtain ⟨hol9, -⟩ := hps9.ol xl rfl
    have hle9 : b + 1 ≤ wb46.heap.size := hps9.blk.lt
    have hkr9 := hk49
    refine WL.appM underlying74 inf87 rfl rfl rfl hol9 rfl (hob46).rowp (by have := hni xl rfl; simp only [List.length_cons, List.length_nil]; omega) (hle9) rfl (fun h => nomatch h) (fun v55 w56 how56 hbw56 hgw56 hfw56 => ?_)
    have hle58 := Nat.le_trans hle9 hbw56.size
    obtain ⟨pi, ci, evi, -⟩ := (how56).mk
    subst evi
    have hoA := how56
    have hgA := hgw56
    have hfA := hfw56
    have hbA := hbw56
    have hopA := hps9.op.same (w1 := w56) (fun g hg => hgA.block g (hps9.lt.2.1 g hg).2 (fun e => (hps9.nl g (lB_own e.symm)).1 hg))
    have hkr10 : Blk w56 b2 #[.slice pr (rItem wd s1).2.ws.length cr, .bool (rItem wd s1).2.bad] 129 := (hgA.block b2 hkr9.lt (fun e => by have := (hll _ (lB_own e.symm)).2; omega)).trans hkr9
    refine WL.nil <| ?_
    refine WY.tk 8 rfl (.nck rfl) rfl ?_
    refine WY.tk 9 rfl (.fa underlying76 rfl sizeOf74 dD rfl) rfl ?_
    refine WY.br1 10 rfl ?_
    refine WL.stF (L := pageL) ⟨xl.fWidth, xl.fHeight, pi, xl.fItems ++ [{ x with pfClips := pcl, fClips := clips, cfClips := ccl }], ci⟩ init.length 2 hopA (by simp) dD sizeOf74 rfl rfl rfl (by rw [hgl]; rfl) (fun wc gc hgc huc hoc => ?_)
    have hgo : (Value.slice ppg (init ++ (some xl).toList).length cpg).ownBlock = some gc := by rw [hgc]; rfl
    obtain ⟨hpsF, hmF⟩ := PSt.push hps9 hyo9 hyi9 hoA hgA hfA hgo huc (by simpa using hoc)
    have hgcl := hpl gc hgo
    have hkr11 := hkr10.upd huc oO
    have hBF : Below b w wc := Upd.below ((hBT.trans (hBT2.mono (by have := hBT.size; omega))).trans (hbA.mono (Nat.le_succ b))) oO huc
    refine WL.nil <| ?_
    refine WY.done kR ?_
    refine W.sr <| WL.m rfl rfl <| WL.p (.nck rfl) rfl <| WL.p (.fa underlying129 rfl sizeOf4 dD rfl) rfl <| WL.r (Rd.ld (isAgg4 _) rfl hkr11 rfl) rfl <| WL.p (.not rfl) rfl <| WL.m rfl rfl <| WL.gd rfl rfl rfl (fun g60 => ?_) (fun g60 => ?_)
    · have g60' := (nT g60)
      refine WL.m rfl rfl <| WL.gy rfl rfl rfl (by rw [(nT g60)] <;> rfl) <| WL.p (.nck rfl) rfl <| WL.gy rfl rfl rfl (by rw [(nT g60)] <;> rfl) <| WL.p (.fa underlying129 rfl sizeOf28 dD rfl) rfl <| WL.gy rfl rfl rfl (by rw [(nT g60)] <;> rfl) <| WL.r (Rd.ld (isAgg28 _) rfl hkr11 rfl) rfl <| WL.gy rfl rfl rfl (by rw [(nT g60)] <;> rfl) <| WL.p (.lenS underlying28 rfl) rfl <| WL.gy rfl rfl rfl (by rw [(nT g60)] <;> rfl) <| WL.p (.eql rfl rfl) rfl <| WL.p (.pkT rfl (by rw [(nT g60)] <;> rfl) rfl) rfl <| WL.z rfl rfl ?_
      refine W.ret (W.ret1 rfl rfl ?_)
      first
      | (have hn : rLine (splitC 32 l) (psOf init last clips) = none := by
           rw [hrl]
           cases hq : (rItem wd s1).1 with
           | none => rfl
           | some it =>
             have h3 : (init ++ last.toList) = [] := List.length_eq_zero_iff.1 (by first | omega | (exfalso; simp_all))
             simp only [psOf, h3, List.map_nil, if_pos]
         rw [hn]
         exact ⟨rfl, hB5.mono oO, fun ps hps => by cases hps⟩)
      | (obtain ⟨it, hit⟩ := Option.isSome_iff_exists.1 hsome
         have hei := hex it hit
         have hc0 : ¬ (psOf init (some xl) clips).pages = [] := by
           intro e
           have h2 : (init ++ (some xl).toList).map erPage = [] := e
           simp at h2
         rw [hit] at hrl
         simp only [if_neg hc0] at hrl
         rw [hrl, fin_eq]
         refine ⟨scr_val ?_, hBF, fun ps hps => ?_⟩
         · split <;> simp_all
         · split at hps
           · cases hps
             refine ⟨_, _, _, _, _, hpsF, ?_, fun g hgd => ?_⟩
             · unfold psOf
               rw [← addItem_er, ← hei]; rfl
             · have g1 := hmT g (hgd.grow hB6.size)
               have g2 := hmF g (g1.1.grow hBT2.size)
               exact ⟨g2.1, g2.2.trans ((hBT2.block g g1.1.2.1).trans (g1.2.trans (hB6.block g hgd.2.1)))⟩
           · cases hps)
    have g60' := (nF g60)
    refine WL.gn rfl rfl rfl (by rw [(nF g60)] <;> rfl) <| WL.gn rfl rfl rfl (by rw [(nF g60)] <;> rfl) <| WL.gn rfl rfl rfl (by rw [(nF g60)] <;> rfl) <| WL.gn rfl rfl rfl (by rw [(nF g60)] <;> rfl) <| WL.gn rfl rfl rfl (by rw [(nF g60)] <;> rfl) <| WL.p (.pkF rfl (by rw [(nF g60)] <;> rfl) rfl) rfl <| WL.z rfl rfl ?_
    refine W.ret (W.ret1 rfl rfl ?_)
    first
    | (have hn : rLine (splitC 32 l) (psOf init last clips) = none := by
         rw [hrl]
         cases hq : (rItem wd s1).1 with
         | none => rfl
         | some it =>
           have h3 : (init ++ last.toList) = [] := List.length_eq_zero_iff.1 (by first | omega | (exfalso; simp_all))
           simp only [psOf, h3, List.map_nil, if_pos]
       rw [hn]
       exact ⟨rfl, hB5.mono oO, fun ps hps => by cases hps⟩)
    | (obtain ⟨it, hit⟩ := Option.isSome_iff_exists.1 hsome
       have hei := hex it hit
       have hc0 : ¬ (psOf init (some xl) clips).pages = [] := by
         intro e
         have h2 : (init ++ (some xl).toList).map erPage = [] := e
         simp at h2
       rw [hit] at hrl
       simp only [if_neg hc0] at hrl
       rw [hrl, fin_eq]
       refine ⟨scr_val ?_, hBF, fun ps hps => ?_⟩
       · split <;> simp_all
       · split at hps
         · cases hps
           refine ⟨_, _, _, _, _, hpsF, ?_, fun g hgd => ?_⟩
           · unfold psOf
             rw [← addItem_er, ← hei]; rfl
           · have g1 := hmT g (hgd.grow hB6.size)
             have g2 := hmF g (g1.1.grow hBT2.size)
             exact ⟨g2.1, g2.2.trans ((hBT2.block g g1.1.2.1).trans (g1.2.trans (hB6.block g hgd.2.1)))⟩
         · cases hps)
    refine WL.bslM (L := itemL) (ps := _) ([({ x with pfClips := pcl, fClips := clips, cfClips := ccl } : ItemV)]) underlying74 sizeOf87 zeroValue87 rfl rfl rfl rfl rfl (by first | rfl | decide) rfl rfl (fun b61 wb61 eb61 hob61 hub61 hsb61 => ?_)
    have hl63 : b < b61 := by rw [eb61]; exact hk27.lt
    have hl65 : b2 < b61 := by rw [eb61]; exact hk28.lt
    have hk64 := hk28.upd hub61 (Nat.ne_of_lt hl65)
    have hl67 : b5 < b61 := by rw [eb61]; exact hk29.lt
    have hvl69 := fun h0 => eb61 ▸ hv30.lt h0
    have hv68 := RowM.upd hv30 hub61 (fun h0 => Nat.ne_of_lt (hvl69 h0))
    have hleb61 : b61 ≤ wb61.heap.size := by omega
    refine WL.nil <| ?_
    refine WY.br1 4 rfl ?_
    have hc57 := ((hv68).field init.length (by simp) 2 dD).trans (show (pageL.V (init ++ (some xl).toList)[init.length])[2]? = some (.slice xl.pfItems xl.fItems.length xl.cfItems) by rw [hgl]; rfl)
    refine WL.r (Rd.ldc (isAgg74 _) rfl hc57) rfl <| WL.nil <| ?_
    refine WY.br1 7 rfl ?_
    have hz9 := Drew.size dw26
    have hBT2 := Upd.below (Drew.below hBT1 dw26) oO hub61
    have hps9 := hpsT.below hBT2
    have hyo9 := hyT.below hBT2
    have hyi9 := hyiT.mono (fun g hg => (⟨hg.1, Nat.lt_of_lt_of_le hg.2.1 hBT2.size, hg.2.2⟩ : Dp b wb61.heap.size _ _ _ g))
    obtain ⟨hol9, -⟩ := hps9.ol xl rfl
    have hle9 : b + 1 ≤ wb61.heap.size := hps9.blk.lt
    have hkr9 := hk64
    refine WL.appM underlying74 inf87 rfl rfl rfl hol9 rfl (hob61).rowp (by have := hni xl rfl; simp only [List.length_cons, List.length_nil]; omega) (hle9) rfl (fun h => nomatch h) (fun v70 w71 how71 hbw71 hgw71 hfw71 => ?_)
    have hle73 := Nat.le_trans hle9 hbw71.size
    obtain ⟨pi, ci, evi, -⟩ := (how71).mk
    subst evi
    have hoA := how71
    have hgA := hgw71
    have hfA := hfw71
    have hbA := hbw71
    have hopA := hps9.op.same (w1 := w71) (fun g hg => hgA.block g (hps9.lt.2.1 g hg).2 (fun e => (hps9.nl g (lB_own e.symm)).1 hg))
    have hkr10 : Blk w71 b2 #[.slice pr (rItem wd s1).2.ws.length cr, .bool (rItem wd s1).2.bad] 129 := (hgA.block b2 hkr9.lt (fun e => by have := (hll _ (lB_own e.symm)).2; omega)).trans hkr9
    refine WL.nil <| ?_
    refine WY.tk 8 rfl (.nck rfl) rfl ?_
    refine WY.tk 9 rfl (.fa underlying76 rfl sizeOf74 dD rfl) rfl ?_
    refine WY.br1 10 rfl ?_
    refine WL.stF (L := pageL) ⟨xl.fWidth, xl.fHeight, pi, xl.fItems ++ [{ x with pfClips := pcl, fClips := clips, cfClips := ccl }], ci⟩ init.length 2 hopA (by simp) dD sizeOf74 rfl rfl rfl (by rw [hgl]; rfl) (fun wc gc hgc huc hoc => ?_)
    have hgo : (Value.slice ppg (init ++ (some xl).toList).length cpg).ownBlock = some gc := by rw [hgc]; rfl
    obtain ⟨hpsF, hmF⟩ := PSt.push hps9 hyo9 hyi9 hoA hgA hfA hgo huc (by simpa using hoc)
    have hgcl := hpl gc hgo
    have hkr11 := hkr10.upd huc oO
    have hBF : Below b w wc := Upd.below ((hBT.trans (hBT2.mono (by have := hBT.size; omega))).trans (hbA.mono (Nat.le_succ b))) oO huc
    refine WL.nil <| ?_
    refine WY.done kR ?_
    refine W.sr <| WL.m rfl rfl <| WL.p (.nck rfl) rfl <| WL.p (.fa underlying129 rfl sizeOf4 dD rfl) rfl <| WL.r (Rd.ld (isAgg4 _) rfl hkr11 rfl) rfl <| WL.p (.not rfl) rfl <| WL.m rfl rfl <| WL.gd rfl rfl rfl (fun g75 => ?_) (fun g75 => ?_)
    · have g75' := (nT g75)
      refine WL.m rfl rfl <| WL.gy rfl rfl rfl (by rw [(nT g75)] <;> rfl) <| WL.p (.nck rfl) rfl <| WL.gy rfl rfl rfl (by rw [(nT g75)] <;> rfl) <| WL.p (.fa underlying129 rfl sizeOf28 dD rfl) rfl <| WL.gy rfl rfl rfl (by rw [(nT g75)] <;> rfl) <| WL.r (Rd.ld (isAgg28 _) rfl hkr11 rfl) rfl <| WL.gy rfl rfl rfl (by rw [(nT g75)] <;> rfl) <| WL.p (.lenS underlying28 rfl) rfl <| WL.gy rfl rfl rfl (by rw [(nT g75)] <;> rfl) <| WL.p (.eql rfl rfl) rfl <| WL.p (.pkT rfl (by rw [(nT g75)] <;> rfl) rfl) rfl <| WL.z rfl rfl ?_
      refine W.ret (W.ret1 rfl rfl ?_)
      first
      | (have hn : rLine (splitC 32 l) (psOf init last clips) = none := by
           rw [hrl]
           cases hq : (rItem wd s1).1 with
           | none => rfl
           | some it =>
             have h3 : (init ++ last.toList) = [] := List.length_eq_zero_iff.1 (by first | omega | (exfalso; simp_all))
             simp only [psOf, h3, List.map_nil, if_pos]
         rw [hn]
         exact ⟨rfl, hB5.mono oO, fun ps hps => by cases hps⟩)
      | (obtain ⟨it, hit⟩ := Option.isSome_iff_exists.1 hsome
         have hei := hex it hit
         have hc0 : ¬ (psOf init (some xl) clips).pages = [] := by
           intro e
           have h2 : (init ++ (some xl).toList).map erPage = [] := e
           simp at h2
         rw [hit] at hrl
         simp only [if_neg hc0] at hrl
         rw [hrl, fin_eq]
         refine ⟨scr_val ?_, hBF, fun ps hps => ?_⟩
         · split <;> simp_all
         · split at hps
           · cases hps
             refine ⟨_, _, _, _, _, hpsF, ?_, fun g hgd => ?_⟩
             · unfold psOf
               rw [← addItem_er, ← hei]; rfl
             · have g1 := hmT g (hgd.grow hB6.size)
               have g2 := hmF g (g1.1.grow hBT2.size)
               exact ⟨g2.1, g2.2.trans ((hBT2.block g g1.1.2.1).trans (g1.2.trans (hB6.block g hgd.2.1)))⟩
           · cases hps)
    have g75' := (nF g75)
    refine WL.gn rfl rfl rfl (by rw [(nF g75)] <;> rfl) <| WL.gn rfl rfl rfl (by rw [(nF g75)] <;> rfl) <| WL.gn rfl rfl rfl (by rw [(nF g75)] <;> rfl) <| WL.gn rfl rfl rfl (by rw [(nF g75)] <;> rfl) <| WL.gn rfl rfl rfl (by rw [(nF g75)] <;> rfl) <| WL.p (.pkF rfl (by rw [(nF g75)] <;> rfl) rfl) rfl <| WL.z rfl rfl ?_
    refine W.ret (W.ret1 rfl rfl ?_)
    first
    | (have hn : rLine (splitC 32 l) (psOf init last clips) = none := by
         rw [hrl]
         cases hq : (rItem wd s1).1 with
         | none => rfl
         | some it =>
           have h3 : (init ++ last.toList) = [] := List.length_eq_zero_iff.1 (by first | omega | (exfalso; simp_all))
           simp only [psOf, h3, List.map_nil, if_pos]
       rw [hn]
       exact ⟨rfl, hB5.mono oO, fun ps hps => by cases hps⟩)
    | (obtain ⟨it, hit⟩ := Option.isSome_iff_exists.1 hsome
       have hei := hex it hit
       have hc0 : ¬ (psOf init (some xl) clips).pages = [] := by
         intro e
         have h2 : (init ++ (some xl).toList).map erPage = [] := e
         simp at h2
       rw [hit] at hrl
       simp only [if_neg hc0] at hrl
       rw [hrl, fin_eq]
       refine ⟨scr_val ?_, hBF, fun ps hps => ?_⟩
       · split <;> simp_all
       · split at hps
         · cases hps
           refine ⟨_, _, _, _, _, hpsF, ?_, fun g hgd => ?_⟩
           · unfold psOf
             rw [← addItem_er, ← hei]; rfl
           · have g1 := hmT g (hgd.grow hB6.size)
             have g2 := hmF g (g1.1.grow hBT2.size)
             exact ⟨g2.1, g2.2.trans ((hBT2.block g g1.1.2.1).trans (g1.2.trans (hB6.block g hgd.2.1)))⟩
         · cases hps)
    refine WL.r (Rd.ld (isAgg47 _) rfl hk22 rfl) rfl <| WL.nil <| ?_
    refine WY.tk 8 rfl (.lenS underlying47 rfl) rfl ?_
    refine WY.tk 9 rfl (.iis (((init.length : Nat) : Int)) (.sub rfl rfl (i64w oO)) (by simp only [List.length_append, Option.toList_some, List.length_cons, List.length_nil]; omega)) rfl ?_
    refine WY.br1 3 rfl ?_
    refine WL.r (Rd.ld (isAgg47 _) rfl hk22 rfl) rfl <| WL.nil <| ?_
    refine WY.tk 10 rfl (.ixm underlying47 sizeOf76 rfl rfl (hv25.isp oO) (init.length) (rfl) (by simp)) rfl ?_
    refine WY.tk 11 rfl (.as rfl) rfl ?_
    refine WY.done kR ?_
    have hBT1 := Drew.below hBT0 dw21
    have hz8 := Drew.size dw21
    refine W.regY 11 rfl mixed (fun w76 dw76 => ?_)
    have hk77 := hk22.drew dw76
    have hk78 := hk23.drew dw76
    have hk79 := hk24.drew dw76
    have hv80 := hv25.drew dw76
    refine WY.tk 0 rfl (.mv rfl) rfl ?_
    refine WY.tk 1 rfl (.mv rfl) rfl ?_
    refine WY.tk 2 rfl (.nck rfl) rfl ?_
    refine WY.tk 3 rfl (.fa underlying76 rfl sizeOf74 dD rfl) rfl ?_
    refine WY.br2 4 rfl 5 rfl ?_ ?_
    have hc57 := ((hv80).field init.length (by simp) 2 dD).trans (show (pageL.V (init ++ (some xl).toList)[init.length])[2]? = some (.slice xl.pfItems xl.fItems.length xl.cfItems) by rw [hgl]; rfl)
    refine WL.r (Rd.ldc (isAgg74 _) rfl hc57) rfl <| WL.nil <| ?_
    refine WY.br1 5 rfl ?_
    refine WL.r (Rd.ldA rfl hk79 underlying87 rfl isz87) rfl <| WL.nil <| ?_
    refine WY.br1 6 rfl ?_
    refine WL.bslM (L := itemL) (ps := _) ([({ x with pfClips := pcl, fClips := clips, cfClips := ccl } : ItemV)]) underlying74 sizeOf87 zeroValue87 rfl rfl rfl rfl rfl (by first | rfl | decide) rfl rfl (fun b81 wb81 eb81 hob81 hub81 hsb81 => ?_)
    have hl83 : b < b81 := by rw [eb81]; exact hk77.lt
    have hl85 : b2 < b81 := by rw [eb81]; exact hk78.lt
    have hk84 := hk78.upd hub81 (Nat.ne_of_lt hl85)
    have hl87 : b5 < b81 := by rw [eb81]; exact hk79.lt
    have hleb81 : b81 ≤ wb81.heap.size := by omega
    refine WL.nil <| ?_
    refine WY.br1 7 rfl ?_
    have hz9 := Drew.size dw76
    have hBT2 := Upd.below (Drew.below hBT1 dw76) oO hub81
    have hps9 := hpsT.below hBT2
    have hyo9 := hyT.below hBT2
    have hyi9 := hyiT.mono (fun g hg => (⟨hg.1, Nat.lt_of_lt_of_le hg.2.1 hBT2.size, hg.2.2⟩ : Dp b wb81.heap.size _ _ _ g))
    obtain ⟨hol9, -⟩ := hps9.ol xl rfl
    have hle9 : b + 1 ≤ wb81.heap.size := hps9.blk.lt
    have hkr9 := hk84
    refine WL.appM underlying74 inf87 rfl rfl rfl hol9 rfl (hob81).rowp (by have := hni xl rfl; simp only [List.length_cons, List.length_nil]; omega) (hle9) rfl (fun h => nomatch h) (fun v90 w91 how91 hbw91 hgw91 hfw91 => ?_)
    have hle93 := Nat.le_trans hle9 hbw91.size
    obtain ⟨pi, ci, evi, -⟩ := (how91).mk
    subst evi
    have hoA := how91
    have hgA := hgw91
    have hfA := hfw91
    have hbA := hbw91
    have hopA := hps9.op.same (w1 := w91) (fun g hg => hgA.block g (hps9.lt.2.1 g hg).2 (fun e => (hps9.nl g (lB_own e.symm)).1 hg))
    have hkr10 : Blk w91 b2 #[.slice pr (rItem wd s1).2.ws.length cr, .bool (rItem wd s1).2.bad] 129 := (hgA.block b2 hkr9.lt (fun e => by have := (hll _ (lB_own e.symm)).2; omega)).trans hkr9
    refine WL.nil <| ?_
    refine WY.tk 8 rfl (.nck rfl) rfl ?_
    refine WY.tk 9 rfl (.fa underlying76 rfl sizeOf74 dD rfl) rfl ?_
    refine WY.br1 10 rfl ?_
    refine WL.stF (L := pageL) ⟨xl.fWidth, xl.fHeight, pi, xl.fItems ++ [{ x with pfClips := pcl, fClips := clips, cfClips := ccl }], ci⟩ init.length 2 hopA (by simp) dD sizeOf74 rfl rfl rfl (by rw [hgl]; rfl) (fun wc gc hgc huc hoc => ?_)
    have hgo : (Value.slice ppg (init ++ (some xl).toList).length cpg).ownBlock = some gc := by rw [hgc]; rfl
    obtain ⟨hpsF, hmF⟩ := PSt.push hps9 hyo9 hyi9 hoA hgA hfA hgo huc (by simpa using hoc)
    have hgcl := hpl gc hgo
    have hkr11 := hkr10.upd huc oO
    have hBF : Below b w wc := Upd.below ((hBT.trans (hBT2.mono (by have := hBT.size; omega))).trans (hbA.mono (Nat.le_succ b))) oO huc
    refine WL.nil <| ?_
    refine WY.done kR ?_
    refine W.sr <| WL.m rfl rfl <| WL.p (.nck rfl) rfl <| WL.p (.fa underlying129 rfl sizeOf4 dD rfl) rfl <| WL.r (Rd.ld (isAgg4 _) rfl hkr11 rfl) rfl <| WL.p (.not rfl) rfl <| WL.m rfl rfl <| WL.gd rfl rfl rfl (fun g95 => ?_) (fun g95 => ?_)
    · have g95' := (nT g95)
      refine WL.m rfl rfl <| WL.gy rfl rfl rfl (by rw [(nT g95)] <;> rfl) <| WL.p (.nck rfl) rfl <| WL.gy rfl rfl rfl (by rw [(nT g95)] <;> rfl) <| WL.p (.fa underlying129 rfl sizeOf28 dD rfl) rfl <| WL.gy rfl rfl rfl (by rw [(nT g95)] <;> rfl) <| WL.r (Rd.ld (isAgg28 _) rfl hkr11 rfl) rfl <| WL.gy rfl rfl rfl (by rw [(nT g95)] <;> rfl) <| WL.p (.lenS underlying28 rfl) rfl <| WL.gy rfl rfl rfl (by rw [(nT g95)] <;> rfl) <| WL.p (.eql rfl rfl) rfl <| WL.p (.pkT rfl (by rw [(nT g95)] <;> rfl) rfl) rfl <| WL.z rfl rfl ?_
      refine W.ret (W.ret1 rfl rfl ?_)
      first
      | (have hn : rLine (splitC 32 l) (psOf init last clips) = none := by
           rw [hrl]
           cases hq : (rItem wd s1).1 with
           | none => rfl
           | some it =>
             have h3 : (init ++ last.toList) = [] := List.length_eq_zero_iff.1 (by first | omega | (exfalso; simp_all))
             simp only [psOf, h3, List.map_nil, if_pos]
         rw [hn]
         exact ⟨rfl, hB5.mono oO, fun ps hps => by cases hps⟩)
      | (obtain ⟨it, hit⟩ := Option.isSome_iff_exists.1 hsome
         have hei := hex it hit
         have hc0 : ¬ (psOf init (some xl) clips).pages = [] := by
           intro e
           have h2 : (init ++ (some xl).toList).map erPage = [] := e
           simp at h2
         rw [hit] at hrl
         simp only [if_neg hc0] at hrl
         rw [hrl, fin_eq]
         refine ⟨scr_val ?_, hBF, fun ps hps => ?_⟩
         · split <;> simp_all
         · split at hps
           · cases hps
             refine ⟨_, _, _, _, _, hpsF, ?_, fun g hgd => ?_⟩
             · unfold psOf
               rw [← addItem_er, ← hei]; rfl
             · have g1 := hmT g (hgd.grow hB6.size)
               have g2 := hmF g (g1.1.grow hBT2.size)
               exact ⟨g2.1, g2.2.trans ((hBT2.block g g1.1.2.1).trans (g1.2.trans (hB6.block g hgd.2.1)))⟩
           · cases hps)
    have g95' := (nF g95)
    refine WL.gn rfl rfl rfl (by rw [(nF g95)] <;> rfl) <| WL.gn rfl rfl rfl (by rw [(nF g95)] <;> rfl) <| WL.gn rfl rfl rfl (by rw [(nF g95)] <;> rfl) <| WL.gn rfl rfl rfl (by rw [(nF g95)] <;> rfl) <| WL.gn rfl rfl rfl (by rw [(nF g95)] <;> rfl) <| WL.p (.pkF rfl (by rw [(nF g95)] <;> rfl) rfl) rfl <| WL.z rfl rfl ?_
    refine W.ret (W.ret1 rfl rfl ?_)
    first
    | (have hn : rLine (splitC 32 l) (psOf init last clips) = none := by
         rw [hrl]
         cases hq : (rItem wd s1).1 with
         | none => rfl
         | some it =>
           have h3 : (init ++ last.toList) = [] := List.length_eq_zero_iff.1 (by first | omega | (exfalso; simp_all))
           simp only [psOf, h3, List.map_nil, if_pos]
       rw [hn]
       exact ⟨rfl, hB5.mono oO, fun ps hps => by cases hps⟩)
    | (obtain ⟨it, hit⟩ := Option.isSome_iff_exists.1 hsome
       have hei := hex it hit
       have hc0 : ¬ (psOf init (some xl) clips).pages = [] := by
         intro e
         have h2 : (init ++ (some xl).toList).map erPage = [] := e
         simp at h2
       rw [hit] at hrl
       simp only [if_neg hc0] at hrl
       rw [hrl, fin_eq]
       refine ⟨scr_val ?_, hBF, fun ps hps => ?_⟩
       · split <;> simp_all
       · split at hps
         · cases hps
           refine ⟨_, _, _, _, _, hpsF, ?_, fun g hgd => ?_⟩
           · unfold psOf
             rw [← addItem_er, ← hei]; rfl
           · have g1 := hmT g (hgd.grow hB6.size)
             have g2 := hmF g (g1.1.grow hBT2.size)
             exact ⟨g2.1, g2.2.trans ((hBT2.block g g1.1.2.1).trans (g1.2.trans (hB6.block g hgd.2.1)))⟩
         · cases hps)
    refine WL.r (Rd.ldA rfl hk79 underlying87 rfl isz87) rfl <| WL.nil <| ?_
    refine WY.br2 4 rfl 6 rfl ?_ ?_
    have hc57 := ((hv80).field init.length (by simp) 2 dD).trans (show (pageL.V (init ++ (some xl).toList)[init.length])[2]? = some (.slice xl.pfItems xl.fItems.length xl.cfItems) by rw [hgl]; rfl)
    refine WL.r (Rd.ldc (isAgg74 _) rfl hc57) rfl <| WL.nil <| ?_
    refine WY.br1 6 rfl ?_
    refine WL.bslM (L := itemL) (ps := _) ([({ x with pfClips := pcl, fClips := clips, cfClips := ccl } : ItemV)]) underlying74 sizeOf87 zeroValue87 rfl rfl rfl rfl rfl (by first | rfl | decide) rfl rfl (fun b96 wb96 eb96 hob96 hub96 hsb96 => ?_)
    have hl98 : b < b96 := by rw [eb96]; exact hk77.lt
    have hl100 : b2 < b96 := by rw [eb96]; exact hk78.lt
    have hk99 := hk78.upd hub96 (Nat.ne_of_lt hl100)
    have hl102 : b5 < b96 := by rw [eb96]; exact hk79.lt
    have hleb96 : b96 ≤ wb96.heap.size := by omega
    refine WL.nil <| ?_
    refine WY.br1 7 rfl ?_
    have hz9 := Drew.size dw76
    have hBT2 := Upd.below (Drew.below hBT1 dw76) oO hub96
    have hps9 := hpsT.below hBT2
    have hyo9 := hyT.below hBT2
    have hyi9 := hyiT.mono (fun g hg => (⟨hg.1, Nat.lt_of_lt_of_le hg.2.1 hBT2.size, hg.2.2⟩ : Dp b wb96.heap.size _ _ _ g))
    obtain ⟨hol9, -⟩ := hps9.ol xl rfl
    have hle9 : b + 1 ≤ wb96.heap.size := hps9.blk.lt
    have hkr9 := hk99
    refine WL.appM underlying74 inf87 rfl rfl rfl hol9 rfl (hob96).rowp (by have := hni xl rfl; simp only [List.length_cons, List.length_nil]; omega) (hle9) rfl (fun h => nomatch h) (fun v105 w106 how106 hbw106 hgw106 hfw106 => ?_)
    have hle108 := Nat.le_trans hle9 hbw106.size
    obtain ⟨pi, ci, evi, -⟩ := (how106).mk
    subst evi
    have hoA := how106
    have hgA := hgw106
    have hfA := hfw106
    have hbA := hbw106
    have hopA := hps9.op.same (w1 := w106) (fun g hg => hgA.block g (hps9.lt.2.1 g hg).2 (fun e => (hps9.nl g (lB_own e.symm)).1 hg))
    have hkr10 : Blk w106 b2 #[.slice pr (rItem wd s1).2.ws.length cr, .bool (rItem wd s1).2.bad] 129 := (hgA.block b2 hkr9.lt (fun e => by have := (hll _ (lB_own e.symm)).2; omega)).trans hkr9
    refine WL.nil <| ?_
    refine WY.tk 8 rfl (.nck rfl) rfl ?_
    refine WY.tk 9 rfl (.fa underlying76 rfl sizeOf74 dD rfl) rfl ?_
    refine WY.br1 10 rfl ?_
    refine WL.stF (L := pageL) ⟨xl.fWidth, xl.fHeight, pi, xl.fItems ++ [{ x with pfClips := pcl, fClips := clips, cfClips := ccl }], ci⟩ init.length 2 hopA (by simp) dD sizeOf74 rfl rfl rfl (by rw [hgl]; rfl) (fun wc gc hgc huc hoc => ?_)
    have hgo : (Value.slice ppg (init ++ (some xl).toList).length cpg).ownBlock = some gc := by rw [hgc]; rfl
    obtain ⟨hpsF, hmF⟩ := PSt.push hps9 hyo9 hyi9 hoA hgA hfA hgo huc (by simpa using hoc)
    have hgcl := hpl gc hgo
    have hkr11 := hkr10.upd huc oO
    have hBF : Below b w wc := Upd.below ((hBT.trans (hBT2.mono (by have := hBT.size; omega))).trans (hbA.mono (Nat.le_succ b))) oO huc
    refine WL.nil <| ?_
    refine WY.done kR ?_
    refine W.sr <| WL.m rfl rfl <| WL.p (.nck rfl) rfl <| WL.p (.fa underlying129 rfl sizeOf4 dD rfl) rfl <| WL.r (Rd.ld (isAgg4 _) rfl hkr11 rfl) rfl <| WL.p (.not rfl) rfl <| WL.m rfl rfl <| WL.gd rfl rfl rfl (fun g110 => ?_) (fun g110 => ?_)
    · have g110' := (nT g110)
      refine WL.m rfl rfl <| WL.gy rfl rfl rfl (by rw [(nT g110)] <;> rfl) <| WL.p (.nck rfl) rfl <| WL.gy rfl rfl rfl (by rw [(nT g110)] <;> rfl) <| WL.p (.fa underlying129 rfl sizeOf28 dD rfl) rfl <| WL.gy rfl rfl rfl (by rw [(nT g110)] <;> rfl) <| WL.r (Rd.ld (isAgg28 _) rfl hkr11 rfl) rfl <| WL.gy rfl rfl rfl (by rw [(nT g110)] <;> rfl) <| WL.p (.lenS underlying28 rfl) rfl <| WL.gy rfl rfl rfl (by rw [(nT g110)] <;> rfl) <| WL.p (.eql rfl rfl) rfl <| WL.p (.pkT rfl (by rw [(nT g110)] <;> rfl) rfl) rfl <| WL.z rfl rfl ?_
      refine W.ret (W.ret1 rfl rfl ?_)
      first
      | (have hn : rLine (splitC 32 l) (psOf init last clips) = none := by
           rw [hrl]
           cases hq : (rItem wd s1).1 with
           | none => rfl
           | some it =>
             have h3 : (init ++ last.toList) = [] := List.length_eq_zero_iff.1 (by first | omega | (exfalso; simp_all))
             simp only [psOf, h3, List.map_nil, if_pos]
         rw [hn]
         exact ⟨rfl, hB5.mono oO, fun ps hps => by cases hps⟩)
      | (obtain ⟨it, hit⟩ := Option.isSome_iff_exists.1 hsome
         have hei := hex it hit
         have hc0 : ¬ (psOf init (some xl) clips).pages = [] := by
           intro e
           have h2 : (init ++ (some xl).toList).map erPage = [] := e
           simp at h2
         rw [hit] at hrl
         simp only [if_neg hc0] at hrl
         rw [hrl, fin_eq]
         refine ⟨scr_val ?_, hBF, fun ps hps => ?_⟩
         · split <;> simp_all
         · split at hps
           · cases hps
             refine ⟨_, _, _, _, _, hpsF, ?_, fun g hgd => ?_⟩
             · unfold psOf
               rw [← addItem_er, ← hei]; rfl
             · have g1 := hmT g (hgd.grow hB6.size)
               have g2 := hmF g (g1.1.grow hBT2.size)
               exact ⟨g2.1, g2.2.trans ((hBT2.block g g1.1.2.1).trans (g1.2.trans (hB6.block g hgd.2.1)))⟩
           · cases hps)
    have g110' := (nF g110)
    refine WL.gn rfl rfl rfl (by rw [(nF g110)] <;> rfl) <| WL.gn rfl rfl rfl (by rw [(nF g110)] <;> rfl) <| WL.gn rfl rfl rfl (by rw [(nF g110)] <;> rfl) <| WL.gn rfl rfl rfl (by rw [(nF g110)] <;> rfl) <| WL.gn rfl rfl rfl (by rw [(nF g110)] <;> rfl) <| WL.p (.pkF rfl (by rw [(nF g110)] <;> rfl) rfl) rfl <| WL.z rfl rfl ?_
    refine W.ret (W.ret1 rfl rfl ?_)
    first
    | (have hn : rLine (splitC 32 l) (psOf init last clips) = none := by
         rw [hrl]
         cases hq : (rItem wd s1).1 with
         | none => rfl
         | some it =>
           have h3 : (init ++ last.toList) = [] := List.length_eq_zero_iff.1 (by first | omega | (exfalso; simp_all))
           simp only [psOf, h3, List.map_nil, if_pos]
       rw [hn]
       exact ⟨rfl, hB5.mono oO, fun ps hps => by cases hps⟩)
    | (obtain ⟨it, hit⟩ := Option.isSome_iff_exists.1 hsome
       have hei := hex it hit
       have hc0 : ¬ (psOf init (some xl) clips).pages = [] := by
         intro e
         have h2 : (init ++ (some xl).toList).map erPage = [] := e
         simp at h2
       rw [hit] at hrl
       simp only [if_neg hc0] at hrl
       rw [hrl, fin_eq]
       refine ⟨scr_val ?_, hBF, fun ps hps => ?_⟩
       · split <;> simp_all
       · split at hps
         · cases hps
           refine ⟨_, _, _, _, _, hpsF, ?_, fun g hgd => ?_⟩
           · unfold psOf
             rw [← addItem_er, ← hei]; rfl
           · have g1 := hmT g (hgd.grow hB6.size)
             have g2 := hmF g (g1.1.grow hBT2.size)
             exact ⟨g2.1, g2.2.trans ((hBT2.block g g1.1.2.1).trans (g1.2.trans (hB6.block g hgd.2.1)))⟩
         · cases hps)
    refine WL.bslM (L := itemL) (ps := _) ([({ x with pfClips := pcl, fClips := clips, cfClips := ccl } : ItemV)]) underlying74 sizeOf87 zeroValue87 rfl rfl rfl rfl rfl (by first | rfl | decide) rfl rfl (fun b111 wb111 eb111 hob111 hub111 hsb111 => ?_)
    have hl113 : b < b111 := by rw [eb111]; exact hk77.lt
    have hl115 : b2 < b111 := by rw [eb111]; exact hk78.lt
    have hk114 := hk78.upd hub111 (Nat.ne_of_lt hl115)
    have hl117 : b5 < b111 := by rw [eb111]; exact hk79.lt
    have hvl119 := fun h0 => eb111 ▸ hv80.lt h0
    have hv118 := RowM.upd hv80 hub111 (fun h0 => Nat.ne_of_lt (hvl119 h0))
    have hleb111 : b111 ≤ wb111.heap.size := by omega
    refine WL.nil <| ?_
    refine WY.br1 4 rfl ?_
    have hc57 := ((hv118).field init.length (by simp) 2 dD).trans (show (pageL.V (init ++ (some xl).toList)[init.length])[2]? = some (.slice xl.pfItems xl.fItems.length xl.cfItems) by rw [hgl]; rfl)
    refine WL.r (Rd.ldc (isAgg74 _) rfl hc57) rfl <| WL.nil <| ?_
    refine WY.br1 7 rfl ?_
    have hz9 := Drew.size dw76
    have hBT2 := Upd.below (Drew.below hBT1 dw76) oO hub111
    have hps9 := hpsT.below hBT2
    have hyo9 := hyT.below hBT2
    have hyi9 := hyiT.mono (fun g hg => (⟨hg.1, Nat.lt_of_lt_of_le hg.2.1 hBT2.size, hg.2.2⟩ : Dp b wb111.heap.size _ _ _ g))
    obtain ⟨hol9, -⟩ := hps9.ol xl rfl
    have hle9 : b + 1 ≤ wb111.heap.size := hps9.blk.lt
    have hkr9 := hk114
    refine WL.appM underlying74 inf87 rfl rfl rfl hol9 rfl (hob111).rowp (by have := hni xl rfl; simp only [List.length_cons, List.length_nil]; omega) (hle9) rfl (fun h => nomatch h) (fun v120 w121 how121 hbw121 hgw121 hfw121 => ?_)
    have hle123 := Nat.le_trans hle9 hbw121.size
    obtain ⟨pi, ci, evi, -⟩ := (how121).mk
    subst evi
    have hoA := how121
    have hgA := hgw121
    have hfA := hfw121
    have hbA := hbw121
    have hopA := hps9.op.same (w1 := w121) (fun g hg => hgA.block g (hps9.lt.2.1 g hg).2 (fun e => (hps9.nl g (lB_own e.symm)).1 hg))
    have hkr10 : Blk w121 b2 #[.slice pr (rItem wd s1).2.ws.length cr, .bool (rItem wd s1).2.bad] 129 := (hgA.block b2 hkr9.lt (fun e => by have := (hll _ (lB_own e.symm)).2; omega)).trans hkr9
    refine WL.nil <| ?_
    refine WY.tk 8 rfl (.nck rfl) rfl ?_
    refine WY.tk 9 rfl (.fa underlying76 rfl sizeOf74 dD rfl) rfl ?_
    refine WY.br1 10 rfl ?_
    refine WL.stF (L := pageL) ⟨xl.fWidth, xl.fHeight, pi, xl.fItems ++ [{ x with pfClips := pcl, fClips := clips, cfClips := ccl }], ci⟩ init.length 2 hopA (by simp) dD sizeOf74 rfl rfl rfl (by rw [hgl]; rfl) (fun wc gc hgc huc hoc => ?_)
    have hgo : (Value.slice ppg (init ++ (some xl).toList).length cpg).ownBlock = some gc := by rw [hgc]; rfl
    obtain ⟨hpsF, hmF⟩ := PSt.push hps9 hyo9 hyi9 hoA hgA hfA hgo huc (by simpa using hoc)
    have hgcl := hpl gc hgo
    have hkr11 := hkr10.upd huc oO
    have hBF : Below b w wc := Upd.below ((hBT.trans (hBT2.mono (by have := hBT.size; omega))).trans (hbA.mono (Nat.le_succ b))) oO huc
    refine WL.nil <| ?_
    refine WY.done kR ?_
    refine W.sr <| WL.m rfl rfl <| WL.p (.nck rfl) rfl <| WL.p (.fa underlying129 rfl sizeOf4 dD rfl) rfl <| WL.r (Rd.ld (isAgg4 _) rfl hkr11 rfl) rfl <| WL.p (.not rfl) rfl <| WL.m rfl rfl <| WL.gd rfl rfl rfl (fun g125 => ?_) (fun g125 => ?_)
    · have g125' := (nT g125)
      refine WL.m rfl rfl <| WL.gy rfl rfl rfl (by rw [(nT g125)] <;> rfl) <| WL.p (.nck rfl) rfl <| WL.gy rfl rfl rfl (by rw [(nT g125)] <;> rfl) <| WL.p (.fa underlying129 rfl sizeOf28 dD rfl) rfl <| WL.gy rfl rfl rfl (by rw [(nT g125)] <;> rfl) <| WL.r (Rd.ld (isAgg28 _) rfl hkr11 rfl) rfl <| WL.gy rfl rfl rfl (by rw [(nT g125)] <;> rfl) <| WL.p (.lenS underlying28 rfl) rfl <| WL.gy rfl rfl rfl (by rw [(nT g125)] <;> rfl) <| WL.p (.eql rfl rfl) rfl <| WL.p (.pkT rfl (by rw [(nT g125)] <;> rfl) rfl) rfl <| WL.z rfl rfl ?_
      refine W.ret (W.ret1 rfl rfl ?_)
      first
      | (have hn : rLine (splitC 32 l) (psOf init last clips) = none := by
           rw [hrl]
           cases hq : (rItem wd s1).1 with
           | none => rfl
           | some it =>
             have h3 : (init ++ last.toList) = [] := List.length_eq_zero_iff.1 (by first | omega | (exfalso; simp_all))
             simp only [psOf, h3, List.map_nil, if_pos]
         rw [hn]
         exact ⟨rfl, hB5.mono oO, fun ps hps => by cases hps⟩)
      | (obtain ⟨it, hit⟩ := Option.isSome_iff_exists.1 hsome
         have hei := hex it hit
         have hc0 : ¬ (psOf init (some xl) clips).pages = [] := by
           intro e
           have h2 : (init ++ (some xl).toList).map erPage = [] := e
           simp at h2
         rw [hit] at hrl
         simp only [if_neg hc0] at hrl
         rw [hrl, fin_eq]
         refine ⟨scr_val ?_, hBF, fun ps hps => ?_⟩
         · split <;> simp_all
         · split at hps
           · cases hps
             refine ⟨_, _, _, _, _, hpsF, ?_, fun g hgd => ?_⟩
             · unfold psOf
               rw [← addItem_er, ← hei]; rfl
             · have g1 := hmT g (hgd.grow hB6.size)
               have g2 := hmF g (g1.1.grow hBT2.size)
               exact ⟨g2.1, g2.2.trans ((hBT2.block g g1.1.2.1).trans (g1.2.trans (hB6.block g hgd.2.1)))⟩
           · cases hps)
    have g125' := (nF g125)
    refine WL.gn rfl rfl rfl (by rw [(nF g125)] <;> rfl) <| WL.gn rfl rfl rfl (by rw [(nF g125)] <;> rfl) <| WL.gn rfl rfl rfl (by rw [(nF g125)] <;> rfl) <| WL.gn rfl rfl rfl (by rw [(nF g125)] <;> rfl) <| WL.gn rfl rfl rfl (by rw [(nF g125)] <;> rfl) <| WL.p (.pkF rfl (by rw [(nF g125)] <;> rfl) rfl) rfl <| WL.z rfl rfl ?_
    refine W.ret (W.ret1 rfl rfl ?_)
    first
    | (have hn : rLine (splitC 32 l) (psOf init last clips) = none := by
         rw [hrl]
         cases hq : (rItem wd s1).1 with
         | none => rfl
         | some it =>
           have h3 : (init ++ last.toList) = [] := List.length_eq_zero_iff.1 (by first | omega | (exfalso; simp_all))
           simp only [psOf, h3, List.map_nil, if_pos]
       rw [hn]
       exact ⟨rfl, hB5.mono oO, fun ps hps => by cases hps⟩)
    | (obtain ⟨it, hit⟩ := Option.isSome_iff_exists.1 hsome
       have hei := hex it hit
       have hc0 : ¬ (psOf init (some xl) clips).pages = [] := by
         intro e
         have h2 : (init ++ (some xl).toList).map erPage = [] := e
         simp at h2
       rw [hit] at hrl
       simp only [if_neg hc0] at hrl
       rw [hrl, fin_eq]
       refine ⟨scr_val ?_, hBF, fun ps hps => ?_⟩
       · split <;> simp_all
       · split at hps
         · cases hps
           refine ⟨_, _, _, _, _, hpsF, ?_, fun g hgd => ?_⟩
           · unfold psOf
             rw [← addItem_er, ← hei]; rfl
           · have g1 := hmT g (hgd.grow hB6.size)
             have g2 := hmF g (g1.1.grow hBT2.size)
             exact ⟨g2.1, g2.2.trans ((hBT2.block g g1.1.2.1).trans (g1.2.trans (hB6.block g hgd.2.1)))⟩
         · cases hps)
  have g13' := (nT g13)
  refine WL.gn rfl rfl rfl (by rw [(nT g13)] <;> rfl) <| WL.gn rfl rfl rfl (by rw [(nT g13)] <;> rfl) <| WL.gn rfl rfl rfl (by rw [(nT g13)] <;> rfl) <| WL.gn rfl rfl rfl (by rw [(nT g13)] <;> rfl) <| WL.gn rfl rfl rfl (by rw [(nT g13)] <;> rfl) <| WL.p (.pkT rfl (by rw [(nT g13)] <;> rfl) rfl) rfl <| WL.nil <| ?_
  refine W.condT rfl rfl ?_
  refine W.sr <| WL.z rfl rfl ?_
  refine W.ret (W.ret1 rfl rfl ?_)
  first
  | (have hn : rLine (splitC 32 l) (psOf init last clips) = none := by
       rw [hrl]
       cases hq : (rItem wd s1).1 with
       | none => rfl
       | some it =>
         have h3 : (init ++ last.toList) = [] := List.length_eq_zero_iff.1 (by first | omega | (exfalso; simp_all))
         simp only [psOf, h3, List.map_nil, if_pos]
     rw [hn]
     exact ⟨rfl, hB5.mono oO, fun ps hps => by cases hps⟩)
  | (obtain ⟨it, hit⟩ := Option.isSome_iff_exists.1 hsome
     have hei := hex it hit
     have hc0 : ¬ (psOf init (some xl) clips).pages = [] := by
       intro e
       have h2 : (init ++ (some xl).toList).map erPage = [] := e
       simp at h2
     rw [hit] at hrl
     simp only [if_neg hc0] at hrl
     rw [hrl, fin_eq]
     refine ⟨scr_val ?_, hBF, fun ps hps => ?_⟩
     · split <;> simp_all
     · split at hps
       · cases hps
         refine ⟨_, _, _, _, _, hpsF, ?_, fun g hgd => ?_⟩
         · unfold psOf
           rw [← addItem_er, ← hei]; rfl
         · have g1 := hmT g (hgd.grow hB6.size)
           have g2 := hmF g (g1.1.grow hBT2.size)
           exact ⟨g2.1, g2.2.trans ((hBT2.block g g1.1.2.1).trans (g1.2.trans (hB6.block g hgd.2.1)))⟩
       · cases hps)
end
section
def PSn (k : Nat) (p : PS) : Prop := p.pages.length ≤ k ∧ p.clips.length ≤ k ∧ ∀ x ∈ p.pages, x.fItems.length ≤ k
theorem addItem_n {l : List PageV} {it : ItemV} {k : Nat} (hl : l.length ≤ k) (h : ∀ x ∈ l, x.fItems.length ≤ k) : (addItem l it).length ≤ k + 1 ∧ ∀ x ∈ addItem l it, x.fItems.length ≤ k + 1 := by
 unfold addItem
 cases hq : l.getLast? with
 | none =>
  have : l = [] := List.getLast?_eq_none_iff.1 hq
  subst this; simp
 | some y =>
  have hy := h y (List.mem_of_getLast? hq)
  simp only [Option.map_some, Option.toList_some, List.length_append, List.length_dropLast, List.length_cons, List.length_nil]
  refine ⟨by omega, fun x hx => ?_⟩
  rcases List.mem_append.1 hx with hx | hx
  ·
   have := h x (List.dropLast_subset _ hx); omega
  ·
   obtain rfl := List.mem_singleton.1 hx
   simp only [List.length_append, List.length_cons, List.length_nil]; omega
theorem rLine_n {ws : List (List UInt8)} {p p' : PS} {k : Nat} (h : rLine ws p = some p') (hn : PSn k p) : PSn (k + 1) p' := by
 obtain ⟨h1, h2, h3⟩ := hn
 unfold rLine at h
 simp only at h
 split at h
 ·
  split at h
  ·
   cases h
  ·
   split at h
   ·
    cases h
    refine ⟨by simp only [List.length_append, List.length_cons, List.length_nil]; omega, Nat.le_trans h2 (Nat.le_succ _), fun x hx => ?_⟩
    rcases List.mem_append.1 hx with hx | hx
    ·
     exact Nat.le_trans (h3 x hx) (Nat.le_succ _)
    ·
     obtain rfl := List.mem_singleton.1 hx; simp
   ·
    cases h
 ·
  split at h
  ·
   split at h
   ·
    cases h
   ·
    split at h
    ·
     cases h
     exact ⟨Nat.le_trans h1 (Nat.le_succ _), by simp only [List.length_append, List.length_cons, List.length_nil]; omega, fun x hx => Nat.le_trans (h3 x hx) (Nat.le_succ _)⟩
    ·
     cases h
  ·
   split at h
   ·
    cases h
   ·
    split at h
    ·
     cases h
    ·
     split at h
     ·
      cases h
      have := addItem_n (it := { ‹ItemV› with fClips := p.clips }) h1 h3
      exact ⟨this.1, Nat.zero_le _, this.2⟩
     ·
      cases h
theorem prs_line (b : Nat) (l : List UInt8) (vp vc : Value) (init : List PageV) (last : Option PageV) (clips : List ClipV) (p : PS) (k : Nat) (w : World) (h : PSt w b vp vc init last clips) (hp : psOf init last clips = p) (hE : Env w) (hl : l.length ≤ 1100000) (hn : PSn k p) (hk : k ≤ 5000000) :
  Calls Tryz.prog 53 #[.pointer (some ⟨b, 0, none⟩), .string (bs l)] w fun e w' => e = .returned (.bool (rLine (splitC 32 l) p).isSome) ∧ Below b w w' ∧ ∀ ps, rLine (splitC 32 l) p = some ps → ∃ vp' vc' init' last' clips', PSt w' b vp' vc' init' last' clips' ∧ psOf init' last' clips' = ps ∧ ∀ g, Dp b w.heap.size vp vc (lB last) g → Dp b w'.heap.size vp' vc' (lB last') g ∧ w'.heap[g]? = w.heap[g]? := by
 subst hp
 obtain ⟨h1, h2, h3⟩ := hn
 have h1' : (init ++ last.toList).length ≤ 5000000 := by
  have : ((init ++ last.toList).map erPage).length ≤ k := h1
  rw [List.length_map] at this; omega
 have h2' : clips.length ≤ 5000000 := by
  have : (clips.map erClip).length ≤ k := h2
  rw [List.length_map] at this; omega
 have h3' : ∀ x, last = some x → x.fItems.length ≤ 5000000 := fun x hx => by
  have := h3 (erPage x) (List.mem_map.2 ⟨x, by rw [hx]; simp, rfl⟩)
  have e : (erPage x).fItems.length = x.fItems.length := List.length_map ..
  omega
 by_cases c0 : (rWord ⟨splitC 32 l, false⟩).1 = [112, 97, 103, 101]
 ·
  exact prs_page b l vp vc init last clips w h hE hl h1' h2' c0
 ·
  by_cases c1 : (rWord ⟨splitC 32 l, false⟩).1 = [99, 108, 105, 112]
  ·
   exact prs_clip b l vp vc init last clips w h hE hl h1' h2' _ rfl (.inl c1)
  ·
   by_cases c2 : (rWord ⟨splitC 32 l, false⟩).1 = [101, 111, 99, 108, 105, 112]
   ·
    exact prs_clip b l vp vc init last clips w h hE hl h1' h2' _ rfl (.inr c2)
   ·
    exact prs_item b l vp vc init last clips w h hE hl h1' h2' h3' _ rfl c0 c1 c2
/-- lines, one by one; the number of the first that is none -/
def rLines : List (List UInt8) → Nat → PS → Except Nat PS
 | [], _, p => .ok p
 | l :: r, i, p => match rLine (splitC 32 l) p with
  | none => .error i
  | some p' => rLines r (i + 1) p'
def ps0 : PS := ⟨[], []⟩
/-- what a text is read as: pages, or the line and the error -/
def scrParse (t : List UInt8) : Except (Int × Int) (List PageV) :=
 match rLines (splitC 10 t).dropLast 0 ps0 with
 | .error i => .error ((i : Int) + 1, 23)
 | .ok p => if (splitC 10 t).getLast? ≠ some [] then .error (((splitC 10 t).length : Int), 23)
  else if p.clips ≠ [] then .error (((splitC 10 t).length : Int) - 1, 23)
  else if p.pages.all pageB then .ok p.pages else .error (((splitC 10 t).length : Int) - 1, 22)
theorem itemB_er (y : ItemV) : itemB (erItem y) = itemB y := by
 unfold itemB clipsB
 simp only [erItem, List.length_map, List.all_map]
 rfl
theorem pageB_er (x : PageV) : pageB (erPage x) = pageB x := by
 unfold pageB
 simp only [erPage, List.length_map, List.all_map]
 congr 2
 exact funext fun y => itemB_er y
theorem all_er (l : List PageV) : (l.map erPage).all pageB = l.all pageB := by
 rw [List.all_map]
 congr 1
 exact funext fun y => pageB_er y
theorem script_Parse1 (x : PageV) (w : World) (hF : Fonts w) (hx : PageOk w x) : Calls Tryz.prog 55 #[.agg (pageV x).toArray] w fun e w' => e = .returned (.bool (!pageB x)) ∧ Below w.heap.size w w' := by
 refine W.enter func55 rfl ntmps55 (Nat.le_of_ble_eq_true rfl) ?_
 have hB0 := Below.refl (w.heap.size) w
 refine W.sr <| WL.box rfl rfl (fun b1 wb1 eb1 hkb1 hub1 hsb1 => ?_)
 have hB2 := Upd.below hB0 (by rw [eb1]; exact hB0.size) hub1
 have hgeb1 : w.heap.size ≤ b1 := by rw [eb1]; exact hB0.size
 refine WL.z rfl rfl ?_
 refine W.sr <| WL.r (Rd.ldA rfl hkb1 underlying76 rfl isz76) rfl <| WL.c1 hb56 rfl rfl ((paint_Sound x _ (hF.below hB2) (hx.below hB2))) (fun w3 hw3 => ?_)
 have hB5 := btr hB2 hw3
 refine WL.p (.not rfl) rfl <| WL.z rfl rfl ?_
 refine W.ret (W.ret1 rfl rfl ?_)
 exact ⟨rfl, hB5⟩
theorem pPart0 (a : Addr) (c : Nat) : pPart (some a) c 0 = some a := by
 unfold pPart
 split
 ·
  rfl
 ·
  rw [Option.map_some, add_zero_addr]
/-- what Parse hands back -/
def ParseOk (r : Except (Int × Int) (List PageV)) (v : Value) (n e : Int) (w' : World) : Prop := match r with
 | .error q => v = .slice none 0 0 ∧ n = q.1 ∧ e = q.2
 | .ok ps => n = 0 ∧ e = 0 ∧ ∃ p l c, v = .slice p (l : List PageV).length c ∧ RowM pageL w' p l ∧ (∀ x ∈ l, PageOk w' x) ∧ l.map erPage = ps
set_option maxHeartbeats 1600000 in
theorem script_Parse (t : List UInt8) (w : World) (hE : Env w) (ht : t.length ≤ 1048576) :
    Calls Tryz.prog 28 #[.string (bs t)] w fun e w' => ∃ q : Value × Int × Int, e = .returned (.tuple #[q.1, .int .i64 q.2.1, .int .i64 q.2.2]) ∧ Below w.heap.size w w' ∧ ParseOk (scrParse t) q.1 q.2.1 q.2.2 w' := by
  have hsl := splitC_len 10 t
  have hne := splitC_ne 10 t
  generalize hls : splitC 10 t = ls at hsl hne
  have hlp : 0 < ls.length := List.length_pos_iff.2 hne
  refine W.enter func28 rfl ntmps28 (Nat.le_of_ble_eq_true rfl) ?_
  refine W.sr <| WL.a rfl rfl <| WL.a rfl rfl <| WL.z rfl rfl ?_
  refine W.seq <| W.sr <| WL.m rfl rfl <| WL.p (.len underlying9 rfl) rfl <| WL.p (.gtr rfl rfl) rfl <| WL.nil <| ?_
  refine W.cond rfl (fun h1 => ?_) (fun h1 => ?_)
  · have h1' := dT h1
    exfalso; omega
  have h1' := dF h1
  refine W.skip <| W.sr <| WL.alloc zeroValue92 rfl (fun b2 wb2 eb2 hkb2 hub2 hsb2 => ?_)
  refine WL.nil <| ?_
  refine W.sr <| WL.m rfl rfl <| WL.c1 hb52 rfl rfl ((lib_Split t 10 _ (hE.below (Upd.below (Below.refl w.heap.size _) (Nat.le_of_eq eb2.symm) hub2)) oO)) (fun w3 hw3 => ?_)
  obtain ⟨hB1, hrow1, hsz1⟩ := hw3
  rw [hls] at hrow1
  rw [hls]
  have hps1 := (PSt.start (hkb2)).below hB1
  have hB2 : Below w.heap.size w w3 := (Upd.below (Below.refl w.heap.size _) (Nat.le_of_eq eb2.symm) hub2).trans (hB1.mono oO)
  have hb5 : w.heap.size ≤ b2 := Nat.le_of_eq eb2.symm
  have hwb := hB2.size
  refine WL.z rfl rfl ?_
  refine W.seq <| W.sr <| WL.m rfl rfl <| WL.m rfl rfl <| WL.p (.lenS underlying28 rfl) rfl <| WL.p (.iis (((ls.length - 1 : Nat) : Int)) (.sub rfl rfl (i64w oO)) oO) rfl <| WL.p (.slbT underlying28 sizeOf9 rfl rfl  (ls.length - 1) (rfl) oO) rfl <| ?_
  rw [pPart0]
  refine WL.p (.lenS underlying28 rfl) rfl <| WL.m rfl rfl <| WL.nil <| ?_
  refine W.block ?_
  refine W.loop (α := Nat × PS) (fun t => [(5, .pointer (some ⟨b2, 0, none⟩)), (6, .slice (some ⟨wb2.heap.size, 0, none⟩) ls.length ls.length), (19, .slice (some ⟨wb2.heap.size, 0, none⟩) (ls.length - 1) ls.length), (20, .int .i64 ((ls.length - 1 : Nat) : Int)), (21, .int .i64 (t.1 : Int))]) (fun t w' => Below w.heap.size w w' ∧ (∃ vp vc init last clips, PSt w' b2 vp vc init last clips ∧ psOf init last clips = t.2 ∧ Dp b2 w'.heap.size vp vc (lB last) wb2.heap.size) ∧ RowAt strV w' (some ⟨wb2.heap.size, 0, none⟩) ls ∧ PSn t.1 t.2 ∧ rLines ls.dropLast 0 ps0 = rLines (ls.dropLast.drop t.1) t.1 t.2 ∧ t.1 ≤ ls.length - 1) (fun t => ls.length - t.1) ((0, ps0)) ⟨rfl, rfl, rfl, rfl, rfl, trivial⟩ (⟨hB2, ⟨_, _, _, _, _, hps1, rfl, ⟨by omega, by omega, (fun e => by cases e), (fun e => by cases e), (fun e => by cases e)⟩⟩, hrow1, ⟨Nat.zero_le _, Nat.zero_le _, fun x hx => by cases hx⟩, rfl, Nat.zero_le _⟩) (fun t w1 hR => ?_)
  obtain ⟨i, p⟩ := t
  obtain ⟨hB3, ⟨vp, vc, init, last, clips, hps, hpp, hdp⟩, hrl, hpn, hrr, hi⟩ := hR
  simp only at hB3 hps hpp hdp hrl hpn hrr hi ⊢
  refine W.sr <| WL.p (.lss rfl rfl) rfl <| WL.nil <| ?_
  refine W.seq <| W.cond rfl (fun h4 => ?_) (fun h4 => ?_)
  · have h4' := dT h4
    have hil : i < ls.length - 1 := by omega
    have hll := hsl.2 _ (List.getElem_mem (show i < ls.length by omega))
    have hdl : i < ls.dropLast.length := by rw [List.length_dropLast]; omega
    have hrd : rLines (ls.dropLast.drop i) i p = match rLine (splitC 32 ls[i]) p with
      | none => .error i
      | some p' => rLines (ls.dropLast.drop (i + 1)) (i + 1) p' := by
      rw [List.drop_eq_getElem_cons hdl, List.getElem_dropLast]; rfl
    refine W.skip <| W.seq <| W.block <| W.sr <| WL.m rfl rfl <| WL.p (.ixb underlying28 sizeOf9 rfl rfl (hrl.isp oO) (i) (rfl) oO) rfl <| WL.r (Rd.ldc (isAgg9 _) rfl (hrl.cells (i) oO)) rfl <| WL.a rfl rfl <| WL.z rfl rfl ?_
    refine W.sr <| WL.m rfl rfl <| WL.c1 hb53 rfl rfl ((prs_line b2 ls[i] vp vc init last clips p i _ hps hpp (hE.below hB3) oO hpn oO)) (fun w5 hw5 => ?_)
    obtain ⟨hB4, hnx⟩ := hw5
    have hB5 := hB3.trans (hB4.mono hb5)
    refine WL.p (.not rfl) rfl <| WL.nil <| ?_
    refine W.cond rfl (fun h6 => ?_) (fun h6 => ?_)
    · have h6' := (nT h6)
      have hno : rLine (splitC 32 ls[i]) p = none := by
        cases hq : rLine (splitC 32 ls[i]) p with
        | none => rfl
        | some q => exfalso; simp_all
      rw [hno] at hrd
      refine W.sr <| WL.m rfl rfl <| WL.p (.iis (((i : Int) + 1)) (.add rfl rfl (i64w oO)) oO) rfl <| WL.a rfl rfl <| WL.a rfl rfl <| WL.z rfl rfl ?_
      refine W.ret (W.ret3 rfl rfl rfl rfl ?_)
      first
      | (have hsA : scrParse t = .error ((i : Int) + 1, 23) := by unfold scrParse; rw [hls, hrr.trans hrd]
         exact ⟨(_, _, _), rfl, hB5, by rw [hsA]; exact ⟨rfl, rfl, rfl⟩⟩)
      | exact ⟨(_, _, _), rfl, hB3, by rw [hs0, if_pos (hg2.2 aS)]; exact ⟨rfl, rfl, rfl⟩⟩
      | exact ⟨(_, _, _), rfl, hB3, by rw [hs0, if_neg (fun e => hg2.1 e aS), if_pos (hc2.2 oO)]; exact ⟨rfl, by show ((ls.length - 1 : Nat) : Int) = (ls.length : Int) - 1; omega, rfl⟩⟩
      | (have h9 : (init ++ last.toList).any (fun x => !pageB x) = true := by assumption
         have hal : p.pages.all pageB = false := by rw [ha2]; rw [ha3] at h9; revert h9; generalize (init ++ last.toList).all pageB = qq; revert qq; decide
         exact ⟨(_, _, _), rfl, hB3.trans (hB6.mono hB3.size), by rw [hs0, if_neg (fun e => hg2.1 e aS), if_neg (fun e => hc2.1 e oO), if_neg (by rw [hal]; simp)]; exact ⟨rfl, by show ((ls.length - 1 : Nat) : Int) = (ls.length : Int) - 1; omega, rfl⟩⟩)
      | (have h9 : (init ++ last.toList).any (fun x => !pageB x) = false := by assumption
         have hal : p.pages.all pageB = true := by rw [ha2]; rw [ha3] at h9; revert h9; generalize (init ++ last.toList).all pageB = qq; revert qq; decide
         exact ⟨(_, _, _), rfl, hB3.trans (hB6.mono hB3.size), by rw [hs0, if_neg (fun e => hg2.1 e aS), if_neg (fun e => hc2.1 e oO), if_pos hal]; exact ⟨rfl, rfl, ppg, init ++ last.toList, cpg, rfl, hrp.below hB6 (fun h0 => hrp.lt h0), fun x hx => (hps.pages x hx).below hB6, by rw [← hpp]; rfl⟩⟩)
    have h6' := (nF h6)
    obtain ⟨p', hp'⟩ : ∃ p', rLine (splitC 32 ls[i]) p = some p' := by
      cases hq : rLine (splitC 32 ls[i]) p with
      | none => exfalso; simp_all
      | some q => exact ⟨q, rfl⟩
    rw [hp'] at hrd
    obtain ⟨vp', vc', init', last', clips', hps', hpp', hmv⟩ := hnx p' hp'
    refine W.skip <| W.reg <| WL.p (.iis (((i + 1 : Nat) : Int)) (.add rfl rfl (i64w oO)) oO) rfl <| WL.m rfl rfl <| WL.nil <| ?_
    exact ⟨(i + 1, p'), ⟨rfl, rfl, rfl, rfl, rfl, trivial⟩, ⟨hB5, ⟨_, _, _, _, _, hps', hpp', (hmv _ hdp).1⟩, hrl.same (fun _ => (hmv _ hdp).2), rLine_n hp' hpn, hrr.trans hrd, by ((try simp only) <;> omega)⟩, by ((try simp only) <;> omega)⟩
  have h4' := dF h4
  obtain rfl : i = ls.length - 1 := by omega
  have hdn : ls.dropLast.drop (ls.length - 1) = [] := List.drop_eq_nil_iff.2 (by rw [List.length_dropLast]; omega)
  rw [hdn] at hrr
  obtain ⟨ppg, cpg, evp, hrp, hsp, -⟩ := hps.op.mk
  obtain ⟨pcl, ccl, evc, -⟩ := hps.oc.mk
  subst evp evc
  have hkf := hps.blk
  have hgl : ls.getLast? = some (ls[ls.length - 1]'oO) := List.getLast?_eq_getElem? .. ▸ List.getElem?_eq_getElem oO
  have hs0 : scrParse t = (if ls.getLast? ≠ some [] then .error ((ls.length : Int), 23) else if p.clips ≠ [] then .error ((ls.length : Int) - 1, 23) else if p.pages.all pageB then .ok p.pages else .error ((ls.length : Int) - 1, 22)) := by
    unfold scrParse; rw [hls, hrr]; rfl
  have hg2 : (ls.getLast? ≠ some []) ↔ ¬ ls[ls.length - 1]'oO = [] := by rw [hgl]; simp
  have hc2 : p.clips ≠ [] ↔ clips.length ≠ 0 := by rw [← hpp]; simp [psOf]
  have ha2 : p.pages.all pageB = (init ++ last.toList).all pageB := by rw [← hpp]; exact all_er _
  have ha3 := all_bnot pageB (init ++ last.toList)
  refine W.exit <| W.sr <| WL.m rfl rfl <| WL.p (.lenS underlying28 rfl) rfl <| WL.p (.iis (((ls.length - 1 : Nat) : Int)) (.sub rfl rfl (i64w oO)) oO) rfl <| WL.z rfl rfl ?_
  refine W.seq <| W.block <| W.sr <| WL.m rfl rfl <| WL.m rfl rfl <| WL.p (.ixb underlying28 sizeOf9 rfl rfl (hrl.isp oO) (ls.length - 1) (rfl) oO) rfl <| WL.r (Rd.ldc (isAgg9 _) rfl (hrl.cells (ls.length - 1) oO)) rfl <| WL.p (.nes rfl rfl) rfl <| WL.z rfl rfl ?_
  refine W.cond rfl (fun h7 => ?_) (fun h7 => ?_)
  · have h7' := ndT h7
    refine W.sr <| WL.m rfl rfl <| WL.p (.iis (((ls.length : Nat) : Int)) (.add rfl rfl (i64w oO)) oO) rfl <| WL.a rfl rfl <| WL.a rfl rfl <| WL.z rfl rfl ?_
    refine W.ret (W.ret3 rfl rfl rfl rfl ?_)
    first
    | (have hsA : scrParse t = .error ((i : Int) + 1, 23) := by unfold scrParse; rw [hls, hrr.trans hrd]
       exact ⟨(_, _, _), rfl, hB5, by rw [hsA]; exact ⟨rfl, rfl, rfl⟩⟩)
    | exact ⟨(_, _, _), rfl, hB3, by rw [hs0, if_pos (hg2.2 aS)]; exact ⟨rfl, rfl, rfl⟩⟩
    | exact ⟨(_, _, _), rfl, hB3, by rw [hs0, if_neg (fun e => hg2.1 e aS), if_pos (hc2.2 oO)]; exact ⟨rfl, by show ((ls.length - 1 : Nat) : Int) = (ls.length : Int) - 1; omega, rfl⟩⟩
    | (have h9 : (init ++ last.toList).any (fun x => !pageB x) = true := by assumption
       have hal : p.pages.all pageB = false := by rw [ha2]; rw [ha3] at h9; revert h9; generalize (init ++ last.toList).all pageB = qq; revert qq; decide
       exact ⟨(_, _, _), rfl, hB3.trans (hB6.mono hB3.size), by rw [hs0, if_neg (fun e => hg2.1 e aS), if_neg (fun e => hc2.1 e oO), if_neg (by rw [hal]; simp)]; exact ⟨rfl, by show ((ls.length - 1 : Nat) : Int) = (ls.length : Int) - 1; omega, rfl⟩⟩)
    | (have h9 : (init ++ last.toList).any (fun x => !pageB x) = false := by assumption
       have hal : p.pages.all pageB = true := by rw [ha2]; rw [ha3] at h9; revert h9; generalize (init ++ last.toList).all pageB = qq; revert qq; decide
       exact ⟨(_, _, _), rfl, hB3.trans (hB6.mono hB3.size), by rw [hs0, if_neg (fun e => hg2.1 e aS), if_neg (fun e => hc2.1 e oO), if_pos hal]; exact ⟨rfl, rfl, ppg, init ++ last.toList, cpg, rfl, hrp.below hB6 (fun h0 => hrp.lt h0), fun x hx => (hps.pages x hx).below hB6, by rw [← hpp]; rfl⟩⟩)
  have h7' := ndF h7
  refine W.sr <| WL.p (.fa underlying92 rfl sizeOf81 dD rfl) rfl <| WL.r (Rd.ld (isAgg81 _) rfl hkf rfl) rfl <| WL.p (.lenS underlying81 rfl) rfl <| WL.p (.gtr rfl rfl) rfl <| WL.z rfl rfl ?_
  refine W.cond rfl (fun h8 => ?_) (fun h8 => ?_)
  · have h8' := dT h8
    refine W.sr <| WL.m rfl rfl <| WL.a rfl rfl <| WL.a rfl rfl <| WL.z rfl rfl ?_
    refine W.ret (W.ret3 rfl rfl rfl rfl ?_)
    first
    | (have hsA : scrParse t = .error ((i : Int) + 1, 23) := by unfold scrParse; rw [hls, hrr.trans hrd]
       exact ⟨(_, _, _), rfl, hB5, by rw [hsA]; exact ⟨rfl, rfl, rfl⟩⟩)
    | exact ⟨(_, _, _), rfl, hB3, by rw [hs0, if_pos (hg2.2 aS)]; exact ⟨rfl, rfl, rfl⟩⟩
    | exact ⟨(_, _, _), rfl, hB3, by rw [hs0, if_neg (fun e => hg2.1 e aS), if_pos (hc2.2 oO)]; exact ⟨rfl, by show ((ls.length - 1 : Nat) : Int) = (ls.length : Int) - 1; omega, rfl⟩⟩
    | (have h9 : (init ++ last.toList).any (fun x => !pageB x) = true := by assumption
       have hal : p.pages.all pageB = false := by rw [ha2]; rw [ha3] at h9; revert h9; generalize (init ++ last.toList).all pageB = qq; revert qq; decide
       exact ⟨(_, _, _), rfl, hB3.trans (hB6.mono hB3.size), by rw [hs0, if_neg (fun e => hg2.1 e aS), if_neg (fun e => hc2.1 e oO), if_neg (by rw [hal]; simp)]; exact ⟨rfl, by show ((ls.length - 1 : Nat) : Int) = (ls.length : Int) - 1; omega, rfl⟩⟩)
    | (have h9 : (init ++ last.toList).any (fun x => !pageB x) = false := by assumption
       have hal : p.pages.all pageB = true := by rw [ha2]; rw [ha3] at h9; revert h9; generalize (init ++ last.toList).all pageB = qq; revert qq; decide
       exact ⟨(_, _, _), rfl, hB3.trans (hB6.mono hB3.size), by rw [hs0, if_neg (fun e => hg2.1 e aS), if_neg (fun e => hc2.1 e oO), if_pos hal]; exact ⟨rfl, rfl, ppg, init ++ last.toList, cpg, rfl, hrp.below hB6 (fun h0 => hrp.lt h0), fun x hx => (hps.pages x hx).below hB6, by rw [← hpp]; rfl⟩⟩)
  have h8' := dF h8
  refine W.sr <| WL.p (.fa underlying92 rfl sizeOf47 dD rfl) rfl <| WL.r (Rd.ld (isAgg47 _) rfl hkf rfl) rfl <| WL.c1 hb54 rfl rfl ((lib_ContainsPage hb55 ppg (init ++ last.toList) cpg (fun x => !pageB x) _ hrp hsp.len (fun j h w1 hb1 => script_Parse1 _ _ ((hE.below hB3).fonts.below hb1) ((hps.pages _ (List.getElem_mem h)).below hb1)))) (fun w9 hw9 => ?_)
  have hB6 := hw9
  have hkf2 := (hps.below hB6).blk
  refine WL.z rfl rfl ?_
  refine W.cond rfl (fun h10 => ?_) (fun h10 => ?_)
  refine W.sr <| WL.m rfl rfl <| WL.a rfl rfl <| WL.a rfl rfl <| WL.z rfl rfl ?_
  refine W.ret (W.ret3 rfl rfl rfl rfl ?_)
  first
  | (have hsA : scrParse t = .error ((i : Int) + 1, 23) := by unfold scrParse; rw [hls, hrr.trans hrd]
     exact ⟨(_, _, _), rfl, hB5, by rw [hsA]; exact ⟨rfl, rfl, rfl⟩⟩)
  | exact ⟨(_, _, _), rfl, hB3, by rw [hs0, if_pos (hg2.2 aS)]; exact ⟨rfl, rfl, rfl⟩⟩
  | exact ⟨(_, _, _), rfl, hB3, by rw [hs0, if_neg (fun e => hg2.1 e aS), if_pos (hc2.2 oO)]; exact ⟨rfl, by show ((ls.length - 1 : Nat) : Int) = (ls.length : Int) - 1; omega, rfl⟩⟩
  | (have h9 : (init ++ last.toList).any (fun x => !pageB x) = true := by assumption
     have hal : p.pages.all pageB = false := by rw [ha2]; rw [ha3] at h9; revert h9; generalize (init ++ last.toList).all pageB = qq; revert qq; decide
     exact ⟨(_, _, _), rfl, hB3.trans (hB6.mono hB3.size), by rw [hs0, if_neg (fun e => hg2.1 e aS), if_neg (fun e => hc2.1 e oO), if_neg (by rw [hal]; simp)]; exact ⟨rfl, by show ((ls.length - 1 : Nat) : Int) = (ls.length : Int) - 1; omega, rfl⟩⟩)
  | (have h9 : (init ++ last.toList).any (fun x => !pageB x) = false := by assumption
     have hal : p.pages.all pageB = true := by rw [ha2]; rw [ha3] at h9; revert h9; generalize (init ++ last.toList).all pageB = qq; revert qq; decide
     exact ⟨(_, _, _), rfl, hB3.trans (hB6.mono hB3.size), by rw [hs0, if_neg (fun e => hg2.1 e aS), if_neg (fun e => hc2.1 e oO), if_pos hal]; exact ⟨rfl, rfl, ppg, init ++ last.toList, cpg, rfl, hrp.below hB6 (fun h0 => hrp.lt h0), fun x hx => (hps.pages x hx).below hB6, by rw [← hpp]; rfl⟩⟩)
  refine W.skip <| W.sr <| WL.p (.fa underlying92 rfl sizeOf47 dD rfl) rfl <| WL.r (Rd.ld (isAgg47 _) rfl hkf2 rfl) rfl <| WL.a rfl rfl <| WL.a rfl rfl <| WL.z rfl rfl ?_
  refine W.ret (W.ret3 rfl rfl rfl rfl ?_)
  first
  | (have hsA : scrParse t = .error ((i : Int) + 1, 23) := by unfold scrParse; rw [hls, hrr.trans hrd]
     exact ⟨(_, _, _), rfl, hB5, by rw [hsA]; exact ⟨rfl, rfl, rfl⟩⟩)
  | exact ⟨(_, _, _), rfl, hB3, by rw [hs0, if_pos (hg2.2 aS)]; exact ⟨rfl, rfl, rfl⟩⟩
  | exact ⟨(_, _, _), rfl, hB3, by rw [hs0, if_neg (fun e => hg2.1 e aS), if_pos (hc2.2 oO)]; exact ⟨rfl, by show ((ls.length - 1 : Nat) : Int) = (ls.length : Int) - 1; omega, rfl⟩⟩
  | (have h9 : (init ++ last.toList).any (fun x => !pageB x) = true := by assumption
     have hal : p.pages.all pageB = false := by rw [ha2]; rw [ha3] at h9; revert h9; generalize (init ++ last.toList).all pageB = qq; revert qq; decide
     exact ⟨(_, _, _), rfl, hB3.trans (hB6.mono hB3.size), by rw [hs0, if_neg (fun e => hg2.1 e aS), if_neg (fun e => hc2.1 e oO), if_neg (by rw [hal]; simp)]; exact ⟨rfl, by show ((ls.length - 1 : Nat) : Int) = (ls.length : Int) - 1; omega, rfl⟩⟩)
  | (have h9 : (init ++ last.toList).any (fun x => !pageB x) = false := by assumption
     have hal : p.pages.all pageB = true := by rw [ha2]; rw [ha3] at h9; revert h9; generalize (init ++ last.toList).all pageB = qq; revert qq; decide
     exact ⟨(_, _, _), rfl, hB3.trans (hB6.mono hB3.size), by rw [hs0, if_neg (fun e => hg2.1 e aS), if_neg (fun e => hc2.1 e oO), if_pos hal]; exact ⟨rfl, rfl, ppg, init ++ last.toList, cpg, rfl, hrp.below hB6 (fun h0 => hrp.lt h0), fun x hx => (hps.pages x hx).below hB6, by rw [← hpp]; rfl⟩⟩)
end
section
def rWs : List (List (List UInt8)) → PS → Option PS
 | [], p => some p
 | ws :: r, p => (rLine ws p).bind (rWs r)
theorem rWs_app : ∀ (a b : List (List (List UInt8))) (p : PS), rWs (a ++ b) p = (rWs a p).bind (rWs b)
 | [], b, p => rfl
 | x :: a, b, p => by
  rw [List.cons_append, rWs, rWs]
  cases rLine x p with
  | none => rfl
  | some q => exact rWs_app a b q
theorem rLines_ws : ∀ (a : List (List (List UInt8))) (b : List (List UInt8)) (i : Nat) (p q : PS), (∀ ws ∈ a, okL ws ∧ ws ≠ []) → rWs a p = some q → rLines (a.map (joinC 32) ++ b) i p = rLines b (i + a.length) q
 | [], b, i, p, q, _, h => by cases h; rfl
 | ws :: a, b, i, p, q, ho, h => by
  obtain ⟨h1, h2⟩ := ho ws (by simp)
  rw [rWs] at h
  cases hl : rLine ws p with
  | none => rw [hl] at h; cases h
  | some p1 =>
   rw [hl] at h
   rw [List.map_cons, List.cons_append, rLines, split_join 32 h2 fun x hx => (h1 x hx).1]
   simp only [hl]
   rw [rLines_ws a b (i + 1) p1 q (fun x hx => ho x (by simp [hx])) h, List.length_cons, show i + 1 + a.length = i + (a.length + 1) by omega]
theorem side_fits {n : Int} (h : sideB n = true) : fitsB n = true := by
 unfold sideB at h
 simp only [Bool.and_eq_true, decide_eq_true_eq] at h
 exact fitsB_yes oO oO
theorem lineF_head {x : PageV} (h : pageB x = true) (ps : List PageV) : rLine (headPs x) ⟨ps, []⟩ = some ⟨ps ++ [⟨x.fWidth, x.fHeight, none, [], 0⟩], []⟩ := by
 unfold pageB at h
 simp only [Bool.and_eq_true] at h
 unfold rLine headPs
 simp only [rWord_f]
 rw [if_pos trivial, if_neg (by simp)]
 simp only [rNum_f (side_fits h.1.1.1), rNum_f (side_fits h.1.1.2)]
 rfl
theorem path_segs {l : List SegV} (h : pathB l = true) : segsB 0 l = true := by
 unfold pathB at h; rw [Bool.and_eq_true] at h; exact h.2
theorem lineF_clip {c : ClipV} (h : clipB c = true) {ps : List PageV} (h0 : ps ≠ []) (cs : List ClipV) : rLine (clipWs c) ⟨ps, cs⟩ = some ⟨ps, cs ++ [erClip c]⟩ := by
 unfold clipB at h
 rw [Bool.and_eq_true] at h
 have hp := rPath_f _ _ (path_segs h.2)
 unfold rLine clipWs
 simp only [rWord_f, hp]
 obtain ⟨pp, l, cc, eo⟩ := c
 cases eo with
 | true => rw [if_neg (by simp), if_pos (.inr rfl), if_neg h0]; rfl
 | false => rw [if_neg (by simp), if_pos (.inl rfl), if_neg h0]; rfl
theorem addItem_last (ps : List PageV) (y : PageV) (it : ItemV) : addItem (ps ++ [y]) it = ps ++ [⟨y.fWidth, y.fHeight, none, y.fItems ++ [it], 0⟩] := by
 unfold addItem
 rw [List.dropLast_concat, List.getLast?_concat]; rfl
theorem head_no {k : Int} (h1 : 1 ≤ k) (h4 : k ≤ 4) : headT k ≠ [112, 97, 103, 101] ∧ headT k ≠ [99, 108, 105, 112] ∧ headT k ≠ [101, 111, 99, 108, 105, 112] := by
 obtain rfl | rfl | rfl | rfl : k = 1 ∨ k = 2 ∨ k = 3 ∨ k = 4 := by omega
 all_goals decide
theorem lineF_last {x : ItemV} (h : itemB x = true) (ps : List PageV) (y : PageV) (cs : List ClipV) : rLine (lastWs x) ⟨ps ++ [y], cs⟩ = some ⟨addItem (ps ++ [y]) { erItem x with fClips := cs }, []⟩ := by
 obtain ⟨hk1, hk4, -, -⟩ := itemB_kind h
 obtain ⟨n1, n2, n3⟩ := head_no hk1 hk4
 have hi := rItem_f h
 have hw : rWord ⟨lastWs x, false⟩ = (headT x.fKind, ⟨(lastWs x).tail, false⟩) := rfl
 unfold rLine
 simp only [hw, hi]
 rw [if_neg n1, if_neg (by simp [n2, n3]), if_neg (by simp)]
 rfl
theorem rWs_clips : ∀ (l : List ClipV) (ps : List PageV) (cs : List ClipV), ps ≠ [] → l.all clipB = true → rWs (l.map clipWs) ⟨ps, cs⟩ = some ⟨ps, cs ++ l.map erClip⟩
 | [], ps, cs, _, _ => by simp [rWs]
 | c :: l, ps, cs, h0, h => by
  rw [List.all_cons, Bool.and_eq_true] at h
  rw [List.map_cons, rWs, lineF_clip h.1 h0, Option.bind_some, rWs_clips l ps _ h0 h.2]
  simp
theorem rWs_item {x : ItemV} (h : itemB x = true) (ps : List PageV) (y : PageV) : rWs (itemLs x) ⟨ps ++ [y], []⟩ = some ⟨ps ++ [⟨y.fWidth, y.fHeight, none, y.fItems ++ [erItem x], 0⟩], []⟩ := by
 have hc : x.fClips.all clipB = true := by
  have h' := h
  unfold itemB clipsB at h'
  simp only [Bool.and_eq_true] at h'
  exact h'.1.2.2
 unfold itemLs
 rw [rWs_app, rWs_clips _ _ _ (by simp) hc, Option.bind_some, List.nil_append, rWs, lineF_last h, Option.bind_some, addItem_last]
 rfl
theorem rWs_items : ∀ (l : List ItemV) (ps : List PageV) (y : PageV), l.all itemB = true → rWs (l.flatMap itemLs) ⟨ps ++ [⟨y.fWidth, y.fHeight, none, y.fItems, 0⟩], []⟩ = some ⟨ps ++ [⟨y.fWidth, y.fHeight, none, y.fItems ++ l.map erItem, 0⟩], []⟩
 | [], ps, y, _ => by simp [rWs]
 | x :: l, ps, y, h => by
  rw [List.all_cons, Bool.and_eq_true] at h
  rw [List.flatMap_cons, rWs_app, rWs_item h.1, Option.bind_some]
  have := rWs_items l ps ⟨y.fWidth, y.fHeight, none, y.fItems ++ [erItem x], 0⟩ h.2
  simp only [] at this
  rw [this]; simp
theorem rWs_page {x : PageV} (h : pageB x = true) (ps : List PageV) : rWs (pageLs x) ⟨ps, []⟩ = some ⟨ps ++ [erPage x], []⟩ := by
 have hi : x.fItems.all itemB = true := by
  have h' := h
  unfold pageB at h'
  simp only [Bool.and_eq_true] at h'
  exact h'.2
 unfold pageLs
 rw [rWs, lineF_head h, Option.bind_some]
 have := rWs_items x.fItems ps ⟨x.fWidth, x.fHeight, none, [], 0⟩ hi
 simp only [] at this
 rw [this]; rfl
theorem rWs_pages : ∀ (l ps : List PageV), l.all pageB = true → rWs (pagesLs l) ⟨ps, []⟩ = some ⟨ps ++ l.map erPage, []⟩
 | [], ps, _ => by simp [rWs, pagesLs]
 | x :: l, ps, h => by
  rw [List.all_cons, Bool.and_eq_true] at h
  have e : pagesLs (x :: l) = pageLs x ++ pagesLs l := List.flatMap_cons
  rw [e, rWs_app, rWs_page h.1, Option.bind_some, rWs_pages l _ h.2]
  simp
end
section
theorem splitC_count (c : UInt8) : ∀ t : List UInt8, (splitC c t).length = t.count c + 1
 | [] => rfl
 | x :: t => by
  have ih := splitC_count c t
  rw [splitC]
  by_cases hx : x = c
  ·
   rw [if_pos hx, List.length_cons, ih, hx, List.count_cons_self]
  ·
   rw [if_neg hx, List.count_cons_of_ne hx]
   cases hs : splitC c t with
   | nil => exact absurd hs (splitC_ne c t)
   | cons a b => rw [hs] at ih; exact ih
end
section
theorem splitC_at (c : UInt8) : ∀ (a t : List UInt8), splitC c (a ++ c :: t) = splitC c a ++ splitC c t
 | [], t => (by rw [splitC, if_pos rfl] : splitC c (c :: t) = [] :: splitC c t)
 | x :: a, t => by
  have ih := splitC_at c a t
  rw [List.cons_append, splitC, splitC]
  split
  ·
   rw [ih]; rfl
  ·
   rw [ih]
   cases hs : splitC c a with
   | nil => exact absurd hs (splitC_ne c a)
   | cons h r => rfl
/-- a path by its fuel, to be run -/
def rPathN : Nat → RS → RS
 | 0, s => s
 | n + 1, s => if s.ws ≠ [] ∧ s.bad = false then rPathN n (rSeg s).2 else s
theorem rPathN_eq : ∀ (n : Nat) (s : RS), s.ws.length ≤ n → (rPath s).2 = rPathN n s
 | 0, s, h => by
  rw [rPath_end fun h1 => h1.1 (List.length_eq_zero_iff.1 oO)]; rfl
 | n + 1, s, h => by
  rw [rPathN]
  by_cases e : s.ws ≠ [] ∧ s.bad = false
  ·
   have := rSeg_ws s e.1
   rw [if_pos e, rPath_go e, ← rPathN_eq n _ oO]
  ·
   rw [if_neg e, rPath_end e]
theorem rLine_no_page {ws : List (List UInt8)} (h1 : (rWord ⟨ws, false⟩).1 = [112, 97, 103, 101]) (h : fin (rNum (rNum (rWord ⟨ws, false⟩).2).2).2 = false) (p : PS) : rLine ws p = none := by
 unfold rLine
 simp only []
 rw [if_pos h1, h]
 split <;> rfl
theorem rLine_no_clip {ws : List (List UInt8)} (h1 : (rWord ⟨ws, false⟩).1 = [99, 108, 105, 112]) (h : fin (rPathN ws.length (rWord ⟨ws, false⟩).2) = false) (p : PS) : rLine ws p = none := by
 have hl : (rWord ⟨ws, false⟩).2.ws.length ≤ ws.length := by rw [rWord_ws, List.length_tail]; simp
 unfold rLine
 simp only []
 rw [if_neg (by rw [h1]; decide), if_pos (.inl h1), rPathN_eq _ _ hl, h]
 split <;> rfl
theorem rLine_no_word {ws : List (List UInt8)} (h1 : (rWord ⟨ws, false⟩).1 ≠ [112, 97, 103, 101] ∧ (rWord ⟨ws, false⟩).1 ≠ [99, 108, 105, 112] ∧ (rWord ⟨ws, false⟩).1 ≠ [101, 111, 99, 108, 105, 112])
  (h2 : (rItem (rWord ⟨ws, false⟩).1 (rWord ⟨ws, false⟩).2).1 = none) (p : PS) : rLine ws p = none := by
 unfold rLine
 simp only []
 rw [if_neg h1.1, if_neg (by rintro (h | h); exact h1.2.1 h; exact h1.2.2 h), h2]
theorem rLine_no_item {ws : List (List UInt8)} (w0 : List UInt8) {it : Option ItemV} {s : RS} (hw : (rWord ⟨ws, false⟩).1 = w0) (h1 : w0 ≠ [112, 97, 103, 101] ∧ w0 ≠ [99, 108, 105, 112] ∧ w0 ≠ [101, 111, 99, 108, 105, 112])
  (h2 : rItem w0 (rWord ⟨ws, false⟩).2 = (it, s)) (h : fin s = false) (p : PS) : rLine ws p = none := by
 unfold rLine
 simp only [hw]
 rw [if_neg h1.1, if_neg (by rintro (h | h); exact h1.2.1 h; exact h1.2.2 h), h2]
 simp only []
 cases it with
 | none => rfl
 | some x =>
  simp only [h]
  split <;> rfl
theorem noI_fill (s : RS) : rItem [102, 105, 108, 108] s = (some ⟨1, none, (rPath (rColor s).2).1, 0, (rColor s).1, none, [], 0, pen00, 0, 0, 0, 0, 0, 0, 0, none, [], 0⟩, rPathN (rColor s).2.ws.length (rColor s).2) := by
 unfold rItem
 rw [if_pos (.inl rfl), rPathN_eq _ _ (Nat.le_refl _)]; rfl
theorem noI_stroke (s : RS) : rItem [115, 116, 114, 111, 107, 101] s = (some ⟨3, none, (rPath (rPen (rColor s).2).2).1, 0, (rColor s).1, none, [], 0, (rPen (rColor s).2).1, 0, 0, 0, 0, 0, 0, 0, none, [], 0⟩, rPathN (rPen (rColor s).2).2.ws.length (rPen (rColor s).2).2) := by
 unfold rItem
 rw [if_neg dD, if_pos rfl, rPathN_eq _ _ (Nat.le_refl _)]
theorem noI_text (s : RS) : rItem [116, 101, 120, 116] s = ((rItem [116, 101, 120, 116] s).1, (rBytes (rNums 6 (rSmall 2147483647 (rColor s).2).2).2).2) := by
 unfold rItem
 rw [if_neg dD, if_neg dD, if_pos rfl]
def wrongs : List (List UInt8) := [[102, 114, 111, 98], [], [112, 97, 103, 101, 32, 49], [112, 97, 103, 101, 32, 48, 49, 32, 49], [102, 105, 108, 108, 32, 49, 32, 48, 32, 109, 32, 48], [102, 105, 108, 108, 32, 57], [116, 101, 120, 116, 32, 49, 32, 48, 32, 48, 32, 49, 32, 48, 32, 48, 32, 49, 32, 48, 32, 48], [112, 97, 103, 101, 32, 49, 32, 49, 32], [32, 112, 97, 103, 101, 32, 49, 32, 49], [115, 116, 114, 111, 107, 101, 32, 49, 32, 48, 32, 49, 32, 48, 32, 48, 32, 49, 48, 32, 50, 32, 49, 32, 48], [99, 108, 105, 112, 32, 109, 32, 48, 32, 48, 32, 113], [102, 105, 108, 108, 32, 49, 32, 48, 32, 109, 32, 43, 49, 32, 49]]
theorem wrongs_no : ∀ w ∈ wrongs, ∀ p, rLine (splitC 32 w) p = none := by
 intro w hw p
 simp only [wrongs, List.mem_cons, List.not_mem_nil, or_false] at hw
 rcases hw with rfl | rfl | rfl | rfl | rfl | rfl | rfl | rfl | rfl | rfl | rfl | rfl
 ·
  exact rLine_no_word dD (by decide +kernel) p
 ·
  exact rLine_no_word dD (by decide +kernel) p
 ·
  exact rLine_no_page rfl (by decide +kernel) p
 ·
  exact rLine_no_page rfl (by decide +kernel) p
 ·
  exact rLine_no_item [102, 105, 108, 108] rfl dD (noI_fill _) (by decide +kernel) p
 ·
  exact rLine_no_item [102, 105, 108, 108] rfl dD (noI_fill _) (by decide +kernel) p
 ·
  exact rLine_no_item [116, 101, 120, 116] rfl dD (noI_text _) (by decide +kernel) p
 ·
  exact rLine_no_page rfl (by decide +kernel) p
 ·
  exact rLine_no_word dD (by decide +kernel) p
 ·
  exact rLine_no_item [115, 116, 114, 111, 107, 101] rfl dD (noI_stroke _) (by decide +kernel) p
 ·
  exact rLine_no_clip rfl (by decide +kernel) p
 ·
  exact rLine_no_item [102, 105, 108, 108] rfl dD (noI_fill _) (by decide +kernel) p
theorem wrongs_10 : ∀ w ∈ wrongs, (10 : UInt8) ∉ w := by decide
theorem wrongs_len : ∀ w ∈ wrongs, w.length ≤ 30 := by decide
/-- the text of sound pages up to a line's end, then a line that is none: it is told -/
theorem scr_faults {l : List PageV} (h : l.all pageB = true) {u v : List UInt8} (huv : u ++ v = pagesT l) (hu : u = [] ∨ ∃ u', u = u' ++ [10]) {w : List UInt8} (hw : w ∈ wrongs) (more : List UInt8) :
  scrParse (u ++ (w ++ 10 :: more)) = .error ((u.count 10 : Int) + 1, 23) := by
 have hpl := splitC_lines ((pagesLs l).map (joinC 32)) [] fun x hx => by
  obtain ⟨ws, hw, rfl⟩ := List.mem_map.1 hx
  exact no10_join (okLs_pages l ws hw).1
 rw [List.append_nil, lines_pages] at hpl
 obtain ⟨D, hD1, hD2, hD3⟩ : ∃ D : List (List UInt8), (∀ x, splitC 10 (u ++ x) = D ++ splitC 10 x) ∧ D.length = u.count 10 ∧ D = ((pagesLs l).map (joinC 32)).take D.length := by
  have key : ∀ D : List (List UInt8), splitC 10 (u ++ v) = D ++ splitC 10 v → D = ((pagesLs l).map (joinC 32)).take D.length := fun D hD => by
   rw [huv, hpl] at hD
   have hv := List.length_pos_iff.2 (splitC_ne 10 v)
   have hlen := congrArg List.length hD
   rw [List.length_append, List.length_append] at hlen
   have e : splitC 10 ([] : List UInt8) = [[]] := rfl
   rw [e, List.length_singleton] at hlen
   have h2 := congrArg (List.take D.length) hD
   rw [List.take_append_of_le_length oO, List.take_left'  rfl] at h2
   exact h2.symm
  rcases hu with rfl | ⟨u', rfl⟩
  ·
   exact ⟨[], fun x => rfl, rfl, rfl⟩
  ·
   have h1 : ∀ x, splitC 10 (u' ++ [10] ++ x) = splitC 10 u' ++ splitC 10 x := fun x => by
    rw [List.append_assoc]; exact splitC_at 10 u' x
   refine ⟨splitC 10 u', h1, ?_, key _ (h1 v)⟩
   rw [splitC_count, List.count_append]; rfl
 have hs : splitC 10 (u ++ (w ++ 10 :: more)) = D ++ w :: splitC 10 more := by rw [hD1, splitC_word 10 w more (wrongs_10 w hw)]
 have hr : ∃ q, rWs ((pagesLs l).take D.length) ps0 = some q := by
  have h2 := rWs_pages l [] h
  rw [← List.take_append_drop D.length (pagesLs l), rWs_app] at h2
  cases hq : rWs ((pagesLs l).take D.length) ⟨[], []⟩ with
  | none => rw [hq] at h2; cases h2
  | some q => exact ⟨q, hq⟩
 obtain ⟨q, hq⟩ := hr
 have hl := rLines_ws ((pagesLs l).take D.length) (w :: (splitC 10 more).dropLast) 0 ps0 q (fun ws hws => okLs_pages l ws (List.take_subset _ _ hws)) hq
 rw [List.map_take, ← hD3] at hl
 have hml : ((pagesLs l).take D.length).length = D.length := by
  have := congrArg List.length hD3
  rw [List.length_take, List.length_map] at this
  rw [List.length_take]; exact this.symm
 unfold scrParse
 have hdl : (D ++ w :: splitC 10 more).dropLast = D ++ w :: (splitC 10 more).dropLast := by
  rw [List.dropLast_append_of_ne_nil (by simp), List.dropLast_cons_of_ne_nil (splitC_ne 10 more)]
 rw [hs, hdl, hl, rLines, wrongs_no w hw q]
 rw [hml, hD2, Nat.zero_add]
end
section
theorem Parse_err {t : List UInt8} {q : Int × Int} {w : World} (hs : scrParse t = .error q) (hE : Env w) (ht : t.length ≤ 1048576) :
  Calls Tryz.prog 28 #[.string (bs t)] w fun e w' => e = .returned (.tuple #[.slice none 0 0, .int .i64 q.1, .int .i64 q.2]) ∧ Below w.heap.size w w' := by
 refine (script_Parse t w hE ht).mono fun e w' h => ?_
 obtain ⟨⟨v, n, c⟩, rfl, hB, hP⟩ := h
 rw [hs] at hP
 obtain ⟨rfl, rfl, rfl⟩ := hP
 exact ⟨rfl, hB⟩
theorem u8e {c d : UInt8} (h : (c.toNat : Int) = (d.toNat : Int)) : c = d := UInt8.toNat_inj.1 oO
end
section
theorem take_count_le (s : List UInt8) (i : Nat) : (s.take i).count 10 ≤ s.length := Nat.le_trans (List.count_le_length) (by rw [List.length_take]; omega)
set_option maxHeartbeats 3200000 in
theorem law_Faults (p : Option Addr) (l : List PageV) (c : Nat) (a b : Int) (mo : List UInt8) (w : World) (hE : Env w) (hr : RowM pageL w p l) (hs : PagesS l) (ho : ∀ x ∈ l, PageOk w x) (ha : 0 ≤ a ∧ a ≤ 255) (hb : 0 ≤ b ∧ b ≤ 255) (hm : mo.length ≤ 9223372036854775807) :
  Calls Tryz.prog 9 #[.slice p l.length c, .int .u8 a, .int .u8 b, .string (bs mo)] w fun e w' => e = .returned (.bool true) ∧ Below w.heap.size w w' := by
 have hrl : 0 < l.length → (pA p).block < w.heap.size := fun h0 => hr.lt h0
 have hob : ∀ {w'}, Below w.heap.size w w' → ∀ x ∈ l, PageOk w' x := fun hb x hx => (ho x hx).below hb
 obtain ⟨s, hse⟩ : ∃ s, s = pagesT l := ⟨_, rfl⟩
 obtain ⟨k, hk, hk12⟩ : ∃ k : Nat, b % 12 = (k : Int) ∧ k < wrongs.length := ⟨(b % 12).toNat, by omega, by show _ < 12; omega⟩
 have hwl := wrongs_len _ (List.getElem_mem hk12)
 refine W.enter func9 rfl ntmps9 (Nat.le_of_ble_eq_true rfl) ?_
 have hB0 := Below.refl (w.heap.size) w
 refine W.sr <| WL.z rfl rfl ?_
 refine W.seq <| W.sr <| WL.c1 hb25 rfl rfl ((law26_answers _ (hE.fonts.below hB0))) (fun w1 hw1 => ?_)
 have hB2 := btr hB0 hw1
 refine WL.p (.bis (false) (.not rfl) (by rfl)) rfl <| WL.m rfl rfl <| WL.gy rfl rfl rfl rfl <| WL.m rfl rfl <| WL.gy rfl rfl rfl rfl <| WL.c1 hb26 rfl rfl ((law26_light p l c _ (hr.below hB2 hrl) hs (hob hB2))) (fun w3 hw3 => ?_)
 have hB4 := btr hB2 hw3
 refine WL.gy rfl rfl rfl rfl <| WL.p (.not rfl) rfl <| WL.p (.pkF rfl rfl rfl) rfl <| WL.m rfl rfl <| WL.gd rfl rfl rfl (fun g5 => ?_) (fun g5 => ?_)
 have g5' := (nF g5)
 refine WL.m rfl rfl <| WL.gy rfl rfl rfl (by rw [(nF g5)] <;> rfl) <| WL.c1 hb27 rfl rfl ((law_sound p l c _ (hr.below hB4 hrl) (by have := hs.len; omega) (hob hB4))) (fun w6 hw6 => ?_)
 have hB7 := btr hB4 hw6
 refine WL.gy rfl rfl rfl (by rw [(nF g5)] <;> rfl) <| WL.p (.not rfl) rfl <| WL.p (.pkF rfl (by rw [(nF g5)] <;> rfl) rfl) rfl <| WL.m rfl rfl <| WL.gd rfl rfl rfl (fun g8 => ?_) (fun g8 => ?_)
 have g8' := (nF g8)
 refine WL.m rfl rfl <| WL.gy rfl rfl rfl (by rw [(nF g8)] <;> rfl) <| WL.p (.len underlying9 rfl) rfl <| WL.gy rfl rfl rfl (by rw [(nF g8)] <;> rfl) <| WL.p (.gtr rfl rfl) rfl <| WL.p (.pkF rfl (by rw [(nF g8)] <;> rfl) rfl) rfl <| WL.nil <| ?_
 refine W.cond rfl (fun h9 => ?_) (fun h9 => ?_)
 have h9' := dT h9
 refine W.sr <| WL.c1 hb25 rfl rfl ((law26_answers _ (hE.fonts.below hB7))) (fun w10 hw10 => ?_)
 have hB11 := btr hB7 hw10
 refine WL.z rfl rfl ?_
 refine W.ret (W.ret1 rfl rfl ?_)
 exact ⟨rfl, hB11⟩
 have h9' := dF h9
 have hlw : pagesW l < 2000 := by simp_all
 have hall : l.all pageB = true := by simp_all
 have hmo : mo.length ≤ 500 := by omega
 have hlen : (pagesT l).length ≤ 736000 := by have := pagesT_len l ho (List.all_eq_true.1 hall) (fun x hx => (hs.items x hx).2); omega
 rw [← hse] at hlen
 refine W.skip <| W.sr <| WL.bsl (ps := _) underlying28 sizeOf9 zeroValue9 rfl rfl rfl rfl rfl pR rfl (fun b12 wb12 eb12 hkb12 hub12 hsb12 => ?_)
 have hB13 := Upd.below hB7 (by rw [eb12]; exact hB7.size) hub12
 have hgeb12 : w.heap.size ≤ b12 := by rw [eb12]; exact hB7.size
 have hwr := RowAt.lit (V := strV) (l := wrongs) hkb12 (rfl)
 refine WL.z rfl rfl ?_
 refine W.sr <| WL.m rfl rfl <| WL.c1 hb29 rfl rfl ((by have h9 := ref26_Print p l c _ (hr.below hB13 hrl) hs (hob hB13) (List.all_eq_true.1 hall) (by rw [← hse]; omega); rw [← hse] at h9; exact h9)) (fun w14 hw14 => ?_)
 have hv15 := RowAt.below hwr hw14 (fun h0 => hwr.lt h0)
 have hB16 := btr hB13 hw14
 refine WL.z rfl rfl ?_
 refine W.sr <| WL.z rfl rfl ?_
 refine W.sr <| WL.z rfl rfl ?_
 refine W.seq <| W.sr <| WL.z rfl rfl ?_
 refine W.block ?_
 refine W.loop (α := Nat × Nat) (fun t => [(0, .slice p l.length c), (1, .int .u8 a), (2, .int .u8 b), (3, .string (bs mo)), (9, .slice (some ⟨b12, 0, none⟩) 12 12), (10, .string (bs s)), (11, .int .i64 (t.2 : Int)), (12, .int .i64 (((s.take t.2).count 10 + 1 : Nat) : Int)), (13, .int .i64 (t.1 : Int))]) (fun t w' => w14 = w' ∧ t.1 ≤ s.length ∧ t.2 ≤ t.1 ∧ (s.take t.2 = [] ∨ ∃ u', s.take t.2 = u' ++ [10]) ∧ (s.take t.1).count 10 = (s.take t.2).count 10) (fun t => s.length - t.1) ((0, 0)) ⟨rfl, rfl, rfl, rfl, rfl, rfl, rfl, rfl, rfl, trivial⟩ (⟨rfl, Nat.zero_le _, Nat.le_refl _, .inl rfl, rfl⟩) (fun t w1 hR => ?_)
 obtain ⟨i, g⟩ := t
 obtain ⟨rfl, hi, hg, hu, hcn⟩ := hR
 simp only at hi hg hu hcn ⊢
 have hcl := take_count_le s g
 refine W.seq ?_
 refine W.cutB 48 (decide (i < s.length) && decide ((((s.take g).count 10 + 1 : Nat) : Int) ≤ a % 20)) ?_ ?_
 refine W.reg <| WL.m rfl rfl <| WL.m rfl rfl <| WL.p (.len underlying9 rfl) rfl <| WL.p (.lss rfl rfl) rfl <| WL.m rfl rfl <| WL.gd rfl rfl rfl (fun g17 => ?_) (fun g17 => ?_)
 have g17' := dT g17
 refine WL.m rfl rfl <| WL.gy rfl rfl rfl g17 <| WL.m rfl rfl <| WL.gy rfl rfl rfl g17 <| WL.p (.cvt underlying5 underlying3 rfl (i64w oO)) rfl <| WL.gy rfl rfl rfl g17 <| WL.p (.rem rfl rfl oO (Int.tmod_eq_emod_of_nonneg oO)) rfl <| WL.gy rfl rfl rfl g17 <| WL.p (.leq rfl rfl) rfl <| WL.p (.pkT rfl g17 rfl) rfl <| WL.nil <| ?_
 exact ⟨leE (lk_b rfl (by first | (simp_all; done) | (simp_all <;> omega))), rfl⟩
 have g17' := dF g17
 refine WL.gn rfl rfl rfl g17 <| WL.gn rfl rfl rfl g17 <| WL.gn rfl rfl rfl g17 <| WL.gn rfl rfl rfl g17 <| WL.p (.pkF rfl g17 rfl) rfl <| WL.nil <| ?_
 exact ⟨leE (lk_b rfl (by first | (simp_all; done) | (simp_all <;> omega))), rfl⟩
 refine W.cond rfl (fun h18 => ?_) (fun h18 => ?_)
 have hil : i < s.length := by simp_all
 have htk : (s.take (i + 1)).count 10 = (s.take i).count 10 + (if s[i] = 10 then 1 else 0) := by
  rw [List.take_add_one, List.getElem?_eq_getElem hil, Option.toList_some, List.count_append, List.count_singleton]
  simp only [beq_iff_eq]
 refine W.skip <| W.seq <| W.block <| W.sr <| WL.m rfl rfl <| WL.m rfl rfl <| WL.p (.ix underlying9 rfl rfl (i) (rfl) oO) rfl <| WL.p (.eql rfl rfl) rfl <| WL.nil <| ?_
 refine W.cond rfl (fun h19 => ?_) (fun h19 => ?_)
 have h19' := dT h19
 have hc1 : s[i] = 10 := u8e (d := 10) aS
 rw [if_pos hc1] at htk
 refine W.sr <| WL.m rfl rfl <| WL.p (.iis (((i + 1 : Nat) : Int)) (.add rfl rfl (i64w oO)) oO) rfl <| WL.z rfl rfl ?_
 refine W.reg <| WL.m rfl rfl <| WL.p (.iis ((((s.take (i + 1)).count 10 + 1 : Nat) : Int)) (.add rfl rfl (i64w oO)) oO) rfl <| WL.z rfl rfl ?_
 refine W.reg <| WL.m rfl rfl <| WL.p (.iis (((i + 1 : Nat) : Int)) (.add rfl rfl (i64w oO)) oO) rfl <| WL.z rfl rfl ?_
 first
 | exact ⟨(i + 1, i + 1), ⟨rfl, rfl, rfl, rfl, rfl, rfl, rfl, rfl, rfl, trivial⟩, ⟨rfl, by ((try simp only) <;> omega), by ((try simp only) <;> omega), .inr ⟨s.take i, by rw [List.take_add_one, List.getElem?_eq_getElem hil, Option.toList_some, hc1]⟩, rfl⟩, by ((try simp only) <;> omega)⟩
 | exact ⟨(i + 1, g), ⟨rfl, rfl, rfl, rfl, rfl, rfl, rfl, rfl, rfl, trivial⟩, ⟨rfl, by ((try simp only) <;> omega), by ((try simp only) <;> omega), hu, by ((try simp only) <;> omega)⟩, by ((try simp only) <;> omega)⟩
 have h19' := dF h19
 have hc1 : ¬ s[i] = 10 := fun e => by
  have h10 : ¬ ((s[i].toNat : Int) = 10) := by assumption
  rw [e] at h10; exact h10 rfl
 rw [if_neg hc1] at htk
 refine W.skip <| W.reg <| WL.m rfl rfl <| WL.p (.iis (((i + 1 : Nat) : Int)) (.add rfl rfl (i64w oO)) oO) rfl <| WL.z rfl rfl ?_
 first
 | exact ⟨(i + 1, i + 1), ⟨rfl, rfl, rfl, rfl, rfl, rfl, rfl, rfl, rfl, trivial⟩, ⟨rfl, by ((try simp only) <;> omega), by ((try simp only) <;> omega), .inr ⟨s.take i, by rw [List.take_add_one, List.getElem?_eq_getElem hil, Option.toList_some, hc1]⟩, rfl⟩, by ((try simp only) <;> omega)⟩
 | exact ⟨(i + 1, g), ⟨rfl, rfl, rfl, rfl, rfl, rfl, rfl, rfl, rfl, trivial⟩, ⟨rfl, by ((try simp only) <;> omega), by ((try simp only) <;> omega), hu, by ((try simp only) <;> omega)⟩, by ((try simp only) <;> omega)⟩
 have hsc : scrParse (s.take g ++ wrongs[k] ++ [10] ++ mo) = .error (((s.take g).count 10 : Int) + 1, 23) := by
  rw [List.append_assoc, List.append_assoc]
  exact scr_faults hall (v := s.drop g) (by rw [List.take_append_drop, hse]) hu (List.getElem_mem hk12) mo
 have hgl : (s.take g).length ≤ 736000 := by rw [List.length_take]; omega
 refine W.exit <| W.seq <| W.sr <| WL.m rfl rfl <| WL.p (.eql rfl rfl) rfl <| WL.nil <| ?_
 refine W.cond rfl (fun h20 => ?_) (fun h20 => ?_)
 have h20' := dT h20
 have hg0 : (s.take g).count 10 = 0 := by rw [show g = 0 by omega]; rfl
 refine W.reg <| WL.z rfl rfl ?_
 refine W.seq <| W.regH 21 rfl mixed (fun w' => Below w14.heap.size w14 w') (fun w21 dw21 => ?_)
 have hv22 := hv15.drew dw21
 have hB23 := Drew.below hB16 dw21
 have hS24 : Below w14.heap.size w14 w21 := Drew.below (Below.refl _ _) dw21
 refine WH.tp 0 rfl (.mv rfl) hS24 rfl ?_
 refine WH.tp 1 rfl (.mv rfl) hS24 rfl ?_
 refine WH.tp 2 rfl (.slT underlying9 rfl rfl _ rfl oO) hS24 rfl ?_
 refine WH.tp 3 rfl (.mv rfl) hS24 rfl ?_
 refine WH.tp 4 rfl (.mv rfl) hS24 rfl ?_
 refine WH.tp 5 rfl (.cvt underlying5 underlying3 rfl (i64w oO)) hS24 rfl ?_
 refine WH.tp 6 rfl (.rem rfl rfl oO (Int.tmod_eq_emod_of_nonneg oO)) hS24 rfl ?_
 refine WH.tp 7 rfl (.ixb underlying28 sizeOf9 rfl rfl (hv22.isp oO) (k) (hk) (hk12)) hS24 rfl ?_
 refine WH.tk 8 rfl (fun w' hw' => Rd.ldc (isAgg9 _) rfl ((hv15.below hw' (fun h0 => hv15.lt h0)).cells (k) oO)) hS24 rfl ?_
 refine WH.tp 9 rfl (.cat rfl rfl (by (try simp only [List.length_append, List.length_cons, List.length_nil] at *) <;> omega)) hS24 rfl ?_
 refine WH.tp 10 rfl (.cat rfl rfl (by (try simp only [List.length_append, List.length_cons, List.length_nil] at *) <;> omega)) hS24 rfl ?_
 refine WH.tp 11 rfl (.mv rfl) hS24 rfl ?_
 refine WH.tp 12 rfl (.cat rfl rfl (by (try simp only [List.length_append, List.length_cons, List.length_nil] at *) <;> omega)) hS24 rfl ?_
 refine WH.br1 13 rfl ?_
 refine WL.c1 hb28 rfl rfl ((Parse_err hsc (hE.below hB23) (by simp only [List.length_append, List.length_cons, List.length_nil]; omega))) (fun w25 hw25 => ?_)
 have hS26 := Below.trans hS24 (Below.mono hw25 hS24.size)
 have hB28 := btr hB23 hw25
 refine WL.nil <| ?_
 refine ⟨hS26, ?_⟩
 refine WH.tp 14 rfl (.mv rfl) hS26 rfl ?_
 refine WH.tp 15 rfl (.ext rfl rfl) hS26 rfl ?_
 refine WH.tp 16 rfl (.ext rfl rfl) hS26 rfl ?_
 refine WH.tp 17 rfl (.ext rfl rfl) hS26 rfl ?_
 refine WH.tp 18 rfl (.as rfl) hS26 rfl ?_
 refine WH.tp 19 rfl (.as rfl) hS26 rfl ?_
 refine WH.tp 20 rfl (.as rfl) hS26 rfl ?_
 refine WH.done kR ?_
 refine W.sr <| WL.m rfl rfl <| WL.p (.bis (true) (.eql rfl rfl) (by rfl)) rfl <| WL.m rfl rfl <| WL.gy rfl rfl rfl rfl <| WL.m rfl rfl <| WL.gy rfl rfl rfl rfl <| WL.m rfl rfl <| WL.gy rfl rfl rfl rfl <| WL.p (.bis (true) (.eql rfl rfl) (by simp <;> omega)) rfl <| WL.p (.pkT rfl rfl rfl) rfl <| WL.m rfl rfl <| WL.gy rfl rfl rfl rfl <| WL.m rfl rfl <| WL.gy rfl rfl rfl rfl <| WL.p (.lenS underlying47 rfl) rfl <| WL.gy rfl rfl rfl rfl <| WL.p (.bis (true) (.eql rfl rfl) (by rfl)) rfl <| WL.p (.pkT rfl rfl rfl) rfl <| WL.z rfl rfl ?_
 refine W.ret (W.ret1 rfl rfl ?_)
 exact ⟨rfl, hB28⟩
 have h20' := dF h20
 refine W.skip <| W.seq <| W.regH 21 rfl mixed (fun w' => Below w14.heap.size w14 w') (fun w29 dw29 => ?_)
 have hv30 := hv15.drew dw29
 have hB31 := Drew.below hB16 dw29
 have hS32 : Below w14.heap.size w14 w29 := Drew.below (Below.refl _ _) dw29
 refine WH.tp 0 rfl (.mv rfl) hS32 rfl ?_
 refine WH.tp 1 rfl (.mv rfl) hS32 rfl ?_
 refine WH.tp 2 rfl (.slT underlying9 rfl rfl _ rfl oO) hS32 rfl ?_
 refine WH.tp 3 rfl (.mv rfl) hS32 rfl ?_
 refine WH.tp 4 rfl (.mv rfl) hS32 rfl ?_
 refine WH.tp 5 rfl (.cvt underlying5 underlying3 rfl (i64w oO)) hS32 rfl ?_
 refine WH.tp 6 rfl (.rem rfl rfl oO (Int.tmod_eq_emod_of_nonneg oO)) hS32 rfl ?_
 refine WH.tp 7 rfl (.ixb underlying28 sizeOf9 rfl rfl (hv30.isp oO) (k) (hk) (hk12)) hS32 rfl ?_
 refine WH.tk 8 rfl (fun w' hw' => Rd.ldc (isAgg9 _) rfl ((hv15.below hw' (fun h0 => hv15.lt h0)).cells (k) oO)) hS32 rfl ?_
 refine WH.tp 9 rfl (.cat rfl rfl (by (try simp only [List.length_append, List.length_cons, List.length_nil] at *) <;> omega)) hS32 rfl ?_
 refine WH.tp 10 rfl (.cat rfl rfl (by (try simp only [List.length_append, List.length_cons, List.length_nil] at *) <;> omega)) hS32 rfl ?_
 refine WH.tp 11 rfl (.mv rfl) hS32 rfl ?_
 refine WH.tp 12 rfl (.cat rfl rfl (by (try simp only [List.length_append, List.length_cons, List.length_nil] at *) <;> omega)) hS32 rfl ?_
 refine WH.br1 13 rfl ?_
 refine WL.c1 hb28 rfl rfl ((Parse_err hsc (hE.below hB31) (by simp only [List.length_append, List.length_cons, List.length_nil]; omega))) (fun w33 hw33 => ?_)
 have hS34 := Below.trans hS32 (Below.mono hw33 hS32.size)
 have hB36 := btr hB31 hw33
 refine WL.nil <| ?_
 refine ⟨hS34, ?_⟩
 refine WH.tp 14 rfl (.mv rfl) hS34 rfl ?_
 refine WH.tp 15 rfl (.ext rfl rfl) hS34 rfl ?_
 refine WH.tp 16 rfl (.ext rfl rfl) hS34 rfl ?_
 refine WH.tp 17 rfl (.ext rfl rfl) hS34 rfl ?_
 refine WH.tp 18 rfl (.as rfl) hS34 rfl ?_
 refine WH.tp 19 rfl (.as rfl) hS34 rfl ?_
 refine WH.tp 20 rfl (.as rfl) hS34 rfl ?_
 refine WH.done kR ?_
 refine W.sr <| WL.m rfl rfl <| WL.p (.bis (true) (.eql rfl rfl) (by rfl)) rfl <| WL.m rfl rfl <| WL.gy rfl rfl rfl rfl <| WL.m rfl rfl <| WL.gy rfl rfl rfl rfl <| WL.m rfl rfl <| WL.gy rfl rfl rfl rfl <| WL.p (.bis (true) (.eql rfl rfl) (by simp <;> omega)) rfl <| WL.p (.pkT rfl rfl rfl) rfl <| WL.m rfl rfl <| WL.gy rfl rfl rfl rfl <| WL.m rfl rfl <| WL.gy rfl rfl rfl rfl <| WL.p (.lenS underlying47 rfl) rfl <| WL.gy rfl rfl rfl rfl <| WL.p (.bis (true) (.eql rfl rfl) (by rfl)) rfl <| WL.p (.pkT rfl rfl rfl) rfl <| WL.z rfl rfl ?_
 refine W.ret (W.ret1 rfl rfl ?_)
 exact ⟨rfl, hB36⟩
 have g8' := (nT g8)
 refine WL.gn rfl rfl rfl (by rw [(nT g8)] <;> rfl) <| WL.gn rfl rfl rfl (by rw [(nT g8)] <;> rfl) <| WL.p (.pkT rfl (by rw [(nT g8)] <;> rfl) rfl) rfl <| WL.nil <| ?_
 refine W.condT rfl rfl ?_
 refine W.sr <| WL.c1 hb25 rfl rfl ((law26_answers _ (hE.fonts.below hB7))) (fun w37 hw37 => ?_)
 have hB38 := btr hB7 hw37
 refine WL.z rfl rfl ?_
 refine W.ret (W.ret1 rfl rfl ?_)
 exact ⟨rfl, hB38⟩
 have g5' := (nT g5)
 refine WL.gn rfl rfl rfl (by rw [(nT g5)] <;> rfl) <| WL.gn rfl rfl rfl (by rw [(nT g5)] <;> rfl) <| WL.p (.pkT rfl (by rw [(nT g5)] <;> rfl) rfl) rfl <| WL.m rfl rfl <| WL.gn rfl rfl rfl rfl <| WL.gn rfl rfl rfl rfl <| WL.gn rfl rfl rfl rfl <| WL.p (.pkT rfl rfl rfl) rfl <| WL.nil <| ?_
 refine W.condT rfl rfl ?_
 refine W.sr <| WL.c1 hb25 rfl rfl ((law26_answers _ (hE.fonts.below hB4))) (fun w39 hw39 => ?_)
 have hB40 := btr hB4 hw39
 refine WL.z rfl rfl ?_
 refine W.ret (W.ret1 rfl rfl ?_)
 exact ⟨rfl, hB40⟩
end
section
open Go.ChangeShapes Go.WideShapes Go.ChangeAt Go.RowKit
theorem bulk_get {H : Type} : ∀ (a : List (DataW H)) (i : Nat) (hi : i < a.length), Rows.uptoBulk a[i] ≤ Rows.uptoBulkAll a
 | [], i, hi => absurd hi (by simp)
 | x :: a, 0, _ => by simp only [List.getElem_cons_zero, Rows.uptoBulkAll]; omega
 | x :: a, i + 1, hi => by
  have := bulk_get a i (by simpa using hi)
  simp only [List.getElem_cons_succ, Rows.uptoBulkAll]; omega
theorem bulk_part {H : Type} (xs : List (DataW H × List MemPlace)) (i : Nat) (hi : i < xs.length) {q : List MemPlace} : Rows.uptoBulk xs[i].1 ≤ Rows.uptoBulk ((.agg (xs.map (·.1)), q) : DataW H × List MemPlace).1 := by
 have h := bulk_get (xs.map (·.1)) i (by simpa using hi)
 rw [List.getElem_map] at h
 simp only [Rows.uptoBulk]; omega
theorem uptoBulk_pos {H : Type} (d : DataW H) : 1 ≤ Rows.uptoBulk d := by cases d with
 | lit l => cases l <;> simp [Rows.uptoBulk]
 | _ => simp [Rows.uptoBulk]
theorem bulkAll_len {H : Type} : ∀ a : List (DataW H), a.length ≤ Rows.uptoBulkAll a
 | [] => Nat.zero_le _
 | x :: a => by have := bulkAll_len a; have := uptoBulk_pos x; simp only [Rows.uptoBulkAll, List.length_cons]; omega
section
variable {H : Type} {enc : TypeId × Value → H} {P : Program} {w : World} {base : Nat} {sp : Nat → Bool} {held : Bool} {fuel : Nat} {t e : TypeId} {cs : List Value} {x : DataW H × List MemPlace} {α : Type}
theorem openS_rowM {L : Lay α} {Ok : α → Prop} {S : Nat → α → Prop} (mono : ∀ {m n y}, S m y → m ≤ n → S n y) (hu : P.underlying t = some (.slice e)) (hc : P.cellsOf e = L.m) (hel : ∀ {n cs x}, DataW.trod enc P w base sp held n e cs = some x → ∃ o, cs = L.V o ∧ Ok o ∧ S (Rows.uptoBulk x.1) o)
    (h : DataW.trod enc P w base sp held fuel t cs = some x) : ∃ p l c, cs = [.slice p (l : List α).length c] ∧ RowM L w p l ∧ SlOk p l c ∧ (∀ y ∈ l, Ok y) ∧ l.length ≤ Rows.uptoBulk x.1 ∧ ∀ y ∈ l, S (Rows.uptoBulk x.1) y := by
  rcases Go.Deep.open_slice hu h with ⟨rfl, rfl⟩ | ⟨a, len, cap, k, n, D, Pl, rfl, -, hl, hm, hk, rfl, hx⟩
  · exact ⟨none, [], 0, rfl, RowM.nil w, .z, fun y hy => by simp at hy, Nat.zero_le _, fun y hy => by simp at hy⟩
  · have hlk : len ≤ k := by rw [hk]; split <;> omega
    obtain ⟨l, hll, hp⟩ := list_choose (fun i o => (∀ q, q < L.m → w.cell? (a.add (i * L.m + q)) = (L.V o)[q]?) ∧ Ok o ∧ S (Rows.uptoBulk (D i)) o) len (fun i hi => by
      obtain ⟨cs, h1, h2⟩ := hx i oO
      obtain ⟨o, rfl, ho, hs⟩ := hel h2
      rw [hc] at h1
      obtain ⟨-, -, h3⟩ := World.cells?_some h1
      exact ⟨o, fun q hq => by rw [← add_add]; exact h3 q hq, ho, hs⟩)
    have hb : ∀ i, i < len → Rows.uptoBulk (D i) ≤ Rows.uptoBulkAll ((List.range len).map D) := fun i hi => by
      have := bulk_get ((List.range len).map D) i (by simpa using hi)
      simpa using this
    have hlb : len ≤ Rows.uptoBulkAll ((List.range len).map D) := by have := bulkAll_len ((List.range len).map D); simpa using this
    refine ⟨some a, l, cap, by rw [hll], ⟨fun _ => rfl, fun j hj q hq => (hp j hj).1 q hq⟩, ⟨by omega, hm, fun _ => .inr (by simp), fun h => by cases h⟩, fun y hy => ?_, by simp only [Rows.uptoBulk]; omega, fun y hy => ?_⟩
    · obtain ⟨i, hi, rfl⟩ := List.getElem_of_mem hy
      exact (hp i hi).2.1
    · obtain ⟨i, hi, rfl⟩ := List.getElem_of_mem hy
      exact mono (hp i hi).2.2 (by have := hb i oO; simp only [Rows.uptoBulk]; omega)
theorem openS_rowAt {V : α → Value} {Ok : α → Prop} {S : Nat → α → Prop} (mono : ∀ {m n y}, S m y → m ≤ n → S n y) (hu : P.underlying t = some (.slice e)) (hc : P.cellsOf e = 1) (hel : ∀ {n v x}, DataW.trod enc P w base sp held n e [v] = some x → ∃ o, v = V o ∧ Ok o ∧ S (Rows.uptoBulk x.1) o)
    (h : DataW.trod enc P w base sp held fuel t cs = some x) : ∃ p l c, cs = [.slice p (l : List α).length c] ∧ RowAt V w p l ∧ SlOk p l c ∧ (∀ y ∈ l, Ok y) ∧ l.length ≤ Rows.uptoBulk x.1 ∧ ∀ y ∈ l, S (Rows.uptoBulk x.1) y := by
  rcases Go.Deep.open_slice1 hu hc h with ⟨rfl, rfl⟩ | ⟨a, len, cap, k, n, F, D, Pl, rfl, -, hl, hm, hk, rfl, hx⟩
  · exact ⟨none, [], 0, rfl, RowAt.nil w, .z, fun y hy => by simp at hy, Nat.zero_le _, fun y hy => by simp at hy⟩
  · have hlk : len ≤ k := by rw [hk]; split <;> omega
    obtain ⟨l, hll, hp⟩ := list_choose (fun i o => w.cell? (a.add i) = some (V o) ∧ Ok o ∧ S (Rows.uptoBulk (D i)) o) len (fun i hi => by
      obtain ⟨h1, h2⟩ := hx i oO
      obtain ⟨o, ho, hk, hs⟩ := hel h2
      exact ⟨o, by rw [h1, ho], hk, hs⟩)
    have hb : ∀ i, i < len → Rows.uptoBulk (D i) ≤ Rows.uptoBulkAll ((List.range len).map D) := fun i hi => by
      have := bulk_get ((List.range len).map D) i (by simpa using hi)
      simpa using this
    have hlb : len ≤ Rows.uptoBulkAll ((List.range len).map D) := by have := bulkAll_len ((List.range len).map D); simpa using this
    refine ⟨some a, l, cap, by rw [hll], ⟨fun _ => rfl, fun j hj => (hp j hj).1⟩, ⟨by omega, hm, fun _ => .inr (by simp), fun h => by cases h⟩, fun y hy => ?_, by simp only [Rows.uptoBulk]; omega, fun y hy => ?_⟩
    · obtain ⟨i, hi, rfl⟩ := List.getElem_of_mem hy
      exact (hp i hi).2.1
    · obtain ⟨i, hi, rfl⟩ := List.getElem_of_mem hy
      exact mono (hp i hi).2.2 (by have := hb i oO; simp only [Rows.uptoBulk]; omega)
theorem openS_ints (hu : P.underlying t = some (.slice e)) (he : P.underlying e = some (.int .i64)) (hc : P.cellsOf e = 1)
  (h : DataW.trod enc P w base sp held fuel t cs = some x) : ∃ p l c, cs = [.slice p (l : List Int).length c] ∧ RowAt intV w p l ∧ SlOk p l c ∧ (∀ y ∈ l, (Lit.int .i64 y).wf = true) ∧ l.length ≤ Rows.uptoBulk x.1 := by
 obtain ⟨p, l, c, h1, h2, h3, h4, h5, -⟩ := openS_rowAt (V := intV) (Ok := fun y => (Lit.int .i64 y).wf = true) (S := fun _ _ => True) (fun _ _ => trivial) hu hc (fun {n v x} h => by
  obtain ⟨a, e, -, w⟩ := DataW.trod_int he h
  simp only [List.cons.injEq, and_true] at e
  exact ⟨a, e, w, trivial⟩) h
 exact ⟨p, l, c, h1, h2, h3, h4, h5⟩
theorem openS_u8s (hu : P.underlying t = some (.slice e)) (he : P.underlying e = some (.int .u8)) (hc : P.cellsOf e = 1)
  (h : DataW.trod enc P w base sp held fuel t cs = some x) : ∃ p l c, cs = [.slice p (l : List UInt8).length c] ∧ BytesAt w p l ∧ SlOk p l c ∧ (∀ y ∈ l, True) ∧ l.length ≤ Rows.uptoBulk x.1 := by
 obtain ⟨p, l, c, h1, h2, h3, h4, h5, -⟩ := openS_rowAt (V := fun c : UInt8 => .int .u8 (c.toNat : Int)) (Ok := fun _ => True) (S := fun _ _ => True) (fun _ _ => trivial) hu hc (fun {n v x} h => by
  obtain ⟨a, e, -, w⟩ := DataW.trod_int he h
  simp only [List.cons.injEq, and_true] at e
  have hb : 0 ≤ a ∧ a ≤ 255 := by simp only [Lit.wf, Bool.and_eq_true, decide_eq_true_eq] at w; exact w
  refine ⟨a.toNat.toUInt8, ?_, trivial, trivial⟩
  rw [e]
  have : (a.toNat.toUInt8).toNat = a.toNat % 256 := by simp
  rw [this]; congr 1; omega) h
 exact ⟨p, l, c, h1, ⟨h2.isp, h2.cells⟩, h3, h4, h5⟩
end
end
end Go.Proofs.YtjghbcjnplcleaaGreatDoor
