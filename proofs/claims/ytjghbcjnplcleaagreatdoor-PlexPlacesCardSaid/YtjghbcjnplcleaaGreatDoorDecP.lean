/-
  Plain: the digits behind the point.
-/
import Derived.Test.YtjghbcjnplcleaaGreatDoorDecA
namespace Go.Proofs.YtjghbcjnplcleaaGreatDoor

/-- digits behind the point, at most so many -/
def fracK : Nat → Nat → List UInt8
  | 0, _ => []
  | k + 1, f => if f = 0 then [] else ch (48 + ((f * 10 / 65536 : Nat) : Int)) :: fracK k (f * 10 % 65536)

theorem fracK_stable (k : Nat) : ∀ f : Nat, k ≤ 16 → f < 65536 → 2 ^ (16 - k) ∣ f → fracK k f = fracK (k + 1) f := by
  induction k with
  | zero =>
    intro f _ hf hd
    obtain ⟨c, hc⟩ := hd
    have : f = 0 := by simp at hc; omega
    simp [fracK, this]
  | succ k ih =>
    intro f hk hf hd
    rw [fracK, fracK]
    split
    · rfl
    · rw [ih (f * 10 % 65536) (by omega) (by omega)]
      have e : 16 - k = (16 - (k + 1)) + 1 := by omega
      have h1 : 2 ^ (16 - k) ∣ f * 10 := by
        rw [e, Nat.pow_succ]
        exact Nat.mul_dvd_mul hd ⟨5, rfl⟩
      have h2 : 2 ^ (16 - k) ∣ 65536 := by
        rw [show (65536 : Nat) = 2 ^ 16 from rfl]
        exact Nat.pow_dvd_pow 2 (by omega)
      exact (Nat.dvd_mod_iff h2).2 h1

def fracL (f : Nat) : List UInt8 := fracK 16 f
theorem fracL_zero : fracL 0 = [] := rfl
theorem fracL_step (f : Nat) (h0 : 0 < f) (h : f < 65536) : fracL f = ch (48 + ((f * 10 / 65536 : Nat) : Int)) :: fracL (f * 10 % 65536) := by
  unfold fracL
  rw [fracK, if_neg (by omega), fracK_stable 15 (f * 10 % 65536) (by omega) (by omega) (by
    have h1 : 2 ^ (16 - 15) ∣ f * 10 := ⟨f * 5, by omega⟩
    exact (Nat.dvd_mod_iff (by decide)).2 h1)]
theorem fracK_len (k : Nat) : ∀ f, (fracK k f).length ≤ k := by
  induction k with
  | zero => intro f; simp [fracK]
  | succ k ih =>
    intro f; rw [fracK]; split
    · simp
    · have := ih (f * 10 % 65536); simp; omega
theorem fracL_len (f : Nat) : (fracL f).length ≤ 16 := fracK_len 16 f

theorem and_mask16 (x : Int) (h : 0 ≤ x) (h' : x < 4294967296) : bits .and .i64 x 65535 = x % 65536 :=
  bits_mask .i64 32 (by decide) (fun n h1 h2 => by rw [IntKind.wrap_i64]; omega) 16 (by decide) x h (by simpa using h')

end Go.Proofs.YtjghbcjnplcleaaGreatDoor
