/-
  Laws on bits as the walks meet them. No program is named here.
-/
import Derived.WalkKit
namespace Go.Proofs.Ytbhkibilnmoljaa
set_option linter.unusedVariables false

theorem or_eq_add (a b s : Nat) (h : b < 2 ^ s) : (2 ^ s * a) ||| b = 2 ^ s * a + b := (Nat.two_pow_add_eq_or_of_lt h a).symm
/-- 'r<<32 | x'. -/
theorem or_lo (r x : Nat) (hr : r < 4294967296) (hx : x < 4294967296) : bits .or .u64 ((r : Int) * 4294967296) (x : Int) = ((r * 4294967296 + x : Nat) : Int) := by
  have h := u64_or_nat (4294967296 * r) x (by omega) (by omega)
  rw [show ((4294967296 * r : Nat) : Int) = (r : Int) * 4294967296 from by omega] at h
  rw [h]
  have := or_eq_add r x 32 (by omega)
  rw [show (2 : Nat) ^ 32 = 4294967296 from by decide] at this
  rw [this]
  congr 1
  omega
/-- 'c | x<<s', c below 2^s. -/
theorem or_hi (c x P s : Nat) (hP : P = 2 ^ s) (hc : c < P) (hx : P * x < 18446744073709551616) (hPl : P < 18446744073709551616) : bits .or .u64 (c : Int) ((P * x : Nat) : Int) = ((P * x + c : Nat) : Int) := by
  subst hP
  rw [u64_or_nat c (2 ^ s * x) (by omega) hx, Nat.or_comm, or_eq_add x c s hc]
theorem wrap_u64 (n : Int) : IntKind.u64.wrap n = n % 18446744073709551616 := by
  simp [IntKind.wrap, IntKind.bits, IntKind.signed]
/-- A quotient that fits a limb. -/
theorem div_limb (t d : Nat) (h : t / d < 4294967296) : IntKind.u64.wrap ((t : Int) / d) % 4294967296 = ((t / d : Nat) : Int) := by
  rw [wrap_u64, ← Int.natCast_ediv]; generalize t / d = q at *; omega
/-- 'c | x<<s' for s below 32, c below 2^s. -/
theorem or_up (c x s : Nat) (hs : s < 32) (hc : c < 2 ^ s) (hx : x < 4294967296) : bits .or .u64 (c : Int) (IntKind.u64.wrap ((x : Int) * 2 ^ s)) = ((2 ^ s * x + c : Nat) : Int) := by
  have hP : 2 ^ s ≤ 2 ^ 31 := Nat.pow_le_pow_right (by decide) (by omega)
  have h1 : 2 ^ s * x ≤ 2 ^ 31 * 4294967295 := Nat.mul_le_mul hP (by omega)
  have h2 : ((x : Int) * 2 ^ s) = ((2 ^ s * x : Nat) : Int) := by rw [Int.natCast_mul, Int.natCast_pow]; exact Int.mul_comm _ _
  rw [h2, wrap_u64]
  have h3 : ((2 ^ s * x : Nat) : Int) % 18446744073709551616 = ((2 ^ s * x : Nat) : Int) := by omega
  rw [h3]
  exact or_hi c x (2 ^ s) s rfl hc (by omega) (by omega)
theorem up_bound (c x s : Nat) (hs : s < 32) (hc : c < 2 ^ s) (hx : x < 4294967296) : 2 ^ s * x + c < 18446744073709551616 ∧ (2 ^ s * x + c) / 4294967296 < 2 ^ s := by
  have hP : 2 ^ s ≤ 2 ^ 31 := Nat.pow_le_pow_right (by decide) (by omega)
  have h1 : 2 ^ s * x ≤ 2 ^ 31 * 4294967295 := Nat.mul_le_mul hP (by omega)
  have h2 : 2 ^ s * (x + 1) ≤ 2 ^ s * 4294967296 := Nat.mul_le_mul_left _ (by omega)
  rw [Nat.mul_add, Nat.mul_one] at h2
  refine ⟨by omega, ?_⟩
  rw [Nat.div_lt_iff_lt_mul (by decide)]
  omega
end Go.Proofs.Ytbhkibilnmoljaa
