/-
  Fractions as rational numbers.
-/
import Derived.Test.YtbhkibilnmoljaaGreatQMath5
namespace Go.Proofs.YtbhkibilnmoljaaGreat
/-- A number with a sign. -/
def sgn (neg : Bool) (n : Nat) : Int := if neg then -(n : Int) else n
/-- The fraction of a sign, a numerator and a denominator. -/
def fq (neg : Bool) (n d : Nat) : Rat := mkRat (sgn neg n) d
/-- Numerator and denominator have at most 128 limbs. -/
def fits (q : Rat) : Prop := nbits q.num.natAbs ≤ 4096 ∧ nbits q.den ≤ 4096
instance (q : Rat) : Decidable (fits q) := inferInstanceAs (Decidable (_ ∧ _))
theorem sgn_natAbs (neg : Bool) (n : Nat) : (sgn neg n).natAbs = n := by unfold sgn; split <;> omega
theorem sgn_zero (neg : Bool) : sgn neg 0 = 0 := by unfold sgn; split <;> omega
theorem sgn_div (neg : Bool) (n g : Nat) (h : g ∣ n) : sgn neg n / (g : Int) = sgn neg (n / g) := by
  unfold sgn
  split
  · rw [Int.neg_ediv_of_dvd (Int.natCast_dvd_natCast.2 h)]; simp
  · simp
theorem fq_num (neg : Bool) (n d : Nat) (hd : d ≠ 0) : (fq neg n d).num = sgn neg (n / Nat.gcd n d) := by
  unfold fq
  rw [Rat.num_mkRat, if_neg hd, sgn_natAbs, Nat.gcd_comm, sgn_div _ _ _ (Nat.gcd_dvd_left n d)]
theorem fq_den (neg : Bool) (n d : Nat) (hd : d ≠ 0) : (fq neg n d).den = d / Nat.gcd n d := by
  unfold fq
  rw [Rat.den_mkRat, if_neg hd, sgn_natAbs, Nat.gcd_comm]
theorem fq_natAbs (neg : Bool) (n d : Nat) (hd : d ≠ 0) : (fq neg n d).num.natAbs = n / Nat.gcd n d := by
  rw [fq_num _ _ _ hd, sgn_natAbs]
theorem rat_neg_iff (q : Rat) : q < 0 ↔ q.num < 0 := by
  have := Rat.num_nonneg (q := q)
  rw [← Rat.not_le, ← this]; omega
theorem sgn_neg_iff (neg : Bool) (n : Nat) : sgn neg n < 0 ↔ neg = true ∧ 0 < n := by
  unfold sgn; cases neg <;> simp <;> omega
theorem fq_neg (neg : Bool) (n d : Nat) (hd : d ≠ 0) : decide (fq neg n d < 0) = (neg && decide (0 < n / Nat.gcd n d)) := by
  have : fq neg n d < 0 ↔ neg = true ∧ 0 < n / Nat.gcd n d := by rw [rat_neg_iff, fq_num _ _ _ hd, sgn_neg_iff]
  by_cases h : fq neg n d < 0
  · obtain ⟨h1, h2⟩ := this.1 h
    rw [decide_eq_true h, decide_eq_true h2, h1]; rfl
  · have h2 : ¬ (neg = true ∧ 0 < n / Nat.gcd n d) := fun h' => h (this.2 h')
    rw [decide_eq_false h]
    cases neg
    · simp
    · have : ¬ 0 < n / Nat.gcd n d := fun h' => h2 ⟨rfl, h'⟩
      simp only [Bool.true_and, decide_eq_false this]
theorem fq_self (q : Rat) : fq (decide (q < 0)) q.num.natAbs q.den = q := by
  unfold fq
  have : sgn (decide (q < 0)) q.num.natAbs = q.num := by
    unfold sgn
    have := rat_neg_iff q
    split
    · next h => have := this.1 (by simpa using h); omega
    · next h => have h2 : ¬ q < 0 := by simpa using h
                have : ¬ q.num < 0 := fun h' => h2 (this.2 h')
                omega
  rw [this, Rat.mkRat_self]
theorem fq_add (s t : Bool) (a b c d : Nat) (hb : b ≠ 0) (hd : d ≠ 0) : fq s a b + fq t c d = mkRat (sgn s (a * d) + sgn t (c * b)) (b * d) := by
  unfold fq
  rw [Rat.mkRat_add_mkRat _ _ hb hd]
  congr 2
  · unfold sgn; split <;> simp [Int.neg_mul]
  · unfold sgn; split <;> simp [Int.neg_mul]
theorem fq_add_same (s : Bool) (a b c d : Nat) (hb : b ≠ 0) (hd : d ≠ 0) : fq s a b + fq s c d = fq s (a * d + c * b) (b * d) := by
  rw [fq_add _ _ _ _ _ _ hb hd]
  unfold fq sgn
  congr 1
  split <;> omega
theorem fq_add_ge (s t : Bool) (a b c d : Nat) (hb : b ≠ 0) (hd : d ≠ 0) (hst : (s == t) = false) (h : c * b ≤ a * d) : fq s a b + fq t c d = fq s (a * d - c * b) (b * d) := by
  rw [fq_add _ _ _ _ _ _ hb hd]
  unfold fq sgn
  congr 1
  cases s <;> cases t <;> simp at hst ⊢ <;> omega
theorem fq_add_lt (s t : Bool) (a b c d : Nat) (hb : b ≠ 0) (hd : d ≠ 0) (hst : (s == t) = false) (h : a * d ≤ c * b) : fq s a b + fq t c d = fq t (c * b - a * d) (b * d) := by
  rw [fq_add _ _ _ _ _ _ hb hd]
  unfold fq sgn
  congr 1
  cases s <;> cases t <;> simp at hst ⊢ <;> omega
theorem fq_mul (s t : Bool) (a b c d : Nat) : fq s a b * fq t c d = fq (s != t) (a * c) (b * d) := by
  unfold fq
  rw [Rat.mkRat_mul_mkRat]
  congr 1
  unfold sgn
  cases s <;> cases t <;> simp [Int.neg_mul, Int.mul_neg]
theorem nbits_nlen {n k : Nat} (h : nbits n ≤ 32 * k) : nlen n ≤ k := by
  rw [nlen_le, pw_two]; exact nbits_le.1 h
theorem nlen_nbits {n k : Nat} (h : nlen n ≤ k) : nbits n ≤ 32 * k := by
  rw [nlen_le, pw_two] at h; exact nbits_le.2 h
theorem nbits_mono {m n : Nat} (h : m ≤ n) : nbits m ≤ nbits n := nbits_le.2 (Nat.lt_of_le_of_lt h (nbits_le.1 (Nat.le_refl _)))
theorem nbits_mul {m n : Nat} {j k : Nat} (hm : nbits m ≤ j) (hn : nbits n ≤ k) : nbits (m * n) ≤ j + k := by
  rw [nbits_le] at *
  rw [Nat.pow_add]
  exact Nat.mul_lt_mul'' hm hn
theorem nbits_sum {m n : Nat} {j : Nat} (hm : nbits m ≤ j) (hn : nbits n ≤ j) : nbits (m + n) ≤ j + 1 := by
  rw [nbits_le] at *
  rw [Nat.pow_succ]
  omega
end Go.Proofs.YtbhkibilnmoljaaGreat
