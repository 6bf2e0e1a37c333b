/-
  Binary digits.
-/
import Derived.Test.YtbhkibilnmoljaaGreatQMath4
namespace Go.Proofs.YtbhkibilnmoljaaGreat
/-- The number of binary digits of n. -/
def nbits (n : Nat) : Nat := if n = 0 then 0 else n.log2 + 1
theorem nbits_zero : nbits 0 = 0 := rfl
theorem nbits_le {n k : Nat} : nbits n ≤ k ↔ n < 2 ^ k := by
  unfold nbits
  split
  · next h => subst h; exact ⟨fun _ => Nat.pow_pos (by decide), fun _ => Nat.zero_le _⟩
  · next h => rw [← Nat.log2_lt h]; omega
theorem nbits_half {n : Nat} (h : n ≠ 0) : nbits n = nbits (n / 2) + 1 := by
  unfold nbits
  rw [if_neg h, Nat.log2_def]
  by_cases h2 : 2 ≤ n
  · rw [if_pos h2, if_neg (by omega)]
  · rw [if_neg h2, if_pos (by omega)]
theorem nbits_pos {n : Nat} : 0 < nbits n ↔ n ≠ 0 := by
  unfold nbits; split <;> omega
theorem nbits_eq_zero {n : Nat} : nbits n = 0 ↔ n = 0 := by
  unfold nbits; split <;> omega
theorem nbits_gt_one {n : Nat} : 1 < nbits n ↔ 1 < n := by
  have : nbits n ≤ 1 ↔ n < 2 := nbits_le
  omega
theorem pw_two (k : Nat) : pw k = 2 ^ (32 * k) := by unfold pw; rw [Nat.pow_mul]
theorem shift_lt {a P t Q : Nat} (h : a < P) : a + P * t < P * Q ↔ t < Q := by
  constructor
  · intro h1
    apply Nat.lt_of_not_le
    intro h2
    have := Nat.mul_le_mul_left P h2
    omega
  · intro h1
    have h2 : P * (t + 1) ≤ P * Q := Nat.mul_le_mul_left P h1
    rw [Nat.mul_add] at h2
    omega
theorem nbits_add {a k t : Nat} (h : a < 2 ^ k) (ht : t ≠ 0) : nbits (a + 2 ^ k * t) = k + nbits t := by
  have hj : ∀ j, nbits (a + 2 ^ k * t) ≤ j ↔ k + nbits t ≤ j := by
    intro j
    have hp := nbits_pos.2 ht
    rcases Nat.lt_or_ge j k with h1 | h1
    · constructor
      · intro h2
        have h3 := nbits_le.1 h2
        have h4 : 2 ^ j ≤ 2 ^ k := Nat.pow_le_pow_right (by decide) (by omega)
        have h5 : 2 ^ k * 1 ≤ 2 ^ k * t := Nat.mul_le_mul_left _ (Nat.pos_of_ne_zero ht)
        generalize 2 ^ k = K at *
        generalize 2 ^ j = J at *
        generalize K * t = Z at *
        omega
      · intro h2; omega
    · obtain ⟨i, rfl⟩ : ∃ i, j = k + i := ⟨j - k, by omega⟩
      rw [nbits_le, Nat.pow_add, shift_lt h, ← nbits_le]
      omega
  have h1 := (hj _).1 (Nat.le_refl _)
  have h2 := (hj _).2 (Nat.le_refl _)
  omega
theorem limbs_top {n : Nat} (h : n ≠ 0) : ∃ t, (limbs n)[nlen n - 1]? = some t ∧ t ≠ 0 ∧ t < 4294967296 ∧ nbits n = 32 * (nlen n - 1) + nbits t := by
  have hl : nlen n ≠ 0 := fun h' => h (nlen_eq_zero.1 h')
  have hlt : nlen n - 1 < (limbs n).length := by unfold nlen at *; omega
  refine ⟨_, List.getElem?_eq_getElem hlt, ?_⟩
  have hc := clen_limbs n
  have ht : (limbs n)[nlen n - 1] ≠ 0 := by
    intro h0
    have e := clen_take_zero (limbs n) (nlen n - 1) hlt h0
    have e2 : nlen n - 1 + 1 = (limbs n).length := by unfold nlen at *; omega
    rw [e2, List.take_length, hc] at e
    have := clen_le ((limbs n).take (nlen n - 1))
    rw [← e, List.length_take] at this
    omega
  refine ⟨ht, lm_limbs n _ (List.getElem_mem _), ?_⟩
  have e := val_split (limbs n) (nlen n - 1) hlt
  have e2 : nlen n - 1 + 1 = (limbs n).length := by unfold nlen at *; omega
  have e3 : val ((limbs n).drop (nlen n - 1 + 1)) = 0 := by rw [e2, List.drop_length]; rfl
  rw [e3, Nat.mul_zero, Nat.add_zero, val_limbs, pw_two] at e
  have hlo : val ((limbs n).take (nlen n - 1)) < 2 ^ (32 * (nlen n - 1)) := by
    have := val_lt (show Lm ((limbs n).take (nlen n - 1)) from fun x hx => lm_limbs n x (List.mem_of_mem_take hx))
    rw [List.length_take, Nat.min_eq_left (by omega), pw_two] at this
    exact this
  generalize (limbs n)[nlen n - 1] = t at *
  generalize val ((limbs n).take (nlen n - 1)) = a at *
  have := nbits_add hlo ht
  rw [← e] at this
  exact this
end Go.Proofs.YtbhkibilnmoljaaGreat
