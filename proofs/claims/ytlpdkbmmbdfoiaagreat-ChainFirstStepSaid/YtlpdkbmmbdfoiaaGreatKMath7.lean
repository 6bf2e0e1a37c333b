/-
  Plain facts on the reference's long division.
-/
import Derived.Test.YtlpdkbmmbdfoiaaGreatKRat
set_option linter.unusedVariables false
namespace Go.Proofs.YtlpdkbmmbdfoiaaGreat
theorem nbits_shift (s n : Nat) (h : n ≠ 0) : zya (2 ^ s * n) = s + zya n := by
 have := nbits_add (a := 0) (k := s) (t := n) (Nat.pow_pos (by decide)) h
 rwa [Nat.zero_add] at this
theorem norm2 {n s : Nat} (hn : n ≠ 0) (hs : s = 32 * zea n - zya n) : s < 32 ∧ zya n ≤ 32 * zea n ∧ zea (2 ^ s * n) = zea n ∧ ∃ t, (zma (2 ^ s * n))[zea n - 1]? = some t ∧ 2147483648 ≤ t := by
 obtain ⟨t, h1, h2, h3, h4⟩ := zmj hn
 have h0 : zea n ≠ 0 := fun e => hn (zta.1 e)
 have ht : zya t ≤ 32 := zfc.2 h3
 have ht0 := zrc.2 h2
 have hY : 2 ^ s * n ≠ 0 := Nat.mul_ne_zero (Nat.ne_of_gt (Nat.pow_pos (by decide))) hn
 obtain ⟨u, u1, u2, u3, u4⟩ := zmj hY
 have hu : zya u ≤ 32 := zfc.2 u3
 have hu0 := zrc.2 u2
 have hY0 : zea (2 ^ s * n) ≠ 0 := fun e => hY (zta.1 e)
 rw [nbits_shift s n hn] at u4
 have e : zea (2 ^ s * n) = zea n := by omega
 refine ⟨by omega, by omega, e, u, by rw [← e]; exact u1, ?_⟩
 have h5 : zya u = 32 := by omega
 have h6 : ¬ u < 2 ^ 31 := fun h => by have := zfc.2 h; omega
 have h7 : (2 : Nat) ^ 31 = 2147483648 := by decide
 omega
theorem guess_ge {P a t top Y Q V : Nat} (hV : V = a + P * t) (ha : a < P) (hY : P * top ≤ Y) (hQ : Q = V / Y) (htop : 0 < top) : Q ≤ t / top := by
 rw [Nat.le_div_iff_mul_le htop]
 have hP : 0 < P := by omega
 have hY0 : 0 < Y := Nat.lt_of_lt_of_le (Nat.mul_pos hP htop) hY
 have h1 : Q * Y ≤ V := by rw [hQ]; exact Nat.div_mul_le_self V Y
 have h2 : Q * (P * top) ≤ Q * Y := Nat.mul_le_mul_left _ hY
 have h3 : P * (Q * top) < P * (t + 1) := by
  have e : P * (Q * top) = Q * (P * top) := by rw [Nat.mul_left_comm]
  rw [e, Nat.mul_add, Nat.mul_one]; omega
 have := Nat.lt_of_mul_lt_mul_left h3
 omega
theorem top_le {l : List Nat} {N : Nat} (h : l.length = N) (hN : 0 < N) : pw (N - 1) * l[N - 1] ≤ val l := by
 have e := zxg l (N - 1) (by omega)
 rw [e]
 have := Nat.zero_le (val (l.take (N - 1)))
 have := Nat.zero_le (pw (N - 1 + 1) * val (l.drop (N - 1 + 1)))
 omega
theorem window_top {p : List Nat} {N : Nat} (h : p.length = N + 1) (hN : 0 < N) (hp : Lm p) : val p = val (p.take (N - 1)) + pw (N - 1) * (p[N]'(by omega) * 4294967296 + p[N - 1]'(by omega)) ∧ val (p.take (N - 1)) < pw (N - 1) := by
 constructor
 ·have e1 := zka p (N - 1) (by omega)
  have e2 := zka p N (by omega)
  rw [List.take_of_length_le (by omega)] at e2
  rw [show N - 1 + 1 = N from by omega] at e1
  have e3 : pw N = 4294967296 * pw (N - 1) := by rw [← zsb]; congr 1; omega
  rw [e2, e1, e3]
  generalize p[N]'(by omega) = x
  generalize p[N - 1]'(by omega) = y
  grind
 ·have := zof (show Lm (p.take (N - 1)) from fun x hx => hp x (List.mem_of_mem_take hx))
  rwa [List.length_take, Nat.min_eq_left (by omega)] at this
theorem guess_gt {Y g V Q : Nat} (hY : 0 < Y) (hQ : Q = V / Y) : V < Y * g ↔ Q < g := by
 subst hQ
 rw [Nat.mul_comm, ← Nat.div_lt_iff_lt_mul hY]
theorem zri {p R : List Nat} {j z : Nat} (hj : j < p.length) (hz : z = R.getD j 0) (hR : val (R.take (j + 1)) = val (R.take j) + pw j * R.getD j 0) (hv : val (p.take j) = val (R.take j)) :
 val ((p.set j z).take (j + 1)) = val (R.take (j + 1)) := by
 rw [zrb p j z hj, hv, hR, hz]
end Go.Proofs.YtlpdkbmmbdfoiaaGreat
