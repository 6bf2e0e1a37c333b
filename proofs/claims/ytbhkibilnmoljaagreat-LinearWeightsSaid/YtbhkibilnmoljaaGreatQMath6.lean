/-
  Sums of fractions that are at least 0: weights bound them.
-/
import Derived.Test.YtbhkibilnmoljaaGreatQRat
namespace Go.Proofs.YtbhkibilnmoljaaGreat
set_option linter.unusedVariables false
set_option linter.unusedSimpArgs false
/-- The sum of a list from the left. -/
def lsum (l : List Rat) : Rat := l.foldl (· + ·) 0
theorem lsum_nil : lsum [] = 0 := rfl
theorem lsum_snoc (l : List Rat) (x : Rat) : lsum (l ++ [x]) = lsum l + x := by unfold lsum; rw [List.foldl_append]; rfl
theorem lsum_take (l : List Rat) (k : Nat) (h : k < l.length) : lsum (l.take (k + 1)) = lsum (l.take k) + l[k] := by rw [take_snoc l k h, lsum_snoc]
/-- The weight of a fraction. -/
def wt (q : Rat) : Nat := if q.num = 0 then 0 else nbits q.num.natAbs + if q.den = 1 then 0 else nbits q.den
def wts (l : List Rat) : Nat := (l.map wt).sum
theorem wts_nil : wts [] = 0 := rfl
theorem wts_cons (x : Rat) (l : List Rat) : wts (x :: l) = wt x + wts l := by simp [wts]
theorem wts_snoc (l : List Rat) (x : Rat) : wts (l ++ [x]) = wts l + wt x := by simp [wts]
theorem wts_take (l : List Rat) (k : Nat) (h : k < l.length) : wts (l.take (k + 1)) = wts (l.take k) + wt l[k] := by rw [take_snoc l k h, wts_snoc]
theorem wts_sub {l m : List Rat} (h : l.Sublist m) : wts l ≤ wts m := by
  induction h with
  | slnil => exact Nat.le_refl _
  | cons x _ ih => rw [wts_cons]; omega
  | cons_cons x _ ih => rw [wts_cons, wts_cons]; omega
/-- q is N / D with N + D of at most 2^k. -/
def slim (q : Rat) (k : Nat) : Prop := ∃ N D : Nat, D ≠ 0 ∧ q = fq false N D ∧ N + D ≤ 2 ^ k
theorem slim_zero : slim 0 0 := ⟨0, 1, by decide, by decide, by decide⟩
theorem slim_add {p q : Rat} {j k : Nat} (hp : slim p j) (hq : slim q k) : slim (p + q) (j + k) := by
  obtain ⟨N, D, h1, rfl, h2⟩ := hp
  obtain ⟨n, d, h3, rfl, h4⟩ := hq
  refine ⟨N * d + n * D, D * d, Nat.mul_ne_zero h1 h3, fq_add_same _ _ _ _ _ h1 h3, ?_⟩
  rw [Nat.pow_add]
  have h5 := Nat.mul_le_mul h2 h4
  rw [Nat.add_mul, Nat.mul_add, Nat.mul_add] at h5
  have e : n * D = D * n := Nat.mul_comm _ _
  have := Nat.zero_le (N * n)
  omega
theorem slim_mono {q : Rat} {j k : Nat} (h : slim q j) (hk : j ≤ k) : slim q k := by
  obtain ⟨N, D, h1, h2, h3⟩ := h
  exact ⟨N, D, h1, h2, Nat.le_trans h3 (Nat.pow_le_pow_right (by decide) hk)⟩
theorem slim_wt (q : Rat) (h : 0 ≤ q) : slim q (wt q) := by
  refine ⟨q.num.natAbs, q.den, q.den_nz, ?_, ?_⟩
  · have e := fq_self q
    rw [decide_eq_false (Rat.not_lt.2 h)] at e
    exact e.symm
  · unfold wt
    have h0 : nbits q.num.natAbs ≤ nbits q.num.natAbs := Nat.le_refl _
    have h1 : nbits q.den ≤ nbits q.den := Nat.le_refl _
    rw [nbits_le] at h0 h1
    split
    · next hz =>
      have e : q = 0 := Rat.num_eq_zero.1 hz
      subst e
      decide
    · split
      · next hz hd => simp only [hd, Nat.add_zero]; omega
      · next hz hd =>
        have hn : q.num.natAbs ≠ 0 := by omega
        have hd0 := q.den_nz
        have h2 : 1 < nbits q.den := nbits_gt_one.2 (by omega)
        have h3 : 0 < nbits q.num.natAbs := nbits_pos.2 hn
        rw [Nat.pow_add]
        have e1 : 2 ^ 1 ≤ 2 ^ nbits q.num.natAbs := Nat.pow_le_pow_right (by decide) h3
        have e2 : 2 ^ 1 ≤ 2 ^ nbits q.den := Nat.pow_le_pow_right (by decide) (by omega)
        generalize 2 ^ nbits q.num.natAbs = A at *
        generalize 2 ^ nbits q.den = B at *
        obtain ⟨a, rfl⟩ : ∃ a, A = a + 2 := ⟨A - 2, by omega⟩
        obtain ⟨b, rfl⟩ : ∃ b, B = b + 2 := ⟨B - 2, by omega⟩
        have e3 : (a + 2) * (b + 2) = a * b + 2 * a + 2 * b + 4 := by grind
        rw [e3]
        have := Nat.zero_le (a * b)
        omega
theorem slim_lsum (l : List Rat) (h : ∀ q ∈ l, 0 ≤ q) : slim (lsum l) (wts l) := by
  have key : ∀ (m : List Rat) (s : Rat) (k : Nat), slim s k → (∀ q ∈ m, 0 ≤ q) → slim (m.foldl (· + ·) s) (k + wts m) := by
    intro m
    induction m with
    | nil => intro s k hs _; exact hs
    | cons x m ih =>
      intro s k hs hm
      rw [List.foldl_cons, wts_cons, ← Nat.add_assoc]
      exact ih _ _ (slim_add hs (slim_wt x (hm x (by simp)))) (fun q hq => hm q (by simp [hq]))
  have := key l 0 0 slim_zero h
  rwa [Nat.zero_add] at this
theorem nbits_lt {n k : Nat} (h : n < 2 ^ k) : nbits n ≤ k := nbits_le.2 h
theorem slim_fits {q : Rat} {k : Nat} (h : slim q k) (hk : k ≤ 4095) : fits q := by
  obtain ⟨N, D, h1, rfl, h3⟩ := h
  have h5 : 2 ^ k < 2 ^ (k + 1) := Nat.pow_lt_pow_right (by decide) (Nat.lt_succ_self k)
  have h6 : k + 1 ≤ 4096 := by omega
  refine ⟨?_, ?_⟩
  · rw [fq_natAbs _ _ _ h1]
    exact Nat.le_trans (nbits_lt (Nat.lt_of_le_of_lt (Nat.div_le_self _ _) (Nat.lt_of_le_of_lt (Nat.le_trans (Nat.le_add_right N D) h3) h5))) h6
  · rw [fq_den _ _ _ h1]
    exact Nat.le_trans (nbits_lt (Nat.lt_of_le_of_lt (Nat.div_le_self _ _) (Nat.lt_of_le_of_lt (Nat.le_trans (Nat.le_add_left D N) h3) h5))) h6
/-- Sums of some of the elements of a row of a small weight are not large. -/
theorem lsum_fits {l m : List Rat} (hs : l.Sublist m) (h : ∀ q ∈ m, 0 ≤ q) (hw : wts m ≤ 3800) : fits (lsum l) :=
  slim_fits (slim_lsum l (fun q hq => h q (hs.subset hq))) (by have := wts_sub hs; omega)
theorem lsum_nonneg (l : List Rat) (h : ∀ q ∈ l, 0 ≤ q) : 0 ≤ lsum l := by
  have key : ∀ (m : List Rat) (s : Rat), 0 ≤ s → (∀ q ∈ m, 0 ≤ q) → 0 ≤ m.foldl (· + ·) s := by
    intro m
    induction m with
    | nil => intro s hs _; exact hs
    | cons x m ih => intro s hs hm; exact ih _ (Rat.add_nonneg hs (hm x (by simp))) (fun q hq => hm q (by simp [hq]))
  exact key l 0 (by decide) h
end Go.Proofs.YtbhkibilnmoljaaGreat
