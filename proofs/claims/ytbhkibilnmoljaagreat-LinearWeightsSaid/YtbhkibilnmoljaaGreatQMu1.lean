/-
  Products of matrices: associativity, the determinant of a product, sizes. No program is named here.
  Ahead of it: Matrices of small numbers: sizes of what elimination meets, of the determinant, of the inverse, of solutions. No program is named here.
-/
import Derived.Test.YtbhkibilnmoljaaGreatQDt4
import Derived.Test.YtbhkibilnmoljaaGreatQEl2
namespace Go.Proofs.YtbhkibilnmoljaaGreat
set_option linter.unusedVariables false

theorem fits_over2 {D B a b : Nat} {q : Rat} (hD : D ≠ 0) (h : over D B q) (ha : B < 2 ^ a) (hb : D < 2 ^ b) (ha2 : a ≤ 4096) (hb2 : b ≤ 4096) : fits q := by
  obtain ⟨s, n, rfl, h1⟩ := h.fq
  refine ⟨?_, ?_⟩
  · rw [fq_natAbs _ _ _ hD]
    exact Nat.le_trans (nbits_lt (Nat.lt_of_le_of_lt (Nat.div_le_self _ _) (Nat.lt_of_le_of_lt h1 ha))) ha2
  · rw [fq_den _ _ _ hD]
    exact Nat.le_trans (nbits_lt (Nat.lt_of_le_of_lt (Nat.div_le_self _ _) hb)) hb2
/-- All elements of a square matrix are over 840 with at most 12600. -/
def smallQ (q : Rat) : Prop := over 840 12600 q
theorem small_fq (s : Bool) {n d : Nat} (hn : n ≤ 15) (hd0 : 0 < d) (hd : d ≤ 8) : smallQ (fq s n d) := by
  have h840 : d * (840 / d) = 840 := by
    have : d = 1 ∨ d = 2 ∨ d = 3 ∨ d = 4 ∨ d = 5 ∨ d = 6 ∨ d = 7 ∨ d = 8 := by omega
    rcases this with rfl | rfl | rfl | rfl | rfl | rfl | rfl | rfl <;> rfl
  have hk : 840 / d ≠ 0 := fun e => by rw [e] at h840; omega
  have hk2 : 840 / d ≤ 840 := Nat.div_le_self _ _
  refine ⟨sgn s n * ((840 / d : Nat) : Int), ?_, ?_⟩
  · unfold fq
    have := Rat.mkRat_mul_right (n := sgn s n) (d := d) hk
    rw [h840] at this
    exact this.symm
  · rw [Int.natAbs_mul, sgn_natAbs, Int.natAbs_natCast]
    exact Nat.le_trans (Nat.mul_le_mul hn hk2) (by decide)
theorem small_one : smallQ 1 := (over.one (by decide)).mono (by decide)
theorem small_zero : smallQ 0 := over.zero _ _
theorem small_fits {q : Rat} (h : smallQ q) : fits q := fits_over2 (a := 14) (b := 10) (by decide) h (by decide) (by decide) (by decide) (by decide)
theorem small_wt_fq (s : Bool) {n d : Nat} (hn : n ≤ 15) (hd0 : 0 < d) (hd : d ≤ 8) : wt (fq s n d) ≤ 8 := by
  have h1 : nbits (fq s n d).num.natAbs ≤ 4 := by
    rw [fq_natAbs _ _ _ (by omega)]
    exact nbits_lt (Nat.lt_of_le_of_lt (Nat.div_le_self _ _) (by omega))
  have h2 : nbits (fq s n d).den ≤ 4 := by
    rw [fq_den _ _ _ (by omega)]
    exact nbits_lt (Nat.lt_of_le_of_lt (Nat.div_le_self _ _) (by omega))
  unfold wt
  split
  · omega
  · split <;> omega
theorem slim_small : slim4 (grow 5 (12600, 840, 1, 1)) := by decide +kernel
theorem slim_small_le {k : Nat} (hk : k ≤ 5) : slim4 (grow k (12600, 840, 1, 1)) := by
  obtain ⟨a1, a2, a3, a4⟩ := grow_le (x := (12600, 840, 1, 1)) ⟨by decide, by decide, by decide, by decide⟩ 5 hk
  obtain ⟨c1, c2, c3, c4⟩ := slim_small
  exact ⟨Nat.lt_of_le_of_lt a1 c1, Nat.lt_of_le_of_lt a2 c2, Nat.lt_of_le_of_lt a3 c3, Nat.lt_of_le_of_lt a4 c4⟩
theorem slimE_small {b : Bool} {n m wd : Nat} {A : Mx} (hw : wd ≤ m) (hw5 : wd ≤ 5) (hA : ∀ i j, i < n → j < m → smallQ (A i j)) : slimE b n m wd A :=
  slimE_of hw (by decide) (by decide) hA (slim_small_le hw5)
theorem dtB_le {n : Nat} (hn : n ≤ 5) : dtB n 12600 < 2 ^ 76 := by
  have : n = 0 ∨ n = 1 ∨ n = 2 ∨ n = 3 ∨ n = 4 ∨ n = 5 := by omega
  rcases this with rfl | rfl | rfl | rfl | rfl | rfl <;> decide +kernel
theorem dtB_le4 {n : Nat} (hn : n ≤ 4) : dtB n 12600 < 2 ^ 60 := by
  have : n = 0 ∨ n = 1 ∨ n = 2 ∨ n = 3 ∨ n = 4 := by omega
  rcases this with rfl | rfl | rfl | rfl | rfl <;> decide +kernel
section
variable {n : Nat} {A : Mx}
/-- The determinant's numerator over 840 ^ n: a common denominator of the inverse. -/
theorem inv_small (hA : ∀ i j, i < n → j < n → smallQ (A i j)) (h : dt n A ≠ 0) : ∃ E, E ≠ 0 ∧ E ≤ dtB n 12600 ∧ ∀ i j, i < n → j < n → over E (dtB n 12600) (invM n A i j) := by
  obtain ⟨z, hz, hzb⟩ := dt_over (n := n) (D := 840) (m := 12600) (by decide) hA
  have hD : 840 ^ n ≠ 0 := Nat.ne_of_gt (Nat.pow_pos (by decide))
  have hz0 : z ≠ 0 := over.zero' (B := 0) hD (hz ▸ h)
  refine ⟨z.natAbs, by omega, hzb, fun i j hi hj => ?_⟩
  rw [inv_cramer h hi hj, hz]
  refine over.quo hD (dt_over (by decide) fun a b ha hb => ?_) hz0
  unfold rset; split
  · unfold oneM; split
    · exact small_one
    · exact small_zero
  · exact hA a b ha hb
theorem sol_small (hn : n ≤ 5) (hA : ∀ i j, i < n → j < n → smallQ (A i j)) (h : dt n A ≠ 0) {x b : Nat → Rat} (hb : ∀ i, i < n → smallQ (b i)) (hx : ∀ i, i < n → sg n (fun j => A i j * x j) = b i) {i : Nat} (hi : i < n) :
    fits (x i) ∧ wt (x i) ≤ 180 := by
  obtain ⟨E, hE, hEb, hI⟩ := inv_small hA h
  have hD : E * 840 ≠ 0 := Nat.mul_ne_zero hE (by decide)
  have ho : over (E * 840) (n * (dtB n 12600 * 12600)) (x i) := by
    rw [sol_unique h hx hi]
    exact over.sg hD fun l hl => over.mul (hI i l hi hl) (hb l hl)
  have hB := dtB_le hn
  have e1 : n * (dtB n 12600 * 12600) < 2 ^ 93 := by
    have : n * (dtB n 12600 * 12600) ≤ 5 * (2 ^ 76 * 12600) := Nat.mul_le_mul hn (Nat.mul_le_mul_right _ (Nat.le_of_lt hB))
    exact Nat.lt_of_le_of_lt this (by decide +kernel)
  have e2 : E * 840 < 2 ^ 87 := by
    have : E * 840 ≤ 2 ^ 76 * 840 := Nat.mul_le_mul_right _ (Nat.le_trans hEb (Nat.le_of_lt hB))
    exact Nat.lt_of_le_of_lt this (by decide +kernel)
  refine ⟨fits_over2 hD ho e1 e2 (by decide) (by decide), over.wt hD ho e1 e2⟩
theorem inv_wt (hn : n ≤ 4) (hA : ∀ i j, i < n → j < n → smallQ (A i j)) (h : dt n A ≠ 0) {i j : Nat} (hi : i < n) (hj : j < n) : fits (invM n A i j) ∧ wt (invM n A i j) ≤ 120 := by
  obtain ⟨E, hE, hEb, hI⟩ := inv_small hA h
  have hB := dtB_le4 hn
  have ho := hI i j hi hj
  have e2 : E < 2 ^ 60 := Nat.lt_of_le_of_lt hEb hB
  exact ⟨fits_over2 hE ho hB e2 (by decide) (by decide), over.wt hE ho hB e2⟩
end
end Go.Proofs.YtbhkibilnmoljaaGreat
namespace Go.Proofs.YtbhkibilnmoljaaGreat
set_option linter.unusedVariables false

/-- The product of a matrix of m columns with one of m rows. -/
def mulM (m : Nat) (A B : Mx) : Mx := fun i k => sg m fun j => A i j * B j k
theorem mul_assoc (m o : Nat) (A B C : Mx) (i k : Nat) : mulM o (mulM m A B) C i k = mulM m A (mulM o B C) i k := by
  unfold mulM
  have e1 : sg o (fun j => sg m (fun l => A i l * B l j) * C j k) = sg o (fun j => sg m (fun l => A i l * (B l j * C j k))) := sg_congr fun j _ => by
    rw [← sg_mul_right]
    exact sg_congr fun l _ => by grind
  rw [e1, sg_comm]
  exact sg_congr fun l _ => sg_mul_left _ _ _
/-- Rows multiplied by numbers. -/
theorem dt_rows {n : Nat} (c : Nat → Rat) (B : Mx) : ∀ k, k ≤ n → dt n (fun i b => if i < k then c i * B i b else B i b) = pr k c * dt n B
  | 0, _ => by
    have e : (fun (i : Nat) (b : Nat) => if i < 0 then c i * B i b else B i b) = B := by
      funext i b; rw [if_neg (by omega)]
    rw [e, pr, Rat.one_mul]
  | k + 1, hk => by
    have ih := dt_rows (n := n) c B k (by omega)
    have e : (fun (i : Nat) (b : Nat) => if i < k + 1 then c i * B i b else B i b) = rset (fun i b => if i < k then c i * B i b else B i b) k (fun b => c k * B k b) := by
      funext i b; unfold rset
      by_cases h1 : i = k
      · subst h1; rw [if_pos (by omega), if_pos rfl]
      · rw [if_neg h1]
        by_cases h2 : i < k
        · rw [if_pos (by omega)]; show _ = if i < k then _ else _
          rw [if_pos h2]
        · rw [if_neg (by omega)]; show _ = if i < k then _ else _
          rw [if_neg h2]
    have e2 : rset (fun i b => if i < k then c i * B i b else B i b) k (B k) = fun i b => if i < k then c i * B i b else B i b := by
      funext i b; unfold rset
      by_cases h1 : i = k
      · subst h1; rw [if_pos rfl, if_neg (by omega)]
      · rw [if_neg h1]
    rw [e, dt_scale _ (show k < n by omega), e2, ih, pr]
    grind
theorem mul_row {m : Nat} {X B : Mx} {Y : Mx} {i i' : Nat} (h : X i = Y i') : mulM m X B i = mulM m Y B i' := by
  funext k; unfold mulM; rw [h]
/-- Products keep to the row operations on their left factor. -/
theorem mulC (n : Nat) (A B : Mx) : RowC n fun X s => dt n (mulM n A B) = s * dt n (mulM n X B) where
  congr := fun X Y s h hX => by
    rw [hX, dt_congr (fun a b ha _ => by rw [mul_row (B := B) (h a ha)])]
  swap := fun X s a b ha hb hab hX => by
    have e : mulM n (swp X a b) B = swp (mulM n X B) a b := by
      funext i; unfold swp
      by_cases h1 : i = a
      · subst h1; rw [if_pos rfl]; exact mul_row (by rw [if_pos rfl])
      · rw [if_neg h1]
        by_cases h2 : i = b
        · subst h2; rw [if_pos rfl]; exact mul_row (by rw [if_neg h1, if_pos rfl])
        · rw [if_neg h2]; exact mul_row (by rw [if_neg h1, if_neg h2])
    rw [hX, e, dt_swp ha hb hab]; grind
  add := fun X s i r c hi hr hir hX => by
    have e : mulM n (rset X i fun b => X i b + c * X r b) B = rset (mulM n X B) i fun b => mulM n X B i b + c * mulM n X B r b := by
      funext k b
      by_cases h1 : k = i
      · subst h1
        rw [rset_at]
        unfold mulM
        rw [rset_at, ← sg_mul_left, ← sg_add]
        exact sg_congr fun j _ => by grind
      · rw [rset_ne h1]
        exact congrFun (mul_row (rset_ne h1)) b
    rw [hX, e, dt_add hi hr hir]
theorem dt_mul (n : Nat) (A B : Mx) : dt n (mulM n A B) = dt n A * dt n B := by
  have h1 := elim_kept (mulC n A B) false (A := A) (by rw [Rat.one_mul]) n
  have h2 := elim_kept (detC n A) false (A := A) (by rw [Rat.one_mul]) n
  rw [h1, h2]
  by_cases hr : (elim false n A n).r = n
  · obtain ⟨h3, h4, h5⟩ := elim_unit hr n (Nat.le_refl _)
    rw [dt_diag (fun i j hi hj hij => h3 i j hi hj hij)]
    have e : dt n (mulM n (elim false n A n).A B) = dt n (fun i b => if i < n then (elim false n A n).A i i * B i b else B i b) := dt_congr fun i b hi hb => by
      rw [if_pos hi]
      unfold mulM
      have e2 : sg n (fun j => (elim false n A n).A i j * B j b) = sg n (fun j => if i = j then (elim false n A n).A i j * B j b else 0) := sg_congr fun j hj => by
        by_cases h6 : i = j
        · rw [if_pos h6]
        · rw [if_neg h6, h3 i j hi hj h6]; grind
      rw [e2, sg_one hi]
    rw [e, dt_rows (fun i => (elim false n A n).A i i) B n (Nat.le_refl _)]
    grind
  · have hr2 : (elim false n A n).r < n := by have := (elim_r false n A n).1; omega
    have hz0 : ∀ j, j < n → (elim false n A n).A (n - 1) j = 0 := fun j hj => elim_left false n A n (n - 1) j (by omega) (by omega) hj
    rw [dt_zero_row (A := (elim false n A n).A) (r := n - 1) (by omega) hz0]
    rw [dt_zero_row (A := mulM n (elim false n A n).A B) (r := n - 1) (by omega) (fun j hj => by
      unfold mulM
      exact (sg_congr fun l hl => by rw [hz0 l hl]; grind).trans (sg_zero n))]
    grind
/-- The elements of a product and its partial sums. -/
theorem mul_over {m D E a b : Nat} {A B : Mx} {i k : Nat} (hD : D ≠ 0) (hE : E ≠ 0) (hA : ∀ j, j < m → over D a (A i j)) (hB : ∀ j, j < m → over E b (B j k)) : (∀ j, j < m → over (D * E) (a * b) (A i j * B j k)) ∧ ∀ j, j ≤ m → over (D * E) (m * (a * b)) (sg j fun l => A i l * B l k) :=
  ⟨fun j hj => over.mul (hA j hj) (hB j hj), fun j hj => (over.sg (Nat.mul_ne_zero hD hE) fun l hl => over.mul (hA l (by omega)) (hB l (by omega))).mono (Nat.mul_le_mul_right _ hj)⟩
theorem mul_over' {m D E a b : Nat} {A B : Mx} {i k : Nat} (hD : D ≠ 0) (hE : E ≠ 0) (hA : ∀ j, j < m → over D a (A i j)) (hB : ∀ j, j < m → over E b (B j k)) : over (D * E) (m * (a * b)) (mulM m A B i k) := (mul_over hD hE hA hB).2 m (Nat.le_refl _)
end Go.Proofs.YtbhkibilnmoljaaGreat
