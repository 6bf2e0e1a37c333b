/-
  Elimination on matrices of rational numbers, as functions of two indices, and the sizes of what it meets. No program is named here.
  Ahead of it: Partitions and sums over blocks. The theorem of lumping, in sums over indices: the sums of a step are the step of the sums. No program is named here. Sums of products of fractions of a small weight are not large, whatever their signs. No program is named here. Fractions over one denominator: sums, products, weights. No program is named here.
-/
import Derived.Test.YtbhkibilnmoljaaGreatQMath6
namespace Go.Proofs.YtbhkibilnmoljaaGreat
set_option linter.unusedVariables false
/-- The number of blocks. -/
def cnt (l : List Int) : Nat := l.foldl (fun n b => if b = (n : Int) then n + 1 else n) 0
theorem cnt_nil : cnt [] = 0 := rfl
theorem cnt_snoc (l : List Int) (b : Int) : cnt (l ++ [b]) = if b = (cnt l : Int) then cnt l + 1 else cnt l := by unfold cnt; rw [List.foldl_append]; rfl
theorem cnt_take (l : List Int) (k : Nat) (h : k < l.length) : cnt (l.take (k + 1)) = if l[k] = (cnt (l.take k) : Int) then cnt (l.take k) + 1 else cnt (l.take k) := by rw [take_snoc l k h, cnt_snoc]
theorem cnt_take_le (l : List Int) (k : Nat) : cnt (l.take k) ≤ cnt (l.take (k + 1)) := by
  by_cases h : k < l.length
  · rw [cnt_take l k h]; split <;> omega
  · rw [List.take_of_length_le (by omega), List.take_of_length_le (by omega)]; exact Nat.le_refl _
theorem cnt_take_mono (l : List Int) {j k : Nat} (h : j ≤ k) : cnt (l.take j) ≤ cnt (l.take k) := by
  induction k with
  | zero => obtain rfl : j = 0 := by omega
            exact Nat.le_refl _
  | succ k ih =>
    rcases Nat.lt_or_ge j (k + 1) with h1 | h1
    · exact Nat.le_trans (ih (by omega)) (cnt_take_le l k)
    · obtain rfl : j = k + 1 := by omega
      exact Nat.le_refl _
theorem cnt_le (l : List Int) (k : Nat) : cnt (l.take k) ≤ k := by
  induction k with
  | zero => exact Nat.le_refl _
  | succ k ih =>
    by_cases h : k < l.length
    · rw [cnt_take l k h]; split <;> omega
    · rw [List.take_of_length_le (by omega)] at ih ⊢; omega
/-- l is a partition: each number is at most the number of blocks before it. -/
def okB (l : List Int) : Prop := ∀ k b, l[k]? = some b → 0 ≤ b ∧ b ≤ (cnt (l.take k) : Int)
theorem okB.lt {l : List Int} (h : okB l) {b : Int} {k : Nat} (hk : l[k]? = some b) : 0 ≤ b ∧ b < (cnt l : Int) := by
  obtain ⟨h1, h2⟩ := h k b hk
  obtain ⟨h3, h4⟩ := List.getElem?_eq_some_iff.1 hk
  have h5 := cnt_take l k h3
  have h6 := cnt_take_mono l (show k + 1 ≤ l.length by omega)
  rw [List.take_length] at h6
  refine ⟨h1, ?_⟩
  rw [h4] at h5
  split at h5 <;> omega
/-- The elements of a row that belong to a block. -/
def bsel (bl : List Int) (row : List Rat) (b : Int) : List Rat := ((bl.zip row).filter (fun p => decide (p.1 = b))).map (·.2)
theorem bsel_nil (b : Int) (row : List Rat) : bsel [] row b = [] := by simp [bsel]
theorem bsel_take (bl : List Int) (row : List Rat) (b : Int) (k : Nat) (h1 : k < bl.length) (h2 : k < row.length) :
    bsel (bl.take (k + 1)) (row.take (k + 1)) b = if bl[k] = b then bsel (bl.take k) (row.take k) b ++ [row[k]] else bsel (bl.take k) (row.take k) b := by
  unfold bsel
  rw [take_snoc bl k h1, take_snoc row k h2, List.zip_append (by rw [List.length_take, List.length_take]; omega), List.filter_append, List.map_append]
  by_cases h : bl[k] = b
  · rw [if_pos h]; simp [h]
  · rw [if_neg h]; simp [h]
theorem bsel_sub (bl : List Int) (row : List Rat) (b : Int) : (bsel bl row b).Sublist row := by
  unfold bsel
  have h1 : (((bl.zip row).filter (fun p => decide (p.1 = b))).map (·.2)).Sublist ((bl.zip row).map (·.2)) := List.Sublist.map _ List.filter_sublist
  refine h1.trans ?_
  clear h1
  have h2 : (bl.zip row).map (·.2) = row.take bl.length := by
    induction bl generalizing row with
    | nil => simp
    | cons x bl ih => cases row with
      | nil => simp
      | cons y row => simp [ih]
  rw [h2]
  exact List.take_sublist _ _
/-- The sum over a block. -/
def bsum (bl : List Int) (row : List Rat) (b : Int) : Rat := lsum (bsel bl row b)
theorem bsum_take (bl : List Int) (row : List Rat) (b : Int) (k : Nat) (h1 : k < bl.length) (h2 : k < row.length) :
    bsum (bl.take (k + 1)) (row.take (k + 1)) b = if bl[k] = b then bsum (bl.take k) (row.take k) b + row[k] else bsum (bl.take k) (row.take k) b := by
  unfold bsum
  rw [bsel_take bl row b k h1 h2]
  split
  · rw [lsum_snoc]
  · rfl
theorem bsum_fits {bl : List Int} {row : List Rat} (k : Nat) (b : Int) (h : ∀ q ∈ row, 0 ≤ q) (hw : wts row ≤ 3800) : fits (bsum (bl.take k) (row.take k) b) :=
  lsum_fits ((bsel_sub _ _ b).trans (List.take_sublist _ _)) h hw
end Go.Proofs.YtbhkibilnmoljaaGreat
namespace Go.Proofs.YtbhkibilnmoljaaGreat
set_option linter.unusedVariables false

/-- The sum of f over the indices below n. -/
def sg : Nat → (Nat → Rat) → Rat
  | 0, _ => 0
  | n + 1, f => sg n f + f n
theorem sg_congr {n : Nat} {f g : Nat → Rat} (h : ∀ i, i < n → f i = g i) : sg n f = sg n g := by
  induction n with
  | zero => rfl
  | succ n ih => rw [sg, sg, ih (fun i hi => h i (by omega)), h n (by omega)]
theorem sg_zero (n : Nat) : sg n (fun _ => 0) = 0 := by
  induction n with
  | zero => rfl
  | succ n ih => rw [sg, ih]; grind
theorem sg_add (n : Nat) (f g : Nat → Rat) : sg n (fun i => f i + g i) = sg n f + sg n g := by
  induction n with
  | zero => simp [sg]; grind
  | succ n ih => simp only [sg, ih]; grind
theorem sg_mul_left (n : Nat) (c : Rat) (f : Nat → Rat) : sg n (fun i => c * f i) = c * sg n f := by
  induction n with
  | zero => simp [sg]
  | succ n ih => simp only [sg, ih]; grind
theorem sg_mul_right (n : Nat) (c : Rat) (f : Nat → Rat) : sg n (fun i => f i * c) = sg n f * c := by
  induction n with
  | zero => simp [sg]
  | succ n ih => simp only [sg, ih]; grind
theorem sg_comm (n m : Nat) (f : Nat → Nat → Rat) : sg n (fun i => sg m (fun j => f i j)) = sg m (fun j => sg n (fun i => f i j)) := by
  induction n with
  | zero => simp only [sg]; rw [sg_zero]
  | succ n ih => simp only [sg]; rw [ih, ← sg_add]
theorem sg_one {m k : Nat} (h : k < m) (f : Nat → Rat) : sg m (fun a => if k = a then f a else 0) = f k := by
  induction m with
  | zero => omega
  | succ m ih =>
    rw [sg]
    by_cases hk : k = m
    · subst hk
      rw [sg_congr (g := fun _ => 0) (fun i hi => if_neg (by omega)), sg_zero, if_pos rfl]
      grind
    · rw [ih (by omega), if_neg hk]
      grind
/-- A sum, block by block. -/
theorem sg_fiber {n m : Nat} {blk : Nat → Nat} (hb : ∀ i, i < n → blk i < m) (f : Nat → Rat) : sg n f = sg m (fun a => sg n (fun i => if blk i = a then f i else 0)) := by
  rw [← sg_comm]
  exact sg_congr fun i hi => (sg_one (hb i hi) (fun _ => f i)).symm
/-- The matrix of steps for rates R and one over the rate. -/
def stepM (n : Nat) (R : Nat → Nat → Rat) (ρ : Rat) (i j : Nat) : Rat := if i = j then 1 - sg n (R i) * ρ else R i j * ρ
theorem lump_key {n m : Nat} {blk : Nat → Nat} (hb : ∀ i, i < n → blk i < m) {R Q : Nat → Nat → Rat} (ρ : Rat) (hd : ∀ i, i < n → R i i = 0)
    (hQ : ∀ i, i < n → ∀ b, b < m → blk i ≠ b → Q (blk i) b = sg n (fun j => if blk j = b then R i j else 0)) (hQd : ∀ b, b < m → Q b b = 0) {i b : Nat} (hi : i < n) (hbm : b < m) :
    sg n (fun j => if blk j = b then stepM n R ρ i j else 0) = stepM m Q ρ (blk i) b := by
  by_cases h : blk i = b
  · have e1 : sg n (fun j => if blk j = b then stepM n R ρ i j else 0) = sg n (fun j => (if i = j then 1 - sg n (R i) * ρ else 0) + (if blk j = b then R i j else 0) * ρ) := sg_congr fun j hj => by
      unfold stepM
      by_cases hij : i = j
      · subst hij
        rw [if_pos h, if_pos rfl, if_pos rfl, if_pos h, hd i hi]
        grind
      · rw [if_neg hij, if_neg hij]
        by_cases hjb : blk j = b
        · rw [if_pos hjb, if_pos hjb]; grind
        · rw [if_neg hjb, if_neg hjb]; grind
    have e2 : sg n (R i) = sg n (fun j => if blk j = b then R i j else 0) + sg m (Q b) := by
      rw [sg_fiber hb (R i)]
      have e3 : sg m (fun a => sg n (fun j => if blk j = a then R i j else 0)) = sg m (fun a => (if b = a then sg n (fun j => if blk j = a then R i j else 0) else 0) + Q b a) := sg_congr fun a ha => by
        by_cases hab : b = a
        · subst hab
          rw [if_pos rfl, hQd b ha]; grind
        · rw [if_neg hab, ← h, hQ i hi a ha (by omega)]; grind
      rw [e3, sg_add, sg_one hbm]
    rw [e1, sg_add, sg_one hi (fun _ => 1 - sg n (R i) * ρ), sg_mul_right]
    unfold stepM
    rw [if_pos h, h, e2]
    grind
  · have e1 : sg n (fun j => if blk j = b then stepM n R ρ i j else 0) = sg n (fun j => (if blk j = b then R i j else 0) * ρ) := sg_congr fun j hj => by
      unfold stepM
      by_cases hjb : blk j = b
      · rw [if_pos hjb, if_pos hjb, if_neg (by intro hij; subst hij; exact h hjb)]
      · rw [if_neg hjb, if_neg hjb]; grind
    rw [e1, sg_mul_right]
    unfold stepM
    rw [if_neg h, hQ i hi b hbm h]
/-- THE THEOREM OF LUMPING. -/
theorem lump_step {n m : Nat} {blk : Nat → Nat} (hb : ∀ i, i < n → blk i < m) {R Q : Nat → Nat → Rat} (ρ : Rat) (hd : ∀ i, i < n → R i i = 0)
    (hQ : ∀ i, i < n → ∀ b, b < m → blk i ≠ b → Q (blk i) b = sg n (fun j => if blk j = b then R i j else 0)) (hQd : ∀ b, b < m → Q b b = 0) (v : Nat → Rat) {b : Nat} (hbm : b < m) :
    sg n (fun j => if blk j = b then sg n (fun i => v i * stepM n R ρ i j) else 0) = sg m (fun a => sg n (fun i => if blk i = a then v i else 0) * stepM m Q ρ a b) := by
  have e1 : sg n (fun j => if blk j = b then sg n (fun i => v i * stepM n R ρ i j) else 0) = sg n (fun j => sg n (fun i => v i * (if blk j = b then stepM n R ρ i j else 0))) := sg_congr fun j hj => by
    by_cases hjb : blk j = b
    · rw [if_pos hjb]
      exact sg_congr fun i _ => by rw [if_pos hjb]
    · rw [if_neg hjb]
      exact (sg_zero n).symm.trans (sg_congr fun i _ => by rw [if_neg hjb, Rat.mul_zero])
  have e2 : sg m (fun a => sg n (fun i => if blk i = a then v i else 0) * stepM m Q ρ a b) = sg m (fun a => sg n (fun i => if blk i = a then v i * stepM m Q ρ a b else 0)) := sg_congr fun a ha => by
    rw [← sg_mul_right]
    exact sg_congr fun i _ => by
      by_cases h : blk i = a
      · rw [if_pos h, if_pos h]
      · rw [if_neg h, if_neg h]; grind
  rw [e1, e2, sg_comm, ← sg_comm n m]
  refine sg_congr fun i hi => ?_
  rw [sg_mul_left, lump_key hb ρ hd hQ hQd hi hbm, sg_one (hb i hi) (fun a => v i * stepM m Q ρ a b)]
/-- A block's sum over a list, by index. -/
theorem bsum_sg (bl : List Int) (row : List Rat) (b : Int) (hl : bl.length = row.length) : ∀ k, k ≤ bl.length → bsum (bl.take k) (row.take k) b = sg k (fun j => if bl.getD j 0 = b then row.getD j 0 else 0)
  | 0, _ => by simp [bsum, bsel, sg, lsum]
  | k + 1, h => by
    rw [bsum_take bl row b k (by omega) (by omega), sg, bsum_sg bl row b hl k (by omega)]
    have h1 : bl.getD k 0 = bl[k]'(by omega) := by simp [List.getD, List.getElem?_eq_getElem (show k < bl.length by omega)]
    have h2 : row.getD k 0 = row[k]'(by omega) := by simp [List.getD, List.getElem?_eq_getElem (show k < row.length by omega)]
    rw [h1, h2]
    by_cases h3 : bl[k]'(by omega) = b
    · rw [if_pos h3, if_pos h3]
    · rw [if_neg h3, if_neg h3]; grind
end Go.Proofs.YtbhkibilnmoljaaGreat
namespace Go.Proofs.YtbhkibilnmoljaaGreat
set_option linter.unusedVariables false

/-- q is z / D with |z| + D of at most 2^k. -/
def slimS (q : Rat) (k : Nat) : Prop := ∃ (z : Int) (D : Nat), D ≠ 0 ∧ q = mkRat z D ∧ z.natAbs + D ≤ 2 ^ k
theorem slimS_zero : slimS 0 0 := ⟨0, 1, by decide, by decide +kernel, by decide⟩
theorem slimS_mono {q : Rat} {j k : Nat} (h : slimS q j) (hk : j ≤ k) : slimS q k := by
  obtain ⟨z, D, h1, h2, h3⟩ := h
  exact ⟨z, D, h1, h2, Nat.le_trans h3 (Nat.pow_le_pow_right (by decide) hk)⟩
theorem slimS_add {p q : Rat} {j k : Nat} (hp : slimS p j) (hq : slimS q k) : slimS (p + q) (j + k) := by
  obtain ⟨z, D, h1, rfl, h2⟩ := hp
  obtain ⟨n, d, h3, rfl, h4⟩ := hq
  refine ⟨z * d + n * D, D * d, Nat.mul_ne_zero h1 h3, Rat.mkRat_add_mkRat _ _ h1 h3, ?_⟩
  rw [Nat.pow_add]
  have h5 := Nat.mul_le_mul h2 h4
  have h6 := Int.natAbs_add_le (z * d) (n * D)
  rw [Int.natAbs_mul, Int.natAbs_mul, Int.natAbs_natCast, Int.natAbs_natCast] at h6
  rw [Nat.add_mul, Nat.mul_add, Nat.mul_add] at h5
  have e : n.natAbs * D = D * n.natAbs := Nat.mul_comm _ _
  have := Nat.zero_le (z.natAbs * n.natAbs)
  omega
theorem slimS_mul {p q : Rat} {j k : Nat} (hp : slimS p j) (hq : slimS q k) : slimS (p * q) (j + k) := by
  obtain ⟨z, D, h1, rfl, h2⟩ := hp
  obtain ⟨n, d, h3, rfl, h4⟩ := hq
  refine ⟨z * n, D * d, Nat.mul_ne_zero h1 h3, Rat.mkRat_mul_mkRat _ _ _ _, ?_⟩
  rw [Nat.pow_add]
  have h5 := Nat.mul_le_mul h2 h4
  rw [Int.natAbs_mul]
  rw [Nat.add_mul, Nat.mul_add, Nat.mul_add] at h5
  have := Nat.zero_le (z.natAbs * d)
  have := Nat.zero_le (D * n.natAbs)
  omega
theorem slimS_wt (q : Rat) : slimS q (wt q) := by
  refine ⟨q.num, q.den, q.den_nz, (Rat.mkRat_self q).symm, ?_⟩
  unfold wt
  have h0 : nbits q.num.natAbs ≤ nbits q.num.natAbs := Nat.le_refl _
  have h1 : nbits q.den ≤ nbits q.den := Nat.le_refl _
  rw [nbits_le] at h0 h1
  split
  · next hz =>
    have e : q = 0 := Rat.num_eq_zero.1 hz
    subst e
    decide
  · split
    · next hz hd => simp only [hd, Nat.add_zero]; omega
    · next hz hd =>
      have hn : q.num.natAbs ≠ 0 := by omega
      have hd0 := q.den_nz
      have h2 : 1 < nbits q.den := nbits_gt_one.2 (by omega)
      have h3 : 0 < nbits q.num.natAbs := nbits_pos.2 hn
      rw [Nat.pow_add]
      have e1 : 2 ^ 1 ≤ 2 ^ nbits q.num.natAbs := Nat.pow_le_pow_right (by decide) h3
      have e2 : 2 ^ 1 ≤ 2 ^ nbits q.den := Nat.pow_le_pow_right (by decide) (by omega)
      generalize 2 ^ nbits q.num.natAbs = A at *
      generalize 2 ^ nbits q.den = B at *
      obtain ⟨a, rfl⟩ : ∃ a, A = a + 2 := ⟨A - 2, by omega⟩
      obtain ⟨b, rfl⟩ : ∃ b, B = b + 2 := ⟨B - 2, by omega⟩
      have e3 : (a + 2) * (b + 2) = a * b + 2 * a + 2 * b + 4 := by grind
      rw [e3]
      have := Nat.zero_le (a * b)
      omega
theorem slimS_fits {q : Rat} {k : Nat} (h : slimS q k) (hk : k ≤ 4095) : fits q := by
  obtain ⟨z, D, h1, rfl, h3⟩ := h
  have e : mkRat z D = fq (decide (z < 0)) z.natAbs D := by
    unfold fq sgn
    by_cases hz : z < 0
    · rw [decide_eq_true hz, if_pos rfl]; congr 1; omega
    · rw [decide_eq_false hz, if_neg (by decide)]; congr 1; omega
  rw [e]
  have h5 : 2 ^ k < 2 ^ (k + 1) := Nat.pow_lt_pow_right (by decide) (Nat.lt_succ_self k)
  have h6 : k + 1 ≤ 4096 := by omega
  refine ⟨?_, ?_⟩
  · rw [fq_natAbs _ _ _ h1]
    exact Nat.le_trans (nbits_lt (Nat.lt_of_le_of_lt (Nat.div_le_self _ _) (Nat.lt_of_le_of_lt (Nat.le_trans (Nat.le_add_right z.natAbs D) h3) h5))) h6
  · rw [fq_den _ _ _ h1]
    exact Nat.le_trans (nbits_lt (Nat.lt_of_le_of_lt (Nat.div_le_self _ _) (Nat.lt_of_le_of_lt (Nat.le_trans (Nat.le_add_left D z.natAbs) h3) h5))) h6
/-- The sum of natural numbers over the indices below n. -/
def sgN : Nat → (Nat → Nat) → Nat
  | 0, _ => 0
  | n + 1, f => sgN n f + f n
theorem sgN_le {k n : Nat} (f : Nat → Nat) (h : k ≤ n) : sgN k f ≤ sgN n f := by
  induction n with
  | zero => obtain rfl : k = 0 := by omega
            exact Nat.le_refl _
  | succ n ih =>
    by_cases hk : k = n + 1
    · subst hk; exact Nat.le_refl _
    · have := ih (by omega); rw [sgN]; omega
theorem slimS_sg {n : Nat} {f : Nat → Rat} {w : Nat → Nat} (h : ∀ i, i < n → slimS (f i) (w i)) : slimS (sg n f) (sgN n w) := by
  induction n with
  | zero => exact slimS_zero
  | succ n ih => exact slimS_add (ih fun i hi => h i (by omega)) (h n (by omega))
/-- A sum of products of elements of a small weight is not large. -/
theorem sg_mul_fits {n : Nat} {x y : Nat → Rat} (hw : sgN n (fun i => wt (x i) + wt (y i)) ≤ 3800) (k : Nat) (hk : k ≤ n) : fits (sg k fun i => x i * y i) :=
  slimS_fits (slimS_sg (w := fun i => wt (x i) + wt (y i)) fun i _ => slimS_mul (slimS_wt _) (slimS_wt _)) (by have := sgN_le (fun i => wt (x i) + wt (y i)) hk; omega)
theorem mul_fits26 {x y : Rat} (hw : wt x + wt y ≤ 3800) : fits (x * y) := slimS_fits (slimS_mul (slimS_wt _) (slimS_wt _)) (by omega)
end Go.Proofs.YtbhkibilnmoljaaGreat
namespace Go.Proofs.YtbhkibilnmoljaaGreat
set_option linter.unusedVariables false

/-- q is z / D with |z| of at most B. -/
def over (D B : Nat) (q : Rat) : Prop := ∃ z : Int, q = mkRat z D ∧ z.natAbs ≤ B
theorem over.zero (D B : Nat) : over D B 0 := ⟨0, by simp, by simp⟩
theorem over.mono {D A B : Nat} {q : Rat} (h : over D A q) (hB : A ≤ B) : over D B q := by
  obtain ⟨z, h1, h2⟩ := h
  exact ⟨z, h1, by omega⟩
theorem over.add {D A B : Nat} {p q : Rat} (hD : D ≠ 0) (hp : over D A p) (hq : over D B q) : over D (A + B) (p + q) := by
  obtain ⟨y, rfl, h1⟩ := hp
  obtain ⟨z, rfl, h2⟩ := hq
  refine ⟨y + z, ?_, ?_⟩
  · rw [Rat.mkRat_add_mkRat _ _ hD hD, ← Int.add_mul]
    exact Rat.mkRat_mul_right hD
  · have := Int.natAbs_add_le y z
    omega
theorem over.neg {D A : Nat} {p : Rat} (hp : over D A p) : over D A (-p) := by
  obtain ⟨y, rfl, h1⟩ := hp
  exact ⟨-y, by rw [Rat.neg_mkRat], by omega⟩
theorem over.mul {D E A B : Nat} {p q : Rat} (hp : over D A p) (hq : over E B q) : over (D * E) (A * B) (p * q) := by
  obtain ⟨y, rfl, h1⟩ := hp
  obtain ⟨z, rfl, h2⟩ := hq
  exact ⟨y * z, Rat.mkRat_mul_mkRat _ _ _ _, by rw [Int.natAbs_mul]; exact Nat.mul_le_mul h1 h2⟩
theorem over.scale {D A m : Nat} {p : Rat} (hm : m ≠ 0) (hp : over D A p) : over (D * m) (A * m) p := by
  obtain ⟨y, rfl, h1⟩ := hp
  exact ⟨y * m, (Rat.mkRat_mul_right hm).symm, by rw [Int.natAbs_mul, Int.natAbs_natCast]; exact Nat.mul_le_mul_right _ h1⟩
theorem over.sg {D B n : Nat} {f : Nat → Rat} (hD : D ≠ 0) (h : ∀ i, i < n → over D B (f i)) : over D (n * B) (sg n f) := by
  induction n with
  | zero => exact over.zero _ _
  | succ n ih => rw [Nat.succ_mul]; exact over.add hD (ih fun i hi => h i (by omega)) (h n (by omega))
theorem over.fq {D B : Nat} {q : Rat} (h : over D B q) : ∃ (s : Bool) (n : Nat), q = fq s n D ∧ n ≤ B := by
  obtain ⟨z, rfl, h2⟩ := h
  refine ⟨decide (z < 0), z.natAbs, ?_, h2⟩
  unfold Go.Proofs.YtbhkibilnmoljaaGreat.fq sgn
  by_cases hz : z < 0
  · rw [decide_eq_true hz, if_pos rfl]; congr 1; omega
  · rw [decide_eq_false hz, if_neg (by decide)]; congr 1; omega
theorem over.wt {D B a b : Nat} {q : Rat} (hD : D ≠ 0) (h : over D B q) (ha : B < 2 ^ a) (hb : D < 2 ^ b) : wt q ≤ a + b := by
  obtain ⟨s, n, rfl, h1⟩ := h.fq
  have h2 : nbits (Go.Proofs.YtbhkibilnmoljaaGreat.fq s n D).num.natAbs ≤ a := by
    rw [fq_natAbs _ _ _ hD]
    exact nbits_lt (Nat.lt_of_le_of_lt (Nat.div_le_self _ _) (Nat.lt_of_le_of_lt h1 ha))
  have h3 : nbits (Go.Proofs.YtbhkibilnmoljaaGreat.fq s n D).den ≤ b := by
    rw [fq_den _ _ _ hD]
    exact nbits_lt (Nat.lt_of_le_of_lt (Nat.div_le_self _ _) hb)
  unfold Go.Proofs.YtbhkibilnmoljaaGreat.wt
  split
  · omega
  · split <;> omega
theorem over.fits {D B : Nat} {q : Rat} (hD : D ≠ 0) (h : over D B q) (ha : B < 2 ^ 4096) (hb : D < 2 ^ 4096) : fits q := by
  obtain ⟨s, n, rfl, h1⟩ := h.fq
  refine ⟨?_, ?_⟩
  · rw [fq_natAbs _ _ _ hD]
    exact nbits_lt (Nat.lt_of_le_of_lt (Nat.div_le_self _ _) (Nat.lt_of_le_of_lt h1 ha))
  · rw [fq_den _ _ _ hD]
    exact nbits_lt (Nat.lt_of_le_of_lt (Nat.div_le_self _ _) hb)
theorem inv_mk {p d : Nat} (hp : p ≠ 0) (hd : d ≠ 0) : (mkRat (p : Int) d)⁻¹ = mkRat (d : Int) p := by
  rw [← Rat.divInt_ofNat, ← Rat.divInt_ofNat, Rat.inv_divInt]
theorem over.inv {p d : Nat} (hp : p ≠ 0) (hd : d ≠ 0) : over p d (mkRat (p : Int) d)⁻¹ := ⟨d, inv_mk hp hd, by simp⟩
theorem over.one {D : Nat} (hD : D ≠ 0) : over D D 1 := ⟨D, by
  have := Rat.mkRat_self 1
  have h := Rat.mkRat_mul_right (n := 1) (d := 1) hD
  rw [Int.one_mul, Nat.one_mul] at h
  rw [h]; exact this.symm, by simp⟩
/-- An element of a matrix of steps. -/
theorem over.step {n p d N D : Nat} {R : Nat → Nat → Rat} (hD : D ≠ 0) (hp : p ≠ 0) (hd : d ≠ 0) (hR : ∀ i j, i < n → j < n → over D N (R i j)) {i j : Nat} (hi : i < n) (hj : j < n) :
    over (D * p) (D * p + n * N * d) (stepM n R (mkRat (p : Int) d)⁻¹ i j) := by
  unfold stepM
  have h0 : D * p ≠ 0 := Nat.mul_ne_zero hD hp
  split
  · rw [Rat.sub_eq_add_neg]
    exact over.add h0 (over.one h0) (over.neg (over.mul (over.sg hD fun k hk => hR i k hi hk) (over.inv hp hd)))
  · refine (over.mul (hR i j hi hj) (over.inv hp hd)).mono ?_
    have h1 : N * d ≤ n * N * d := Nat.mul_le_mul_right _ (Nat.le_mul_of_pos_left _ (by omega))
    omega
theorem sg_nonneg {n : Nat} {f : Nat → Rat} (h : ∀ i, i < n → 0 ≤ f i) : 0 ≤ sg n f := by
  induction n with
  | zero => exact Rat.le_refl
  | succ n ih => exact Rat.add_nonneg (ih fun i hi => h i (by omega)) (h n (by omega))
/-- A row of the quotient has at most the sum of the row. -/
theorem quo_sum_le {n m : Nat} {blk : Nat → Nat} (hb : ∀ i, i < n → blk i < m) {R Q : Nat → Nat → Rat} (hR : ∀ i j, i < n → j < n → 0 ≤ R i j)
    (hQ : ∀ i, i < n → ∀ b, b < m → blk i ≠ b → Q (blk i) b = sg n (fun j => if blk j = b then R i j else 0)) (hQd : ∀ b, b < m → Q b b = 0) {i : Nat} (hi : i < n) : sg m (Q (blk i)) ≤ sg n (R i) := by
  have e2 : sg n (R i) = sg n (fun j => if blk j = blk i then R i j else 0) + sg m (Q (blk i)) := by
    rw [sg_fiber hb (R i)]
    have e3 : sg m (fun a => sg n (fun j => if blk j = a then R i j else 0)) = sg m (fun a => (if blk i = a then sg n (fun j => if blk j = a then R i j else 0) else 0) + Q (blk i) a) := sg_congr fun a ha => by
      by_cases hab : blk i = a
      · subst hab
        rw [if_pos rfl, hQd _ ha]; grind
      · rw [if_neg hab, hQ i hi a ha hab]; grind
    rw [e3, sg_add, sg_one (hb i hi)]
  have h0 : 0 ≤ sg n (fun j => if blk j = blk i then R i j else 0) := sg_nonneg fun j hj => by
    by_cases h : blk j = blk i
    · rw [if_pos h]; exact hR i j hi hj
    · rw [if_neg h]; exact Rat.le_refl
  rw [e2]
  grind
/-- A row's sum by index. -/
theorem lsum_sg (l : List Rat) : lsum l = sg l.length (fun j => l.getD j 0) := by
  have key : ∀ k, k ≤ l.length → lsum (l.take k) = sg k (fun j => l.getD j 0) := by
    intro k
    induction k with
    | zero => intro _; simp [sg, lsum]
    | succ k ih =>
      intro h
      rw [lsum_take l k (by omega), sg, ih (by omega)]
      simp [List.getD, List.getElem?_eq_getElem (show k < l.length by omega)]
  have := key l.length (Nat.le_refl _)
  rwa [List.take_length] at this
end Go.Proofs.YtbhkibilnmoljaaGreat
namespace Go.Proofs.YtbhkibilnmoljaaGreat
set_option linter.unusedVariables false

/-- The first index from r on, of f, at which z holds; r + f if there is none. -/
def fp (z : Nat → Bool) : Nat → Nat → Nat
  | 0, r => r
  | f + 1, r => if z r = true then r else fp z f (r + 1)
theorem fp_ge (z : Nat → Bool) (f r : Nat) : r ≤ fp z f r ∧ fp z f r ≤ r + f := by
  induction f generalizing r with
  | zero => exact ⟨Nat.le_refl _, Nat.le_refl _⟩
  | succ f ih => rw [fp]; have := ih (r + 1); split <;> omega
theorem fp_before (z : Nat → Bool) (f r : Nat) : ∀ i, r ≤ i → i < fp z f r → z i = false := by
  induction f generalizing r with
  | zero => intro i h1 h2; rw [fp] at h2; omega
  | succ f ih =>
    intro i h1 h2
    rw [fp] at h2
    split at h2
    · omega
    · next h =>
      rcases Nat.eq_or_lt_of_le h1 with h3 | h3
      · subst h3; simpa using h
      · exact ih (r + 1) i h3 h2
theorem fp_at (z : Nat → Bool) (f r : Nat) (h : fp z f r < r + f) : z (fp z f r) = true := by
  induction f generalizing r with
  | zero => rw [fp] at h; omega
  | succ f ih =>
    rw [fp] at h ⊢
    split
    · next h1 => exact h1
    · next h1 => rw [if_neg h1] at h; exact ih (r + 1) (by omega)
theorem fp_eq {z : Nat → Bool} {f r k : Nat} (h1 : r ≤ k) (h2 : k ≤ r + f) (h3 : ∀ i, r ≤ i → i < k → z i = false) (h4 : k < r + f → z k = true) : fp z f r = k := by
  have g1 := fp_ge z f r
  rcases Nat.lt_trichotomy (fp z f r) k with h | h | h
  · have := fp_at z f r (by omega)
    rw [h3 _ g1.1 h] at this; cases this
  · exact h
  · have := fp_before z f r k h1 h
    rw [h4 (by omega)] at this; cases this

abbrev Mx := Nat → Nat → Rat
/-- Two rows change places. -/
def swp (A : Mx) (a b : Nat) : Mx := fun i => if i = a then A b else if i = b then A a else A i
/-- A matrix under elimination, its rank so far, the product of its pivots with the exchanges' sign. -/
structure St where
  A : Mx
  r : Nat
  d : Rat
/-- Row i is reduced by row r at column k. -/
def act (below : Bool) (A : Mx) (r k i : Nat) : Prop := i ≠ r ∧ ¬ (below = true ∧ i < r) ∧ A i k ≠ 0
instance (below : Bool) (A : Mx) (r k i : Nat) : Decidable (act below A r k i) := inferInstanceAs (Decidable (_ ∧ _ ∧ _))
def redu (below : Bool) (A : Mx) (r k : Nat) : Mx := fun i j => if act below A r k i ∧ k ≤ j then A i j - A i k / A r k * A r j else A i j
/-- The row of the pivot in column k. -/
def pvt (n k : Nat) (S : St) : Nat := fp (fun i => decide (S.A i k ≠ 0)) (n - S.r) S.r
def estep (below : Bool) (n k : Nat) (S : St) : St :=
  if pvt n k S < n then ⟨redu below (swp S.A S.r (pvt n k S)) S.r k, S.r + 1, (if pvt n k S = S.r then S.d else -S.d) * swp S.A S.r (pvt n k S) S.r k⟩ else S
def elim (below : Bool) (n : Nat) (A : Mx) : Nat → St
  | 0 => ⟨A, 0, 1⟩
  | k + 1 => estep below n k (elim below n A k)
theorem elim_r (below : Bool) (n : Nat) (A : Mx) (k : Nat) : (elim below n A k).r ≤ n ∧ (elim below n A k).r ≤ k := by
  induction k with
  | zero => exact ⟨Nat.zero_le _, Nat.le_refl _⟩
  | succ k ih =>
    rw [elim, estep]
    have := fp_ge (fun i => decide ((elim below n A k).A i k ≠ 0)) (n - (elim below n A k).r) (elim below n A k).r
    split
    · next h => unfold pvt at h; show (elim below n A k).r + 1 ≤ n ∧ (elim below n A k).r + 1 ≤ k + 1; omega
    · omega
theorem estep_stop {below : Bool} {n k : Nat} {S : St} (h : n ≤ S.r) : estep below n k S = S := by
  have := fp_ge (fun i => decide (S.A i k ≠ 0)) (n - S.r) S.r
  rw [estep, if_neg (by unfold pvt; omega)]
theorem elim_stop {below : Bool} {n : Nat} {A : Mx} {k : Nat} (h : (elim below n A k).r = n) : ∀ j, k ≤ j → elim below n A j = elim below n A k
  | 0, hj => by obtain rfl : k = 0 := by omega
                rfl
  | j + 1, hj => by
    rcases Nat.eq_or_lt_of_le hj with h1 | h1
    · rw [h1]
    · have ih := elim_stop h j (by omega)
      rw [elim, ih, estep_stop (by omega)]
/-- What a step computes is not large. -/
def fitE (below : Bool) (n m k : Nat) (S : St) : Prop :=
  pvt n k S < n → fits (-S.d) ∧ fits ((if pvt n k S = S.r then S.d else -S.d) * swp S.A S.r (pvt n k S) S.r k) ∧
    ∀ i, i < n → act below (swp S.A S.r (pvt n k S)) S.r k i → fits (swp S.A S.r (pvt n k S) i k / swp S.A S.r (pvt n k S) S.r k) ∧
      ∀ j, j < m → k ≤ j → fits (swp S.A S.r (pvt n k S) i k / swp S.A S.r (pvt n k S) S.r k * swp S.A S.r (pvt n k S) S.r j) ∧
        fits (swp S.A S.r (pvt n k S) i j - swp S.A S.r (pvt n k S) i k / swp S.A S.r (pvt n k S) S.r k * swp S.A S.r (pvt n k S) S.r j)

theorem over.zero' {D B : Nat} {z : Int} (hD : D ≠ 0) (h : mkRat z D ≠ 0) : z ≠ 0 := fun e => h (by rw [e]; simp)
theorem div_mk {y z : Int} {D : Nat} (hD : D ≠ 0) (hz : z ≠ 0) : mkRat y D / mkRat z D = mkRat (y * z.sign) z.natAbs := by
  have hn : z.natAbs ≠ 0 := by omega
  have hq : mkRat z D ≠ 0 := fun e => hz ((Rat.mkRat_eq_zero hD).1 e)
  have e : mkRat y D = mkRat (y * z.sign) z.natAbs * mkRat z D := by
    rw [Rat.mkRat_mul_mkRat, Int.mul_assoc, Int.sign_mul_self, Int.mul_comm y]
    exact (Rat.mkRat_mul_left hn).symm
  rw [e, Rat.mul_div_cancel hq]
/-- A quotient of two fractions over one denominator. -/
theorem over.quo {D B : Nat} {p : Rat} {z : Int} (hD : D ≠ 0) (hp : over D B p) (hz : z ≠ 0) : over z.natAbs B (p / mkRat z D) := by
  obtain ⟨y, rfl, h1⟩ := hp
  refine ⟨y * z.sign, div_mk hD hz, ?_⟩
  rw [Int.natAbs_mul, Int.natAbs_sign_of_ne_zero hz, Nat.mul_one]
  exact h1
theorem over.sub {D A B : Nat} {p q : Rat} (hD : D ≠ 0) (hp : over D A p) (hq : over D B q) : over D (A + B) (p - q) := by
  rw [Rat.sub_eq_add_neg]; exact over.add hD hp (over.neg hq)

/-- All elements of the table are over D with at most B. -/
def overT (n m D B : Nat) (A : Mx) : Prop := ∀ i j, i < n → j < m → over D B (A i j)
theorem overT.swp {n m D B : Nat} {A : Mx} {a b : Nat} (h : overT n m D B A) (ha : a < n) (hb : b < n) : overT n m D B (swp A a b) := by
  intro i j hi hj
  unfold Go.Proofs.YtbhkibilnmoljaaGreat.swp
  split
  · exact h b j hb hj
  · split
    · exact h a j ha hj
    · exact h i j hi hj
theorem overT.redu {n m D B : Nat} {A : Mx} {r k : Nat} {below : Bool} (hD : D ≠ 0) (h : overT n m D B A) (hr : r < n) (hk : k < m) (hp : A r k ≠ 0) :
    ∃ E, E ≠ 0 ∧ E ≤ B ∧ overT n m (D * E) (2 * (B * B)) (redu below A r k) ∧
      ∀ i, i < n → over E B (A i k / A r k) ∧ ∀ j, j < m → over (D * E) (B * B) (A i k / A r k * A r j) ∧ over (D * E) (2 * (B * B)) (A i j - A i k / A r k * A r j) := by
  obtain ⟨z, hz, hzb⟩ := h r k hr hk
  have hz0 : z ≠ 0 := over.zero' (B := B) hD (hz ▸ hp)
  have hE : z.natAbs ≠ 0 := by omega
  have hq : ∀ i, i < n → over z.natAbs B (A i k / A r k) := fun i hi => by rw [hz]; exact over.quo hD (h i k hi hk) hz0
  have hm : ∀ i j, i < n → j < m → over (D * z.natAbs) (B * B) (A i k / A r k * A r j) := fun i j hi hj => by
    have := over.mul (hq i hi) (h r j hr hj)
    rw [Nat.mul_comm z.natAbs D] at this
    exact this
  have hB : ∀ i j, i < n → j < m → over (D * z.natAbs) (B * B) (A i j) := fun i j hi hj => (over.scale hE (h i j hi hj)).mono (Nat.mul_le_mul_left _ hzb)
  have hs : ∀ i j, i < n → j < m → over (D * z.natAbs) (2 * (B * B)) (A i j - A i k / A r k * A r j) := fun i j hi hj => by
    rw [Nat.two_mul]
    exact over.sub (Nat.mul_ne_zero hD hE) (hB i j hi hj) (hm i j hi hj)
  refine ⟨z.natAbs, hE, hzb, fun i j hi hj => ?_, fun i hi => ⟨hq i hi, fun j hj => ⟨hm i j hi hj, hs i j hi hj⟩⟩⟩
  unfold Go.Proofs.YtbhkibilnmoljaaGreat.redu
  split
  · exact hs i j hi hj
  · exact (hB i j hi hj).mono (by omega)
/-- The bounds after k steps: numerators, denominator, the two of the determinant. -/
def grow : Nat → Nat × Nat × Nat × Nat → Nat × Nat × Nat × Nat
  | 0, x => x
  | k + 1, x => let (b, d, e, f) := grow k x; (2 * (b * b), d * b, e * b, f * d)
theorem grow_succ (k : Nat) (x : Nat × Nat × Nat × Nat) : grow (k + 1) x = (2 * ((grow k x).1 * (grow k x).1), (grow k x).2.1 * (grow k x).1, (grow k x).2.2.1 * (grow k x).1, (grow k x).2.2.2 * (grow k x).2.1) := rfl
/-- All four are at least 1. -/
def pos4 (x : Nat × Nat × Nat × Nat) : Prop := 0 < x.1 ∧ 0 < x.2.1 ∧ 0 < x.2.2.1 ∧ 0 < x.2.2.2
def le4 (x y : Nat × Nat × Nat × Nat) : Prop := x.1 ≤ y.1 ∧ x.2.1 ≤ y.2.1 ∧ x.2.2.1 ≤ y.2.2.1 ∧ x.2.2.2 ≤ y.2.2.2
theorem grow_pos {x : Nat × Nat × Nat × Nat} (h : pos4 x) : ∀ k, pos4 (grow k x)
  | 0 => h
  | k + 1 => by
    obtain ⟨a, b, c, d⟩ := grow_pos h k
    rw [grow_succ]
    exact ⟨Nat.mul_pos (by decide) (Nat.mul_pos a a), Nat.mul_pos b a, Nat.mul_pos c a, Nat.mul_pos d b⟩
theorem grow_le {x : Nat × Nat × Nat × Nat} (h : pos4 x) {j : Nat} : ∀ k, j ≤ k → le4 (grow j x) (grow k x)
  | 0, hj => by obtain rfl : j = 0 := by omega
                exact ⟨Nat.le_refl _, Nat.le_refl _, Nat.le_refl _, Nat.le_refl _⟩
  | k + 1, hj => by
    rcases Nat.eq_or_lt_of_le hj with h1 | h1
    · rw [h1]; exact ⟨Nat.le_refl _, Nat.le_refl _, Nat.le_refl _, Nat.le_refl _⟩
    · obtain ⟨a, b, c, d⟩ := grow_le (j := j) h k (by omega)
      obtain ⟨p, q, s, t⟩ := grow_pos h k
      rw [grow_succ]
      have e1 : (grow k x).1 ≤ (grow k x).1 * (grow k x).1 := Nat.le_mul_of_pos_left _ p
      have e2 : (grow k x).2.1 ≤ (grow k x).2.1 * (grow k x).1 := Nat.le_mul_of_pos_right _ p
      have e3 : (grow k x).2.2.1 ≤ (grow k x).2.2.1 * (grow k x).1 := Nat.le_mul_of_pos_right _ p
      have e4 : (grow k x).2.2.2 ≤ (grow k x).2.2.2 * (grow k x).2.1 := Nat.le_mul_of_pos_right _ q
      exact ⟨by show _ ≤ 2 * _; omega, Nat.le_trans b e2, Nat.le_trans c e3, Nat.le_trans d e4⟩
/-- All four are below 2 ^ 4096. -/
def slim4 (x : Nat × Nat × Nat × Nat) : Prop := x.1 < 2 ^ 4096 ∧ x.2.1 < 2 ^ 4096 ∧ x.2.2.1 < 2 ^ 4096 ∧ x.2.2.2 < 2 ^ 4096
instance (x : Nat × Nat × Nat × Nat) : Decidable (slim4 x) := inferInstanceAs (Decidable (_ ∧ _ ∧ _ ∧ _))
/-- A state within the bounds x. -/
def inB (n m : Nat) (x : Nat × Nat × Nat × Nat) (S : St) : Prop :=
  (∃ D, D ≠ 0 ∧ D ≤ x.2.1 ∧ overT n m D x.1 S.A) ∧ ∃ D, D ≠ 0 ∧ D ≤ x.2.2.2 ∧ over D x.2.2.1 S.d
theorem swp_at {A : Mx} {a b : Nat} : swp A a b a = A b := by unfold swp; rw [if_pos rfl]
theorem pvt_ne {n k : Nat} {S : St} (hn : S.r ≤ n) (h : pvt n k S < n) : S.A (pvt n k S) k ≠ 0 := by
  have := fp_at (fun i => decide (S.A i k ≠ 0)) (n - S.r) S.r (by unfold pvt at h; omega)
  unfold pvt
  simpa using this
theorem pvt_ge (n k : Nat) (S : St) : S.r ≤ pvt n k S := (fp_ge _ _ _).1
theorem estep_inB {below : Bool} {n m k : Nat} {S : St} {b d e f : Nat} (hn : S.r ≤ n) (hk : k < m) (hS : inB n m (b, d, e, f) S) (hp : pos4 (b, d, e, f)) (hx : slim4 (2 * (b * b), d * b, e * b, f * d)) :
    inB n m (2 * (b * b), d * b, e * b, f * d) (estep below n k S) ∧ fitE below n m k S := by
  obtain ⟨⟨D, hD, hDd, hT⟩, ⟨F, hF, hFf, hd⟩⟩ := hS
  obtain ⟨p1, p2, p3, p4⟩ := hp
  obtain ⟨x1, x2, x3, x4⟩ := hx
  simp only at hDd hFf hT hd p1 p2 p3 p4 x1 x2 x3 x4
  have b1 : b ≤ b * b := Nat.le_mul_of_pos_left _ p1
  have d1 : d ≤ d * b := Nat.le_mul_of_pos_right _ p1
  have e1 : e ≤ e * b := Nat.le_mul_of_pos_right _ p1
  have f1 : f ≤ f * d := Nat.le_mul_of_pos_right _ p2
  unfold estep fitE
  by_cases h : pvt n k S < n
  · rw [if_pos h]
    have hr : S.r < n := Nat.lt_of_le_of_lt (pvt_ge n k S) h
    have hA1 := hT.swp hr h
    have hpv : swp S.A S.r (pvt n k S) S.r k ≠ 0 := by rw [swp_at]; exact pvt_ne hn h
    obtain ⟨E, hE, hEb, hR, hfit⟩ := hA1.redu (below := below) hD hr hk hpv
    have hdd : over F e (if pvt n k S = S.r then S.d else -S.d) := by
      split
      · exact hd
      · exact over.neg hd
    have hnew := over.mul hdd (hA1 S.r k hr hk)
    have hDE : D * E ≤ d * b := Nat.mul_le_mul hDd hEb
    have hFD : F * D ≤ f * d := Nat.mul_le_mul hFf hDd
    refine ⟨⟨⟨D * E, Nat.mul_ne_zero hD hE, hDE, hR⟩, F * D, Nat.mul_ne_zero hF hD, hFD, hnew⟩, fun _ => ⟨?_, ?_, fun i hi _ => ⟨?_, fun j hj _ => ⟨?_, ?_⟩⟩⟩⟩
    · exact over.fits hF (over.neg hd) (by omega) (by omega)
    · exact over.fits (Nat.mul_ne_zero hF hD) hnew x3 (by omega)
    · exact over.fits hE (hfit i hi).1 (by omega) (by omega)
    · exact over.fits (Nat.mul_ne_zero hD hE) ((hfit i hi).2 j hj).1 (by omega) (by omega)
    · exact over.fits (Nat.mul_ne_zero hD hE) ((hfit i hi).2 j hj).2 x1 (by omega)
  · rw [if_neg h]
    refine ⟨⟨⟨D, hD, by show D ≤ d * b; omega, fun i j hi hj => (hT i j hi hj).mono (by omega)⟩, F, hF, by show F ≤ f * d; omega, hd.mono e1⟩, fun h' => absurd h' h⟩
/-- Elimination over small numbers meets no large number. -/
theorem elim_fits {below : Bool} {n m wd : Nat} {A : Mx} {b d : Nat} (hw : wd ≤ m) (hb : 0 < b) (hd : d ≠ 0) (hA : overT n m d b A) (hx : slim4 (grow wd (b, d, 1, 1))) :
    ∀ k, k ≤ wd → inB n m (grow k (b, d, 1, 1)) (elim below n A k) ∧ (k < wd → fitE below n m k (elim below n A k)) := by
  have hp : pos4 (b, d, 1, 1) := ⟨hb, Nat.pos_of_ne_zero hd, Nat.one_pos, Nat.one_pos⟩
  have hsl : ∀ k, k ≤ wd → slim4 (grow k (b, d, 1, 1)) := fun k hk => by
    obtain ⟨a1, a2, a3, a4⟩ := grow_le hp wd hk
    obtain ⟨c1, c2, c3, c4⟩ := hx
    exact ⟨by omega, by omega, by omega, by omega⟩
  have key : ∀ k, k ≤ wd → inB n m (grow k (b, d, 1, 1)) (elim below n A k) := by
    intro k
    induction k with
    | zero => exact fun _ => ⟨⟨d, hd, Nat.le_refl _, hA⟩, 1, by decide, Nat.le_refl 1, ⟨1, rfl, Nat.le_refl 1⟩⟩
    | succ k ih =>
      intro hk
      have h1 := ih (by omega)
      have h2 := hsl (k + 1) hk
      rw [grow_succ] at h2
      have := estep_inB (below := below) (k := k) (elim_r below n A k).1 (by omega) h1 (grow_pos hp k) h2
      rw [grow_succ]
      exact this.1
  intro k hk
  refine ⟨key k hk, fun hlt => ?_⟩
  have h2 := hsl (k + 1) hlt
  rw [grow_succ] at h2
  exact (estep_inB (below := below) (k := k) (elim_r below n A k).1 (by omega) (key k hk) (grow_pos hp k) h2).2
end Go.Proofs.YtbhkibilnmoljaaGreat
