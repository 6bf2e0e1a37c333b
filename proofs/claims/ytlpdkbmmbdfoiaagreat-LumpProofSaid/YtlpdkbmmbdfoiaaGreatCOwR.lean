/-
  Rows of elements of any size that the call made: append, and the block that the new row lies in. No program is named here.
  Ahead of it: Partitions and sums over blocks. The theorem of lumping, in sums over indices: the sums of a step are the step of the sums. No program is named here. Sums of products of fractions of a small weight are not large, whatever their signs. No program is named here. Fractions over one denominator: sums, products, weights. No program is named here. Sizes for the theorem of lumping: the rate, an element of the matrix of steps, a step, sums of a step. No code is walked here.
-/
import Derived.Test.YtlpdkbmmbdfoiaaGreatCMath8
import Derived.Test.YtlpdkbmmbdfoiaaGreatCSp3
import Derived.Test.YtlpdkbmmbdfoiaaGreatCGn
import Derived.Lib.OwnKind
namespace Go.Proofs.YtlpdkbmmbdfoiaaGreat
set_option linter.unusedVariables false
/-- The number of blocks. -/
def cnt (l : List Int) : Nat := l.foldl (fun n b => if b = (n : Int) then n + 1 else n) 0
theorem cnt_nil : cnt [] = 0 := rfl
theorem cnt_snoc (l : List Int) (b : Int) : cnt (l ++ [b]) = if b = (cnt l : Int) then cnt l + 1 else cnt l := by unfold cnt; rw [List.foldl_append]; rfl
theorem cnt_take (l : List Int) (k : Nat) (h : k < l.length) : cnt (l.take (k + 1)) = if l[k] = (cnt (l.take k) : Int) then cnt (l.take k) + 1 else cnt (l.take k) := by rw [take_snoc l k h, cnt_snoc]
theorem cnt_take_le (l : List Int) (k : Nat) : cnt (l.take k) ≤ cnt (l.take (k + 1)) := by
  by_cases h : k < l.length
  · rw [cnt_take l k h]; split <;> omega
  · rw [List.take_of_length_le (by omega), List.take_of_length_le (by omega)]; exact Nat.le_refl _
theorem cnt_take_mono (l : List Int) {j k : Nat} (h : j ≤ k) : cnt (l.take j) ≤ cnt (l.take k) := by
  induction k with
  | zero => obtain rfl : j = 0 := by omega
            exact Nat.le_refl _
  | succ k ih =>
    rcases Nat.lt_or_ge j (k + 1) with h1 | h1
    · exact Nat.le_trans (ih (by omega)) (cnt_take_le l k)
    · obtain rfl : j = k + 1 := by omega
      exact Nat.le_refl _
theorem cnt_le (l : List Int) (k : Nat) : cnt (l.take k) ≤ k := by
  induction k with
  | zero => exact Nat.le_refl _
  | succ k ih =>
    by_cases h : k < l.length
    · rw [cnt_take l k h]; split <;> omega
    · rw [List.take_of_length_le (by omega)] at ih ⊢; omega
/-- l is a partition: each number is at most the number of blocks before it. -/
def okB (l : List Int) : Prop := ∀ k b, l[k]? = some b → 0 ≤ b ∧ b ≤ (cnt (l.take k) : Int)
theorem okB.lt {l : List Int} (h : okB l) {b : Int} {k : Nat} (hk : l[k]? = some b) : 0 ≤ b ∧ b < (cnt l : Int) := by
  obtain ⟨h1, h2⟩ := h k b hk
  obtain ⟨h3, h4⟩ := List.getElem?_eq_some_iff.1 hk
  have h5 := cnt_take l k h3
  have h6 := cnt_take_mono l (show k + 1 ≤ l.length by omega)
  rw [List.take_length] at h6
  refine ⟨h1, ?_⟩
  rw [h4] at h5
  split at h5 <;> omega
/-- The elements of a row that belong to a block. -/
def bsel (bl : List Int) (row : List Rat) (b : Int) : List Rat := ((bl.zip row).filter (fun p => decide (p.1 = b))).map (·.2)
theorem bsel_nil (b : Int) (row : List Rat) : bsel [] row b = [] := by simp [bsel]
theorem bsel_take (bl : List Int) (row : List Rat) (b : Int) (k : Nat) (h1 : k < bl.length) (h2 : k < row.length) :
    bsel (bl.take (k + 1)) (row.take (k + 1)) b = if bl[k] = b then bsel (bl.take k) (row.take k) b ++ [row[k]] else bsel (bl.take k) (row.take k) b := by
  unfold bsel
  rw [take_snoc bl k h1, take_snoc row k h2, List.zip_append (by rw [List.length_take, List.length_take]; omega), List.filter_append, List.map_append]
  by_cases h : bl[k] = b
  · rw [if_pos h]; simp [h]
  · rw [if_neg h]; simp [h]
theorem bsel_sub (bl : List Int) (row : List Rat) (b : Int) : (bsel bl row b).Sublist row := by
  unfold bsel
  have h1 : (((bl.zip row).filter (fun p => decide (p.1 = b))).map (·.2)).Sublist ((bl.zip row).map (·.2)) := List.Sublist.map _ List.filter_sublist
  refine h1.trans ?_
  clear h1
  have h2 : (bl.zip row).map (·.2) = row.take bl.length := by
    induction bl generalizing row with
    | nil => simp
    | cons x bl ih => cases row with
      | nil => simp
      | cons y row => simp [ih]
  rw [h2]
  exact List.take_sublist _ _
/-- The sum over a block. -/
def bsum (bl : List Int) (row : List Rat) (b : Int) : Rat := lsum (bsel bl row b)
theorem bsum_take (bl : List Int) (row : List Rat) (b : Int) (k : Nat) (h1 : k < bl.length) (h2 : k < row.length) :
    bsum (bl.take (k + 1)) (row.take (k + 1)) b = if bl[k] = b then bsum (bl.take k) (row.take k) b + row[k] else bsum (bl.take k) (row.take k) b := by
  unfold bsum
  rw [bsel_take bl row b k h1 h2]
  split
  · rw [lsum_snoc]
  · rfl
theorem bsum_fits {bl : List Int} {row : List Rat} (k : Nat) (b : Int) (h : ∀ q ∈ row, 0 ≤ q) (hw : wts row ≤ 3800) : fits (bsum (bl.take k) (row.take k) b) :=
  lsum_fits ((bsel_sub _ _ b).trans (List.take_sublist _ _)) h hw
end Go.Proofs.YtlpdkbmmbdfoiaaGreat
namespace Go.Proofs.YtlpdkbmmbdfoiaaGreat
set_option linter.unusedVariables false

/-- The sum of f over the indices below n. -/
def sg : Nat → (Nat → Rat) → Rat
  | 0, _ => 0
  | n + 1, f => sg n f + f n
theorem sg_congr {n : Nat} {f g : Nat → Rat} (h : ∀ i, i < n → f i = g i) : sg n f = sg n g := by
  induction n with
  | zero => rfl
  | succ n ih => rw [sg, sg, ih (fun i hi => h i (by omega)), h n (by omega)]
theorem sg_zero (n : Nat) : sg n (fun _ => 0) = 0 := by
  induction n with
  | zero => rfl
  | succ n ih => rw [sg, ih]; grind
theorem sg_add (n : Nat) (f g : Nat → Rat) : sg n (fun i => f i + g i) = sg n f + sg n g := by
  induction n with
  | zero => simp [sg]; grind
  | succ n ih => simp only [sg, ih]; grind
theorem sg_mul_left (n : Nat) (c : Rat) (f : Nat → Rat) : sg n (fun i => c * f i) = c * sg n f := by
  induction n with
  | zero => simp [sg]
  | succ n ih => simp only [sg, ih]; grind
theorem sg_mul_right (n : Nat) (c : Rat) (f : Nat → Rat) : sg n (fun i => f i * c) = sg n f * c := by
  induction n with
  | zero => simp [sg]
  | succ n ih => simp only [sg, ih]; grind
theorem sg_comm (n m : Nat) (f : Nat → Nat → Rat) : sg n (fun i => sg m (fun j => f i j)) = sg m (fun j => sg n (fun i => f i j)) := by
  induction n with
  | zero => simp only [sg]; rw [sg_zero]
  | succ n ih => simp only [sg]; rw [ih, ← sg_add]
theorem sg_one {m k : Nat} (h : k < m) (f : Nat → Rat) : sg m (fun a => if k = a then f a else 0) = f k := by
  induction m with
  | zero => omega
  | succ m ih =>
    rw [sg]
    by_cases hk : k = m
    · subst hk
      rw [sg_congr (g := fun _ => 0) (fun i hi => if_neg (by omega)), sg_zero, if_pos rfl]
      grind
    · rw [ih (by omega), if_neg hk]
      grind
/-- A sum, block by block. -/
theorem sg_fiber {n m : Nat} {blk : Nat → Nat} (hb : ∀ i, i < n → blk i < m) (f : Nat → Rat) : sg n f = sg m (fun a => sg n (fun i => if blk i = a then f i else 0)) := by
  rw [← sg_comm]
  exact sg_congr fun i hi => (sg_one (hb i hi) (fun _ => f i)).symm
/-- The matrix of steps for rates R and one over the rate. -/
def stepM (n : Nat) (R : Nat → Nat → Rat) (ρ : Rat) (i j : Nat) : Rat := if i = j then 1 - sg n (R i) * ρ else R i j * ρ
theorem lump_key {n m : Nat} {blk : Nat → Nat} (hb : ∀ i, i < n → blk i < m) {R Q : Nat → Nat → Rat} (ρ : Rat) (hd : ∀ i, i < n → R i i = 0)
    (hQ : ∀ i, i < n → ∀ b, b < m → blk i ≠ b → Q (blk i) b = sg n (fun j => if blk j = b then R i j else 0)) (hQd : ∀ b, b < m → Q b b = 0) {i b : Nat} (hi : i < n) (hbm : b < m) :
    sg n (fun j => if blk j = b then stepM n R ρ i j else 0) = stepM m Q ρ (blk i) b := by
  by_cases h : blk i = b
  · have e1 : sg n (fun j => if blk j = b then stepM n R ρ i j else 0) = sg n (fun j => (if i = j then 1 - sg n (R i) * ρ else 0) + (if blk j = b then R i j else 0) * ρ) := sg_congr fun j hj => by
      unfold stepM
      by_cases hij : i = j
      · subst hij
        rw [if_pos h, if_pos rfl, if_pos rfl, if_pos h, hd i hi]
        grind
      · rw [if_neg hij, if_neg hij]
        by_cases hjb : blk j = b
        · rw [if_pos hjb, if_pos hjb]; grind
        · rw [if_neg hjb, if_neg hjb]; grind
    have e2 : sg n (R i) = sg n (fun j => if blk j = b then R i j else 0) + sg m (Q b) := by
      rw [sg_fiber hb (R i)]
      have e3 : sg m (fun a => sg n (fun j => if blk j = a then R i j else 0)) = sg m (fun a => (if b = a then sg n (fun j => if blk j = a then R i j else 0) else 0) + Q b a) := sg_congr fun a ha => by
        by_cases hab : b = a
        · subst hab
          rw [if_pos rfl, hQd b ha]; grind
        · rw [if_neg hab, ← h, hQ i hi a ha (by omega)]; grind
      rw [e3, sg_add, sg_one hbm]
    rw [e1, sg_add, sg_one hi (fun _ => 1 - sg n (R i) * ρ), sg_mul_right]
    unfold stepM
    rw [if_pos h, h, e2]
    grind
  · have e1 : sg n (fun j => if blk j = b then stepM n R ρ i j else 0) = sg n (fun j => (if blk j = b then R i j else 0) * ρ) := sg_congr fun j hj => by
      unfold stepM
      by_cases hjb : blk j = b
      · rw [if_pos hjb, if_pos hjb, if_neg (by intro hij; subst hij; exact h hjb)]
      · rw [if_neg hjb, if_neg hjb]; grind
    rw [e1, sg_mul_right]
    unfold stepM
    rw [if_neg h, hQ i hi b hbm h]
/-- THE THEOREM OF LUMPING. -/
theorem lump_step {n m : Nat} {blk : Nat → Nat} (hb : ∀ i, i < n → blk i < m) {R Q : Nat → Nat → Rat} (ρ : Rat) (hd : ∀ i, i < n → R i i = 0)
    (hQ : ∀ i, i < n → ∀ b, b < m → blk i ≠ b → Q (blk i) b = sg n (fun j => if blk j = b then R i j else 0)) (hQd : ∀ b, b < m → Q b b = 0) (v : Nat → Rat) {b : Nat} (hbm : b < m) :
    sg n (fun j => if blk j = b then sg n (fun i => v i * stepM n R ρ i j) else 0) = sg m (fun a => sg n (fun i => if blk i = a then v i else 0) * stepM m Q ρ a b) := by
  have e1 : sg n (fun j => if blk j = b then sg n (fun i => v i * stepM n R ρ i j) else 0) = sg n (fun j => sg n (fun i => v i * (if blk j = b then stepM n R ρ i j else 0))) := sg_congr fun j hj => by
    by_cases hjb : blk j = b
    · rw [if_pos hjb]
      exact sg_congr fun i _ => by rw [if_pos hjb]
    · rw [if_neg hjb]
      exact (sg_zero n).symm.trans (sg_congr fun i _ => by rw [if_neg hjb, Rat.mul_zero])
  have e2 : sg m (fun a => sg n (fun i => if blk i = a then v i else 0) * stepM m Q ρ a b) = sg m (fun a => sg n (fun i => if blk i = a then v i * stepM m Q ρ a b else 0)) := sg_congr fun a ha => by
    rw [← sg_mul_right]
    exact sg_congr fun i _ => by
      by_cases h : blk i = a
      · rw [if_pos h, if_pos h]
      · rw [if_neg h, if_neg h]; grind
  rw [e1, e2, sg_comm, ← sg_comm n m]
  refine sg_congr fun i hi => ?_
  rw [sg_mul_left, lump_key hb ρ hd hQ hQd hi hbm, sg_one (hb i hi) (fun a => v i * stepM m Q ρ a b)]
/-- A block's sum over a list, by index. -/
theorem bsum_sg (bl : List Int) (row : List Rat) (b : Int) (hl : bl.length = row.length) : ∀ k, k ≤ bl.length → bsum (bl.take k) (row.take k) b = sg k (fun j => if bl.getD j 0 = b then row.getD j 0 else 0)
  | 0, _ => by simp [bsum, bsel, sg, lsum]
  | k + 1, h => by
    rw [bsum_take bl row b k (by omega) (by omega), sg, bsum_sg bl row b hl k (by omega)]
    have h1 : bl.getD k 0 = bl[k]'(by omega) := by simp [List.getD, List.getElem?_eq_getElem (show k < bl.length by omega)]
    have h2 : row.getD k 0 = row[k]'(by omega) := by simp [List.getD, List.getElem?_eq_getElem (show k < row.length by omega)]
    rw [h1, h2]
    by_cases h3 : bl[k]'(by omega) = b
    · rw [if_pos h3, if_pos h3]
    · rw [if_neg h3, if_neg h3]; grind
end Go.Proofs.YtlpdkbmmbdfoiaaGreat
namespace Go.Proofs.YtlpdkbmmbdfoiaaGreat
set_option linter.unusedVariables false

/-- q is z / D with |z| + D of at most 2^k. -/
def slimS (q : Rat) (k : Nat) : Prop := ∃ (z : Int) (D : Nat), D ≠ 0 ∧ q = mkRat z D ∧ z.natAbs + D ≤ 2 ^ k
theorem slimS_zero : slimS 0 0 := ⟨0, 1, by decide, by decide +kernel, by decide⟩
theorem slimS_mono {q : Rat} {j k : Nat} (h : slimS q j) (hk : j ≤ k) : slimS q k := by
  obtain ⟨z, D, h1, h2, h3⟩ := h
  exact ⟨z, D, h1, h2, Nat.le_trans h3 (Nat.pow_le_pow_right (by decide) hk)⟩
theorem slimS_add {p q : Rat} {j k : Nat} (hp : slimS p j) (hq : slimS q k) : slimS (p + q) (j + k) := by
  obtain ⟨z, D, h1, rfl, h2⟩ := hp
  obtain ⟨n, d, h3, rfl, h4⟩ := hq
  refine ⟨z * d + n * D, D * d, Nat.mul_ne_zero h1 h3, Rat.mkRat_add_mkRat _ _ h1 h3, ?_⟩
  rw [Nat.pow_add]
  have h5 := Nat.mul_le_mul h2 h4
  have h6 := Int.natAbs_add_le (z * d) (n * D)
  rw [Int.natAbs_mul, Int.natAbs_mul, Int.natAbs_natCast, Int.natAbs_natCast] at h6
  rw [Nat.add_mul, Nat.mul_add, Nat.mul_add] at h5
  have e : n.natAbs * D = D * n.natAbs := Nat.mul_comm _ _
  have := Nat.zero_le (z.natAbs * n.natAbs)
  omega
theorem slimS_mul {p q : Rat} {j k : Nat} (hp : slimS p j) (hq : slimS q k) : slimS (p * q) (j + k) := by
  obtain ⟨z, D, h1, rfl, h2⟩ := hp
  obtain ⟨n, d, h3, rfl, h4⟩ := hq
  refine ⟨z * n, D * d, Nat.mul_ne_zero h1 h3, Rat.mkRat_mul_mkRat _ _ _ _, ?_⟩
  rw [Nat.pow_add]
  have h5 := Nat.mul_le_mul h2 h4
  rw [Int.natAbs_mul]
  rw [Nat.add_mul, Nat.mul_add, Nat.mul_add] at h5
  have := Nat.zero_le (z.natAbs * d)
  have := Nat.zero_le (D * n.natAbs)
  omega
theorem slimS_wt (q : Rat) : slimS q (wt q) := by
  refine ⟨q.num, q.den, q.den_nz, (Rat.mkRat_self q).symm, ?_⟩
  unfold wt
  have h0 : nbits q.num.natAbs ≤ nbits q.num.natAbs := Nat.le_refl _
  have h1 : nbits q.den ≤ nbits q.den := Nat.le_refl _
  rw [nbits_le] at h0 h1
  split
  · next hz =>
    have e : q = 0 := Rat.num_eq_zero.1 hz
    subst e
    decide
  · split
    · next hz hd => simp only [hd, Nat.add_zero]; omega
    · next hz hd =>
      have hn : q.num.natAbs ≠ 0 := by omega
      have hd0 := q.den_nz
      have h2 : 1 < nbits q.den := nbits_gt_one.2 (by omega)
      have h3 : 0 < nbits q.num.natAbs := nbits_pos.2 hn
      rw [Nat.pow_add]
      have e1 : 2 ^ 1 ≤ 2 ^ nbits q.num.natAbs := Nat.pow_le_pow_right (by decide) h3
      have e2 : 2 ^ 1 ≤ 2 ^ nbits q.den := Nat.pow_le_pow_right (by decide) (by omega)
      generalize 2 ^ nbits q.num.natAbs = A at *
      generalize 2 ^ nbits q.den = B at *
      obtain ⟨a, rfl⟩ : ∃ a, A = a + 2 := ⟨A - 2, by omega⟩
      obtain ⟨b, rfl⟩ : ∃ b, B = b + 2 := ⟨B - 2, by omega⟩
      have e3 : (a + 2) * (b + 2) = a * b + 2 * a + 2 * b + 4 := by grind
      rw [e3]
      have := Nat.zero_le (a * b)
      omega
theorem slimS_fits {q : Rat} {k : Nat} (h : slimS q k) (hk : k ≤ 4095) : fits q := by
  obtain ⟨z, D, h1, rfl, h3⟩ := h
  have e : mkRat z D = fq (decide (z < 0)) z.natAbs D := by
    unfold fq sgn
    by_cases hz : z < 0
    · rw [decide_eq_true hz, if_pos rfl]; congr 1; omega
    · rw [decide_eq_false hz, if_neg (by decide)]; congr 1; omega
  rw [e]
  have h5 : 2 ^ k < 2 ^ (k + 1) := Nat.pow_lt_pow_right (by decide) (Nat.lt_succ_self k)
  have h6 : k + 1 ≤ 4096 := by omega
  refine ⟨?_, ?_⟩
  · rw [fq_natAbs _ _ _ h1]
    exact Nat.le_trans (nbits_lt (Nat.lt_of_le_of_lt (Nat.div_le_self _ _) (Nat.lt_of_le_of_lt (Nat.le_trans (Nat.le_add_right z.natAbs D) h3) h5))) h6
  · rw [fq_den _ _ _ h1]
    exact Nat.le_trans (nbits_lt (Nat.lt_of_le_of_lt (Nat.div_le_self _ _) (Nat.lt_of_le_of_lt (Nat.le_trans (Nat.le_add_left D z.natAbs) h3) h5))) h6
/-- The sum of natural numbers over the indices below n. -/
def sgN : Nat → (Nat → Nat) → Nat
  | 0, _ => 0
  | n + 1, f => sgN n f + f n
theorem sgN_le {k n : Nat} (f : Nat → Nat) (h : k ≤ n) : sgN k f ≤ sgN n f := by
  induction n with
  | zero => obtain rfl : k = 0 := by omega
            exact Nat.le_refl _
  | succ n ih =>
    by_cases hk : k = n + 1
    · subst hk; exact Nat.le_refl _
    · have := ih (by omega); rw [sgN]; omega
theorem slimS_sg {n : Nat} {f : Nat → Rat} {w : Nat → Nat} (h : ∀ i, i < n → slimS (f i) (w i)) : slimS (sg n f) (sgN n w) := by
  induction n with
  | zero => exact slimS_zero
  | succ n ih => exact slimS_add (ih fun i hi => h i (by omega)) (h n (by omega))
/-- A sum of products of elements of a small weight is not large. -/
theorem sg_mul_fits {n : Nat} {x y : Nat → Rat} (hw : sgN n (fun i => wt (x i) + wt (y i)) ≤ 3800) (k : Nat) (hk : k ≤ n) : fits (sg k fun i => x i * y i) :=
  slimS_fits (slimS_sg (w := fun i => wt (x i) + wt (y i)) fun i _ => slimS_mul (slimS_wt _) (slimS_wt _)) (by have := sgN_le (fun i => wt (x i) + wt (y i)) hk; omega)
theorem mul_fits26 {x y : Rat} (hw : wt x + wt y ≤ 3800) : fits (x * y) := slimS_fits (slimS_mul (slimS_wt _) (slimS_wt _)) (by omega)
end Go.Proofs.YtlpdkbmmbdfoiaaGreat
namespace Go.Proofs.YtlpdkbmmbdfoiaaGreat
set_option linter.unusedVariables false

/-- q is z / D with |z| of at most B. -/
def over (D B : Nat) (q : Rat) : Prop := ∃ z : Int, q = mkRat z D ∧ z.natAbs ≤ B
theorem over.zero (D B : Nat) : over D B 0 := ⟨0, by simp, by simp⟩
theorem over.mono {D A B : Nat} {q : Rat} (h : over D A q) (hB : A ≤ B) : over D B q := by
  obtain ⟨z, h1, h2⟩ := h
  exact ⟨z, h1, by omega⟩
theorem over.add {D A B : Nat} {p q : Rat} (hD : D ≠ 0) (hp : over D A p) (hq : over D B q) : over D (A + B) (p + q) := by
  obtain ⟨y, rfl, h1⟩ := hp
  obtain ⟨z, rfl, h2⟩ := hq
  refine ⟨y + z, ?_, ?_⟩
  · rw [Rat.mkRat_add_mkRat _ _ hD hD, ← Int.add_mul]
    exact Rat.mkRat_mul_right hD
  · have := Int.natAbs_add_le y z
    omega
theorem over.neg {D A : Nat} {p : Rat} (hp : over D A p) : over D A (-p) := by
  obtain ⟨y, rfl, h1⟩ := hp
  exact ⟨-y, by rw [Rat.neg_mkRat], by omega⟩
theorem over.mul {D E A B : Nat} {p q : Rat} (hp : over D A p) (hq : over E B q) : over (D * E) (A * B) (p * q) := by
  obtain ⟨y, rfl, h1⟩ := hp
  obtain ⟨z, rfl, h2⟩ := hq
  exact ⟨y * z, Rat.mkRat_mul_mkRat _ _ _ _, by rw [Int.natAbs_mul]; exact Nat.mul_le_mul h1 h2⟩
theorem over.scale {D A m : Nat} {p : Rat} (hm : m ≠ 0) (hp : over D A p) : over (D * m) (A * m) p := by
  obtain ⟨y, rfl, h1⟩ := hp
  exact ⟨y * m, (Rat.mkRat_mul_right hm).symm, by rw [Int.natAbs_mul, Int.natAbs_natCast]; exact Nat.mul_le_mul_right _ h1⟩
theorem over.sg {D B n : Nat} {f : Nat → Rat} (hD : D ≠ 0) (h : ∀ i, i < n → over D B (f i)) : over D (n * B) (sg n f) := by
  induction n with
  | zero => exact over.zero _ _
  | succ n ih => rw [Nat.succ_mul]; exact over.add hD (ih fun i hi => h i (by omega)) (h n (by omega))
theorem over.fq {D B : Nat} {q : Rat} (h : over D B q) : ∃ (s : Bool) (n : Nat), q = fq s n D ∧ n ≤ B := by
  obtain ⟨z, rfl, h2⟩ := h
  refine ⟨decide (z < 0), z.natAbs, ?_, h2⟩
  unfold Go.Proofs.YtlpdkbmmbdfoiaaGreat.fq sgn
  by_cases hz : z < 0
  · rw [decide_eq_true hz, if_pos rfl]; congr 1; omega
  · rw [decide_eq_false hz, if_neg (by decide)]; congr 1; omega
theorem over.wt {D B a b : Nat} {q : Rat} (hD : D ≠ 0) (h : over D B q) (ha : B < 2 ^ a) (hb : D < 2 ^ b) : wt q ≤ a + b := by
  obtain ⟨s, n, rfl, h1⟩ := h.fq
  have h2 : nbits (Go.Proofs.YtlpdkbmmbdfoiaaGreat.fq s n D).num.natAbs ≤ a := by
    rw [fq_natAbs _ _ _ hD]
    exact nbits_lt (Nat.lt_of_le_of_lt (Nat.div_le_self _ _) (Nat.lt_of_le_of_lt h1 ha))
  have h3 : nbits (Go.Proofs.YtlpdkbmmbdfoiaaGreat.fq s n D).den ≤ b := by
    rw [fq_den _ _ _ hD]
    exact nbits_lt (Nat.lt_of_le_of_lt (Nat.div_le_self _ _) hb)
  unfold Go.Proofs.YtlpdkbmmbdfoiaaGreat.wt
  split
  · omega
  · split <;> omega
theorem over.fits {D B : Nat} {q : Rat} (hD : D ≠ 0) (h : over D B q) (ha : B < 2 ^ 4096) (hb : D < 2 ^ 4096) : fits q := by
  obtain ⟨s, n, rfl, h1⟩ := h.fq
  refine ⟨?_, ?_⟩
  · rw [fq_natAbs _ _ _ hD]
    exact nbits_lt (Nat.lt_of_le_of_lt (Nat.div_le_self _ _) (Nat.lt_of_le_of_lt h1 ha))
  · rw [fq_den _ _ _ hD]
    exact nbits_lt (Nat.lt_of_le_of_lt (Nat.div_le_self _ _) hb)
theorem inv_mk {p d : Nat} (hp : p ≠ 0) (hd : d ≠ 0) : (mkRat (p : Int) d)⁻¹ = mkRat (d : Int) p := by
  rw [← Rat.divInt_ofNat, ← Rat.divInt_ofNat, Rat.inv_divInt]
theorem over.inv {p d : Nat} (hp : p ≠ 0) (hd : d ≠ 0) : over p d (mkRat (p : Int) d)⁻¹ := ⟨d, inv_mk hp hd, by simp⟩
theorem over.one {D : Nat} (hD : D ≠ 0) : over D D 1 := ⟨D, by
  have := Rat.mkRat_self 1
  have h := Rat.mkRat_mul_right (n := 1) (d := 1) hD
  rw [Int.one_mul, Nat.one_mul] at h
  rw [h]; exact this.symm, by simp⟩
/-- An element of a matrix of steps. -/
theorem over.step {n p d N D : Nat} {R : Nat → Nat → Rat} (hD : D ≠ 0) (hp : p ≠ 0) (hd : d ≠ 0) (hR : ∀ i j, i < n → j < n → over D N (R i j)) {i j : Nat} (hi : i < n) (hj : j < n) :
    over (D * p) (D * p + n * N * d) (stepM n R (mkRat (p : Int) d)⁻¹ i j) := by
  unfold stepM
  have h0 : D * p ≠ 0 := Nat.mul_ne_zero hD hp
  split
  · rw [Rat.sub_eq_add_neg]
    exact over.add h0 (over.one h0) (over.neg (over.mul (over.sg hD fun k hk => hR i k hi hk) (over.inv hp hd)))
  · refine (over.mul (hR i j hi hj) (over.inv hp hd)).mono ?_
    have h1 : N * d ≤ n * N * d := Nat.mul_le_mul_right _ (Nat.le_mul_of_pos_left _ (by omega))
    omega
theorem sg_nonneg {n : Nat} {f : Nat → Rat} (h : ∀ i, i < n → 0 ≤ f i) : 0 ≤ sg n f := by
  induction n with
  | zero => exact Rat.le_refl
  | succ n ih => exact Rat.add_nonneg (ih fun i hi => h i (by omega)) (h n (by omega))
/-- A row of the quotient has at most the sum of the row. -/
theorem quo_sum_le {n m : Nat} {blk : Nat → Nat} (hb : ∀ i, i < n → blk i < m) {R Q : Nat → Nat → Rat} (hR : ∀ i j, i < n → j < n → 0 ≤ R i j)
    (hQ : ∀ i, i < n → ∀ b, b < m → blk i ≠ b → Q (blk i) b = sg n (fun j => if blk j = b then R i j else 0)) (hQd : ∀ b, b < m → Q b b = 0) {i : Nat} (hi : i < n) : sg m (Q (blk i)) ≤ sg n (R i) := by
  have e2 : sg n (R i) = sg n (fun j => if blk j = blk i then R i j else 0) + sg m (Q (blk i)) := by
    rw [sg_fiber hb (R i)]
    have e3 : sg m (fun a => sg n (fun j => if blk j = a then R i j else 0)) = sg m (fun a => (if blk i = a then sg n (fun j => if blk j = a then R i j else 0) else 0) + Q (blk i) a) := sg_congr fun a ha => by
      by_cases hab : blk i = a
      · subst hab
        rw [if_pos rfl, hQd _ ha]; grind
      · rw [if_neg hab, hQ i hi a ha hab]; grind
    rw [e3, sg_add, sg_one (hb i hi)]
  have h0 : 0 ≤ sg n (fun j => if blk j = blk i then R i j else 0) := sg_nonneg fun j hj => by
    by_cases h : blk j = blk i
    · rw [if_pos h]; exact hR i j hi hj
    · rw [if_neg h]; exact Rat.le_refl
  rw [e2]
  grind
/-- A row's sum by index. -/
theorem lsum_sg (l : List Rat) : lsum l = sg l.length (fun j => l.getD j 0) := by
  have key : ∀ k, k ≤ l.length → lsum (l.take k) = sg k (fun j => l.getD j 0) := by
    intro k
    induction k with
    | zero => intro _; simp [sg, lsum]
    | succ k ih =>
      intro h
      rw [lsum_take l k (by omega), sg, ih (by omega)]
      simp [List.getD, List.getElem?_eq_getElem (show k < l.length by omega)]
  have := key l.length (Nat.le_refl _)
  rwa [List.take_length] at this
end Go.Proofs.YtlpdkbmmbdfoiaaGreat
namespace Go.Proofs.YtlpdkbmmbdfoiaaGreat
set_option linter.unusedVariables false

/-- An element of the matrix of steps. -/
def stepE (c : RC) (ρ : Rat) : Nat → Nat → Rat := fun i j => if i = j then 1 - lsum (rowsQ c i) / ρ else (rowsQ c i).getD j 0 / ρ
theorem over.div {D R N : Nat} (hD : D ≠ 0) (hR : R ≠ 0) {q : Rat} (h : over D N q) : over R N (q / mkRat ((R : Nat) : Int) D) := by
  obtain ⟨z, rfl, hz⟩ := h
  refine ⟨z, ?_, hz⟩
  rw [Rat.div_def, inv_mk hR hD, Rat.mkRat_mul_mkRat, Nat.mul_comm D R]
  exact Rat.mkRat_mul_right hD
theorem leave_all {P : Rat → Prop} {c : RC} (h0 : P 0) : ∀ {n : Nat}, (∀ i, i < n → P (lsum (rowsQ c i))) → P (leaveTo c n)
  | 0, _ => h0
  | n + 1, h => by
    unfold leaveTo
    split
    · exact h n (by omega)
    · exact leave_all h0 fun i hi => h i (by omega)
theorem leave_ge {c : RC} : ∀ {n i : Nat}, i < n → lsum (rowsQ c i) ≤ leaveTo c n
  | n + 1, i, h => by
    unfold leaveTo
    by_cases hi : i = n
    · subst hi
      split
      · exact Rat.le_refl
      · next h2 => exact Rat.not_lt.1 h2
    · have h1 := leave_ge (c := c) (show i < n by omega)
      split
      · next h2 => exact Rat.le_trans h1 (Rat.le_of_lt h2)
      · exact h1
theorem leave_nonneg {c : RC} : ∀ n : Nat, 0 ≤ leaveTo c n
  | 0 => Rat.le_refl
  | n + 1 => by
    unfold leaveTo
    split
    · next h => exact Rat.le_trans (leave_nonneg n) (Rat.le_of_lt h)
    · exact leave_nonneg n
theorem leave_le {c : RC} {x : Rat} (hx : 0 ≤ x) : ∀ {n : Nat}, (∀ i, i < n → lsum (rowsQ c i) ≤ x) → leaveTo c n ≤ x :=
  fun {n} h => leave_all (P := fun q => q ≤ x) hx h
/-- A number over D that is not negative. -/
theorem over.nat {D N : Nat} {q : Rat} (hD : D ≠ 0) (h : over D N q) (h0 : 0 ≤ q) : ∃ a : Nat, a ≤ N ∧ q = mkRat ((a : Nat) : Int) D := by
  obtain ⟨z, rfl, hz⟩ := h
  by_cases hn : z < 0
  · have := (mkRat_neg_iff z D hD).2 hn
    exact absurd this (Rat.not_lt.2 h0)
  · exact ⟨z.natAbs, hz, by congr 1; omega⟩
section
variable {c : RC} {n N S R : Nat}
/-- The elements are over R. -/
theorem stepE_over (hR : R ≠ 0) (hr : ∀ i j, i < n → j < n → over 144 N ((rowsQ c i).getD j 0)) (hs : ∀ i, i < n → over 144 S (lsum (rowsQ c i))) {i j : Nat} (hi : i < n) (hj : j < n) :
    over R (R + S + N) (stepE c (mkRat ((R : Nat) : Int) 144) i j) := by
  unfold stepE
  split
  · rw [Rat.sub_eq_add_neg]
    exact (over.add hR (over.one hR) (over.neg (over.div (by decide) hR (hs i hi)))).mono (by omega)
  · exact (over.div (by decide) hR (hr i j hi hj)).mono (by omega)
theorem step_fits1 (hR : R ≠ 0) (hRb : R ≤ 30000) (hNb : N ≤ 30000) (hr : ∀ i j, i < n → j < n → over 144 N ((rowsQ c i).getD j 0)) : ∀ i j, i < n → j < n → fits ((rowsQ c i).getD j 0 / mkRat ((R : Nat) : Int) 144) :=
  fun i j hi hj => (over.div (by decide) hR (hr i j hi hj)).fits hR (Nat.lt_of_le_of_lt hNb (by decide +kernel)) (Nat.lt_of_le_of_lt hRb (by decide +kernel))
theorem step_fits2 (hR : R ≠ 0) (hRb : R ≤ 30000) (hSb : S ≤ 30000) (hs : ∀ i, i < n → over 144 S (lsum (rowsQ c i))) : ∀ i, i < n → fits (lsum (rowsQ c i) / mkRat ((R : Nat) : Int) 144) ∧ fits (1 - lsum (rowsQ c i) / mkRat ((R : Nat) : Int) 144) :=
  fun i hi => by
    have h1 := over.div (by decide) hR (hs i hi)
    refine ⟨h1.fits hR (Nat.lt_of_le_of_lt hSb (by decide +kernel)) (Nat.lt_of_le_of_lt hRb (by decide +kernel)), ?_⟩
    rw [Rat.sub_eq_add_neg]
    exact (over.add hR (over.one hR) (over.neg h1)).fits hR (Nat.lt_of_le_of_lt (show R + S ≤ 60000 by omega) (by decide +kernel)) (Nat.lt_of_le_of_lt hRb (by decide +kernel))
end
/-- An element as the theorem of lumping has it. -/
theorem stepE_stepM (c : RC) (n : Nat) (ρ : Rat) {i : Nat} (hl : (rowsQ c i).length = n) (j : Nat) : stepE c ρ i j = stepM n (fun i j => (rowsQ c i).getD j 0) ρ⁻¹ i j := by
  unfold stepE stepM
  rw [lsum_sg, hl]
  simp only [Rat.div_def]
end Go.Proofs.YtlpdkbmmbdfoiaaGreat
namespace Go.Proofs.YtlpdkbmmbdfoiaaGreat
set_option linter.unusedVariables false
set_option linter.unusedSimpArgs false
open Go.RowKit

/-- No cell of v's block is a limb. -/
def NoLimb (w : World) (v : Value) : Prop := ∀ g, v.ownBlock = some g → ∀ cur e fz, w.heap[g]? = some (.cells cur e fz) → ∀ c ∈ cur.toList, ∀ z, c ≠ .int .u32 z
theorem NoLimb.nil (w : World) : NoLimb w (.slice none 0 0) := fun g h => by cases h
theorem mem_zeroCells {z : Array Value} {n : Nat} {c : Value} (h : c ∈ (Builtin.zeroCells z n).toList) : c ∈ z.toList := by
  unfold Builtin.zeroCells at h
  simp at h
  obtain ⟨a, h1, h2⟩ := h
  have hz : 0 < z.size := Nat.pos_of_ne_zero (fun h => by rw [h] at h1; omega)
  rw [getElem!_pos z (a % z.size) (Nat.mod_lt _ hz)] at h2
  rw [← h2]
  simp
theorem run_append_R {P : Program} (w : World) (B : Nat) (t ty e : TypeId) (i : TypeInfo) (z : Value) (size bytes : Nat) (ht : P.underlying t = some (.slice e)) (hi : P.info? e = some i) (hz : i.zero = some z)
    (hsize : i.size = size) (hby : i.bytes = bytes) (hzs : z.cells.size = size) (hsz : 0 < size)
    (v : Value) (n : Nat) (xs : List Value) (hown : w.ownsRow B e size v n xs) (a : Addr) (m c : Nat) (news : List Value) (hl : news.length = m * size)
    (hnews : ∀ j u, news[j]? = some u → w.cell? (a.add j) = some u) (h1 : ∀ u ∈ news, u.oneCell' = true)
    (h63 : n + m ≤ maxLen) (hbytes : (n + m) * bytes ≤ 140737488355328) (hbase : B ≤ w.heap.size)
    (hnl : NoLimb w v) (hnn : ∀ c ∈ news, ∀ z, c ≠ .int .u32 z) (hnz : ∀ c ∈ z.cells.toList, ∀ z, c ≠ .int .u32 z) :
    ∃ v' w', (Builtin.append_ #[t, t] ty #[v, .slice (some a) m c]).run P w = .ok v' w' ∧ w'.ownsRow B e size v' (n + m) (xs ++ news) ∧ w.grownBy w' v.ownBlock ∧
      (v'.ownBlock = v.ownBlock ∨ v'.ownBlock = some w.heap.size) ∧ NoLimb w' v' := by
  obtain ⟨v', w', h2, h3, h4, _⟩ := run_append_own (P := P) w B t ty e i z size bytes ht hi hz hsize hby hzs hsz v n xs hown a m c news hl hnews h1 h63 hbytes hbase
  refine ⟨v', w', h2, h3, h4, ?_⟩
  have fresh : ∀ (cs : Array Value) (k kc : Nat), (∀ c ∈ cs.toList, ∀ z, c ≠ .int .u32 z) → NoLimb (w.drew.alloc (.cells cs e)) (.slice (some ⟨w.heap.size, 0, none⟩) k kc) := by
    intro cs k kc h g' hg' cur' e' fz' hc' c hc
    simp only [Value.ownBlock, Option.some.injEq] at hg'
    subst hg'
    rw [show (w.drew.alloc (.cells cs e)).heap[w.heap.size]? = some (.cells cs e (0, 0)) from heap_alloc_new w.drew _] at hc'
    injection hc' with hc'
    injection hc' with hc' _
    subst hc'
    exact h c hc
  have hsmall : n + m ≤ 9223372036854775807 := by simp only [maxLen] at h63; omega
  rcases hown.2 with ⟨rfl, rfl⟩ | ⟨g, cap, cur, rfl, hbg, hg, hnc, hcm, hcs, htake⟩
  · have hx : xs = [] := List.eq_nil_of_length_eq_zero (by simpa using hown.1)
    subst hx
    by_cases hm : m = 0
    · subst hm
      refine (fun h => ⟨Or.inl (by rw [h]), by rw [h]; exact NoLimb.nil _⟩ : v' = .slice none 0 0 → _) ?_
      rcases h3.2 with ⟨rfl, _⟩ | ⟨g, cap, cur, rfl, _, _, h5, _⟩
      · rfl
      · exfalso
        have hn : news = [] := List.eq_nil_of_length_eq_zero (by simpa using hl)
        subst hn
        have hr : (Builtin.append_ #[t, t] ty #[.slice none 0 0, .slice (some a) 0 c]).run P w = .ok (.slice none 0 0) w := by
          simp [Builtin.append_, run_underlying ht, sizeOf, typeInfo, hi, Builtin.lenOf, Builtin.firstCells, loadCells, loadCellsFrom]
        rw [hr] at h2
        injection h2 with h2 _
        cases h2
    · have hr := run_append_nil (P := P) w t ty e i z ht hi hz a m c news (by rw [hl, hsize]) hnews (by omega) (by omega) (by rw [hby]; have hb := hbytes; simp only [Nat.zero_add] at hb; omega)
      rw [hr] at h2
      injection h2 with h2 h2w
      refine ⟨Or.inr (by rw [← h2]; rfl), ?_⟩
      rw [← h2, ← h2w]
      exact fresh _ _ _ (fun c hc => by
        simp only [Array.toList_append, List.mem_append] at hc
        rcases hc with h | h
        · exact hnn c h
        · exact hnz c (mem_zeroCells h))
  · by_cases hroom : n + m ≤ cap
    · have hfit : n * i.size + news.length ≤ cur.size := by rw [hl, hcs, hsize, ← Nat.add_mul]; exact Nat.mul_le_mul_right _ hroom
      have hr := run_append_room (P := P) w t ty e i ht hi g n cap cur hg a m c news (by rw [hl, hsize]) hnews h1 hroom hfit
      rw [hr] at h2
      injection h2 with h2 h2w
      refine ⟨Or.inl (by rw [← h2]; rfl), ?_⟩
      rw [← h2, ← h2w]
      intro g' hg' cur' e' fz' hc' c hc
      simp only [Value.ownBlock, Option.some.injEq] at hg'
      subst hg'
      rw [setRow_heap w g cur _ e _ hg] at hc'
      injection hc' with hc'
      injection hc' with hc' _
      subst hc'
      have hcc := hnl g rfl cur e _ hg
      simp only [List.mem_append] at hc
      rcases hc with (h | h) | h
      · exact hcc c (List.mem_of_mem_take h)
      · exact hnn c h
      · exact hcc c (List.mem_of_mem_drop h)
    · have holds : ∀ j u, xs[j]? = some u → w.cell? ((⟨g, 0, none⟩ : Addr).add j) = some u := hown.cells (g := g) rfl
      have hr := run_append_grow (P := P) w t ty e i z ht hi hz ⟨g, 0, none⟩ n cap xs (by rw [hown.1, hsize]) holds a m c news (by rw [hl, hsize]) hnews (by omega) (by omega) (growslice_fits (by omega) (by rw [hby]; exact hbytes))
      rw [hr] at h2
      injection h2 with h2 h2w
      refine ⟨Or.inr (by rw [← h2]; rfl), ?_⟩
      rw [← h2, ← h2w]
      have hcc := hnl g rfl cur e _ hg
      rw [← htake]
      exact fresh _ _ _ (fun c hc => by
        simp only [Array.toList_append, List.mem_append] at hc
        rcases hc with (h | h) | h
        · exact hcc c (List.mem_of_mem_take h)
        · exact hnn c h
        · exact hnz c (mem_zeroCells h))
/-- v is a slice of n elements of type e, of size cells each, that the call made; its cells are xs; no limb lies in its block. -/
structure OwnR (w : World) (e : TypeId) (B size : Nat) (v : Value) (n : Nat) (xs : List Value) : Prop where
  own : w.ownsRow B e size v n xs
  nl : NoLimb w v
section
variable {w : World} {e : TypeId} {B size n : Nat} {v : Value} {xs : List Value}
theorem OwnR.nil (w : World) (e : TypeId) (B size : Nat) : OwnR w e B size (.slice none 0 0) 0 [] := ⟨World.ownsRow_nil w B e size, NoLimb.nil _⟩
theorem OwnR.sl (h : OwnR w e B size v n xs) : IsSl v := by
  rcases h.own.2 with ⟨rfl, h0⟩ | ⟨g, cap, cur, rfl, hb, hg, hn, hm, hs, ht⟩
  · exact IsSl.nil
  · exact ⟨_, _, _, rfl, hn, hm, fun e => by cases e⟩
theorem OwnR.len (h : OwnR w e B size v n xs) : slen v = n := by
  rcases h.own.2 with ⟨rfl, h0⟩ | ⟨g, cap, cur, rfl, hb, hg, hn, hm, hs, ht⟩
  · rw [h0]; rfl
  · rfl
theorem OwnR.clen (h : OwnR w e B size v n xs) : xs.length = n * size := h.own.1
theorem OwnR.cell (h : OwnR w e B size v n xs) (j : Nat) (hj : j < xs.length) : w.cell? (ptr v j) = some xs[j] := by
  have hl := h.own.1
  obtain ⟨ho, _⟩ := h
  rcases ho.2 with ⟨rfl, h0⟩ | ⟨g, cap, cur, rfl, hb, hg, hn, hm, hs, ht⟩
  · rw [h0] at hl; omega
  · have := World.ownsRow.cellAt ho j (by omega)
    simp only [ptr, base, Addr.add_lit, Nat.zero_add]
    rw [this, List.getElem?_eq_getElem hj]
/-- Another block grew. -/
theorem OwnR.grown {w' : World} {row : Option Nat} (h : OwnR w e B size v n xs) (hg : w.grownBy w' row) (hne : v.ownBlock = none ∨ v.ownBlock ≠ row) : OwnR w' e B size v n xs := by
  refine ⟨World.ownsRow.kept h.own hg hne, fun g hgv cur e' fz hc c hcc => ?_⟩
  have hlt := (World.ownsRow.lt h.own g hgv).2
  rw [hg.block g hlt (by rw [← hgv]; rcases hne with h1 | h1; · rw [h1] at hgv; cases hgv
                         · exact h1)] at hc
  exact h.nl g hgv cur e' fz hc c hcc
theorem OwnR.below {w' : World} (h : OwnR w e B size v n xs) (hb : Below w.heap.size w w') : OwnR w' e B size v n xs :=
  h.grown (grown_of_below hb) (by cases hv : v.ownBlock <;> simp)
theorem OwnR.block (h : OwnR w e B size v n xs) : ∀ k, v.ownBlock = some k → B ≤ k ∧ k < w.heap.size := World.ownsRow.lt h.own
theorem NatV.grownR {w' : World} {row : Option Nat} {x : Value} {l : List Nat} (h : NatV w x l) (hg : w.grownBy w' row) (hn : ∀ v, v.ownBlock = row → NoLimb w v) : NatV w' x l := by
  refine ⟨h.sl, h.len, fun j hj => ?_, h.lm⟩
  have hc := h.cell j hj
  refine hg.cell hc (fun e => ?_)
  have h2 := hn (.slice (some ⟨(ptr x j).block, 0, none⟩) 0 0) (by rw [← e]; rfl) (ptr x j).block rfl
  unfold World.cell? at hc
  split at hc
  · rename_i cur e' fz hh
    split at hc
    · cases hc
    · exact h2 cur e' fz hh _ (by have := Array.mem_of_getElem? hc; simpa using this) _ rfl
  · cases hc
theorem NoLimb.any {v u : Value} (h : NoLimb w v) (he : u.ownBlock = v.ownBlock) : NoLimb w u := fun g hg => h g (by rw [← he]; exact hg)
theorem NatC.grown {w' : World} {x : Value} {m : Nat} (h : NatC w x m) (hg : w.grownBy w' v.ownBlock) (hn : NoLimb w v) : NatC w' x m := ⟨h.1.grownR hg (fun u hu => hn.any hu), h.2⟩
theorem FracC.grown {w' : World} {x : Value} {q : Rat} (h : FracC w x q) (hg : w.grownBy w' v.ownBlock) (hn : NoLimb w v) : FracC w' x q := by
  obtain ⟨a, b, rfl, h1, h2⟩ := h; exact ⟨a, b, rfl, h1.grown hg hn, h2.grown hg hn⟩
end
theorem wpList_append1_R {P : Program} (w0 : World) {ops : Array Oper} {rest : List Oper} {o : Oper} {a : Act} {Q : Exit → Act → World → Prop} (hgd : o.guard = none) (s x : Operand) (t : TypeId)
    (ho : o.op = .call { callee := .builtin .append, args := #[s, x], argTypes := #[t, t] })
    (B : Nat) (e e' : TypeId) (i : TypeInfo) (z : Value) (size bytes : Nat) (ht : P.underlying t = some (.slice e)) (hi : P.info? e = some i) (hz : i.zero = some z)
    (hsize : i.size = size) (hby : i.bytes = bytes) (hzs : z.cells.size = size) (hsz : 0 < size) (hnz : ∀ c ∈ z.cells.toList, ∀ z, c ≠ .int .u32 z)
    (v : Value) (n : Nat) (xs : List Value) (hs : a.eval s = v) (hown : OwnR w0 e B size v n xs) (news : Array Value) (hns : news.size = size) (hxe : a.eval x = .slice (some ⟨w0.heap.size, 0, none⟩) 1 1)
    (h1 : ∀ u ∈ news.toList, u.oneCell' = true) (hnn : ∀ c ∈ news.toList, ∀ z, c ≠ .int .u32 z)
    (h63 : n + 1 ≤ maxLen) (hbytes : (n + 1) * bytes ≤ 140737488355328) (hbase : B ≤ w0.heap.size)
    (h : ∀ v' w', OwnR w' e B size v' (n + 1) (xs ++ news.toList) → w0.grownBy w' v.ownBlock → (v'.ownBlock = v.ownBlock ∨ v'.ownBlock = some (w0.heap.size + 1)) → wpList P ops Q rest (a.put o.dst v') w') :
    wpList P ops Q (o :: rest) a (w0.alloc (.cells news e')) := by
  refine wpList_plain hgd fun K hK => ?_
  have hg0 := World.grownBy_alloc w0 (.cells news e') (v.ownBlock)
  have hown1 := hown.below (below_alloc w0 (.cells news e'))
  obtain ⟨v', w', hr, h2, h3, h4, h5⟩ := run_append_R (P := P) (w0.alloc (.cells news e')) B t o.type e i z size bytes ht hi hz hsize hby hzs hsz v n xs hown1.own ⟨w0.heap.size, 0, none⟩ 1 1 news.toList (by simp [hns])
    (fun j u hu => by
      have hc := cell_of_row (w0.alloc (.cells news e')) w0.heap.size j news e' (0, 0) (heap_alloc_new w0 _)
      rw [Addr.add_lit, Nat.zero_add, hc]; simpa using hu) h1 h63 hbytes (by simp; omega) hown1.nl hnn hnz
  unfold Oper.wp execOp
  simp only [ho, resolve, invoke, builtin, Sem.run_bind, Sem.run_pure, Result.andThen_ok, List.map_toArray, List.map_cons, List.map_nil, hs, hxe, hr]
  exact hK _ _ (h v' w' ⟨h2, h5⟩ (grownBy_trans hg0 h3) (by simpa using h4))
end Go.Proofs.YtlpdkbmmbdfoiaaGreat
