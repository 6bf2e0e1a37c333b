/-
  Determinants of matrices of rational numbers, by expansion along the first column. No program is named here.
-/
import Derived.Test.YtbhkibilnmoljaaQEl1
namespace Go.Proofs.Ytbhkibilnmoljaa
set_option linter.unusedVariables false

/-- 1 at even numbers, -1 at odd ones. -/
def alt (i : Nat) : Rat := if i % 2 = 0 then 1 else -1
theorem alt_succ (i : Nat) : alt (i + 1) = -alt i := by
  unfold alt
  by_cases h : i % 2 = 0
  · rw [if_pos h, if_neg (by omega)]
  · rw [if_neg h, if_pos (by omega)]; decide +kernel
/-- Without row i and the first column. -/
def mnr (A : Mx) (i : Nat) : Mx := fun a b => A (if a < i then a else a + 1) (b + 1)
def dt : Nat → Mx → Rat
  | 0, _ => 1
  | n + 1, A => sg (n + 1) fun i => alt i * A i 0 * dt n (mnr A i)
theorem dt_congr {n : Nat} {A B : Mx} (h : ∀ a b, a < n → b < n → A a b = B a b) : dt n A = dt n B := by
  induction n generalizing A B with
  | zero => rfl
  | succ n ih =>
    refine sg_congr fun i hi => ?_
    rw [h i 0 hi (by omega), ih (A := mnr A i) (B := mnr B i) (fun a b ha hb => by unfold mnr; exact h _ _ (by split <;> omega) (by omega))]
/-- Row r is x. -/
def rset (A : Mx) (r : Nat) (x : Nat → Rat) : Mx := fun a => if a = r then x else A a
theorem rset_self (A : Mx) (r : Nat) : rset A r (A r) = A := by
  funext a; unfold rset; split
  · next h => rw [h]
  · rfl
theorem rset_at (A : Mx) (r : Nat) (x : Nat → Rat) : rset A r x r = x := by unfold rset; rw [if_pos rfl]
theorem rset_ne {A : Mx} {r a : Nat} {x : Nat → Rat} (h : a ≠ r) : rset A r x a = A a := by unfold rset; rw [if_neg h]
theorem rset_twice (A : Mx) (r : Nat) (x y : Nat → Rat) : rset (rset A r x) r y = rset A r y := by
  funext a; unfold rset; split <;> rfl
theorem rset_comm {A : Mx} {r s : Nat} {x y : Nat → Rat} (h : r ≠ s) : rset (rset A r x) s y = rset (rset A s y) r x := by
  funext a; unfold rset
  by_cases h1 : a = s
  · subst h1; rw [if_pos rfl, if_neg (fun e => h e.symm), if_pos rfl]
  · rw [if_neg h1]; split
    · rfl
    · rfl
theorem mnr_rset_same (A : Mx) (r : Nat) (x : Nat → Rat) : mnr (rset A r x) r = mnr A r := by
  funext a b; unfold mnr rset
  rw [if_neg (by split <;> omega)]
theorem mnr_rset {A : Mx} {r i : Nat} {x : Nat → Rat} (h : i ≠ r) : mnr (rset A r x) i = rset (mnr A i) (if r < i then r else r - 1) (fun b => x (b + 1)) := by
  funext a b; unfold mnr rset
  by_cases h1 : a = if r < i then r else r - 1
  · rw [if_pos h1, if_pos (by split at h1 <;> split <;> omega)]
  · rw [if_neg h1, if_neg (by split at h1 <;> split <;> omega)]
theorem dt_lin {n : Nat} (A : Mx) {r : Nat} (hr : r < n) (x y : Nat → Rat) (c : Rat) : dt n (rset A r fun b => x b + c * y b) = dt n (rset A r x) + c * dt n (rset A r y) := by
  induction n generalizing A r x y with
  | zero => omega
  | succ n ih =>
    rw [dt, dt, dt, ← sg_mul_left, ← sg_add]
    refine sg_congr fun i hi => ?_
    by_cases h : i = r
    · subst h
      rw [rset_at, rset_at, rset_at, mnr_rset_same, mnr_rset_same, mnr_rset_same]
      grind
    · rw [rset_ne h, rset_ne h, rset_ne h, mnr_rset h, mnr_rset h, mnr_rset h]
      have h1 : (if r < i then r else r - 1) < n := by split <;> omega
      have := ih (mnr A i) h1 (fun b => x (b + 1)) (fun b => y (b + 1))
      rw [this]
      grind
theorem sg_pair {n r : Nat} {f : Nat → Rat} (hr : r + 1 < n) (h : ∀ i, i < n → i ≠ r → i ≠ r + 1 → f i = 0) : sg n f = f r + f (r + 1) := by
  have e : sg n f = sg n (fun i => (if r = i then f i else 0) + (if r + 1 = i then f i else 0)) := sg_congr fun i hi => by
    by_cases h1 : r = i
    · subst h1; rw [if_pos rfl, if_neg (by omega)]; grind
    · by_cases h2 : r + 1 = i
      · subst h2; rw [if_neg h1, if_pos rfl]; grind
      · rw [if_neg h1, if_neg h2, h i hi (fun e => h1 e.symm) (fun e => h2 e.symm)]; grind
  rw [e, sg_add, sg_one (by omega), sg_one hr]
theorem dt_adj {n : Nat} {A : Mx} {r : Nat} (hr : r + 1 < n) (h : A r = A (r + 1)) : dt n A = 0 := by
  induction n generalizing A r with
  | zero => omega
  | succ n ih =>
    rw [dt, sg_pair hr]
    · have hm : mnr A r = mnr A (r + 1) := by
        funext a b; unfold mnr
        by_cases h1 : a < r
        · rw [if_pos h1, if_pos (by omega)]
        · by_cases h2 : a = r
          · subst h2; rw [if_neg h1, if_pos (by omega), h]
          · rw [if_neg h1, if_neg (by omega)]
      rw [alt_succ, ← h, ← hm]
      grind
    · intro i hi h1 h2
      have hz : dt n (mnr A i) = 0 := by
        by_cases h3 : i < r
        · refine ih (r := r - 1) (by omega) ?_
          funext b; unfold mnr
          rw [if_neg (by omega), if_neg (by omega), show r - 1 + 1 = r by omega, h]
        · refine ih (r := r) (by omega) ?_
          funext b; unfold mnr
          rw [if_pos (by omega), if_pos (by omega), h]
      rw [hz, Rat.mul_zero]
theorem dt_zero {n : Nat} {A : Mx} {r : Nat} (hr : r < n) : dt n (rset A r fun _ => 0) = 0 := by
  have h := dt_lin A hr (fun _ => 0) (fun _ => 0) 1
  have e : (fun b : Nat => (0 : Rat) + 1 * 0) = fun _ => 0 := by funext b; grind
  rw [e] at h
  grind
theorem dt_scale {n : Nat} (A : Mx) {r : Nat} (hr : r < n) (x : Nat → Rat) (c : Rat) : dt n (rset A r fun b => c * x b) = c * dt n (rset A r x) := by
  have h := dt_lin A hr (fun _ => 0) x c
  have e : (fun b : Nat => (0 : Rat) + c * x b) = fun b => c * x b := by funext b; grind
  rw [e, dt_zero hr] at h
  grind
/-- Exchange, wherever equal rows give 0. -/
theorem dt_exch {n a b : Nat} (ha : a < n) (hb : b < n) (hab : a ≠ b) (h0 : ∀ (A : Mx), A a = A b → dt n A = 0) (A : Mx) : dt n (swp A a b) = -dt n A := by
  have D : ∀ x y, ∃ z, dt n (rset (rset A a x) b y) = z := fun x y => ⟨_, rfl⟩
  have e1 : swp A a b = rset (rset A a (A b)) b (A a) := by
    funext i; unfold swp rset
    by_cases h1 : i = a
    · subst h1; rw [if_pos rfl, if_neg hab, if_pos rfl]
    · rw [if_neg h1]; split
      · rfl
      · rfl
  have e2 : A = rset (rset A a (A a)) b (A b) := by rw [rset_self, rset_self]
  have key : ∀ x, dt n (rset (rset A a x) b x) = 0 := fun x => h0 _ (by rw [rset_at, rset_ne hab, rset_at])
  have s1 : ∀ x y z, dt n (rset (rset A a (fun j => x j + 1 * y j)) b z) = dt n (rset (rset A a x) b z) + 1 * dt n (rset (rset A a y) b z) := fun x y z => by
    rw [rset_comm hab, rset_comm hab, rset_comm hab]; exact dt_lin _ ha x y 1
  have s2 : ∀ x y z, dt n (rset (rset A a z) b (fun j => x j + 1 * y j)) = dt n (rset (rset A a z) b x) + 1 * dt n (rset (rset A a z) b y) := fun x y z => dt_lin _ hb x y 1
  have h := key (fun j => A a j + 1 * A b j)
  rw [s1, s2, s2, key, key] at h
  rw [e1]
  have e3 : dt n A = dt n (rset (rset A a (A a)) b (A b)) := congrArg (dt n) e2
  rw [e3]
  grind
theorem dt_same {n : Nat} : ∀ (k i : Nat) (A : Mx), i + 1 + k < n → A i = A (i + 1 + k) → dt n A = 0
  | 0, i, A, hk, h => dt_adj hk h
  | k + 1, i, A, hk, h => by
    have hs := dt_exch (n := n) (a := i + 1 + k) (b := i + 1 + k + 1) (by omega) (by omega) (by omega) (fun B hB => dt_adj (by omega) hB) A
    have hz : dt n (swp A (i + 1 + k) (i + 1 + k + 1)) = 0 := dt_same k i _ (by omega) (by
      unfold swp
      rw [if_neg (by omega), if_neg (by omega), if_pos rfl]
      exact h)
    grind
theorem dt_eq_rows {n : Nat} {A : Mx} {i j : Nat} (hi : i < n) (hj : j < n) (hij : i ≠ j) (h : A i = A j) : dt n A = 0 := by
  rcases Nat.lt_or_gt_of_ne hij with h1 | h1
  · exact dt_same (j - i - 1) i A (by omega) (by rw [show i + 1 + (j - i - 1) = j by omega]; exact h)
  · exact dt_same (i - j - 1) j A (by omega) (by rw [show j + 1 + (i - j - 1) = i by omega]; exact h.symm)
theorem dt_swp {n a b : Nat} (ha : a < n) (hb : b < n) (hab : a ≠ b) (A : Mx) : dt n (swp A a b) = -dt n A := dt_exch ha hb hab (fun B h => dt_eq_rows ha hb hab h) A
/-- A multiple of another row is added. -/
theorem dt_add {n i r : Nat} (hi : i < n) (hr : r < n) (hir : i ≠ r) (A : Mx) (c : Rat) : dt n (rset A i fun b => A i b + c * A r b) = dt n A := by
  have h := dt_lin A hi (A i) (A r) c
  have hz : dt n (rset A i (A r)) = 0 := dt_eq_rows hi hr hir (by rw [rset_at, rset_ne (fun e => hir e.symm)])
  rw [rset_self, hz] at h
  rw [h]; grind
theorem dt_sum {n : Nat} (A : Mx) {r : Nat} (hr : r < n) (f : Nat → Nat → Rat) (c : Nat → Rat) : ∀ m, dt n (rset A r fun b => sg m fun l => c l * f l b) = sg m fun l => c l * dt n (rset A r (f l))
  | 0 => by
    have e : (fun b => sg 0 fun l => c l * f l b) = fun _ => 0 := by funext b; rfl
    rw [e, dt_zero hr]; rfl
  | m + 1 => by
    have e : (fun b => sg (m + 1) fun l => c l * f l b) = fun b => (sg m fun l => c l * f l b) + c m * f m b := by funext b; rfl
    rw [e, dt_lin A hr, dt_sum A hr f c m]; rfl
/-- The product of the first n values. -/
def pr : Nat → (Nat → Rat) → Rat
  | 0, _ => 1
  | n + 1, f => pr n f * f n
theorem pr_congr {n : Nat} {f g : Nat → Rat} (h : ∀ i, i < n → f i = g i) : pr n f = pr n g := by
  induction n with
  | zero => rfl
  | succ n ih => rw [pr, pr, ih (fun i hi => h i (by omega)), h n (by omega)]
theorem pr_first (n : Nat) (f : Nat → Rat) : pr (n + 1) f = f 0 * pr n fun i => f (i + 1) := by
  induction n with
  | zero => simp [pr]
  | succ n ih => rw [pr, ih, pr]; grind
theorem dt_diag {n : Nat} {A : Mx} (h : ∀ i j, i < n → j < n → i ≠ j → A i j = 0) : dt n A = pr n fun i => A i i := by
  induction n generalizing A with
  | zero => rfl
  | succ n ih =>
    have e : dt (n + 1) A = sg (n + 1) fun i => if 0 = i then alt i * A i 0 * dt n (mnr A i) else 0 := sg_congr fun i hi => by
      by_cases h0 : 0 = i
      · rw [if_pos h0]
      · rw [if_neg h0, h i 0 hi (by omega) (fun e => h0 e.symm)]; grind
    rw [e, sg_one (show 0 < n + 1 by omega), pr_first, ih (A := mnr A 0) (fun i j hi hj hij => by
      unfold mnr; rw [if_neg (by omega)]; exact h _ _ (by omega) (by omega) (by omega))]
    have e2 : (pr n fun i => mnr A 0 i i) = pr n fun i => A (i + 1) (i + 1) := pr_congr fun i hi => by unfold mnr; rw [if_neg (by omega)]
    rw [e2]
    have : alt 0 = 1 := by decide +kernel
    rw [this]; grind
/-- The bound of a determinant of n rows of elements of at most m. -/
def dtB : Nat → Nat → Nat
  | 0, _ => 1
  | n + 1, m => (n + 1) * (m * dtB n m)
theorem over_alt {D B : Nat} {q : Rat} (i : Nat) (h : over D B q) : over D B (alt i * q) := by
  unfold alt; split
  · rw [Rat.one_mul]; exact h
  · have e : (-1 : Rat) * q = -q := by grind
    rw [e]; exact over.neg h
theorem dt_over {n D m : Nat} {A : Mx} (hD : D ≠ 0) (h : ∀ i j, i < n → j < n → over D m (A i j)) : over (D ^ n) (dtB n m) (dt n A) := by
  induction n generalizing A with
  | zero => exact ⟨1, by simp [dt]; decide +kernel, Nat.le_refl _⟩
  | succ n ih =>
    rw [dt, dtB]
    refine over.sg (Nat.ne_of_gt (Nat.pow_pos (Nat.pos_of_ne_zero hD))) fun i hi => ?_
    have h1 := ih (A := mnr A i) (fun a b ha hb => by unfold mnr; exact h _ _ (by split <;> omega) (by omega))
    have h2 := over.mul (over_alt i (h i 0 hi (by omega))) h1
    rw [Nat.pow_succ, Nat.mul_comm (D ^ n) D]
    exact h2
end Go.Proofs.Ytbhkibilnmoljaa
