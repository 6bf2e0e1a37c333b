/-
  N cells and the world's growth, kept together. No program is named here.
-/
import Derived.Test.YtlpdkbmmbdfoiaaGreatFRb2
import Derived.Test.YtlpdkbmmbdfoiaaGreatFFr3
import Derived.Test.YtlpdkbmmbdfoiaaGreatFRb5
import Derived.Test.YtlpdkbmmbdfoiaaGreatFOwR
import Derived.Test.YtlpdkbmmbdfoiaaGreatFRa3
set_option linter.unusedVariables false
set_option linter.unusedSimpArgs false
namespace Go.Proofs.YtlpdkbmmbdfoiaaGreat
open Go.RowKit
theorem RF.fits {x : RF} (h : x.ok) : fits x.q := fits_ok _ h
theorem wt_le {q : Rat} (h : fits q) : wt q ≤ 8192 := by
 obtain ⟨h1, h2⟩ := h
 unfold wt
 split <;> (try split) <;> omega
theorem wts_le (l : List RF) (h : ∀ x ∈ l, x.ok) : wts (qs l) ≤ 8192 * l.length := by
 induction l with
 | nil => simp [qs, wts]
 | cons x l ih =>
   have h1 := ih (fun y hy => h y (by simp [hy]))
   have h2 := wt_le (RF.fits (h x (by simp)))
   have e : wts (qs (x :: l)) = wt x.q + wts (qs l) := by unfold qs; rw [List.map_cons, zmg]
   rw [e, List.length_cons]; omega
theorem wts_qs (l : List RF) (k : Nat) (h : k < l.length) : wts (qs (l.take (k + 1))) = wts (qs (l.take k)) + wt l[k].q := by
 rw [zxc l k h]; unfold qs; rw [List.map_append]; exact wts_snoc _ _
def wtsM (m : List (List RF)) : Nat := (m.map fun l => wts (qs l)).sum
theorem wtsM_take (m : List (List RF)) (k : Nat) (h : k < m.length) : wtsM (m.take (k + 1)) = wtsM (m.take k) + wts (qs m[k]) := by
 unfold wtsM; rw [zxc m k h, List.map_append, List.sum_append]; simp only [List.map_cons, List.map_nil, List.sum_cons, List.sum_nil, Nat.add_zero]
theorem wtsM_le (m : List (List RF)) (h : ∀ l ∈ m, ∀ x ∈ l, x.ok) (hl : ∀ l ∈ m, l.length ≤ 65536) : wtsM m ≤ 536870912 * m.length := by
 induction m with
 | nil => simp [wtsM]
 | cons x m ih =>
   have h1 := ih (fun y hy => h y (by simp [hy])) (fun y hy => hl y (by simp [hy]))
   have h2 := wts_le x (h x (by simp))
   have h3 := hl x (by simp)
   have e : wtsM (x :: m) = wts (qs x) + wtsM m := by simp [wtsM]
   rw [e, List.length_cons]; omega
theorem wt_zero {q : Rat} (h : q.num = 0) : wt q = 0 := by unfold wt; rw [if_pos h]
theorem wt_int {q : Rat} (h : q.num ≠ 0) (hd : q.den = 1) : wt q = zua q.num.natAbs := by unfold wt; rw [if_neg h, if_pos hd]; rfl
theorem wt_frac {q : Rat} (h : q.num ≠ 0) (hd : q.den ≠ 1) : wt q = zua q.num.natAbs + zua q.den := by unfold wt; rw [if_neg h, if_neg hd]
theorem zok (va : Value) (x : RF) (w : World) (ha : zdc w va x.neg x.n x.d) (hx : x.ok) : Calls Tryz.prog 89 #[va] w (RF0 w x.q) :=
 (zef va x.neg x.n x.d w ha).mono fun e w' h => by
  obtain ⟨v, er, rfl, h1, h2, _⟩ := h
  obtain ⟨rfl, h3⟩ := h2 hx
  exact ⟨v, rfl, h3, h1⟩
theorem wtsM_one (l : List RF) : wtsM [l] = wts (qs l) := by simp [wtsM]
def plainP (x : RF) : Prop := x.ok ∧ ¬ x.q < 0 ∧ zda x.q.num.natAbs ≤ 4 ∧ zda x.q.den ≤ 4
instance (x : RF) : Decidable (plainP x) := inferInstanceAs (Decidable (_ ∧ _ ∧ _ ∧ _))
def rowP (l : List RF) (n : Nat) : Prop := (∀ x ∈ l, plainP x) ∧ l.length = n ∧ wts (qs l) ≤ 3800
instance (l : List RF) (n : Nat) : Decidable (rowP l n) := inferInstanceAs (Decidable (_ ∧ _ ∧ _))
theorem cmp_can (va vb : Value) (p q : Rat) (w : World) (ha : zqa w va p) (hb : zqa w vb q) (hp : fits p) (hq : fits q) :
 Calls Tryz.prog 130 #[va, vb] w fun en w' => en = .returned (.tuple #[.int .i64 (cmpR p q), .int .i64 0]) ∧ Below w.heap.size w w' := by
 have h := cmp_frac va vb _ _ _ _ _ _ w ha.raw hb.raw (zuc hp) (zuc hq)
 rw [zvb, zvb] at h
 exact h
@[go_sem] theorem slen_slice (a : Option Addr) (n c : Nat) : slen (.slice a n c) = n := rfl
end Go.Proofs.YtlpdkbmmbdfoiaaGreat
namespace Go.Proofs.YtlpdkbmmbdfoiaaGreat
def sg : Nat → (Nat → Rat) → Rat
 | 0, _ => 0
 | n + 1, f => sg n f + f n
theorem zma {n : Nat} {f g : Nat → Rat} (h : ∀ i, i < n → f i = g i) : sg n f = sg n g := by
 induction n with
 | zero => rfl
 | succ n ih => rw [sg, sg, ih (fun i hi => h i (by omega)), h n (by omega)]
theorem zsi (n : Nat) : sg n (fun _ => 0) = 0 := by
 induction n with
 | zero => rfl
 | succ n ih => rw [sg, ih]; grind
theorem zvd (n : Nat) (f g : Nat → Rat) : sg n (fun i => f i + g i) = sg n f + sg n g := by
 induction n with
 | zero => simp [sg]; grind
 | succ n ih => simp only [sg, ih]; grind
theorem zcb (n : Nat) (c : Rat) (f : Nat → Rat) : sg n (fun i => c * f i) = c * sg n f := by
 induction n with
 | zero => simp [sg]
 | succ n ih => simp only [sg, ih]; grind
theorem znc (n : Nat) (c : Rat) (f : Nat → Rat) : sg n (fun i => f i * c) = sg n f * c := by
 induction n with
 | zero => simp [sg]
 | succ n ih => simp only [sg, ih]; grind
theorem zdn (n m : Nat) (f : Nat → Nat → Rat) : sg n (fun i => sg m (fun j => f i j)) = sg m (fun j => sg n (fun i => f i j)) := by
 induction n with
 | zero => simp only [sg]; rw [zsi]
 | succ n ih => simp only [sg]; rw [ih, ← zvd]
theorem zfd {m k : Nat} (h : k < m) (f : Nat → Rat) : sg m (fun a => if k = a then f a else 0) = f k := by
 induction m with
 | zero => omega
 | succ m ih =>
   rw [sg]
   by_cases hk : k = m
   ·subst hk
    rw [zma (g := fun _ => 0) (fun i hi => if_neg (by omega)), zsi, if_pos rfl]
    grind
   ·rw [ih (by omega), if_neg hk]
    grind
def slimS (q : Rat) (k : Nat) : Prop := ∃ (z : Int) (D : Nat), D ≠ 0 ∧ q = mkRat z D ∧ z.natAbs + D ≤ 2 ^ k
theorem slimS_mul {p q : Rat} {j k : Nat} (hp : slimS p j) (hq : slimS q k) : slimS (p * q) (j + k) := by
 obtain ⟨z, D, h1, rfl, h2⟩ := hp
 obtain ⟨n, d, h3, rfl, h4⟩ := hq
 refine ⟨z * n, D * d, Nat.mul_ne_zero h1 h3, Rat.mkRat_mul_mkRat _ _ _ _, ?_⟩
 rw [Nat.pow_add]
 have h5 := Nat.mul_le_mul h2 h4
 rw [Int.natAbs_mul]
 rw [Nat.add_mul, Nat.mul_add, Nat.mul_add] at h5
 have := Nat.zero_le (z.natAbs * d)
 have := Nat.zero_le (D * n.natAbs)
 omega
theorem slimS_wt (q : Rat) : slimS q (wt q) := by
 refine ⟨q.num, q.den, q.den_nz, (Rat.mkRat_self q).symm, ?_⟩
 unfold wt
 have h0 : zua q.num.natAbs ≤ zua q.num.natAbs := Nat.le_refl _
 have h1 : zua q.den ≤ zua q.den := Nat.le_refl _
 rw [zwb] at h0 h1
 split
 ·next hz =>
  have e : q = 0 := Rat.num_eq_zero.1 hz
  subst e
  decide
 ·split
  ·next hz hd => simp only [hd, Nat.add_zero]; omega
  ·next hz hd =>
   have hn : q.num.natAbs ≠ 0 := by omega
   have hd0 := q.den_nz
   have h2 : 1 < zua q.den := zse.2 (by omega)
   have h3 : 0 < zua q.num.natAbs := zld.2 hn
   rw [Nat.pow_add]
   have e1 : 2 ^ 1 ≤ 2 ^ zua q.num.natAbs := Nat.pow_le_pow_right (by decide) h3
   have e2 : 2 ^ 1 ≤ 2 ^ zua q.den := Nat.pow_le_pow_right (by decide) (by omega)
   generalize 2 ^ zua q.num.natAbs = A at *
   generalize 2 ^ zua q.den = B at *
   obtain ⟨a, rfl⟩ : ∃ a, A = a + 2 := ⟨A - 2, by omega⟩
   obtain ⟨b, rfl⟩ : ∃ b, B = b + 2 := ⟨B - 2, by omega⟩
   have e3 : (a + 2) * (b + 2) = a * b + 2 * a + 2 * b + 4 := by grind
   rw [e3]
   have := Nat.zero_le (a * b)
   omega
theorem slimS_fits {q : Rat} {k : Nat} (h : slimS q k) (hk : k ≤ 4095) : fits q := by
 obtain ⟨z, D, h1, rfl, h3⟩ := h
 have e : mkRat z D = fq (decide (z < 0)) z.natAbs D := by
  unfold fq sgn
  by_cases hz : z < 0
  ·rw [decide_eq_true hz, if_pos rfl]; congr 1; omega
  ·rw [decide_eq_false hz, if_neg (by decide)]; congr 1; omega
 rw [e]
 have h5 : 2 ^ k < 2 ^ (k + 1) := Nat.pow_lt_pow_right (by decide) (Nat.lt_succ_self k)
 have h6 : k + 1 ≤ 4096 := by omega
 refine ⟨?_, ?_⟩
 ·rw [zif _ _ _ h1]
  exact Nat.le_trans (zre (Nat.lt_of_le_of_lt (Nat.div_le_self _ _) (Nat.lt_of_le_of_lt (Nat.le_trans (Nat.le_add_right z.natAbs D) h3) h5))) h6
 ·rw [zsm _ _ _ h1]
  exact Nat.le_trans (zre (Nat.lt_of_le_of_lt (Nat.div_le_self _ _) (Nat.lt_of_le_of_lt (Nat.le_trans (Nat.le_add_left D z.natAbs) h3) h5))) h6
theorem mul_fits26 {x y : Rat} (hw : wt x + wt y ≤ 3800) : fits (x * y) := slimS_fits (slimS_mul (slimS_wt _) (slimS_wt _)) (by omega)
def over (D B : Nat) (q : Rat) : Prop := ∃ z : Int, q = mkRat z D ∧ z.natAbs ≤ B
theorem over.zero (D B : Nat) : over D B 0 := ⟨0, by simp, by simp⟩
theorem over.mono {D A B : Nat} {q : Rat} (h : over D A q) (hB : A ≤ B) : over D B q := by
 obtain ⟨z, h1, h2⟩ := h
 exact ⟨z, h1, by omega⟩
theorem over.add {D A B : Nat} {p q : Rat} (hD : D ≠ 0) (hp : over D A p) (hq : over D B q) : over D (A + B) (p + q) := by
 obtain ⟨y, rfl, h1⟩ := hp
 obtain ⟨z, rfl, h2⟩ := hq
 refine ⟨y + z, ?_, ?_⟩
 ·rw [Rat.mkRat_add_mkRat _ _ hD hD, ← Int.add_mul]
  exact Rat.mkRat_mul_right hD
 ·have := Int.natAbs_add_le y z
  omega
theorem over.neg {D A : Nat} {p : Rat} (hp : over D A p) : over D A (-p) := by
 obtain ⟨y, rfl, h1⟩ := hp
 exact ⟨-y, by rw [Rat.neg_mkRat], by omega⟩
theorem over.mul {D E A B : Nat} {p q : Rat} (hp : over D A p) (hq : over E B q) : over (D * E) (A * B) (p * q) := by
 obtain ⟨y, rfl, h1⟩ := hp
 obtain ⟨z, rfl, h2⟩ := hq
 exact ⟨y * z, Rat.mkRat_mul_mkRat _ _ _ _, by rw [Int.natAbs_mul]; exact Nat.mul_le_mul h1 h2⟩
theorem over.scale {D A m : Nat} {p : Rat} (hm : m ≠ 0) (hp : over D A p) : over (D * m) (A * m) p := by
 obtain ⟨y, rfl, h1⟩ := hp
 exact ⟨y * m, (Rat.mkRat_mul_right hm).symm, by rw [Int.natAbs_mul, Int.natAbs_natCast]; exact Nat.mul_le_mul_right _ h1⟩
theorem over.sg {D B n : Nat} {f : Nat → Rat} (hD : D ≠ 0) (h : ∀ i, i < n → over D B (f i)) : over D (n * B) (sg n f) := by
 induction n with
 | zero => exact over.zero _ _
 | succ n ih => rw [Nat.succ_mul]; exact over.add hD (ih fun i hi => h i (by omega)) (h n (by omega))
theorem over.fq {D B : Nat} {q : Rat} (h : over D B q) : ∃ (s : Bool) (n : Nat), q = fq s n D ∧ n ≤ B := by
 obtain ⟨z, rfl, h2⟩ := h
 refine ⟨decide (z < 0), z.natAbs, ?_, h2⟩
 unfold Go.Proofs.YtlpdkbmmbdfoiaaGreat.fq sgn
 by_cases hz : z < 0
 ·rw [decide_eq_true hz, if_pos rfl]; congr 1; omega
 ·rw [decide_eq_false hz, if_neg (by decide)]; congr 1; omega
theorem over.wt {D B a b : Nat} {q : Rat} (hD : D ≠ 0) (h : over D B q) (ha : B < 2 ^ a) (hb : D < 2 ^ b) : wt q ≤ a + b := by
 obtain ⟨s, n, rfl, h1⟩ := h.fq
 have h2 : zua (Go.Proofs.YtlpdkbmmbdfoiaaGreat.fq s n D).num.natAbs ≤ a := by
  rw [zif _ _ _ hD]
  exact zre (Nat.lt_of_le_of_lt (Nat.div_le_self _ _) (Nat.lt_of_le_of_lt h1 ha))
 have h3 : zua (Go.Proofs.YtlpdkbmmbdfoiaaGreat.fq s n D).den ≤ b := by
  rw [zsm _ _ _ hD]
  exact zre (Nat.lt_of_le_of_lt (Nat.div_le_self _ _) hb)
 unfold Go.Proofs.YtlpdkbmmbdfoiaaGreat.wt
 split
 ·omega
 ·split <;> omega
theorem over.fits {D B : Nat} {q : Rat} (hD : D ≠ 0) (h : over D B q) (ha : B < 2 ^ 4096) (hb : D < 2 ^ 4096) : fits q := by
 obtain ⟨s, n, rfl, h1⟩ := h.fq
 refine ⟨?_, ?_⟩
 ·rw [zif _ _ _ hD]
  exact zre (Nat.lt_of_le_of_lt (Nat.div_le_self _ _) (Nat.lt_of_le_of_lt h1 ha))
 ·rw [zsm _ _ _ hD]
  exact zre (Nat.lt_of_le_of_lt (Nat.div_le_self _ _) hb)
theorem over.one {D : Nat} (hD : D ≠ 0) : over D D 1 := ⟨D, by
 have := Rat.mkRat_self 1
 have h := Rat.mkRat_mul_right (n := 1) (d := 1) hD
 rw [Int.one_mul, Nat.one_mul] at h
 rw [h]; exact this.symm, by simp⟩
theorem zbp {n : Nat} {f : Nat → Rat} (h : ∀ i, i < n → 0 ≤ f i) : 0 ≤ sg n f := by
 induction n with
 | zero => exact Rat.le_refl
 | succ n ih => exact Rat.add_nonneg (ih fun i hi => h i (by omega)) (h n (by omega))
theorem zup (l : List Rat) : zgg l = sg l.length (fun j => l.getD j 0) := by
 have key : ∀ k, k ≤ l.length → zgg (l.take k) = sg k (fun j => l.getD j 0) := by
  intro k
  induction k with
  | zero => intro _; simp [sg, zgg]
  | succ k ih =>
    intro h
    rw [lsum_take l k (by omega), sg, ih (by omega)]
    simp [List.getD, List.getElem?_eq_getElem (show k < l.length by omega)]
 have := key l.length (Nat.le_refl _)
 rwa [List.take_length] at this
def fp (z : Nat → Bool) : Nat → Nat → Nat
 | 0, r => r
 | f + 1, r => if z r = true then r else fp z f (r + 1)
theorem fp_ge (z : Nat → Bool) (f r : Nat) : r ≤ fp z f r ∧ fp z f r ≤ r + f := by
 induction f generalizing r with
 | zero => exact ⟨Nat.le_refl _, Nat.le_refl _⟩
 | succ f ih => rw [fp]; have := ih (r + 1); split <;> omega
theorem fp_before (z : Nat → Bool) (f r : Nat) : ∀ i, r ≤ i → i < fp z f r → z i = false := by
 induction f generalizing r with
 | zero => intro i h1 h2; rw [fp] at h2; omega
 | succ f ih =>
   intro i h1 h2
   rw [fp] at h2
   split at h2
   ·omega
   ·next h =>
    rcases Nat.eq_or_lt_of_le h1 with h3 | h3
    ·subst h3; simpa using h
    ·exact ih (r + 1) i h3 h2
theorem fp_at (z : Nat → Bool) (f r : Nat) (h : fp z f r < r + f) : z (fp z f r) = true := by
 induction f generalizing r with
 | zero => rw [fp] at h; omega
 | succ f ih =>
   rw [fp] at h ⊢
   split
   ·next h1 => exact h1
   ·next h1 => rw [if_neg h1] at h; exact ih (r + 1) (by omega)
theorem fp_eq {z : Nat → Bool} {f r k : Nat} (h1 : r ≤ k) (h2 : k ≤ r + f) (h3 : ∀ i, r ≤ i → i < k → z i = false) (h4 : k < r + f → z k = true) : fp z f r = k := by
 have g1 := fp_ge z f r
 rcases Nat.lt_trichotomy (fp z f r) k with h | h | h
 ·have := fp_at z f r (by omega)
  rw [h3 _ g1.1 h] at this; cases this
 ·exact h
 ·have := fp_before z f r k h1 h
  rw [h4 (by omega)] at this; cases this
abbrev Mx := Nat → Nat → Rat
def swp (A : Mx) (a b : Nat) : Mx := fun i => if i = a then A b else if i = b then A a else A i
structure St where
 A : Mx
 r : Nat
 d : Rat
def act (below : Bool) (A : Mx) (r k i : Nat) : Prop := i ≠ r ∧ ¬ (below = true ∧ i < r) ∧ A i k ≠ 0
instance (below : Bool) (A : Mx) (r k i : Nat) : Decidable (act below A r k i) := inferInstanceAs (Decidable (_ ∧ _ ∧ _))
def znj (below : Bool) (A : Mx) (r k : Nat) : Mx := fun i j => if act below A r k i ∧ k ≤ j then A i j - A i k / A r k * A r j else A i j
def pvt (n k : Nat) (S : St) : Nat := fp (fun i => decide (S.A i k ≠ 0)) (n - S.r) S.r
def zzf (below : Bool) (n k : Nat) (S : St) : St :=
 if pvt n k S < n then ⟨znj below (swp S.A S.r (pvt n k S)) S.r k, S.r + 1, (if pvt n k S = S.r then S.d else -S.d) * swp S.A S.r (pvt n k S) S.r k⟩ else S
def elim (below : Bool) (n : Nat) (A : Mx) : Nat → St
 | 0 => ⟨A, 0, 1⟩
 | k + 1 => zzf below n k (elim below n A k)
theorem zue (below : Bool) (n : Nat) (A : Mx) (k : Nat) : (elim below n A k).r ≤ n ∧ (elim below n A k).r ≤ k := by
 induction k with
 | zero => exact ⟨Nat.zero_le _, Nat.le_refl _⟩
 | succ k ih =>
   rw [elim, zzf]
   have := fp_ge (fun i => decide ((elim below n A k).A i k ≠ 0)) (n - (elim below n A k).r) (elim below n A k).r
   split
   ·next h => unfold pvt at h; show (elim below n A k).r + 1 ≤ n ∧ (elim below n A k).r + 1 ≤ k + 1; omega
   ·omega
theorem estep_stop {below : Bool} {n k : Nat} {S : St} (h : n ≤ S.r) : zzf below n k S = S := by
 have := fp_ge (fun i => decide (S.A i k ≠ 0)) (n - S.r) S.r
 rw [zzf, if_neg (by unfold pvt; omega)]
theorem elim_stop {below : Bool} {n : Nat} {A : Mx} {k : Nat} (h : (elim below n A k).r = n) : ∀ j, k ≤ j → elim below n A j = elim below n A k
 | 0, hj => by obtain rfl : k = 0 := by omega
               rfl
 | j + 1, hj => by
   rcases Nat.eq_or_lt_of_le hj with h1 | h1
   ·rw [h1]
   ·have ih := elim_stop h j (by omega)
    rw [elim, ih, estep_stop (by omega)]
def fitE (below : Bool) (n m k : Nat) (S : St) : Prop :=
 pvt n k S < n → fits (-S.d) ∧ fits ((if pvt n k S = S.r then S.d else -S.d) * swp S.A S.r (pvt n k S) S.r k) ∧
  ∀ i, i < n → act below (swp S.A S.r (pvt n k S)) S.r k i → fits (swp S.A S.r (pvt n k S) i k / swp S.A S.r (pvt n k S) S.r k) ∧
   ∀ j, j < m → k ≤ j → fits (swp S.A S.r (pvt n k S) i k / swp S.A S.r (pvt n k S) S.r k * swp S.A S.r (pvt n k S) S.r j) ∧
    fits (swp S.A S.r (pvt n k S) i j - swp S.A S.r (pvt n k S) i k / swp S.A S.r (pvt n k S) S.r k * swp S.A S.r (pvt n k S) S.r j)
theorem over.zero' {D B : Nat} {z : Int} (hD : D ≠ 0) (h : mkRat z D ≠ 0) : z ≠ 0 := fun e => h (by rw [e]; simp)
theorem div_mk {y z : Int} {D : Nat} (hD : D ≠ 0) (hz : z ≠ 0) : mkRat y D / mkRat z D = mkRat (y * z.sign) z.natAbs := by
 have hn : z.natAbs ≠ 0 := by omega
 have hq : mkRat z D ≠ 0 := fun e => hz ((Rat.mkRat_eq_zero hD).1 e)
 have e : mkRat y D = mkRat (y * z.sign) z.natAbs * mkRat z D := by
  rw [Rat.mkRat_mul_mkRat, Int.mul_assoc, Int.sign_mul_self, Int.mul_comm y]
  exact (Rat.mkRat_mul_left hn).symm
 rw [e, Rat.mul_div_cancel hq]
theorem over.quo {D B : Nat} {p : Rat} {z : Int} (hD : D ≠ 0) (hp : over D B p) (hz : z ≠ 0) : over z.natAbs B (p / mkRat z D) := by
 obtain ⟨y, rfl, h1⟩ := hp
 refine ⟨y * z.sign, div_mk hD hz, ?_⟩
 rw [Int.natAbs_mul, Int.natAbs_sign_of_ne_zero hz, Nat.mul_one]
 exact h1
theorem over.sub {D A B : Nat} {p q : Rat} (hD : D ≠ 0) (hp : over D A p) (hq : over D B q) : over D (A + B) (p - q) := by
 rw [Rat.sub_eq_add_neg]; exact over.add hD hp (over.neg hq)
def overT (n m D B : Nat) (A : Mx) : Prop := ∀ i j, i < n → j < m → over D B (A i j)
def grow : Nat → Nat × Nat × Nat × Nat → Nat × Nat × Nat × Nat
 | 0, x => x
 | k + 1, x => let (b, d, e, f) := grow k x; (2 * (b * b), d * b, e * b, f * d)
def slim4 (x : Nat × Nat × Nat × Nat) : Prop := x.1 < 2 ^ 4096 ∧ x.2.1 < 2 ^ 4096 ∧ x.2.2.1 < 2 ^ 4096 ∧ x.2.2.2 < 2 ^ 4096
instance (x : Nat × Nat × Nat × Nat) : Decidable (slim4 x) := inferInstanceAs (Decidable (_ ∧ _ ∧ _ ∧ _))
theorem zek {A : Mx} {a b : Nat} : swp A a b a = A b := by unfold swp; rw [if_pos rfl]
theorem pvt_ne {n k : Nat} {S : St} (hn : S.r ≤ n) (h : pvt n k S < n) : S.A (pvt n k S) k ≠ 0 := by
 have := fp_at (fun i => decide (S.A i k ≠ 0)) (n - S.r) S.r (by unfold pvt at h; omega)
 unfold pvt
 simpa using this
theorem zvk (n k : Nat) (S : St) : S.r ≤ pvt n k S := (fp_ge _ _ _).1
end Go.Proofs.YtlpdkbmmbdfoiaaGreat
namespace Go.Proofs.YtlpdkbmmbdfoiaaGreat
open Go.RowKit
section
variable {w : World} {e : TypeId} {B size n : Nat} {v : Value} {xs : List Value}
theorem zlc.set1 (h : zlc w e B size v n xs) (j : Nat) (hj : j < xs.length) (u : Value) (hu : ∀ z, u ≠ .int .u32 z) :
 zlc (w.setCell (ptr v j) u) e B size v n (xs.set j u) ∧ w.grownBy (w.setCell (ptr v j) u) v.ownBlock := by
 have hl := h.own.1
 rcases h.own.2 with ⟨rfl, h0⟩ | ⟨g, cap, cur, rfl, hb, hg, hn, hm, hs, ht⟩
 ·rw [h0] at hl; omega
 ·have hp : ptr (.slice (some ⟨g, 0, none⟩) n cap) j = ⟨g, j, none⟩ := by simp only [ptr, base, Addr.add_lit, Nat.zero_add]
  have hst := World.ownsRow.stored h.own j u
  rw [hp]
  refine ⟨⟨hst.1, ?_⟩, hst.2⟩
  intro g' hg' cur' e' fz hc c hcc
  simp only [Value.ownBlock, Option.some.injEq] at hg'
  subst hg'
  rw [heap_setCell_same w g j cur e u hg] at hc
  injection hc with hc
  injection hc with hc _ _
  subst hc
  rw [Array.toList_setIfInBounds] at hcc
  rcases List.mem_or_eq_of_mem_set hcc with h' | h'
  ·exact h.nl g rfl cur e _ hg c h'
  ·subst h'; exact hu
theorem zlc.frozen (h : zlc w e B size v n xs) (j : Nat) (hj : j < xs.length) : w.frozen? (ptr v j) = false := by
 have hl := h.own.1
 obtain ⟨ho, _⟩ := h
 rcases ho.2 with ⟨rfl, h0⟩ | ⟨g, cap, cur, rfl, hb, hg, hn, hm, hs, ht⟩
 ·rw [h0] at hl; omega
 ·have := World.ownsRow.frozenAt ho j
  simpa only [ptr, base, Addr.add_lit, Nat.zero_add] using this
theorem zlc.blk (h : zlc w e B size v n xs) (hx : 0 < xs.length) : ∃ g, v.ownBlock = some g ∧ (base v).block = g ∧ B ≤ g ∧ g < w.heap.size ∧ ∀ j, ptr v j = ⟨g, j, none⟩ := by
 have hl := h.own.1
 have hbl := h.block
 rcases h.own.2 with ⟨rfl, h0⟩ | ⟨g, cap, cur, rfl, hb, hg, hn, hm, hs, ht⟩
 ·rw [h0] at hl; omega
 ·exact ⟨g, rfl, rfl, (hbl g rfl).1, (hbl g rfl).2, fun j => by simp only [ptr, base, Addr.add_lit, Nat.zero_add]⟩
end
theorem zle {a b c : World} {r : Option Nat} (h : a.grownBy b r) (k : b.grownBy c r) : a.grownBy c r := zsc h k
section
variable {w : World} {e : TypeId} {B : Nat} {v : Value} {q : List Rat}
theorem zya.frozen (h : zya w e B v q) (k : Nat) (hk : k < q.length * 3) : w.frozen? (ptr v k) = false := by
 obtain ⟨xs, h1, _⟩ := h
 exact h1.frozen k (by rw [h1.clen]; exact hk)
theorem zya.blk (h : zya w e B v q) (hq : 0 < q.length) : ∃ g, v.ownBlock = some g ∧ (base v).block = g ∧ B ≤ g ∧ g < w.heap.size ∧ ∀ j, ptr v j = ⟨g, j, none⟩ := by
 obtain ⟨xs, h1, _⟩ := h
 exact h1.blk (by rw [h1.clen]; omega)
theorem zya.inj (h : zya w e B v q) (hq : 0 < q.length) {i j : Nat} (hij : i ≠ j) : ptr v i ≠ ptr v j := by
 obtain ⟨g, _, _, _, _, hp⟩ := h.blk hq
 rw [hp, hp]
 intro h; injection h with h1 h2; exact hij h2
theorem zya.noLimb (h : zya w e B v q) : zlb w v := by obtain ⟨xs, h1, _⟩ := h; exact h1.nl
theorem zya.put (h : zya w e B v q) {i : Nat} (hi : i < q.length) {x y z : Value} {r : Rat} (hf : zqa w (.agg #[x, y, z]) r) :
 zya (((w.setCell (ptr v (i * 3)) x).setCell (ptr v (i * 3 + 1)) y).setCell (ptr v (i * 3 + 2)) z) e B v (q.set i r) ∧
  w.grownBy (((w.setCell (ptr v (i * 3)) x).setCell (ptr v (i * 3 + 1)) y).setCell (ptr v (i * 3 + 2)) z) v.ownBlock := by
 obtain ⟨xs, h1, h2⟩ := h
 obtain ⟨a, b, ha, h4, h5⟩ := id hf
 injection ha with ha
 injection ha with ha
 simp only [List.cons.injEq, and_true] at ha
 obtain ⟨rfl, rfl, rfl⟩ := ha
 have hl := h1.clen
 have ny : ∀ k, y ≠ .int .u32 k := fun k => by obtain ⟨a1, n1, c1, e1, _⟩ := h4.v.sl; subst e1; simp
 have nz : ∀ k, z ≠ .int .u32 k := fun k => by obtain ⟨a1, n1, c1, e1, _⟩ := h5.v.sl; subst e1; simp
 obtain ⟨s1, g1⟩ := h1.set1 (i * 3) (by omega) (.bool (decide (r < 0))) (fun k => by simp)
 obtain ⟨s2, g2⟩ := s1.set1 (i * 3 + 1) (by rw [List.length_set]; omega) y ny
 obtain ⟨s3, g3⟩ := s2.set1 (i * 3 + 2) (by rw [List.length_set, List.length_set]; omega) z nz
 have gg := zle (zle g1 g2) g3
 refine ⟨⟨_, by rw [List.length_set]; exact s3, fun j hj => ?_⟩, gg⟩
 rw [List.length_set] at hj
 by_cases hij : i = j
 ·subst hij
  refine ⟨y, z, ?_, ?_, ?_, ?_, ?_⟩
  ·rw [List.getElem?_set_ne (by omega), List.getElem?_set_ne (by omega), List.getElem?_set_self (by omega), List.getElem_set_self]
  ·rw [List.getElem?_set_ne (by omega), List.getElem?_set_self (by rw [List.length_set]; omega)]
  ·rw [List.getElem?_set_self (by rw [List.length_set, List.length_set]; omega)]
  ·rw [List.getElem_set_self]; exact h4.grown gg h1.nl
  ·rw [List.getElem_set_self]; exact h5.grown gg h1.nl
 ·obtain ⟨a, b, e1, e2, e3, e4, e5⟩ := h2 j hj
  rw [List.getElem_set_ne hij]
  refine ⟨a, b, ?_, ?_, ?_, e4.grown gg h1.nl, e5.grown gg h1.nl⟩
  ·rw [List.getElem?_set_ne (by omega), List.getElem?_set_ne (by omega), List.getElem?_set_ne (by omega)]; exact e1
  ·rw [List.getElem?_set_ne (by omega), List.getElem?_set_ne (by omega), List.getElem?_set_ne (by omega)]; exact e2
  ·rw [List.getElem?_set_ne (by omega), List.getElem?_set_ne (by omega), List.getElem?_set_ne (by omega)]; exact e3
end
def zjf (w : World) (T : Nat) (cs : Array Value) : Prop := ∃ ty, w.heap[T]? = some (.cells cs ty (0, 0))
section
variable {w w' : World} {T : Nat} {cs : Array Value}
theorem zjf.new (w : World) (cs : Array Value) (ty : TypeId) : zjf (w.alloc (.cells cs ty)) w.heap.size cs := ⟨ty, heap_alloc_new w _⟩
theorem zjf.lt (h : zjf w T cs) : T < w.heap.size := by obtain ⟨ty, h⟩ := h; exact (Array.getElem?_eq_some_iff.1 h).1
theorem zjf.cell (h : zjf w T cs) (j : Nat) {u : Value} (hu : cs[j]? = some u) : w.cell? ⟨T, j, none⟩ = some u := by
 obtain ⟨ty, h⟩ := h
 simp [World.cell?, h, hu]
theorem zjf.frozen (h : zjf w T cs) (j : Nat) : w.frozen? ⟨T, j, none⟩ = false := by
 obtain ⟨ty, h⟩ := h
 simp [World.frozen?, h]
theorem zjf.set (h : zjf w T cs) (j : Nat) (u : Value) : zjf (w.setCell ⟨T, j, none⟩ u) T (cs.setIfInBounds j u) := by
 obtain ⟨ty, h⟩ := h
 exact ⟨ty, heap_setCell_same w T j cs ty u h⟩
theorem zjf.below (h : zjf w T cs) (hb : Below w.heap.size w w') : zjf w' T cs := by
 have hlt := h.lt
 obtain ⟨ty, h⟩ := h
 exact ⟨ty, by rw [hb.block T hlt]; exact h⟩
theorem zjf.grown {r : Option Nat} (h : zjf w T cs) (hg : w.grownBy w' r) (hr : r ≠ some T) : zjf w' T cs := by
 have hlt := h.lt
 obtain ⟨ty, h⟩ := h
 exact ⟨ty, by rw [hg.block T hlt hr.symm]; exact h⟩
end
def zib (m : Nat) (f : Nat → Rat) : List Rat := (List.range m).map f
theorem zea (m : Nat) (f : Nat → Rat) : (zib m f).length = m := by simp [zib]
theorem ztb (m : Nat) (f : Nat → Rat) (j : Nat) (h : j < (zib m f).length) : (zib m f)[j] = f j := by simp [zib]
theorem zdf {m : Nat} {f g : Nat → Rat} (h : ∀ j, j < m → f j = g j) : zib m f = zib m g :=
 List.map_congr_left fun j hj => h j (List.mem_range.1 hj)
theorem rowL_of (q : List Rat) : zib q.length (fun j => q.getD j 0) = q := by
 refine List.ext_getElem (by rw [zea]) fun j h1 h2 => ?_
 rw [ztb, List.getD_eq_getElem?_getD, List.getElem?_eq_getElem h2]; rfl
theorem rowL_set (m : Nat) (f : Nat → Rat) (i : Nat) (r : Rat) : (zib m f).set i r = zib m (fun j => if j = i then r else f j) := by
 refine List.ext_getElem (by rw [List.length_set, zea, zea]) fun j h1 h2 => ?_
 rw [ztb]
 by_cases h : j = i
 ·subst h; rw [List.getElem_set_self, if_pos rfl]
 ·rw [List.getElem_set_ne (fun e => h e.symm), if_neg h, ztb]
def upd (A : Mx) (i j : Nat) (r : Rat) : Mx := fun a b => if a = i ∧ b = j then r else A a b
structure znd (w : World) (T : Nat) (vR : Value) (rs : List Value) (n m : Nat) (A : Mx) (wd rk : Nat) (d : Rat) : Prop where
 box : ∃ a b, zjf w T #[vR, .int .i64 wd, .int .i64 rk, .bool (decide (d < 0)), a, b, .int .i64 0] ∧ zjb w a d.num.natAbs ∧ zjb w b d.den
 own : zlc w 25 (T + 1) 1 vR rs.length rs
 rl : rs.length = n
 mp : 0 < m
 row : ∀ (i : Nat) (h : i < rs.length), zya w 38 (T + 1) rs[i] (zib m (A i))
 ap : ∀ (i j : Nat) (hi : i < rs.length) (hj : j < rs.length), i ≠ j → rs[i].ownBlock ≠ rs[j].ownBlock
section
variable {w w' : World} {T n m wd rk : Nat} {vR : Value} {rs : List Value} {A : Mx} {d : Rat}
theorem znd.lt (h : znd w T vR rs n m A wd rk d) : T < w.heap.size := by obtain ⟨a, b, hb, _⟩ := h.box; exact hb.lt
theorem znd.below (h : znd w T vR rs n m A wd rk d) (hb : Below w.heap.size w w') : znd w' T vR rs n m A wd rk d := by
 obtain ⟨a, b, h1, h2, h3⟩ := h.box
 exact ⟨⟨a, b, h1.below hb, h2.below hb, h3.below hb⟩, h.own.below hb, h.rl, h.mp, fun i hi => (h.row i hi).moves (zhb.below (B := T + 1) hb) (Nat.le_refl _), h.ap⟩
theorem znd.congr {A' : Mx} (h : znd w T vR rs n m A wd rk d) (hA : ∀ i j, i < n → j < m → A i j = A' i j) : znd w T vR rs n m A' wd rk d :=
 ⟨h.box, h.own, h.rl, h.mp, fun i hi => by rw [← zdf (fun j hj => hA i j (by rw [← h.rl]; exact hi) hj)]; exact h.row i hi, h.ap⟩
theorem znd.elem (h : znd w T vR rs n m A wd rk d) {i j : Nat} (hi : i < rs.length) (hj : j < m) :
 ∃ a b, w.cell? (ptr rs[i] (j * 3)) = some (.bool (decide (A i j < 0))) ∧ w.cell? (ptr rs[i] (j * 3 + 1)) = some a ∧ w.cell? (ptr rs[i] (j * 3 + 2)) = some b ∧ zjb w a (A i j).num.natAbs ∧ zjb w b (A i j).den := by
 obtain ⟨a, b, h1, h2, h3, h4, h5⟩ := (h.row i hi).fracs.at' j (by rw [zea]; exact hj)
 rw [ztb] at h1 h4 h5
 exact ⟨a, b, h1, h2, h3, h4, h5⟩
theorem znd.put (h : znd w T vR rs n m A wd rk d) {i j : Nat} (hi : i < rs.length) (hj : j < m) {x y z : Value} {r : Rat} (hf : zqa w (.agg #[x, y, z]) r) :
 znd (((w.setCell (ptr rs[i] (j * 3)) x).setCell (ptr rs[i] (j * 3 + 1)) y).setCell (ptr rs[i] (j * 3 + 2)) z) T vR rs n m (upd A i j r) wd rk d ∧
  Below T w (((w.setCell (ptr rs[i] (j * 3)) x).setCell (ptr rs[i] (j * 3 + 1)) y).setCell (ptr rs[i] (j * 3 + 2)) z) := by
 have hT := h.lt
 obtain ⟨⟨a, b, h1, h2, h3⟩, own, rl, mp, row, ap⟩ := h
 have hr := row i hi
 obtain ⟨hp, gg⟩ := hr.put (i := j) (by rw [zea]; exact hj) hf
 have hnl := hr.noLimb
 obtain ⟨g, hg, _, hgT, hgw, _⟩ := hr.blk (by rw [zea]; exact mp)
 have hgT' : rs[i].ownBlock ≠ some T := by rw [hg]; intro e; injection e with e; omega
 obtain ⟨ys, y1, y2⟩ := id hr
 refine ⟨⟨⟨a, b, h1.grown gg hgT', h2.grown gg hnl, h3.grown gg hnl⟩, own.grown gg (own.kinds y1 (by decide)), rl, mp, fun k hk => ?_, ap⟩, zna gg (by omega) (fun k hk => by rw [hg] at hk; injection hk with hk; omega)⟩
 by_cases hki : k = i
 ·subst hki
  rw [rowL_set] at hp
  have e : zib m (upd A k j r k) = zib m (fun b => if b = j then r else A k b) := zdf fun b _ => by
   unfold upd
   by_cases hb : b = j
   ·rw [if_pos ⟨rfl, hb⟩, if_pos hb]
   ·rw [if_neg (fun h => hb h.2), if_neg hb]
  rw [e]; exact hp
 ·have e : zib m (upd A i j r k) = zib m (A k) := zdf fun b _ => by unfold upd; rw [if_neg (fun h => hki h.1)]
  rw [e]
  exact (row k hk).grown gg hnl (Or.inr (ap k i hk hi hki))
theorem znd.setDet (h : znd w T vR rs n m A wd rk d) {x y z : Value} {r : Rat} (hf : zqa w (.agg #[x, y, z]) r) :
 znd (((w.setCell ⟨T, 3, none⟩ x).setCell ⟨T, 4, none⟩ y).setCell ⟨T, 5, none⟩ z) T vR rs n m A wd rk r ∧ Below T w (((w.setCell ⟨T, 3, none⟩ x).setCell ⟨T, 4, none⟩ y).setCell ⟨T, 5, none⟩ z) := by
 obtain ⟨⟨a, b, h1, h2, h3⟩, own, rl, mp, row, ap⟩ := h
 obtain ⟨p, q, ha, h4, h5⟩ := id hf
 injection ha with ha
 injection ha with ha
 simp only [List.cons.injEq, and_true] at ha
 obtain ⟨rfl, rfl, rfl⟩ := ha
 obtain ⟨a1, a2, a3, rfl, _⟩ := h2.v.sl
 obtain ⟨b1, b2, b3, rfl, _⟩ := h3.v.sl
 have s1 := h1.set 3 (.bool (decide (r < 0)))
 have s2 := s1.set 4 y
 have s3 := s2.set 5 z
 have m1 := zhb.set (B := T + 1) (p := ⟨T, 3, none⟩) (Nat.lt_succ_self T) (h1.cell 3 rfl) (fun z => by simp) (.bool (decide (r < 0)))
 have m2 := zhb.set (B := T + 1) (p := ⟨T, 4, none⟩) (Nat.lt_succ_self T) (s1.cell 4 rfl) (fun z => by simp) y
 have m3 := zhb.set (B := T + 1) (p := ⟨T, 5, none⟩) (Nat.lt_succ_self T) (s2.cell 5 rfl) (fun z => by simp) z
 have mm := (m1.trans m2).trans m3
 exact ⟨⟨⟨y, z, s3, h4.moves mm, h5.moves mm⟩, own.moves mm (Nat.le_refl _), rl, mp, fun i hi => (row i hi).moves mm (Nat.le_refl _), ap⟩,
  (((Below.refl T w).setCell (p := ⟨T, 3, none⟩) (Nat.le_refl _) _).setCell (p := ⟨T, 4, none⟩) (Nat.le_refl _) _).setCell (p := ⟨T, 5, none⟩) (Nat.le_refl _) _⟩
theorem znd.setRank (h : znd w T vR rs n m A wd rk d) (k : Nat) :
 znd (w.setCell ⟨T, 2, none⟩ (.int .i64 k)) T vR rs n m A wd k d ∧ Below T w (w.setCell ⟨T, 2, none⟩ (.int .i64 k)) := by
 obtain ⟨⟨a, b, h1, h2, h3⟩, own, rl, mp, row, ap⟩ := h
 have mm := zhb.set (B := T + 1) (p := ⟨T, 2, none⟩) (Nat.lt_succ_self T) (h1.cell 2 rfl) (fun z => by simp) (.int .i64 k)
 exact ⟨⟨⟨a, b, h1.set 2 (.int .i64 k), h2.moves mm, h3.moves mm⟩, own.moves mm (Nat.le_refl _), rl, mp, fun i hi => (row i hi).moves mm (Nat.le_refl _), ap⟩,
  (Below.refl T w).setCell (p := ⟨T, 2, none⟩) (Nat.le_refl _) _⟩
theorem znd.swap (h : znd w T vR rs n m A wd rk d) {i j : Nat} (hi : i < rs.length) (hj : j < rs.length) (hij : i ≠ j) :
 znd ((w.setCell (ptr vR i) rs[j]).setCell (ptr vR j) rs[i]) T vR ((rs.set i rs[j]).set j rs[i]) n m (swp A i j) wd rk d ∧ Below T w ((w.setCell (ptr vR i) rs[j]).setCell (ptr vR j) rs[i]) := by
 have hT := h.lt
 obtain ⟨⟨a, b, h1, h2, h3⟩, own, rl, mp, row, ap⟩ := h
 have hn : ∀ k (hk : k < rs.length) z, rs[k] ≠ .int .u32 z := fun k hk z => by
  obtain ⟨a1, a2, a3, e1, _⟩ := (row k hk).sl
  rw [e1]; simp
 obtain ⟨s1, g1⟩ := own.set1 i hi rs[j] (hn j hj)
 obtain ⟨s2, g2⟩ := s1.set1 j (by rw [List.length_set]; exact hj) rs[i] (hn i hi)
 have gg := zle g1 g2
 obtain ⟨g, hg, _, hgT, hgw, _⟩ := own.blk (by omega)
 have hgT' : vR.ownBlock ≠ some T := by rw [hg]; intro e; injection e with e; omega
 have ge : ∀ k (hk : k < ((rs.set i rs[j]).set j rs[i]).length), ∃ k', ∃ hk' : k' < rs.length, ((rs.set i rs[j]).set j rs[i])[k] = rs[k'] ∧ swp A i j k = A k' ∧ (k' = if k = j then i else if k = i then j else k) := fun k hk => by
  have hk0 : k < rs.length := by simpa using hk
  unfold swp
  by_cases e1 : k = j
  ·subst e1
   exact ⟨i, hi, by rw [List.getElem_set_self], by rw [if_neg (fun e => hij e.symm), if_pos rfl], by rw [if_pos rfl]⟩
  ·by_cases e2 : k = i
   ·subst e2
    exact ⟨j, hj, by rw [List.getElem_set_ne (fun e => e1 e.symm), List.getElem_set_self], by rw [if_pos rfl], by rw [if_neg e1, if_pos rfl]⟩
   ·exact ⟨k, hk0, by rw [List.getElem_set_ne (fun e => e1 e.symm), List.getElem_set_ne (fun e => e2 e.symm)], by rw [if_neg e2, if_neg e1], by rw [if_neg e1, if_neg e2]⟩
 refine ⟨⟨⟨a, b, h1.grown gg hgT', h2.grown gg own.nl, h3.grown gg own.nl⟩, ?_, by simp [rl], mp, fun k hk => ?_, fun k l hk hl hkl => ?_⟩, zna gg (by omega) (fun k hk => by rw [hg] at hk; injection hk with hk; omega)⟩
 ·rw [List.length_set, List.length_set]; exact s2
 ·obtain ⟨k', hk', e1, e2, _⟩ := ge k hk
  obtain ⟨ys, y1, y2⟩ := id (row k' hk')
  rw [e1, e2]
  exact (row k' hk').grown gg own.nl (y1.kinds own (by decide))
 ·obtain ⟨k', hk', e1, _, f1⟩ := ge k hk
  obtain ⟨l', hl', e2, _, f2⟩ := ge l hl
  rw [e1, e2]
  refine ap k' l' hk' hl' ?_
  rw [f1, f2]
  split <;> split <;> (try split) <;> (try split) <;> omega
end
theorem kp3w {w0 X Y : World} {a1 a2 a3 : Addr} {x1 x2 x3 : Value} (h : X.cell? a1 = some x1 ∧ X.cell? a2 = some x2 ∧ X.cell? a3 = some x3 ∧ Below w0.heap.size w0 X) (hb : Below X.heap.size X Y) : Y.cell? a1 = some x1 ∧ Y.cell? a2 = some x2 ∧ Y.cell? a3 = some x3 ∧ Below w0.heap.size w0 Y := by
 obtain ⟨k1, k2, k3, k0⟩ := h
 exact ⟨zba hb k1, zba hb k2, zba hb k3, zaa k0 hb⟩
theorem kp3a {w0 X : World} {a1 a2 a3 : Addr} {x1 x2 x3 : Value} (h : w0.cell? a1 = some x1 ∧ w0.cell? a2 = some x2 ∧ w0.cell? a3 = some x3) (hb : Below w0.heap.size w0 X) : X.cell? a1 = some x1 ∧ X.cell? a2 = some x2 ∧ X.cell? a3 = some x3 ∧ Below w0.heap.size w0 X := by
 obtain ⟨k1, k2, k3⟩ := h
 exact ⟨zba hb k1, zba hb k2, zba hb k3, hb⟩
theorem kp3c {w0 X : World} {a1 a2 a3 : Addr} {x1 x2 x3 : Value} (h : X.cell? a1 = some x1 ∧ X.cell? a2 = some x2 ∧ X.cell? a3 = some x3 ∧ Below w0.heap.size w0 X) : Below w0.heap.size w0 X := by
 obtain ⟨k1, k2, k3, k0⟩ := h
 exact k0
theorem kp3s {w0 X : World} {a1 a2 a3 : Addr} {x1 x2 x3 : Value} (h : w0.cell? a1 = some x1 ∧ w0.cell? a2 = some x2 ∧ w0.cell? a3 = some x3) (hb : Below w0.heap.size w0 X) {b : Nat} (hB : w0.heap.size ≤ b) (x y z : Value) : (((X.setCell ⟨b, 0, none⟩ x).setCell ⟨b, 1, none⟩ y).setCell ⟨b, 2, none⟩ z).cell? a1 = some x1 ∧ (((X.setCell ⟨b, 0, none⟩ x).setCell ⟨b, 1, none⟩ y).setCell ⟨b, 2, none⟩ z).cell? a2 = some x2 ∧ (((X.setCell ⟨b, 0, none⟩ x).setCell ⟨b, 1, none⟩ y).setCell ⟨b, 2, none⟩ z).cell? a3 = some x3 ∧ Below w0.heap.size w0 (((X.setCell ⟨b, 0, none⟩ x).setCell ⟨b, 1, none⟩ y).setCell ⟨b, 2, none⟩ z) :=
 kp3a h (zga hb hB x y z)
theorem kp6w {w0 X Y : World} {a1 a2 a3 a4 a5 a6 : Addr} {x1 x2 x3 x4 x5 x6 : Value} (h : X.cell? a1 = some x1 ∧ X.cell? a2 = some x2 ∧ X.cell? a3 = some x3 ∧ X.cell? a4 = some x4 ∧ X.cell? a5 = some x5 ∧ X.cell? a6 = some x6 ∧ Below w0.heap.size w0 X) (hb : Below X.heap.size X Y) : Y.cell? a1 = some x1 ∧ Y.cell? a2 = some x2 ∧ Y.cell? a3 = some x3 ∧ Y.cell? a4 = some x4 ∧ Y.cell? a5 = some x5 ∧ Y.cell? a6 = some x6 ∧ Below w0.heap.size w0 Y := by
 obtain ⟨k1, k2, k3, k4, k5, k6, k0⟩ := h
 exact ⟨zba hb k1, zba hb k2, zba hb k3, zba hb k4, zba hb k5, zba hb k6, zaa k0 hb⟩
theorem kp6a {w0 X : World} {a1 a2 a3 a4 a5 a6 : Addr} {x1 x2 x3 x4 x5 x6 : Value} (h : w0.cell? a1 = some x1 ∧ w0.cell? a2 = some x2 ∧ w0.cell? a3 = some x3 ∧ w0.cell? a4 = some x4 ∧ w0.cell? a5 = some x5 ∧ w0.cell? a6 = some x6) (hb : Below w0.heap.size w0 X) : X.cell? a1 = some x1 ∧ X.cell? a2 = some x2 ∧ X.cell? a3 = some x3 ∧ X.cell? a4 = some x4 ∧ X.cell? a5 = some x5 ∧ X.cell? a6 = some x6 ∧ Below w0.heap.size w0 X := by
 obtain ⟨k1, k2, k3, k4, k5, k6⟩ := h
 exact ⟨zba hb k1, zba hb k2, zba hb k3, zba hb k4, zba hb k5, zba hb k6, hb⟩
theorem kp6c {w0 X : World} {a1 a2 a3 a4 a5 a6 : Addr} {x1 x2 x3 x4 x5 x6 : Value} (h : X.cell? a1 = some x1 ∧ X.cell? a2 = some x2 ∧ X.cell? a3 = some x3 ∧ X.cell? a4 = some x4 ∧ X.cell? a5 = some x5 ∧ X.cell? a6 = some x6 ∧ Below w0.heap.size w0 X) : Below w0.heap.size w0 X := by
 obtain ⟨k1, k2, k3, k4, k5, k6, k0⟩ := h
 exact k0
theorem kp6s {w0 X : World} {a1 a2 a3 a4 a5 a6 : Addr} {x1 x2 x3 x4 x5 x6 : Value} (h : w0.cell? a1 = some x1 ∧ w0.cell? a2 = some x2 ∧ w0.cell? a3 = some x3 ∧ w0.cell? a4 = some x4 ∧ w0.cell? a5 = some x5 ∧ w0.cell? a6 = some x6) (hb : Below w0.heap.size w0 X) {b : Nat} (hB : w0.heap.size ≤ b) (x y z : Value) : (((X.setCell ⟨b, 0, none⟩ x).setCell ⟨b, 1, none⟩ y).setCell ⟨b, 2, none⟩ z).cell? a1 = some x1 ∧ (((X.setCell ⟨b, 0, none⟩ x).setCell ⟨b, 1, none⟩ y).setCell ⟨b, 2, none⟩ z).cell? a2 = some x2 ∧ (((X.setCell ⟨b, 0, none⟩ x).setCell ⟨b, 1, none⟩ y).setCell ⟨b, 2, none⟩ z).cell? a3 = some x3 ∧ (((X.setCell ⟨b, 0, none⟩ x).setCell ⟨b, 1, none⟩ y).setCell ⟨b, 2, none⟩ z).cell? a4 = some x4 ∧ (((X.setCell ⟨b, 0, none⟩ x).setCell ⟨b, 1, none⟩ y).setCell ⟨b, 2, none⟩ z).cell? a5 = some x5 ∧ (((X.setCell ⟨b, 0, none⟩ x).setCell ⟨b, 1, none⟩ y).setCell ⟨b, 2, none⟩ z).cell? a6 = some x6 ∧ Below w0.heap.size w0 (((X.setCell ⟨b, 0, none⟩ x).setCell ⟨b, 1, none⟩ y).setCell ⟨b, 2, none⟩ z) :=
 kp6a h (zga hb hB x y z)
theorem kp8w {w0 X Y : World} {a1 a2 a3 a4 a5 a6 a7 a8 : Addr} {x1 x2 x3 x4 x5 x6 x7 x8 : Value} (h : X.cell? a1 = some x1 ∧ X.cell? a2 = some x2 ∧ X.cell? a3 = some x3 ∧ X.cell? a4 = some x4 ∧ X.cell? a5 = some x5 ∧ X.cell? a6 = some x6 ∧ X.cell? a7 = some x7 ∧ X.cell? a8 = some x8 ∧ Below w0.heap.size w0 X) (hb : Below X.heap.size X Y) : Y.cell? a1 = some x1 ∧ Y.cell? a2 = some x2 ∧ Y.cell? a3 = some x3 ∧ Y.cell? a4 = some x4 ∧ Y.cell? a5 = some x5 ∧ Y.cell? a6 = some x6 ∧ Y.cell? a7 = some x7 ∧ Y.cell? a8 = some x8 ∧ Below w0.heap.size w0 Y := by
 obtain ⟨k1, k2, k3, k4, k5, k6, k7, k8, k0⟩ := h
 exact ⟨zba hb k1, zba hb k2, zba hb k3, zba hb k4, zba hb k5, zba hb k6, zba hb k7, zba hb k8, zaa k0 hb⟩
theorem kp8a {w0 X : World} {a1 a2 a3 a4 a5 a6 a7 a8 : Addr} {x1 x2 x3 x4 x5 x6 x7 x8 : Value} (h : w0.cell? a1 = some x1 ∧ w0.cell? a2 = some x2 ∧ w0.cell? a3 = some x3 ∧ w0.cell? a4 = some x4 ∧ w0.cell? a5 = some x5 ∧ w0.cell? a6 = some x6 ∧ w0.cell? a7 = some x7 ∧ w0.cell? a8 = some x8) (hb : Below w0.heap.size w0 X) : X.cell? a1 = some x1 ∧ X.cell? a2 = some x2 ∧ X.cell? a3 = some x3 ∧ X.cell? a4 = some x4 ∧ X.cell? a5 = some x5 ∧ X.cell? a6 = some x6 ∧ X.cell? a7 = some x7 ∧ X.cell? a8 = some x8 ∧ Below w0.heap.size w0 X := by
 obtain ⟨k1, k2, k3, k4, k5, k6, k7, k8⟩ := h
 exact ⟨zba hb k1, zba hb k2, zba hb k3, zba hb k4, zba hb k5, zba hb k6, zba hb k7, zba hb k8, hb⟩
theorem kp8c {w0 X : World} {a1 a2 a3 a4 a5 a6 a7 a8 : Addr} {x1 x2 x3 x4 x5 x6 x7 x8 : Value} (h : X.cell? a1 = some x1 ∧ X.cell? a2 = some x2 ∧ X.cell? a3 = some x3 ∧ X.cell? a4 = some x4 ∧ X.cell? a5 = some x5 ∧ X.cell? a6 = some x6 ∧ X.cell? a7 = some x7 ∧ X.cell? a8 = some x8 ∧ Below w0.heap.size w0 X) : Below w0.heap.size w0 X := by
 obtain ⟨k1, k2, k3, k4, k5, k6, k7, k8, k0⟩ := h
 exact k0
theorem kp8s {w0 X : World} {a1 a2 a3 a4 a5 a6 a7 a8 : Addr} {x1 x2 x3 x4 x5 x6 x7 x8 : Value} (h : w0.cell? a1 = some x1 ∧ w0.cell? a2 = some x2 ∧ w0.cell? a3 = some x3 ∧ w0.cell? a4 = some x4 ∧ w0.cell? a5 = some x5 ∧ w0.cell? a6 = some x6 ∧ w0.cell? a7 = some x7 ∧ w0.cell? a8 = some x8) (hb : Below w0.heap.size w0 X) {b : Nat} (hB : w0.heap.size ≤ b) (x y z : Value) : (((X.setCell ⟨b, 0, none⟩ x).setCell ⟨b, 1, none⟩ y).setCell ⟨b, 2, none⟩ z).cell? a1 = some x1 ∧ (((X.setCell ⟨b, 0, none⟩ x).setCell ⟨b, 1, none⟩ y).setCell ⟨b, 2, none⟩ z).cell? a2 = some x2 ∧ (((X.setCell ⟨b, 0, none⟩ x).setCell ⟨b, 1, none⟩ y).setCell ⟨b, 2, none⟩ z).cell? a3 = some x3 ∧ (((X.setCell ⟨b, 0, none⟩ x).setCell ⟨b, 1, none⟩ y).setCell ⟨b, 2, none⟩ z).cell? a4 = some x4 ∧ (((X.setCell ⟨b, 0, none⟩ x).setCell ⟨b, 1, none⟩ y).setCell ⟨b, 2, none⟩ z).cell? a5 = some x5 ∧ (((X.setCell ⟨b, 0, none⟩ x).setCell ⟨b, 1, none⟩ y).setCell ⟨b, 2, none⟩ z).cell? a6 = some x6 ∧ (((X.setCell ⟨b, 0, none⟩ x).setCell ⟨b, 1, none⟩ y).setCell ⟨b, 2, none⟩ z).cell? a7 = some x7 ∧ (((X.setCell ⟨b, 0, none⟩ x).setCell ⟨b, 1, none⟩ y).setCell ⟨b, 2, none⟩ z).cell? a8 = some x8 ∧ Below w0.heap.size w0 (((X.setCell ⟨b, 0, none⟩ x).setCell ⟨b, 1, none⟩ y).setCell ⟨b, 2, none⟩ z) :=
 kp8a h (zga hb hB x y z)
end Go.Proofs.YtlpdkbmmbdfoiaaGreat
