/-
  Elimination of square matrices: the determinant, solutions, the inverse. No program is named here.
-/
import Derived.Test.YtlpdkbmmbdfoiaaKRat
set_option linter.unusedVariables false
set_option linter.unusedSimpArgs false
namespace Go.Proofs.Ytlpdkbmmbdfoiaa
def zsb (l : List Rat) : Rat := l.foldl (· + ·) 0
theorem ztj (l : List Rat) (x : Rat) : zsb (l ++ [x]) = zsb l + x := by unfold zsb; rw [List.foldl_append]; rfl
theorem lsum_take (l : List Rat) (k : Nat) (h : k < l.length) : zsb (l.take (k + 1)) = zsb (l.take k) + l[k] := by rw [zjb l k h, ztj]
def wt (q : Rat) : Nat := if q.num = 0 then 0 else zka q.num.natAbs + if q.den = 1 then 0 else zka q.den
def wts (l : List Rat) : Nat := (l.map wt).sum
theorem zhc (x : Rat) (l : List Rat) : wts (x :: l) = wt x + wts l := by simp [wts]
theorem zol (l : List Rat) (x : Rat) : wts (l ++ [x]) = wts l + wt x := by simp [wts]
theorem wts_take (l : List Rat) (k : Nat) (h : k < l.length) : wts (l.take (k + 1)) = wts (l.take k) + wt l[k] := by rw [zjb l k h, zol]
theorem wts_sub {l m : List Rat} (h : l.Sublist m) : wts l ≤ wts m := by
 induction h with
 | slnil => exact Nat.le_refl _
 | cons x _ ih => rw [zhc]; omega
 | cons_cons x _ ih => rw [zhc, zhc]; omega
def slim (q : Rat) (k : Nat) : Prop := ∃ N D : Nat, D ≠ 0 ∧ q = fq false N D ∧ N + D ≤ 2 ^ k
theorem slim_zero : slim 0 0 := ⟨0, 1, by decide, by decide, by decide⟩
theorem slim_add {p q : Rat} {j k : Nat} (hp : slim p j) (hq : slim q k) : slim (p + q) (j + k) := by
 obtain ⟨N, D, h1, rfl, h2⟩ := hp
 obtain ⟨n, d, h3, rfl, h4⟩ := hq
 refine ⟨N * d + n * D, D * d, Nat.mul_ne_zero h1 h3, zoe _ _ _ _ _ h1 h3, ?_⟩
 rw [Nat.pow_add]
 have h5 := Nat.mul_le_mul h2 h4
 rw [Nat.add_mul, Nat.mul_add, Nat.mul_add] at h5
 have e : n * D = D * n := Nat.mul_comm _ _
 have := Nat.zero_le (N * n)
 omega
theorem slim_wt (q : Rat) (h : 0 ≤ q) : slim q (wt q) := by
 refine ⟨q.num.natAbs, q.den, q.den_nz, ?_, ?_⟩
 ·have e := fq_self q
  rw [decide_eq_false (Rat.not_lt.2 h)] at e
  exact e.symm
 ·unfold wt
  have h0 : zka q.num.natAbs ≤ zka q.num.natAbs := Nat.le_refl _
  have h1 : zka q.den ≤ zka q.den := Nat.le_refl _
  rw [nbits_le] at h0 h1
  split
  ·next hz =>
   have e : q = 0 := Rat.num_eq_zero.1 hz
   subst e
   decide
  ·split
   ·next hz hd => simp only [hd, Nat.add_zero]; omega
   ·next hz hd =>
    have hn : q.num.natAbs ≠ 0 := by omega
    have hd0 := q.den_nz
    have h2 : 1 < zka q.den := zyc.2 (by omega)
    have h3 : 0 < zka q.num.natAbs := zkb.2 hn
    rw [Nat.pow_add]
    have e1 : 2 ^ 1 ≤ 2 ^ zka q.num.natAbs := Nat.pow_le_pow_right (by decide) h3
    have e2 : 2 ^ 1 ≤ 2 ^ zka q.den := Nat.pow_le_pow_right (by decide) (by omega)
    generalize 2 ^ zka q.num.natAbs = A at *
    generalize 2 ^ zka q.den = B at *
    obtain ⟨a, rfl⟩ : ∃ a, A = a + 2 := ⟨A - 2, by omega⟩
    obtain ⟨b, rfl⟩ : ∃ b, B = b + 2 := ⟨B - 2, by omega⟩
    have e3 : (a + 2) * (b + 2) = a * b + 2 * a + 2 * b + 4 := by grind
    rw [e3]
    have := Nat.zero_le (a * b)
    omega
theorem slim_lsum (l : List Rat) (h : ∀ q ∈ l, 0 ≤ q) : slim (zsb l) (wts l) := by
 have key : ∀ (m : List Rat) (s : Rat) (k : Nat), slim s k → (∀ q ∈ m, 0 ≤ q) → slim (m.foldl (· + ·) s) (k + wts m) := by
  intro m
  induction m with
  | nil => intro s k hs _; exact hs
  | cons x m ih =>
    intro s k hs hm
    rw [List.foldl_cons, zhc, ← Nat.add_assoc]
    exact ih _ _ (slim_add hs (slim_wt x (hm x (by simp)))) (fun q hq => hm q (by simp [hq]))
 have := key l 0 0 slim_zero h
 rwa [Nat.zero_add] at this
theorem zrd {n k : Nat} (h : n < 2 ^ k) : zka n ≤ k := nbits_le.2 h
theorem slim_fits {q : Rat} {k : Nat} (h : slim q k) (hk : k ≤ 4095) : fits q := by
 obtain ⟨N, D, h1, rfl, h3⟩ := h
 have h5 : 2 ^ k < 2 ^ (k + 1) := Nat.pow_lt_pow_right (by decide) (Nat.lt_succ_self k)
 have h6 : k + 1 ≤ 4096 := by omega
 refine ⟨?_, ?_⟩
 ·rw [zad _ _ _ h1]
  exact Nat.le_trans (zrd (Nat.lt_of_le_of_lt (Nat.div_le_self _ _) (Nat.lt_of_le_of_lt (Nat.le_trans (Nat.le_add_right N D) h3) h5))) h6
 ·rw [zzj _ _ _ h1]
  exact Nat.le_trans (zrd (Nat.lt_of_le_of_lt (Nat.div_le_self _ _) (Nat.lt_of_le_of_lt (Nat.le_trans (Nat.le_add_left D N) h3) h5))) h6
theorem lsum_fits {l m : List Rat} (hs : l.Sublist m) (h : ∀ q ∈ m, 0 ≤ q) (hw : wts m ≤ 3800) : fits (zsb l) :=
 slim_fits (slim_lsum l (fun q hq => h q (hs.subset hq))) (by have := wts_sub hs; omega)
def cnt (l : List Int) : Nat := l.foldl (fun n b => if b = (n : Int) then n + 1 else n) 0
theorem cnt_snoc (l : List Int) (b : Int) : cnt (l ++ [b]) = if b = (cnt l : Int) then cnt l + 1 else cnt l := by unfold cnt; rw [List.foldl_append]; rfl
theorem cnt_take (l : List Int) (k : Nat) (h : k < l.length) : cnt (l.take (k + 1)) = if l[k] = (cnt (l.take k) : Int) then cnt (l.take k) + 1 else cnt (l.take k) := by rw [zjb l k h, cnt_snoc]
theorem cnt_take_le (l : List Int) (k : Nat) : cnt (l.take k) ≤ cnt (l.take (k + 1)) := by
 by_cases h : k < l.length
 ·rw [cnt_take l k h]; split <;> omega
 ·rw [List.take_of_length_le (by omega), List.take_of_length_le (by omega)]; exact Nat.le_refl _
theorem cnt_take_mono (l : List Int) {j k : Nat} (h : j ≤ k) : cnt (l.take j) ≤ cnt (l.take k) := by
 induction k with
 | zero => obtain rfl : j = 0 := by omega
           exact Nat.le_refl _
 | succ k ih =>
   rcases Nat.lt_or_ge j (k + 1) with h1 | h1
   ·exact Nat.le_trans (ih (by omega)) (cnt_take_le l k)
   ·obtain rfl : j = k + 1 := by omega
    exact Nat.le_refl _
def sg : Nat → (Nat → Rat) → Rat
 | 0, _ => 0
 | n + 1, f => sg n f + f n
theorem zea {n : Nat} {f g : Nat → Rat} (h : ∀ i, i < n → f i = g i) : sg n f = sg n g := by
 induction n with
 | zero => rfl
 | succ n ih => rw [sg, sg, ih (fun i hi => h i (by omega)), h n (by omega)]
theorem zyi (n : Nat) : sg n (fun _ => 0) = 0 := by
 induction n with
 | zero => rfl
 | succ n ih => rw [sg, ih]; grind
theorem zre (n : Nat) (f g : Nat → Rat) : sg n (fun i => f i + g i) = sg n f + sg n g := by
 induction n with
 | zero => simp [sg]; grind
 | succ n ih => simp only [sg, ih]; grind
theorem zqa (n : Nat) (c : Rat) (f : Nat → Rat) : sg n (fun i => c * f i) = c * sg n f := by
 induction n with
 | zero => simp [sg]
 | succ n ih => simp only [sg, ih]; grind
theorem zdc (n : Nat) (c : Rat) (f : Nat → Rat) : sg n (fun i => f i * c) = sg n f * c := by
 induction n with
 | zero => simp [sg]
 | succ n ih => simp only [sg, ih]; grind
theorem sg_comm (n m : Nat) (f : Nat → Nat → Rat) : sg n (fun i => sg m (fun j => f i j)) = sg m (fun j => sg n (fun i => f i j)) := by
 induction n with
 | zero => simp only [sg]; rw [zyi]
 | succ n ih => simp only [sg]; rw [ih, ← zre]
theorem zqc {m k : Nat} (h : k < m) (f : Nat → Rat) : sg m (fun a => if k = a then f a else 0) = f k := by
 induction m with
 | zero => omega
 | succ m ih =>
   rw [sg]
   by_cases hk : k = m
   ·subst hk
    rw [zea (g := fun _ => 0) (fun i hi => if_neg (by omega)), zyi, if_pos rfl]
    grind
   ·rw [ih (by omega), if_neg hk]
    grind
def stepM (n : Nat) (R : Nat → Nat → Rat) (ρ : Rat) (i j : Nat) : Rat := if i = j then 1 - sg n (R i) * ρ else R i j * ρ
def zwi (q : Rat) (k : Nat) : Prop := ∃ (z : Int) (D : Nat), D ≠ 0 ∧ q = mkRat z D ∧ z.natAbs + D ≤ 2 ^ k
theorem slimS_zero : zwi 0 0 := ⟨0, 1, by decide, by decide +kernel, by decide⟩
theorem slimS_add {p q : Rat} {j k : Nat} (hp : zwi p j) (hq : zwi q k) : zwi (p + q) (j + k) := by
 obtain ⟨z, D, h1, rfl, h2⟩ := hp
 obtain ⟨n, d, h3, rfl, h4⟩ := hq
 refine ⟨z * d + n * D, D * d, Nat.mul_ne_zero h1 h3, Rat.mkRat_add_mkRat _ _ h1 h3, ?_⟩
 rw [Nat.pow_add]
 have h5 := Nat.mul_le_mul h2 h4
 have h6 := Int.natAbs_add_le (z * d) (n * D)
 rw [Int.natAbs_mul, Int.natAbs_mul, Int.natAbs_natCast, Int.natAbs_natCast] at h6
 rw [Nat.add_mul, Nat.mul_add, Nat.mul_add] at h5
 have e : n.natAbs * D = D * n.natAbs := Nat.mul_comm _ _
 have := Nat.zero_le (z.natAbs * n.natAbs)
 omega
theorem slimS_mul {p q : Rat} {j k : Nat} (hp : zwi p j) (hq : zwi q k) : zwi (p * q) (j + k) := by
 obtain ⟨z, D, h1, rfl, h2⟩ := hp
 obtain ⟨n, d, h3, rfl, h4⟩ := hq
 refine ⟨z * n, D * d, Nat.mul_ne_zero h1 h3, Rat.mkRat_mul_mkRat _ _ _ _, ?_⟩
 rw [Nat.pow_add]
 have h5 := Nat.mul_le_mul h2 h4
 rw [Int.natAbs_mul]
 rw [Nat.add_mul, Nat.mul_add, Nat.mul_add] at h5
 have := Nat.zero_le (z.natAbs * d)
 have := Nat.zero_le (D * n.natAbs)
 omega
theorem zhi (q : Rat) : zwi q (wt q) := by
 refine ⟨q.num, q.den, q.den_nz, (Rat.mkRat_self q).symm, ?_⟩
 unfold wt
 have h0 : zka q.num.natAbs ≤ zka q.num.natAbs := Nat.le_refl _
 have h1 : zka q.den ≤ zka q.den := Nat.le_refl _
 rw [nbits_le] at h0 h1
 split
 ·next hz =>
  have e : q = 0 := Rat.num_eq_zero.1 hz
  subst e
  decide
 ·split
  ·next hz hd => simp only [hd, Nat.add_zero]; omega
  ·next hz hd =>
   have hn : q.num.natAbs ≠ 0 := by omega
   have hd0 := q.den_nz
   have h2 : 1 < zka q.den := zyc.2 (by omega)
   have h3 : 0 < zka q.num.natAbs := zkb.2 hn
   rw [Nat.pow_add]
   have e1 : 2 ^ 1 ≤ 2 ^ zka q.num.natAbs := Nat.pow_le_pow_right (by decide) h3
   have e2 : 2 ^ 1 ≤ 2 ^ zka q.den := Nat.pow_le_pow_right (by decide) (by omega)
   generalize 2 ^ zka q.num.natAbs = A at *
   generalize 2 ^ zka q.den = B at *
   obtain ⟨a, rfl⟩ : ∃ a, A = a + 2 := ⟨A - 2, by omega⟩
   obtain ⟨b, rfl⟩ : ∃ b, B = b + 2 := ⟨B - 2, by omega⟩
   have e3 : (a + 2) * (b + 2) = a * b + 2 * a + 2 * b + 4 := by grind
   rw [e3]
   have := Nat.zero_le (a * b)
   omega
theorem zvk {q : Rat} {k : Nat} (h : zwi q k) (hk : k ≤ 4095) : fits q := by
 obtain ⟨z, D, h1, rfl, h3⟩ := h
 have e : mkRat z D = fq (decide (z < 0)) z.natAbs D := by
  unfold fq sgn
  by_cases hz : z < 0
  ·rw [decide_eq_true hz, if_pos rfl]; congr 1; omega
  ·rw [decide_eq_false hz, if_neg (by decide)]; congr 1; omega
 rw [e]
 have h5 : 2 ^ k < 2 ^ (k + 1) := Nat.pow_lt_pow_right (by decide) (Nat.lt_succ_self k)
 have h6 : k + 1 ≤ 4096 := by omega
 refine ⟨?_, ?_⟩
 ·rw [zad _ _ _ h1]
  exact Nat.le_trans (zrd (Nat.lt_of_le_of_lt (Nat.div_le_self _ _) (Nat.lt_of_le_of_lt (Nat.le_trans (Nat.le_add_right z.natAbs D) h3) h5))) h6
 ·rw [zzj _ _ _ h1]
  exact Nat.le_trans (zrd (Nat.lt_of_le_of_lt (Nat.div_le_self _ _) (Nat.lt_of_le_of_lt (Nat.le_trans (Nat.le_add_left D z.natAbs) h3) h5))) h6
def sgN : Nat → (Nat → Nat) → Nat
 | 0, _ => 0
 | n + 1, f => sgN n f + f n
theorem sgN_le {k n : Nat} (f : Nat → Nat) (h : k ≤ n) : sgN k f ≤ sgN n f := by
 induction n with
 | zero => obtain rfl : k = 0 := by omega
           exact Nat.le_refl _
 | succ n ih =>
   by_cases hk : k = n + 1
   ·subst hk; exact Nat.le_refl _
   ·have := ih (by omega); rw [sgN]; omega
theorem slimS_sg {n : Nat} {f : Nat → Rat} {w : Nat → Nat} (h : ∀ i, i < n → zwi (f i) (w i)) : zwi (sg n f) (sgN n w) := by
 induction n with
 | zero => exact slimS_zero
 | succ n ih => exact slimS_add (ih fun i hi => h i (by omega)) (h n (by omega))
theorem sg_mul_fits {n : Nat} {x y : Nat → Rat} (hw : sgN n (fun i => wt (x i) + wt (y i)) ≤ 3800) (k : Nat) (hk : k ≤ n) : fits (sg k fun i => x i * y i) :=
 zvk (slimS_sg (w := fun i => wt (x i) + wt (y i)) fun i _ => slimS_mul (zhi _) (zhi _)) (by have := sgN_le (fun i => wt (x i) + wt (y i)) hk; omega)
theorem mul_fits26 {x y : Rat} (hw : wt x + wt y ≤ 3800) : fits (x * y) := zvk (slimS_mul (zhi _) (zhi _)) (by omega)
def over (D B : Nat) (q : Rat) : Prop := ∃ z : Int, q = mkRat z D ∧ z.natAbs ≤ B
theorem over.zero (D B : Nat) : over D B 0 := ⟨0, by simp, by simp⟩
theorem over.mono {D A B : Nat} {q : Rat} (h : over D A q) (hB : A ≤ B) : over D B q := by
 obtain ⟨z, h1, h2⟩ := h
 exact ⟨z, h1, by omega⟩
theorem over.add {D A B : Nat} {p q : Rat} (hD : D ≠ 0) (hp : over D A p) (hq : over D B q) : over D (A + B) (p + q) := by
 obtain ⟨y, rfl, h1⟩ := hp
 obtain ⟨z, rfl, h2⟩ := hq
 refine ⟨y + z, ?_, ?_⟩
 ·rw [Rat.mkRat_add_mkRat _ _ hD hD, ← Int.add_mul]
  exact Rat.mkRat_mul_right hD
 ·have := Int.natAbs_add_le y z
  omega
theorem over.neg {D A : Nat} {p : Rat} (hp : over D A p) : over D A (-p) := by
 obtain ⟨y, rfl, h1⟩ := hp
 exact ⟨-y, by rw [Rat.neg_mkRat], by omega⟩
theorem over.mul {D E A B : Nat} {p q : Rat} (hp : over D A p) (hq : over E B q) : over (D * E) (A * B) (p * q) := by
 obtain ⟨y, rfl, h1⟩ := hp
 obtain ⟨z, rfl, h2⟩ := hq
 exact ⟨y * z, Rat.mkRat_mul_mkRat _ _ _ _, by rw [Int.natAbs_mul]; exact Nat.mul_le_mul h1 h2⟩
theorem over.scale {D A m : Nat} {p : Rat} (hm : m ≠ 0) (hp : over D A p) : over (D * m) (A * m) p := by
 obtain ⟨y, rfl, h1⟩ := hp
 exact ⟨y * m, (Rat.mkRat_mul_right hm).symm, by rw [Int.natAbs_mul, Int.natAbs_natCast]; exact Nat.mul_le_mul_right _ h1⟩
theorem over.sg {D B n : Nat} {f : Nat → Rat} (hD : D ≠ 0) (h : ∀ i, i < n → over D B (f i)) : over D (n * B) (sg n f) := by
 induction n with
 | zero => exact over.zero _ _
 | succ n ih => rw [Nat.succ_mul]; exact over.add hD (ih fun i hi => h i (by omega)) (h n (by omega))
theorem over.fq {D B : Nat} {q : Rat} (h : over D B q) : ∃ (s : Bool) (n : Nat), q = fq s n D ∧ n ≤ B := by
 obtain ⟨z, rfl, h2⟩ := h
 refine ⟨decide (z < 0), z.natAbs, ?_, h2⟩
 unfold Go.Proofs.Ytlpdkbmmbdfoiaa.fq sgn
 by_cases hz : z < 0
 ·rw [decide_eq_true hz, if_pos rfl]; congr 1; omega
 ·rw [decide_eq_false hz, if_neg (by decide)]; congr 1; omega
theorem over.wt {D B a b : Nat} {q : Rat} (hD : D ≠ 0) (h : over D B q) (ha : B < 2 ^ a) (hb : D < 2 ^ b) : wt q ≤ a + b := by
 obtain ⟨s, n, rfl, h1⟩ := h.fq
 have h2 : zka (Go.Proofs.Ytlpdkbmmbdfoiaa.fq s n D).num.natAbs ≤ a := by
  rw [zad _ _ _ hD]
  exact zrd (Nat.lt_of_le_of_lt (Nat.div_le_self _ _) (Nat.lt_of_le_of_lt h1 ha))
 have h3 : zka (Go.Proofs.Ytlpdkbmmbdfoiaa.fq s n D).den ≤ b := by
  rw [zzj _ _ _ hD]
  exact zrd (Nat.lt_of_le_of_lt (Nat.div_le_self _ _) hb)
 unfold Go.Proofs.Ytlpdkbmmbdfoiaa.wt
 split
 ·omega
 ·split <;> omega
theorem over.fits {D B : Nat} {q : Rat} (hD : D ≠ 0) (h : over D B q) (ha : B < 2 ^ 4096) (hb : D < 2 ^ 4096) : fits q := by
 obtain ⟨s, n, rfl, h1⟩ := h.fq
 refine ⟨?_, ?_⟩
 ·rw [zad _ _ _ hD]
  exact zrd (Nat.lt_of_le_of_lt (Nat.div_le_self _ _) (Nat.lt_of_le_of_lt h1 ha))
 ·rw [zzj _ _ _ hD]
  exact zrd (Nat.lt_of_le_of_lt (Nat.div_le_self _ _) hb)
theorem inv_mk {p d : Nat} (hp : p ≠ 0) (hd : d ≠ 0) : (mkRat (p : Int) d)⁻¹ = mkRat (d : Int) p := by
 rw [← Rat.divInt_ofNat, ← Rat.divInt_ofNat, Rat.inv_divInt]
theorem over.one {D : Nat} (hD : D ≠ 0) : over D D 1 := ⟨D, by
 have := Rat.mkRat_self 1
 have h := Rat.mkRat_mul_right (n := 1) (d := 1) hD
 rw [Int.one_mul, Nat.one_mul] at h
 rw [h]; exact this.symm, by simp⟩
theorem lsum_sg (l : List Rat) : zsb l = sg l.length (fun j => l.getD j 0) := by
 have key : ∀ k, k ≤ l.length → zsb (l.take k) = sg k (fun j => l.getD j 0) := by
  intro k
  induction k with
  | zero => intro _; simp [sg, zsb]
  | succ k ih =>
    intro h
    rw [lsum_take l k (by omega), sg, ih (by omega)]
    simp [List.getD, List.getElem?_eq_getElem (show k < l.length by omega)]
 have := key l.length (Nat.le_refl _)
 rwa [List.take_length] at this
def fp (z : Nat → Bool) : Nat → Nat → Nat
 | 0, r => r
 | f + 1, r => if z r = true then r else fp z f (r + 1)
theorem fp_ge (z : Nat → Bool) (f r : Nat) : r ≤ fp z f r ∧ fp z f r ≤ r + f := by
 induction f generalizing r with
 | zero => exact ⟨Nat.le_refl _, Nat.le_refl _⟩
 | succ f ih => rw [fp]; have := ih (r + 1); split <;> omega
theorem fp_before (z : Nat → Bool) (f r : Nat) : ∀ i, r ≤ i → i < fp z f r → z i = false := by
 induction f generalizing r with
 | zero => intro i h1 h2; rw [fp] at h2; omega
 | succ f ih =>
   intro i h1 h2
   rw [fp] at h2
   split at h2
   ·omega
   ·next h =>
    rcases Nat.eq_or_lt_of_le h1 with h3 | h3
    ·subst h3; simpa using h
    ·exact ih (r + 1) i h3 h2
theorem fp_at (z : Nat → Bool) (f r : Nat) (h : fp z f r < r + f) : z (fp z f r) = true := by
 induction f generalizing r with
 | zero => rw [fp] at h; omega
 | succ f ih =>
   rw [fp] at h ⊢
   split
   ·next h1 => exact h1
   ·next h1 => rw [if_neg h1] at h; exact ih (r + 1) (by omega)
theorem fp_eq {z : Nat → Bool} {f r k : Nat} (h1 : r ≤ k) (h2 : k ≤ r + f) (h3 : ∀ i, r ≤ i → i < k → z i = false) (h4 : k < r + f → z k = true) : fp z f r = k := by
 have g1 := fp_ge z f r
 rcases Nat.lt_trichotomy (fp z f r) k with h | h | h
 ·have := fp_at z f r (by omega)
  rw [h3 _ g1.1 h] at this; cases this
 ·exact h
 ·have := fp_before z f r k h1 h
  rw [h4 (by omega)] at this; cases this
abbrev Mx := Nat → Nat → Rat
def swp (A : Mx) (a b : Nat) : Mx := fun i => if i = a then A b else if i = b then A a else A i
structure St where
 A : Mx
 r : Nat
 d : Rat
def act (below : Bool) (A : Mx) (r k i : Nat) : Prop := i ≠ r ∧ ¬ (below = true ∧ i < r) ∧ A i k ≠ 0
instance (below : Bool) (A : Mx) (r k i : Nat) : Decidable (act below A r k i) := inferInstanceAs (Decidable (_ ∧ _ ∧ _))
def zyh (below : Bool) (A : Mx) (r k : Nat) : Mx := fun i j => if act below A r k i ∧ k ≤ j then A i j - A i k / A r k * A r j else A i j
def pvt (n k : Nat) (S : St) : Nat := fp (fun i => decide (S.A i k ≠ 0)) (n - S.r) S.r
def zse (below : Bool) (n k : Nat) (S : St) : St :=
 if pvt n k S < n then ⟨zyh below (swp S.A S.r (pvt n k S)) S.r k, S.r + 1, (if pvt n k S = S.r then S.d else -S.d) * swp S.A S.r (pvt n k S) S.r k⟩ else S
def elim (below : Bool) (n : Nat) (A : Mx) : Nat → St
 | 0 => ⟨A, 0, 1⟩
 | k + 1 => zse below n k (elim below n A k)
theorem zsd (below : Bool) (n : Nat) (A : Mx) (k : Nat) : (elim below n A k).r ≤ n ∧ (elim below n A k).r ≤ k := by
 induction k with
 | zero => exact ⟨Nat.zero_le _, Nat.le_refl _⟩
 | succ k ih =>
   rw [elim, zse]
   have := fp_ge (fun i => decide ((elim below n A k).A i k ≠ 0)) (n - (elim below n A k).r) (elim below n A k).r
   split
   ·next h => unfold pvt at h; show (elim below n A k).r + 1 ≤ n ∧ (elim below n A k).r + 1 ≤ k + 1; omega
   ·omega
theorem estep_stop {below : Bool} {n k : Nat} {S : St} (h : n ≤ S.r) : zse below n k S = S := by
 have := fp_ge (fun i => decide (S.A i k ≠ 0)) (n - S.r) S.r
 rw [zse, if_neg (by unfold pvt; omega)]
theorem elim_stop {below : Bool} {n : Nat} {A : Mx} {k : Nat} (h : (elim below n A k).r = n) : ∀ j, k ≤ j → elim below n A j = elim below n A k
 | 0, hj => by obtain rfl : k = 0 := by omega
               rfl
 | j + 1, hj => by
   rcases Nat.eq_or_lt_of_le hj with h1 | h1
   ·rw [h1]
   ·have ih := elim_stop h j (by omega)
    rw [elim, ih, estep_stop (by omega)]
def fitE (below : Bool) (n m k : Nat) (S : St) : Prop :=
 pvt n k S < n → fits (-S.d) ∧ fits ((if pvt n k S = S.r then S.d else -S.d) * swp S.A S.r (pvt n k S) S.r k) ∧
  ∀ i, i < n → act below (swp S.A S.r (pvt n k S)) S.r k i → fits (swp S.A S.r (pvt n k S) i k / swp S.A S.r (pvt n k S) S.r k) ∧
   ∀ j, j < m → k ≤ j → fits (swp S.A S.r (pvt n k S) i k / swp S.A S.r (pvt n k S) S.r k * swp S.A S.r (pvt n k S) S.r j) ∧
    fits (swp S.A S.r (pvt n k S) i j - swp S.A S.r (pvt n k S) i k / swp S.A S.r (pvt n k S) S.r k * swp S.A S.r (pvt n k S) S.r j)
theorem over.zero' {D B : Nat} {z : Int} (hD : D ≠ 0) (h : mkRat z D ≠ 0) : z ≠ 0 := fun e => h (by rw [e]; simp)
theorem div_mk {y z : Int} {D : Nat} (hD : D ≠ 0) (hz : z ≠ 0) : mkRat y D / mkRat z D = mkRat (y * z.sign) z.natAbs := by
 have hn : z.natAbs ≠ 0 := by omega
 have hq : mkRat z D ≠ 0 := fun e => hz ((Rat.mkRat_eq_zero hD).1 e)
 have e : mkRat y D = mkRat (y * z.sign) z.natAbs * mkRat z D := by
  rw [Rat.mkRat_mul_mkRat, Int.mul_assoc, Int.sign_mul_self, Int.mul_comm y]
  exact (Rat.mkRat_mul_left hn).symm
 rw [e, Rat.mul_div_cancel hq]
theorem over.quo {D B : Nat} {p : Rat} {z : Int} (hD : D ≠ 0) (hp : over D B p) (hz : z ≠ 0) : over z.natAbs B (p / mkRat z D) := by
 obtain ⟨y, rfl, h1⟩ := hp
 refine ⟨y * z.sign, div_mk hD hz, ?_⟩
 rw [Int.natAbs_mul, Int.natAbs_sign_of_ne_zero hz, Nat.mul_one]
 exact h1
theorem over.sub {D A B : Nat} {p q : Rat} (hD : D ≠ 0) (hp : over D A p) (hq : over D B q) : over D (A + B) (p - q) := by
 rw [Rat.sub_eq_add_neg]; exact over.add hD hp (over.neg hq)
def overT (n m D B : Nat) (A : Mx) : Prop := ∀ i j, i < n → j < m → over D B (A i j)
def grow : Nat → Nat × Nat × Nat × Nat → Nat × Nat × Nat × Nat
 | 0, x => x
 | k + 1, x => let (b, d, e, f) := grow k x; (2 * (b * b), d * b, e * b, f * d)
def slim4 (x : Nat × Nat × Nat × Nat) : Prop := x.1 < 2 ^ 4096 ∧ x.2.1 < 2 ^ 4096 ∧ x.2.2.1 < 2 ^ 4096 ∧ x.2.2.2 < 2 ^ 4096
instance (x : Nat × Nat × Nat × Nat) : Decidable (slim4 x) := inferInstanceAs (Decidable (_ ∧ _ ∧ _ ∧ _))
theorem zti {A : Mx} {a b : Nat} : swp A a b a = A b := by unfold swp; rw [if_pos rfl]
theorem pvt_ne {n k : Nat} {S : St} (hn : S.r ≤ n) (h : pvt n k S < n) : S.A (pvt n k S) k ≠ 0 := by
 have := fp_at (fun i => decide (S.A i k ≠ 0)) (n - S.r) S.r (by unfold pvt at h; omega)
 unfold pvt
 simpa using this
theorem zkj (n k : Nat) (S : St) : S.r ≤ pvt n k S := (fp_ge _ _ _).1
def alt (i : Nat) : Rat := if i % 2 = 0 then 1 else -1
theorem alt_succ (i : Nat) : alt (i + 1) = -alt i := by
 unfold alt
 by_cases h : i % 2 = 0
 ·rw [if_pos h, if_neg (by omega)]
 ·rw [if_neg h, if_pos (by omega)]; decide +kernel
def mnr (A : Mx) (i : Nat) : Mx := fun a b => A (if a < i then a else a + 1) (b + 1)
def dt : Nat → Mx → Rat
 | 0, _ => 1
 | n + 1, A => sg (n + 1) fun i => alt i * A i 0 * dt n (mnr A i)
theorem zoc {n : Nat} {A B : Mx} (h : ∀ a b, a < n → b < n → A a b = B a b) : dt n A = dt n B := by
 induction n generalizing A B with
 | zero => rfl
 | succ n ih =>
   refine zea fun i hi => ?_
   rw [h i 0 hi (by omega), ih (A := mnr A i) (B := mnr B i) (fun a b ha hb => by unfold mnr; exact h _ _ (by split <;> omega) (by omega))]
def zpb (A : Mx) (r : Nat) (x : Nat → Rat) : Mx := fun a => if a = r then x else A a
theorem zxe (A : Mx) (r : Nat) : zpb A r (A r) = A := by
 funext a; unfold zpb; split
 ·next h => rw [h]
 ·rfl
theorem zcc (A : Mx) (r : Nat) (x : Nat → Rat) : zpb A r x r = x := by unfold zpb; rw [if_pos rfl]
theorem zxb {A : Mx} {r a : Nat} {x : Nat → Rat} (h : a ≠ r) : zpb A r x a = A a := by unfold zpb; rw [if_neg h]
theorem zcj {A : Mx} {r s : Nat} {x y : Nat → Rat} (h : r ≠ s) : zpb (zpb A r x) s y = zpb (zpb A s y) r x := by
 funext a; unfold zpb
 by_cases h1 : a = s
 ·subst h1; rw [if_pos rfl, if_neg (fun e => h e.symm), if_pos rfl]
 ·rw [if_neg h1]; split
  ·rfl
  ·rfl
theorem zme (A : Mx) (r : Nat) (x : Nat → Rat) : mnr (zpb A r x) r = mnr A r := by
 funext a b; unfold mnr zpb
 rw [if_neg (by split <;> omega)]
theorem zcm {A : Mx} {r i : Nat} {x : Nat → Rat} (h : i ≠ r) : mnr (zpb A r x) i = zpb (mnr A i) (if r < i then r else r - 1) (fun b => x (b + 1)) := by
 funext a b; unfold mnr zpb
 by_cases h1 : a = if r < i then r else r - 1
 ·rw [if_pos h1, if_pos (by split at h1 <;> split <;> omega)]
 ·rw [if_neg h1, if_neg (by split at h1 <;> split <;> omega)]
theorem zjl {n : Nat} (A : Mx) {r : Nat} (hr : r < n) (x y : Nat → Rat) (c : Rat) : dt n (zpb A r fun b => x b + c * y b) = dt n (zpb A r x) + c * dt n (zpb A r y) := by
 induction n generalizing A r x y with
 | zero => omega
 | succ n ih =>
   rw [dt, dt, dt, ← zqa, ← zre]
   refine zea fun i hi => ?_
   by_cases h : i = r
   ·subst h
    rw [zcc, zcc, zcc, zme, zme, zme]
    grind
   ·rw [zxb h, zxb h, zxb h, zcm h, zcm h, zcm h]
    have h1 : (if r < i then r else r - 1) < n := by split <;> omega
    have := ih (mnr A i) h1 (fun b => x (b + 1)) (fun b => y (b + 1))
    rw [this]
    grind
theorem sg_pair {n r : Nat} {f : Nat → Rat} (hr : r + 1 < n) (h : ∀ i, i < n → i ≠ r → i ≠ r + 1 → f i = 0) : sg n f = f r + f (r + 1) := by
 have e : sg n f = sg n (fun i => (if r = i then f i else 0) + (if r + 1 = i then f i else 0)) := zea fun i hi => by
  by_cases h1 : r = i
  ·subst h1; rw [if_pos rfl, if_neg (by omega)]; grind
  ·by_cases h2 : r + 1 = i
   ·subst h2; rw [if_neg h1, if_pos rfl]; grind
   ·rw [if_neg h1, if_neg h2, h i hi (fun e => h1 e.symm) (fun e => h2 e.symm)]; grind
 rw [e, zre, zqc (by omega), zqc hr]
theorem dt_adj {n : Nat} {A : Mx} {r : Nat} (hr : r + 1 < n) (h : A r = A (r + 1)) : dt n A = 0 := by
 induction n generalizing A r with
 | zero => omega
 | succ n ih =>
   rw [dt, sg_pair hr]
   ·have hm : mnr A r = mnr A (r + 1) := by
     funext a b; unfold mnr
     by_cases h1 : a < r
     ·rw [if_pos h1, if_pos (by omega)]
     ·by_cases h2 : a = r
      ·subst h2; rw [if_neg h1, if_pos (by omega), h]
      ·rw [if_neg h1, if_neg (by omega)]
    rw [alt_succ, ← h, ← hm]
    grind
   ·intro i hi h1 h2
    have hz : dt n (mnr A i) = 0 := by
     by_cases h3 : i < r
     ·refine ih (r := r - 1) (by omega) ?_
      funext b; unfold mnr
      rw [if_neg (by omega), if_neg (by omega), show r - 1 + 1 = r by omega, h]
     ·refine ih (r := r) (by omega) ?_
      funext b; unfold mnr
      rw [if_pos (by omega), if_pos (by omega), h]
    rw [hz, Rat.mul_zero]
theorem dt_zero {n : Nat} {A : Mx} {r : Nat} (hr : r < n) : dt n (zpb A r fun _ => 0) = 0 := by
 have h := zjl A hr (fun _ => 0) (fun _ => 0) 1
 have e : (fun b : Nat => (0 : Rat) + 1 * 0) = fun _ => 0 := by funext b; grind
 rw [e] at h
 grind
theorem dt_scale {n : Nat} (A : Mx) {r : Nat} (hr : r < n) (x : Nat → Rat) (c : Rat) : dt n (zpb A r fun b => c * x b) = c * dt n (zpb A r x) := by
 have h := zjl A hr (fun _ => 0) x c
 have e : (fun b : Nat => (0 : Rat) + c * x b) = fun b => c * x b := by funext b; grind
 rw [e, dt_zero hr] at h
 grind
theorem dt_exch {n a b : Nat} (ha : a < n) (hb : b < n) (hab : a ≠ b) (h0 : ∀ (A : Mx), A a = A b → dt n A = 0) (A : Mx) : dt n (swp A a b) = -dt n A := by
 have D : ∀ x y, ∃ z, dt n (zpb (zpb A a x) b y) = z := fun x y => ⟨_, rfl⟩
 have e1 : swp A a b = zpb (zpb A a (A b)) b (A a) := by
  funext i; unfold swp zpb
  by_cases h1 : i = a
  ·subst h1; rw [if_pos rfl, if_neg hab, if_pos rfl]
  ·rw [if_neg h1]; split
   ·rfl
   ·rfl
 have e2 : A = zpb (zpb A a (A a)) b (A b) := by rw [zxe, zxe]
 have key : ∀ x, dt n (zpb (zpb A a x) b x) = 0 := fun x => h0 _ (by rw [zcc, zxb hab, zcc])
 have s1 : ∀ x y z, dt n (zpb (zpb A a (fun j => x j + 1 * y j)) b z) = dt n (zpb (zpb A a x) b z) + 1 * dt n (zpb (zpb A a y) b z) := fun x y z => by
  rw [zcj hab, zcj hab, zcj hab]; exact zjl _ ha x y 1
 have s2 : ∀ x y z, dt n (zpb (zpb A a z) b (fun j => x j + 1 * y j)) = dt n (zpb (zpb A a z) b x) + 1 * dt n (zpb (zpb A a z) b y) := fun x y z => zjl _ hb x y 1
 have h := key (fun j => A a j + 1 * A b j)
 rw [s1, s2, s2, key, key] at h
 rw [e1]
 have e3 : dt n A = dt n (zpb (zpb A a (A a)) b (A b)) := congrArg (dt n) e2
 rw [e3]
 grind
theorem dt_same {n : Nat} : ∀ (k i : Nat) (A : Mx), i + 1 + k < n → A i = A (i + 1 + k) → dt n A = 0
 | 0, i, A, hk, h => dt_adj hk h
 | k + 1, i, A, hk, h => by
   have hs := dt_exch (n := n) (a := i + 1 + k) (b := i + 1 + k + 1) (by omega) (by omega) (by omega) (fun B hB => dt_adj (by omega) hB) A
   have hz : dt n (swp A (i + 1 + k) (i + 1 + k + 1)) = 0 := dt_same k i _ (by omega) (by
    unfold swp
    rw [if_neg (by omega), if_neg (by omega), if_pos rfl]
    exact h)
   grind
theorem zrh {n : Nat} {A : Mx} {i j : Nat} (hi : i < n) (hj : j < n) (hij : i ≠ j) (h : A i = A j) : dt n A = 0 := by
 rcases Nat.lt_or_gt_of_ne hij with h1 | h1
 ·exact dt_same (j - i - 1) i A (by omega) (by rw [show i + 1 + (j - i - 1) = j by omega]; exact h)
 ·exact dt_same (i - j - 1) j A (by omega) (by rw [show j + 1 + (i - j - 1) = i by omega]; exact h.symm)
theorem dt_swp {n a b : Nat} (ha : a < n) (hb : b < n) (hab : a ≠ b) (A : Mx) : dt n (swp A a b) = -dt n A := dt_exch ha hb hab (fun B h => zrh ha hb hab h) A
theorem dt_add {n i r : Nat} (hi : i < n) (hr : r < n) (hir : i ≠ r) (A : Mx) (c : Rat) : dt n (zpb A i fun b => A i b + c * A r b) = dt n A := by
 have h := zjl A hi (A i) (A r) c
 have hz : dt n (zpb A i (A r)) = 0 := zrh hi hr hir (by rw [zcc, zxb (fun e => hir e.symm)])
 rw [zxe, hz] at h
 rw [h]; grind
theorem dt_sum {n : Nat} (A : Mx) {r : Nat} (hr : r < n) (f : Nat → Nat → Rat) (c : Nat → Rat) : ∀ m, dt n (zpb A r fun b => sg m fun l => c l * f l b) = sg m fun l => c l * dt n (zpb A r (f l))
 | 0 => by
   have e : (fun b => sg 0 fun l => c l * f l b) = fun _ => 0 := by funext b; rfl
   rw [e, dt_zero hr]; rfl
 | m + 1 => by
   have e : (fun b => sg (m + 1) fun l => c l * f l b) = fun b => (sg m fun l => c l * f l b) + c m * f m b := by funext b; rfl
   rw [e, zjl A hr, dt_sum A hr f c m]; rfl
def pr : Nat → (Nat → Rat) → Rat
 | 0, _ => 1
 | n + 1, f => pr n f * f n
theorem pr_congr {n : Nat} {f g : Nat → Rat} (h : ∀ i, i < n → f i = g i) : pr n f = pr n g := by
 induction n with
 | zero => rfl
 | succ n ih => rw [pr, pr, ih (fun i hi => h i (by omega)), h n (by omega)]
theorem pr_first (n : Nat) (f : Nat → Rat) : pr (n + 1) f = f 0 * pr n fun i => f (i + 1) := by
 induction n with
 | zero => simp [pr]
 | succ n ih => rw [pr, ih, pr]; grind
theorem zim {n : Nat} {A : Mx} (h : ∀ i j, i < n → j < n → i ≠ j → A i j = 0) : dt n A = pr n fun i => A i i := by
 induction n generalizing A with
 | zero => rfl
 | succ n ih =>
   have e : dt (n + 1) A = sg (n + 1) fun i => if 0 = i then alt i * A i 0 * dt n (mnr A i) else 0 := zea fun i hi => by
    by_cases h0 : 0 = i
    ·rw [if_pos h0]
    ·rw [if_neg h0, h i 0 hi (by omega) (fun e => h0 e.symm)]; grind
   rw [e, zqc (show 0 < n + 1 by omega), pr_first, ih (A := mnr A 0) (fun i j hi hj hij => by
    unfold mnr; rw [if_neg (by omega)]; exact h _ _ (by omega) (by omega) (by omega))]
   have e2 : (pr n fun i => mnr A 0 i i) = pr n fun i => A (i + 1) (i + 1) := pr_congr fun i hi => by unfold mnr; rw [if_neg (by omega)]
   rw [e2]
   have : alt 0 = 1 := by decide +kernel
   rw [this]; grind
def dtB : Nat → Nat → Nat
 | 0, _ => 1
 | n + 1, m => (n + 1) * (m * dtB n m)
theorem over_alt {D B : Nat} {q : Rat} (i : Nat) (h : over D B q) : over D B (alt i * q) := by
 unfold alt; split
 ·rw [Rat.one_mul]; exact h
 ·have e : (-1 : Rat) * q = -q := by grind
  rw [e]; exact over.neg h
theorem dt_over {n D m : Nat} {A : Mx} (hD : D ≠ 0) (h : ∀ i j, i < n → j < n → over D m (A i j)) : over (D ^ n) (dtB n m) (dt n A) := by
 induction n generalizing A with
 | zero => exact ⟨1, by simp [dt]; decide +kernel, Nat.le_refl _⟩
 | succ n ih =>
   rw [dt, dtB]
   refine over.sg (Nat.ne_of_gt (Nat.pow_pos (Nat.pos_of_ne_zero hD))) fun i hi => ?_
   have h1 := ih (A := mnr A i) (fun a b ha hb => by unfold mnr; exact h _ _ (by split <;> omega) (by omega))
   have h2 := over.mul (over_alt i (h i 0 hi (by omega))) h1
   rw [Nat.pow_succ, Nat.mul_comm (D ^ n) D]
   exact h2
def zkh (A : Mx) (i r k e : Nat) (f : Rat) : Mx := fun a b => if a = i ∧ k ≤ b ∧ b < e then A i b - f * A r b else A a b
theorem redTo_start (A : Mx) (i r k : Nat) (f : Rat) : zkh A i r k k f = A := by
 funext a b; unfold zkh; rw [if_neg (by omega)]
theorem redTo_at {A : Mx} {i r k e : Nat} {f : Rat} : zkh A i r k e f i e = A i e := by unfold zkh; rw [if_neg (by omega)]
theorem redTo_row {A : Mx} {i r k e b : Nat} {f : Rat} (h : i ≠ r) : zkh A i r k e f r b = A r b := by unfold zkh; rw [if_neg (fun h2 => h h2.1.symm)]
def zrf (below : Bool) (A : Mx) (r k e : Nat) : Mx := fun a b => if a < e then zyh below A r k a b else A a b
theorem redP_zero (below : Bool) (A : Mx) (r k : Nat) : zrf below A r k 0 = A := by
 funext a b; unfold zrf; rw [if_neg (by omega)]
theorem zfj {below : Bool} {A : Mx} {r k e : Nat} : zrf below A r k e e = A e := by
 funext b; unfold zrf; rw [if_neg (by omega)]
theorem zhf {below : Bool} {A : Mx} {r k a : Nat} (h : ¬ act below A r k a) : zyh below A r k a = A a := by
 funext b; unfold zyh; rw [if_neg (fun h2 => h h2.1)]
theorem zji {below : Bool} {A : Mx} {r k e : Nat} : zrf below A r k e r = A r := by
 funext b; unfold zrf; split
 ·rw [zhf (fun h => h.1 rfl)]
 ·rfl
theorem zmg {below : Bool} {A : Mx} {r k e : Nat} (h : ¬ act below A r k e) : zrf below A r k (e + 1) = zrf below A r k e := by
 funext a b; unfold zrf
 by_cases h1 : a = e
 ·subst h1; rw [if_pos (by omega), if_neg (by omega), zhf h]
 ·by_cases h2 : a < e
  ·rw [if_pos (by omega), if_pos h2]
  ·rw [if_neg (by omega), if_neg h2]
theorem redP_red {below : Bool} {A : Mx} {r k e m : Nat} (h : act below A r k e) : ∀ a b, b < m → zkh (zrf below A r k e) e r k m (A e k / A r k) a b = zrf below A r k (e + 1) a b := by
 intro a b hb
 unfold zkh
 rw [zfj, zji]
 unfold zrf
 by_cases h1 : a = e
 ·subst h1
  unfold zyh
  by_cases h2 : k ≤ b
  ·rw [if_pos ⟨rfl, h2, hb⟩, if_pos (by omega), if_pos ⟨h, h2⟩]
  ·rw [if_neg (by omega), if_neg (by omega), if_pos (by omega), if_neg (by omega)]
 ·rw [if_neg (by omega)]
  by_cases h2 : a < e
  ·rw [if_pos h2, if_pos (show a < e + 1 by omega)]
  ·rw [if_neg h2, if_neg (show ¬ a < e + 1 by omega)]
theorem redP_all {below : Bool} {A : Mx} {r k n : Nat} : ∀ a b, a < n → zrf below A r k n a b = zyh below A r k a b := by
 intro a b h; unfold zrf; rw [if_pos h]
def slimE (below : Bool) (n m wd : Nat) (A : Mx) : Prop := ∀ k, k ≤ wd → (∀ a b, a < n → b < m → fits ((elim below n A k).A a b)) ∧ fits (elim below n A k).d ∧ (k < wd → fitE below n m k (elim below n A k))
theorem fp_congr {y z : Nat → Bool} (f r : Nat) (h : ∀ i, r ≤ i → i < r + f → y i = z i) : fp y f r = fp z f r := by
 induction f generalizing r with
 | zero => rfl
 | succ f ih => rw [fp, fp, h r (Nat.le_refl _) (by omega), ih (r + 1) (fun i h1 h2 => h i (by omega) (by omega))]
theorem zil {n m : Nat} {A M : Mx} (b c : Bool) (h : ∀ i j, i < n → j < m → A i j = M i j) : ∀ k, k ≤ m →
 (elim b n A k).r = (elim c n M k).r ∧ (elim b n A k).d = (elim c n M k).d ∧ ∀ i j, (elim b n A k).r ≤ i → i < n → j < m → (elim b n A k).A i j = (elim c n M k).A i j
 | 0, _ => ⟨rfl, rfl, fun i j _ hi hj => h i j hi hj⟩
 | k + 1, hk => by
   obtain ⟨h1, h2, h3⟩ := zil b c h k (by omega)
   have hr := (zsd b n A k).1
   rw [elim, elim]
   obtain ⟨⟨X, r, d⟩, hX⟩ : ∃ S, elim b n A k = S := ⟨_, rfl⟩
   obtain ⟨⟨Y, s, e⟩, hY⟩ : ∃ S, elim c n M k = S := ⟨_, rfl⟩
   rw [hX, hY] at h1 h2 h3
   rw [hX] at hr
   rw [hX, hY]
   dsimp only at h1 h2 h3 hr
   subst h1 h2
   have hp : pvt n k ⟨X, r, d⟩ = pvt n k ⟨Y, r, d⟩ := fp_congr _ _ fun i hi1 hi2 => by
    have hi2 : i < r + (n - r) := hi2
    have hi1 : r ≤ i := hi1
    show decide (X i k ≠ 0) = decide (Y i k ≠ 0)
    rw [h3 i k hi1 (by omega) (by omega)]
   unfold zse
   rw [hp]
   have hge : r ≤ pvt n k ⟨Y, r, d⟩ := zkj n k ⟨Y, r, d⟩
   by_cases hlt : pvt n k ⟨Y, r, d⟩ < n
   ·rw [if_pos hlt, if_pos hlt]
    dsimp only
    generalize pvt n k ⟨Y, r, d⟩ = a at *
    have hsw : ∀ i j, r ≤ i → i < n → j < m → swp X r a i j = swp Y r a i j := fun i j hi hin hj => by
     unfold swp
     split
     ·exact h3 a j hge hlt hj
     ·split
      ·exact h3 r j (Nat.le_refl _) (by omega) hj
      ·exact h3 i j hi hin hj
    refine ⟨rfl, ?_, fun i j hi hin hj => ?_⟩
    ·rw [hsw r k (Nat.le_refl _) (by omega) (by omega)]
    ·have hi' : r < i := hi
     unfold zyh
     rw [hsw i j (by omega) hin hj, hsw i k (by omega) hin (by omega), hsw r k (Nat.le_refl _) (by omega) (by omega), hsw r j (Nat.le_refl _) (by omega) hj]
     have he : act b (swp X r a) r k i ↔ act c (swp Y r a) r k i := by
      unfold act
      rw [hsw i k (by omega) hin (by omega)]
      exact ⟨fun ⟨p, q, s⟩ => ⟨p, fun z => by omega, s⟩, fun ⟨p, q, s⟩ => ⟨p, fun z => by omega, s⟩⟩
     by_cases hact : act c (swp Y r a) r k i ∧ k ≤ j
     ·rw [if_pos hact, if_pos ⟨he.2 hact.1, hact.2⟩]
     ·rw [if_neg hact, if_neg (fun hh => hact ⟨he.1 hh.1, hh.2⟩)]
   ·rw [if_neg hlt, if_neg hlt]
    exact ⟨rfl, rfl, h3⟩
theorem hA_self {A : Mx} {a r : Nat} (h : a = r) : swp A r a = A := by
 subst h; funext i; unfold swp; split
 ·next h => rw [h]
 ·rfl
structure RowC (n : Nat) (P : Mx → Rat → Prop) : Prop where
 congr : ∀ A B s, (∀ i, i < n → A i = B i) → P A s → P B s
 swap : ∀ A s a b, a < n → b < n → a ≠ b → P A s → P (swp A a b) (-s)
 add : ∀ A s i r c, i < n → r < n → i ≠ r → P A s → P (zpb A i fun b => A i b + c * A r b) s
def sgs (b : Bool) (n : Nat) (A : Mx) : Nat → Rat
 | 0 => 1
 | k + 1 => if pvt n k (elim b n A k) < n then (if pvt n k (elim b n A k) = (elim b n A k).r then sgs b n A k else -sgs b n A k) else sgs b n A k
theorem zbd (b : Bool) (n : Nat) (A : Mx) : ∀ k i j, (elim b n A k).r ≤ i → i < n → j < k → (elim b n A k).A i j = 0
 | 0, i, j, _, _, hj => by omega
 | k + 1, i, j, hi, hin, hj => by
   have ih := zbd b n A k
   rw [elim, zse] at hi ⊢
   by_cases hlt : pvt n k (elim b n A k) < n
   ·rw [if_pos hlt] at hi ⊢
    dsimp only at hi ⊢
    have hge := zkj n k (elim b n A k)
    have hpn := pvt_ne (zsd b n A k).1 hlt
    generalize pvt n k (elim b n A k) = a at *
    have hs : ∀ i j, (elim b n A k).r ≤ i → i < n → j < k → swp (elim b n A k).A (elim b n A k).r a i j = 0 := fun i j h1 h2 h3 => by
     unfold swp; split
     ·exact ih a j hge hlt h3
     ·split
      ·exact ih _ j (Nat.le_refl _) (by omega) h3
      ·exact ih i j h1 h2 h3
    unfold zyh
    by_cases hjk : j < k
    ·rw [if_neg (by omega)]; exact hs i j (by omega) hin hjk
    ·obtain rfl : j = k := by omega
     by_cases hz : swp (elim b n A j).A (elim b n A j).r a i j = 0
     ·rw [if_neg (fun h => h.1.2.2 hz)]; exact hz
     ·have hact : act b (swp (elim b n A j).A (elim b n A j).r a) (elim b n A j).r j i := ⟨by omega, fun z => by omega, hz⟩
      rw [if_pos ⟨hact, Nat.le_refl _⟩]
      by_cases hp : swp (elim b n A j).A (elim b n A j).r a (elim b n A j).r j = 0
      ·exfalso
       rw [zti] at hp
       exact hpn hp
      ·rw [Rat.div_mul_cancel hp]; grind
   ·rw [if_neg hlt] at hi ⊢
    rcases Nat.lt_or_ge j k with h | h
    ·exact ih i j hi hin h
    ·obtain rfl : j = k := by omega
     have hall := fp_before (fun i => decide ((elim b n A j).A i j ≠ 0)) (n - (elim b n A j).r) (elim b n A j).r i hi (by unfold pvt at hlt; omega)
     simpa using hall
theorem redP_succ {b : Bool} {A : Mx} {r k e : Nat} (h0 : ∀ j, j < k → A r j = 0) (he : e ≠ r) :
 ∃ c, zrf b A r k (e + 1) = zpb (zrf b A r k e) e (fun j => zrf b A r k e e j + c * zrf b A r k e r j) := by
 by_cases hact : act b A r k e
 ·refine ⟨-(A e k / A r k), ?_⟩
  rw [zfj, zji]
  funext a j
  unfold zrf zpb
  by_cases h1 : a = e
  ·subst h1
   rw [if_pos (by omega), if_pos rfl]
   unfold zyh
   by_cases h2 : k ≤ j
   ·rw [if_pos ⟨hact, h2⟩]; grind
   ·rw [if_neg (fun h => h2 h.2), h0 j (by omega)]; grind
  ·rw [if_neg h1]
   show _ = if a < e then zyh b A r k a j else A a j
   by_cases h2 : a < e
   ·rw [if_pos h2, if_pos (show a < e + 1 by omega)]
   ·rw [if_neg h2, if_neg (show ¬ a < e + 1 by omega)]
 ·refine ⟨0, ?_⟩
  rw [zmg hact]
  have e1 : (fun j => zrf b A r k e e j + 0 * zrf b A r k e r j) = zrf b A r k e e := by funext j; grind
  rw [e1, zxe]
theorem redu_kept {n : Nat} {P : Mx → Rat → Prop} (hP : RowC n P) {b : Bool} {A : Mx} {r k : Nat} {s : Rat} (hr : r < n) (h0 : ∀ j, j < k → A r j = 0) (h : P A s) : P (zyh b A r k) s := by
 have key : ∀ e, e ≤ n → P (zrf b A r k e) s := by
  intro e
  induction e with
  | zero => intro _; rw [redP_zero]; exact h
  | succ e ih =>
    intro he
    by_cases her : e = r
    ·rw [zmg (fun ha => ha.1 her)]; exact ih (by omega)
    ·obtain ⟨c, hc⟩ := redP_succ (b := b) h0 her
     rw [hc]
     exact hP.add _ s e r c (by omega) hr her (ih (by omega))
 refine hP.congr _ _ s (fun i hi => ?_) (key n (Nat.le_refl _))
 funext j
 exact redP_all i j hi
theorem zac {n : Nat} {P : Mx → Rat → Prop} (hP : RowC n P) (b : Bool) {A : Mx} (h : P A 1) : ∀ k, P (elim b n A k).A (sgs b n A k)
 | 0 => h
 | k + 1 => by
   have ih := zac hP b h k
   have hl := zbd b n A k
   have hrn := (zsd b n A k).1
   rw [elim, zse, sgs]
   by_cases hlt : pvt n k (elim b n A k) < n
   ·rw [if_pos hlt, if_pos hlt]
    dsimp only
    have hge := zkj n k (elim b n A k)
    generalize pvt n k (elim b n A k) = a at *
    have hr : (elim b n A k).r < n := by omega
    have hsw : P (swp (elim b n A k).A (elim b n A k).r a) (if a = (elim b n A k).r then sgs b n A k else -sgs b n A k) := by
     by_cases ha : a = (elim b n A k).r
     ·rw [if_pos ha, hA_self ha]; exact ih
     ·rw [if_neg ha]; exact hP.swap _ _ _ _ hr hlt (fun e => ha e.symm) ih
    refine redu_kept hP hr (fun j hj => ?_) hsw
    rw [zti]
    exact hl a j hge hlt hj
   ·rw [if_neg hlt, if_neg hlt]; exact ih
theorem elim_full {b : Bool} {n : Nat} {M : Mx} (h : (elim b n M n).r = n) : ∀ j, j ≤ n → (elim b n M (n - j)).r = n - j
 | 0, _ => by rw [Nat.sub_zero]; exact h
 | j + 1, hj => by
   have ih := elim_full h j (by omega)
   have h1 := (zsd b n M (n - (j + 1))).2
   rw [show n - j = (n - (j + 1)) + 1 by omega, elim, zse] at ih
   split at ih
   ·have : (elim b n M (n - (j + 1))).r + 1 = n - (j + 1) + 1 := ih
    omega
   ·have : (elim b n M (n - (j + 1))).r = n - (j + 1) + 1 := ih
    omega
theorem zck {b : Bool} {n : Nat} {M : Mx} (h : (elim b n M n).r = n) {k : Nat} (hk : k ≤ n) : (elim b n M k).r = k := by
 have := elim_full h (n - k) (by omega)
 rwa [show n - (n - k) = k by omega] at this
theorem znc {n : Nat} {M : Mx} (h : (elim false n M n).r = n) : ∀ k, k ≤ n →
 (∀ i j, i < n → j < k → i ≠ j → (elim false n M k).A i j = 0) ∧ (∀ j, j < k → (elim false n M k).A j j ≠ 0) ∧ (elim false n M k).d = sgs false n M k * pr k fun i => (elim false n M k).A i i
 | 0, _ => ⟨fun i j _ hj => by omega, fun j hj => by omega, by simp [elim, sgs, pr]⟩
 | k + 1, hk => by
   obtain ⟨h1, h2, h3⟩ := znc h k (by omega)
   have hrk := zck h (k := k) (by omega)
   have hrk1 := zck h hk
   have hl := zbd false n M k
   rw [elim, zse] at hrk1
   rw [elim, zse, sgs]
   have hlt : pvt n k (elim false n M k) < n := by
    by_cases h5 : pvt n k (elim false n M k) < n
    ·exact h5
    ·rw [if_neg h5, hrk] at hrk1; omega
   rw [if_pos hlt, if_pos hlt]
   dsimp only
   have hge := zkj n k (elim false n M k)
   have hpn := pvt_ne (zsd false n M k).1 hlt
   generalize pvt n k (elim false n M k) = a at *
   rw [hrk] at hge hl ⊢
   obtain ⟨S, hS⟩ : ∃ S, (elim false n M k).A = S := ⟨_, rfl⟩
   rw [hS] at h1 h2 h3 hl hpn ⊢
   have hkk : swp S k a k k ≠ 0 := by rw [zti]; exact hpn
   have hsl : ∀ i j, i < n → j < k → i ≠ j → swp S k a i j = 0 := fun i j hi hj hij => by
    unfold swp; split
    ·exact hl a j hge hlt hj
    ·split
     ·exact hl k j (Nat.le_refl _) (by omega) hj
     ·exact h1 i j hi hj hij
   have hsd : ∀ j, j < k → swp S k a j j = S j j := fun j hj => by
    unfold swp; rw [if_neg (by omega), if_neg (by omega)]
   have hdg : ∀ j, j < k → zyh false (swp S k a) k k j j = S j j := fun j hj => by
    unfold zyh; rw [if_neg (fun h => by omega), hsd j hj]
   have hdk : zyh false (swp S k a) k k k k = swp S k a k k := by rw [zhf (fun h => h.1 rfl)]
   refine ⟨fun i j hi hj hij => ?_, fun j hj => ?_, ?_⟩
   ·unfold zyh
    by_cases hjk : j < k
    ·rw [if_neg (fun h => by omega)]; exact hsl i j hi hjk hij
    ·obtain rfl : j = k := by omega
     by_cases hz : swp S j a i j = 0
     ·rw [if_neg (fun h => h.1.2.2 hz)]; exact hz
     ·rw [if_pos ⟨⟨hij, (fun z => by cases z.1), hz⟩, Nat.le_refl _⟩, Rat.div_mul_cancel hkk]; grind
   ·by_cases hjk : j < k
    ·rw [hdg j hjk]; exact h2 j hjk
    ·obtain rfl : j = k := by omega
     rw [hdk]; exact hkk
   ·rw [pr, hdk]
    have e : (pr k fun i => zyh false (swp S k a) k k i i) = pr k fun i => S i i := pr_congr fun i hi => hdg i hi
    rw [e, h3]
    split
    ·exact Rat.mul_assoc _ _ _
    ·grind
theorem detC (n : Nat) (A : Mx) : RowC n fun B s => dt n A = s * dt n B where
 congr := fun X Y s h hX => by rw [hX, zoc (fun a b ha _ => by rw [h a ha])]
 swap := fun X s a b ha hb hab hX => by rw [hX, dt_swp ha hb hab]; grind
 add := fun X s i r c hi hr hir hX => by rw [hX, dt_add hi hr hir]
theorem sgs_sq (b : Bool) (n : Nat) (M : Mx) : ∀ k, sgs b n M k * sgs b n M k = 1
 | 0 => by simp [sgs]
 | k + 1 => by
   have := sgs_sq b n M k
   rw [sgs]
   split
   ·split
    ·exact this
    ·grind
   ·exact this
theorem zmd {n : Nat} {A : Mx} {r : Nat} (hr : r < n) (h : ∀ j, j < n → A r j = 0) : dt n A = 0 := by
 rw [← dt_zero (A := A) hr]
 refine zoc fun a b ha hb => ?_
 unfold zpb; split
 ·next e => subst e; exact h b hb
 ·rfl
theorem pr_ne {n : Nat} {f : Nat → Rat} (h : ∀ i, i < n → f i ≠ 0) : pr n f ≠ 0 := by
 induction n with
 | zero => exact (by decide +kernel : (1 : Rat) ≠ 0)
 | succ n ih => rw [pr]; exact fun e => by rcases Rat.mul_eq_zero.1 e with e | e; exact ih (fun i hi => h i (by omega)) e; exact h n (by omega) e
theorem elim_dt {n : Nat} {M : Mx} : ((elim false n M n).r = n → dt n M = (elim false n M n).d ∧ dt n M ≠ 0) ∧ ((elim false n M n).r < n → dt n M = 0) := by
 have hk := zac (detC n M) false (A := M) (by rw [Rat.one_mul]) n
 refine ⟨fun h => ?_, fun h => ?_⟩
 ·obtain ⟨h1, h2, h3⟩ := znc h n (Nat.le_refl _)
  rw [zim (fun i j hi hj hij => h1 i j hi hj hij)] at hk
  refine ⟨by rw [hk, h3], ?_⟩
  rw [hk]
  intro e
  rcases Rat.mul_eq_zero.1 e with e | e
  ·have := sgs_sq false n M n; rw [e] at this; simp at this
  ·exact pr_ne h2 e
 ·have hz := zmd (n := n) (A := (elim false n M n).A) (r := n - 1) (by omega) (fun j hj => zbd false n M n (n - 1) j (by omega) (by omega) hj)
  rw [hk, hz]; grind
end Go.Proofs.Ytlpdkbmmbdfoiaa
