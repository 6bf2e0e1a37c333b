/-
  package drydocklaw05: awake.
  Ahead of it: Matrices of small numbers: sizes of what elimination meets, of the determinant, of the inverse, of solutions. No program is named here. Small systems of equations: what Solve, Det and Apply need of them. No program is named here.
-/
import Derived.Test.YtbhkibilnmoljaaQDt4
import Derived.Test.YtbhkibilnmoljaaQEl2
import Derived.Test.YtbhkibilnmoljaaQLi10
import Derived.Test.YtbhkibilnmoljaaQLx1
import Derived.Test.YtbhkibilnmoljaaQSa3
namespace Go.Proofs.Ytbhkibilnmoljaa
set_option linter.unusedVariables false

theorem fits_over2 {D B a b : Nat} {q : Rat} (hD : D ≠ 0) (h : over D B q) (ha : B < 2 ^ a) (hb : D < 2 ^ b) (ha2 : a ≤ 4096) (hb2 : b ≤ 4096) : fits q := by
  obtain ⟨s, n, rfl, h1⟩ := h.fq
  refine ⟨?_, ?_⟩
  · rw [fq_natAbs _ _ _ hD]
    exact Nat.le_trans (nbits_lt (Nat.lt_of_le_of_lt (Nat.div_le_self _ _) (Nat.lt_of_le_of_lt h1 ha))) ha2
  · rw [fq_den _ _ _ hD]
    exact Nat.le_trans (nbits_lt (Nat.lt_of_le_of_lt (Nat.div_le_self _ _) hb)) hb2
/-- All elements of a square matrix are over 840 with at most 12600. -/
def smallQ (q : Rat) : Prop := over 840 12600 q
theorem small_fq (s : Bool) {n d : Nat} (hn : n ≤ 15) (hd0 : 0 < d) (hd : d ≤ 8) : smallQ (fq s n d) := by
  have h840 : d * (840 / d) = 840 := by
    have : d = 1 ∨ d = 2 ∨ d = 3 ∨ d = 4 ∨ d = 5 ∨ d = 6 ∨ d = 7 ∨ d = 8 := by omega
    rcases this with rfl | rfl | rfl | rfl | rfl | rfl | rfl | rfl <;> rfl
  have hk : 840 / d ≠ 0 := fun e => by rw [e] at h840; omega
  have hk2 : 840 / d ≤ 840 := Nat.div_le_self _ _
  refine ⟨sgn s n * ((840 / d : Nat) : Int), ?_, ?_⟩
  · unfold fq
    have := Rat.mkRat_mul_right (n := sgn s n) (d := d) hk
    rw [h840] at this
    exact this.symm
  · rw [Int.natAbs_mul, sgn_natAbs, Int.natAbs_natCast]
    exact Nat.le_trans (Nat.mul_le_mul hn hk2) (by decide)
theorem small_one : smallQ 1 := (over.one (by decide)).mono (by decide)
theorem small_zero : smallQ 0 := over.zero _ _
theorem small_fits {q : Rat} (h : smallQ q) : fits q := fits_over2 (a := 14) (b := 10) (by decide) h (by decide) (by decide) (by decide) (by decide)
theorem small_wt_fq (s : Bool) {n d : Nat} (hn : n ≤ 15) (hd0 : 0 < d) (hd : d ≤ 8) : wt (fq s n d) ≤ 8 := by
  have h1 : nbits (fq s n d).num.natAbs ≤ 4 := by
    rw [fq_natAbs _ _ _ (by omega)]
    exact nbits_lt (Nat.lt_of_le_of_lt (Nat.div_le_self _ _) (by omega))
  have h2 : nbits (fq s n d).den ≤ 4 := by
    rw [fq_den _ _ _ (by omega)]
    exact nbits_lt (Nat.lt_of_le_of_lt (Nat.div_le_self _ _) (by omega))
  unfold wt
  split
  · omega
  · split <;> omega
theorem slim_small : slim4 (grow 5 (12600, 840, 1, 1)) := by decide +kernel
theorem slim_small_le {k : Nat} (hk : k ≤ 5) : slim4 (grow k (12600, 840, 1, 1)) := by
  obtain ⟨a1, a2, a3, a4⟩ := grow_le (x := (12600, 840, 1, 1)) ⟨by decide, by decide, by decide, by decide⟩ 5 hk
  obtain ⟨c1, c2, c3, c4⟩ := slim_small
  exact ⟨Nat.lt_of_le_of_lt a1 c1, Nat.lt_of_le_of_lt a2 c2, Nat.lt_of_le_of_lt a3 c3, Nat.lt_of_le_of_lt a4 c4⟩
theorem slimE_small {b : Bool} {n m wd : Nat} {A : Mx} (hw : wd ≤ m) (hw5 : wd ≤ 5) (hA : ∀ i j, i < n → j < m → smallQ (A i j)) : slimE b n m wd A :=
  slimE_of hw (by decide) (by decide) hA (slim_small_le hw5)
theorem dtB_le {n : Nat} (hn : n ≤ 5) : dtB n 12600 < 2 ^ 76 := by
  have : n = 0 ∨ n = 1 ∨ n = 2 ∨ n = 3 ∨ n = 4 ∨ n = 5 := by omega
  rcases this with rfl | rfl | rfl | rfl | rfl | rfl <;> decide +kernel
theorem dtB_le4 {n : Nat} (hn : n ≤ 4) : dtB n 12600 < 2 ^ 60 := by
  have : n = 0 ∨ n = 1 ∨ n = 2 ∨ n = 3 ∨ n = 4 := by omega
  rcases this with rfl | rfl | rfl | rfl | rfl <;> decide +kernel
section
variable {n : Nat} {A : Mx}
/-- The determinant's numerator over 840 ^ n: a common denominator of the inverse. -/
theorem inv_small (hA : ∀ i j, i < n → j < n → smallQ (A i j)) (h : dt n A ≠ 0) : ∃ E, E ≠ 0 ∧ E ≤ dtB n 12600 ∧ ∀ i j, i < n → j < n → over E (dtB n 12600) (invM n A i j) := by
  obtain ⟨z, hz, hzb⟩ := dt_over (n := n) (D := 840) (m := 12600) (by decide) hA
  have hD : 840 ^ n ≠ 0 := Nat.ne_of_gt (Nat.pow_pos (by decide))
  have hz0 : z ≠ 0 := over.zero' (B := 0) hD (hz ▸ h)
  refine ⟨z.natAbs, by omega, hzb, fun i j hi hj => ?_⟩
  rw [inv_cramer h hi hj, hz]
  refine over.quo hD (dt_over (by decide) fun a b ha hb => ?_) hz0
  unfold rset; split
  · unfold oneM; split
    · exact small_one
    · exact small_zero
  · exact hA a b ha hb
theorem sol_small (hn : n ≤ 5) (hA : ∀ i j, i < n → j < n → smallQ (A i j)) (h : dt n A ≠ 0) {x b : Nat → Rat} (hb : ∀ i, i < n → smallQ (b i)) (hx : ∀ i, i < n → sg n (fun j => A i j * x j) = b i) {i : Nat} (hi : i < n) :
    fits (x i) ∧ wt (x i) ≤ 180 := by
  obtain ⟨E, hE, hEb, hI⟩ := inv_small hA h
  have hD : E * 840 ≠ 0 := Nat.mul_ne_zero hE (by decide)
  have ho : over (E * 840) (n * (dtB n 12600 * 12600)) (x i) := by
    rw [sol_unique h hx hi]
    exact over.sg hD fun l hl => over.mul (hI i l hi hl) (hb l hl)
  have hB := dtB_le hn
  have e1 : n * (dtB n 12600 * 12600) < 2 ^ 93 := by
    have : n * (dtB n 12600 * 12600) ≤ 5 * (2 ^ 76 * 12600) := Nat.mul_le_mul hn (Nat.mul_le_mul_right _ (Nat.le_of_lt hB))
    exact Nat.lt_of_le_of_lt this (by decide +kernel)
  have e2 : E * 840 < 2 ^ 87 := by
    have : E * 840 ≤ 2 ^ 76 * 840 := Nat.mul_le_mul_right _ (Nat.le_trans hEb (Nat.le_of_lt hB))
    exact Nat.lt_of_le_of_lt this (by decide +kernel)
  refine ⟨fits_over2 hD ho e1 e2 (by decide) (by decide), over.wt hD ho e1 e2⟩
theorem inv_wt (hn : n ≤ 4) (hA : ∀ i j, i < n → j < n → smallQ (A i j)) (h : dt n A ≠ 0) {i j : Nat} (hi : i < n) (hj : j < n) : fits (invM n A i j) ∧ wt (invM n A i j) ≤ 120 := by
  obtain ⟨E, hE, hEb, hI⟩ := inv_small hA h
  have hB := dtB_le4 hn
  have ho := hI i j hi hj
  have e2 : E < 2 ^ 60 := Nat.lt_of_le_of_lt hEb hB
  exact ⟨fits_over2 hE ho hB e2 (by decide) (by decide), over.wt hE ho hB e2⟩
end
end Go.Proofs.Ytbhkibilnmoljaa
namespace Go.Proofs.Ytbhkibilnmoljaa
set_option linter.unusedVariables false
set_option linter.unusedSimpArgs false
open Go.RowKit

theorem wts_rowL {n K : Nat} {f : Nat → Rat} (h : ∀ j, j < n → wt (f j) ≤ K) : wts (rowL n f) ≤ n * K := by
  induction n with
  | zero => simp [rowL, wts]
  | succ n ih =>
    have h1 := ih fun j hj => h j (by omega)
    have h2 := h n (Nat.lt_succ_self n)
    have e : rowL (n + 1) f = rowL n f ++ [f n] := by unfold rowL; rw [List.range_succ, List.map_append]; rfl
    rw [e, wts_snoc, Nat.succ_mul]
    omega
theorem wts_rawV {n K : Nat} {f : Nat → Rat} (h : ∀ j, j < n → wt (f j) ≤ K) : wts (qs ((rowL n f).map RF.of)) ≤ n * K := by
  rw [qs_of]; exact wts_rowL h
theorem sum_map_le {l : List (List RF)} {g : List RF → Nat} {K : Nat} (h : ∀ x ∈ l, g x ≤ K) : (l.map g).sum ≤ l.length * K := by
  induction l with
  | nil => simp
  | cons x l ih =>
    have h1 := h x (by simp)
    have h2 := ih fun y hy => h y (by simp [hy])
    rw [List.map_cons, List.sum_cons, List.length_cons, Nat.succ_mul]
    omega
theorem wtF_le {n m K : Nat} {A : Mx} (h : ∀ i j, i < n → j < m → wt (A i j) ≤ K) : wtF n m A ≤ n * (m * K) := by
  unfold wtF wtsM
  have h2 := sum_map_le (l := rawM n m A) (g := fun l => wts (qs l)) (K := m * K) fun l hl => by
    obtain ⟨i, hi, rfl⟩ := rawM_mem hl
    exact wts_rawV fun j hj => h i j hi hj
  rw [rawM_length] at h2
  exact h2
section
variable {n : Nat} {A : Mx} {b : Nat → Rat}
/-- The solution as it is computed. -/
def solE (n : Nat) (A : Mx) (b : Nat → Rat) (i : Nat) : Rat := (elim false n (besideM n A (fun i _ => b i)) n).A i n / (elim false n (besideM n A (fun i _ => b i)) n).A i i
theorem sol_eq (h : (elim false n (besideM n A (fun i _ => b i)) n).r = n) : ∀ i, i < n → sg n (fun j => A i j * solE n A b j) = b i := by
  intro i hi
  exact elim_solves (A := A) (B := fun i _ => b i) h (c := 1) (q := 0) (by omega) i hi
theorem rank_dt (h : (elim false n (besideM n A (fun i _ => b i)) n).r = n) : dt n A ≠ 0 := by
  intro h0
  have := rank_less (B := fun i _ => b i) h0
  omega
theorem solve_slim (hn : n ≤ 5) (hA : ∀ i j, i < n → j < n → smallQ (A i j)) (hb : ∀ i, i < n → smallQ (b i)) : slimE false n (n + 1) n (besideM n A (fun i _ => b i)) :=
  slimE_small (by omega) hn fun i j hi hj => by
    unfold besideM; split
    · exact hA i j hi (by assumption)
    · exact hb i hi
theorem solve_hq (hn : n ≤ 5) (hA : ∀ i j, i < n → j < n → smallQ (A i j)) (hb : ∀ i, i < n → smallQ (b i)) :
    ∀ i, i < n → (elim false n (besideM n A (fun i _ => b i)) n).r = n → (elim false n (besideM n A (fun i _ => b i)) n).A i i ≠ 0 ∧ fits ((elim false n (besideM n A (fun i _ => b i)) n).A i n / (elim false n (besideM n A (fun i _ => b i)) n).A i i) := by
  intro i hi hr
  refine ⟨?_, (sol_small hn hA (rank_dt hr) hb (sol_eq hr) hi).1⟩
  exact (elim_unit hr n (Nat.le_refl _)).2.1 i hi
theorem sol_prod (hn : n ≤ 5) (hA : ∀ i j, i < n → j < n → smallQ (A i j)) (h : dt n A ≠ 0) {x : Nat → Rat} (hb : ∀ i, i < n → smallQ (b i)) (hx : ∀ i, i < n → sg n (fun j => A i j * x j) = b i) {i : Nat} (hi : i < n) :
    (∀ k, k < n → fits (A i k * x k)) ∧ ∀ k, k ≤ n → fits (sg k fun j => A i j * x j) := by
  obtain ⟨E, hE, hEb, hI⟩ := inv_small hA h
  have hD : 840 * (E * 840) ≠ 0 := Nat.mul_ne_zero (by decide) (Nat.mul_ne_zero hE (by decide))
  have ho : ∀ k, k < n → over (840 * (E * 840)) (12600 * (n * (dtB n 12600 * 12600))) (A i k * x k) := fun k hk => by
    refine over.mul (hA i k hi hk) ?_
    rw [sol_unique h hx hk]
    exact over.sg (Nat.mul_ne_zero hE (by decide)) fun l hl => over.mul (hI k l hk hl) (hb l hl)
  have hB := dtB_le hn
  have e1 : 12600 * (n * (dtB n 12600 * 12600)) < 2 ^ 110 := by
    have : n * (dtB n 12600 * 12600) ≤ 5 * (2 ^ 76 * 12600) := Nat.mul_le_mul hn (Nat.mul_le_mul_right _ (Nat.le_of_lt hB))
    exact Nat.lt_of_le_of_lt (Nat.mul_le_mul_left _ this) (by decide +kernel)
  have e2 : 840 * (E * 840) < 2 ^ 100 := by
    have : E * 840 ≤ 2 ^ 76 * 840 := Nat.mul_le_mul_right _ (Nat.le_trans hEb (Nat.le_of_lt hB))
    exact Nat.lt_of_le_of_lt (Nat.mul_le_mul_left _ this) (by decide +kernel)
  refine ⟨fun k hk => fits_over2 hD (ho k hk) e1 e2 (by decide) (by decide), fun k hk => ?_⟩
  have h3 := over.sg (n := k) hD fun l hl => ho l (by omega)
  refine fits_over2 (a := 113) hD h3 ?_ e2 (by decide) (by decide)
  have : k * (12600 * (n * (dtB n 12600 * 12600))) ≤ 5 * 2 ^ 110 := Nat.mul_le_mul (by omega) (Nat.le_of_lt e1)
  exact Nat.lt_of_le_of_lt this (by decide +kernel)
theorem detE_dt (n : Nat) (A : Mx) : detE n A = dt n A := elim_true_dt n A
end
end Go.Proofs.Ytbhkibilnmoljaa
namespace Go.Proofs.Ytbhkibilnmoljaa
set_option linter.unusedVariables false
set_option linter.unusedSimpArgs false
open Go.RowKit

theorem fracs_two {w : World} {b : Nat} {x y z x' y' z' : Value} {r r' : Rat} (hb : VarB w b #[x, y, z, x', y', z']) (hf : FracC w (.agg #[x, y, z]) r) (hf' : FracC w (.agg #[x', y', z']) r') : FracsC w (.slice (some ⟨b, 0, none⟩) 2 2) [r, r'] := by
  obtain ⟨a1, b1, ha, h4, h5⟩ := hf
  injection ha with ha
  injection ha with ha
  simp only [List.cons.injEq, and_true] at ha
  obtain ⟨rfl, rfl, rfl⟩ := ha
  obtain ⟨a2, b2, ha, h6, h7⟩ := hf'
  injection ha with ha
  injection ha with ha
  simp only [List.cons.injEq, and_true] at ha
  obtain ⟨rfl, rfl, rfl⟩ := ha
  have hp : ∀ k, ptr (.slice (some ⟨b, 0, none⟩) 2 2) k = ⟨b, k, none⟩ := fun k => by simp only [ptr, base, Addr.add_lit, Nat.zero_add]
  refine ⟨⟨_, 2, 2, rfl, Nat.le_refl _, by simp [maxLen], fun e => by cases e⟩, rfl, fun j hj => ?_⟩
  rcases (show j = 0 ∨ j = 1 by simp at hj; omega) with rfl | rfl
  · exact ⟨y, z, by rw [hp]; exact hb.cell 0 rfl, by rw [hp]; exact hb.cell 1 rfl, by rw [hp]; exact hb.cell 2 rfl, h4, h5⟩
  · exact ⟨y', z', by rw [hp]; exact hb.cell 3 rfl, by rw [hp]; exact hb.cell 4 rfl, by rw [hp]; exact hb.cell 5 rfl, h6, h7⟩
theorem mat_two {w : World} {b : Nat} {r s : Value} {m : Nat} {A : Mx} (hb : VarB w b #[r, s]) (hr : FracsC w r (rowL m (A 0))) (hs : FracsC w s (rowL m (A 1))) : MatF w (.slice (some ⟨b, 0, none⟩) 2 2) 2 m A := by
  have hp : ∀ k, ptr (.slice (some ⟨b, 0, none⟩) 2 2) k = ⟨b, k, none⟩ := fun k => by simp only [ptr, base, Addr.add_lit, Nat.zero_add]
  refine ⟨⟨_, 2, 2, rfl, Nat.le_refl _, by simp [maxLen], fun e => by cases e⟩, rfl, fun j hj => ?_⟩
  rcases (show j = 0 ∨ j = 1 by omega) with rfl | rfl
  · exact ⟨r, by rw [hp]; exact hb.cell 0 rfl, hr⟩
  · exact ⟨s, by rw [hp]; exact hb.cell 1 rfl, hs⟩
theorem r2int_two (w : World) : Calls Try.prog 12 #[.int .i64 2] w (RF1 w 2) := by
  have h := r2int_nat 2 w (by decide)
  have e : fq false 2 1 = 2 := by decide +kernel
  rw [e] at h
  exact h
theorem r2int_three (w : World) : Calls Try.prog 12 #[.int .i64 3] w (RF1 w 3) := by
  have h := r2int_nat 3 w (by decide)
  have e : fq false 3 1 = 3 := by decide +kernel
  rw [e] at h
  exact h
def awA : Mx := fun i j => if i = 0 ∧ j = 0 then 2 else 1
def awb : Nat → Rat := fun i => if i = 0 then 3 else 2
theorem aw_row0 : rowL 2 (awA 0) = [2, 1] := by decide +kernel
theorem aw_row1 : rowL 2 (awA 1) = [1, 1] := by decide +kernel
theorem aw_b : rowL 2 awb = [3, 2] := by decide +kernel
theorem aw_dt : dt 2 awA = 1 := by decide +kernel
theorem small_int {n : Nat} (hn : n ≤ 15) : smallQ (fq false n 1) ∧ wt (fq false n 1) ≤ 8 := ⟨small_fq false hn (by decide) (by decide), small_wt_fq false hn (by decide) (by decide)⟩
theorem small2 : smallQ 2 ∧ wt 2 ≤ 8 := by have h := small_int (n := 2) (by decide); rwa [show fq false 2 1 = 2 by decide +kernel] at h
theorem small3 : smallQ 3 ∧ wt 3 ≤ 8 := by have h := small_int (n := 3) (by decide); rwa [show fq false 3 1 = 3 by decide +kernel] at h
theorem small1 : smallQ 1 ∧ wt 1 ≤ 8 := by have h := small_int (n := 1) (by decide); rwa [show fq false 1 1 = 1 by decide +kernel] at h
theorem aw_small (i j : Nat) : smallQ (awA i j) ∧ wt (awA i j) ≤ 8 := by
  unfold awA; split
  · exact small2
  · exact small1
theorem awb_small (i : Nat) : smallQ (awb i) ∧ wt (awb i) ≤ 8 := by
  unfold awb; split
  · exact small3
  · exact small2
theorem aw_fit : fitM 2 2 awA := fun i j _ _ => small_fits (aw_small i j).1
theorem awb_fit : ∀ i, i < 2 → fits (awb i) := fun i _ => small_fits (awb_small i).1
theorem aw_slim : slimE false 2 (2 + 1) 2 (besideM 2 awA (fun i _ => awb i)) := solve_slim (by decide) (fun i j _ _ => (aw_small i j).1) (fun i _ => (awb_small i).1)
theorem aw_hq : ∀ i, i < 2 → (elim false 2 (besideM 2 awA (fun i _ => awb i)) 2).r = 2 → (elim false 2 (besideM 2 awA (fun i _ => awb i)) 2).A i i ≠ 0 ∧ fits ((elim false 2 (besideM 2 awA (fun i _ => awb i)) 2).A i 2 / (elim false 2 (besideM 2 awA (fun i _ => awb i)) 2).A i i) := solve_hq (by decide) (fun i j _ _ => (aw_small i j).1) (fun i _ => (awb_small i).1)
theorem aw_slim2 : slimE true 2 2 2 awA := slimE_small (by decide) (by decide) (fun i j _ _ => (aw_small i j).1)
theorem aw_wt2 : wtF 2 2 awA ≤ 1900 := by
  have h1 := wtF_le (n := 2) (m := 2) (A := awA) (K := 8) fun i j _ _ => (aw_small i j).2
  omega
theorem aw_full : ¬ (elim false 2 (besideM 2 awA (fun i _ => awb i)) 2).r < 2 := by rw [rank_full (by rw [aw_dt]; decide)]; decide
theorem aw_sol : rowL 2 (fun i => (elim false 2 (besideM 2 awA (fun i _ => awb i)) 2).A i 2 / (elim false 2 (besideM 2 awA (fun i _ => awb i)) 2).A i i) = [1, 1] := by decide +kernel
theorem aw_wt : wtF 2 2 awA + wts (qs (rawV 2 awb)) ≤ 1900 := by
  have h1 := wtF_le (n := 2) (m := 2) (A := awA) (K := 8) fun i j _ _ => (aw_small i j).2
  have h2 := wts_rawV (n := 2) (K := 8) (f := awb) fun j _ => (awb_small j).2
  have h3 : wts (qs (rawV 2 awb)) ≤ 2 * 8 := h2
  omega
set_option maxRecDepth 100000 in
set_option maxHeartbeats 3200000 in
theorem awake_any (w : World) : Calls Try.prog 15 #[] w (fun e w' => e = .returned (.bool true) ∧ Below w.heap.size w w') := by
  have tok1 : True := trivial
  have tok2 : True := trivial
  have tok3 : True := trivial
  have tok4 : True := trivial
  have tok5 : True := trivial
  have tok6 : True := trivial
  go_enter Try.func15, Try.ntmps15
  go_upto_region 4 with (first
    | (go_at_call 12; have _t := tok1; (with_reducible refine (r2int_two _).mono ?_); rintro e1 w1 ⟨v1, rfl, hv1, hb1⟩
       obtain ⟨t1, x1, y1, rfl, ⟨a11, l11, k11, rfl, _⟩, ⟨a12, l12, k12, rfl, _⟩⟩ := hv1.isF
       clear tok1 _t)
    | (go_at_call 12; have _t := tok2; (with_reducible refine (r2int_one _).mono ?_); rintro e2 w2 ⟨v2, rfl, hv2, hb2⟩
       obtain ⟨t2, x2, y2, rfl, ⟨a21, l21, k21, rfl, _⟩, ⟨a22, l22, k22, rfl, _⟩⟩ := hv2.isF
       clear tok2 _t
       have ba2 := below_alloc w2 (.cells #[.bool t1, .slice a11 l11 k11, .slice a12 l12 k12, .bool t2, .slice a21 l21 k21, .slice a22 l22 k22] 30)
       have HL2 : Hid (FracsC (w2.alloc (.cells #[.bool t1, .slice a11 l11 k11, .slice a12 l12 k12, .bool t2, .slice a21 l21 k21, .slice a22 l22 k22] 30)) (.slice (some ⟨w2.heap.size, 0, none⟩) 2 2) (rowL 2 (awA 0))) := Lib.hid (by rw [aw_row0]; exact fracs_two (VarB.new w2 _ _) ((hv1.below hb2).below ba2) (hv2.below ba2))
       have HB2 := Lib.hid (below_then (below_then hb1 hb2) ba2)
       clear ba2 hv1 hv2 hb1 hb2)
    | (go_at_call 12; have _t := tok3; (with_reducible refine (r2int_one _).mono ?_); rintro e3 w3 ⟨v3, rfl, hv3, hb3⟩
       obtain ⟨t3, x3, y3, rfl, ⟨a31, l31, k31, rfl, _⟩, ⟨a32, l32, k32, rfl, _⟩⟩ := hv3.isF
       clear tok3 _t)
    | (go_at_call 12; have _t := tok4; (with_reducible refine (r2int_one _).mono ?_); rintro e4 w4 ⟨v4, rfl, hv4, hb4⟩
       obtain ⟨t4, x4, y4, rfl, ⟨a41, l41, k41, rfl, _⟩, ⟨a42, l42, k42, rfl, _⟩⟩ := hv4.isF
       clear tok4 _t
       have ba4 := below_alloc w4 (.cells #[.bool t3, .slice a31 l31 k31, .slice a32 l32 k32, .bool t4, .slice a41 l41 k41, .slice a42 l42 k42] 30)
       have bm4 := below_alloc (w4.alloc (.cells #[.bool t3, .slice a31 l31 k31, .slice a32 l32 k32, .bool t4, .slice a41 l41 k41, .slice a42 l42 k42] 30)) (.cells #[.slice (some ⟨w2.heap.size, 0, none⟩) 2 2, .slice (some ⟨w4.heap.size, 0, none⟩) 2 2] 26)
       have sz4 : (w4.alloc (.cells #[.bool t3, .slice a31 l31 k31, .slice a32 l32 k32, .bool t4, .slice a41 l41 k41, .slice a42 l42 k42] 30)).heap.size = w4.heap.size + 1 := by simp
       have HL4 : FracsC (w4.alloc (.cells #[.bool t3, .slice a31 l31 k31, .slice a32 l32 k32, .bool t4, .slice a41 l41 k41, .slice a42 l42 k42] 30)) (.slice (some ⟨w4.heap.size, 0, none⟩) 2 2) (rowL 2 (awA 1)) := by rw [aw_row1]; exact fracs_two (VarB.new w4 _ _) ((hv3.below hb4).below ba4) (hv4.below ba4)
       have VM := VarB.new (w4.alloc (.cells #[.bool t3, .slice a31 l31 k31, .slice a32 l32 k32, .bool t4, .slice a41 l41 k41, .slice a42 l42 k42] 30)) #[.slice (some ⟨w2.heap.size, 0, none⟩) 2 2, .slice (some ⟨w4.heap.size, 0, none⟩) 2 2] 26
       rw [sz4] at VM
       have HM4 := Lib.hid (mat_two (A := awA) (m := 2) VM ((HL2.out.below (below_then (below_then hb3 hb4) ba4)).below bm4) (HL4.below bm4))
       have HB4 := Lib.hid (below_then HB2.out (below_then (below_then (below_then hb3 hb4) ba4) bm4))
       clear ba4 bm4 sz4 HL4 VM hv3 hv4 hb3 hb4)
    | (go_at_call 12; have _t := tok5; (with_reducible refine (r2int_three _).mono ?_); rintro e5 w5 ⟨v5, rfl, hv5, hb5⟩
       obtain ⟨t5, x5, y5, rfl, ⟨a51, l51, k51, rfl, _⟩, ⟨a52, l52, k52, rfl, _⟩⟩ := hv5.isF
       clear tok5 _t)
    | (go_at_call 12; have _t := tok6; (with_reducible refine (r2int_two _).mono ?_); rintro e6 w6 ⟨v6, rfl, hv6, hb6⟩
       obtain ⟨t6, x6, y6, rfl, ⟨a61, l61, k61, rfl, _⟩, ⟨a62, l62, k62, rfl, _⟩⟩ := hv6.isF
       clear tok6 _t
       have ba6 := below_alloc w6 (.cells #[.bool t5, .slice a51 l51 k51, .slice a52 l52 k52, .bool t6, .slice a61 l61 k61, .slice a62 l62 k62] 30)
       have HL6 : Hid (FracsC (w6.alloc (.cells #[.bool t5, .slice a51 l51 k51, .slice a52 l52 k52, .bool t6, .slice a61 l61 k61, .slice a62 l62 k62] 30)) (.slice (some ⟨w6.heap.size, 0, none⟩) 2 2) (rowL 2 awb)) := Lib.hid (by rw [aw_b]; exact fracs_two (VarB.new w6 _ _) ((hv5.below hb6).below ba6) (hv6.below ba6))
       have HB6 := Lib.hid (below_then HB4.out (below_then (below_then hb5 hb6) ba6))
       have HM6 := Lib.hid (HM4.out.below (below_then (below_then hb5 hb6) ba6))
       clear ba6 hv5 hv6 hb5 hb6)
    | (go_at_call 18; (with_reducible refine (solve_lin _ _ 2 awA awb _ HM6.out HL6.out (by decide) (by decide) aw_fit awb_fit aw_wt aw_slim aw_hq).mono ?_); rintro e7 w7 ⟨v7, er7, rfl, hb7, _, hs7⟩; obtain ⟨rfl, hf7⟩ := hs7 aw_full; clear hs7
       rw [aw_sol] at hf7
       obtain ⟨s71, s72, s73, rfl, _⟩ := id hf7.sl
       have HF7 := Lib.hid hf7
       have HB7 := Lib.hid (below_then HB6.out hb7)
       have HM7 := Lib.hid (HM6.out.below hb7)
       clear hf7 hb7)
    | (go_at_call 16; (with_reducible refine (det_lin _ 2 awA _ HM7.out (by decide) (by decide) aw_fit aw_wt2 aw_slim2).mono ?_); rw [show detE 2 awA = 1 by rw [detE_dt, aw_dt]]; rintro e8 w8 ⟨v8, rfl, hv8, hb8⟩
       obtain ⟨t8, x8, y8, rfl, ⟨a81, l81, k81, rfl, _⟩, ⟨a82, l82, k82, rfl, _⟩⟩ := hv8.isF
       have ba8 := below_alloc w8 (.cells #[.bool t8, .slice a81 l81 k81, .slice a82 l82 k82] 30)
       have HV8 := Lib.hid (hv8.below ba8)
       have HB8 := Lib.hid (below_then HB7.out (below_then hb8 ba8))
       have HF8 := Lib.hid (HF7.out.below (below_then hb8 ba8))
       have HC8 := Lib.hid (C3.new w8 30 (.bool t8) (.slice a81 l81 k81) (.slice a82 l82 k82))
       clear hv8 hb8 ba8))
  have tok9 : True := trivial
  have tok10 : True := trivial
  have tok11 : True := trivial
  obtain ⟨_, c0, c1, c2, _, _, _⟩ := HC8.out
  obtain ⟨wz, hwz⟩ : ∃ wz, wz = (w8.alloc (.cells #[.bool t8, .slice a81 l81 k81, .slice a82 l82 k82] 30)) := ⟨_, rfl⟩
  rw [← hwz] at c0 c1 c2 HV8 HF8 HB8 ⊢
  clear hwz HC8
  have S0 := Lib.hid (And.intro c0 (And.intro c1 c2))
  clear c0 c1 c2
  go_region_held3 (fun w' => w'.cell? ⟨w8.heap.size, 0, none⟩ = some (.bool t8) ∧ w'.cell? ⟨w8.heap.size, 1, none⟩ = some (.slice a81 l81 k81) ∧ w'.cell? ⟨w8.heap.size, 2, none⟩ = some (.slice a82 l82 k82) ∧ Below wz.heap.size wz w') (first
    | with_reducible exact kp3a S0.out (Below.refl _ _)
    | with_reducible exact kp3a S0.out (below_drew _)
    | with_reducible exact kp3w (by assumption) (below_drew _)
    | with_reducible exact kp3w (by assumption) (below_alloc _ _)
    | with_reducible exact kp3w (by assumption) (by assumption)) (first
    | (go_at_call 12; have _t := tok9; (with_reducible refine (r2int_one _).mono ?_); rintro e9 w9 ⟨v9, rfl, hv9, hb9⟩
       obtain ⟨t9, x9, y9, rfl, ⟨a91, l91, k91, rfl, _⟩, ⟨a92, l92, k92, rfl, _⟩⟩ := hv9.isF
       clear tok9 _t)
    | (go_at_call 12; have _t := tok10; (with_reducible refine (r2int_one _).mono ?_); rintro e10 w10 ⟨v10, rfl, hv10, hb10⟩
       obtain ⟨t10, x10, y10, rfl, ⟨a101, l101, k101, rfl, _⟩, ⟨a102, l102, k102, rfl, _⟩⟩ := hv10.isF
       clear tok10 _t
       have ba10 := below_alloc w10 (.cells #[.bool t9, .slice a91 l91 k91, .slice a92 l92 k92, .bool t10, .slice a101 l101 k101, .slice a102 l102 k102] 30)
       have HL10 : Hid (FracsC (w10.alloc (.cells #[.bool t9, .slice a91 l91 k91, .slice a92 l92 k92, .bool t10, .slice a101 l101 k101, .slice a102 l102 k102] 30)) (.slice (some ⟨w10.heap.size, 0, none⟩) 2 2) [1, 1]) := Lib.hid (fracs_two (VarB.new w10 _ _) ((hv9.below hb10).below ba10) (hv10.below ba10))
       clear ba10)
    | (go_at_call 20; (with_reducible refine (same_fracs _ _ [1, 1] [1, 1] _ (HF8.out.below (kp3c (by assumption))) (by first | with_reducible exact HL10.out | with_reducible exact HL10.out.below (below_drew _))).mono ?_); rintro e12 w12 ⟨⟨b12, rfl, hb12⟩, hbel12⟩; obtain rfl : b12 = true := hb12.2 rfl; clear hb12)
    | (go_at_call 12; have _t := tok11; (with_reducible refine (r2int_one _).mono ?_); rintro e11 w11 ⟨v11, rfl, hv11, hb11⟩
       obtain ⟨t11, x11, y11, rfl, ⟨a111, l111, k111, rfl, _⟩, ⟨a112, l112, k112, rfl, _⟩⟩ := hv11.isF
       clear tok11 _t)
    | (go_at_call 22; (with_reducible refine (same_frac _ _ 1 1 _ (HV8.out.below (kp3c (by assumption))) (by first | with_reducible exact hv11 | with_reducible exact hv11.below (below_drew _))).mono ?_); rintro e13 w13 ⟨⟨b13, rfl, hb13⟩, hbel13⟩; obtain rfl : b13 = true := hb13.2 rfl; clear hb13))
  all_goals
    have hEnd := kp3c (by assumption)
    go_wp2_with fail
    go_ret
    exact ⟨rfl, below_then HB8.out hEnd⟩
end Go.Proofs.Ytbhkibilnmoljaa
