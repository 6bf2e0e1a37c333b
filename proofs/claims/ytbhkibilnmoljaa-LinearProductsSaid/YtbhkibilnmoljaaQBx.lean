/-
  What the laws of package linear share.
  Ahead of it: Small systems of equations: what Solve, Det and Apply need of them. No program is named here. package drydocklaw05: awake. LinearSolves: the law function returns true. Products of matrices of small numbers: what Mul needs, and a matrix as a list of lists.
-/
import Derived.Test.YtbhkibilnmoljaaQLi10
import Derived.Test.YtbhkibilnmoljaaQLi15
import Derived.Test.YtbhkibilnmoljaaQLi16
import Derived.Test.YtbhkibilnmoljaaQLx1
import Derived.Test.YtbhkibilnmoljaaQMu1
import Derived.Test.YtbhkibilnmoljaaQSa3
namespace Go.Proofs.Ytbhkibilnmoljaa
set_option linter.unusedVariables false
set_option linter.unusedSimpArgs false
open Go.RowKit

theorem wts_rowL {n K : Nat} {f : Nat → Rat} (h : ∀ j, j < n → wt (f j) ≤ K) : wts (rowL n f) ≤ n * K := by
  induction n with
  | zero => simp [rowL, wts]
  | succ n ih =>
    have h1 := ih fun j hj => h j (by omega)
    have h2 := h n (Nat.lt_succ_self n)
    have e : rowL (n + 1) f = rowL n f ++ [f n] := by unfold rowL; rw [List.range_succ, List.map_append]; rfl
    rw [e, wts_snoc, Nat.succ_mul]
    omega
theorem wts_rawV {n K : Nat} {f : Nat → Rat} (h : ∀ j, j < n → wt (f j) ≤ K) : wts (qs ((rowL n f).map RF.of)) ≤ n * K := by
  rw [qs_of]; exact wts_rowL h
theorem sum_map_le {l : List (List RF)} {g : List RF → Nat} {K : Nat} (h : ∀ x ∈ l, g x ≤ K) : (l.map g).sum ≤ l.length * K := by
  induction l with
  | nil => simp
  | cons x l ih =>
    have h1 := h x (by simp)
    have h2 := ih fun y hy => h y (by simp [hy])
    rw [List.map_cons, List.sum_cons, List.length_cons, Nat.succ_mul]
    omega
theorem wtF_le {n m K : Nat} {A : Mx} (h : ∀ i j, i < n → j < m → wt (A i j) ≤ K) : wtF n m A ≤ n * (m * K) := by
  unfold wtF wtsM
  have h2 := sum_map_le (l := rawM n m A) (g := fun l => wts (qs l)) (K := m * K) fun l hl => by
    obtain ⟨i, hi, rfl⟩ := rawM_mem hl
    exact wts_rawV fun j hj => h i j hi hj
  rw [rawM_length] at h2
  exact h2
section
variable {n : Nat} {A : Mx} {b : Nat → Rat}
/-- The solution as it is computed. -/
def solE (n : Nat) (A : Mx) (b : Nat → Rat) (i : Nat) : Rat := (elim false n (besideM n A (fun i _ => b i)) n).A i n / (elim false n (besideM n A (fun i _ => b i)) n).A i i
theorem sol_eq (h : (elim false n (besideM n A (fun i _ => b i)) n).r = n) : ∀ i, i < n → sg n (fun j => A i j * solE n A b j) = b i := by
  intro i hi
  exact elim_solves (A := A) (B := fun i _ => b i) h (c := 1) (q := 0) (by omega) i hi
theorem rank_dt (h : (elim false n (besideM n A (fun i _ => b i)) n).r = n) : dt n A ≠ 0 := by
  intro h0
  have := rank_less (B := fun i _ => b i) h0
  omega
theorem solve_slim (hn : n ≤ 5) (hA : ∀ i j, i < n → j < n → smallQ (A i j)) (hb : ∀ i, i < n → smallQ (b i)) : slimE false n (n + 1) n (besideM n A (fun i _ => b i)) :=
  slimE_small (by omega) hn fun i j hi hj => by
    unfold besideM; split
    · exact hA i j hi (by assumption)
    · exact hb i hi
theorem solve_hq (hn : n ≤ 5) (hA : ∀ i j, i < n → j < n → smallQ (A i j)) (hb : ∀ i, i < n → smallQ (b i)) :
    ∀ i, i < n → (elim false n (besideM n A (fun i _ => b i)) n).r = n → (elim false n (besideM n A (fun i _ => b i)) n).A i i ≠ 0 ∧ fits ((elim false n (besideM n A (fun i _ => b i)) n).A i n / (elim false n (besideM n A (fun i _ => b i)) n).A i i) := by
  intro i hi hr
  refine ⟨?_, (sol_small hn hA (rank_dt hr) hb (sol_eq hr) hi).1⟩
  exact (elim_unit hr n (Nat.le_refl _)).2.1 i hi
theorem sol_prod (hn : n ≤ 5) (hA : ∀ i j, i < n → j < n → smallQ (A i j)) (h : dt n A ≠ 0) {x : Nat → Rat} (hb : ∀ i, i < n → smallQ (b i)) (hx : ∀ i, i < n → sg n (fun j => A i j * x j) = b i) {i : Nat} (hi : i < n) :
    (∀ k, k < n → fits (A i k * x k)) ∧ ∀ k, k ≤ n → fits (sg k fun j => A i j * x j) := by
  obtain ⟨E, hE, hEb, hI⟩ := inv_small hA h
  have hD : 840 * (E * 840) ≠ 0 := Nat.mul_ne_zero (by decide) (Nat.mul_ne_zero hE (by decide))
  have ho : ∀ k, k < n → over (840 * (E * 840)) (12600 * (n * (dtB n 12600 * 12600))) (A i k * x k) := fun k hk => by
    refine over.mul (hA i k hi hk) ?_
    rw [sol_unique h hx hk]
    exact over.sg (Nat.mul_ne_zero hE (by decide)) fun l hl => over.mul (hI k l hk hl) (hb l hl)
  have hB := dtB_le hn
  have e1 : 12600 * (n * (dtB n 12600 * 12600)) < 2 ^ 110 := by
    have : n * (dtB n 12600 * 12600) ≤ 5 * (2 ^ 76 * 12600) := Nat.mul_le_mul hn (Nat.mul_le_mul_right _ (Nat.le_of_lt hB))
    exact Nat.lt_of_le_of_lt (Nat.mul_le_mul_left _ this) (by decide +kernel)
  have e2 : 840 * (E * 840) < 2 ^ 100 := by
    have : E * 840 ≤ 2 ^ 76 * 840 := Nat.mul_le_mul_right _ (Nat.le_trans hEb (Nat.le_of_lt hB))
    exact Nat.lt_of_le_of_lt (Nat.mul_le_mul_left _ this) (by decide +kernel)
  refine ⟨fun k hk => fits_over2 hD (ho k hk) e1 e2 (by decide) (by decide), fun k hk => ?_⟩
  have h3 := over.sg (n := k) hD fun l hl => ho l (by omega)
  refine fits_over2 (a := 113) hD h3 ?_ e2 (by decide) (by decide)
  have : k * (12600 * (n * (dtB n 12600 * 12600))) ≤ 5 * 2 ^ 110 := Nat.mul_le_mul (by omega) (Nat.le_of_lt e1)
  exact Nat.lt_of_le_of_lt this (by decide +kernel)
theorem detE_dt (n : Nat) (A : Mx) : detE n A = dt n A := elim_true_dt n A
end
end Go.Proofs.Ytbhkibilnmoljaa
namespace Go.Proofs.Ytbhkibilnmoljaa
set_option linter.unusedVariables false
set_option linter.unusedSimpArgs false
open Go.RowKit

theorem fracs_two {w : World} {b : Nat} {x y z x' y' z' : Value} {r r' : Rat} (hb : VarB w b #[x, y, z, x', y', z']) (hf : FracC w (.agg #[x, y, z]) r) (hf' : FracC w (.agg #[x', y', z']) r') : FracsC w (.slice (some ⟨b, 0, none⟩) 2 2) [r, r'] := by
  obtain ⟨a1, b1, ha, h4, h5⟩ := hf
  injection ha with ha
  injection ha with ha
  simp only [List.cons.injEq, and_true] at ha
  obtain ⟨rfl, rfl, rfl⟩ := ha
  obtain ⟨a2, b2, ha, h6, h7⟩ := hf'
  injection ha with ha
  injection ha with ha
  simp only [List.cons.injEq, and_true] at ha
  obtain ⟨rfl, rfl, rfl⟩ := ha
  have hp : ∀ k, ptr (.slice (some ⟨b, 0, none⟩) 2 2) k = ⟨b, k, none⟩ := fun k => by simp only [ptr, base, Addr.add_lit, Nat.zero_add]
  refine ⟨⟨_, 2, 2, rfl, Nat.le_refl _, by simp [maxLen], fun e => by cases e⟩, rfl, fun j hj => ?_⟩
  rcases (show j = 0 ∨ j = 1 by simp at hj; omega) with rfl | rfl
  · exact ⟨y, z, by rw [hp]; exact hb.cell 0 rfl, by rw [hp]; exact hb.cell 1 rfl, by rw [hp]; exact hb.cell 2 rfl, h4, h5⟩
  · exact ⟨y', z', by rw [hp]; exact hb.cell 3 rfl, by rw [hp]; exact hb.cell 4 rfl, by rw [hp]; exact hb.cell 5 rfl, h6, h7⟩
theorem mat_two {w : World} {b : Nat} {r s : Value} {m : Nat} {A : Mx} (hb : VarB w b #[r, s]) (hr : FracsC w r (rowL m (A 0))) (hs : FracsC w s (rowL m (A 1))) : MatF w (.slice (some ⟨b, 0, none⟩) 2 2) 2 m A := by
  have hp : ∀ k, ptr (.slice (some ⟨b, 0, none⟩) 2 2) k = ⟨b, k, none⟩ := fun k => by simp only [ptr, base, Addr.add_lit, Nat.zero_add]
  refine ⟨⟨_, 2, 2, rfl, Nat.le_refl _, by simp [maxLen], fun e => by cases e⟩, rfl, fun j hj => ?_⟩
  rcases (show j = 0 ∨ j = 1 by omega) with rfl | rfl
  · exact ⟨r, by rw [hp]; exact hb.cell 0 rfl, hr⟩
  · exact ⟨s, by rw [hp]; exact hb.cell 1 rfl, hs⟩
theorem r2int_two (w : World) : Calls Try.prog 12 #[.int .i64 2] w (RF1 w 2) := by
  have h := r2int_nat 2 w (by decide)
  have e : fq false 2 1 = 2 := by decide +kernel
  rw [e] at h
  exact h
theorem r2int_three (w : World) : Calls Try.prog 12 #[.int .i64 3] w (RF1 w 3) := by
  have h := r2int_nat 3 w (by decide)
  have e : fq false 3 1 = 3 := by decide +kernel
  rw [e] at h
  exact h
def awA : Mx := fun i j => if i = 0 ∧ j = 0 then 2 else 1
def awb : Nat → Rat := fun i => if i = 0 then 3 else 2
theorem aw_row0 : rowL 2 (awA 0) = [2, 1] := by decide +kernel
theorem aw_row1 : rowL 2 (awA 1) = [1, 1] := by decide +kernel
theorem aw_b : rowL 2 awb = [3, 2] := by decide +kernel
theorem aw_dt : dt 2 awA = 1 := by decide +kernel
theorem small_int {n : Nat} (hn : n ≤ 15) : smallQ (fq false n 1) ∧ wt (fq false n 1) ≤ 8 := ⟨small_fq false hn (by decide) (by decide), small_wt_fq false hn (by decide) (by decide)⟩
theorem small2 : smallQ 2 ∧ wt 2 ≤ 8 := by have h := small_int (n := 2) (by decide); rwa [show fq false 2 1 = 2 by decide +kernel] at h
theorem small3 : smallQ 3 ∧ wt 3 ≤ 8 := by have h := small_int (n := 3) (by decide); rwa [show fq false 3 1 = 3 by decide +kernel] at h
theorem small1 : smallQ 1 ∧ wt 1 ≤ 8 := by have h := small_int (n := 1) (by decide); rwa [show fq false 1 1 = 1 by decide +kernel] at h
theorem aw_small (i j : Nat) : smallQ (awA i j) ∧ wt (awA i j) ≤ 8 := by
  unfold awA; split
  · exact small2
  · exact small1
theorem awb_small (i : Nat) : smallQ (awb i) ∧ wt (awb i) ≤ 8 := by
  unfold awb; split
  · exact small3
  · exact small2
theorem aw_fit : fitM 2 2 awA := fun i j _ _ => small_fits (aw_small i j).1
theorem awb_fit : ∀ i, i < 2 → fits (awb i) := fun i _ => small_fits (awb_small i).1
theorem aw_slim : slimE false 2 (2 + 1) 2 (besideM 2 awA (fun i _ => awb i)) := solve_slim (by decide) (fun i j _ _ => (aw_small i j).1) (fun i _ => (awb_small i).1)
theorem aw_hq : ∀ i, i < 2 → (elim false 2 (besideM 2 awA (fun i _ => awb i)) 2).r = 2 → (elim false 2 (besideM 2 awA (fun i _ => awb i)) 2).A i i ≠ 0 ∧ fits ((elim false 2 (besideM 2 awA (fun i _ => awb i)) 2).A i 2 / (elim false 2 (besideM 2 awA (fun i _ => awb i)) 2).A i i) := solve_hq (by decide) (fun i j _ _ => (aw_small i j).1) (fun i _ => (awb_small i).1)
theorem aw_slim2 : slimE true 2 2 2 awA := slimE_small (by decide) (by decide) (fun i j _ _ => (aw_small i j).1)
theorem aw_wt2 : wtF 2 2 awA ≤ 1900 := by
  have h1 := wtF_le (n := 2) (m := 2) (A := awA) (K := 8) fun i j _ _ => (aw_small i j).2
  omega
theorem aw_full : ¬ (elim false 2 (besideM 2 awA (fun i _ => awb i)) 2).r < 2 := by rw [rank_full (by rw [aw_dt]; decide)]; decide
theorem aw_sol : rowL 2 (fun i => (elim false 2 (besideM 2 awA (fun i _ => awb i)) 2).A i 2 / (elim false 2 (besideM 2 awA (fun i _ => awb i)) 2).A i i) = [1, 1] := by decide +kernel
theorem aw_wt : wtF 2 2 awA + wts (qs (rawV 2 awb)) ≤ 1900 := by
  have h1 := wtF_le (n := 2) (m := 2) (A := awA) (K := 8) fun i j _ _ => (aw_small i j).2
  have h2 := wts_rawV (n := 2) (K := 8) (f := awb) fun j _ => (awb_small j).2
  have h3 : wts (qs (rawV 2 awb)) ≤ 2 * 8 := h2
  omega
set_option maxRecDepth 100000 in
set_option maxHeartbeats 3200000 in
theorem awake_any (w : World) : Calls Try.prog 15 #[] w (fun e w' => e = .returned (.bool true) ∧ Below w.heap.size w w') := by
  have tok1 : True := trivial
  have tok2 : True := trivial
  have tok3 : True := trivial
  have tok4 : True := trivial
  have tok5 : True := trivial
  have tok6 : True := trivial
  go_enter Try.func15, Try.ntmps15
  go_upto_region 4 with (first
    | (go_at_call 12; have _t := tok1; (with_reducible refine (r2int_two _).mono ?_); rintro e1 w1 ⟨v1, rfl, hv1, hb1⟩
       obtain ⟨t1, x1, y1, rfl, ⟨a11, l11, k11, rfl, _⟩, ⟨a12, l12, k12, rfl, _⟩⟩ := hv1.isF
       clear tok1 _t)
    | (go_at_call 12; have _t := tok2; (with_reducible refine (r2int_one _).mono ?_); rintro e2 w2 ⟨v2, rfl, hv2, hb2⟩
       obtain ⟨t2, x2, y2, rfl, ⟨a21, l21, k21, rfl, _⟩, ⟨a22, l22, k22, rfl, _⟩⟩ := hv2.isF
       clear tok2 _t
       have ba2 := below_alloc w2 (.cells #[.bool t1, .slice a11 l11 k11, .slice a12 l12 k12, .bool t2, .slice a21 l21 k21, .slice a22 l22 k22] 30)
       have HL2 : Hid (FracsC (w2.alloc (.cells #[.bool t1, .slice a11 l11 k11, .slice a12 l12 k12, .bool t2, .slice a21 l21 k21, .slice a22 l22 k22] 30)) (.slice (some ⟨w2.heap.size, 0, none⟩) 2 2) (rowL 2 (awA 0))) := Lib.hid (by rw [aw_row0]; exact fracs_two (VarB.new w2 _ _) ((hv1.below hb2).below ba2) (hv2.below ba2))
       have HB2 := Lib.hid (below_then (below_then hb1 hb2) ba2)
       clear ba2 hv1 hv2 hb1 hb2)
    | (go_at_call 12; have _t := tok3; (with_reducible refine (r2int_one _).mono ?_); rintro e3 w3 ⟨v3, rfl, hv3, hb3⟩
       obtain ⟨t3, x3, y3, rfl, ⟨a31, l31, k31, rfl, _⟩, ⟨a32, l32, k32, rfl, _⟩⟩ := hv3.isF
       clear tok3 _t)
    | (go_at_call 12; have _t := tok4; (with_reducible refine (r2int_one _).mono ?_); rintro e4 w4 ⟨v4, rfl, hv4, hb4⟩
       obtain ⟨t4, x4, y4, rfl, ⟨a41, l41, k41, rfl, _⟩, ⟨a42, l42, k42, rfl, _⟩⟩ := hv4.isF
       clear tok4 _t
       have ba4 := below_alloc w4 (.cells #[.bool t3, .slice a31 l31 k31, .slice a32 l32 k32, .bool t4, .slice a41 l41 k41, .slice a42 l42 k42] 30)
       have bm4 := below_alloc (w4.alloc (.cells #[.bool t3, .slice a31 l31 k31, .slice a32 l32 k32, .bool t4, .slice a41 l41 k41, .slice a42 l42 k42] 30)) (.cells #[.slice (some ⟨w2.heap.size, 0, none⟩) 2 2, .slice (some ⟨w4.heap.size, 0, none⟩) 2 2] 26)
       have sz4 : (w4.alloc (.cells #[.bool t3, .slice a31 l31 k31, .slice a32 l32 k32, .bool t4, .slice a41 l41 k41, .slice a42 l42 k42] 30)).heap.size = w4.heap.size + 1 := by simp
       have HL4 : FracsC (w4.alloc (.cells #[.bool t3, .slice a31 l31 k31, .slice a32 l32 k32, .bool t4, .slice a41 l41 k41, .slice a42 l42 k42] 30)) (.slice (some ⟨w4.heap.size, 0, none⟩) 2 2) (rowL 2 (awA 1)) := by rw [aw_row1]; exact fracs_two (VarB.new w4 _ _) ((hv3.below hb4).below ba4) (hv4.below ba4)
       have VM := VarB.new (w4.alloc (.cells #[.bool t3, .slice a31 l31 k31, .slice a32 l32 k32, .bool t4, .slice a41 l41 k41, .slice a42 l42 k42] 30)) #[.slice (some ⟨w2.heap.size, 0, none⟩) 2 2, .slice (some ⟨w4.heap.size, 0, none⟩) 2 2] 26
       rw [sz4] at VM
       have HM4 := Lib.hid (mat_two (A := awA) (m := 2) VM ((HL2.out.below (below_then (below_then hb3 hb4) ba4)).below bm4) (HL4.below bm4))
       have HB4 := Lib.hid (below_then HB2.out (below_then (below_then (below_then hb3 hb4) ba4) bm4))
       clear ba4 bm4 sz4 HL4 VM hv3 hv4 hb3 hb4)
    | (go_at_call 12; have _t := tok5; (with_reducible refine (r2int_three _).mono ?_); rintro e5 w5 ⟨v5, rfl, hv5, hb5⟩
       obtain ⟨t5, x5, y5, rfl, ⟨a51, l51, k51, rfl, _⟩, ⟨a52, l52, k52, rfl, _⟩⟩ := hv5.isF
       clear tok5 _t)
    | (go_at_call 12; have _t := tok6; (with_reducible refine (r2int_two _).mono ?_); rintro e6 w6 ⟨v6, rfl, hv6, hb6⟩
       obtain ⟨t6, x6, y6, rfl, ⟨a61, l61, k61, rfl, _⟩, ⟨a62, l62, k62, rfl, _⟩⟩ := hv6.isF
       clear tok6 _t
       have ba6 := below_alloc w6 (.cells #[.bool t5, .slice a51 l51 k51, .slice a52 l52 k52, .bool t6, .slice a61 l61 k61, .slice a62 l62 k62] 30)
       have HL6 : Hid (FracsC (w6.alloc (.cells #[.bool t5, .slice a51 l51 k51, .slice a52 l52 k52, .bool t6, .slice a61 l61 k61, .slice a62 l62 k62] 30)) (.slice (some ⟨w6.heap.size, 0, none⟩) 2 2) (rowL 2 awb)) := Lib.hid (by rw [aw_b]; exact fracs_two (VarB.new w6 _ _) ((hv5.below hb6).below ba6) (hv6.below ba6))
       have HB6 := Lib.hid (below_then HB4.out (below_then (below_then hb5 hb6) ba6))
       have HM6 := Lib.hid (HM4.out.below (below_then (below_then hb5 hb6) ba6))
       clear ba6 hv5 hv6 hb5 hb6)
    | (go_at_call 18; (with_reducible refine (solve_lin _ _ 2 awA awb _ HM6.out HL6.out (by decide) (by decide) aw_fit awb_fit aw_wt aw_slim aw_hq).mono ?_); rintro e7 w7 ⟨v7, er7, rfl, hb7, _, hs7⟩; obtain ⟨rfl, hf7⟩ := hs7 aw_full; clear hs7
       rw [aw_sol] at hf7
       obtain ⟨s71, s72, s73, rfl, _⟩ := id hf7.sl
       have HF7 := Lib.hid hf7
       have HB7 := Lib.hid (below_then HB6.out hb7)
       have HM7 := Lib.hid (HM6.out.below hb7)
       clear hf7 hb7)
    | (go_at_call 16; (with_reducible refine (det_lin _ 2 awA _ HM7.out (by decide) (by decide) aw_fit aw_wt2 aw_slim2).mono ?_); rw [show detE 2 awA = 1 by rw [detE_dt, aw_dt]]; rintro e8 w8 ⟨v8, rfl, hv8, hb8⟩
       obtain ⟨t8, x8, y8, rfl, ⟨a81, l81, k81, rfl, _⟩, ⟨a82, l82, k82, rfl, _⟩⟩ := hv8.isF
       have ba8 := below_alloc w8 (.cells #[.bool t8, .slice a81 l81 k81, .slice a82 l82 k82] 30)
       have HV8 := Lib.hid (hv8.below ba8)
       have HB8 := Lib.hid (below_then HB7.out (below_then hb8 ba8))
       have HF8 := Lib.hid (HF7.out.below (below_then hb8 ba8))
       have HC8 := Lib.hid (C3.new w8 30 (.bool t8) (.slice a81 l81 k81) (.slice a82 l82 k82))
       clear hv8 hb8 ba8))
  have tok9 : True := trivial
  have tok10 : True := trivial
  have tok11 : True := trivial
  obtain ⟨_, c0, c1, c2, _, _, _⟩ := HC8.out
  obtain ⟨wz, hwz⟩ : ∃ wz, wz = (w8.alloc (.cells #[.bool t8, .slice a81 l81 k81, .slice a82 l82 k82] 30)) := ⟨_, rfl⟩
  rw [← hwz] at c0 c1 c2 HV8 HF8 HB8 ⊢
  clear hwz HC8
  have S0 := Lib.hid (And.intro c0 (And.intro c1 c2))
  clear c0 c1 c2
  go_region_held3 (fun w' => w'.cell? ⟨w8.heap.size, 0, none⟩ = some (.bool t8) ∧ w'.cell? ⟨w8.heap.size, 1, none⟩ = some (.slice a81 l81 k81) ∧ w'.cell? ⟨w8.heap.size, 2, none⟩ = some (.slice a82 l82 k82) ∧ Below wz.heap.size wz w') (first
    | with_reducible exact kp3a S0.out (Below.refl _ _)
    | with_reducible exact kp3a S0.out (below_drew _)
    | with_reducible exact kp3w (by assumption) (below_drew _)
    | with_reducible exact kp3w (by assumption) (below_alloc _ _)
    | with_reducible exact kp3w (by assumption) (by assumption)) (first
    | (go_at_call 12; have _t := tok9; (with_reducible refine (r2int_one _).mono ?_); rintro e9 w9 ⟨v9, rfl, hv9, hb9⟩
       obtain ⟨t9, x9, y9, rfl, ⟨a91, l91, k91, rfl, _⟩, ⟨a92, l92, k92, rfl, _⟩⟩ := hv9.isF
       clear tok9 _t)
    | (go_at_call 12; have _t := tok10; (with_reducible refine (r2int_one _).mono ?_); rintro e10 w10 ⟨v10, rfl, hv10, hb10⟩
       obtain ⟨t10, x10, y10, rfl, ⟨a101, l101, k101, rfl, _⟩, ⟨a102, l102, k102, rfl, _⟩⟩ := hv10.isF
       clear tok10 _t
       have ba10 := below_alloc w10 (.cells #[.bool t9, .slice a91 l91 k91, .slice a92 l92 k92, .bool t10, .slice a101 l101 k101, .slice a102 l102 k102] 30)
       have HL10 : Hid (FracsC (w10.alloc (.cells #[.bool t9, .slice a91 l91 k91, .slice a92 l92 k92, .bool t10, .slice a101 l101 k101, .slice a102 l102 k102] 30)) (.slice (some ⟨w10.heap.size, 0, none⟩) 2 2) [1, 1]) := Lib.hid (fracs_two (VarB.new w10 _ _) ((hv9.below hb10).below ba10) (hv10.below ba10))
       clear ba10)
    | (go_at_call 20; (with_reducible refine (same_fracs _ _ [1, 1] [1, 1] _ (HF8.out.below (kp3c (by assumption))) (by first | with_reducible exact HL10.out | with_reducible exact HL10.out.below (below_drew _))).mono ?_); rintro e12 w12 ⟨⟨b12, rfl, hb12⟩, hbel12⟩; obtain rfl : b12 = true := hb12.2 rfl; clear hb12)
    | (go_at_call 12; have _t := tok11; (with_reducible refine (r2int_one _).mono ?_); rintro e11 w11 ⟨v11, rfl, hv11, hb11⟩
       obtain ⟨t11, x11, y11, rfl, ⟨a111, l111, k111, rfl, _⟩, ⟨a112, l112, k112, rfl, _⟩⟩ := hv11.isF
       clear tok11 _t)
    | (go_at_call 22; (with_reducible refine (same_frac _ _ 1 1 _ (HV8.out.below (kp3c (by assumption))) (by first | with_reducible exact hv11 | with_reducible exact hv11.below (below_drew _))).mono ?_); rintro e13 w13 ⟨⟨b13, rfl, hb13⟩, hbel13⟩; obtain rfl : b13 = true := hb13.2 rfl; clear hb13))
  all_goals
    have hEnd := kp3c (by assumption)
    go_wp2_with fail
    go_ret
    exact ⟨rfl, below_then HB8.out hEnd⟩
end Go.Proofs.Ytbhkibilnmoljaa
namespace Go.Proofs.Ytbhkibilnmoljaa
set_option linter.unusedVariables false
set_option linter.unusedSimpArgs false
open Go.RowKit

theorem elL_small (l : List Int) (k : Nat) : smallQ (elL l k) ∧ wt (elL l k) ≤ 8 := by
  unfold elL
  split
  · unfold elQ
    have h1 : (l[k].tmod 16).natAbs ≤ 15 := by
      rw [Int.natAbs_tmod]
      have := Nat.mod_lt l[k].natAbs (show 0 < (16 : Int).natAbs by decide)
      have e : (16 : Int).natAbs = 16 := rfl
      omega
    have h2 : 1 + (l[k] % 256).toNat / 32 ≤ 8 := by omega
    exact ⟨small_fq _ h1 (by omega) h2, small_wt_fq _ h1 (by omega) h2⟩
  · exact ⟨small_zero, by simp [wt, nbits]⟩
theorem smallM_small (c : Nat) (l : List Int) (i j : Nat) : smallQ (smallM c l i j) ∧ wt (smallM c l i j) ≤ 8 := elL_small l _
theorem smallM_fit (n c : Nat) (l : List Int) : fitM n c (smallM c l) := fun i j _ _ => small_fits (smallM_small c l i j).1
theorem smallM_wt {n c : Nat} (l : List Int) (hn : n ≤ 5) (hc : c ≤ 5) : wtF n c (smallM c l) ≤ 200 := by
  have h1 := wtF_le (n := n) (m := c) (A := smallM c l) (K := 8) fun i j _ _ => (smallM_small c l i j).2
  have h2 : n * (c * 8) ≤ 5 * (5 * 8) := Nat.mul_le_mul hn (Nat.mul_le_mul_right _ hc)
  omega
theorem sign_zero {va : Value} {w : World} (ha : FracC w va 0) : Calls Try.prog 17 #[va] w fun en w' => en = .returned (.int .i64 0) ∧ Below w.heap.size w w' := by
  have h := r2sign_any va _ _ _ w ha.raw (by decide)
  rw [fq_self, (cmpR_self_iff 0 0).2 rfl] at h
  exact h
theorem sign_ne {va : Value} {w : World} {q : Rat} (ha : FracC w va q) (hf : fits q) (hq : q ≠ 0) : Calls Try.prog 17 #[va] w fun en w' => ∃ z, en = .returned (.int .i64 z) ∧ (z == 0) = false ∧ Below w.heap.size w w' := by
  have h := r2sign_any va _ _ _ w ha.raw ⟨q.den_nz, hf.2, hf.1⟩
  rw [fq_self] at h
  refine h.mono ?_
  rintro e w' ⟨rfl, hb⟩
  exact ⟨_, rfl, by
    have : ¬ cmpR q 0 = 0 := fun e => hq ((cmpR_self_iff q 0).1 e)
    simpa using this, hb⟩
theorem matrix_row (vl : Value) (l : List Int) (c : Nat) (w : World) (hl : I8V w vl l) (hc1 : 1 ≤ c) (hc : c ≤ 5) :
    Calls Try.prog 10 #[.int .i64 1, .int .i64 c, vl] w fun e w' => ∃ v, e = .returned v ∧ MatF w' v 1 c (smallM c l) ∧ Below w.heap.size w w' :=
  matrix_any vl l 1 c w hl (by decide) (by decide) hc1 hc
theorem dt_fits {n : Nat} (hn : n ≤ 5) {A : Mx} (hA : ∀ i j, i < n → j < n → smallQ (A i j)) : fits (dt n A) := by
  obtain ⟨z, hz, hzb⟩ := dt_over (n := n) (D := 840) (m := 12600) (by decide) hA
  have hD : 840 ^ n ≠ 0 := Nat.ne_of_gt (Nat.pow_pos (by decide))
  have h9 : 840 ^ n < 2 ^ 50 := Nat.lt_of_le_of_lt (Nat.pow_le_pow_right (by decide) hn) (by decide +kernel)
  exact fits_over2 hD ⟨z, hz, hzb⟩ (dtB_le hn) h9 (by decide) (by decide)
set_option maxRecDepth 100000 in
set_option maxHeartbeats 3200000 in
theorem solves_law (x : Nat) (vl vb : Value) (l b : List Int) (w : World) (hx : x < 256) (hl : I8V w vl l) (hb : I8V w vb b) :
    Calls Try.prog 4 #[.int .u8 x, vl, vb] w (fun e w' => e = .returned (.bool true) ∧ Below w.heap.size w w') := by
  obtain ⟨k, hk⟩ : ∃ k, 1 + x % 5 = k := ⟨_, rfl⟩
  have hk1 : 1 ≤ k := by omega
  have hk5 : k ≤ 5 := by omega
  have hk24 : k ≤ 24 := by omega
  have HK := Lib.hid hk
  have HL := Lib.hid hl
  have HB := Lib.hid hb
  have sl := hl.1.sl
  have sb := hb.1.sl
  have hsm : ∀ i j, i < k → j < k → smallQ (smallM k l i j) := fun i j _ _ => (smallM_small k l i j).1
  have hsb : ∀ i, i < k → smallQ (smallM k b 0 i) := fun i _ => (smallM_small k b 0 i).1
  have hfb : ∀ i, i < k → fits (smallM k b 0 i) := fun i hi => small_fits (hsb i hi)
  have hw1 : wtF k k (smallM k l) ≤ 200 := smallM_wt l hk5 hk5
  have hwb : wts (qs (rawV k (smallM k b 0))) ≤ k * 8 := wts_rawV fun j _ => (smallM_small k b 0 j).2
  have hwS : wtF k k (smallM k l) + wts (qs (rawV k (smallM k b 0))) ≤ 1900 := by omega
  have hwD : wtF k k (smallM k l) ≤ 1900 := by omega
  have HSM := Lib.hid hsm
  have HSB := Lib.hid hsb
  have HFB := Lib.hid hfb
  have HW1 := Lib.hid hw1
  have HWS := Lib.hid hwS
  have HWD := Lib.hid hwD
  have HX := Lib.hid (solve_slim hk5 hsm hsb)
  have HQ := Lib.hid (solve_hq hk5 hsm hsb)
  have HX2 : Hid (slimE true k k k (smallM k l)) := Lib.hid (slimE_small (Nat.le_refl _) hk5 hsm)
  clear hk hl hb hsm hsb hfb hw1 hwb hwS hwD
  go_enter Try.func4, Try.ntmps4
  by_cases hd : dt k (smallM k l) = 0
  · have HRK := Lib.hid (rank_less (B := fun i _ => smallM k b 0 i) hd)
    have HD : Hid (detE k (smallM k l) = 0) := Lib.hid (by rw [detE_dt]; exact hd)
    clear hd
    go_wp2_with (first
      | (go_at_call 9; (with_reducible refine (order_any x _ hx).mono ?_); rw [HK.out]; rintro e0 w0 ⟨rfl, rfl⟩)
      | (go_at_call 10; first
         | ((with_reducible refine (matrix_row _ b k _ (HB.out.below hb1) hk1 hk5).mono ?_); rintro e2 w2 ⟨v2, rfl, hm2, hb2⟩
            have sl2 := hm2.sl
            have ln2 := hm2.len
            obtain ⟨r2, hc2, hf2⟩ := hm2.row 0 (by decide)
            have HM2 := Lib.hid (HM1.out.below hb2)
            have HB2 := Lib.hid (below_then hb1 hb2)
            have HF2 := Lib.hid hf2
            clear hm2 hb2 hf2 hb1)
         | ((with_reducible refine (matrix_any _ l k k _ HL.out hk1 hk5 hk1 hk5).mono ?_); rintro e1 w1 ⟨v1, rfl, hm1, hb1⟩
            have HM1 := Lib.hid hm1
            clear hm1))
      | (go_at_call 18; (with_reducible refine (solve_lin _ _ k (smallM k l) (smallM k b 0) _ HM2.out HF2.out hk1 hk24 (smallM_fit k k l) HFB.out HWS.out HX.out HQ.out).mono ?_); rintro e3 w3 ⟨v3, er3, rfl, hb3, hs3, _⟩; obtain ⟨rfl, rfl⟩ := hs3 HRK.out; clear hs3
         have HM3 := Lib.hid (HM2.out.below hb3)
         have HB3 := Lib.hid (below_then HB2.out hb3)
         clear hb3)
      | (go_at_call 16; (with_reducible refine (det_lin _ k (smallM k l) _ HM3.out hk1 hk24 (smallM_fit k k l) HWD.out HX2.out).mono ?_); rw [HD.out]; rintro e4 w4 ⟨v4, rfl, hv4, hb4⟩
         obtain ⟨t4, x4, y4, rfl, ⟨a41, l41, k41, rfl, _⟩, ⟨a42, l42, k42, rfl, _⟩⟩ := hv4.isF
         have ba4 := below_alloc w4 (.cells #[.bool t4, .slice a41 l41 k41, .slice a42 l42 k42] 30)
         have HV4 := Lib.hid (hv4.below ba4)
         have HB4 := Lib.hid (below_then HB3.out (below_then hb4 ba4))
         clear hv4 hb4 ba4)
      | (go_at_call 17; (with_reducible refine (sign_zero HV4.out).mono ?_); rintro e5 w5 ⟨rfl, hb5⟩
         have HB5 := Lib.hid (below_then HB4.out hb5)
         clear hb5)
      | (go_at_call 15; (with_reducible refine (awake_any _).mono ?_); rintro e6 w6 ⟨rfl, hb6⟩))
    go_ret
    exact ⟨rfl, below_then HB5.out hb6⟩
  · have hne := hd
    have HRK : Hid (¬ (elim false k (besideM k (smallM k l) (fun i _ => smallM k b 0 i)) k).r < k) := Lib.hid (by rw [rank_full (B := fun i _ => smallM k b 0 i) hd]; omega)
    have hr := rank_full (B := fun i _ => smallM k b 0 i) hd
    have hse := sol_eq hr
    have HP := Lib.hid (fun i (hi : i < k) => sol_prod hk5 HSM.out hd HSB.out hse hi)
    have HSO := Lib.hid (fun i (hi : i < k) => sol_small hk5 HSM.out hd HSB.out hse hi)
    have HFX : Hid (∀ i, i < k → fits (solE k (smallM k l) (smallM k b 0) i)) := Lib.hid (fun i hi => (HSO.out i hi).1)
    have HP1 : Hid (∀ i j, i < k → j < k → fits (smallM k l i j * solE k (smallM k l) (smallM k b 0) j)) := Lib.hid (fun i j hi hj => (HP.out i hi).1 j hj)
    have HP2 : Hid (∀ i j, i < k → j ≤ k → fits (sg j fun m => smallM k l i m * solE k (smallM k l) (smallM k b 0) m)) := Lib.hid (fun i j hi hj => (HP.out i hi).2 j hj)
    have HWA : Hid (wtF k k (smallM k l) + wts (qs (rawV k (solE k (smallM k l) (smallM k b 0)))) ≤ 3800) := Lib.hid (by
      have h1 := HW1.out
      have h2 : wts (qs (rawV k (solE k (smallM k l) (smallM k b 0)))) ≤ k * 180 := wts_rawV fun j hj => (HSO.out j hj).2
      omega)
    have HEQ : Hid (rowL k (fun i => sg k fun j => smallM k l i j * solE k (smallM k l) (smallM k b 0) j) = rowL k (smallM k b 0)) := Lib.hid (by
      unfold rowL
      exact List.map_congr_left fun i hi => hse i (List.mem_range.1 hi))
    have HD : Hid (detE k (smallM k l) = dt k (smallM k l)) := Lib.hid (detE_dt _ _)
    have HDF := Lib.hid (dt_fits hk5 HSM.out)
    have HNE := Lib.hid hne
    clear hd hr hse hne
    go_wp2_with (first
      | (go_at_call 9; (with_reducible refine (order_any x _ hx).mono ?_); rw [HK.out]; rintro e0 w0 ⟨rfl, rfl⟩)
      | (go_at_call 10; first
         | ((with_reducible refine (matrix_row _ b k _ (HB.out.below hb1) hk1 hk5).mono ?_); rintro e2 w2 ⟨v2, rfl, hm2, hb2⟩
            have sl2 := hm2.sl
            have ln2 := hm2.len
            obtain ⟨r2, hc2, hf2⟩ := hm2.row 0 (by decide)
            have HM2 := Lib.hid (HM1.out.below hb2)
            have HB2 := Lib.hid (below_then hb1 hb2)
            have HF2 := Lib.hid hf2
            clear hm2 hb2 hf2 hb1)
         | ((with_reducible refine (matrix_any _ l k k _ HL.out hk1 hk5 hk1 hk5).mono ?_); rintro e1 w1 ⟨v1, rfl, hm1, hb1⟩
            have HM1 := Lib.hid hm1
            clear hm1))
      | (go_at_call 18; (with_reducible refine (solve_lin _ _ k (smallM k l) (smallM k b 0) _ HM2.out HF2.out hk1 hk24 (smallM_fit k k l) HFB.out HWS.out HX.out HQ.out).mono ?_); rintro e3 w3 ⟨v3, er3, rfl, hb3, _, hs3⟩; obtain ⟨rfl, hf3⟩ := hs3 HRK.out; clear hs3
         have hf3' : FracsC w3 v3 (rowL k (solE k (smallM k l) (smallM k b 0))) := hf3
         obtain ⟨v31, v32, v33, rfl, _⟩ := id hf3'.sl
         have HF3 := Lib.hid hf3'
         have HFB3 := Lib.hid (HF2.out.below hb3)
         have HM3 := Lib.hid (HM2.out.below hb3)
         have HB3 := Lib.hid (below_then HB2.out hb3)
         clear hb3 hf3 hf3')
      | (go_at_call 16; (with_reducible refine (det_lin _ k (smallM k l) _ HM3.out hk1 hk24 (smallM_fit k k l) HWD.out HX2.out).mono ?_); rw [HD.out]; rintro e4 w4 ⟨v4, rfl, hv4, hb4⟩
         obtain ⟨t4, x4, y4, rfl, ⟨a41, l41, k41, rfl, _⟩, ⟨a42, l42, k42, rfl, _⟩⟩ := hv4.isF
         have ba4 := below_alloc w4 (.cells #[.bool t4, .slice a41 l41 k41, .slice a42 l42 k42] 30)
         have HV4 := Lib.hid (hv4.below ba4)
         have HF4 := Lib.hid (HF3.out.below (below_then hb4 ba4))
         have HFB4 := Lib.hid (HFB3.out.below (below_then hb4 ba4))
         have HM4 := Lib.hid (HM3.out.below (below_then hb4 ba4))
         have HB4 := Lib.hid (below_then HB3.out (below_then hb4 ba4))
         clear hv4 hb4 ba4)
      | (go_at_call 17; (with_reducible refine (sign_ne HV4.out HDF.out HNE.out).mono ?_); rintro e5 w5 ⟨z5, rfl, hz5, hb5⟩
         have HB5 := Lib.hid (below_then HB4.out hb5)
         have HF5 := Lib.hid (HF4.out.below hb5)
         have HFB5 := Lib.hid (HFB4.out.below hb5)
         have HM5 := Lib.hid (HM4.out.below hb5)
         clear hb5)
      | (go_at_call 19; (with_reducible refine (apply_lin _ _ k k (smallM k l) (solE k (smallM k l) (smallM k b 0)) _ HM5.out HF5.out hk1 hk24 hk1 hk24 (smallM_fit k k l) HFX.out HWA.out HP1.out HP2.out).mono ?_); rw [HEQ.out]; rintro e7 w7 ⟨v7, rfl, hf7, hb7⟩
         have HF7 := Lib.hid hf7
         have HFB7 := Lib.hid (HFB5.out.below hb7)
         have HB7 := Lib.hid (below_then HB5.out hb7)
         clear hf7 hb7)
      | (go_at_call 20; (with_reducible refine (same_fracs _ _ _ _ _ HF7.out HFB7.out).mono ?_); rintro e8 w8 ⟨⟨b8, rfl, hb8⟩, hbel8⟩; obtain rfl : b8 = true := hb8.2 rfl; clear hb8
         have HB8 := Lib.hid (below_then HB7.out hbel8)
         clear hbel8)
      | (go_at_call 15; (with_reducible refine (awake_any _).mono ?_); rintro e6 w6 ⟨rfl, hb6⟩))
    go_ret
    exact ⟨rfl, below_then HB8.out hb6⟩
end Go.Proofs.Ytbhkibilnmoljaa
namespace Go.Proofs.Ytbhkibilnmoljaa
set_option linter.unusedVariables false
set_option linter.unusedSimpArgs false
open Go.RowKit

theorem MatF.matC {w : World} {v : Value} {n m : Nat} {A : Mx} (h : MatF w v n m A) : MatC w v ((List.range n).map fun i => rowL m (A i)) :=
  ⟨h.sl, by rw [h.len, List.length_map, List.length_range], fun j hj => by
    have hj2 : j < n := by simpa using hj
    obtain ⟨r, h1, h2⟩ := h.row j hj2
    exact ⟨r, h1, by rw [List.getElem_map, List.getElem_range]; exact h2⟩⟩
/-- What is asked of two factors. -/
structure MulOk (n m c : Nat) (A B : Mx) : Prop where
  p : ∀ i k, i < n → k < c → ∀ j, j < m → fits (A i j * B j k)
  s : ∀ i k, i < n → k < c → ∀ j, j ≤ m → fits (sg j fun l => A i l * B l k)
theorem mul_ok {n m c D E a b p q : Nat} {A B : Mx} (hD : D ≠ 0) (hE : E ≠ 0) (hm : m ≤ 5) (hA : ∀ i j, i < n → j < m → over D a (A i j)) (hB : ∀ i j, i < m → j < c → over E b (B i j))
    (h1 : 5 * (a * b) < 2 ^ p) (h2 : D * E < 2 ^ q) (hp : p ≤ 4096) (hq : q ≤ 4096) :
    MulOk n m c A B ∧ (∀ i k, i < n → k < c → over (D * E) (5 * (a * b)) (mulM m A B i k)) ∧ fitM n c (mulM m A B) ∧ wtF n c (mulM m A B) ≤ n * (c * (p + q)) := by
  have hDE : D * E ≠ 0 := Nat.mul_ne_zero hD hE
  have key : ∀ i k, i < n → k < c → (∀ j, j < m → over (D * E) (a * b) (A i j * B j k)) ∧ ∀ j, j ≤ m → over (D * E) (5 * (a * b)) (sg j fun l => A i l * B l k) := fun i k hi hk => by
    obtain ⟨h3, h4⟩ := mul_over (m := m) (i := i) (k := k) hD hE (fun j hj => hA i j hi hj) (fun j hj => hB j k hj hk)
    exact ⟨h3, fun j hj => (h4 j hj).mono (Nat.mul_le_mul_right _ hm)⟩
  have hab : a * b < 2 ^ p := by omega
  refine ⟨⟨fun i k hi hk j hj => fits_over2 hDE ((key i k hi hk).1 j hj) hab h2 hp hq, fun i k hi hk j hj => fits_over2 hDE ((key i k hi hk).2 j hj) h1 h2 hp hq⟩, fun i k hi hk => (key i k hi hk).2 m (Nat.le_refl _), fun i k hi hk => fits_over2 hDE ((key i k hi hk).2 m (Nat.le_refl _)) h1 h2 hp hq, ?_⟩
  exact wtF_le fun i k hi hk => over.wt hDE ((key i k hi hk).2 m (Nat.le_refl _)) h1 h2
end Go.Proofs.Ytbhkibilnmoljaa
namespace Go.Proofs.Ytbhkibilnmoljaa
theorem Try.ownK : ownKnob Try.prog.godebug = none := by kernel_rfl
theorem Try.laidOut : laidOutB Try.prog = true := by kernel_rfl
end Go.Proofs.Ytbhkibilnmoljaa
