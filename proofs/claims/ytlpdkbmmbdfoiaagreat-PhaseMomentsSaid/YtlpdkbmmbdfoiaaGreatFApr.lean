/-
  append of a slice's one-cell values to an own row. No code is walked here.
-/
import Derived.Test.YtlpdkbmmbdfoiaaGreatFPp6
import Derived.Test.YtlpdkbmmbdfoiaaGreatFPh14
import Derived.Test.YtlpdkbmmbdfoiaaGreatFPh8
import Derived.Test.YtlpdkbmmbdfoiaaGreatFOrd
import Derived.Test.YtlpdkbmmbdfoiaaGreatFPp4
import Derived.Test.YtlpdkbmmbdfoiaaGreatFOwR
import Derived.Test.YtlpdkbmmbdfoiaaGreatFRa3
set_option linter.unusedVariables false
set_option linter.unusedSimpArgs false
namespace Go.Proofs.YtlpdkbmmbdfoiaaGreat
section
variable {k : Rat} {l : LQ}
theorem zxb.uniq (h : zxb l) {x y : Nat → Rat} (he : ∀ i, i < l.start.length → sg l.start.length (fun j => phA l i j * x j) = sg l.start.length (fun j => phA l i j * y j)) : ∀ i, i < l.start.length → x i = y i := by
 have key : ∀ {x y : Nat → Rat}, (∀ i, i < l.start.length → sg l.start.length (fun j => phA l i j * x j) = sg l.start.length (fun j => phA l i j * y j)) → ∀ i, i < l.start.length → 0 ≤ x i - y i := fun {x y} he i hi => by
  refine h.nonneg (x := fun j => x j - y j) (b := fun _ => 0) (fun _ _ => Rat.le_refl) (fun i hi => ?_) i hi
  have e : sg l.start.length (fun j => phA l i j * (x j - y j)) = sg l.start.length (fun j => phA l i j * x j) + (-1) * sg l.start.length (fun j => phA l i j * y j) := by
   rw [← zcb, ← zvd]
   exact zma fun j _ => by grind
  rw [e, he i hi]
  grind
 intro i hi
 have h1 := key he i hi
 have h2 := key (fun i hi => (he i hi).symm) i hi
 grind
theorem zhp (l : LQ) (n : Nat) : zfo l n = sg l.start.length (fun i => stQ l i * zpm l n i) * fq false (zem n) 1 := by
 unfold zfo zvn
 rw [Rat.zero_add]
 congr 1
 refine zma fun t ht => ?_
 have g : (zib l.start.length (zpm l n)).getD t 0 = zpm l n t := by rw [List.getD_eq_getElem?_getD, List.getElem?_eq_getElem (by rw [zea]; exact ht), Option.getD_some, ztb]
 rw [g]
 rfl
end
section
variable {k : Rat} {a b : LQ}
end
section
variable {k n : Nat} {l a b : LQ}
theorem start13 (h : zch 2 l) {i : Nat} (hi : i < l.start.length) : over 8 (2 ^ 13) (stQ l i) := (h.start8 hi).mono (by decide)
theorem tape_mom (h : zch 2 l) : MomP l 1 1 ∧ MomP l 2 2 := zto (h.law (by decide)) h.sm (by decide) (by decide) (by decide) (by decide) (DS := 8) (by decide) (by decide) fun i hi => start13 h hi
theorem mom_fits {f : Nat} (h : MomP l n f) (hf : f = zem n) : fits (zfo l n) := by
 subst hf
 exact h.sca.fr
end
end Go.Proofs.YtlpdkbmmbdfoiaaGreat
namespace Go.Proofs.YtlpdkbmmbdfoiaaGreat
open Go.RowKit
def zwo (n : Nat) (f : Mx) : List (List Rat) := (List.range n).map fun i => zib n (f i)
theorem zdo (n : Nat) (f : Mx) : (zwo n f).length = n := by simp [zwo]
theorem zeo (n : Nat) (f : Mx) (i : Nat) (h : i < (zwo n f).length) : (zwo n f)[i] = zib n (f i) := by simp [zwo]
theorem tabL_congr {n : Nat} {f g : Mx} (h : ∀ i j, i < n → j < n → f i j = g i j) : zwo n f = zwo n g :=
 List.map_congr_left fun i hi => zdf fun j hj => h i j (List.mem_range.1 hi) hj
theorem zeros_row (n : Nat) : zeb n = zib n fun _ => 0 := by
 refine List.ext_getElem (by rw [zwa, zea]) fun i h1 h2 => ?_
 rw [ztb]
 exact (List.mem_replicate.1 (List.getElem_mem h1)).2
theorem zeros_tab (n : Nat) : List.replicate n (zeb n) = zwo n fun _ _ => 0 := by
 refine List.ext_getElem (by simp [zwo]) fun i h1 h2 => ?_
 rw [zeo, List.getElem_replicate, zeros_row]
theorem tabL_put {n i j : Nat} {f g : Mx} (hi : i < n) (hj : j < n) (h : ∀ r c, r < n → c < n → ¬ (r = i ∧ c = j) → f r c = g r c) (hi2 : i < (zwo n f).length) : (zwo n f).set i ((zwo n f)[i].set j (g i j)) = zwo n g := by
 refine List.ext_getElem (by simp [zwo]) fun r h1 h2 => ?_
 have hr : r < n := by rw [zdo] at h2; exact h2
 rw [List.getElem_set, zeo n g]
 by_cases e : i = r
 ·subst e
  rw [if_pos rfl, zeo n f]
  exact zmk fun k hk hne => h i k hr hk (fun e => hne e.2)
 ·rw [if_neg e, zeo n f]
  exact zdf fun k hk => h r k hr hk (fun e2 => e e2.1.symm)
def zmo (w : World) (B : Nat) (vs ve vr : Value) (rs : List Value) (n : Nat) (s e : Nat → Rat) (f : Mx) : Prop := zve w B vs ve vr rs (zib n s) (zib n e) (zwo n f)
section
variable {w w' : World} {B n : Nat} {vs ve vr : Value} {rs : List Value} {s e s' e' : Nat → Rat} {f g : Mx}
theorem zve.lawT (h : zve w B vs ve vr rs (zeb n) (zeb n) (List.replicate n (zeb n))) : zmo w B vs ve vr rs n (fun _ => 0) (fun _ => 0) (fun _ _ => 0) := by
 unfold zmo
 rw [← zeros_row, ← zeros_tab]
 exact h
theorem zmo.below (h : zmo w B vs ve vr rs n s e f) (hb : Below w.heap.size w w') : zmo w' B vs ve vr rs n s e f := zve.below h hb
theorem zmo.congr (h : zmo w B vs ve vr rs n s e f) (h1 : ∀ i, i < n → s i = s' i) (h2 : ∀ i, i < n → e i = e' i) (h3 : ∀ i j, i < n → j < n → f i j = g i j) : zmo w B vs ve vr rs n s' e' g := by
 unfold zmo at *
 rw [zdf h1, zdf h2, tabL_congr h3] at h
 exact h
theorem zmo.rsl (h : zmo w B vs ve vr rs n s e f) : rs.length = n := by
 have h1 := zve.rl h
 rw [zdo] at h1
 exact h1
theorem zmo.putS (h : zmo w B vs ve vr rs n s e f) {i : Nat} (hi : i < n) (hs : ∀ k, k < n → k ≠ i → s k = s' k) {x y z : Value} (hf : zqa w (.agg #[x, y, z]) (s' i)) :
 zmo (((w.setCell (ptr vs (i * 3)) x).setCell (ptr vs (i * 3 + 1)) y).setCell (ptr vs (i * 3 + 2)) z) B vs ve vr rs n s' e f ∧ Below B w (((w.setCell (ptr vs (i * 3)) x).setCell (ptr vs (i * 3 + 1)) y).setCell (ptr vs (i * 3 + 2)) z) := by
 have h1 := zve.putS h (i := i) (by rw [zea]; exact hi) hf
 rw [zmk hs] at h1
 exact h1
theorem zmo.putE (h : zmo w B vs ve vr rs n s e f) {i : Nat} (hi : i < n) (hs : ∀ k, k < n → k ≠ i → e k = e' k) {x y z : Value} (hf : zqa w (.agg #[x, y, z]) (e' i)) :
 zmo (((w.setCell (ptr ve (i * 3)) x).setCell (ptr ve (i * 3 + 1)) y).setCell (ptr ve (i * 3 + 2)) z) B vs ve vr rs n s e' f ∧ Below B w (((w.setCell (ptr ve (i * 3)) x).setCell (ptr ve (i * 3 + 1)) y).setCell (ptr ve (i * 3 + 2)) z) := by
 have h1 := zve.putE h (i := i) (by rw [zea]; exact hi) hf
 rw [zmk hs] at h1
 exact h1
theorem zmo.putR (h : zmo w B vs ve vr rs n s e f) {i j : Nat} (hi : i < rs.length) (hj : j < n) (hs : ∀ r c, r < n → c < n → ¬ (r = i ∧ c = j) → f r c = g r c) {x y z : Value} (hf : zqa w (.agg #[x, y, z]) (g i j)) :
 zmo (((w.setCell (ptr rs[i] (j * 3)) x).setCell (ptr rs[i] (j * 3 + 1)) y).setCell (ptr rs[i] (j * 3 + 2)) z) B vs ve vr rs n s e g ∧ Below B w (((w.setCell (ptr rs[i] (j * 3)) x).setCell (ptr rs[i] (j * 3 + 1)) y).setCell (ptr rs[i] (j * 3 + 2)) z) := by
 have hn := h.rsl
 have hi2 : i < (zwo n f).length := by rw [zdo, ← hn]; exact hi
 have h1 := zve.putR h (j := j) hi hi2 (by rw [zeo, zea]; exact hj) hf
 rw [tabL_put (by rw [← hn]; exact hi) hj hs hi2] at h1
 exact h1
theorem zmo.lawC (h : zmo w B vs ve vr rs n s e f) (nm : Value) : zhm w (.agg #[nm, vs, vr, ve]) ⟨zib n s, zib n e, zwo n f⟩ := zve.lawC h nm
end
def plF (f g : Mx) (m at' i k : Nat) : Mx := fun r c => if at' ≤ r ∧ at' ≤ c ∧ c < at' + m ∧ (r < at' + i ∨ (r = at' + i ∧ c < at' + k)) then g (r - at') (c - at') else f r c
section
variable {f g : Mx} {m n at' i k : Nat}
theorem plF_zero (r c : Nat) : f r c = plF f g m at' 0 0 r c := by
 unfold plF
 rw [if_neg (by omega)]
theorem plF_put (hk : k < m) {r c : Nat} (h : ¬ (r = at' + i ∧ c = at' + k)) : plF f g m at' i k r c = plF f g m at' i (k + 1) r c := by
 unfold plF
 by_cases h1 : at' ≤ r ∧ at' ≤ c ∧ c < at' + m ∧ (r < at' + i ∨ (r = at' + i ∧ c < at' + k))
 ·rw [if_pos h1, if_pos (by omega)]
 ·rw [if_neg h1, if_neg (by omega)]
theorem plF_at (hk : k < m) : plF f g m at' i (k + 1) (at' + i) (at' + k) = g i k := by
 unfold plF
 rw [if_pos (by omega), Nat.add_sub_cancel_left, Nat.add_sub_cancel_left]
theorem plF_row (r c : Nat) : plF f g m at' i m r c = plF f g m at' (i + 1) 0 r c := by
 unfold plF
 by_cases h1 : at' ≤ r ∧ at' ≤ c ∧ c < at' + m ∧ (r < at' + i ∨ (r = at' + i ∧ c < at' + m))
 ·rw [if_pos h1, if_pos (by omega)]
 ·rw [if_neg h1, if_neg (by omega)]
end
def plA (f g : Mx) (m at' : Nat) : Mx := fun r c => if at' ≤ r ∧ at' ≤ c ∧ c < at' + m ∧ r < at' + m then g (r - at') (c - at') else f r c
theorem plF_all {f g : Mx} {m at' : Nat} (r c : Nat) : plF f g m at' m 0 r c = plA f g m at' r c := by
 unfold plF plA
 by_cases h1 : at' ≤ r ∧ at' ≤ c ∧ c < at' + m ∧ r < at' + m
 ·rw [if_pos h1, if_pos (by omega)]
 ·rw [if_neg h1, if_neg (by omega)]
end Go.Proofs.YtlpdkbmmbdfoiaaGreat
namespace Go.Proofs.YtlpdkbmmbdfoiaaGreat
def fnL (n : Nat) (s e : Nat → Rat) (f : Mx) : LQ := ⟨zib n s, zib n e, zwo n f⟩
section
variable {n : Nat} {s e : Nat → Rat} {f : Mx}
theorem zgo {n : Nat} {f : Nat → Rat} {i : Nat} (h : i < n) : (zib n f).getD i 0 = f i := by
 rw [List.getD_eq_getElem?_getD, List.getElem?_eq_getElem (by rw [zea]; exact h), Option.getD_some, ztb]
theorem zjo : (fnL n s e f).start.length = n := zea _ _
theorem fn_st {i : Nat} (h : i < n) : stQ (fnL n s e f) i = s i := zgo h
theorem fn_ex {i : Nat} (h : i < n) : exQ (fnL n s e f) i = e i := zgo h
theorem fn_row {i : Nat} (h : i < n) : (fnL n s e f).rates.getD i [] = zib n (f i) := by
 show (zwo n f).getD i [] = _
 rw [List.getD_eq_getElem?_getD, List.getElem?_eq_getElem (by rw [zdo]; exact h), Option.getD_some, zeo]
theorem fn_rt {i j : Nat} (h : i < n) (h2 : j < n) : rtQ (fnL n s e f) i j = f i j := by
 unfold rtQ
 rw [fn_row h]
 exact zgo h2
theorem fn_law (h1 : 1 ≤ n) (h4 : n ≤ 4) (hs : ∀ i, i < n → zvg (s i)) (he : ∀ i, i < n → zvg (e i)) (hr : ∀ i j, i < n → j < n → zvg (f i j)) (hd : ∀ i, i < n → f i i = 0) (hsum : sg n s = 1)
 (hends : ∀ i, i < n → 0 < e i ∨ ∃ j, i < j ∧ j < n ∧ 0 < f i j) : zxb (fnL n s e f) where
 n1 := by rw [zjo]; exact h1
 n4 := by rw [zjo]; exact h4
 el := (zea _ _).trans (zea _ _).symm
 rl := (zdo _ _).trans (zea _ _).symm
 st := fun q hq => by
  obtain ⟨i, hi, rfl⟩ := List.mem_map.1 (show q ∈ (List.range n).map s from hq)
  exact hs i (List.mem_range.1 hi)
 ex := fun q hq => by
  obtain ⟨i, hi, rfl⟩ := List.mem_map.1 (show q ∈ (List.range n).map e from hq)
  exact he i (List.mem_range.1 hi)
 row := fun i hi => by
  have hi2 : i < n := by rw [show (fnL n s e f).rates.length = n from zdo _ _] at hi; exact hi
  have e1 : (fnL n s e f).rates[i] = zib n (f i) := zeo _ _ _ _
  rw [e1]
  refine ⟨by rw [zea, zjo], fun q hq => ?_, by rw [zgo hi2]; exact hd i hi2⟩
  obtain ⟨j, hj, rfl⟩ := List.mem_map.1 (show q ∈ (List.range n).map (f i) from hq)
  exact hr i j hi2 (List.mem_range.1 hj)
 sum := by
  show zgg (zib n s) = 1
  rw [zup, zea, ← hsum]
  exact zma fun i hi => zgo hi
 ends := by
  refine ⟨fun i => n - 1 - i, fun i hi => ?_⟩
  rw [zjo] at hi ⊢
  refine ⟨show n - 1 - i ≤ n by omega, ?_⟩
  rcases hends i hi with h | ⟨j, hij, hj, h⟩
  ·exact Or.inl (by rw [show (fnL n s e f).exit.getD i 0 = e i from zgo hi]; exact h)
  ·refine Or.inr ⟨j, hj, ?_, show n - 1 - j < n - 1 - i by omega⟩
   rw [fn_row hi, zgo hj]
   exact h
theorem fn_out (h : zxb (fnL n s e f)) {i : Nat} (hi : i < n) : zxf (fnL n s e f) i = sg n (f i) + e i := by
 rw [h.out_sg (by rw [zjo]; exact hi), zjo, fn_ex hi]
 congr 1
 exact zma fun j hj => fn_rt hi hj
theorem fn_mom (h : zxb (fnL n s e f)) (m : Nat) {x : Nat → Rat} (hx : ∀ i, i < n → (sg n (f i) + e i) * x i - sg n (fun j => f i j * x j) = zpm (fnL n s e f) m i) : ∀ i, i < n → zpm (fnL n s e f) (m + 1) i = x i := by
 have h1 := h.uniq (x := zpm (fnL n s e f) (m + 1)) (y := x) fun i hi => by
  rw [h.mom_eq m i hi, h.row_eq hi]
  rw [zjo] at hi ⊢
  rw [fn_out h hi, ← hx i hi]
  congr 1
  exact zma fun j hj => by rw [fn_rt hi hj]
 rw [zjo] at h1
 exact h1
theorem fn_momQ (m : Nat) {x : Nat → Rat} (hx : ∀ i, i < n → zpm (fnL n s e f) m i = x i) : zfo (fnL n s e f) m = sg n (fun i => s i * x i) * fq false (zem m) 1 := by
 rw [zhp, zjo]
 congr 1
 exact zma fun i hi => by rw [fn_st hi, hx i hi]
theorem fn_sm {D B : Nat} (hr : ∀ i j, i < n → j < n → over D B (f i j)) (he : ∀ i, i < n → over D B (e i)) : SmL D B (fnL n s e f) where
 r := fun i j hi hj => by
  rw [zjo] at hi hj
  rw [fn_rt hi hj]
  exact hr i j hi hj
 e := fun i hi => by
  rw [zjo] at hi
  rw [fn_ex hi]
  exact he i hi
end
theorem f1q : fq false (zem 1) 1 = 1 := by decide +kernel
theorem f2q : fq false (zem 2) 1 = 2 := by decide +kernel
section
variable {l : LQ}
theorem zxb.mrow (h : zxb l) (m : Nat) {i : Nat} (hi : i < l.start.length) : (sg l.start.length (rtQ l i) + exQ l i) * zpm l (m + 1) i - sg l.start.length (fun j => rtQ l i j * zpm l (m + 1) j) = zpm l m i := by
 rw [← h.out_sg hi, ← h.row_eq hi]
 exact h.mom_eq m i hi
theorem zip (l : LQ) : zfo l 1 = sg l.start.length fun i => stQ l i * zpm l 1 i := by rw [zhp, f1q, Rat.mul_one]
theorem ztp (l : LQ) : zfo l 2 = (sg l.start.length fun i => stQ l i * zpm l 2 i) * 2 := by rw [zhp, f2q]
theorem zxb.var_row (h : zxb l) : ∀ i, i < l.start.length → 0 ≤ 2 * zpm l 2 i - zpm l 1 i * zpm l 1 i := by
 refine h.nonneg (x := fun i => 2 * zpm l 2 i - zpm l 1 i * zpm l 1 i) (b := fun i => exQ l i * (zpm l 1 i * zpm l 1 i) + sg l.start.length fun j => rtQ l i j * ((zpm l 1 i - zpm l 1 j) * (zpm l 1 i - zpm l 1 j))) (fun i hi => ?_) fun i hi => ?_
 ·refine Rat.add_nonneg (Rat.mul_nonneg (h.ex_lim hi).1 (Rat.mul_nonneg (h.mom_nn 1 i hi) (h.mom_nn 1 i hi))) (zbp fun j hj => Rat.mul_nonneg (h.rt_lim hi hj).1 ?_)
  rcases Rat.le_total (a := 0) (b := zpm l 1 i - zpm l 1 j) with h1 | h1
  ·exact Rat.mul_nonneg h1 h1
  ·have h2 : 0 ≤ zpm l 1 j - zpm l 1 i := by grind
   have h3 := Rat.mul_nonneg h2 h2
   have e : (zpm l 1 i - zpm l 1 j) * (zpm l 1 i - zpm l 1 j) = (zpm l 1 j - zpm l 1 i) * (zpm l 1 j - zpm l 1 i) := by grind
   rw [e]; exact h3
 ·rw [h.row_eq hi, h.out_sg hi]
  have h1 := h.mrow 0 hi
  have h2 := h.mrow 1 hi
  have e0 : zpm l 0 i = 1 := rfl
  rw [e0] at h1
  have e1 : (sg l.start.length fun j => rtQ l i j * (2 * zpm l 2 j - zpm l 1 j * zpm l 1 j)) = 2 * sg l.start.length (fun j => rtQ l i j * zpm l 2 j) - sg l.start.length (fun j => rtQ l i j * (zpm l 1 j * zpm l 1 j)) := by
   have a1 : (sg l.start.length fun j => rtQ l i j * (2 * zpm l 2 j - zpm l 1 j * zpm l 1 j)) = sg l.start.length (fun j => 2 * (rtQ l i j * zpm l 2 j)) + sg l.start.length (fun j => (-1) * (rtQ l i j * (zpm l 1 j * zpm l 1 j))) := by
    rw [← zvd]; exact zma fun j _ => by grind
   rw [a1, zcb, zcb]; grind
  have e2 : (sg l.start.length fun j => rtQ l i j * ((zpm l 1 i - zpm l 1 j) * (zpm l 1 i - zpm l 1 j))) = zpm l 1 i * zpm l 1 i * sg l.start.length (rtQ l i) - 2 * zpm l 1 i * sg l.start.length (fun j => rtQ l i j * zpm l 1 j) + sg l.start.length (fun j => rtQ l i j * (zpm l 1 j * zpm l 1 j)) := by
   have a1 : (sg l.start.length fun j => rtQ l i j * ((zpm l 1 i - zpm l 1 j) * (zpm l 1 i - zpm l 1 j))) = (sg l.start.length (fun j => zpm l 1 i * zpm l 1 i * rtQ l i j) + sg l.start.length (fun j => (- (2 * zpm l 1 i)) * (rtQ l i j * zpm l 1 j))) + sg l.start.length (fun j => rtQ l i j * (zpm l 1 j * zpm l 1 j)) := by
    rw [← zvd, ← zvd]; exact zma fun j _ => by grind
   rw [a1, zcb, zcb]; grind
  rw [e1, e2]
  generalize sg l.start.length (rtQ l i) = R at *
  generalize (sg l.start.length fun j => rtQ l i j * zpm l 1 j) = P at *
  have h2' : (R + exQ l i) * zpm l 2 i - sg l.start.length (fun j => rtQ l i j * zpm l 2 j) = zpm l 1 i := h2
  have h1' : (R + exQ l i) * zpm l 1 i - P = 1 := h1
  generalize (sg l.start.length fun j => rtQ l i j * zpm l 2 j) = Q at *
  generalize (sg l.start.length fun j => rtQ l i j * (zpm l 1 j * zpm l 1 j)) = S at *
  generalize zpm l 2 i = y at *
  generalize zpm l 1 i = x at *
  generalize exQ l i = E at *
  clear h1 h2 e1 e2
  have a1 : 2 * ((R + E) * y - Q) = 2 * x := by rw [h2']
  have a2 : 2 * x * ((R + E) * x - P) = 2 * x := by rw [h1']; grind
  grind
theorem zxb.var_nn (h : zxb l) : 0 ≤ zfo l 2 - zfo l 1 * zfo l 1 := by
 rw [zip, ztp]
 have key : ∀ m : Rat, 0 ≤ sg l.start.length (fun i => stQ l i * ((zpm l 1 i - m) * (zpm l 1 i - m))) := fun m => zbp fun i hi => Rat.mul_nonneg (h.st_lim hi).1 (by
  rcases Rat.le_total (a := 0) (b := zpm l 1 i - m) with h1 | h1
  ·exact Rat.mul_nonneg h1 h1
  ·have h2 : 0 ≤ m - zpm l 1 i := by grind
   have h3 := Rat.mul_nonneg h2 h2
   have e : (zpm l 1 i - m) * (zpm l 1 i - m) = (m - zpm l 1 i) * (m - zpm l 1 i) := by grind
   rw [e]; exact h3)
 have h1 := key (sg l.start.length fun i => stQ l i * zpm l 1 i)
 have h2 : 0 ≤ sg l.start.length (fun i => stQ l i * (2 * zpm l 2 i - zpm l 1 i * zpm l 1 i)) := zbp fun i hi => Rat.mul_nonneg (h.st_lim hi).1 (h.var_row i hi)
 have hs := h.st_sum
 generalize hA : (sg l.start.length fun i => stQ l i * zpm l 1 i) = A at *
 have e1 : (sg l.start.length fun i => stQ l i * ((zpm l 1 i - A) * (zpm l 1 i - A))) = sg l.start.length (fun i => stQ l i * (zpm l 1 i * zpm l 1 i)) - 2 * A * A + A * A := by
  have a1 : (sg l.start.length fun i => stQ l i * ((zpm l 1 i - A) * (zpm l 1 i - A))) = (sg l.start.length (fun i => stQ l i * (zpm l 1 i * zpm l 1 i)) + sg l.start.length (fun i => (-(2 * A)) * (stQ l i * zpm l 1 i))) + sg l.start.length (fun i => (A * A) * stQ l i) := by
   rw [← zvd, ← zvd]; exact zma fun j _ => by grind
  rw [a1, zcb, zcb, hA, hs]; grind
 have e2 : (sg l.start.length fun i => stQ l i * (2 * zpm l 2 i - zpm l 1 i * zpm l 1 i)) = (sg l.start.length fun i => stQ l i * zpm l 2 i) * 2 - sg l.start.length (fun i => stQ l i * (zpm l 1 i * zpm l 1 i)) := by
  have a1 : (sg l.start.length fun i => stQ l i * (2 * zpm l 2 i - zpm l 1 i * zpm l 1 i)) = sg l.start.length (fun i => 2 * (stQ l i * zpm l 2 i)) + sg l.start.length (fun i => (-1) * (stQ l i * (zpm l 1 i * zpm l 1 i))) := by
   rw [← zvd]; exact zma fun j _ => by grind
  rw [a1, zcb, zcb]; grind
 rw [e1] at h1
 rw [e2] at h2
 generalize (sg l.start.length fun i => stQ l i * zpm l 2 i) = Y at *
 generalize (sg l.start.length fun i => stQ l i * (zpm l 1 i * zpm l 1 i)) = Z at *
 grind
end
section
variable (a b : LQ) (p : Rat)
def smS : Nat → Rat := fun i => if i < a.start.length then stQ a i else 0
def smE : Nat → Rat := fun i => if i < a.start.length then 0 else exQ b (i - a.start.length)
def smR : Mx := fun i j => if i < a.start.length then (if j < a.start.length then rtQ a i j else exQ a i * stQ b (j - a.start.length)) else (if j < a.start.length then 0 else rtQ b (i - a.start.length) (j - a.start.length))
def zno : LQ := fnL (a.start.length + b.start.length) (smS a) (smE a b) (smR a b)
end
section
variable {a b : LQ} {p : Rat}
theorem zqp {i : Nat} (h : i < a.start.length) : smS a i = stQ a i ∧ smE a b i = 0 := by unfold smS smE; rw [if_pos h, if_pos h]; exact ⟨rfl, rfl⟩
theorem zlp (k : Nat) : smS a (a.start.length + k) = 0 ∧ smE a b (a.start.length + k) = exQ b k := by
 unfold smS smE
 rw [if_neg (by omega), if_neg (by omega), Nat.add_sub_cancel_left]; exact ⟨rfl, rfl⟩
theorem smR_aa {i j : Nat} (hi : i < a.start.length) (hj : j < a.start.length) : smR a b i j = rtQ a i j := by unfold smR; rw [if_pos hi, if_pos hj]
theorem smR_ab {i : Nat} (hi : i < a.start.length) (k : Nat) : smR a b i (a.start.length + k) = exQ a i * stQ b k := by unfold smR; rw [if_pos hi, if_neg (by omega), Nat.add_sub_cancel_left]
theorem smR_ba (k : Nat) {j : Nat} (hj : j < a.start.length) : smR a b (a.start.length + k) j = 0 := by unfold smR; rw [if_neg (by omega), if_pos hj]
theorem smR_bb (k t : Nat) : smR a b (a.start.length + k) (a.start.length + t) = rtQ b k t := by unfold smR; rw [if_neg (by omega), if_neg (by omega), Nat.add_sub_cancel_left, Nat.add_sub_cancel_left]
theorem zio {n m i : Nat} (h : i < n + m) : i < n ∨ ∃ k, k < m ∧ i = n + k := by
 rcases Nat.lt_or_ge i n with h1 | h1
 ·exact Or.inl h1
 ·exact Or.inr ⟨i - n, by omega, by omega⟩
theorem zyo {i : Nat} (hi : i < a.start.length) (x : Nat → Rat) : sg (a.start.length + b.start.length) (fun j => smR a b i j * x j) = sg a.start.length (fun j => rtQ a i j * x j) + exQ a i * sg b.start.length fun k => stQ b k * x (a.start.length + k) := by
 rw [zbn, ← zcb]
 congr 1
 ·exact zma fun j hj => by rw [smR_aa hi hj]
 ·exact zma fun k _ => by rw [smR_ab hi]; grind
theorem zxo (k : Nat) (x : Nat → Rat) : sg (a.start.length + b.start.length) (fun j => smR a b (a.start.length + k) j * x j) = sg b.start.length fun t => rtQ b k t * x (a.start.length + t) := by
 rw [zbn]
 have e : (sg a.start.length fun j => smR a b (a.start.length + k) j * x j) = sg a.start.length fun _ => 0 := zma fun j hj => by rw [smR_ba k hj, Rat.zero_mul]
 rw [e, zsi, Rat.zero_add]
 exact zma fun t _ => by rw [smR_bb]
theorem zzo {n : Nat} (f : Nat → Rat) : sg n f = sg n fun j => f j * 1 := zma fun j _ => (Rat.mul_one _).symm
theorem sum_out_a (hb : zxb b) {i : Nat} (hi : i < a.start.length) : sg (a.start.length + b.start.length) (smR a b i) = sg a.start.length (rtQ a i) + exQ a i := by
 rw [zzo, zyo hi (fun _ => 1), ← zzo, ← zzo, hb.st_sum, Rat.mul_one]
theorem sum_out_b (k : Nat) : sg (a.start.length + b.start.length) (smR a b (a.start.length + k)) = sg b.start.length (rtQ b k) := by
 rw [zzo, zxo k (fun _ => 1), ← zzo]
def zko (a b : LQ) : Nat → Rat := fun i => if i < a.start.length then zpm a 1 i + zfo b 1 else zpm b 1 (i - a.start.length)
def zso (a b : LQ) : Nat → Rat := fun i => if i < a.start.length then zpm a 2 i + zpm a 1 i * zfo b 1 + sg b.start.length (fun k => stQ b k * zpm b 2 k) else zpm b 2 (i - a.start.length)
theorem sum_x1 (ha : zxb a) (hb : zxb b) (h : zxb (zno a b)) : ∀ i, i < a.start.length + b.start.length → zpm (zno a b) 1 i = zko a b i := by
 refine fn_mom h 0 fun i hi => ?_
 show _ = (1 : Rat)
 rcases zio hi with hi | ⟨k, hk, rfl⟩
 ·rw [sum_out_a hb hi, (zqp (b := b) hi).2, zyo hi]
  have h1 : _ = (1 : Rat) := ha.mrow 0 hi
  have e1 : (sg a.start.length fun j => rtQ a i j * zko a b j) = sg a.start.length (fun j => rtQ a i j * zpm a 1 j) + sg a.start.length (rtQ a i) * zfo b 1 := by
   rw [← znc, ← zvd]
   exact zma fun j hj => by unfold zko; rw [if_pos hj]; grind
  have e2 : (sg b.start.length fun k => stQ b k * zko a b (a.start.length + k)) = zfo b 1 := by
   rw [zip]
   exact zma fun k _ => by unfold zko; rw [if_neg (by omega), Nat.add_sub_cancel_left]
  have e3 : zko a b i = zpm a 1 i + zfo b 1 := by unfold zko; rw [if_pos hi]
  rw [e1, e2, e3]
  have h1' : (sg a.start.length (rtQ a i) + exQ a i) * zpm a 1 i - (sg a.start.length fun j => rtQ a i j * zpm a 1 j) = 1 := h1
  generalize (sg a.start.length fun j => rtQ a i j * zpm a 1 j) = P at *
  generalize sg a.start.length (rtQ a i) = R at *
  clear h1 e1 e2 e3
  grind
 ·rw [sum_out_b, (zlp (a := a) (b := b) k).2, zxo]
  have h1 : _ = (1 : Rat) := hb.mrow 0 hk
  have e1 : (sg b.start.length fun t => rtQ b k t * zko a b (a.start.length + t)) = sg b.start.length (fun t => rtQ b k t * zpm b (0 + 1) t) :=
   zma fun t _ => by unfold zko; rw [if_neg (by omega), Nat.add_sub_cancel_left]
  have e3 : zko a b (a.start.length + k) = zpm b (0 + 1) k := by unfold zko; rw [if_neg (by omega), Nat.add_sub_cancel_left]
  rw [e1, e3]
  exact h1
theorem sum_x2 (ha : zxb a) (hb : zxb b) (h : zxb (zno a b)) : ∀ i, i < a.start.length + b.start.length → zpm (zno a b) 2 i = zso a b i := by
 refine fn_mom h 1 fun i hi => ?_
 have hx : zpm (fnL (a.start.length + b.start.length) (smS a) (smE a b) (smR a b)) 1 i = zko a b i := sum_x1 ha hb h i hi
 rw [hx]
 rcases zio hi with hi | ⟨k, hk, rfl⟩
 ·rw [sum_out_a hb hi, (zqp (b := b) hi).2, zyo hi]
  have h0 : (sg a.start.length (rtQ a i) + exQ a i) * zpm a 1 i - (sg a.start.length fun j => rtQ a i j * zpm a 1 j) = 1 := ha.mrow 0 hi
  have h1 : (sg a.start.length (rtQ a i) + exQ a i) * zpm a 2 i - (sg a.start.length fun j => rtQ a i j * zpm a 2 j) = zpm a 1 i := ha.mrow 1 hi
  have e1 : (sg a.start.length fun j => rtQ a i j * zso a b j) = (sg a.start.length (fun j => rtQ a i j * zpm a 2 j) + sg a.start.length (fun j => rtQ a i j * zpm a 1 j) * zfo b 1) + sg a.start.length (rtQ a i) * sg b.start.length (fun k => stQ b k * zpm b 2 k) := by
   rw [← znc, ← znc, ← zvd, ← zvd]
   exact zma fun j hj => by unfold zso; rw [if_pos hj]; grind
  have e2 : (sg b.start.length fun k => stQ b k * zso a b (a.start.length + k)) = sg b.start.length (fun k => stQ b k * zpm b 2 k) :=
   zma fun k _ => by unfold zso; rw [if_neg (by omega), Nat.add_sub_cancel_left]
  have e3 : zso a b i = zpm a 2 i + zpm a 1 i * zfo b 1 + sg b.start.length (fun k => stQ b k * zpm b 2 k) := by unfold zso; rw [if_pos hi]
  have e4 : zko a b i = zpm a 1 i + zfo b 1 := by unfold zko; rw [if_pos hi]
  rw [e1, e2, e3, e4]
  generalize (sg a.start.length fun j => rtQ a i j * zpm a 1 j) = P at *
  generalize (sg a.start.length fun j => rtQ a i j * zpm a 2 j) = Q at *
  generalize (sg b.start.length fun k => stQ b k * zpm b 2 k) = C at *
  generalize sg a.start.length (rtQ a i) = R at *
  generalize zfo b 1 = B at *
  generalize zpm a 1 i = x at *
  generalize zpm a 2 i = y at *
  generalize exQ a i = E at *
  clear e1 e2 e3 e4 hx hi
  have h2 : B * ((R + E) * x - P) = B := by rw [h0]; grind
  grind
 ·rw [sum_out_b, (zlp (a := a) (b := b) k).2, zxo]
  have h1 := hb.mrow 1 hk
  have e1 : (sg b.start.length fun t => rtQ b k t * zso a b (a.start.length + t)) = sg b.start.length (fun t => rtQ b k t * zpm b (1 + 1) t) :=
   zma fun t _ => by unfold zso; rw [if_neg (by omega), Nat.add_sub_cancel_left]
  have e3 : zso a b (a.start.length + k) = zpm b (1 + 1) k := by unfold zso; rw [if_neg (by omega), Nat.add_sub_cancel_left]
  have e4 : zko a b (a.start.length + k) = zpm b 1 k := by unfold zko; rw [if_neg (by omega), Nat.add_sub_cancel_left]
  rw [e1, e3, e4]
  exact h1
theorem sum_mean (ha : zxb a) (hb : zxb b) (h : zxb (zno a b)) : zfo (zno a b) 1 = zfo a 1 + zfo b 1 := by
 have h1 : zfo (zno a b) 1 = _ := fn_momQ 1 (sum_x1 ha hb h)
 rw [h1, f1q, Rat.mul_one, zbn, zip a]
 have e1 : (sg a.start.length fun i => smS a i * zko a b i) = sg a.start.length (fun i => stQ a i * zpm a 1 i) + sg a.start.length (stQ a) * zfo b 1 := by
  rw [← znc, ← zvd]
  exact zma fun i hi => by unfold zko; rw [if_pos hi, (zqp (b := b) hi).1]; grind
 have e2 : (sg b.start.length fun j => smS a (a.start.length + j) * zko a b (a.start.length + j)) = sg b.start.length fun _ => 0 := zma fun k _ => by rw [(zlp (a := a) (b := b) k).1, Rat.zero_mul]
 rw [e1, e2, zsi, ha.st_sum]
 grind
theorem sum_mom2 (ha : zxb a) (hb : zxb b) (h : zxb (zno a b)) : zfo (zno a b) 2 = zfo a 2 + 2 * zfo a 1 * zfo b 1 + zfo b 2 := by
 have h1 : zfo (zno a b) 2 = _ := fn_momQ 2 (sum_x2 ha hb h)
 rw [h1, f2q, zbn, ztp a, ztp b, zip a]
 have e1 : (sg a.start.length fun i => smS a i * zso a b i) = (sg a.start.length (fun i => stQ a i * zpm a 2 i) + sg a.start.length (fun i => stQ a i * zpm a 1 i) * zfo b 1) + sg a.start.length (stQ a) * sg b.start.length (fun k => stQ b k * zpm b 2 k) := by
  rw [← znc, ← znc, ← zvd, ← zvd]
  exact zma fun i hi => by unfold zso; rw [if_pos hi, (zqp (b := b) hi).1]; grind
 have e2 : (sg b.start.length fun j => smS a (a.start.length + j) * zso a b (a.start.length + j)) = sg b.start.length fun _ => 0 := zma fun k _ => by rw [(zlp (a := a) (b := b) k).1, Rat.zero_mul]
 rw [e1, e2, zsi, ha.st_sum]
 grind
theorem sum_var (ha : zxb a) (hb : zxb b) (h : zxb (zno a b)) : (zfo a 2 - zfo a 1 * zfo a 1) + (zfo b 2 - zfo b 1 * zfo b 1) = zfo (zno a b) 2 - zfo (zno a b) 1 * zfo (zno a b) 1 := by
 rw [sum_mean ha hb h, sum_mom2 ha hb h]
 grind
end
def midN (n : Nat) (q : Rat) : Prop := ∃ E K, E ≠ 0 ∧ E < 2 ^ n ∧ K < 2 ^ n ∧ over E K q
def mid (q : Rat) : Prop := midN 240 q
theorem zgp {x y a b : Nat} (h1 : x < 2 ^ a) (h2 : y < 2 ^ b) : x * y < 2 ^ (a + b) := by
 rw [Nat.pow_add]
 exact Nat.mul_lt_mul'' h1 h2
section
variable {a b : Nat} {p q : Rat}
theorem midN.fits (h : midN a p) (ha : a ≤ 4096) : Go.Proofs.YtlpdkbmmbdfoiaaGreat.fits p := by
 obtain ⟨E, K, h1, h2, h3, h4⟩ := h
 exact h4.fits h1 (zwc h3 ha) (zwc h2 ha)
theorem midN.mul (h : midN a p) (k : midN b q) : midN (a + b) (p * q) := by
 obtain ⟨E, K, h1, h2, h3, h4⟩ := h
 obtain ⟨F, L, k1, k2, k3, k4⟩ := k
 exact ⟨E * F, K * L, Nat.mul_ne_zero h1 k1, zgp h2 k2, zgp h3 k3, over.mul h4 k4⟩
theorem midN.two (h : midN a p) (k : midN b q) : midN (a + b + 1) (p + q) ∧ midN (a + b + 1) (p - q) := by
 obtain ⟨E, K, h1, h2, h3, h4⟩ := h
 obtain ⟨F, L, k1, k2, k3, k4⟩ := k
 have e1 : K * F < 2 ^ (a + b) := zgp h3 k2
 have e2 : L * E < 2 ^ (a + b) := by have := zgp k3 h2; rwa [Nat.add_comm b a] at this
 have e3 : E * F < 2 ^ (a + b) := zgp h2 k2
 have e4 : 2 ^ (a + b + 1) = 2 ^ (a + b) * 2 := Nat.pow_succ _ _
 have g1 := over.scale k1 h4
 have g2 := over.scale h1 k4
 rw [Nat.mul_comm F E] at g2
 have h0 := Nat.mul_ne_zero h1 k1
 exact ⟨⟨_, _, h0, by omega, by omega, over.add h0 g1 g2⟩, ⟨_, _, h0, by omega, by omega, over.sub h0 g1 g2⟩⟩
end
section
variable {p q r s : Rat}
theorem mid.fits (h : mid q) : Go.Proofs.YtlpdkbmmbdfoiaaGreat.fits q := midN.fits h (by decide)
theorem mid.mul_fits (h : mid p) (k : mid q) : Go.Proofs.YtlpdkbmmbdfoiaaGreat.fits (p * q) := (midN.mul h k).fits (by decide)
theorem mid.var_fits (h : mid p) (k : mid q) : Go.Proofs.YtlpdkbmmbdfoiaaGreat.fits (p - q * q) := (midN.two h (midN.mul k k)).2.fits (by decide)
end
section
variable {l : LQ} {D B : Nat}
theorem mom_mid (h : zxb l) (hs : SmL D B l) (hD : D ≠ 0) (hD1 : D ≤ 6720) (hB : D ≤ 5 * B) (hB1 : 5 * B ≤ 1814400) {DS : Nat} (hDS : DS ≠ 0) (hDS2 : DS ≤ 2 ^ 13) (hst : ∀ i, i < l.start.length → over DS (2 ^ 13) (stQ l i)) : mid (zfo l 1) ∧ mid (zfo l 2) := by
 have hS := h.sms hs hD hD1 hB hB1
 obtain ⟨E1, a1, a2, a3⟩ := hS.sol (F := 1) (K := 1) (by decide) (fun i _ => zeg) (h.mom_eq 0)
 rw [Nat.mul_one] at a3
 have e91 : 2 ^ 91 * 1 = 2 ^ 91 := Nat.mul_one _
 rw [e91] at a3
 obtain ⟨E2, c1, c2, c3⟩ := hS.sol (F := E1) (K := 2 ^ 91) a1 a3 (h.mom_eq 1)
 have n4 := h.n4
 have key : ∀ (x : Nat → Rat) (E K f : Nat), E ≠ 0 → E < 2 ^ 200 → K ≤ 2 ^ 200 → f ≤ 2 → (∀ i, i < l.start.length → over E K (x i)) → mid ((sg l.start.length fun i => stQ l i * x i) * fq false f 1) := fun x E K f hE hE2 hK hf hx => by
  have h1 : over (DS * E) (l.start.length * (2 ^ 13 * K)) (sg l.start.length fun i => stQ l i * x i) := over.sg (Nat.mul_ne_zero hDS hE) fun i hi => over.mul (hst i hi) (hx i hi)
  have h2 : over 1 2 (fq false f 1) := by
   refine ⟨(f : Int), ?_, by simp; omega⟩
   unfold fq sgn
   simp
  have h3 := over.mul h1 h2
  rw [Nat.mul_one] at h3
  refine ⟨_, _, Nat.mul_ne_zero hDS hE, ?_, ?_, h3⟩
  ·have g1 : DS * E ≤ 2 ^ 13 * E := Nat.mul_le_mul_right _ hDS2
   have g2 : 2 ^ 13 * E < 2 ^ 13 * 2 ^ 200 := Nat.mul_lt_mul_of_pos_left hE2 (by decide +kernel)
   exact Nat.lt_of_lt_of_le (Nat.lt_of_le_of_lt g1 g2) (by decide +kernel)
  ·have g1 : l.start.length * (2 ^ 13 * K) * 2 ≤ 4 * (2 ^ 13 * 2 ^ 200) * 2 := Nat.mul_le_mul_right _ (Nat.mul_le_mul n4 (Nat.mul_le_mul_left _ hK))
   exact Nat.lt_of_le_of_lt g1 (by decide +kernel)
 rw [zhp, zhp]
 refine ⟨key _ E1 _ (zem 1) a1 (Nat.lt_trans a2 (by decide +kernel)) (by decide +kernel) (by decide) a3, key _ (E2 * E1) _ (zem 2) (Nat.mul_ne_zero c1 a1) ?_ (by decide +kernel) (by decide) c3⟩
 exact Nat.lt_of_lt_of_le (Nat.mul_lt_mul'' c2 a2) (by decide +kernel)
end
theorem lim_over {D B : Nat} {q : Rat} (hD : D ≠ 0) (h : over D B q) (h0 : 0 ≤ q) (h1 : D < 2 ^ 32) (h2 : B < 2 ^ 32) : zvg q := by
 obtain ⟨s, n, rfl, h4⟩ := h.fq
 refine ⟨h0, ?_, ?_⟩
 ·rw [zif _ _ _ hD]
  exact zre (Nat.lt_of_le_of_lt (Nat.div_le_self _ _) (Nat.lt_of_le_of_lt h4 h2))
 ·rw [zsm _ _ _ hD]
  exact zre (Nat.lt_of_le_of_lt (Nat.div_le_self _ _) h1)
section
variable {a b : LQ} {p : Rat}
theorem zch.step {m : Nat} (h : zch m a) {i : Nat} (hi : i < a.start.length) : 0 < exQ a i ∨ (i + 1 < a.start.length ∧ 0 < rtQ a i (i + 1)) := by
 obtain ⟨n, h1, h2, h3⟩ := h
 rw [h3.sl] at hi ⊢
 rcases h3.ex_get hi with h4 | ⟨_, h4⟩
 ·exact Or.inl h4.pos
 ·exact Or.inr ⟨h4, ((h3.rt_get hi h4).1 rfl).pos⟩
theorem lenN (ha : zch 2 a) (hb : zch 2 b) : a.start.length + b.start.length ≤ 4 ∧ a.start.length * b.start.length ≤ 4 := ⟨Nat.add_le_add ha.len hb.len, Nat.mul_le_mul ha.len hb.len⟩
theorem zap (ha : zch 2 a) (hb : zch 2 b) : zxb (zno a b) := by
 have pa := ha.law (by decide)
 have pb := hb.law (by decide)
 have n1 := pa.n1
 have m1 := pb.n1
 obtain ⟨h4, _⟩ := lenN ha hb
 refine fn_law (by omega) h4 (fun i hi => ?_) (fun i hi => ?_) (fun i j hi hj => ?_) (fun i hi => ?_) ?_ fun i hi => ?_
 ·rcases zio hi with h | ⟨k, hk, rfl⟩
  ·rw [(zqp (b := b) h).1]; exact pa.st_lim h
  ·rw [(zlp (b := b) k).1]; exact zfi
 ·rcases zio hi with h | ⟨k, hk, rfl⟩
  ·rw [(zqp h).2]; exact zfi
  ·rw [(zlp k).2]; exact pb.ex_lim hk
 ·rcases zio hi with h | ⟨k, hk, rfl⟩
  ·rcases zio hj with h2 | ⟨t, ht, rfl⟩
   ·rw [smR_aa h h2]; exact pa.rt_lim h h2
   ·rw [smR_ab h]
    exact lim_over (by decide) (over.mul (ha.sm.e i h) (hb.start8 ht)) (Rat.mul_nonneg (pa.ex_lim h).1 (pb.st_lim ht).1) (by decide) (by decide)
  ·rcases zio hj with h2 | ⟨t, ht, rfl⟩
   ·rw [smR_ba k h2]; exact zfi
   ·rw [smR_bb]; exact pb.rt_lim hk ht
 ·rcases zio hi with h | ⟨k, hk, rfl⟩
  ·rw [smR_aa h h]; exact pa.rt_diag h
  ·rw [smR_bb]; exact pb.rt_diag hk
 ·rw [zbn]
  have e1 : sg a.start.length (smS a) = 1 := by rw [← pa.st_sum]; exact zma fun i hi => (zqp (b := b) hi).1
  have e2 : (sg b.start.length fun j => smS a (a.start.length + j)) = sg b.start.length fun _ => 0 := zma fun k _ => (zlp (b := b) k).1
  rw [e1, e2, zsi, Rat.add_zero]
 ·rcases zio hi with h | ⟨k, hk, rfl⟩
  ·right
   rcases ha.step h with h1 | ⟨h1, h2⟩
   ·have hne : ∃ k, k < b.start.length ∧ 0 < stQ b k := Classical.byContradiction fun hn => by
     have h5 : sg b.start.length (stQ b) = sg b.start.length fun _ => 0 := zma fun k hk => by
      refine Rat.le_antisymm (Rat.not_lt.1 fun h6 => hn ⟨k, hk, h6⟩) (pb.st_lim hk).1
     rw [pb.st_sum, zsi] at h5
     exact absurd h5 (by decide +kernel)
    obtain ⟨k, hk, h6⟩ := hne
    refine ⟨a.start.length + k, by omega, by omega, ?_⟩
    rw [smR_ab h]
    exact Rat.mul_pos h1 h6
   ·exact ⟨i + 1, by omega, by omega, by rw [smR_aa h h1]; exact h2⟩
  ·rcases hb.step hk with h1 | ⟨h1, h2⟩
   ·left; rw [(zlp k).2]; exact h1
   ·right
    exact ⟨a.start.length + (k + 1), by omega, by omega, by rw [smR_bb]; exact h2⟩
theorem zsp {B : Nat} {q : Rat} (h : over 840 B q) : over 6720 (B * 8) q := over.scale (m := 8) (by decide) h
theorem sum_sm (ha : zch 2 a) (hb : zch 2 b) : SmL 6720 40320 (zno a b) := by
 refine fn_sm (fun i j hi hj => ?_) fun i hi => ?_
 ·rcases zio hi with h | ⟨k, hk, rfl⟩
  ·rcases zio hj with h2 | ⟨t, ht, rfl⟩
   ·rw [smR_aa h h2]; exact zsp (ha.sm.r i j h h2)
   ·rw [smR_ab h]; exact over.mul (ha.sm.e i h) (hb.start8 ht)
  ·rcases zio hj with h2 | ⟨t, ht, rfl⟩
   ·rw [smR_ba k h2]; exact over.zero _ _
   ·rw [smR_bb]; exact zsp (hb.sm.r k t hk ht)
 ·rcases zio hi with h | ⟨k, hk, rfl⟩
  ·rw [(zqp h).2]; exact over.zero _ _
  ·rw [(zlp k).2]; exact zsp (hb.sm.e k hk)
theorem sum_st (ha : zch 2 a) {i : Nat} (hi : i < (zno a b).start.length) : over 8 (2 ^ 13) (stQ (zno a b) i) := by
 rw [show (zno a b).start.length = a.start.length + b.start.length from zjo] at hi
 rw [show stQ (zno a b) i = smS a i from fn_st hi]
 rcases zio hi with h | ⟨k, hk, rfl⟩
 ·rw [(zqp (b := b) h).1]; exact start13 ha h
 ·rw [(zlp (b := b) k).1]; exact over.zero _ _
theorem sum_mom (ha : zch 2 a) (hb : zch 2 b) : MomP (zno a b) 1 1 ∧ MomP (zno a b) 2 2 :=
 zto (zap ha hb) (sum_sm ha hb) (by decide) (by decide) (by decide) (by decide) (DS := 8) (by decide) (by decide) fun i hi => sum_st ha hi
theorem sum_mid (ha : zch 2 a) (hb : zch 2 b) : mid (zfo (zno a b) 1) ∧ mid (zfo (zno a b) 2) :=
 mom_mid (zap ha hb) (sum_sm ha hb) (by decide) (by decide) (by decide) (by decide) (DS := 8) (by decide) (by decide) fun i hi => sum_st ha hi
theorem tape_mid (ha : zch 2 a) : mid (zfo a 1) ∧ mid (zfo a 2) :=
 mom_mid (ha.law (by decide)) ha.sm (by decide) (by decide) (by decide) (by decide) (DS := 8) (by decide) (by decide) fun i hi => start13 ha hi
end
section
variable {n : Nat} {q : Rat}
theorem erl_out (h : zxb (zho n q)) (hn : 1 ≤ n) {i : Nat} (hi : i < n) : zxf (zho n q) i = q := by
 rw [h.out_sg (by rw [zjg]; exact hi), zjg, erl_ex hn]
 by_cases e : i = n - 1
 ·have e1 : sg n (rtQ (zho n q) i) = sg n fun _ => 0 := zma fun j hj => by rw [zjp hi hj, if_neg (by omega)]
  rw [e1, zsi, if_pos e, Rat.zero_add]
 ·have e1 : sg n (rtQ (zho n q) i) = sg n fun j => if i + 1 = j then q else 0 := zma fun j hj => by
   rw [zjp hi hj]
   by_cases h : j = i + 1
   ·rw [if_pos h, if_pos h.symm]
   ·rw [if_neg h, if_neg (fun e => h e.symm)]
  rw [e1, zfd (f := fun _ => q) (show i + 1 < n by omega), if_neg e, Rat.add_zero]
theorem erl_row (h : zxb (zho n q)) (hn : 1 ≤ n) {i : Nat} (hi : i < n) (x : Nat → Rat) (hx : x n = 0) : sg n (fun j => phA (zho n q) i j * x j) = q * x i - q * x (i + 1) := by
 have h1 := h.row_eq (by rw [zjg]; exact hi) x
 rw [zjg, erl_out h hn hi] at h1
 rw [h1]
 congr 1
 by_cases e : i + 1 = n
 ·have e1 : (sg n fun j => rtQ (zho n q) i j * x j) = sg n fun _ => 0 := zma fun j hj => by rw [zjp hi hj, if_neg (by omega), Rat.zero_mul]
  rw [e1, zsi, e, hx, Rat.mul_zero]
 ·have e1 : (sg n fun j => rtQ (zho n q) i j * x j) = sg n fun j => if i + 1 = j then q * x j else 0 := zma fun j hj => by
   rw [zjp hi hj]
   by_cases h : j = i + 1
   ·rw [if_pos h, if_pos h.symm]
   ·rw [if_neg h, if_neg (fun e => h e.symm), Rat.zero_mul]
  rw [e1, zfd (f := fun j => q * x j) (show i + 1 < n by omega)]
theorem natc (a b : Nat) : ((a + b : Nat) : Rat) = (a : Rat) + (b : Rat) := by push_cast; rfl
theorem erl_x1 (h : zxb (zho n q)) (hn : 1 ≤ n) (hq : q ≠ 0) : ∀ i, i < n → zpm (zho n q) 1 i = ((n - i : Nat) : Rat) * q⁻¹ := by
 have h1 := h.uniq (x := zpm (zho n q) 1) (y := fun i => ((n - i : Nat) : Rat) * q⁻¹) fun i hi => by
  rw [h.mom_eq 0 i hi]
  rw [zjg] at hi ⊢
  rw [erl_row h hn hi (fun i => ((n - i : Nat) : Rat) * q⁻¹) (by simp)]
  obtain ⟨k, hk⟩ : ∃ k, n = i + 1 + k := ⟨n - (i + 1), by omega⟩
  have e1 : n - i = k + 1 := by omega
  have e2 : n - (i + 1) = k := by omega
  show (1 : Rat) = q * (((n - i : Nat) : Rat) * q⁻¹) - q * (((n - (i + 1) : Nat) : Rat) * q⁻¹)
  have e3 : q * q⁻¹ = 1 := Rat.mul_inv_cancel q hq
  rw [e1, e2, natc]
  generalize q⁻¹ = r at *
  have e4 : ((1 : Nat) : Rat) = 1 := by simp
  rw [e4]
  grind
 rw [zjg] at h1
 exact h1
theorem erl_x2 (h : zxb (zho n q)) (hn : 1 ≤ n) (hq : q ≠ 0) : ∀ i, i < n → zpm (zho n q) 2 i * 2 = ((n - i : Nat) : Rat) * ((n - i + 1 : Nat) : Rat) * (q⁻¹ * q⁻¹) := by
 have h1 := h.uniq (x := fun i => zpm (zho n q) 2 i * 2) (y := fun i => ((n - i : Nat) : Rat) * ((n - i + 1 : Nat) : Rat) * (q⁻¹ * q⁻¹)) fun i hi => by
  have e0 : (sg (zho n q).start.length fun j => phA (zho n q) i j * (zpm (zho n q) 2 j * 2)) = zpm (zho n q) 1 i * 2 := by
   have h2 := h.mom_eq 1 i hi
   rw [← h2, ← znc]
   exact zma fun j _ => by grind
  rw [e0]
  rw [zjg] at hi ⊢
  rw [erl_row h hn hi (fun i => ((n - i : Nat) : Rat) * ((n - i + 1 : Nat) : Rat) * (q⁻¹ * q⁻¹)) (by simp), erl_x1 h hn hq i hi]
  obtain ⟨k, hk⟩ : ∃ k, n = i + 1 + k := ⟨n - (i + 1), by omega⟩
  have e1 : n - i = k + 1 := by omega
  have e2 : n - (i + 1) = k := by omega
  show _ = q * (((n - i : Nat) : Rat) * ((n - i + 1 : Nat) : Rat) * (q⁻¹ * q⁻¹)) - q * (((n - (i + 1) : Nat) : Rat) * ((n - (i + 1) + 1 : Nat) : Rat) * (q⁻¹ * q⁻¹))
  have e3 : q * q⁻¹ = 1 := Rat.mul_inv_cancel q hq
  rw [e1, e2, natc (k + 1) 1, natc k 1]
  generalize q⁻¹ = r at *
  have e4 : ((1 : Nat) : Rat) = 1 := by simp
  rw [e4]
  generalize (k : Rat) = K
  have e5 : q * ((K + 1) * (K + 1 + 1) * (r * r)) - q * (K * (K + 1) * (r * r)) = (q * r) * (2 * ((K + 1) * r)) := by grind
  rw [e5, e3]
  grind
 rw [zjg] at h1
 exact h1
theorem erl_sg (hn : 1 ≤ n) (x : Nat → Rat) : (sg n fun i => stQ (zho n q) i * x i) = x 0 := by
 have e : (sg n fun i => stQ (zho n q) i * x i) = sg n fun i => if 0 = i then x i else 0 := zma fun i hi => by
  rw [erl_st hn]
  by_cases h : i = 0
  ·rw [if_pos h, if_pos h.symm, Rat.one_mul]
  ·rw [if_neg h, if_neg (fun e => h e.symm), Rat.zero_mul]
 rw [e, zfd (f := x) (show 0 < n by omega)]
theorem erl_mom1 (h : zxb (zho n q)) (hn : 1 ≤ n) (hq : q ≠ 0) : zfo (zho n q) 1 = (n : Rat) / q := by
 rw [zip, zjg, erl_sg hn, erl_x1 h hn hq 0 (by omega), Rat.div_def]
 rfl
theorem erl_mom2 (h : zxb (zho n q)) (hn : 1 ≤ n) (hq : q ≠ 0) : zfo (zho n q) 2 = ((n * (n + 1) : Nat) : Rat) / q / q := by
 rw [ztp, zjg, erl_sg hn, erl_x2 h hn hq 0 (by omega), Rat.div_def, Rat.div_def]
 have e : ((n * (n + 1) : Nat) : Rat) = (n : Rat) * ((n + 1 : Nat) : Rat) := by push_cast; rfl
 rw [e]
 show (n : Rat) * ((n + 1 : Nat) : Rat) * _ = _
 grind
end
theorem fq1_nat (n : Nat) : fq false n 1 = (n : Rat) := by unfold fq sgn; rw [if_neg (by decide), Rat.mkRat_one]; first | exact Rat.intCast_natCast n | rfl | norm_cast
section
variable {k x y : Nat}
def rt8 (x y : Nat) : Rat := fq false (1 + x) (1 + y)
theorem rt8_over (hx : x < 256) (hy : y < 256) : over (1 + y) 256 (rt8 x y) := by
 refine ⟨((1 + x : Nat) : Int), ?_, by rw [Int.natAbs_natCast]; omega⟩
 unfold rt8 fq sgn
 simp
theorem zrp : 0 < rt8 x y := by
 unfold rt8 fq sgn
 rw [if_neg (by decide), Rat.mkRat_eq_div, Rat.div_def]
 refine Rat.mul_pos (Rat.intCast_pos.2 (by omega)) ?_
 refine Rat.inv_pos.2 (Rat.intCast_pos.2 (by omega))
theorem rt8_lim (hx : x < 256) (hy : y < 256) : zvg (rt8 x y) := lim_over (by omega) (rt8_over hx hy) (Rat.le_of_lt zrp) (Nat.lt_trans (show 1 + y < 1000 by omega) (by decide)) (by decide)
theorem erl8_law (hk : 1 ≤ k) (hk4 : k ≤ 4) (hx : x < 256) (hy : y < 256) : zxb (zho k (rt8 x y)) := erl_law hk hk4 (rt8_lim hx hy) zrp
theorem zwp (hk : 1 ≤ k) (hk4 : k ≤ 4) (hx : x < 256) (hy : y < 256) : MomP (zho k (rt8 x y)) 1 1 ∧ MomP (zho k (rt8 x y)) 2 2 :=
 zto (erl8_law hk hk4 hx hy) (erl_sm hk (rt8_over hx hy)) (by omega) (by omega) (by omega) (by decide) (DS := 1) (by decide) (by decide) fun i hi => zml hk i
theorem erl8_fits (hk : 1 ≤ k) (hk4 : k ≤ 4) (hx : x < 256) (hy : y < 256) : fits (zfo (zho k (rt8 x y)) 1) ∧ fits (zfo (zho k (rt8 x y)) 2) := ⟨mom_fits (zwp hk hk4 hx hy).1 rfl, mom_fits (zwp hk hk4 hx hy).2 rfl⟩
end
def L3 (a b : LQ) (i : Nat) : LQ := if i = 0 then a else if i = 1 then b else zno a b
def mq3 (a b : LQ) (k i : Nat) : Rat := zfo (L3 a b i) k
def dq3 (a b : LQ) (i : Nat) : Rat := mq3 a b 2 i - mq3 a b 1 i * mq3 a b 1 i
section
variable {a b : LQ}
theorem l3_law (ha : zch 2 a) (hb : zch 2 b) (i : Nat) : zxb (L3 a b i) ∧ (MomP (L3 a b i) 1 1 ∧ MomP (L3 a b i) 2 2) ∧ mid (mq3 a b 1 i) ∧ mid (mq3 a b 2 i) := by
 unfold mq3 L3
 split
 ·exact ⟨ha.law (by decide), tape_mom ha, tape_mid ha⟩
 ·split
  ·exact ⟨hb.law (by decide), tape_mom hb, tape_mid hb⟩
  ·exact ⟨zap ha hb, sum_mom ha hb, sum_mid ha hb⟩
theorem d3_nn (ha : zch 2 a) (hb : zch 2 b) (i : Nat) : 0 ≤ dq3 a b i := (l3_law ha hb i).1.var_nn
theorem zkp (ha : zch 2 a) (hb : zch 2 b) (i : Nat) : fits (mq3 a b 1 i) ∧ fits (mq3 a b 2 i) ∧ fits (mq3 a b 1 i * mq3 a b 1 i) ∧ fits (dq3 a b i) := by
 obtain ⟨_, _, h1, h2⟩ := l3_law ha hb i
 exact ⟨h1.fits, h2.fits, h1.mul_fits h1, h2.var_fits h1⟩
theorem d3_sum (ha : zch 2 a) (hb : zch 2 b) : dq3 a b 0 + dq3 a b 1 = dq3 a b 2 := sum_var (ha.law (by decide)) (hb.law (by decide)) (zap ha hb)
end
end Go.Proofs.YtlpdkbmmbdfoiaaGreat
namespace Go.Proofs.YtlpdkbmmbdfoiaaGreat
open Go.RowKit
theorem append_rowsP {P : Program} (t e : TypeId) (i : TypeInfo) (ht : P.underlying t = some (.slice e)) (hi : P.info? e = some i) (hz : i.zero = some (.slice none 0 0)) (hsize : i.size = 1) (hby : i.bytes = 24)
 (w : World) {ops : Array Oper} {rest : List Oper} {o : Oper} {a : Act} {Q : Exit → Act → World → Prop} (hgd : o.guard = none) (s x : Operand)
 (ho : o.op = .call { callee := .builtin .append, args := #[s, x], argTypes := #[t, t] }) (B : Nat)
 (v : Value) (xs : List Value) (hs : a.eval s = v) (hown : zlc w e B 1 v xs.length xs) (ad : Addr) (m c : Nat) (hxe : a.eval x = .slice (some ad) m c) (news : List Value) (hl : news.length = m)
 (hnews : ∀ j u, news[j]? = some u → w.cell? (ad.add j) = some u) (h1 : ∀ u ∈ news, u.oneCell' = true) (hnn : ∀ c ∈ news, ∀ z, c ≠ .int .u32 z) (hn : xs.length + m ≤ 1000) (hbase : B ≤ w.heap.size)
 (h : ∀ v' w', zlc w' e B 1 v' (xs ++ news).length (xs ++ news) → w.grownBy w' v.ownBlock → zlb w v → (v'.ownBlock = v.ownBlock ∨ v'.ownBlock = some w.heap.size) → zgc v' → wpList P ops Q rest (a.put o.dst v') w') :
 wpList P ops Q (o :: rest) a w := by
 refine wpList_plain hgd fun K hK => ?_
 obtain ⟨v', w', hr, k1, k2, k3, k4⟩ := zwd (P := P) w B t o.type e i _ 1 24 ht hi hz hsize hby rfl (by decide) v xs.length xs hown.own ad m c news (by omega)
  hnews h1 (by simp [maxLen]; omega) (by omega) hbase hown.nl hnn (fun c hc z => by
   have hc2 : c ∈ [Value.slice none 0 0] := hc
   simp at hc2; subst hc2; simp)
 unfold Oper.wp execOp
 simp only [ho, resolve, invoke, builtin, Sem.run_bind, Sem.run_pure, Result.andThen_ok, List.map_toArray, List.map_cons, List.map_nil, hs, hxe, hr]
 have hR : zlc w' e B 1 v' (xs.length + m) (xs ++ news) := ⟨k1, k4⟩
 exact hK _ _ (h v' w' (by rw [List.length_append, hl]; exact hR) k2 hown.nl k3 hR.sl)
end Go.Proofs.YtlpdkbmmbdfoiaaGreat
