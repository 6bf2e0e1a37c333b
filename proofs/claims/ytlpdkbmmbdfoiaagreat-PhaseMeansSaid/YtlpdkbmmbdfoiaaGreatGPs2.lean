/-
  Laws given by functions: the sum of two times, one or the other, the first of both; their moments. No program is walked here.
-/
import Derived.Test.YtlpdkbmmbdfoiaaGreatFPp6
import Derived.Test.YtlpdkbmmbdfoiaaGreatFPh14
import Derived.Test.YtlpdkbmmbdfoiaaGreatFPh8
import Derived.Test.YtlpdkbmmbdfoiaaGreatFOrd
import Derived.Test.YtlpdkbmmbdfoiaaGreatFPp4
set_option linter.unusedVariables false
set_option linter.unusedSimpArgs false
namespace Go.Proofs.YtlpdkbmmbdfoiaaGreat
section
variable {k : Rat} {l : LQ}
theorem zxb.uniq (h : zxb l) {x y : Nat → Rat} (he : ∀ i, i < l.start.length → sg l.start.length (fun j => phA l i j * x j) = sg l.start.length (fun j => phA l i j * y j)) : ∀ i, i < l.start.length → x i = y i := by
 have key : ∀ {x y : Nat → Rat}, (∀ i, i < l.start.length → sg l.start.length (fun j => phA l i j * x j) = sg l.start.length (fun j => phA l i j * y j)) → ∀ i, i < l.start.length → 0 ≤ x i - y i := fun {x y} he i hi => by
  refine h.nonneg (x := fun j => x j - y j) (b := fun _ => 0) (fun _ _ => Rat.le_refl) (fun i hi => ?_) i hi
  have e : sg l.start.length (fun j => phA l i j * (x j - y j)) = sg l.start.length (fun j => phA l i j * x j) + (-1) * sg l.start.length (fun j => phA l i j * y j) := by
   rw [← zcb, ← zvd]
   exact zma fun j _ => by grind
  rw [e, he i hi]
  grind
 intro i hi
 have h1 := key he i hi
 have h2 := key (fun i hi => (he i hi).symm) i hi
 grind
theorem zhp (l : LQ) (n : Nat) : zfo l n = sg l.start.length (fun i => stQ l i * zpm l n i) * fq false (zem n) 1 := by
 unfold zfo zvn
 rw [Rat.zero_add]
 congr 1
 refine zma fun t ht => ?_
 have g : (zib l.start.length (zpm l n)).getD t 0 = zpm l n t := by rw [List.getD_eq_getElem?_getD, List.getElem?_eq_getElem (by rw [zea]; exact ht), Option.getD_some, ztb]
 rw [g]
 rfl
end
section
variable {k : Rat} {a b : LQ}
end
section
variable {k n : Nat} {l a b : LQ}
theorem start13 (h : zch 2 l) {i : Nat} (hi : i < l.start.length) : over 8 (2 ^ 13) (stQ l i) := (h.start8 hi).mono (by decide)
theorem tape_mom (h : zch 2 l) : MomP l 1 1 ∧ MomP l 2 2 := zto (h.law (by decide)) h.sm (by decide) (by decide) (by decide) (by decide) (DS := 8) (by decide) (by decide) fun i hi => start13 h hi
theorem mom_fits {f : Nat} (h : MomP l n f) (hf : f = zem n) : fits (zfo l n) := by
 subst hf
 exact h.sca.fr
end
end Go.Proofs.YtlpdkbmmbdfoiaaGreat
namespace Go.Proofs.YtlpdkbmmbdfoiaaGreat
open Go.RowKit
def zwo (n : Nat) (f : Mx) : List (List Rat) := (List.range n).map fun i => zib n (f i)
theorem zdo (n : Nat) (f : Mx) : (zwo n f).length = n := by simp [zwo]
theorem zeo (n : Nat) (f : Mx) (i : Nat) (h : i < (zwo n f).length) : (zwo n f)[i] = zib n (f i) := by simp [zwo]
theorem tabL_congr {n : Nat} {f g : Mx} (h : ∀ i j, i < n → j < n → f i j = g i j) : zwo n f = zwo n g :=
 List.map_congr_left fun i hi => zdf fun j hj => h i j (List.mem_range.1 hi) hj
theorem zeros_row (n : Nat) : zeb n = zib n fun _ => 0 := by
 refine List.ext_getElem (by rw [zwa, zea]) fun i h1 h2 => ?_
 rw [ztb]
 exact (List.mem_replicate.1 (List.getElem_mem h1)).2
theorem zeros_tab (n : Nat) : List.replicate n (zeb n) = zwo n fun _ _ => 0 := by
 refine List.ext_getElem (by simp [zwo]) fun i h1 h2 => ?_
 rw [zeo, List.getElem_replicate, zeros_row]
theorem tabL_put {n i j : Nat} {f g : Mx} (hi : i < n) (hj : j < n) (h : ∀ r c, r < n → c < n → ¬ (r = i ∧ c = j) → f r c = g r c) (hi2 : i < (zwo n f).length) : (zwo n f).set i ((zwo n f)[i].set j (g i j)) = zwo n g := by
 refine List.ext_getElem (by simp [zwo]) fun r h1 h2 => ?_
 have hr : r < n := by rw [zdo] at h2; exact h2
 rw [List.getElem_set, zeo n g]
 by_cases e : i = r
 ·subst e
  rw [if_pos rfl, zeo n f]
  exact zmk fun k hk hne => h i k hr hk (fun e => hne e.2)
 ·rw [if_neg e, zeo n f]
  exact zdf fun k hk => h r k hr hk (fun e2 => e e2.1.symm)
def zmo (w : World) (B : Nat) (vs ve vr : Value) (rs : List Value) (n : Nat) (s e : Nat → Rat) (f : Mx) : Prop := zve w B vs ve vr rs (zib n s) (zib n e) (zwo n f)
section
variable {w w' : World} {B n : Nat} {vs ve vr : Value} {rs : List Value} {s e s' e' : Nat → Rat} {f g : Mx}
theorem zve.lawT (h : zve w B vs ve vr rs (zeb n) (zeb n) (List.replicate n (zeb n))) : zmo w B vs ve vr rs n (fun _ => 0) (fun _ => 0) (fun _ _ => 0) := by
 unfold zmo
 rw [← zeros_row, ← zeros_tab]
 exact h
theorem zmo.below (h : zmo w B vs ve vr rs n s e f) (hb : Below w.heap.size w w') : zmo w' B vs ve vr rs n s e f := zve.below h hb
theorem zmo.congr (h : zmo w B vs ve vr rs n s e f) (h1 : ∀ i, i < n → s i = s' i) (h2 : ∀ i, i < n → e i = e' i) (h3 : ∀ i j, i < n → j < n → f i j = g i j) : zmo w B vs ve vr rs n s' e' g := by
 unfold zmo at *
 rw [zdf h1, zdf h2, tabL_congr h3] at h
 exact h
theorem zmo.rsl (h : zmo w B vs ve vr rs n s e f) : rs.length = n := by
 have h1 := zve.rl h
 rw [zdo] at h1
 exact h1
theorem zmo.putS (h : zmo w B vs ve vr rs n s e f) {i : Nat} (hi : i < n) (hs : ∀ k, k < n → k ≠ i → s k = s' k) {x y z : Value} (hf : zqa w (.agg #[x, y, z]) (s' i)) :
 zmo (((w.setCell (ptr vs (i * 3)) x).setCell (ptr vs (i * 3 + 1)) y).setCell (ptr vs (i * 3 + 2)) z) B vs ve vr rs n s' e f ∧ Below B w (((w.setCell (ptr vs (i * 3)) x).setCell (ptr vs (i * 3 + 1)) y).setCell (ptr vs (i * 3 + 2)) z) := by
 have h1 := zve.putS h (i := i) (by rw [zea]; exact hi) hf
 rw [zmk hs] at h1
 exact h1
theorem zmo.putE (h : zmo w B vs ve vr rs n s e f) {i : Nat} (hi : i < n) (hs : ∀ k, k < n → k ≠ i → e k = e' k) {x y z : Value} (hf : zqa w (.agg #[x, y, z]) (e' i)) :
 zmo (((w.setCell (ptr ve (i * 3)) x).setCell (ptr ve (i * 3 + 1)) y).setCell (ptr ve (i * 3 + 2)) z) B vs ve vr rs n s e' f ∧ Below B w (((w.setCell (ptr ve (i * 3)) x).setCell (ptr ve (i * 3 + 1)) y).setCell (ptr ve (i * 3 + 2)) z) := by
 have h1 := zve.putE h (i := i) (by rw [zea]; exact hi) hf
 rw [zmk hs] at h1
 exact h1
theorem zmo.putR (h : zmo w B vs ve vr rs n s e f) {i j : Nat} (hi : i < rs.length) (hj : j < n) (hs : ∀ r c, r < n → c < n → ¬ (r = i ∧ c = j) → f r c = g r c) {x y z : Value} (hf : zqa w (.agg #[x, y, z]) (g i j)) :
 zmo (((w.setCell (ptr rs[i] (j * 3)) x).setCell (ptr rs[i] (j * 3 + 1)) y).setCell (ptr rs[i] (j * 3 + 2)) z) B vs ve vr rs n s e g ∧ Below B w (((w.setCell (ptr rs[i] (j * 3)) x).setCell (ptr rs[i] (j * 3 + 1)) y).setCell (ptr rs[i] (j * 3 + 2)) z) := by
 have hn := h.rsl
 have hi2 : i < (zwo n f).length := by rw [zdo, ← hn]; exact hi
 have h1 := zve.putR h (j := j) hi hi2 (by rw [zeo, zea]; exact hj) hf
 rw [tabL_put (by rw [← hn]; exact hi) hj hs hi2] at h1
 exact h1
theorem zmo.lawC (h : zmo w B vs ve vr rs n s e f) (nm : Value) : zhm w (.agg #[nm, vs, vr, ve]) ⟨zib n s, zib n e, zwo n f⟩ := zve.lawC h nm
end
def plF (f g : Mx) (m at' i k : Nat) : Mx := fun r c => if at' ≤ r ∧ at' ≤ c ∧ c < at' + m ∧ (r < at' + i ∨ (r = at' + i ∧ c < at' + k)) then g (r - at') (c - at') else f r c
section
variable {f g : Mx} {m n at' i k : Nat}
theorem plF_zero (r c : Nat) : f r c = plF f g m at' 0 0 r c := by
 unfold plF
 rw [if_neg (by omega)]
theorem plF_put (hk : k < m) {r c : Nat} (h : ¬ (r = at' + i ∧ c = at' + k)) : plF f g m at' i k r c = plF f g m at' i (k + 1) r c := by
 unfold plF
 by_cases h1 : at' ≤ r ∧ at' ≤ c ∧ c < at' + m ∧ (r < at' + i ∨ (r = at' + i ∧ c < at' + k))
 ·rw [if_pos h1, if_pos (by omega)]
 ·rw [if_neg h1, if_neg (by omega)]
theorem plF_at (hk : k < m) : plF f g m at' i (k + 1) (at' + i) (at' + k) = g i k := by
 unfold plF
 rw [if_pos (by omega), Nat.add_sub_cancel_left, Nat.add_sub_cancel_left]
theorem plF_row (r c : Nat) : plF f g m at' i m r c = plF f g m at' (i + 1) 0 r c := by
 unfold plF
 by_cases h1 : at' ≤ r ∧ at' ≤ c ∧ c < at' + m ∧ (r < at' + i ∨ (r = at' + i ∧ c < at' + m))
 ·rw [if_pos h1, if_pos (by omega)]
 ·rw [if_neg h1, if_neg (by omega)]
end
def plA (f g : Mx) (m at' : Nat) : Mx := fun r c => if at' ≤ r ∧ at' ≤ c ∧ c < at' + m ∧ r < at' + m then g (r - at') (c - at') else f r c
theorem plF_all {f g : Mx} {m at' : Nat} (r c : Nat) : plF f g m at' m 0 r c = plA f g m at' r c := by
 unfold plF plA
 by_cases h1 : at' ≤ r ∧ at' ≤ c ∧ c < at' + m ∧ r < at' + m
 ·rw [if_pos h1, if_pos (by omega)]
 ·rw [if_neg h1, if_neg (by omega)]
end Go.Proofs.YtlpdkbmmbdfoiaaGreat
namespace Go.Proofs.YtlpdkbmmbdfoiaaGreat
def fnL (n : Nat) (s e : Nat → Rat) (f : Mx) : LQ := ⟨zib n s, zib n e, zwo n f⟩
section
variable {n : Nat} {s e : Nat → Rat} {f : Mx}
theorem zgo {n : Nat} {f : Nat → Rat} {i : Nat} (h : i < n) : (zib n f).getD i 0 = f i := by
 rw [List.getD_eq_getElem?_getD, List.getElem?_eq_getElem (by rw [zea]; exact h), Option.getD_some, ztb]
theorem zjo : (fnL n s e f).start.length = n := zea _ _
theorem fn_st {i : Nat} (h : i < n) : stQ (fnL n s e f) i = s i := zgo h
theorem fn_ex {i : Nat} (h : i < n) : exQ (fnL n s e f) i = e i := zgo h
theorem fn_row {i : Nat} (h : i < n) : (fnL n s e f).rates.getD i [] = zib n (f i) := by
 show (zwo n f).getD i [] = _
 rw [List.getD_eq_getElem?_getD, List.getElem?_eq_getElem (by rw [zdo]; exact h), Option.getD_some, zeo]
theorem fn_rt {i j : Nat} (h : i < n) (h2 : j < n) : rtQ (fnL n s e f) i j = f i j := by
 unfold rtQ
 rw [fn_row h]
 exact zgo h2
theorem fn_law (h1 : 1 ≤ n) (h4 : n ≤ 4) (hs : ∀ i, i < n → zvg (s i)) (he : ∀ i, i < n → zvg (e i)) (hr : ∀ i j, i < n → j < n → zvg (f i j)) (hd : ∀ i, i < n → f i i = 0) (hsum : sg n s = 1)
 (hends : ∀ i, i < n → 0 < e i ∨ ∃ j, i < j ∧ j < n ∧ 0 < f i j) : zxb (fnL n s e f) where
 n1 := by rw [zjo]; exact h1
 n4 := by rw [zjo]; exact h4
 el := (zea _ _).trans (zea _ _).symm
 rl := (zdo _ _).trans (zea _ _).symm
 st := fun q hq => by
  obtain ⟨i, hi, rfl⟩ := List.mem_map.1 (show q ∈ (List.range n).map s from hq)
  exact hs i (List.mem_range.1 hi)
 ex := fun q hq => by
  obtain ⟨i, hi, rfl⟩ := List.mem_map.1 (show q ∈ (List.range n).map e from hq)
  exact he i (List.mem_range.1 hi)
 row := fun i hi => by
  have hi2 : i < n := by rw [show (fnL n s e f).rates.length = n from zdo _ _] at hi; exact hi
  have e1 : (fnL n s e f).rates[i] = zib n (f i) := zeo _ _ _ _
  rw [e1]
  refine ⟨by rw [zea, zjo], fun q hq => ?_, by rw [zgo hi2]; exact hd i hi2⟩
  obtain ⟨j, hj, rfl⟩ := List.mem_map.1 (show q ∈ (List.range n).map (f i) from hq)
  exact hr i j hi2 (List.mem_range.1 hj)
 sum := by
  show zgg (zib n s) = 1
  rw [zup, zea, ← hsum]
  exact zma fun i hi => zgo hi
 ends := by
  refine ⟨fun i => n - 1 - i, fun i hi => ?_⟩
  rw [zjo] at hi ⊢
  refine ⟨show n - 1 - i ≤ n by omega, ?_⟩
  rcases hends i hi with h | ⟨j, hij, hj, h⟩
  ·exact Or.inl (by rw [show (fnL n s e f).exit.getD i 0 = e i from zgo hi]; exact h)
  ·refine Or.inr ⟨j, hj, ?_, show n - 1 - j < n - 1 - i by omega⟩
   rw [fn_row hi, zgo hj]
   exact h
theorem fn_out (h : zxb (fnL n s e f)) {i : Nat} (hi : i < n) : zxf (fnL n s e f) i = sg n (f i) + e i := by
 rw [h.out_sg (by rw [zjo]; exact hi), zjo, fn_ex hi]
 congr 1
 exact zma fun j hj => fn_rt hi hj
theorem fn_mom (h : zxb (fnL n s e f)) (m : Nat) {x : Nat → Rat} (hx : ∀ i, i < n → (sg n (f i) + e i) * x i - sg n (fun j => f i j * x j) = zpm (fnL n s e f) m i) : ∀ i, i < n → zpm (fnL n s e f) (m + 1) i = x i := by
 have h1 := h.uniq (x := zpm (fnL n s e f) (m + 1)) (y := x) fun i hi => by
  rw [h.mom_eq m i hi, h.row_eq hi]
  rw [zjo] at hi ⊢
  rw [fn_out h hi, ← hx i hi]
  congr 1
  exact zma fun j hj => by rw [fn_rt hi hj]
 rw [zjo] at h1
 exact h1
theorem fn_momQ (m : Nat) {x : Nat → Rat} (hx : ∀ i, i < n → zpm (fnL n s e f) m i = x i) : zfo (fnL n s e f) m = sg n (fun i => s i * x i) * fq false (zem m) 1 := by
 rw [zhp, zjo]
 congr 1
 exact zma fun i hi => by rw [fn_st hi, hx i hi]
theorem fn_sm {D B : Nat} (hr : ∀ i j, i < n → j < n → over D B (f i j)) (he : ∀ i, i < n → over D B (e i)) : SmL D B (fnL n s e f) where
 r := fun i j hi hj => by
  rw [zjo] at hi hj
  rw [fn_rt hi hj]
  exact hr i j hi hj
 e := fun i hi => by
  rw [zjo] at hi
  rw [fn_ex hi]
  exact he i hi
end
theorem rle_eq {p q : Rat} (h : p = q) : p ≤ q := h ▸ Rat.le_refl
theorem f1q : fq false (zem 1) 1 = 1 := by decide +kernel
theorem f2q : fq false (zem 2) 1 = 2 := by decide +kernel
section
variable {l : LQ}
theorem zxb.mrow (h : zxb l) (m : Nat) {i : Nat} (hi : i < l.start.length) : (sg l.start.length (rtQ l i) + exQ l i) * zpm l (m + 1) i - sg l.start.length (fun j => rtQ l i j * zpm l (m + 1) j) = zpm l m i := by
 rw [← h.out_sg hi, ← h.row_eq hi]
 exact h.mom_eq m i hi
theorem zip (l : LQ) : zfo l 1 = sg l.start.length fun i => stQ l i * zpm l 1 i := by rw [zhp, f1q, Rat.mul_one]
theorem ztp (l : LQ) : zfo l 2 = (sg l.start.length fun i => stQ l i * zpm l 2 i) * 2 := by rw [zhp, f2q]
theorem zxb.var_row (h : zxb l) : ∀ i, i < l.start.length → 0 ≤ 2 * zpm l 2 i - zpm l 1 i * zpm l 1 i := by
 refine h.nonneg (x := fun i => 2 * zpm l 2 i - zpm l 1 i * zpm l 1 i) (b := fun i => exQ l i * (zpm l 1 i * zpm l 1 i) + sg l.start.length fun j => rtQ l i j * ((zpm l 1 i - zpm l 1 j) * (zpm l 1 i - zpm l 1 j))) (fun i hi => ?_) fun i hi => ?_
 ·refine Rat.add_nonneg (Rat.mul_nonneg (h.ex_lim hi).1 (Rat.mul_nonneg (h.mom_nn 1 i hi) (h.mom_nn 1 i hi))) (zbp fun j hj => Rat.mul_nonneg (h.rt_lim hi hj).1 ?_)
  rcases Rat.le_total (a := 0) (b := zpm l 1 i - zpm l 1 j) with h1 | h1
  ·exact Rat.mul_nonneg h1 h1
  ·have h2 : 0 ≤ zpm l 1 j - zpm l 1 i := by grind
   have h3 := Rat.mul_nonneg h2 h2
   have e : (zpm l 1 i - zpm l 1 j) * (zpm l 1 i - zpm l 1 j) = (zpm l 1 j - zpm l 1 i) * (zpm l 1 j - zpm l 1 i) := by grind
   rw [e]; exact h3
 ·rw [h.row_eq hi, h.out_sg hi]
  have h1 := h.mrow 0 hi
  have h2 := h.mrow 1 hi
  have e0 : zpm l 0 i = 1 := rfl
  rw [e0] at h1
  have e1 : (sg l.start.length fun j => rtQ l i j * (2 * zpm l 2 j - zpm l 1 j * zpm l 1 j)) = 2 * sg l.start.length (fun j => rtQ l i j * zpm l 2 j) - sg l.start.length (fun j => rtQ l i j * (zpm l 1 j * zpm l 1 j)) := by
   have a1 : (sg l.start.length fun j => rtQ l i j * (2 * zpm l 2 j - zpm l 1 j * zpm l 1 j)) = sg l.start.length (fun j => 2 * (rtQ l i j * zpm l 2 j)) + sg l.start.length (fun j => (-1) * (rtQ l i j * (zpm l 1 j * zpm l 1 j))) := by
    rw [← zvd]; exact zma fun j _ => by grind
   rw [a1, zcb, zcb]; grind
  have e2 : (sg l.start.length fun j => rtQ l i j * ((zpm l 1 i - zpm l 1 j) * (zpm l 1 i - zpm l 1 j))) = zpm l 1 i * zpm l 1 i * sg l.start.length (rtQ l i) - 2 * zpm l 1 i * sg l.start.length (fun j => rtQ l i j * zpm l 1 j) + sg l.start.length (fun j => rtQ l i j * (zpm l 1 j * zpm l 1 j)) := by
   have a1 : (sg l.start.length fun j => rtQ l i j * ((zpm l 1 i - zpm l 1 j) * (zpm l 1 i - zpm l 1 j))) = (sg l.start.length (fun j => zpm l 1 i * zpm l 1 i * rtQ l i j) + sg l.start.length (fun j => (- (2 * zpm l 1 i)) * (rtQ l i j * zpm l 1 j))) + sg l.start.length (fun j => rtQ l i j * (zpm l 1 j * zpm l 1 j)) := by
    rw [← zvd, ← zvd]; exact zma fun j _ => by grind
   rw [a1, zcb, zcb]; grind
  rw [e1, e2]
  generalize sg l.start.length (rtQ l i) = R at *
  generalize (sg l.start.length fun j => rtQ l i j * zpm l 1 j) = P at *
  have h2' : (R + exQ l i) * zpm l 2 i - sg l.start.length (fun j => rtQ l i j * zpm l 2 j) = zpm l 1 i := h2
  have h1' : (R + exQ l i) * zpm l 1 i - P = 1 := h1
  generalize (sg l.start.length fun j => rtQ l i j * zpm l 2 j) = Q at *
  generalize (sg l.start.length fun j => rtQ l i j * (zpm l 1 j * zpm l 1 j)) = S at *
  generalize zpm l 2 i = y at *
  generalize zpm l 1 i = x at *
  generalize exQ l i = E at *
  clear h1 h2 e1 e2
  have a1 : 2 * ((R + E) * y - Q) = 2 * x := by rw [h2']
  have a2 : 2 * x * ((R + E) * x - P) = 2 * x := by rw [h1']; grind
  grind
theorem zxb.var_nn (h : zxb l) : 0 ≤ zfo l 2 - zfo l 1 * zfo l 1 := by
 rw [zip, ztp]
 have key : ∀ m : Rat, 0 ≤ sg l.start.length (fun i => stQ l i * ((zpm l 1 i - m) * (zpm l 1 i - m))) := fun m => zbp fun i hi => Rat.mul_nonneg (h.st_lim hi).1 (by
  rcases Rat.le_total (a := 0) (b := zpm l 1 i - m) with h1 | h1
  ·exact Rat.mul_nonneg h1 h1
  ·have h2 : 0 ≤ m - zpm l 1 i := by grind
   have h3 := Rat.mul_nonneg h2 h2
   have e : (zpm l 1 i - m) * (zpm l 1 i - m) = (m - zpm l 1 i) * (m - zpm l 1 i) := by grind
   rw [e]; exact h3)
 have h1 := key (sg l.start.length fun i => stQ l i * zpm l 1 i)
 have h2 : 0 ≤ sg l.start.length (fun i => stQ l i * (2 * zpm l 2 i - zpm l 1 i * zpm l 1 i)) := zbp fun i hi => Rat.mul_nonneg (h.st_lim hi).1 (h.var_row i hi)
 have hs := h.st_sum
 generalize hA : (sg l.start.length fun i => stQ l i * zpm l 1 i) = A at *
 have e1 : (sg l.start.length fun i => stQ l i * ((zpm l 1 i - A) * (zpm l 1 i - A))) = sg l.start.length (fun i => stQ l i * (zpm l 1 i * zpm l 1 i)) - 2 * A * A + A * A := by
  have a1 : (sg l.start.length fun i => stQ l i * ((zpm l 1 i - A) * (zpm l 1 i - A))) = (sg l.start.length (fun i => stQ l i * (zpm l 1 i * zpm l 1 i)) + sg l.start.length (fun i => (-(2 * A)) * (stQ l i * zpm l 1 i))) + sg l.start.length (fun i => (A * A) * stQ l i) := by
   rw [← zvd, ← zvd]; exact zma fun j _ => by grind
  rw [a1, zcb, zcb, hA, hs]; grind
 have e2 : (sg l.start.length fun i => stQ l i * (2 * zpm l 2 i - zpm l 1 i * zpm l 1 i)) = (sg l.start.length fun i => stQ l i * zpm l 2 i) * 2 - sg l.start.length (fun i => stQ l i * (zpm l 1 i * zpm l 1 i)) := by
  have a1 : (sg l.start.length fun i => stQ l i * (2 * zpm l 2 i - zpm l 1 i * zpm l 1 i)) = sg l.start.length (fun i => 2 * (stQ l i * zpm l 2 i)) + sg l.start.length (fun i => (-1) * (stQ l i * (zpm l 1 i * zpm l 1 i))) := by
   rw [← zvd]; exact zma fun j _ => by grind
  rw [a1, zcb, zcb]; grind
 rw [e1] at h1
 rw [e2] at h2
 generalize (sg l.start.length fun i => stQ l i * zpm l 2 i) = Y at *
 generalize (sg l.start.length fun i => stQ l i * (zpm l 1 i * zpm l 1 i)) = Z at *
 grind
end
section
variable (a b : LQ) (p : Rat)
def smS : Nat → Rat := fun i => if i < a.start.length then stQ a i else 0
def smE : Nat → Rat := fun i => if i < a.start.length then 0 else exQ b (i - a.start.length)
def smR : Mx := fun i j => if i < a.start.length then (if j < a.start.length then rtQ a i j else exQ a i * stQ b (j - a.start.length)) else (if j < a.start.length then 0 else rtQ b (i - a.start.length) (j - a.start.length))
def zno : LQ := fnL (a.start.length + b.start.length) (smS a) (smE a b) (smR a b)
def mxS : Nat → Rat := fun i => if i < a.start.length then p * stQ a i else (1 - p) * stQ b (i - a.start.length)
def mxE : Nat → Rat := fun i => if i < a.start.length then exQ a i else exQ b (i - a.start.length)
def mxR : Mx := fun i j => if i < a.start.length then (if j < a.start.length then rtQ a i j else 0) else (if j < a.start.length then 0 else rtQ b (i - a.start.length) (j - a.start.length))
def mixL : LQ := fnL (a.start.length + b.start.length) (mxS a b p) (mxE a b) (mxR a b)
def fiE : Nat → Rat := fun r => exQ a (r / b.start.length) + exQ b (r % b.start.length)
def firL : LQ := fnL (bfN a b) (bfS a b) (fiE a b) (bfr a b)
end
section
variable {a b : LQ} {p : Rat}
theorem zqp {i : Nat} (h : i < a.start.length) : smS a i = stQ a i ∧ smE a b i = 0 := by unfold smS smE; rw [if_pos h, if_pos h]; exact ⟨rfl, rfl⟩
theorem zlp (k : Nat) : smS a (a.start.length + k) = 0 ∧ smE a b (a.start.length + k) = exQ b k := by
 unfold smS smE
 rw [if_neg (by omega), if_neg (by omega), Nat.add_sub_cancel_left]; exact ⟨rfl, rfl⟩
theorem smR_aa {i j : Nat} (hi : i < a.start.length) (hj : j < a.start.length) : smR a b i j = rtQ a i j := by unfold smR; rw [if_pos hi, if_pos hj]
theorem smR_ab {i : Nat} (hi : i < a.start.length) (k : Nat) : smR a b i (a.start.length + k) = exQ a i * stQ b k := by unfold smR; rw [if_pos hi, if_neg (by omega), Nat.add_sub_cancel_left]
theorem smR_ba (k : Nat) {j : Nat} (hj : j < a.start.length) : smR a b (a.start.length + k) j = 0 := by unfold smR; rw [if_neg (by omega), if_pos hj]
theorem smR_bb (k t : Nat) : smR a b (a.start.length + k) (a.start.length + t) = rtQ b k t := by unfold smR; rw [if_neg (by omega), if_neg (by omega), Nat.add_sub_cancel_left, Nat.add_sub_cancel_left]
theorem zio {n m i : Nat} (h : i < n + m) : i < n ∨ ∃ k, k < m ∧ i = n + k := by
 rcases Nat.lt_or_ge i n with h1 | h1
 ·exact Or.inl h1
 ·exact Or.inr ⟨i - n, by omega, by omega⟩
theorem zyo {i : Nat} (hi : i < a.start.length) (x : Nat → Rat) : sg (a.start.length + b.start.length) (fun j => smR a b i j * x j) = sg a.start.length (fun j => rtQ a i j * x j) + exQ a i * sg b.start.length fun k => stQ b k * x (a.start.length + k) := by
 rw [zbn, ← zcb]
 congr 1
 ·exact zma fun j hj => by rw [smR_aa hi hj]
 ·exact zma fun k _ => by rw [smR_ab hi]; grind
theorem zxo (k : Nat) (x : Nat → Rat) : sg (a.start.length + b.start.length) (fun j => smR a b (a.start.length + k) j * x j) = sg b.start.length fun t => rtQ b k t * x (a.start.length + t) := by
 rw [zbn]
 have e : (sg a.start.length fun j => smR a b (a.start.length + k) j * x j) = sg a.start.length fun _ => 0 := zma fun j hj => by rw [smR_ba k hj, Rat.zero_mul]
 rw [e, zsi, Rat.zero_add]
 exact zma fun t _ => by rw [smR_bb]
theorem zzo {n : Nat} (f : Nat → Rat) : sg n f = sg n fun j => f j * 1 := zma fun j _ => (Rat.mul_one _).symm
theorem sum_out_a (hb : zxb b) {i : Nat} (hi : i < a.start.length) : sg (a.start.length + b.start.length) (smR a b i) = sg a.start.length (rtQ a i) + exQ a i := by
 rw [zzo, zyo hi (fun _ => 1), ← zzo, ← zzo, hb.st_sum, Rat.mul_one]
theorem sum_out_b (k : Nat) : sg (a.start.length + b.start.length) (smR a b (a.start.length + k)) = sg b.start.length (rtQ b k) := by
 rw [zzo, zxo k (fun _ => 1), ← zzo]
def zko (a b : LQ) : Nat → Rat := fun i => if i < a.start.length then zpm a 1 i + zfo b 1 else zpm b 1 (i - a.start.length)
def zso (a b : LQ) : Nat → Rat := fun i => if i < a.start.length then zpm a 2 i + zpm a 1 i * zfo b 1 + sg b.start.length (fun k => stQ b k * zpm b 2 k) else zpm b 2 (i - a.start.length)
theorem sum_x1 (ha : zxb a) (hb : zxb b) (h : zxb (zno a b)) : ∀ i, i < a.start.length + b.start.length → zpm (zno a b) 1 i = zko a b i := by
 refine fn_mom h 0 fun i hi => ?_
 show _ = (1 : Rat)
 rcases zio hi with hi | ⟨k, hk, rfl⟩
 ·rw [sum_out_a hb hi, (zqp (b := b) hi).2, zyo hi]
  have h1 : _ = (1 : Rat) := ha.mrow 0 hi
  have e1 : (sg a.start.length fun j => rtQ a i j * zko a b j) = sg a.start.length (fun j => rtQ a i j * zpm a 1 j) + sg a.start.length (rtQ a i) * zfo b 1 := by
   rw [← znc, ← zvd]
   exact zma fun j hj => by unfold zko; rw [if_pos hj]; grind
  have e2 : (sg b.start.length fun k => stQ b k * zko a b (a.start.length + k)) = zfo b 1 := by
   rw [zip]
   exact zma fun k _ => by unfold zko; rw [if_neg (by omega), Nat.add_sub_cancel_left]
  have e3 : zko a b i = zpm a 1 i + zfo b 1 := by unfold zko; rw [if_pos hi]
  rw [e1, e2, e3]
  have h1' : (sg a.start.length (rtQ a i) + exQ a i) * zpm a 1 i - (sg a.start.length fun j => rtQ a i j * zpm a 1 j) = 1 := h1
  generalize (sg a.start.length fun j => rtQ a i j * zpm a 1 j) = P at *
  generalize sg a.start.length (rtQ a i) = R at *
  clear h1 e1 e2 e3
  grind
 ·rw [sum_out_b, (zlp (a := a) (b := b) k).2, zxo]
  have h1 : _ = (1 : Rat) := hb.mrow 0 hk
  have e1 : (sg b.start.length fun t => rtQ b k t * zko a b (a.start.length + t)) = sg b.start.length (fun t => rtQ b k t * zpm b (0 + 1) t) :=
   zma fun t _ => by unfold zko; rw [if_neg (by omega), Nat.add_sub_cancel_left]
  have e3 : zko a b (a.start.length + k) = zpm b (0 + 1) k := by unfold zko; rw [if_neg (by omega), Nat.add_sub_cancel_left]
  rw [e1, e3]
  exact h1
theorem sum_x2 (ha : zxb a) (hb : zxb b) (h : zxb (zno a b)) : ∀ i, i < a.start.length + b.start.length → zpm (zno a b) 2 i = zso a b i := by
 refine fn_mom h 1 fun i hi => ?_
 have hx : zpm (fnL (a.start.length + b.start.length) (smS a) (smE a b) (smR a b)) 1 i = zko a b i := sum_x1 ha hb h i hi
 rw [hx]
 rcases zio hi with hi | ⟨k, hk, rfl⟩
 ·rw [sum_out_a hb hi, (zqp (b := b) hi).2, zyo hi]
  have h0 : (sg a.start.length (rtQ a i) + exQ a i) * zpm a 1 i - (sg a.start.length fun j => rtQ a i j * zpm a 1 j) = 1 := ha.mrow 0 hi
  have h1 : (sg a.start.length (rtQ a i) + exQ a i) * zpm a 2 i - (sg a.start.length fun j => rtQ a i j * zpm a 2 j) = zpm a 1 i := ha.mrow 1 hi
  have e1 : (sg a.start.length fun j => rtQ a i j * zso a b j) = (sg a.start.length (fun j => rtQ a i j * zpm a 2 j) + sg a.start.length (fun j => rtQ a i j * zpm a 1 j) * zfo b 1) + sg a.start.length (rtQ a i) * sg b.start.length (fun k => stQ b k * zpm b 2 k) := by
   rw [← znc, ← znc, ← zvd, ← zvd]
   exact zma fun j hj => by unfold zso; rw [if_pos hj]; grind
  have e2 : (sg b.start.length fun k => stQ b k * zso a b (a.start.length + k)) = sg b.start.length (fun k => stQ b k * zpm b 2 k) :=
   zma fun k _ => by unfold zso; rw [if_neg (by omega), Nat.add_sub_cancel_left]
  have e3 : zso a b i = zpm a 2 i + zpm a 1 i * zfo b 1 + sg b.start.length (fun k => stQ b k * zpm b 2 k) := by unfold zso; rw [if_pos hi]
  have e4 : zko a b i = zpm a 1 i + zfo b 1 := by unfold zko; rw [if_pos hi]
  rw [e1, e2, e3, e4]
  generalize (sg a.start.length fun j => rtQ a i j * zpm a 1 j) = P at *
  generalize (sg a.start.length fun j => rtQ a i j * zpm a 2 j) = Q at *
  generalize (sg b.start.length fun k => stQ b k * zpm b 2 k) = C at *
  generalize sg a.start.length (rtQ a i) = R at *
  generalize zfo b 1 = B at *
  generalize zpm a 1 i = x at *
  generalize zpm a 2 i = y at *
  generalize exQ a i = E at *
  clear e1 e2 e3 e4 hx hi
  have h2 : B * ((R + E) * x - P) = B := by rw [h0]; grind
  grind
 ·rw [sum_out_b, (zlp (a := a) (b := b) k).2, zxo]
  have h1 := hb.mrow 1 hk
  have e1 : (sg b.start.length fun t => rtQ b k t * zso a b (a.start.length + t)) = sg b.start.length (fun t => rtQ b k t * zpm b (1 + 1) t) :=
   zma fun t _ => by unfold zso; rw [if_neg (by omega), Nat.add_sub_cancel_left]
  have e3 : zso a b (a.start.length + k) = zpm b (1 + 1) k := by unfold zso; rw [if_neg (by omega), Nat.add_sub_cancel_left]
  have e4 : zko a b (a.start.length + k) = zpm b 1 k := by unfold zko; rw [if_neg (by omega), Nat.add_sub_cancel_left]
  rw [e1, e3, e4]
  exact h1
theorem sum_mean (ha : zxb a) (hb : zxb b) (h : zxb (zno a b)) : zfo (zno a b) 1 = zfo a 1 + zfo b 1 := by
 have h1 : zfo (zno a b) 1 = _ := fn_momQ 1 (sum_x1 ha hb h)
 rw [h1, f1q, Rat.mul_one, zbn, zip a]
 have e1 : (sg a.start.length fun i => smS a i * zko a b i) = sg a.start.length (fun i => stQ a i * zpm a 1 i) + sg a.start.length (stQ a) * zfo b 1 := by
  rw [← znc, ← zvd]
  exact zma fun i hi => by unfold zko; rw [if_pos hi, (zqp (b := b) hi).1]; grind
 have e2 : (sg b.start.length fun j => smS a (a.start.length + j) * zko a b (a.start.length + j)) = sg b.start.length fun _ => 0 := zma fun k _ => by rw [(zlp (a := a) (b := b) k).1, Rat.zero_mul]
 rw [e1, e2, zsi, ha.st_sum]
 grind
theorem sum_mom2 (ha : zxb a) (hb : zxb b) (h : zxb (zno a b)) : zfo (zno a b) 2 = zfo a 2 + 2 * zfo a 1 * zfo b 1 + zfo b 2 := by
 have h1 : zfo (zno a b) 2 = _ := fn_momQ 2 (sum_x2 ha hb h)
 rw [h1, f2q, zbn, ztp a, ztp b, zip a]
 have e1 : (sg a.start.length fun i => smS a i * zso a b i) = (sg a.start.length (fun i => stQ a i * zpm a 2 i) + sg a.start.length (fun i => stQ a i * zpm a 1 i) * zfo b 1) + sg a.start.length (stQ a) * sg b.start.length (fun k => stQ b k * zpm b 2 k) := by
  rw [← znc, ← znc, ← zvd, ← zvd]
  exact zma fun i hi => by unfold zso; rw [if_pos hi, (zqp (b := b) hi).1]; grind
 have e2 : (sg b.start.length fun j => smS a (a.start.length + j) * zso a b (a.start.length + j)) = sg b.start.length fun _ => 0 := zma fun k _ => by rw [(zlp (a := a) (b := b) k).1, Rat.zero_mul]
 rw [e1, e2, zsi, ha.st_sum]
 grind
theorem sum_var (ha : zxb a) (hb : zxb b) (h : zxb (zno a b)) : (zfo a 2 - zfo a 1 * zfo a 1) + (zfo b 2 - zfo b 1 * zfo b 1) = zfo (zno a b) 2 - zfo (zno a b) 1 * zfo (zno a b) 1 := by
 rw [sum_mean ha hb h, sum_mom2 ha hb h]
 grind
theorem mx_lt {i : Nat} (h : i < a.start.length) : mxS a b p i = p * stQ a i ∧ mxE a b i = exQ a i := by unfold mxS mxE; rw [if_pos h, if_pos h]; exact ⟨rfl, rfl⟩
theorem mx_ge (k : Nat) : mxS a b p (a.start.length + k) = (1 - p) * stQ b k ∧ mxE a b (a.start.length + k) = exQ b k := by
 unfold mxS mxE
 rw [if_neg (by omega), if_neg (by omega), Nat.add_sub_cancel_left]; exact ⟨rfl, rfl⟩
theorem mxR_aa {i j : Nat} (hi : i < a.start.length) (hj : j < a.start.length) : mxR a b i j = rtQ a i j := by unfold mxR; rw [if_pos hi, if_pos hj]
theorem mxR_ab {i : Nat} (hi : i < a.start.length) (k : Nat) : mxR a b i (a.start.length + k) = 0 := by unfold mxR; rw [if_pos hi, if_neg (by omega)]
theorem mxR_ba (k : Nat) {j : Nat} (hj : j < a.start.length) : mxR a b (a.start.length + k) j = 0 := by unfold mxR; rw [if_neg (by omega), if_pos hj]
theorem mxR_bb (k t : Nat) : mxR a b (a.start.length + k) (a.start.length + t) = rtQ b k t := by unfold mxR; rw [if_neg (by omega), if_neg (by omega), Nat.add_sub_cancel_left, Nat.add_sub_cancel_left]
theorem mix_row_a {i : Nat} (hi : i < a.start.length) (x : Nat → Rat) : sg (a.start.length + b.start.length) (fun j => mxR a b i j * x j) = sg a.start.length (fun j => rtQ a i j * x j) := by
 rw [zbn]
 have e : (sg b.start.length fun j => mxR a b i (a.start.length + j) * x (a.start.length + j)) = sg b.start.length fun _ => 0 := zma fun j hj => by rw [mxR_ab hi, Rat.zero_mul]
 rw [e, zsi, Rat.add_zero]
 exact zma fun j hj => by rw [mxR_aa hi hj]
theorem mix_row_b (k : Nat) (x : Nat → Rat) : sg (a.start.length + b.start.length) (fun j => mxR a b (a.start.length + k) j * x j) = sg b.start.length fun t => rtQ b k t * x (a.start.length + t) := by
 rw [zbn]
 have e : (sg a.start.length fun j => mxR a b (a.start.length + k) j * x j) = sg a.start.length fun _ => 0 := zma fun j hj => by rw [mxR_ba k hj, Rat.zero_mul]
 rw [e, zsi, Rat.zero_add]
 exact zma fun t _ => by rw [mxR_bb]
def mixX (a b : LQ) : Nat → Rat := fun i => if i < a.start.length then zpm a 1 i else zpm b 1 (i - a.start.length)
theorem mix_x1 (ha : zxb a) (hb : zxb b) (h : zxb (mixL a b p)) : ∀ i, i < a.start.length + b.start.length → zpm (mixL a b p) 1 i = mixX a b i := by
 refine fn_mom h 0 fun i hi => ?_
 show _ = (1 : Rat)
 rcases zio hi with hi | ⟨k, hk, rfl⟩
 ·have h1 : (sg a.start.length (rtQ a i) + exQ a i) * zpm a 1 i - (sg a.start.length fun j => rtQ a i j * zpm a 1 j) = 1 := ha.mrow 0 hi
  have e0 : sg (a.start.length + b.start.length) (mxR a b i) = sg a.start.length (rtQ a i) := by rw [zzo, mix_row_a hi (fun _ => 1), ← zzo]
  have e1 : (sg a.start.length fun j => rtQ a i j * mixX a b j) = sg a.start.length (fun j => rtQ a i j * zpm a 1 j) := zma fun j hj => by unfold mixX; rw [if_pos hj]
  have e3 : mixX a b i = zpm a 1 i := by unfold mixX; rw [if_pos hi]
  rw [e0, (mx_lt (b := b) (p := p) hi).2, mix_row_a hi, e1, e3]
  exact h1
 ·have h1 : (sg b.start.length (rtQ b k) + exQ b k) * zpm b 1 k - (sg b.start.length fun j => rtQ b k j * zpm b 1 j) = 1 := hb.mrow 0 hk
  have e0 : sg (a.start.length + b.start.length) (mxR a b (a.start.length + k)) = sg b.start.length (rtQ b k) := by rw [zzo, mix_row_b k (fun _ => 1), ← zzo]
  have e1 : (sg b.start.length fun t => rtQ b k t * mixX a b (a.start.length + t)) = sg b.start.length (fun t => rtQ b k t * zpm b 1 t) := zma fun t _ => by unfold mixX; rw [if_neg (by omega), Nat.add_sub_cancel_left]
  have e3 : mixX a b (a.start.length + k) = zpm b 1 k := by unfold mixX; rw [if_neg (by omega), Nat.add_sub_cancel_left]
  rw [e0, (mx_ge (a := a) (b := b) (p := p) k).2, mix_row_b, e1, e3]
  exact h1
theorem mix_mean (ha : zxb a) (hb : zxb b) (h : zxb (mixL a b p)) : zfo (mixL a b p) 1 = p * zfo a 1 + (1 - p) * zfo b 1 := by
 have h1 : zfo (mixL a b p) 1 = _ := fn_momQ 1 (mix_x1 ha hb h)
 rw [h1, f1q, Rat.mul_one, zbn, zip a, zip b, ← zcb, ← zcb]
 congr 1
 ·exact zma fun i hi => by unfold mixX; rw [if_pos hi, (mx_lt (b := b) (p := p) hi).1]; grind
 ·exact zma fun k hk => by unfold mixX; rw [if_neg (by omega), Nat.add_sub_cancel_left, (mx_ge (a := a) (b := b) (p := p) k).1]; grind
theorem fir_out (ha : zxb a) (hb : zxb b) (h : zxb (firL a b)) {r : Nat} (hr : r < bfN a b) : sg (bfN a b) (bfr a b r) + fiE a b r = zxf a (r / b.start.length) + zxf b (r % b.start.length) := by
 obtain ⟨r1, r2⟩ := zjj hb hr
 rw [bfr_sum ha hb hr, ha.out_sg r1, hb.out_sg r2]
 unfold fiE
 grind
theorem fir_le_a (ha : zxb a) (hb : zxb b) (h : zxb (firL a b)) : ∀ r, r < bfN a b → zpm (firL a b) 1 r ≤ zpm a 1 (r / b.start.length) := by
 have key := h.nonneg (x := fun r => zpm a 1 (r / b.start.length) - zpm (firL a b) 1 r) (b := fun r => exQ b (r % b.start.length) * zpm a 1 (r / b.start.length)) (fun r hr => by
  rw [show (firL a b).start.length = bfN a b from zjo] at hr
  obtain ⟨r1, r2⟩ := zjj hb hr
  exact Rat.mul_nonneg (hb.ex_lim r2).1 (ha.mom_nn 1 _ r1)) fun r hr => by
  have h0 := h.mom_eq 0 r hr
  have e : (sg (firL a b).start.length fun j => phA (firL a b) r j * (zpm a 1 (j / b.start.length) - zpm (firL a b) 1 j)) = (sg (firL a b).start.length fun j => phA (firL a b) r j * zpm a 1 (j / b.start.length)) - 1 := by
   have h0' : (sg (firL a b).start.length fun j => phA (firL a b) r j * zpm (firL a b) 1 j) = 1 := h0
   have a1 : (sg (firL a b).start.length fun j => phA (firL a b) r j * (zpm a 1 (j / b.start.length) - zpm (firL a b) 1 j)) = (sg (firL a b).start.length fun j => phA (firL a b) r j * zpm a 1 (j / b.start.length)) + sg (firL a b).start.length fun j => (-1) * (phA (firL a b) r j * zpm (firL a b) 1 j) := by
    rw [← zvd]; exact zma fun j _ => by grind
   rw [a1, zcb, h0']; grind
  rw [e, h.row_eq hr (fun j => zpm a 1 (j / b.start.length))]
  have hr' : r < bfN a b := by rw [show (firL a b).start.length = bfN a b from zjo] at hr; exact hr
  obtain ⟨r1, r2⟩ := zjj hb hr'
  have e1 : zxf (firL a b) r = zxf a (r / b.start.length) + zxf b (r % b.start.length) := by
   rw [← fir_out ha hb h hr']; exact fn_out h hr'
  have e2 : (sg (firL a b).start.length fun j => rtQ (firL a b) r j * zpm a 1 (j / b.start.length)) = sg a.start.length (fun k => rtQ a (r / b.start.length) k * zpm a 1 k) + sg b.start.length (rtQ b (r % b.start.length)) * zpm a 1 (r / b.start.length) := by
   have a1 : (sg (firL a b).start.length fun j => rtQ (firL a b) r j * zpm a 1 (j / b.start.length)) = sg (bfN a b) fun j => bfr a b r j * zpm a 1 (j / b.start.length) := by
    rw [show (firL a b).start.length = bfN a b from zjo]
    exact zma fun j hj => by rw [show rtQ (firL a b) r j = bfr a b r j from fn_rt hr' hj]
   have a2 := bfr_row ha hb r1 r2 (fun j => zpm a 1 (j / b.start.length))
   rw [at_eq] at a2
   rw [a1, a2, ← znc]
   congr 1
   ·exact zma fun k hk => by rw [zbe r2]
   ·exact zma fun k hk => by rw [zbe hk]
  rw [e1, e2]
  have h1 : (sg a.start.length (rtQ a (r / b.start.length)) + exQ a (r / b.start.length)) * zpm a 1 (r / b.start.length) - (sg a.start.length fun j => rtQ a (r / b.start.length) j * zpm a 1 j) = 1 := ha.mrow 0 r1
  rw [← ha.out_sg r1] at h1
  rw [hb.out_sg r2]
  clear e e1 e2 h0
  generalize (sg a.start.length fun k => rtQ a (r / b.start.length) k * zpm a 1 k) = P at *
  generalize zpm a 1 (r / b.start.length) = x at *
  generalize zxf a (r / b.start.length) = O at *
  grind
 intro r hr
 have h1 := key r (by rw [show (firL a b).start.length = bfN a b from zjo]; exact hr)
 grind
theorem fir_le_b (ha : zxb a) (hb : zxb b) (h : zxb (firL a b)) : ∀ r, r < bfN a b → zpm (firL a b) 1 r ≤ zpm b 1 (r % b.start.length) := by
 have key := h.nonneg (x := fun r => zpm b 1 (r % b.start.length) - zpm (firL a b) 1 r) (b := fun r => exQ a (r / b.start.length) * zpm b 1 (r % b.start.length)) (fun r hr => by
  rw [show (firL a b).start.length = bfN a b from zjo] at hr
  obtain ⟨r1, r2⟩ := zjj hb hr
  exact Rat.mul_nonneg (ha.ex_lim r1).1 (hb.mom_nn 1 _ r2)) fun r hr => by
  have h0 := h.mom_eq 0 r hr
  have e : (sg (firL a b).start.length fun j => phA (firL a b) r j * (zpm b 1 (j % b.start.length) - zpm (firL a b) 1 j)) = (sg (firL a b).start.length fun j => phA (firL a b) r j * zpm b 1 (j % b.start.length)) - 1 := by
   have h0' : (sg (firL a b).start.length fun j => phA (firL a b) r j * zpm (firL a b) 1 j) = 1 := h0
   have a1 : (sg (firL a b).start.length fun j => phA (firL a b) r j * (zpm b 1 (j % b.start.length) - zpm (firL a b) 1 j)) = (sg (firL a b).start.length fun j => phA (firL a b) r j * zpm b 1 (j % b.start.length)) + sg (firL a b).start.length fun j => (-1) * (phA (firL a b) r j * zpm (firL a b) 1 j) := by
    rw [← zvd]; exact zma fun j _ => by grind
   rw [a1, zcb, h0']; grind
  rw [e, h.row_eq hr (fun j => zpm b 1 (j % b.start.length))]
  have hr' : r < bfN a b := by rw [show (firL a b).start.length = bfN a b from zjo] at hr; exact hr
  obtain ⟨r1, r2⟩ := zjj hb hr'
  have e1 : zxf (firL a b) r = zxf a (r / b.start.length) + zxf b (r % b.start.length) := by
   rw [← fir_out ha hb h hr']; exact fn_out h hr'
  have e2 : (sg (firL a b).start.length fun j => rtQ (firL a b) r j * zpm b 1 (j % b.start.length)) = sg a.start.length (rtQ a (r / b.start.length)) * zpm b 1 (r % b.start.length) + sg b.start.length (fun k => rtQ b (r % b.start.length) k * zpm b 1 k) := by
   have a1 : (sg (firL a b).start.length fun j => rtQ (firL a b) r j * zpm b 1 (j % b.start.length)) = sg (bfN a b) fun j => bfr a b r j * zpm b 1 (j % b.start.length) := by
    rw [show (firL a b).start.length = bfN a b from zjo]
    exact zma fun j hj => by rw [show rtQ (firL a b) r j = bfr a b r j from fn_rt hr' hj]
   have a2 := bfr_row ha hb r1 r2 (fun j => zpm b 1 (j % b.start.length))
   rw [at_eq] at a2
   rw [a1, a2, ← znc]
   congr 1
   ·exact zma fun k hk => by rw [zyf r2]
   ·exact zma fun k hk => by rw [zyf hk]
  rw [e1, e2]
  have h1 : (sg b.start.length (rtQ b (r % b.start.length)) + exQ b (r % b.start.length)) * zpm b 1 (r % b.start.length) - (sg b.start.length fun j => rtQ b (r % b.start.length) j * zpm b 1 j) = 1 := hb.mrow 0 r2
  rw [← hb.out_sg r2] at h1
  rw [ha.out_sg r1]
  clear e e1 e2 h0
  generalize (sg b.start.length fun k => rtQ b (r % b.start.length) k * zpm b 1 k) = P at *
  generalize zpm b 1 (r % b.start.length) = x at *
  generalize zxf b (r % b.start.length) = O at *
  grind
 intro r hr
 have h1 := key r (by rw [show (firL a b).start.length = bfN a b from zjo]; exact hr)
 grind
theorem fir_sum {x : Nat → Rat} (hb : zxb b) : sg (bfN a b) (fun r => bfS a b r * x r) = sg a.start.length fun i => sg b.start.length fun j => stQ a i * stQ b j * x (i * b.start.length + j) := by
 unfold bfN
 rw [zcn]
 refine zma fun i hi => zma fun j hj => ?_
 unfold bfS
 rw [zbe hj, zyf hj]
theorem fir_mean (ha : zxb a) (hb : zxb b) (h : zxb (firL a b)) : zfo (firL a b) 1 ≤ zfo a 1 ∧ zfo (firL a b) 1 ≤ zfo b 1 := by
 have h1 : zfo (firL a b) 1 = _ := fn_momQ 1 (x := zpm (firL a b) 1) (fun i _ => rfl)
 rw [h1, f1q, Rat.mul_one]
 have hnn : ∀ r, r < bfN a b → 0 ≤ bfS a b r := fun r hr => by
  obtain ⟨r1, r2⟩ := zjj hb hr
  exact Rat.mul_nonneg (ha.st_lim r1).1 (hb.st_lim r2).1
 refine ⟨Rat.le_trans (sg_le fun r hr => Rat.mul_le_mul_of_nonneg_left (fir_le_a ha hb h r hr) (hnn r hr)) ?_, Rat.le_trans (sg_le fun r hr => Rat.mul_le_mul_of_nonneg_left (fir_le_b ha hb h r hr) (hnn r hr)) ?_⟩
 ·rw [fir_sum (x := fun r => zpm a 1 (r / b.start.length)) hb, zip a]
  refine rle_eq (zma fun i hi => ?_)
  have e : (sg b.start.length fun j => stQ a i * stQ b j * zpm a 1 ((i * b.start.length + j) / b.start.length)) = sg b.start.length fun j => (stQ a i * zpm a 1 i) * stQ b j := zma fun j hj => by rw [zbe hj]; grind
  rw [e, zcb, hb.st_sum, Rat.mul_one]
 ·rw [fir_sum (x := fun r => zpm b 1 (r % b.start.length)) hb, zdn, zip b]
  refine rle_eq (zma fun j hj => ?_)
  have e : (sg a.start.length fun i => stQ a i * stQ b j * zpm b 1 ((i * b.start.length + j) % b.start.length)) = sg a.start.length fun i => (stQ b j * zpm b 1 j) * stQ a i := zma fun i hi => by rw [zyf hj]; grind
  rw [e, zcb, ha.st_sum, Rat.mul_one]
end
end Go.Proofs.YtlpdkbmmbdfoiaaGreat
