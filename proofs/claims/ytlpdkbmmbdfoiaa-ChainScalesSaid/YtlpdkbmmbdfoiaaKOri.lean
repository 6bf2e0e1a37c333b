/-
  Regions that draw their order, by an invariant: each operation is shown ONCE, from any state in which what it waits for is done. No program is named here.
-/
import Derived.Test.YtlpdkbmmbdfoiaaKMath12
import Derived.Test.YtlpdkbmmbdfoiaaKDt3
import Derived.Test.YtlpdkbmmbdfoiaaKOwF
import Derived.Test.YtlpdkbmmbdfoiaaKRa1
import Derived.Test.YtlpdkbmmbdfoiaaKOr2
import Derived.Test.YtlpdkbmmbdfoiaaKSz2
import Derived.Test.YtlpdkbmmbdfoiaaKRm
import Derived.Test.YtlpdkbmmbdfoiaaKRb5
import Derived.Test.YtlpdkbmmbdfoiaaKOrd
import Derived.Test.YtlpdkbmmbdfoiaaKHs1
import Derived.Lib.SliceRun
import Derived.Deep.CutRange
import Derived.Deep.DeepCutAuto
import Derived.Deep.LoopGhost
set_option linter.unusedVariables false
set_option linter.unusedSimpArgs false
namespace Go.Proofs.Ytlpdkbmmbdfoiaa
def RowF (n lo i : Nat) (r : List Rat) (m : Nat) : Prop := r.length = m ∧ (∀ q ∈ r, zra q) ∧ (∀ x : Rat, r[i]? = some x → x = 0) ∧ ((n : Int) - lo ≤ i → ∀ q ∈ r, q = 0)
theorem RowF.nil (n lo i : Nat) : RowF n lo i [] 0 := ⟨rfl, fun q h => by simp at h, fun x h => by simp at h, fun _ q h => by simp at h⟩
theorem RowF.snoc {n lo i m : Nat} {r : List Rat} {x : Rat} (h : RowF n lo i r m) (hx : zra x) (h1 : i = m → x = 0) (h2 : (n : Int) - lo ≤ i → x = 0) : RowF n lo i (r ++ [x]) (m + 1) := by
 obtain ⟨a, b, c, d⟩ := h
 refine ⟨by simp [a], fun q hq => ?_, fun y hy => ?_, fun hl q hq => ?_⟩
 ·rcases List.mem_append.1 hq with h | h
  ·exact b q h
  ·simp at h; subst h; exact hx
 ·rcases Nat.lt_or_ge i r.length with h | h
  ·rw [List.getElem?_append_left h] at hy
   exact c y hy
  ·have hi : i < (r ++ [x]).length := (List.getElem?_eq_some_iff.1 hy).1
   have hi2 : i = m := by simp at hi; omega
   rw [List.getElem?_append_right h] at hy
   have h0 : i - r.length = 0 := by omega
   rw [h0] at hy
   simp at hy
   rw [← hy]
   exact h1 hi2
 ·rcases List.mem_append.1 hq with h | h
  ·exact d hl q h
  ·simp at h; subst h; exact h2 hl
structure TF (n lo i left : Nat) (rates : List (List Rat)) (start : List Rat) (lost : List Bool) : Prop where
 sl : start.length = i
 ll : lost.length = i
 rl : rates.length = i
 left4 : left ≤ 4
 fin : i = n → left = 0
 sum : zsb start = fq false (4 - left) 4
 st : ∀ q ∈ start, zra q
 los : ∀ (j : Nat) (b : Bool), lost[j]? = some b → b = decide ((n : Int) - lo ≤ j)
 rows : ∀ (j : Nat) (r : List Rat), rates[j]? = some r → RowF n lo j r n
theorem TF.zero (n lo : Nat) (hn : 0 < n) : TF n lo 0 4 [] [] [] :=
 ⟨rfl, rfl, rfl, Nat.le_refl _, fun h => by omega, by decide, fun q h => by simp at h, fun j b h => by simp at h, fun j r h => by simp at h⟩
theorem fq_quarter (a b : Nat) : fq false a 4 + fq false b 4 = fq false (a + b) 4 := by
 rw [zoe false a 4 b 4 (by decide) (by decide)]
 unfold fq sgn
 simp only [Bool.false_eq_true, if_false]
 rw [show ((a * 4 + b * 4 : Nat) : Int) = ((a + b : Nat) : Int) * 4 from by omega, show (4 * 4 : Nat) = 4 * 4 from rfl]
 exact Rat.mkRat_mul_right (by decide)
theorem TF.step {n lo i left k : Nat} {rates : List (List Rat)} {start : List Rat} {lost : List Bool} {r : List Rat} (h : TF n lo i left rates start lost) (hk : k ≤ left) (hl : i + 1 = n → k = left) (hr : RowF n lo i r n) :
 TF n lo (i + 1) (left - k) (rates ++ [r]) (start ++ [fq false k 4]) (lost ++ [decide ((n : Int) - lo ≤ i)]) := by
 obtain ⟨sl, ll, rl, l4, fin, sum, st, hlo, rows⟩ := h
 refine ⟨by simp [sl], by simp [ll], by simp [rl], by omega, fun h => by have := hl h; omega, ?_, fun q hq => ?_, fun j b hb => ?_, fun j q hq => ?_⟩
 ·rw [ztj, sum, fq_quarter, show 4 - left + k = 4 - (left - k) from by omega]
 ·rcases List.mem_append.1 hq with h | h
  ·exact st q h
  ·simp at h; subst h; exact ⟨k, 4, by omega, by decide, by decide, rfl⟩
 ·rcases Nat.lt_or_ge j lost.length with h | h
  ·rw [List.getElem?_append_left h] at hb; exact hlo j b hb
  ·have hj : j < (lost ++ [decide ((n : Int) - lo ≤ i)]).length := (List.getElem?_eq_some_iff.1 hb).1
   have hj2 : j = i := by simp at hj; omega
   rw [List.getElem?_append_right h, show j - lost.length = 0 from by omega] at hb
   simp at hb
   rw [← hb, hj2]
 ·rcases Nat.lt_or_ge j rates.length with h | h
  ·rw [List.getElem?_append_left h] at hq; exact rows j q hq
  ·have hj : j < (rates ++ [r]).length := (List.getElem?_eq_some_iff.1 hq).1
   have hj2 : j = i := by simp at hj; omega
   rw [List.getElem?_append_right h, show j - rates.length = 0 from by omega] at hq
   simp at hq
   rw [← hq, hj2]
   exact hr
theorem TF.done {n lo left : Nat} {rates : List (List Rat)} {start : List Rat} {lost : List Bool} (h : TF n lo n left rates start lost) (h2 : 2 ≤ n) (h5 : n ≤ 5) : tapeP ⟨rates, start, lost⟩ := by
 obtain ⟨sl, ll, rl, l4, fin, sum, st, hlo, rows⟩ := h
 refine ⟨by simp [sl, h2], by simp [sl, h5], by simp [sl, ll], by simp [sl, rl], st, ?_, fun i r hr => ?_⟩
 ·have := fin rfl
  subst this
  rw [sum]; decide
 ·obtain ⟨a, b, c, d⟩ := rows i r hr
  refine ⟨by simp [sl, a], b, c, fun hl => d ?_⟩
  have := hlo i true hl
  simpa using this.symm
theorem rowsQ_raw (c : CQ) (i : Nat) : zoa c.raw i = c.rates.getD i [] := by
 unfold zoa CQ.raw
 simp only [List.getD, List.getElem?_map]
 cases h : c.rates[i]? with
 | none => rfl
 | some r => simp [zwf]
theorem foldl_shift (l : List Rat) (s x : Rat) : l.foldl (· + ·) (s + x) = l.foldl (· + ·) s + x := by
 induction l generalizing s with
 | nil => rfl
 | cons y l ih =>
   simp only [List.foldl_cons]
   rw [show s + x + y = s + y + x by grind, ih]
section
variable {c : CQ} {of : List Int} {share : List Rat}
end
section
variable {c : CQ} {of : List Int} {share : List Rat}
theorem tapeP.rate (ht : tapeP c) {i j : Nat} (hi : i < c.start.length) (hj : j < c.start.length) : zra ((c.rates.getD i []).getD j 0) := by
 have h1 : i < c.rates.length := by rw [ht.rl]; exact hi
 obtain ⟨r1, r2, _⟩ := ht.rows i _ (List.getElem?_eq_getElem h1)
 have h2 : j < c.rates[i].length := by rw [r1]; exact hj
 simp only [List.getD, List.getElem?_eq_getElem h1, Option.getD_some, List.getElem?_eq_getElem h2]
 exact r2 _ (List.getElem_mem h2)
end
theorem lsum_cons (x : Rat) (l : List Rat) : zsb (x :: l) = zsb l + x := by
 unfold zsb
 rw [List.foldl_cons, foldl_shift]
theorem zdj {c : RC} (h : zla c) {i : Nat} (hi : i < c.lost.length) : (zoa c i).length = c.lost.length := by
 obtain ⟨h1, h2, h3, h4, h5, h6, h7⟩ := h
 have hi2 : i < c.rates.length := by omega
 unfold zoa
 simp only [List.getD, List.getElem?_eq_getElem hi2, Option.getD_some]
 rw [zrb, (h6 i _ (List.getElem?_eq_getElem hi2)).1.2.1, h3]
def zok (N : Nat) (q : Rat) : Prop := ∃ a : Nat, a ≤ N ∧ q = fq false a 144
theorem zok.zero (N : Nat) : zok N 0 := ⟨0, Nat.zero_le _, by decide +kernel⟩
theorem zok.mono {N M : Nat} {q : Rat} (h : zok N q) (hm : N ≤ M) : zok M q := by obtain ⟨a, h1, h2⟩ := h; exact ⟨a, by omega, h2⟩
theorem zne (a b m : Nat) (hm : m ≠ 0) : fq false a b = fq false (a * m) (b * m) := by
 unfold fq sgn
 simp only [Bool.false_eq_true, if_false]
 rw [show ((a * m : Nat) : Int) = (a : Int) * (m : Int) from by simp, Rat.mkRat_mul_right hm]
theorem zok.add {N M : Nat} {p q : Rat} (hp : zok N p) (hq : zok M q) : zok (N + M) (p + q) := by
 obtain ⟨a, h1, rfl⟩ := hp
 obtain ⟨b, h2, rfl⟩ := hq
 refine ⟨a + b, by omega, ?_⟩
 rw [zoe false a 144 b 144 (by decide) (by decide), zne (a + b) 144 144 (by decide), Nat.add_mul]
theorem zra.twelve {q : Rat} (h : zra q) : ∃ a : Nat, a ≤ 48 ∧ q = fq false a 12 := by
 obtain ⟨a, b, h1, h2, h3, rfl⟩ := h
 have hb : b = 1 ∨ b = 2 ∨ b = 3 ∨ b = 4 := by omega
 rcases hb with rfl | rfl | rfl | rfl
 ·exact ⟨a * 12, by omega, zne a 1 12 (by decide)⟩
 ·exact ⟨a * 6, by omega, zne a 2 6 (by decide)⟩
 ·exact ⟨a * 4, by omega, zne a 3 4 (by decide)⟩
 ·exact ⟨a * 3, by omega, zne a 4 3 (by decide)⟩
theorem zok.sum {N : Nat} {l : List Rat} (h : ∀ q ∈ l, zok N q) : zok (N * l.length) (zsb l) := by
 induction l with
 | nil => exact zok.zero _
 | cons x l ih =>
   rw [lsum_cons, List.length_cons, Nat.mul_succ]
   exact (ih (fun q hq => h q (by simp [hq]))).add (h x (by simp))
def stepQ (n : Nat) (rows : Nat → List Rat) (ρ : Rat) (v : List Rat) : List Rat := (List.range n).map fun j => sg n fun i => v.getD i 0 * stepM n (fun i j => (rows i).getD j 0) ρ i j
theorem zok.over {N : Nat} {q : Rat} (h : zok N q) : over 144 N q := by
 obtain ⟨a, h1, rfl⟩ := h
 exact ⟨a, by simp [Go.Proofs.Ytlpdkbmmbdfoiaa.fq, sgn], by simpa using h1⟩
structure StepOk (c : RC) (ρ : Rat) (v : List Rat) : Prop where
 fρ : fits ρ
 pos : 0 < ρ
 le : leaveTo c c.rates.length ≤ ρ
 h1 : ∀ i j, i < c.rates.length → j < c.rates.length → fits ((zoa c i).getD j 0 / ρ)
 h2 : ∀ i, i < c.rates.length → fits (zsb (zoa c i) / ρ) ∧ fits (1 - zsb (zoa c i) / ρ)
 hw : wtF c.rates.length c.rates.length (ztc c ρ) + wts v ≤ 3800
def zrl (c : RC) (ρ : Rat) (v : List Rat) : List Rat := rowL c.rates.length fun j => sg c.rates.length fun i => v.getD i 0 * ztc c ρ i j
theorem stepV_length (c : RC) (ρ : Rat) (v : List Rat) : (zrl c ρ v).length = c.rates.length := rowL_length _ _
theorem stepV_stepQ {c : RC} (hv : zla c) (ρ : Rat) (v : List Rat) : zrl c ρ v = stepQ c.rates.length (zoa c) ρ⁻¹ v := by
 unfold zrl stepQ rowL
 refine List.map_congr_left fun j hj => zea fun i hi => ?_
 rw [stepE_stepM c c.rates.length ρ (by rw [zdj hv (by have := hv.2.2.1; have := hv.2.2.2.1; omega)]; have := hv.2.2.1; have := hv.2.2.2.1; omega)]
theorem mk_fq (a d : Nat) : fq false a d = mkRat ((a : Nat) : Int) d := rfl
theorem zei {l : List Rat} {K : Nat} (h : ∀ q ∈ l, wt q ≤ K) : wts l ≤ l.length * K := by
 induction l with
 | nil => simp [wts]
 | cons x l ih =>
   have h1 := h x (by simp)
   have h2 := ih fun q hq => h q (by simp [hq])
   rw [zhc, List.length_cons, Nat.succ_mul]
   omega
section
variable {c : RC}
theorem big_getD (hr : ∀ i, i < c.rates.length → ∀ q ∈ zoa c i, zok 2304 q) {i j : Nat} (hi : i < c.rates.length) : over 144 2304 ((zoa c i).getD j 0) := by
 by_cases hj : j < (zoa c i).length
 ·rw [List.getD_eq_getElem?_getD, List.getElem?_eq_getElem hj]
  exact (hr i hi _ (List.getElem_mem hj)).over
 ·rw [List.getD_eq_getElem?_getD, List.getElem?_eq_none (by omega)]
  exact over.zero _ _
theorem big_sum (hv : zla c) (hn : c.rates.length ≤ 10) (hr : ∀ i, i < c.rates.length → ∀ q ∈ zoa c i, zok 2304 q) {i : Nat} (hi : i < c.rates.length) : zok 23040 (zsb (zoa c i)) := by
 have h1 := zdj hv (i := i) (by have := hv.2.2.1; have := hv.2.2.2.1; omega)
 refine (zok.sum (hr i hi)).mono ?_
 have := hv.2.2.1
 have := hv.2.2.2.1
 omega
theorem stepOk_of (hv : zla c) (hn : c.rates.length ≤ 10) (hr : ∀ i, i < c.rates.length → ∀ q ∈ zoa c i, zok 2304 q) {R : Nat} (hR0 : R ≠ 0) (hR : R ≤ 23328) (hle : leaveTo c c.rates.length ≤ mkRat ((R : Nat) : Int) 144) {v : List Rat} (hw : wts v ≤ 700) :
 StepOk c (mkRat ((R : Nat) : Int) 144) v ∧ ∀ i j, i < c.rates.length → j < c.rates.length → over R 48672 (ztc c (mkRat ((R : Nat) : Int) 144) i j) := by
 have ho : ∀ i j, i < c.rates.length → j < c.rates.length → over R 48672 (ztc c (mkRat ((R : Nat) : Int) 144) i j) := fun i j hi hj =>
  (stepE_over (n := c.rates.length) (N := 2304) (S := 23040) hR0 (fun i j hi _ => big_getD hr hi) (fun i hi => (big_sum hv hn hr hi).over) hi hj).mono (by omega)
 refine ⟨⟨?_, ?_, hle, step_fits1 (N := 2304) hR0 (by omega) (by decide) (fun i j hi _ => big_getD hr hi), step_fits2 (S := 23040) hR0 (by omega) (by decide) (fun i hi => (big_sum hv hn hr hi).over), ?_⟩, ho⟩
 ·exact over.fits (D := 144) (B := R) (by decide) ⟨R, rfl, by simp⟩ (Nat.lt_of_le_of_lt hR (by decide +kernel)) (by decide +kernel)
 ·have h1 : ¬ fq false R 144 < 0 := of_decide_eq_false (fq_neg false R 144 (by decide))
  have h2 : fq false R 144 ≠ 0 := fq_ne _ hR0 (by decide)
  rw [mk_fq] at h1 h2
  grind
 ·have h1 : wtF c.rates.length c.rates.length (ztc c (mkRat ((R : Nat) : Int) 144)) ≤ c.rates.length * (c.rates.length * 31) := wtF_le fun i j hi hj =>
   over.wt (a := 16) (b := 15) hR0 (ho i j hi hj) (by decide) (by omega)
  have h2 : c.rates.length * (c.rates.length * 31) ≤ 10 * (10 * 31) := Nat.mul_le_mul hn (Nat.mul_le_mul_right _ hn)
  omega
theorem stepV_over {R D B : Nat} (hD : D ≠ 0) (hR0 : R ≠ 0) {ρ : Rat} (ho : ∀ i j, i < c.rates.length → j < c.rates.length → over R 48672 (ztc c ρ i j)) {v : List Rat} (hvo : ∀ q ∈ v, over D B q) : ∀ q ∈ zrl c ρ v, over (D * R) (c.rates.length * (B * 48672)) q := by
 intro q hq
 unfold zrl rowL at hq
 obtain ⟨j, hj, rfl⟩ := List.mem_map.1 hq
 have hj2 := List.mem_range.1 hj
 refine over.sg (Nat.mul_ne_zero hD hR0) fun i hi => over.mul ?_ (ho i j hi hj2)
 by_cases hi2 : i < v.length
 ·rw [List.getD_eq_getElem?_getD, List.getElem?_eq_getElem hi2]; exact hvo _ (List.getElem_mem hi2)
 ·rw [List.getD_eq_getElem?_getD, List.getElem?_eq_none (by omega)]; exact over.zero _ _
end
structure SmC (c : RC) : Prop where
 n5 : c.rates.length ≤ 5
 r : ∀ i j, i < c.rates.length → j < c.rates.length → over 720 28800 (rq c i j)
 s : ∀ i, i < c.rates.length → over 720 28800 ((qs c.start).getD i 0)
theorem slim5 : ∀ n, n < 6 → slimB n 720 230400 (dtB n 230400) := by
 intro n hn
 have h : ∀ n, n < 6 → (bD 720 (dtB n 230400) * (bD 720 (dtB n 230400) * bN n 720 230400 (dtB n 230400) * bD 720 (dtB n 230400)) < 2 ^ 4096 ∧ bN n 720 230400 (dtB n 230400) * (bD 720 (dtB n 230400) * bN n 720 230400 (dtB n 230400) * bD 720 (dtB n 230400)) + bN n 720 230400 (dtB n 230400) * bD 720 (dtB n 230400) * bN n 720 230400 (dtB n 230400) * bD 720 (dtB n 230400) < 2 ^ 4096 ∧ (720 * dtB n 230400 * 720) ^ n < 2 ^ 4096 ∧ (bW n 720 230400 (dtB n 230400)) ^ n < 2 ^ 4096) := by decide +kernel
 obtain ⟨h1, h2, h3, h4⟩ := h n hn
 exact ⟨Nat.le_refl _, by decide, by decide, h1, h2, h3, h4⟩
theorem zqi {c : RC} {l : List Nat} (h : zsc c l) : l.length ≤ c.rates.length := by
 have h1 := zui (lo := 0) (n := c.rates.length) h.sorted fun x hx => ⟨Nat.zero_le _, ((h.mem x).1 hx).1⟩
 omega
theorem over_f {B : Nat} {q : Rat} (h : over 720 B q) (hB : B < 2 ^ 4096) : fits q := h.fits (by decide) hB (by decide +kernel)
theorem sm_A {c : RC} {l : List Nat} (hv : zla c) (h : zsc c l) (hs : SmC c) {i j : Nat} (hi : i < l.length) (hj : j < l.length) : over 720 230400 (zgh c l i j) := by
 have h1 := (zxc h).lt _ (zna hi)
 have h2 := (zxc h).lt _ (zna hj)
 unfold zgh
 split
 ·rw [out_sg hv h1]
  exact (over.sg (by decide) fun t ht => hs.r _ t h1 ht).mono (by have := hs.n5; omega)
 ·exact (over.sub (by decide) (over.zero 720 0) (hs.r _ _ h1 h2)).mono (by decide)
theorem wt_28 {q : Rat} (h : over 720 230400 q) : wt q ≤ 28 := h.wt (a := 18) (b := 10) (by decide) (by decide) (by decide)
theorem slim_sys {c : RC} {l : List Nat} {b : Nat → Rat} (hv : zla c) (h : zsc c l) (hs : SmC c) (hb : ∀ i, i < l.length → over 720 230400 (b i)) (hn : 0 < l.length) : dt l.length (zgh c l) ≠ 0 ∧ slimE false l.length (l.length + 1) l.length (zga l.length (zgh c l) fun i _ => b i) := by
 have hd : dt l.length (zgh c l) ≠ 0 := by
  rw [zoc fun i j hi hj => sysA_mm hv h hi]
  exact (zxc h).dt (zfm hv)
 have h5 : l.length < 6 := by have := zqi h; have := hs.n5; omega
 refine ⟨hd, slimE_minor (slim5 _ h5) hn (Nat.le_succ _) (fun i j hi hj => ?_) (zye (B := fun i _ => b i) hd)⟩
 unfold zga
 split
 ·rename_i hj2
  exact sm_A hv h hs hi hj2
 ·exact hb i hi
theorem dtB5 : ∀ n, n < 6 → dtB n 230400 < 2 ^ 200 := by decide +kernel
theorem sm_x {c : RC} {l : List Nat} {b x : Nat → Rat} (hv : zla c) (h : zsc c l) (hs : SmC c) (hb : ∀ i, i < l.length → over 720 230400 (b i)) (hx : ∀ i, i < l.length → sg l.length (fun j => zgh c l i j * x j) = b i) :
 ∃ E, E ≠ 0 ∧ E < 2 ^ 220 ∧ ∀ i, i < l.length → over E (2 ^ 240) (x i) := by
 by_cases hn : 0 < l.length
 ·obtain ⟨hd, _⟩ := slim_sys hv h hs hb hn
  have h5 : l.length < 6 := by have := zqi h; have := hs.n5; omega
  obtain ⟨E, hE, hEb, hI⟩ := sol_gen (n := l.length) (D := 720) (B := 230400) (by decide) (by decide) (fun i j hi hj => sm_A hv h hs hi hj) hd (F := 720) (K := 230400) (by decide) hb hx
  have hB := dtB5 _ h5
  refine ⟨E * 720, Nat.mul_ne_zero hE (by decide), ?_, fun i hi => (hI i hi).mono ?_⟩
  ·exact Nat.lt_of_le_of_lt (Nat.mul_le_mul_right _ (Nat.le_trans hEb (Nat.le_of_lt hB))) (show 2 ^ 200 * 720 < 2 ^ 220 by decide +kernel)
  ·exact Nat.le_trans (Nat.mul_le_mul (show l.length ≤ 5 by omega) (Nat.mul_le_mul_right _ (Nat.le_of_lt hB))) (show 5 * (2 ^ 200 * 230400) ≤ 2 ^ 240 by decide +kernel)
 ·exact ⟨1, by decide, by decide +kernel, fun i hi => absurd hi (by omega)⟩
theorem pow_a : 720 * 2 ^ 220 < 2 ^ 240 := by decide +kernel
theorem pow_c {a : Nat} (h : a < 4096) : 2 ^ a < 2 ^ 4096 := by
 generalize 4096 = n at *
 exact Nat.pow_lt_pow_right (by decide) h
theorem csolve_sm {c : RC} {l : List Nat} {b x : Nat → Rat} (hv : zla c) (h : zsc c l) (hs : SmC c) (hb : ∀ i, i < l.length → over 720 230400 (b i)) (hx : ∀ i, i < l.length → sg l.length (fun j => zgh c l i j * x j) = b i) : zlk c l b x := by
 have hk := zxc h
 have h5 : l.length ≤ 5 := by have := zqi h; have := hs.n5; omega
 have hA : fitM l.length l.length (zgh c l) := fun i j hi hj => over_f (sm_A hv h hs hi hj) (by decide +kernel)
 have hfb : ∀ i, i < l.length → fits (b i) := fun i hi => over_f (hb i hi) (by decide +kernel)
 have hw1 : wtF l.length l.length (zgh c l) ≤ 700 := by
  have h1 := wtF_le (K := 28) (n := l.length) (m := l.length) (A := zgh c l) fun i j hi hj => wt_28 (sm_A hv h hs hi hj)
  have h2 : l.length * (l.length * 28) ≤ 5 * (5 * 28) := Nat.mul_le_mul h5 (Nat.mul_le_mul_right _ h5)
  omega
 have hw2 : wts (rowL l.length b) ≤ 140 := by
  have h1 := zei (l := rowL l.length b) (K := 28) fun q hq => by
   unfold rowL at hq
   obtain ⟨i, hi, rfl⟩ := List.mem_map.1 hq
   exact wt_28 (hb i (List.mem_range.1 hi))
  rw [rowL_length] at h1
  omega
 have hw3 : wts (qs c.start) ≤ 140 := by
  have hl : (qs c.start).length = c.rates.length := by rw [zrb]; exact hv.2.2.2.1.symm
  have h1 := zei (l := qs c.start) (K := 28) fun q hq => by
   obtain ⟨i, hi, rfl⟩ := List.mem_iff_getElem.1 hq
   have h2 := hs.s i (by omega)
   rw [List.getD_eq_getElem?_getD, List.getElem?_eq_getElem hi, Option.getD_some] at h2
   exact wt_28 (h2.mono (by decide))
  have := hs.n5
  rw [hl] at h1
  omega
 obtain ⟨E, hE, hEb, hX⟩ := sm_x hv h hs hb hx
 have hEx : E < 2 ^ 4096 := Nat.lt_trans hEb (by decide +kernel)
 have hE2 : 720 * E < 2 ^ 4096 := Nat.lt_trans (Nat.lt_of_le_of_lt (Nat.mul_le_mul_left _ (Nat.le_of_lt hEb)) pow_a) (pow_c (by decide))
 have hE3 : 720 * E ≠ 0 := Nat.mul_ne_zero (by decide) hE
 have hP : ∀ i, i < l.length → over (720 * E) (28800 * 2 ^ 240) ((qs c.start).getD (l.getD i 0) 0 * x i) := fun i hi => over.mul (hs.s _ (hk.lt _ (zna hi))) (hX i hi)
 exact {
  lt := fun i hi => hk.lt _ (zna hi)
  le := by omega
  fn := fun i j hi hj => over_f (over.sub (by decide) (over.zero 720 0) (hs.r _ _ (hk.lt _ (zna hi)) (hk.lt _ (zna hj)))) (by decide +kernel)
  fA := hA
  fb := hfb
  w := by omega
  sys := by
   by_cases hn : l.length = 0
   ·exact Or.inl hn
   ·obtain ⟨hd, hsl⟩ := slim_sys hv h hs hb (by omega)
    exact Or.inr ⟨by omega, by omega, hA, hfb, fun i hi => (hX i hi).fits hE (by decide +kernel) hEx, by omega, hd, hsl, hx⟩
  fp := fun i hi => (hP i hi).fits hE3 (by decide +kernel) hE2
  fs := fun k hk2 => ((over.sg hE3 fun i hi => hP i (by omega)).mono (show k * (28800 * 2 ^ 240) ≤ 5 * (28800 * 2 ^ 240) from Nat.mul_le_mul_right _ (by omega))).fits hE3 (by decide +kernel) hE2 }
end Go.Proofs.Ytlpdkbmmbdfoiaa
namespace Go.Proofs.Ytlpdkbmmbdfoiaa
open Go.RowKit
def RMean (w0 : World) (c : RC) (R : Rat) (e : Ending) (w : World) : Prop :=
 ((∀ j, j < c.rates.length → Rch c j → Ftl c j) ∧ RF0 w0 R e w) ∨ ((∃ j, j < c.rates.length ∧ Rch c j ∧ ¬ Ftl c j) ∧ e = .returned (.tuple #[.agg #[.bool false, .slice none 0 0, .slice none 0 0], .int .i64 14]) ∧ Below w0.heap.size w0 w)
set_option maxRecDepth 100000 in
set_option maxHeartbeats 6400000 in
theorem mean_any (va : Value) (c : RC) (R : Rat) (w : World) (ha : ChainN w va c) (hv : zla c) (hp : (∀ j, j < c.rates.length → Rch c j → Ftl c j) → ∀ l, zsc c l → ∃ x, zlk c l (fun _ => 1) x ∧ sg l.length (fun i => (qs c.start).getD (l.getD i 0) 0 * x i) = R) :
 Calls Try.prog 17 #[va] w (RMean w c R) := by
 have HP := zH hp
 clear hp
 have hlen : c.rates.length = c.start.length := hv.2.2.2.1
 have hlost : c.lost.length = c.start.length := hv.2.2.1
 have h128 : c.start.length ≤ 128 := hv.2.1
 obtain ⟨rv, sv, lv, rfl, hr, hs, hlo⟩ := id ha
 obtain ⟨ra, rn, rk, rfl, _⟩ := id hr.sl
 obtain ⟨sa, sn, sk, rfl, _⟩ := id hs.sl
 obtain ⟨la, ln, lk, rfl, _⟩ := id (CellsV.sl hlo)
 have hbx := below_alloc w (.cells #[.slice ra rn rk, .slice sa sn sk, .slice la ln lk] 45)
 have hb2 := below_alloc (w.alloc (.cells #[.slice ra rn rk, .slice sa sn sk, .slice la ln lk] 45)) (.cells #[.bool false, .slice none 0 0, .slice none 0 0] 32)
 have HC := zH ((C3.new w 45 (.slice ra rn rk) (.slice sa sn sk) (.slice la ln lk)).belowS hb2)
 have HR := zH (C3.newB (b := w.heap.size + 1) (w.alloc (.cells #[.slice ra rn rk, .slice sa sn sk, .slice la ln lk] 45)) 32 (.bool false) (.slice none 0 0) (.slice none 0 0) (by simp))
 have HBW := zH (below_then hbx hb2)
 have HA := zH (ha.below HBW.out)
 have HV := zH hv
 have hrn : rn = c.rates.length := hr.len
 have hsn : sn = c.rates.length := hs.len.trans hlen.symm
 have hll : ln = c.rates.length := by have h : ln = c.lost.length := hlo.len; omega
 have hrn128 : c.rates.length ≤ 128 := by omega
 have HRT := zH (hr.below HBW.out)
 have HST := zH (hs.below HBW.out)
 have HLO := zH (hlo.below HBW.out)
 have HLL : Hid (c.lost.length = c.rates.length) := zH (by omega)
 have HSL : Hid (c.start.length = c.rates.length) := zH hlen.symm
 have srt := hr.sl
 have sst := hs.sl
 have slo := CellsV.sl hlo
 obtain ⟨n, hn⟩ : ∃ n, c.rates.length = n := ⟨_, rfl⟩
 rw [hn] at hrn hsn hll hrn128 HLL HSL
 have HN := zH hn
 subst hrn
 obtain rfl : sn = rn := hsn
 obtain rfl : ln = sn := hll
 clear hr hs hlo ha hv hbx hb2 hlen hlost h128 hn
 obtain ⟨i0, hi, hz0, hz1, hz2⟩ := info_parts Try.infoF
 have hM := zph (P := Try.prog) 23 32 i0 Try.underlying23 hi hz0 hz1 (by rw [hz2]; decide)
 clear hi hz0 hz1 hz2 HRT HST HLO HLL HSL
 go_enter Try.func17, Try.ntmps17
 go_upto_region 1 with fail
 generalize (w.alloc (.cells #[.slice ra ln rk, .slice sa ln sk, .slice la ln lk] 45)).alloc (.cells #[.bool false, .slice none 0 0, .slice none 0 0] 32) = W2 at *
 obtain ⟨_, c0, c1, c2, _, _, _⟩ := HC.out
 go_upto_region 3 with (first
  |(go_at_call 39; (with_reducible refine (zfe _ c _ HA.out).mono ?_); rintro e2 w2 ⟨⟨b2, rfl, hv2⟩, hb2⟩; obtain rfl : b2 = true := hv2.2 HV.out; clear hv2
    have HC2 := zH (HC.out.belowS hb2)
    have HR2 := zH (HR.out.belowS hb2)
    have HA2 := zH (HA.out.below hb2)
    have HBW2 := zH (below_then HBW.out hb2)
    clear hb2))
 clear c0 c1 c2 HC HR HA HBW
 obtain ⟨_, c0, c1, c2, _, _, _⟩ := HC2.out
 have S0 := zH (And.intro c0 (And.intro c1 c2))
 clear c0 c1 c2
 go_region_held3 (fun w' => w'.cell? ⟨w.heap.size, 0, none⟩ = some (.slice ra ln rk) ∧ w'.cell? ⟨w.heap.size, 1, none⟩ = some (.slice sa ln sk) ∧ w'.cell? ⟨w.heap.size, 2, none⟩ = some (.slice la ln lk) ∧ Below w2.heap.size w2 w') (first
  | with_reducible exact kp3a S0.out (below_drew _)
  | with_reducible exact kp3w (by assumption) (by assumption)) (first
  |(go_at_call 44; (with_reducible refine (zng _ c _ (HA2.out.below (kp3c (by assumption))) HV.out).mono ?_); rintro e4 w4 ⟨v4, bs4, rfl, hv4, hl4, hm4, hb4⟩)
  |(go_at_call 45; (with_reducible refine (fatal_any _ c _ (HA2.out.below (kp3c (by assumption))) HV.out).mono ?_); rintro e5 w5 ⟨v5, bs5, rfl, hv5, hl5, hm5, hb5⟩))
 have hE := kp3c (by assumption)
 have HV4 := zH (hv4.below hb5)
 have HV5 := zH hv5
 have HC5 := zH (HC2.out.belowS hE)
 have HR5 := zH (HR2.out.belowS hE)
 have HA5 := zH (HA2.out.below hE)
 have HBW5 := zH (below_then HBW2.out hE)
 have s4 := CellsV.sl hv4
 have s5 := CellsV.sl hv5
 rw [HN.out] at hl4 hl5 hm4 hm5
 have l4 : slen v4 = ln := by rw [hv4.len, hl4]
 have l5 : slen v5 = ln := by rw [hv5.len, hl5]
 have HLN4 := zH hl4
 have HLN5 := zH hl5
 have HM4 := zH hm4
 have HM5 := zH hm5
 obtain ⟨va4, vn4, vk4, rfl, _⟩ := id s4
 obtain ⟨va5, vn5, vk5, rfl, _⟩ := id s5
 obtain rfl : vn4 = ln := l4
 obtain rfl : vn5 = vn4 := l5
 clear hv4 hv5 hE hl4 hl5 hm4 hm5 hb4 hb5 HC2 HR2 HA2 HBW2 S0
 go_wp2_with fail
 go_loopg [20] (vn5) (fun g u20 wr => wr = w5 ∧ ∃ (k : Nat), k ≤ vn5 ∧ g = vn5 - k ∧ u20 = .int .i64 k ∧ (∀ j, j < k → bs4.getD j false = true → bs5.getD j false = true))
 case atStart => exact ⟨rfl, 0, Nat.zero_le _, rfl, rfl, fun j h => by omega⟩
 case round =>
  obtain ⟨rfl, k, hkn, hg, rfl, hall⟩ := hrel
  have HG := zH hg
  have HALL := zH hall
  clear hg hall
  by_cases hkl : k < vn5
  ·have hk4 : k < bs4.length := by rw [HLN4.out]; exact hkl
   have hk5 : k < bs5.length := by rw [HLN5.out]; exact hkl
   have q4 := HV4.out.at' k hk4
   have q5 := HV5.out.at' k hk5
   have HX4 := zH (getB_lt hk4)
   have HX5 := zH (getB_lt hk5)
   have i1 : (0 : Int) ≤ (k : Int) := by omega
   have i2 : (k : Int) < (vn5 : Nat) := by omega
   obtain ⟨x4, hx4⟩ : ∃ x, bs4[k]'hk4 = x := ⟨_, rfl⟩
   obtain ⟨x5, hx5⟩ : ∃ x, bs5[k]'hk5 = x := ⟨_, rfl⟩
   rw [hx4] at q4 HX4
   rw [hx5] at q5 HX5
   clear hx4 hx5
   cases x4 with
   | false =>
     go_wp2_with fail
     go_roundg (vn5 - (k + 1))
     case measure => (have := HG.out; omega)
     case rel =>
      refine ⟨rfl, k + 1, by omega, rfl, by go_num, fun j hj h => ?_⟩
      rcases Nat.lt_or_ge j k with h6 | h6
      ·exact HALL.out j h6 h
      ·obtain rfl : j = k := by omega
       rw [HX4.out] at h
       cases h
   | true =>
     cases x5 with
     | true =>
       go_wp2_with fail
       go_roundg (vn5 - (k + 1))
       case measure => (have := HG.out; omega)
       case rel =>
        refine ⟨rfl, k + 1, by omega, rfl, by go_num, fun j hj h => ?_⟩
        rcases Nat.lt_or_ge j k with h6 | h6
        ·exact HALL.out j h6 h
        ·obtain rfl : j = k := by omega
         exact HX5.out
     | false =>
       obtain ⟨_, r0, r1, r2, q0, q1, q2⟩ := HR5.out
       go_wp2_with fail
       refine bodyPost_c3 rfl rfl Try.aggF Try.sizeF (HR5.out.set _ _ _) rfl ?_
       refine Or.inr ⟨⟨k, by rw [HN.out]; exact hkl, (HM4.out k hkl).1 HX4.out, fun h => ?_⟩, rfl, below_set3 HBW5.out (Nat.le_succ _) _ _ _⟩
       have h2 := (HM5.out k hkl).2 h
       rw [HX5.out] at h2
       cases h2
  ·obtain rfl : k = vn5 := by omega
   have hsure : ∀ j, j < c.rates.length → Rch c j → Ftl c j := fun j hj h => by
    rw [HN.out] at hj
    exact (HM5.out j hj).1 (HALL.out j hj ((HM4.out j hj).2 h))
   have HSURE := zH hsure
   obtain ⟨_, c0, c1, c2, _, _, _⟩ := HC5.out
   clear HM4 HM5 HALL hsure HV4 HV5 HLN4 HLN5
   go_upto_region 11 with (first
    |(go_at_call 40; (with_reducible refine (alive_any _ c _ HA5.out HV.out).mono ?_); rintro e3 w3 ⟨v3, l, rfl, hv3, hal, hb3⟩
      have HB3 := zH hb3
      have HL3 := zH hv3
      obtain ⟨x, hx⟩ := HP.out HSURE.out l hal
      have HX := zH hx.1
      have HXR := zH hx.2
      have hl24 := hx.1.le
      obtain ⟨m, hm⟩ : ∃ m, l.length = m := ⟨_, rfl⟩
      have HM := zH hm
      rw [hm] at hl24
      have sv3 := CellsV.sl hv3
      have lv3 : slen v3 = m := by have h := CellsV.len hv3; rw [List.length_map, zma, hm] at h; exact h
      obtain ⟨va1, vn1, vk1, rfl, _⟩ := id (CellsV.sl hv3)
      obtain rfl : vn1 = m := lv3
      have HC3 := zH (HC5.out.belowS hb3)
      have HR3 := zH (HR5.out.belowS hb3)
      have HA3 := zH (HA5.out.below hb3)
      have HBW3 := zH (below_then HBW5.out hb3)
      clear hv3 hal hb3 HP hx hm c0 c1 c2))
   clear HA5 HC5 HR5 HBW5
   go_wp2_with (refine hM w3 rfl _ _ rfl w3.heap.size _ vn1 rfl rfl rfl (by omega) (Nat.le_refl _) ?_
                intro vO w5 hO5 hb5 hvO
                have HO5 := zH hO5
                have HB5 := zH hb5
                have slO := hO5.sl
                have lnO := hO5.len
                clear hO5 hb5)
   clear hM
   go_loopg [43] (vn1) (fun g u43 wr => ∃ (i : Nat), i ≤ vn1 ∧ g = vn1 - i ∧ u43 = .int .i64 i ∧ OwnFr wr 32 w3.heap.size vO vn1 ∧ (∀ t, t < i → ElemC wr vO t 1) ∧ Below w3.heap.size w3 wr)
   case atStart => exact ⟨0, Nat.zero_le _, rfl, rfl, HO5.out, fun t h => by omega, HB5.out⟩
   case round =>
    obtain ⟨i, hin, hg, rfl, ho, he, hbr⟩ := hrel
    obtain ⟨w6, hw6⟩ : ∃ w6, w6 = wr := ⟨_, rfl⟩
    subst hw6
    have HG := zH hg
    have HE := zH he
    have HO := zH ho
    have HBR := zH hbr
    clear he hg HO5 HB5
    by_cases hil : i < vn1
    ·have i1 : (0 : Int) ≤ (i : Int) := by omega
     have i2 : (i : Int) < (vn1 : Nat) := by omega
     clear ho hbr
     go_wp2_with (first
      |(go_at_call 41; (with_reducible refine (znh _).mono ?_); rintro e31 w31 ⟨v31, rfl, hv31, hb31⟩
        obtain ⟨t6, x31, y31, rfl, ⟨a61, l61, k61, rfl, _⟩, ⟨a62, l62, k62, rfl, _⟩⟩ := hv31.isF
        have ho3 := HO.out.below hb31
        obtain ⟨c0, d0, _⟩ := ho3.cell (i * 3) (by omega)
        obtain ⟨c1, d1, _⟩ := ho3.cell (i * 3 + 1) (by omega)
        obtain ⟨c2, d2, _⟩ := ho3.cell (i * 3 + 2) (by omega)
        have f0 := ho3.frozen (i * 3)
        have f1 := ho3.frozen (i * 3 + 1)
        have f2 := ho3.frozen (i * 3 + 2)
        have n01 := ho3.inj (show i * 3 ≠ i * 3 + 1 by omega)
        have n02 := ho3.inj (show i * 3 ≠ i * 3 + 2 by omega)
        have n12 := ho3.inj (show i * 3 + 1 ≠ i * 3 + 2 by omega)
        have HS3 := zH (ho3.set3 i (.bool t6) (.slice a61 l61 k61) (.slice a62 l62 k62) (fun z => by simp) (fun z => by simp) (fun z => by simp))
        have HE3 := zH (fun t ht => (HE.out t ht).below hb31)
        have HO3 := zH ho3
        have HV6 := zH hv31
        have HB3 := zH (below_then2 HBR.out hb31 HBR.out.size)
        clear ho3 hv31 hb31))
     go_roundg (vn1 - (i + 1))
     case measure => (have := HG.out; omega)
     case rel =>
      refine ⟨i + 1, by omega, rfl, by go_num, HS3.out.1, fun t ht => ?_, HB3.out.trans HS3.out.2⟩
      rcases Nat.lt_or_ge t i with h6 | h6
      ·exact ElemC.set3_other HO3.out hil (by omega) (HE3.out t h6) _ _ _ (fun z => by simp) (fun z => by simp)
      ·obtain rfl : t = i := by omega
       exact ElemC.set3 HO3.out hil HV6.out
    ·obtain rfl : i = vn1 := by omega
     have HVR : Hid (FracsC w6 vO (rowL l.length fun i => 1)) := zH (by
      rw [HM.out]
      exact HO.out.fracs (rowL_length _ _) (fun j hj => by rw [rowL_length] at hj; rw [rowL_get]; exact HE.out j hj))
     have HA6 := zH (HA3.out.below hbr)
     have HL6 := zH (HL3.out.below hbr)
     have hc6 := HC3.out.belowS hbr
     have HR6 := zH (HR3.out.belowS hbr)
     have HBW6 := zH (below_then HBW3.out hbr)
     obtain ⟨_, e0, e1, e2, _, _, _⟩ := hc6
     clear ho HO HE HBR hbr HC3 HR3 HA3 HBW3 HL3 HG
     go_wp2_with (first
      |(go_at_call 43; (with_reducible refine (zml _ _ _ c l _ x _ HA6.out HV.out HL6.out HVR.out HX.out).mono ?_); rw [HXR.out]; rintro e8 w8 ⟨v8, rfl, hv8, hb8⟩
        obtain ⟨t8, x8, y8, rfl, ⟨a81, l81, k81, rfl, _⟩, ⟨a82, l82, k82, rfl, _⟩⟩ := hv8.isF
        have hr8 := HR6.out.belowS hb8
        have HR8 := zH hr8
        have HB8 := zH (below_then HBW6.out hb8)
        have HV8 := zH hv8
        obtain ⟨_, r0, r1, r2, q0, q1, q2⟩ := hr8
        clear hv8 hb8))
     refine bodyPost_c3 rfl rfl Try.aggF Try.sizeF (HR8.out.set _ _ _) rfl ?_
     exact Or.inl ⟨HSURE.out, _, rfl, HV8.out.set3 HR8.out (fun z => by simp) (fun z => by simp) _ _ _, below_set3 HB8.out (Nat.le_succ _) _ _ _⟩
end Go.Proofs.Ytlpdkbmmbdfoiaa
namespace Go.Proofs.Ytlpdkbmmbdfoiaa
def stS (c : RC) (X : Nat → Rat) : Rat := sg c.rates.length fun t => (qs c.start).getD t 0 * X t
abbrev HitC (c : RC) (H : Nat → Rat) : Prop := HitF c.rates.length (rq c) (zxa c) H
abbrev TimeC (c : RC) (T : Nat → Rat) : Prop := TimeF c.rates.length (rq c) (zxa c) (znl c.rates.length (rq c) (zxa c)) T
theorem lsr_over {c : RC} (hs : SmC c) {s k : Nat} (h : s < c.rates.length) (hk : k ≤ c.rates.length) : over 720 230400 (lsr c s k) := by
 unfold lsr
 have h5 := hs.n5
 refine (over.sg (B := 28800) (by decide) fun t ht => ?_).mono (show k * 28800 ≤ 230400 by omega)
 split
 ·exact hs.r _ _ h (by omega)
 ·exact over.zero _ _
theorem lst_over {c : RC} (hs : SmC c) {k : Nat} (hk : k ≤ c.rates.length) : over 720 230400 (lst c k) := by
 unfold lst
 have h5 := hs.n5
 refine (over.sg (B := 28800) (by decide) fun t ht => ?_).mono (show k * 28800 ≤ 230400 by omega)
 split
 ·exact hs.s _ (by omega)
 ·exact over.zero _ _
theorem pow_b : 5 * (28800 * 2 ^ 240) + 230400 * 2 ^ 220 < 2 ^ 280 := by decide +kernel
theorem hit_sm {c : RC} {H : Nat → Rat} (hv : zla c) (hs : SmC c) (hH : HitC c H) : ∀ l, zsc c l → ∃ x, HitP c l x ∧ sg l.length (fun i => (qs c.start).getD (l.getD i 0) 0 * x i) + lst c c.rates.length = stS c H := by
 intro l h
 have hk := zxc h
 have hb : ∀ i, i < l.length → over 720 230400 (lsr c (l.getD i 0) c.rates.length) := fun i hi => lsr_over hs (hk.lt _ (zna hi)) (Nat.le_refl _)
 have hx := fun i (hi : i < l.length) => alive_hit hv h hH hi
 have h5 : l.length ≤ 5 := by have := zqi h; have := hs.n5; omega
 obtain ⟨E, hE, hEb, hX⟩ := sm_x hv h hs hb hx
 have hE3 : 720 * E ≠ 0 := Nat.mul_ne_zero (by decide) hE
 have hE2 : 720 * E < 2 ^ 4096 := by
  have h1 : 720 * E ≤ 720 * 2 ^ 220 := Nat.mul_le_mul_left _ (Nat.le_of_lt hEb)
  exact Nat.lt_trans (Nat.lt_of_le_of_lt h1 pow_a) (pow_c (by decide))
 refine ⟨fun i => H (l.getD i 0), ⟨csolve_sm hv h hs hb hx, fun i k hi hk2 => over_f (lsr_over hs (hk.lt _ (zna hi)) hk2) (Nat.lt_trans (show 230400 < 2 ^ 18 by decide) (pow_c (by decide))), fun k hk2 => ?_⟩, hit_sum hv h hH⟩
 have h1 : over (720 * E) (l.length * (28800 * 2 ^ 240)) (sg l.length fun i => (qs c.start).getD (l.getD i 0) 0 * H (l.getD i 0)) := over.sg hE3 fun i hi => over.mul (hs.s _ (hk.lt _ (zna hi))) (hX i hi)
 have h2 : over (720 * E) (230400 * E) (lst c k) := (lst_over hs hk2).scale hE
 have h3 := over.add hE3 h1 h2
 have h4 : l.length * (28800 * 2 ^ 240) + 230400 * E < 2 ^ 280 := by
  have h6 : l.length * (28800 * 2 ^ 240) ≤ 5 * (28800 * 2 ^ 240) := Nat.mul_le_mul_right _ h5
  have h7 : 230400 * E ≤ 230400 * 2 ^ 220 := Nat.mul_le_mul_left _ (Nat.le_of_lt hEb)
  exact Nat.lt_of_le_of_lt (Nat.add_le_add h6 h7) pow_b
 exact h3.fits hE3 (Nat.lt_trans h4 (pow_c (a := 280) (by decide))) hE2
theorem mean_sm {c : RC} {T : Nat → Rat} (hv : zla c) (hs : SmC c) (hT : TimeC c T) : (∀ j, j < c.rates.length → Rch c j → Ftl c j) → ∀ l, zsc c l → ∃ x, zlk c l (fun _ => 1) x ∧ sg l.length (fun i => (qs c.start).getD (l.getD i 0) 0 * x i) = stS c T := by
 intro hall l h
 have h1 : over 720 230400 1 := (over.one (D := 720) (by decide)).mono (by decide)
 exact ⟨fun i => T (l.getD i 0), csolve_sm hv h hs (fun _ _ => h1) fun i hi => alive_time hv h hall hT hi, time_sum hv h hall hT⟩
theorem hit_c {va : Value} {c : RC} {H : Nat → Rat} {w : World} (ha : ChainN w va c) (hv : zla c) (hs : SmC c) (hH : HitC c H) : Calls Try.prog 16 #[va] w (RF0 w (stS c H)) := hit_any va c _ w ha hv (hit_sm hv hs hH)
theorem mean_c {va : Value} {c : RC} {T : Nat → Rat} {w : World} (ha : ChainN w va c) (hv : zla c) (hs : SmC c) (hT : TimeC c T) : Calls Try.prog 17 #[va] w (RMean w c (stS c T)) := mean_any va c _ w ha hv (mean_sm hv hs hT)
end Go.Proofs.Ytlpdkbmmbdfoiaa
namespace Go.Proofs.Ytlpdkbmmbdfoiaa
open Go.RowKit
section
variable {P : Program} {ops : Array Oper} {Q : Exit → Act → World → Prop}
def zba (l : Array Bool) (i : Nat) : Prop := l.getD i false = true
theorem zba.set {l : Array Bool} {i j : Nat} (h : zba (l.setIfInBounds i true) j) : j = i ∨ zba l j := by
 by_cases e : j = i
 ·exact Or.inl e
 ·refine Or.inr ?_
  unfold zba at h ⊢
  rwa [getD_set_ne false (fun e2 => e e2.symm)] at h
theorem wpI.any {md : Region.Mode} (Inv : Array Bool → Act → World → Prop)
 (hstep : ∀ l a w i o, Inv l a w → Shut md ops l → ¬ zba l i → ops[i]? = some o → (∀ e ∈ o.after, Region.binds md e = true → zba l e.on) → ∀ K : Act → World → Prop, Hid (∀ b v, Inv (l.setIfInBounds i true) b v → K b v) → if Region.wanted o (yielded ops a.tmps) = true then o.wp P a w K Q else K (a.put o.dst undef) w)
 (hdone : ∀ l a w, Inv l a w → (∀ i, i < ops.size → zba l i) → Q .normal a w) (hacyc : ∀ (l : Array Bool), l.size = ops.size → Region.ready md ops l = [] → ∀ i, i < ops.size → zba l i) :
 ∀ (k : Nat) (l : Array Bool) (a : Act) (w : World), Inv l a w → Shut md ops l → l.size = ops.size → zfk l.toList ≤ k → wpAny P md ops Q k l a w
 | 0, l, a, w, hI, hsh, hs, hc => by
   have hall : ∀ i, i < ops.size → zba l i := fun i hi => by
    by_cases h : zba l i
    ·exact h
    ·exfalso
     have hi2 : i < l.toList.length := by rw [Array.length_toList, hs]; exact hi
     have hb : l.toList[i]? = some false := by
      rw [Array.getElem?_toList]
      have h1 : l[i]? = some (l[i]'(by rw [hs]; exact hi)) := Array.getElem?_eq_getElem _
      unfold zba at h
      rw [Array.getD_eq_getD_getElem?, h1] at h
      rw [h1]
      simpa using h
     have := zch hb
     omega
   refine ⟨?_, hdone l a w hI hall⟩
   cases hr : Region.ready md ops l with
   | nil => rfl
   | cons j t =>
     exfalso
     have hj : j ∈ Region.ready md ops l := by rw [hr]; simp
     obtain ⟨h1, o, ho, _⟩ := mem_ready.1 hj
     exact zid (hall j (Array.getElem?_eq_some_iff.1 ho).1) h1
 | k + 1, l, a, w, hI, hsh, hs, hc => by
   refine ⟨fun hr => hdone l a w hI (hacyc l hs hr), fun i hi => ?_⟩
   obtain ⟨h1, o, ho, hall⟩ := mem_ready.1 hi
   have hil : i < ops.size := (Array.getElem?_eq_some_iff.1 ho).1
   have hrec : ∀ b v, Inv (l.setIfInBounds i true) b v → wpAny P md ops Q k (l.setIfInBounds i true) b v := fun b v hb => by
    refine wpI.any Inv hstep hdone hacyc k _ b v hb (hsh.set hi) (by simp [hs]) ?_
    have hb : l.toList[i]? = some false := by
     rw [Array.getElem?_toList]
     have h2 : l[i]? = some (l[i]'(by rw [hs]; exact hil)) := Array.getElem?_eq_getElem _
     rw [Array.getD_eq_getD_getElem?, h2] at h1
     rw [h2]
     simpa using h1
    have := zch hb
    rw [Array.toList_setIfInBounds]
    omega
   have h2 := hstep l a w i o hI hsh (fun hd => zid hd h1) ho hall _ (zH hrec)
   unfold wpOp
   simp only [ho]
   by_cases hw : Region.wanted o (yielded ops a.tmps) = true
   ·rw [if_pos hw] at h2 ⊢
    exact Or.inl h2
   ·rw [if_neg hw] at h2 ⊢
    exact h2
def backB (md : Region.Mode) (ops : Array Oper) : Bool :=
 (List.range ops.size).all fun j => match ops[j]? with
  | none => true
  | some o => o.after.all fun e => !Region.binds md e || decide (e.on < j)
theorem back_done {md : Region.Mode} (hb : backB md ops = true) (l : Array Bool) (hs : l.size = ops.size) (hr : Region.ready md ops l = []) : ∀ (n i : Nat), i < n → i < ops.size → zba l i
 | 0, i, h, _ => by omega
 | n + 1, i, h, hi => by
   by_cases hd : zba l i
   ·exact hd
   ·exfalso
    have ho : ops[i]? = some (ops[i]'hi) := Array.getElem?_eq_getElem _
    have hm : i ∈ Region.ready md ops l := by
     refine mem_ready.2 ⟨?_, _, ho, fun e he hbe => ?_⟩
     ·have h2 : l[i]? = some (l[i]'(by rw [hs]; exact hi)) := Array.getElem?_eq_getElem _
      unfold zba at hd
      rw [Array.getD_eq_getD_getElem?, h2] at hd ⊢
      simpa using hd
     ·have h1 := List.all_eq_true.1 hb i (List.mem_range.2 hi)
      rw [ho] at h1
      have h3 := Array.all_eq_true_iff_forall_mem.1 h1 e he
      rw [hbe] at h3
      have h4 : e.on < i := by simpa using h3
      exact back_done hb l hs hr n e.on (by omega) (by omega)
    rw [hr] at hm
    cases hm
theorem cntF_rep (n : Nat) : zfk (List.replicate n false) = n := by simp [zfk]
theorem wpI.start {id : Nat} {a : Act} {w : World} (Inv : Array Bool → Act → World → Prop) (hm : P.follows .mixedOrders = true) (hb : backB .any ops = true) (h0 : Inv (Array.replicate ops.size false) a w.drew)
 (hstep : ∀ l a w i o, Inv l a w → Shut .any ops l → ¬ zba l i → ops[i]? = some o → (∀ e ∈ o.after, Region.binds .any e = true → zba l e.on) → ∀ K : Act → World → Prop, Hid (∀ b v, Inv (l.setIfInBounds i true) b v → K b v) → if Region.wanted o (yielded ops a.tmps) = true then o.wp P a w K Q else K (a.put o.dst undef) w)
 (hdone : ∀ l a w, Inv l a w → (∀ i, i < ops.size → zba l i) → Q .normal a w) : (Code.region id ops true).wp P Q a w :=
 wp_region_any hm (wpI.any Inv hstep hdone (fun l hs hr i hi => back_done hb l hs hr (i + 1) i (Nat.lt_succ_self i) hi) _ _ _ _ h0 (fun j o ho hl => by rw [Array.getD_eq_getD_getElem?, Array.getElem?_replicate] at hl; split at hl <;> simp at hl) (by simp) (by rw [Array.toList_replicate, cntF_rep]; exact Nat.le_refl _))
end
end Go.Proofs.Ytlpdkbmmbdfoiaa
