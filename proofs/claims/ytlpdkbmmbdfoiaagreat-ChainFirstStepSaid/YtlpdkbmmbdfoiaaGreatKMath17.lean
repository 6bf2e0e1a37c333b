/-
  The sanity chain: the plain facts. No program is named here.
-/
import Derived.Test.YtlpdkbmmbdfoiaaGreatKOri
import Derived.Test.YtlpdkbmmbdfoiaaGreatKGwa
import Derived.Test.YtlpdkbmmbdfoiaaGreatKQu
set_option linter.unusedVariables false
set_option linter.unusedSimpArgs false
namespace Go.Proofs.YtlpdkbmmbdfoiaaGreat
theorem zjb.one' : zjb 1 := ⟨1, 1, by decide, by decide, by decide, by decide⟩
theorem zjb.over {q : Rat} (h : zjb q) : over 720 28800 q := by
 obtain ⟨a, b, ha, hb, hb2, rfl⟩ := h
 refine ⟨((a * (720 / b) : Nat) : Int), ?_, ?_⟩
 ·have h1 : b * (720 / b) = 720 := by
   rcases (show b = 1 ∨ b = 2 ∨ b = 3 ∨ b = 4 by omega) with rfl | rfl | rfl | rfl <;> rfl
  have h2 : (720 / b : Nat) ≠ 0 := by
   rcases (show b = 1 ∨ b = 2 ∨ b = 3 ∨ b = 4 by omega) with rfl | rfl | rfl | rfl <;> decide
  rw [zqf a b (720 / b) h2, h1]
  rfl
 ·have h3 : 720 / b ≤ 720 := Nat.div_le_self _ _
  have h4 : a * (720 / b) ≤ 4 * 720 := Nat.mul_le_mul ha h3
  rw [Int.natAbs_natCast]
  omega
theorem zfm (c : CQ) (i j : Nat) : rq c.raw i j = (c.rates.getD i []).getD j 0 := by
 unfold rq
 show (zcb c.raw i).getD j 0 = _
 unfold zcb
 simp only [CQ.raw, List.getD_eq_getElem?_getD, List.getElem?_map]
 cases c.rates[i]? with
 | none => simp [qs]
 | some r => simp [zxk]
theorem zlg.sm {c : CQ} (h : zlg c) : SmC c.raw where
 n5 := by simp [CQ.raw]; have := h.rl; have := h.n5; omega
 r := fun i j hi hj => by
  rw [zfm]
  have hl : c.raw.rates.length = c.start.length := by simp [CQ.raw]; exact h.rl
  exact (h.rate (by omega) (by omega)).over
 s := fun i hi => by
  have hl : c.raw.rates.length = c.start.length := by simp [CQ.raw]; exact h.rl
  show over 720 28800 ((qs (c.start.map RF.of)).getD i 0)
  rw [zxk, List.getD_eq_getElem?_getD, List.getElem?_eq_getElem (by omega)]
  exact (h.st _ (List.getElem_mem _)).over
theorem unitL_get {n i j : Nat} (hj : j < n) : (zyg n i).getD j 0 = if j = i then 1 else 0 := by
 unfold zyg
 rw [List.getD_eq_getElem?_getD, List.getElem?_map, List.getElem?_range hj]
 rfl
theorem unitL_sum {n i : Nat} (hi : i < n) : zuc (zyg n i) = 1 := by
 rw [zpp, zzc, zja (g := fun j => if i = j then 1 else 0) fun j hj => by
  rw [unitL_get hj]
  by_cases e : j = i
  ·rw [if_pos e, if_pos e.symm]
  ·rw [if_neg e, if_neg (fun h => e h.symm)]]
 exact zyd hi (fun _ => 1)
def frm (c : CQ) (i : Nat) : CQ := ⟨c.rates, zyg c.start.length i, c.lost⟩
theorem zlg.frm {c : CQ} (h : zlg c) {i : Nat} (hi : i < c.start.length) : zlg (frm c i) where
 n2 := by have := h.n2; simpa [Go.Proofs.YtlpdkbmmbdfoiaaGreat.frm, zzc] using this
 n5 := by have := h.n5; simpa [Go.Proofs.YtlpdkbmmbdfoiaaGreat.frm, zzc] using this
 ll := by simp [Go.Proofs.YtlpdkbmmbdfoiaaGreat.frm, zzc, h.ll]
 rl := by simp [Go.Proofs.YtlpdkbmmbdfoiaaGreat.frm, zzc, h.rl]
 st := fun q hq => by
  unfold Go.Proofs.YtlpdkbmmbdfoiaaGreat.frm zyg at hq
  obtain ⟨j, _, rfl⟩ := List.mem_map.1 hq
  split
  ·exact zjb.one'
  ·exact zjb.zero
 sum := unitL_sum hi
 rows := fun j r hr => by
  obtain ⟨h1, h2⟩ := h.rows j r hr
  exact ⟨by rw [h1]; simp [Go.Proofs.YtlpdkbmmbdfoiaaGreat.frm, zzc], h2⟩
theorem zsj : zlg (cTwo (mkRat 1 3)) := by
 have h13 : zjb (mkRat 1 3) := ⟨1, 3, by decide, by decide, by decide, rfl⟩
 have hs : ∀ {a b : Rat}, zjb a → zjb b → ∀ q ∈ [a, b], zjb q := fun {a b} ha hb q hq => by
  simp at hq
  rcases hq with rfl | rfl
  ·exact ha
  ·exact hb
 refine ⟨by decide, by decide, rfl, rfl, hs zjb.one' zjb.zero, by decide +kernel, fun i r hr => ?_⟩
 have hi : i < 2 := (List.getElem?_eq_some_iff.1 hr).1
 rcases (show i = 0 ∨ i = 1 by omega) with rfl | rfl
 ·obtain rfl : [0, mkRat 1 3] = r := by simpa [cTwo] using hr
  exact ⟨rfl, hs zjb.zero h13, fun x hx => by simpa using hx.symm, fun h => by simp [cTwo] at h⟩
 ·obtain rfl : [0, 0] = r := by simpa [cTwo] using hr
  exact ⟨rfl, hs zjb.zero zjb.zero, fun x hx => by simpa using hx.symm, fun _ q hq => by simpa using hq⟩
theorem lk_over {c : RC} {l : List Nat} (hv : zxa c) (hk : LK c.rates.length (rq c) (zib c) l) (hs : SmC c) {b X : Nat → Rat} (hb : ∀ i, i < l.length → over 720 230400 (b i))
 (hx : ∀ i, i < l.length → sg l.length (fun j => mmA (fun i j => rq c (l.getD i 0) (l.getD j 0)) (fun i => sg c.rates.length (rq c (l.getD i 0))) i j * X (l.getD j 0)) = b i) :
 ∃ E, E ≠ 0 ∧ E < 2 ^ 220 ∧ ∀ t, t ∈ l → over E (2 ^ 240) (X t) := by
 have hle : l.length ≤ c.rates.length := by
  have h1 := zul (lo := 0) (n := c.rates.length) hk.so fun x hx => ⟨Nat.zero_le _, hk.lt x hx⟩
  omega
 have h5 : l.length < 6 := by have := hs.n5; omega
 have hA : ∀ i j, i < l.length → j < l.length → over 720 230400 (mmA (fun i j => rq c (l.getD i 0) (l.getD j 0)) (fun i => sg c.rates.length (rq c (l.getD i 0))) i j) := fun i j hi hj => by
  have h1 := hk.lt _ (zab hi)
  have h2 := hk.lt _ (zab hj)
  unfold mmA
  split
  ·exact (over.sg (by decide) fun t ht => hs.r _ t h1 ht).mono (by have := hs.n5; omega)
  ·exact (over.neg (hs.r _ _ h1 h2)).mono (by decide)
 obtain ⟨E, hE, hEb, hI⟩ := sol_gen (n := l.length) (D := 720) (B := 230400) (by decide) (by decide) hA (hk.dt (zxh hv)) (F := 720) (K := 230400) (by decide) hb hx
 have hB := dtB5 _ h5
 refine ⟨E * 720, Nat.mul_ne_zero hE (by decide), ?_, fun t ht => ?_⟩
 ·exact Nat.lt_of_le_of_lt (Nat.mul_le_mul_right _ (Nat.le_trans hEb (Nat.le_of_lt hB))) (show 2 ^ 200 * 720 < 2 ^ 220 by decide +kernel)
 ·obtain ⟨i, hi, rfl⟩ := zjl ht
  refine (hI i hi).mono ?_
  exact Nat.le_trans (Nat.mul_le_mul (show l.length ≤ 5 by omega) (Nat.mul_le_mul_right _ (Nat.le_of_lt hB))) (show 5 * (2 ^ 200 * 230400) ≤ 2 ^ 240 by decide +kernel)
theorem hit_lk (n : Nat) (r : Mx) (lost : Nat → Prop) : LK n r lost (lsP n fun s => FT n r lost s ∧ ¬ lost s) where
 so := lsP_so _ _
 lt := fun s h => (zwb.1 h).1
 nl := fun s h => (zwb.1 h).2.2
 ft := fun s h => (zwb.1 h).2.1
 cl := fun s t h ht hp => by
  by_cases h1 : lost t
  ·exact Or.inr (Or.inl h1)
  ·by_cases h2 : FT n r lost t
   ·exact Or.inl (zwb.2 ⟨ht, h2, h1⟩)
   ·exact Or.inr (Or.inr h2)
theorem over_big {E : Nat} (hE : E ≠ 0) (hEb : E < 2 ^ 220) : over E (2 ^ 240) 1 := (over.one hE).mono (Nat.le_of_lt (Nat.lt_trans hEb (by decide +kernel)))
structure HitS (c : RC) (H : Nat → Rat) : Prop where
 hit : HitC c H
 ov : ∃ E, E ≠ 0 ∧ E < 2 ^ 220 ∧ ∀ t, t < c.rates.length → over E (2 ^ 240) (H t)
structure TimeS (c : RC) (T : Nat → Rat) : Prop where
 time : TimeC c T
 z : ∀ t, t < c.rates.length → ¬ zal c.rates.length (rq c) (zib c) t → T t = 0
 ov : ∃ E, E ≠ 0 ∧ E < 2 ^ 220 ∧ ∀ t, t < c.rates.length → over E (2 ^ 240) (T t)
theorem hitC_over {c : RC} {H : Nat → Rat} (hv : zxa c) (hs : SmC c) (hH : HitC c H) : ∃ E, E ≠ 0 ∧ E < 2 ^ 220 ∧ ∀ t, t < c.rates.length → over E (2 ^ 240) (H t) := by
 have hk := hit_lk c.rates.length (rq c) (zib c)
 generalize hl : lsP c.rates.length (fun s => FT c.rates.length (rq c) (zib c) s ∧ ¬ zib c s) = l at hk
 have hb1 : ∀ i, i < l.length → over 720 230400 (0 + sg c.rates.length fun t => if t ∈ l then 0 else rq c (l.getD i 0) t * H t) := fun i hi => by
  rw [Rat.zero_add]
  refine (over.sg (B := 28800) (by decide) fun t ht => ?_).mono (by have := hs.n5; omega)
  split
  ·exact over.zero _ _
  ·rename_i hm
   by_cases h1 : zib c t
   ·rw [hH.one t ht h1, Rat.mul_one]; exact hs.r _ _ (hk.lt _ (zab hi)) ht
   ·by_cases h2 : FT c.rates.length (rq c) (zib c) t
    ·exact absurd (hl ▸ zwb.2 ⟨ht, h2, h1⟩) hm
    ·rw [hH.no t ht h2, Rat.mul_zero]; exact over.zero _ _
 obtain ⟨E, hE, hEb, hX⟩ := lk_over (X := H) (b := fun i => 0 + sg c.rates.length fun t => if t ∈ l then 0 else rq c (l.getD i 0) t * H t) hv hk hs hb1 (fun i hi => hk.eq (zxh hv) (X := H) (b := fun _ => 0) hi (by rw [Rat.zero_add]; exact hH.eq _ (hk.lt _ (zab hi)) (hk.nl _ (zab hi))))
 refine ⟨E, hE, hEb, fun t ht => ?_⟩
 by_cases h1 : zib c t
 ·rw [hH.one t ht h1]; exact over_big hE hEb
 ·by_cases h2 : FT c.rates.length (rq c) (zib c) t
  ·exact hX t (hl ▸ zwb.2 ⟨ht, h2, h1⟩)
  ·rw [hH.no t ht h2]; exact over.zero _ _
theorem hit_s {c : RC} (hv : zxa c) (hs : SmC c) : ∃ H, HitS c H := by
 obtain ⟨H, hH⟩ := hit_ex (zxh hv)
 exact ⟨H, hH, hitC_over hv hs hH⟩
theorem TimeC.s {c : RC} {T : Nat → Rat} (hv : zxa c) (hs : SmC c) (hT : TimeC c T) (hz : ∀ t, t < c.rates.length → ¬ zal c.rates.length (rq c) (zib c) t → T t = 0) : TimeS c T := by
 refine ⟨hT, hz, ?_⟩
 have hk := sure_lk c.rates.length (rq c) (zib c)
 have h1 : ∀ t, t < c.rates.length → t ∉ lsP c.rates.length (fun s => zal c.rates.length (rq c) (zib c) s ∧ ¬ zib c s) → T t = 0 := fun t ht h => by
  by_cases hl : zib c t
  ·exact hT.zero t ht hl
  ·exact hz t ht fun hu => h (zwb.2 ⟨ht, hu, hl⟩)
 have h2 : ∀ s, s ∈ lsP c.rates.length (fun s => zal c.rates.length (rq c) (zib c) s ∧ ¬ zib c s) → sg c.rates.length (rq c s) * T s = 1 + sg c.rates.length fun t => rq c s t * T t := fun s hs2 => by
  have h := zwb.1 hs2
  exact hT.eq s h.1 h.2.2 h.2.1
 generalize hl : lsP c.rates.length (fun s => zal c.rates.length (rq c) (zib c) s ∧ ¬ zib c s) = l at hk h1 h2
 have hb1 : ∀ i, i < l.length → over 720 230400 (1 + sg c.rates.length fun t => if t ∈ l then 0 else rq c (l.getD i 0) t * T t) := fun i hi => by
  have e : (sg c.rates.length fun t => if t ∈ l then 0 else rq c (l.getD i 0) t * T t) = 0 := sg_zero' fun t ht => by
   split
   ·rfl
   ·rename_i hm; rw [h1 t ht hm, Rat.mul_zero]
  rw [e, Rat.add_zero]
  exact (over.one (D := 720) (by decide)).mono (by decide)
 obtain ⟨E, hE, hEb, hX⟩ := lk_over (X := T) (b := fun i => 1 + sg c.rates.length fun t => if t ∈ l then 0 else rq c (l.getD i 0) t * T t) hv hk hs hb1 (fun i hi => hk.eq (zxh hv) (X := T) (b := fun _ => 1) hi (h2 _ (zab hi)))
 refine ⟨E, hE, hEb, fun t ht => ?_⟩
 by_cases hm : t ∈ l
 ·exact hX t hm
 ·rw [h1 t ht hm]; exact over.zero _ _
theorem time_s {c : RC} (hv : zxa c) (hs : SmC c) : ∃ T, TimeS c T := by
 have hk := sure_lk c.rates.length (rq c) (zib c)
 obtain ⟨T, h1, h2⟩ := hk.ex (zxh hv) (fun _ => 0) (fun _ => 1)
 have hT : TimeC c T := ⟨fun s hs h => h1 s fun hmem => (zwb.1 hmem).2.2 h, fun s hs h hu => h2 s (zwb.2 ⟨hs, hu, h⟩)⟩
 exact ⟨T, hT.s hv hs fun t ht h => h1 t fun hmem => h (zwb.1 hmem).2.1⟩
theorem sum_fits {E n : Nat} (hE : E ≠ 0) (hEb : E < 2 ^ 220) (hn : n ≤ 5) {f X : Nat → Rat} (hf : ∀ t, t < n → over 720 28800 (f t)) (hX : ∀ t, t < n → over E (2 ^ 240) (X t)) {x : Rat} (hx : over 720 28800 x) : fits (x + sg n fun t => f t * X t) := by
 have hE3 : 720 * E ≠ 0 := Nat.mul_ne_zero (by decide) hE
 have h1 : over (720 * E) (n * (28800 * 2 ^ 240)) (sg n fun t => f t * X t) := over.sg hE3 fun i hi => over.mul (hf i hi) (hX i hi)
 have h2 : over (720 * E) (28800 * E) x := hx.scale hE
 refine (over.add hE3 h2 h1).fits hE3 ?_ ?_
 ·have h6 : n * (28800 * 2 ^ 240) ≤ 5 * (28800 * 2 ^ 240) := Nat.mul_le_mul_right _ hn
  have h7 : 28800 * E ≤ 28800 * 2 ^ 220 := Nat.mul_le_mul_left _ (Nat.le_of_lt hEb)
  exact Nat.lt_of_le_of_lt (Nat.add_le_add h7 h6) (Nat.lt_trans (show 28800 * 2 ^ 220 + 5 * (28800 * 2 ^ 240) < 2 ^ 280 by decide +kernel) (zyk (a := 280) (by decide)))
 ·exact Nat.lt_trans (Nat.lt_of_le_of_lt (Nat.mul_le_mul_left _ (Nat.le_of_lt hEb)) pow_a) (zyk (by decide))
theorem prod_fits {E : Nat} (hE : E ≠ 0) (hEb : E < 2 ^ 220) {B : Nat} (hB : B ≤ 230400) {x y : Rat} (hx : over 720 B x) (hy : over E (2 ^ 240) y) : fits (x * y) := by
 have hE3 : 720 * E ≠ 0 := Nat.mul_ne_zero (by decide) hE
 refine (over.mul hx hy).fits hE3 ?_ ?_
 ·exact Nat.lt_of_le_of_lt (Nat.mul_le_mul_right _ hB) (Nat.lt_trans (show 230400 * 2 ^ 240 < 2 ^ 280 by decide +kernel) (zyk (a := 280) (by decide)))
 ·exact Nat.lt_trans (Nat.lt_of_le_of_lt (Nat.mul_le_mul_left _ (Nat.le_of_lt hEb)) pow_a) (zyk (by decide))
theorem hit_sure {c : RC} {H : Nat → Rat} (hv : zxa c) (hH : HitC c H) {s : Nat} (hs : s < c.rates.length) (hu : zal c.rates.length (rq c) (zib c) s) : H s = 1 := by
 by_cases h0 : zib c s
 ·exact hH.one s hs h0
 have hk := sure_lk c.rates.length (rq c) (zib c)
 have hm : s ∈ lsP c.rates.length (fun s => zal c.rates.length (rq c) (zib c) s ∧ ¬ zib c s) := zwb.2 ⟨hs, hu, h0⟩
 have hmem : ∀ t, t < c.rates.length → t ∉ lsP c.rates.length (fun s => zal c.rates.length (rq c) (zib c) s ∧ ¬ zib c s) → ¬ zib c t → ¬ zal c.rates.length (rq c) (zib c) t := fun t ht h1 h2 h3 => h1 (zwb.2 ⟨ht, h3, h2⟩)
 generalize hl : lsP c.rates.length (fun s => zal c.rates.length (rq c) (zib c) s ∧ ¬ zib c s) = l at hk hm hmem
 have hsu : ∀ t, t ∈ l → zal c.rates.length (rq c) (zib c) t := fun t ht => by rw [← hl] at ht; exact (zwb.1 ht).2.1
 have e1 : ∀ i, i < l.length → sg l.length (fun j => mmA (fun i j => rq c (l.getD i 0) (l.getD j 0)) (fun i => sg c.rates.length (rq c (l.getD i 0))) i j * H (l.getD j 0)) = sg c.rates.length fun t => if t ∈ l then 0 else rq c (l.getD i 0) t := fun i hi => by
  have h1 := hk.eq (zxh hv) (X := H) (b := fun _ => 0) hi (by rw [Rat.zero_add]; exact hH.eq _ (hk.lt _ (zab hi)) (hk.nl _ (zab hi)))
  rw [h1, Rat.zero_add]
  refine zja fun t ht => ?_
  split
  ·rfl
  ·rename_i hm2
   by_cases h3 : zib c t
   ·rw [hH.one t ht h3, Rat.mul_one]
   ·have hz : rq c (l.getD i 0) t = 0 := by
     by_cases hp : 0 < rq c (l.getD i 0) t
     ·exact absurd ((hsu _ (zab hi)).step (hk.lt _ (zab hi)) ht hp) (hmem t ht hm2 h3)
     ·have := rq_nn hv (hk.lt _ (zab hi)) ht
      grind
    rw [hz, Rat.zero_mul]
 have e2 : ∀ i, i < l.length → sg l.length (fun j => mmA (fun i j => rq c (l.getD i 0) (l.getD j 0)) (fun i => sg c.rates.length (rq c (l.getD i 0))) i j * 1) = sg c.rates.length fun t => if t ∈ l then 0 else rq c (l.getD i 0) t := fun i hi => by
  have h1 := hk.eq (zxh hv) (X := fun _ => 1) (b := fun _ => 0) hi (by rw [Rat.zero_add, Rat.mul_one]; exact zja fun t _ => (Rat.mul_one _).symm)
  rw [h1, Rat.zero_add]
  exact zja fun t ht => by split <;> simp
 obtain ⟨i, hi, rfl⟩ := zjl hm
 have k1 := zbg (hk.dt (zxh hv)) (x := fun j => H (l.getD j 0)) e1 hi
 have k2 := zbg (hk.dt (zxh hv)) (x := fun _ => 1) e2 hi
 exact k1.trans k2.symm
end Go.Proofs.YtlpdkbmmbdfoiaaGreat
namespace Go.Proofs.YtlpdkbmmbdfoiaaGreat
open Go.RowKit
def AllS (c : RC) : Prop := ∀ j, j < c.rates.length → Rch c j → Ftl c j
theorem rch_from {c : RC} {t : Nat} (h : Rch c t) : ∃ s, s < c.rates.length ∧ 0 < (qs c.start).getD s 0 ∧ RC1 c.rates.length (rq c) (fun j => j = s) t := by
 induction h with
 | base hi hS => exact ⟨_, hi, hS, Clo.base hi rfl⟩
 | step hc hj hL ih =>
   obtain ⟨s, h1, h2, h3⟩ := ih
   exact ⟨s, h1, h2, Clo.step h3 hj hL⟩
theorem rch_to {c : RC} {s t : Nat} (hs : 0 < (qs c.start).getD s 0) (h : RC1 c.rates.length (rq c) (fun j => j = s) t) : Rch c t := by
 induction h with
 | base hi hS => subst hS; exact Clo.base hi hs
 | step hc hj hL ih => exact Clo.step ih hj hL
theorem zzp (c : RC) : AllS c ↔ ∀ s, s < c.rates.length → 0 < (qs c.start).getD s 0 → zal c.rates.length (rq c) (zib c) s := by
 constructor
 ·intro h s hs h0 t ht
  exact h t (Clo.lt ht) (rch_to h0 ht)
 ·intro h t ht hr
  obtain ⟨s, h1, h2, h3⟩ := rch_from hr
  exact h s h1 h2 t h3
theorem zen (c : CQ) (i j : Nat) (hj : j < c.start.length) : (qs (frm c i).raw.start).getD j 0 = if j = i then 1 else 0 := by
 have e : qs (frm c i).raw.start = zyg c.start.length i := zxk _
 rw [e, unitL_get hj]
theorem frm_sum {c : CQ} (hl : c.rates.length = c.start.length) {i : Nat} (hi : i < c.start.length) (X : Nat → Rat) : stS (frm c i).raw X = X i := by
 unfold stS
 have hn : (frm c i).raw.rates.length = c.start.length := by simp [frm, CQ.raw, hl]
 rw [hn, zja (g := fun j => if i = j then X j else 0) fun j hj => by
  rw [zen c i j hj]
  by_cases e : j = i
  ·rw [if_pos e, if_pos e.symm, Rat.one_mul]
  ·rw [if_neg e, if_neg (fun h => e h.symm), Rat.zero_mul]]
 exact zyd hi X
theorem frm_alls {c : CQ} (hl : c.rates.length = c.start.length) {i : Nat} (hi : i < c.start.length) : AllS (frm c i).raw ↔ zal c.raw.rates.length (rq c.raw) (zib c.raw) i := by
 have hn : (frm c i).raw.rates.length = c.start.length := by simp [frm, CQ.raw, hl]
 rw [zzp]
 constructor
 ·intro h
  refine h i (by omega) ?_
  rw [zen c i i hi, if_pos rfl]
  decide
 ·intro h s hs h0
  have e : s = i := by
   refine Classical.byContradiction fun e => ?_
   rw [zen c i s (by omega), if_neg e] at h0
   exact absurd h0 (by decide)
  rw [e]
  exact h
def zwk (w0 : World) (P : Prop) (R : Rat) (e : Ending) (w : World) : Prop :=
 (P ∧ RF0 w0 R e w) ∨ (¬ P ∧ e = .returned (.tuple #[.agg #[.bool false, .slice none 0 0, .slice none 0 0], .int .i64 14]) ∧ Below w0.heap.size w0 w)
theorem RMean.f {w0 : World} {c : RC} {R : Rat} {e : Ending} {w : World} (h : RMean w0 c R e w) : zwk w0 (AllS c) R e w := by
 rcases h with h | ⟨⟨j, h1, h2, h3⟩, h4⟩
 ·exact Or.inl h
 ·exact Or.inr ⟨fun h => h3 (h j h1 h2), h4⟩
theorem zwk.to {w0 : World} {P Q : Prop} {R S : Rat} {e : Ending} {w : World} (h : zwk w0 P R e w) (hp : P ↔ Q) (hr : R = S) : zwk w0 Q S e w := by
 subst hr
 rcases h with ⟨h1, h2⟩ | ⟨h1, h2⟩
 ·exact Or.inl ⟨hp.1 h1, h2⟩
 ·exact Or.inr ⟨fun h => h1 (hp.2 h), h2⟩
structure TC (c : CQ) (H T : Nat → Rat) : Prop where
 tape : zlg c
 hit : HitS c.raw H
 time : TimeS c.raw T
abbrev zzf (c : CQ) (i : Nat) : Prop := zal c.raw.rates.length (rq c.raw) (zib c.raw) i
theorem zsl {c : CQ} (h : zlg c) : ∃ H T, TC c H T := by
 obtain ⟨H, hH⟩ := hit_s h.valid h.sm
 obtain ⟨T, hT⟩ := time_s h.valid h.sm
 exact ⟨H, T, h, hH, hT⟩
section
variable {c : CQ} {H T : Nat → Rat}
theorem TC.len (h : TC c H T) : c.raw.rates.length = c.start.length := by
 have := h.tape.rl
 simp [CQ.raw]; exact this
theorem TC.hit_c (h : TC c H T) {va : Value} {w : World} (ha : zdc w va c.raw) : Calls Tryz.prog 43 #[va] w (RF0 w (stS c.raw H)) := Go.Proofs.YtlpdkbmmbdfoiaaGreat.hit_c ha h.tape.valid h.tape.sm h.hit.hit
theorem TC.mean_c (h : TC c H T) {va : Value} {w : World} (ha : zdc w va c.raw) : Calls Tryz.prog 45 #[va] w (zwk w (AllS c.raw) (stS c.raw T)) :=
 (Go.Proofs.YtlpdkbmmbdfoiaaGreat.mean_c ha h.tape.valid h.tape.sm h.time.time).mono fun _ _ k => k.f
theorem TC.hit_f (h : TC c H T) {i : Nat} (hi : i < c.start.length) {va : Value} {w : World} (ha : zdc w va (frm c i).raw) : Calls Tryz.prog 43 #[va] w (RF0 w (H i)) := by
 have hf := h.tape.frm hi
 have k := Go.Proofs.YtlpdkbmmbdfoiaaGreat.hit_c (H := H) ha hf.valid hf.sm h.hit.hit
 rwa [frm_sum h.tape.rl hi] at k
theorem TC.mean_f (h : TC c H T) {i : Nat} (hi : i < c.start.length) {va : Value} {w : World} (ha : zdc w va (frm c i).raw) : Calls Tryz.prog 45 #[va] w (zwk w (zzf c i) (T i)) := by
 have hf := h.tape.frm hi
 have k := (Go.Proofs.YtlpdkbmmbdfoiaaGreat.mean_c (T := T) ha hf.valid hf.sm h.time.time).mono fun _ _ k => k.f.to (frm_alls h.tape.rl hi) (frm_sum h.tape.rl hi T)
 exact k
theorem TC.st (h : TC c H T) {j : Nat} (hj : j < c.start.length) : over 720 28800 (c.start.getD j 0) := by
 rw [List.getD_eq_getElem?_getD, List.getElem?_eq_getElem hj]
 exact (h.tape.st _ (List.getElem_mem _)).over
theorem TC.st_nn (h : TC c H T) {j : Nat} (hj : j < c.start.length) : 0 ≤ c.start.getD j 0 := by
 rw [List.getD_eq_getElem?_getD, List.getElem?_eq_getElem hj]
 exact Rat.not_lt.1 (h.tape.st _ (List.getElem_mem _)).nonneg
theorem TC.rt (h : TC c H T) {i j : Nat} (hi : i < c.start.length) (hj : j < c.start.length) : over 720 28800 ((c.rates.getD i []).getD j 0) := (h.tape.rate hi hj).over
theorem TC.fsH (h : TC c H T) {f : Nat → Rat} {x : Rat} (hx : over 720 28800 x) (hf : ∀ t, t < c.start.length → over 720 28800 (f t)) {k : Nat} (hk : k ≤ c.start.length) : fits (x + sg k fun t => f t * H t) := by
 obtain ⟨E, h1, h2, h3⟩ := h.hit.ov
 have h5 := h.tape.n5
 have hn := h.len
 exact sum_fits h1 h2 (by omega) (fun t ht => hf t (by omega)) (fun t ht => h3 t (by omega)) hx
theorem TC.fsT (h : TC c H T) {f : Nat → Rat} {x : Rat} (hx : over 720 28800 x) (hf : ∀ t, t < c.start.length → over 720 28800 (f t)) {k : Nat} (hk : k ≤ c.start.length) : fits (x + sg k fun t => f t * T t) := by
 obtain ⟨E, h1, h2, h3⟩ := h.time.ov
 have h5 := h.tape.n5
 have hn := h.len
 exact sum_fits h1 h2 (by omega) (fun t ht => hf t (by omega)) (fun t ht => h3 t (by omega)) hx
theorem TC.fpH (h : TC c H T) {x : Rat} (hx : over 720 230400 x) {t : Nat} (ht : t < c.start.length) : fits (x * H t) := by
 obtain ⟨E, h1, h2, h3⟩ := h.hit.ov
 have hn := h.len
 exact prod_fits h1 h2 (Nat.le_refl _) hx (h3 t (by omega))
theorem TC.fpT (h : TC c H T) {x : Rat} (hx : over 720 230400 x) {t : Nat} (ht : t < c.start.length) : fits (x * T t) := by
 obtain ⟨E, h1, h2, h3⟩ := h.time.ov
 have hn := h.len
 exact prod_fits h1 h2 (Nat.le_refl _) hx (h3 t (by omega))
theorem TC.fH (h : TC c H T) {t : Nat} (ht : t < c.start.length) : fits (H t) := by
 have k := h.fpH (x := 1) ((over.one (D := 720) (by decide)).mono (by decide)) ht
 rwa [Rat.one_mul] at k
theorem TC.fT (h : TC c H T) {t : Nat} (ht : t < c.start.length) : fits (T t) := by
 have k := h.fpT (x := 1) ((over.one (D := 720) (by decide)).mono (by decide)) ht
 rwa [Rat.one_mul] at k
theorem TC.sH (h : TC c H T) : stS c.raw H = sg c.start.length fun t => c.start.getD t 0 * H t := by
 have e : qs c.raw.start = c.start := zxk _
 unfold stS
 rw [e, h.len]
theorem TC.sT (h : TC c H T) : stS c.raw T = sg c.start.length fun t => c.start.getD t 0 * T t := by
 have e : qs c.raw.start = c.start := zxk _
 unfold stS
 rw [e, h.len]
theorem TC.alls (h : TC c H T) : AllS c.raw ↔ ∀ s, s < c.start.length → 0 < c.start.getD s 0 → zzf c s := by
 have e : qs c.raw.start = c.start := zxk _
 constructor
 ·intro k s hs h0
  exact (zzp _).1 k s (by rw [h.len]; exact hs) (by rw [e]; exact h0)
 ·intro k
  exact (zzp _).2 fun s hs h0 => k s (by rw [← h.len]; exact hs) (by rw [← e]; exact h0)
theorem TC.lost_h (h : TC c H T) {i : Nat} (hi : i < c.start.length) (hl : c.lost.getD i false = true) : H i = 1 ∧ T i = 0 ∧ zzf c i := by
 have hn := h.len
 have hl2 : zib c.raw i := hl
 refine ⟨h.hit.hit.one i (by omega) hl2, h.time.time.zero i (by omega) hl2, fun t ht => ?_⟩
 have key : t = i := by
  have hv := h.tape.valid
  clear hl
  induction ht with
  | base hi hS => exact hS
  | step hc hj hL ih =>
    subst ih
    rw [(zxh hv).ab _ _ (Clo.lt hc) hj hl2] at hL
    exact absurd hL (by decide)
 subst key
 exact Clo.base (Clo.lt ht) hl2
theorem TC.eq_h (h : TC c H T) {i : Nat} (hi : i < c.start.length) (hl : c.lost.getD i false = false) : (sg c.start.length fun j => (c.rates.getD i []).getD j 0) * H i = sg c.start.length fun j => (c.rates.getD i []).getD j 0 * H j := by
 have hn := h.len
 have k := h.hit.hit.eq i (by omega) (fun e => by unfold zib at e; rw [show c.raw.lost = c.lost from rfl, hl] at e; cases e)
 rw [hn] at k
 rw [zja (f := rq c.raw i) (g := fun j => (c.rates.getD i []).getD j 0) fun j _ => zfm c i j, zja (f := fun t => rq c.raw i t * H t) (g := fun j => (c.rates.getD i []).getD j 0 * H j) fun j _ => by rw [zfm]] at k
 exact k
theorem TC.eq_t (h : TC c H T) {i : Nat} (hi : i < c.start.length) (hl : c.lost.getD i false = false) (hu : zzf c i) : (sg c.start.length fun j => (c.rates.getD i []).getD j 0) * T i = 1 + sg c.start.length fun j => (c.rates.getD i []).getD j 0 * T j := by
 have hn := h.len
 have k := h.time.time.eq i (by omega) (fun e => by unfold zib at e; rw [show c.raw.lost = c.lost from rfl, hl] at e; cases e) hu
 rw [hn] at k
 rw [zja (f := rq c.raw i) (g := fun j => (c.rates.getD i []).getD j 0) fun j _ => zfm c i j, zja (f := fun t => rq c.raw i t * T t) (g := fun j => (c.rates.getD i []).getD j 0 * T j) fun j _ => by rw [zfm]] at k
 exact k
theorem TC.hit1 (h : TC c H T) {i : Nat} (hi : i < c.start.length) (hu : zzf c i) : H i = 1 := hit_sure h.tape.valid h.hit.hit (by have := h.len; omega) hu
theorem TC.next (h : TC c H T) {i j : Nat} (hi : i < c.start.length) (hj : j < c.start.length) (hp : 0 < (c.rates.getD i []).getD j 0) (hu : zzf c i) : zzf c j := by
 have hn := h.len
 exact zal.step hu (by omega) (by omega) (by rw [zfm]; exact hp)
end
def itV (c : RC) (ρ : Rat) : Nat → List Rat
 | 0 => qs c.start
 | k + 1 => zci c ρ (itV c ρ k)
theorem zeg {c : RC} (hv : zxa c) (ρ : Rat) : ∀ k, (itV c ρ k).length = c.rates.length
 | 0 => by rw [itV, zqc, hv.2.2.2.1]
 | k + 1 => zpk _ _ _
def wtA (c : RC) (ρ : Rat) (k : Nat) : Nat := wtF c.rates.length c.rates.length (zyc c ρ) + wts (itV c ρ k)
theorem stepV_fits {c : RC} {ρ : Rat} {v : List Rat} (hl : v.length = c.rates.length) (hw : wtF c.rates.length c.rates.length (zyc c ρ) + wts v ≤ 3800) : ∀ x ∈ zci c ρ v, fits x := fun x hx => by
 unfold zci zhc at hx
 obtain ⟨j, hj, rfl⟩ := List.mem_map.1 hx
 exact step_sum hl hw (Nat.le_refl _) (List.mem_range.1 hj)
theorem itV_fits {c : RC} (hv : zxa c) {ρ : Rat} : ∀ k, (∀ i, i < k → wtA c ρ i ≤ 3800) → ∀ x ∈ itV c ρ k, fits x
 | 0, _ => fun x hx => by
   obtain ⟨y, hy, rfl⟩ := List.mem_map.1 hx
   exact RF.fits (hv.2.2.2.2.1.ok y hy)
 | k + 1, h => stepV_fits (zeg hv ρ k) (h k (Nat.lt_succ_self k))
theorem zxn {c : RC} {ρ : Rat} (h1 : ∀ i j, i < c.rates.length → j < c.rates.length → fits ((zcb c i).getD j 0 / ρ)) (h2 : ∀ i, i < c.rates.length → fits (zuc (zcb c i) / ρ) ∧ fits (1 - zuc (zcb c i) / ρ)) : fitM c.rates.length c.rates.length (zyc c ρ) := fun i j hi hj => by
 unfold zyc; split
 ·exact (h2 i hi).2
 ·exact h1 i j hi hj
theorem cstep_can (va vv : Value) (c : RC) (ρ : Rat) (v : List Rat) (w : World) (ha : zwj w va c.rates.length c.rates.length (zyc c ρ)) (hv : zva w vv v) (hl : v.length = c.rates.length) (hn : c.rates.length ≤ 128) (hf : ∀ x ∈ v, fits x) (hm : fitM c.rates.length c.rates.length (zyc c ρ))
 (hw : wtF c.rates.length c.rates.length (zyc c ρ) + wts v ≤ 3800) :
 Calls Tryz.prog 84 #[va, vv] w fun e w' => ∃ v', e = .returned (.tuple #[v', .int .i64 0]) ∧ zva w' v' (zci c ρ v) ∧ Below w.heap.size w w' := by
 have hq : qs (v.map RF.of) = v := zcj v
 have h := cstep_any va vv c.rates.length (zyc c ρ) (v.map RF.of) w ha hv.raw (by rw [List.length_map]; exact hl) hn (fun x hx => by obtain ⟨y, hy, rfl⟩ := List.mem_map.1 hx; exact RF.of_ok (hf y hy)) hm (by rw [hq]; exact hw)
 rw [hq] at h
 exact h
set_option maxRecDepth 100000 in
set_option maxHeartbeats 6400000 in
theorem after_ok (va vx : Value) (c : RC) (t1 : Bool) (nr dr : Nat) (q : Rat) (m : Nat) (w : World) (ha : zdc w va c) (hv : zxa c) (hx : znb w vx t1 nr dr) (hp : posR t1 nr dr) (hfq : fq t1 nr dr = q) (hm : m ≤ 64) (hle : zeb c c.rates.length ≤ q)
 (h1 : ∀ i j, i < c.rates.length → j < c.rates.length → fits ((zcb c i).getD j 0 / q)) (h2 : ∀ i, i < c.rates.length → fits (zuc (zcb c i) / q) ∧ fits (1 - zuc (zcb c i) / q)) (hw : ∀ i, i < m → wtA c q i ≤ 3800) :
 Calls Tryz.prog 48 #[va, vx, .int .i64 (m : Nat)] w (fun e w' => ∃ v, e = .returned (.tuple #[v, .int .i64 0]) ∧ zva w' v (itV c q m) ∧ Below w.heap.size w w') := by
 have HFM := zH (zxn h1 h2)
 have HW := zH hw
 have HSTEP : Hid (∀ (i : Nat) w0 va vv, i < m → zwj w0 va c.rates.length c.rates.length (zyc c q) → zva w0 vv (itV c q i) → Calls Tryz.prog 84 #[va, vv] w0 fun e w' => ∃ v', e = .returned (.tuple #[v', .int .i64 0]) ∧ zva w' v' (itV c q (i + 1)) ∧ Below w0.heap.size w0 w') :=
  zH (fun i w0 va vv hi k1 k2 => cstep_can va vv c q (itV c q i) w0 k1 k2 (zeg hv q i) (by have := hv.2.1; have := hv.2.2.2.1; omega) (itV_fits hv i (fun j hj => hw j (by omega))) (zxn h1 h2) (hw i hi))
 clear hw
 obtain ⟨i0, hi, hz0, hz1, hz2⟩ := info_parts Tryz.infoF
 have hM := zgk (P := Tryz.prog) 25 38 i0 Tryz.underlying25 hi hz0 hz1 (by rw [hz2]; decide)
 clear hi hz0 hz1 hz2
 have hlen : c.rates.length = c.start.length := hv.2.2.2.1
 have h128 : c.start.length ≤ 128 := hv.2.1
 obtain ⟨rv, sv, lv, rfl, hr, hs, hl⟩ := id ha
 obtain ⟨ra, rn, rk, rfl, _⟩ := id hr.sl
 obtain ⟨sa, sn, sk, rfl, _⟩ := id hs.sl
 obtain ⟨la, ln, lk, rfl, _⟩ := id (zua.sl hl)
 obtain ⟨x1, y1, rfl, hx4, hx5⟩ := id hx
 obtain ⟨a11, l11, k11, rfl, _⟩ := hx4.slen.1
 obtain ⟨a12, l12, k12, rfl, _⟩ := hx5.slen.1
 have hbx := zba w (.cells #[.slice ra rn rk, .slice sa sn sk, .slice la ln lk] 28)
 have hb2 := zba (w.alloc (.cells #[.slice ra rn rk, .slice sa sn sk, .slice la ln lk] 28)) (.cells #[.bool t1, .slice a11 l11 k11, .slice a12 l12 k12] 38)
 have HC := zH ((C3.new w 28 (.slice ra rn rk) (.slice sa sn sk) (.slice la ln lk)).belowS hb2)
 have HR := zH (C3.newB (b := w.heap.size + 1) (w.alloc (.cells #[.slice ra rn rk, .slice sa sn sk, .slice la ln lk] 28)) 38 (.bool t1) (.slice a11 l11 k11) (.slice a12 l12 k12) (by simp))
 have HBW := zH (zaa hbx hb2)
 have hsn : sn = c.start.length := hs.len
 have ssn := hs.sl
 have HS := zH (hs.below HBW.out)
 have HA := zH (ha.below HBW.out)
 have HX := zH (hx.below HBW.out)
 have HV := zH hv
 have HF := zH hp.1
 have HFQ := zH hfq
 have HPOS : Hid ((!t1 && !decide (nr = 0)) = true) := zH (by rw [hp.2.1, decide_eq_false hp.2.2]; rfl)
 have HQ0 : Hid (q ≠ 0) := zH (fun h => by have := hp.q; rw [hfq, h] at this; exact absurd this (by decide))
 have HSLOW : Hid (decide (q < zeb c c.rates.length) = false) := zH (decide_eq_false (Rat.not_lt.2 hle))
 have HM : Hid (∀ w0 va vx, zdc w0 va c → znb w0 vx t1 nr dr → Calls Tryz.prog 83 #[va, vx] w0 (fun e w' => ∃ v, e = .returned (.tuple #[v, .int .i64 0]) ∧ zwj w' v c.rates.length c.rates.length (zyc c q) ∧ Below w0.heap.size w0 w')) :=
  zH (fun w0 va vx k1 k2 => matrix_any va vx c t1 nr dr q w0 k1 HV.out k2 HF.out HFQ.out HQ0.out h1 h2)
 have HN : Hid (sn = c.rates.length) := zH (by omega)
 have hn128 : sn ≤ 128 := by omega
 have hm0 : (0 : Int) ≤ (m : Int) := by omega
 have hm64 : (m : Int) ≤ 64 := by omega
 clear hr hs hl ha hv hbx hb2 hx hx4 hx5 hp hfq hle h1 h2 hlen h128 hsn
 go_enter Tryz.func48, Tryz.ntmps48
 go_upto_region 1 with fail
 generalize (w.alloc (.cells #[.slice ra rn rk, .slice sa sn sk, .slice la ln lk] 28)).alloc (.cells #[.bool t1, .slice a11 l11 k11, .slice a12 l12 k12] 38) = W2 at *
 obtain ⟨_, c0, c1, c2, _, _, _⟩ := HC.out
 obtain ⟨_, d0, d1, d2, _, _, _⟩ := HR.out
 go_wp2_with (first
  |(go_at_call 81; (with_reducible refine (rated_raw _ _ c t1 nr dr _ HA.out HV.out HX.out HF.out).mono ?_); rw [HPOS.out]; rintro e1 w1 ⟨rfl, hb1⟩
    have HA1 := zH (HA.out.below hb1)
    have HX1 := zH (HX.out.below hb1)
    have HS1 := zH (HS.out.below hb1)
    have HC1 := zH (HC.out.belowS hb1)
    have HR1 := zH (HR.out.belowS hb1)
    have HB1 := zH (zaa HBW.out hb1)
    clear hb1
    obtain ⟨_, c0, c1, c2, _, _, _⟩ := HC1.out
    obtain ⟨_, d0, d1, d2, _, _, _⟩ := HR1.out)
  |(go_at_call 82; (with_reducible refine (slow_raw _ _ c t1 nr dr q _ HA1.out HV.out HX1.out HF.out HFQ.out).mono ?_); rw [HSLOW.out]; rintro e3 w3 ⟨rfl, hb3⟩
    have HA3 := zH (HA1.out.below hb3)
    have HX3 := zH (HX1.out.below hb3)
    have HS3 := zH (HS1.out.below hb3)
    have HC3 := zH (HC1.out.belowS hb3)
    have HR3 := zH (HR1.out.belowS hb3)
    have HB3 := zH (zaa HB1.out hb3)
    clear hb3 c0 c1 c2 d0 d1 d2
    obtain ⟨_, c0, c1, c2, _, _, _⟩ := HC3.out
    obtain ⟨_, d0, d1, d2, _, _, _⟩ := HR3.out)
  |(refine hM w3 rfl _ _ rfl w3.heap.size _ sn rfl rfl rfl (by omega) (Nat.le_refl _) ?_; intro vL w6 hO6 hb6 hv6
    have HO6 := zH hO6
    have HB6 := zH hb6
    have slL := hO6.sl
    have lnL := hO6.len
    have c0 := zca hb6 c0
    have c1 := zca hb6 c1
    have c2 := zca hb6 c2
    clear hO6 hb6))
 clear hM
 go_loopg [37] (sn) (fun g u37 wr => ∃ (k : Nat), k ≤ sn ∧ g = sn - k ∧ u37 = .int .i64 k ∧ zxc wr 38 w3.heap.size vL sn ∧ (∀ j, j < k → zgd wr vL j ((qs c.start).getD j 0)) ∧ Below w3.heap.size w3 wr)
 case atStart => exact ⟨0, Nat.zero_le _, rfl, rfl, HO6.out, fun j h => by omega, HB6.out⟩
 case round =>
  obtain ⟨k, hkn, hg, rfl, ho, he, hbr⟩ := hrel
  obtain ⟨w2, hw2⟩ : ∃ w2, w2 = wr := ⟨_, rfl⟩
  subst hw2
  have HG := zH hg
  have HE := zH he
  have HO := zH ho
  have HBR := zH hbr
  clear hg he HO6 HB6 c0 c1 c2 d0 d1 d2
  by_cases hkl : k < sn
  ·have hk2 : k < c.start.length := by have := HN.out; have := HV.out.2.2.2.1; omega
   obtain ⟨ea, eb, g1, g2, g3, g4, g5⟩ := (HS3.out.below hbr).at' k hk2
   have HXO : Hid ((c.start[k]'hk2).ok) := zH (HV.out.2.2.2.2.1.ok _ (List.getElem_mem hk2))
   have HXQ : Hid ((qs c.start).getD k 0 = (c.start[k]'hk2).q) := zH (by
    have h2 : k < (qs c.start).length := by rw [zqc]; exact hk2
    rw [List.getD_eq_getElem?_getD, List.getElem?_eq_getElem h2, Option.getD_some, qs_get _ _ hk2])
   obtain ⟨x, hxe⟩ : ∃ x, c.start[k]'hk2 = x := ⟨_, rfl⟩
   rw [hxe] at g1 g4 g5 HXO HXQ
   obtain ⟨ea1, ea2, ea3, rfl, _⟩ := g4.slen.1
   obtain ⟨eb1, eb2, eb3, rfl, _⟩ := g5.slen.1
   have hb8 := zba w2 (.cells #[.bool x.neg, .slice ea1 ea2 ea3, .slice eb1 eb2 eb3] 38)
   have HXN : Hid (znb (w2.alloc (.cells #[.bool x.neg, .slice ea1 ea2 ea3, .slice eb1 eb2 eb3] 38)) (.agg #[.bool x.neg, .slice ea1 ea2 ea3, .slice eb1 eb2 eb3]) x.neg x.n x.d) := zH (znb.below ⟨_, _, rfl, g4, g5⟩ hb8)
   have j1 : (0 : Int) ≤ (k : Int) := by omega
   have j2 : (k : Int) < (sn : Nat) := by omega
   clear g4 g5 hxe ho hbr
   go_wp2_with (go_at_call 89; (with_reducible refine (zcd _ x _ HXN.out HXO.out).mono ?_); rintro e21 w21 ⟨v21, rfl, hv21, hb21⟩
                obtain ⟨t21, x21, y21, rfl, ⟨a61, l61, k61, rfl, _⟩, ⟨a62, l62, k62, rfl, _⟩⟩ := hv21.isF
                have hbb := zaa hb8 hb21
                have ho3 := HO.out.below hbb
                obtain ⟨c0, d0, _⟩ := ho3.cell (k * 3) (by omega)
                obtain ⟨c1, d1, _⟩ := ho3.cell (k * 3 + 1) (by omega)
                obtain ⟨c2, d2, _⟩ := ho3.cell (k * 3 + 2) (by omega)
                have f0 := ho3.frozen (k * 3)
                have f1 := ho3.frozen (k * 3 + 1)
                have f2 := ho3.frozen (k * 3 + 2)
                have n01 := ho3.inj (show k * 3 ≠ k * 3 + 1 by omega)
                have n02 := ho3.inj (show k * 3 ≠ k * 3 + 2 by omega)
                have n12 := ho3.inj (show k * 3 + 1 ≠ k * 3 + 2 by omega)
                have HS4 := zH (ho3.set3 k (.bool t21) (.slice a61 l61 k61) (.slice a62 l62 k62) (fun z => by simp) (fun z => by simp) (fun z => by simp))
                have HE4 := zH (fun j hj => (HE.out j hj).below hbb)
                have HO4 := zH ho3
                have HV4 := zH hv21
                have HB4 := zH (zfa HBR.out hbb HBR.out.size)
                clear ho3 hv21 hbb hb21)
   go_roundg (sn - (k + 1))
   case measure => (have := HG.out; omega)
   case rel =>
    refine ⟨k + 1, by omega, rfl, by go_num, HS4.out.1, fun j hj => ?_, HB4.out.trans HS4.out.2⟩
    rcases Nat.lt_or_ge j k with h6 | h6
    ·exact zgd.set3_other HO4.out hkl (by omega) (HE4.out j h6) _ _ _ (fun z => by simp) (fun z => by simp)
    ·obtain rfl : j = k := by omega
     rw [HXQ.out]
     exact zgd.set3 HO4.out hkl HV4.out
  ·obtain rfl : k = sn := by omega
   have HV0 : Hid (zva w2 vL (itV c q 0)) := zH (HO.out.fracs (by rw [zeg HV.out]; exact HN.out.symm) (fun j hj => by
    have h2 : j < (qs c.start).length := hj
    have h3 := HE.out j (by rw [zeg HV.out] at hj; rw [HN.out]; exact hj)
    rw [List.getD_eq_getElem?_getD, List.getElem?_eq_getElem h2] at h3
    exact h3))
   have HA4 := zH (HA3.out.below hbr)
   have HX4 := zH (HX3.out.below hbr)
   have HB4 := zH (zaa HB3.out hbr)
   obtain ⟨_, c0, c1, c2, _, _, _⟩ := HC3.out.belowS hbr
   obtain ⟨_, d0, d1, d2, _, _, _⟩ := HR3.out.belowS hbr
   clear ho hbr HO HE HBR HG
   by_cases hm1 : m = 0
   ·subst hm1
    have hm2 : (((0 : Nat) : Int) == 0) = true := rfl
    go_wp2_with fail
    go_ret2
    exact ⟨_, rfl, HV0.out, HB4.out⟩
   ·have hm2 : (((m : Nat) : Int) == 0) = false := by simp; omega
    go_wp2_with (go_at_call 83; (with_reducible refine (HM.out _ _ _ HA4.out HX4.out).mono ?_); rintro e4 w4 ⟨v4, rfl, hm4, hb4⟩
                 have HM4 := zH hm4
                 have HV4 := zH (HV0.out.below hb4)
                 have HB5 := zH (zaa HB4.out hb4)
                 clear hm4 hb4)
    go_loopg [2, 8, 12] (m) (fun g u2 u8 u12 wr => ∃ (i : Nat), i ≤ m ∧ g = m - i ∧ u2 = .int .i64 ((m : Int) - (i : Int)) ∧ u12 = .int .i64 0 ∧ zva wr u8 (itV c q i) ∧ Below w4.heap.size w4 wr)
    case atStart => exact ⟨0, Nat.zero_le _, rfl, by simp, rfl, HV4.out, Below.refl _ _⟩
    case round =>
     obtain ⟨i, hin, hg, rfl, rfl, hvi, hbi⟩ := hrel
     obtain ⟨w5, hw5⟩ : ∃ w5, w5 = wr := ⟨_, rfl⟩
     subst hw5
     have HG := zH hg
     have HVI := zH hvi
     have HBI := zH hbi
     have HMI := zH (HM4.out.below hbi)
     clear hg hvi hbi
     by_cases hil : i < m
     ·have hpos : (0 : Int) < (m : Int) - (i : Int) := by omega
      go_wp2_with (go_at_call 84; (with_reducible refine (HSTEP.out i _ _ _ hil HMI.out HVI.out).mono ?_); rintro e6 w6 ⟨v6, rfl, hv6', hb6⟩
                   have HV6 := zH hv6'
                   have HB6 := zH (zaa HBI.out hb6)
                   clear hv6' hb6)
      go_roundg (m - (i + 1))
      case measure => (have := HG.out; omega)
      case rel => exact ⟨i + 1, by omega, rfl, by go_num, rfl, HV6.out, HB6.out⟩
     ·obtain rfl : i = m := by omega
      have hpos : ¬ (0 : Int) < (i : Int) - (i : Int) := by omega
      go_wp2_with fail
      go_ret2
      exact ⟨_, rfl, HVI.out, zaa HB5.out HBI.out⟩
end Go.Proofs.YtlpdkbmmbdfoiaaGreat
namespace Go.Proofs.YtlpdkbmmbdfoiaaGreat
theorem zero_bad : ¬ zxa ⟨[], [], []⟩ := fun h => by have := h.1; simp at this
end Go.Proofs.YtlpdkbmmbdfoiaaGreat
