/-
  package chain: Leaving.
-/
import Derived.Test.YtlpdkbmmbdfoiaaGreatKMath17
import Derived.Test.YtlpdkbmmbdfoiaaGreatKHq5
import Derived.Test.YtlpdkbmmbdfoiaaGreatKTk
import Derived.Test.YtlpdkbmmbdfoiaaGreatKOuw
import Derived.Test.YtlpdkbmmbdfoiaaGreatKMath12
import Derived.Test.YtlpdkbmmbdfoiaaGreatKOr2
set_option linter.unusedVariables false
set_option linter.unusedSimpArgs false
namespace Go.Proofs.YtlpdkbmmbdfoiaaGreat
def zup (n : Nat) (v : List Rat) (X : Nat → Rat) : Rat := sg n fun j => v.getD j 0 * X j
theorem stepV_get (c : RC) (ρ : Rat) (v : List Rat) {j : Nat} (hj : j < c.rates.length) : (zci c ρ v).getD j 0 = sg c.rates.length fun i => v.getD i 0 * zyc c ρ i j := by
 unfold zci
 rw [List.getD_eq_getElem?_getD, List.getElem?_eq_getElem (by rw [zda]; exact hj), Option.getD_some, zec]
theorem ztp (c : RC) (ρ : Rat) (v : List Rat) (X : Nat → Rat) : zup c.rates.length (zci c ρ v) X = zup c.rates.length v fun i => sg c.rates.length fun j => zyc c ρ i j * X j := by
 unfold zup
 rw [zja fun j hj => by rw [stepV_get c ρ v hj, ← zad], zep]
 refine zja fun i hi => ?_
 rw [← zhb]
 exact zja fun j hj => by grind
theorem step_X {c : RC} (hv : zxa c) (ρ : Rat) (X : Nat → Rat) {i : Nat} (hi : i < c.rates.length) :
 (sg c.rates.length fun j => zyc c ρ i j * X j) = X i + ρ⁻¹ * ((sg c.rates.length fun j => rq c i j * X j) - sg c.rates.length (rq c i) * X i) := by
 have h1 : (sg c.rates.length fun j => zyc c ρ i j * X j) = sg c.rates.length fun j => (ρ⁻¹ * (rq c i j * X j)) + if i = j then (1 - zuc (zcb c i) * ρ⁻¹) * X j else 0 := zja fun j hj => by
  unfold zyc
  by_cases e : i = j
  ·subst e
   rw [if_pos rfl, if_pos rfl, (zxh hv).d i hi, Rat.div_def]
   grind
  ·rw [if_neg e, if_neg e, Rat.div_def]
   show rq c i j * ρ⁻¹ * X j = _
   grind
 rw [h1, zcg, zhb, zyd hi fun j => (1 - zuc (zcb c i) * ρ⁻¹) * X j, out_sg hv hi]
 grind
theorem step_nn {c : RC} (hv : zxa c) {ρ : Rat} (h0 : 0 < ρ) (hle : zeb c c.rates.length ≤ ρ) {i j : Nat} (hi : i < c.rates.length) (hj : j < c.rates.length) : 0 ≤ zyc c ρ i j := by
 have h1 : 0 < ρ⁻¹ := Rat.inv_pos.2 h0
 unfold zyc
 rw [Rat.div_def, Rat.div_def]
 split
 ·have h2 : zuc (zcb c i) ≤ ρ := Rat.le_trans (leave_ge hi) hle
  have h3 : zuc (zcb c i) * ρ⁻¹ ≤ ρ * ρ⁻¹ := Rat.mul_le_mul_of_nonneg_right h2 (Rat.le_of_lt h1)
  have h4 : ρ * ρ⁻¹ = 1 := Rat.mul_inv_cancel _ (fun e => by rw [e] at h0; exact absurd h0 (by decide))
  grind
 ·exact Rat.mul_nonneg (rq_nn hv hi hj) (Rat.le_of_lt h1)
structure zcl (c : RC) (v : List Rat) : Prop where
 len : v.length = c.rates.length
 nn : ∀ j, j < c.rates.length → 0 ≤ v.getD j 0
 one : zup c.rates.length v (fun _ => 1) = 1
open Classical in
/-- The share of the lost states. -/
noncomputable def zyh (c : RC) (i : Nat) : Rat := if zib c i then 1 else 0
theorem zcl.step {c : RC} {v : List Rat} (hv : zxa c) {ρ : Rat} (h0 : 0 < ρ) (hle : zeb c c.rates.length ≤ ρ) (h : zcl c v) : zcl c (zci c ρ v) where
 len := zpk _ _ _
 nn := fun j hj => by
  rw [stepV_get c ρ v hj]
  exact zzl fun i hi => Rat.mul_nonneg (h.nn i hi) (step_nn hv h0 hle hi hj)
 one := by
  refine (ztp c ρ v _).trans (Eq.trans ?_ h.one)
  refine zja fun i hi => ?_
  show v.getD i 0 * (sg c.rates.length fun j => zyc c ρ i j * 1) = v.getD i 0 * 1
  rw [step_X hv ρ (fun _ => 1) hi, zja (g := rq c i) fun j _ => Rat.mul_one _, Rat.mul_one, Rat.sub_self, Rat.mul_zero, Rat.add_zero]
theorem dot_hit {c : RC} {v : List Rat} (hv : zxa c) {ρ : Rat} {H : Nat → Rat} (hH : HitC c H) : zup c.rates.length (zci c ρ v) H = zup c.rates.length v H := by
 rw [ztp]
 refine zja fun i hi => ?_
 show v.getD i 0 * (sg c.rates.length fun j => zyc c ρ i j * H j) = v.getD i 0 * H i
 rw [step_X hv ρ H hi]
 by_cases h1 : zib c i
 ·have hz : ∀ j, j < c.rates.length → rq c i j = 0 := fun j hj => (zxh hv).ab i j hi hj h1
  rw [sg_zero' (f := fun j => rq c i j * H j) fun j hj => by rw [hz j hj, Rat.zero_mul], sg_zero' (f := rq c i) hz, Rat.zero_mul, Rat.sub_self, Rat.mul_zero, Rat.add_zero]
 ·rw [← hH.eq i hi h1, Rat.sub_self, Rat.mul_zero, Rat.add_zero]
theorem dot_lost {c : RC} {v : List Rat} (hv : zxa c) {ρ : Rat} (h0 : 0 < ρ) (hle : zeb c c.rates.length ≤ ρ) (h : zcl c v) : zup c.rates.length v (zyh c) ≤ zup c.rates.length (zci c ρ v) (zyh c) := by
 rw [ztp]
 refine sg_le fun i hi => Rat.mul_le_mul_of_nonneg_left ?_ (h.nn i hi)
 show zyh c i ≤ sg c.rates.length fun j => zyc c ρ i j * zyh c j
 by_cases h1 : zib c i
 ·have hz : ∀ j, j < c.rates.length → rq c i j = 0 := fun j hj => (zxh hv).ab i j hi hj h1
  rw [step_X hv ρ (zyh c) hi, sg_zero' (f := fun j => rq c i j * zyh c j) fun j hj => by rw [hz j hj, Rat.zero_mul], sg_zero' (f := rq c i) hz, Rat.zero_mul, Rat.sub_self, Rat.mul_zero, Rat.add_zero]
  exact Rat.le_refl
 ·have h2 : zyh c i = 0 := by unfold zyh; rw [if_neg h1]
  rw [h2]
  refine zzl fun j hj => Rat.mul_nonneg (step_nn hv h0 hle hi hj) ?_
  unfold zyh
  split
  ·decide
  ·exact Rat.le_refl
theorem hit_nn {c : RC} {H : Nat → Rat} (hv : zxa c) (hH : HitC c H) {s : Nat} (hs : s < c.rates.length) : 0 ≤ H s := by
 have hn : 0 < c.rates.length := by omega
 obtain ⟨m, hm, hmax⟩ := max_at (x := fun i => - H i) hn
 have hmin : ∀ j, j < c.rates.length → H m ≤ H j := fun j hj => by have := hmax j hj; grind
 by_cases hneg : H m < 0
 ·exfalso
  have key : ∀ t, FT c.rates.length (rq c) (zib c) t → H t ≠ H m := by
   intro t ht
   induction ht with
   | base hi hS => rw [hH.one _ hi hS]; intro e; rw [← e] at hneg; exact absurd hneg (by decide)
   | step hc hj hL ih =>
     rename_i a b
     intro e
     by_cases h1 : zib c b
     ·rw [hH.one _ hj h1] at e; rw [← e] at hneg; exact absurd hneg (by decide)
     ·have h2 := hH.eq b hj h1
      have ha := Clo.lt hc
      have h3 : (sg c.rates.length fun t => rq c b t * H m) < sg c.rates.length fun t => rq c b t * H t := by
       refine sg_lt (fun t ht => Rat.mul_le_mul_of_nonneg_left (hmin t ht) (rq_nn hv hj ht)) ha ?_
       have h4 : H m < H a := by
        have := hmin a ha
        rcases Rat.le_iff_lt_or_eq.1 this with h | h
        ·exact h
        ·exact absurd h.symm ih
       exact (Rat.mul_lt_mul_left hL).2 h4
      rw [zad, ← h2, e] at h3
      exact absurd h3 (Rat.lt_irrefl)
  have hft : FT c.rates.length (rq c) (zib c) m := by
   refine Classical.byContradiction fun h => ?_
   rw [hH.no m hm h] at hneg
   exact absurd hneg (by decide)
  exact key m hft rfl
 ·exact Rat.le_trans (Rat.not_lt.1 hneg) (hmin s hs)
theorem lost_hit {c : RC} {v : List Rat} {H : Nat → Rat} (hv : zxa c) (hH : HitC c H) (h : zcl c v) : zup c.rates.length v (zyh c) ≤ zup c.rates.length v H := by
 refine sg_le fun i hi => Rat.mul_le_mul_of_nonneg_left ?_ (h.nn i hi)
 unfold zyh
 split
 ·rw [hH.one i hi (by assumption)]; exact Rat.le_refl
 ·exact hit_nn hv hH hi
theorem zcl.start {c : RC} (hv : zxa c) (hsum : zuc (qs c.start) = 1) : zcl c (qs c.start) where
 len := by rw [zqc]; exact hv.2.2.2.1.symm
 nn := fun j hj => zcp hv hj
 one := by
  have h1 : zuc (qs c.start) = sg c.rates.length fun j => (qs c.start).getD j 0 := by rw [zpp, zqc, ← hv.2.2.2.1]
  refine Eq.trans ?_ hsum
  rw [h1]
  exact zja fun j _ => Rat.mul_one _
theorem zcl.it {c : RC} (hv : zxa c) (hsum : zuc (qs c.start) = 1) {ρ : Rat} (h0 : 0 < ρ) (hle : zeb c c.rates.length ≤ ρ) : ∀ k, zcl c (itV c ρ k)
 | 0 => zcl.start hv hsum
 | k + 1 => (zcl.it hv hsum h0 hle k).step hv h0 hle
theorem it_hit {c : RC} (hv : zxa c) {ρ : Rat} {H : Nat → Rat} (hH : HitC c H) : ∀ k, zup c.rates.length (itV c ρ k) H = stS c H
 | 0 => rfl
 | k + 1 => (dot_hit hv hH).trans (it_hit hv hH k)
theorem mass_law {c : RC} {H : Nat → Rat} (hv : zxa c) (hsum : zuc (qs c.start) = 1) {ρ : Rat} (h0 : 0 < ρ) (hle : zeb c c.rates.length ≤ ρ) (hH : HitC c H) (k : Nat) :
 (itV c ρ k).length = c.rates.length ∧ (∀ j, j < c.rates.length → 0 ≤ (itV c ρ k).getD j 0) ∧ zup c.rates.length (itV c ρ k) (fun _ => 1) = 1 ∧
  zup c.rates.length (itV c ρ k) (zyh c) ≤ zup c.rates.length (itV c ρ (k + 1)) (zyh c) ∧ zup c.rates.length (itV c ρ k) (zyh c) ≤ stS c H := by
 have h := zcl.it hv hsum h0 hle k
 exact ⟨h.len, h.nn, h.one, dot_lost hv h0 hle h, by rw [← it_hit hv (ρ := ρ) hH k]; exact lost_hit hv hH h⟩
end Go.Proofs.YtlpdkbmmbdfoiaaGreat
namespace Go.Proofs.YtlpdkbmmbdfoiaaGreat
open Go.RowKit
theorem sgn_nn (va : Value) {w : World} {q : Rat} (ha : zoa w va q) (hf : fits q) (hq : 0 ≤ q) : Calls Tryz.prog 34 #[va] w fun en w' => ∃ z, en = .returned (.int .i64 z) ∧ ¬ z < 0 ∧ Below w.heap.size w w' := by
 refine (sgn_can va ha hf).mono ?_
 rintro e w' ⟨rfl, hb⟩
 exact ⟨_, rfl, fun h => absurd ((cmpR_lt q 0).1 h) (Rat.not_lt.2 hq), hb⟩
theorem less_f (va vb : Value) {p q : Rat} {w : World} (ha : zoa w va p) (hb : zoa w vb q) (hp : fits p) (hq : fits q) (h : ¬ p < q) : Calls Tryz.prog 50 #[va, vb] w fun en w' => en = .returned (.bool false) ∧ Below w.heap.size w w' := by
 refine (r2less_can va vb p q w ha hb hp hq).mono ?_
 rintro e w' ⟨rfl, hb⟩
 exact ⟨by rw [decide_eq_false (fun h2 => h ((cmpR_lt p q).1 h2))], hb⟩
def lastQ (c : CQ) (ρ : Rat) (ns : Nat) : Nat → Rat
 | 0 => 0
 | m + 1 => 0 + sg ns fun j => if c.lost.getD j false = true then (itV c.raw ρ m).getD j 0 else 0
theorem dot_if (c : CQ) (n : Nat) (v : List Rat) : zup n v (zyh c.raw) = sg n fun j => if c.lost.getD j false = true then v.getD j 0 else 0 := by
 unfold zup
 refine zja fun j _ => ?_
 unfold zyh
 by_cases h : c.lost.getD j false = true
 ·rw [if_pos (show zib c.raw j from h), if_pos h, Rat.mul_one]
 ·rw [if_neg (show ¬ zib c.raw j from h), if_neg h, Rat.mul_zero]
theorem dot_all (n : Nat) (v : List Rat) : zup n v (fun _ => 1) = sg n fun j => if True then v.getD j 0 else 0 := by
 unfold zup
 refine zja fun j _ => ?_
 rw [if_pos trivial, Rat.mul_one]
theorem mass_law_c {c : CQ} {H T : Nat → Rat} {ρ : Rat} {ns : Nat} (htc : TC c H T) (hms : MassS c.raw ρ) (hn : c.raw.rates.length = ns) (k : Nat) :
 (itV c.raw ρ k).length = ns ∧ (∀ j, j < ns → 0 ≤ (itV c.raw ρ k).getD j 0) ∧ (0 + sg ns fun j => if True then (itV c.raw ρ k).getD j 0 else 0) = 1 ∧ (0 + sg ns fun j => if c.lost.getD j false = true then (itV c.raw ρ k).getD j 0 else 0) ≤ (0 + sg ns fun j => if c.lost.getD j false = true then (itV c.raw ρ (k + 1)).getD j 0 else 0) ∧ (0 + sg ns fun j => if c.lost.getD j false = true then (itV c.raw ρ k).getD j 0 else 0) ≤ stS c.raw H := by
 have hsum : zuc (qs c.raw.start) = 1 := by
  have e : qs c.raw.start = c.start := zxk _
  rw [e]
  exact htc.tape.sum
 obtain ⟨h1, h2, h3, h4, h5⟩ := mass_law htc.tape.valid hsum hms.pos hms.le htc.hit.hit k
 rw [hn] at h1 h2 h3 h4 h5
 rw [dot_all] at h3
 rw [dot_if, dot_if] at h4
 rw [dot_if] at h5
 refine ⟨h1, h2, ?_, ?_, ?_⟩
 ·rw [Rat.zero_add]; exact h3
 ·rw [Rat.zero_add, Rat.zero_add]; exact h4
 ·rw [Rat.zero_add]; exact h5
theorem lastQ_ok {c : CQ} {ρ : Rat} {ns m : Nat} {h : Rat}
 (hm : ∀ k, (itV c.raw ρ k).length = ns ∧ (∀ j, j < ns → 0 ≤ (itV c.raw ρ k).getD j 0) ∧ (0 + sg ns fun j => if True then (itV c.raw ρ k).getD j 0 else 0) = 1 ∧ (0 + sg ns fun j => if c.lost.getD j false = true then (itV c.raw ρ k).getD j 0 else 0) ≤ (0 + sg ns fun j => if c.lost.getD j false = true then (itV c.raw ρ (k + 1)).getD j 0 else 0) ∧ (0 + sg ns fun j => if c.lost.getD j false = true then (itV c.raw ρ k).getD j 0 else 0) ≤ h)
 (hf : ∀ k, k ≤ 4 → fits (0 + sg ns fun j => if c.lost.getD j false = true then (itV c.raw ρ k).getD j 0 else 0)) (hm4 : m ≤ 4) :
 fits (lastQ c ρ ns m) ∧ ¬ (0 + sg ns fun j => if c.lost.getD j false = true then (itV c.raw ρ m).getD j 0 else 0) < lastQ c ρ ns m := by
 cases m with
 | zero =>
   refine ⟨by show fits 0; decide, Rat.not_lt.2 ?_⟩
   show (0 : Rat) ≤ _
   rw [Rat.zero_add]
   refine zzl fun j hj => ?_
   split
   ·exact (hm 0).2.1 j hj
   ·exact Rat.le_refl
 | succ m => exact ⟨hf m (by omega), Rat.not_lt.2 (hm m).2.2.2.1⟩
set_option maxRecDepth 100000 in
set_option maxHeartbeats 1600000 in
theorem cleaving_any (va : Value) (c : RC) (w : World) (ha : zdc w va c) (hv : zxa c) : Calls Tryz.prog 47 #[va] w (RF0 w (zeb c c.rates.length)) := by
 obtain ⟨rv, sv, lv, rfl, hr, hs, hlo⟩ := id ha
 obtain ⟨ra, rn, rk, rfl, _⟩ := id hr.sl
 obtain ⟨sa, sn, sk, rfl, _⟩ := id hs.sl
 obtain ⟨la, ln, lk, rfl, _⟩ := id (zua.sl hlo)
 have hbx := zba w (.cells #[.slice ra rn rk, .slice sa sn sk, .slice la ln lk] 28)
 have hb2 := zba (w.alloc (.cells #[.slice ra rn rk, .slice sa sn sk, .slice la ln lk] 28)) (.cells #[.bool false, .slice none 0 0, .slice none 0 0] 38)
 have HC := zH ((C3.new w 28 (.slice ra rn rk) (.slice sa sn sk) (.slice la ln lk)).belowS hb2)
 have HR := zH (C3.newB (b := w.heap.size + 1) (w.alloc (.cells #[.slice ra rn rk, .slice sa sn sk, .slice la ln lk] 28)) 38 (.bool false) (.slice none 0 0) (.slice none 0 0) (by simp))
 have HBW := zH (zaa hbx hb2)
 have HA := zH (ha.below HBW.out)
 have HV := zH hv
 clear hr hs hlo ha hv hbx hb2
 go_enter Tryz.func47, Tryz.ntmps47
 go_upto_region 1 with fail
 generalize (w.alloc (.cells #[.slice ra rn rk, .slice sa sn sk, .slice la ln lk] 28)).alloc (.cells #[.bool false, .slice none 0 0, .slice none 0 0] 38) = W2 at *
 obtain ⟨_, c0, c1, c2, _, _, _⟩ := HC.out
 go_wp2_with (first
  |(go_at_call 68; (with_reducible refine (zgf _ c _ HA.out).mono ?_); rintro e2 w2 ⟨⟨b2, rfl, hv2⟩, hb2⟩; obtain rfl : b2 = true := hv2.2 HV.out; clear hv2
    have c0 := zca hb2 c0
    have c1 := zca hb2 c1
    have c2 := zca hb2 c2
    have HA2 := zH (HA.out.below hb2))
  |(go_at_call 114; (with_reducible refine (zbn _ c _ HA2.out HV.out).mono ?_); rintro e3 w3 ⟨v3, rfl, hv3, hb3⟩
    obtain ⟨t3, x3, y3, rfl, ⟨a31, l31, k31, rfl, _⟩, ⟨a32, l32, k32, rfl, _⟩⟩ := hv3.isF
    have HB3 := zH (zaa hb2 hb3)
    have HV3 := zH hv3
    have HR3 := zH (HR.out.belowS HB3.out)
    obtain ⟨_, r0, r1, r2, q0, q1, q2⟩ := HR3.out))
 refine zpa rfl rfl Tryz.aggF Tryz.sizeF (HR3.out.set _ _ _) rfl ?_
 exact ⟨_, rfl, HV3.out.set3 HR3.out (fun z => by simp) (fun z => by simp) _ _ _, zga (zaa HBW.out HB3.out) (Nat.le_succ _) _ _ _⟩
end Go.Proofs.YtlpdkbmmbdfoiaaGreat
