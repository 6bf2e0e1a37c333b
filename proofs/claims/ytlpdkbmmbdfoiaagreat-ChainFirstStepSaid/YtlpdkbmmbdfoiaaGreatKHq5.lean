/-
  What MeanTime answers, as a walk takes it: the number of the error stays a number.
-/
import Derived.Test.YtlpdkbmmbdfoiaaGreatKTk
import Derived.Test.YtlpdkbmmbdfoiaaGreatKMath12
import Derived.Test.YtlpdkbmmbdfoiaaGreatKOth
import Derived.Test.YtlpdkbmmbdfoiaaGreatKMath17
set_option linter.unusedVariables false
set_option linter.unusedSimpArgs false
namespace Go.Proofs.YtlpdkbmmbdfoiaaGreat
open Go.RowKit
theorem kept6 {w0 X Y : World} {a1 a2 a3 a4 a5 a6 : Addr} {x1 x2 x3 x4 x5 x6 : Value}
 (h : X.cell? a1 = some x1 ∧ X.cell? a2 = some x2 ∧ X.cell? a3 = some x3 ∧ X.cell? a4 = some x4 ∧ X.cell? a5 = some x5 ∧ X.cell? a6 = some x6 ∧ Below w0.heap.size w0 X)
 (hb : Below X.heap.size X Y) : Y.cell? a1 = some x1 ∧ Y.cell? a2 = some x2 ∧ Y.cell? a3 = some x3 ∧ Y.cell? a4 = some x4 ∧ Y.cell? a5 = some x5 ∧ Y.cell? a6 = some x6 ∧ Below w0.heap.size w0 Y := by
 obtain ⟨k1, k2, k3, k4, k5, k6, k13⟩ := h
 exact ⟨zca hb k1, zca hb k2, zca hb k3, zca hb k4, zca hb k5, zca hb k6, zaa k13 hb⟩
theorem zdn {w0 X : World} {a1 a2 a3 a4 a5 a6 : Addr} {x1 x2 x3 x4 x5 x6 : Value}
 (h : X.cell? a1 = some x1 ∧ X.cell? a2 = some x2 ∧ X.cell? a3 = some x3 ∧ X.cell? a4 = some x4 ∧ X.cell? a5 = some x5 ∧ X.cell? a6 = some x6 ∧ Below w0.heap.size w0 X) : Below w0.heap.size w0 X := h.2.2.2.2.2.2
theorem keep9 {w0 X Y : World} {a1 a2 a3 a4 a5 a6 a7 a8 a9 : Addr} {x1 x2 x3 x4 x5 x6 x7 x8 x9 : Value} (h : X.cell? a1 = some x1 ∧ X.cell? a2 = some x2 ∧ X.cell? a3 = some x3 ∧ X.cell? a4 = some x4 ∧ X.cell? a5 = some x5 ∧ X.cell? a6 = some x6 ∧ X.cell? a7 = some x7 ∧ X.cell? a8 = some x8 ∧ X.cell? a9 = some x9 ∧ Below w0.heap.size w0 X) (hb : Below X.heap.size X Y) : Y.cell? a1 = some x1 ∧ Y.cell? a2 = some x2 ∧ Y.cell? a3 = some x3 ∧ Y.cell? a4 = some x4 ∧ Y.cell? a5 = some x5 ∧ Y.cell? a6 = some x6 ∧ Y.cell? a7 = some x7 ∧ Y.cell? a8 = some x8 ∧ Y.cell? a9 = some x9 ∧ Below w0.heap.size w0 Y := by
 obtain ⟨k1, k2, k3, k4, k5, k6, k7, k8, k9, k13⟩ := h
 exact ⟨zca hb k1, zca hb k2, zca hb k3, zca hb k4, zca hb k5, zca hb k6, zca hb k7, zca hb k8, zca hb k9, zaa k13 hb⟩
theorem keep9b {w0 X : World} {a1 a2 a3 a4 a5 a6 a7 a8 a9 : Addr} {x1 x2 x3 x4 x5 x6 x7 x8 x9 : Value} (h : X.cell? a1 = some x1 ∧ X.cell? a2 = some x2 ∧ X.cell? a3 = some x3 ∧ X.cell? a4 = some x4 ∧ X.cell? a5 = some x5 ∧ X.cell? a6 = some x6 ∧ X.cell? a7 = some x7 ∧ X.cell? a8 = some x8 ∧ X.cell? a9 = some x9 ∧ Below w0.heap.size w0 X) : Below w0.heap.size w0 X := h.2.2.2.2.2.2.2.2.2
theorem r2int_3 (w : World) : Calls Tryz.prog 20 #[.int .i64 3] w (RF1 w 3) := by
 have h := r2int_nat 3 w (by decide)
 have e : fq false 3 1 = 3 := by decide +kernel
 rw [e] at h
 exact h
theorem r2make_13 (w : World) : Calls Tryz.prog 18 #[.int .i64 1, .int .i64 3] w (RF0 w (mkRat 1 3)) := r2make_zz 1 3 1 3 w rfl rfl (by decide) (by decide) (by decide)
set_option maxRecDepth 100000 in
set_option maxHeartbeats 6400000 in
theorem zme (w : World) : Calls Tryz.prog 46 #[] w (fun e w' => e = .returned (.bool true) ∧ Below w.heap.size w w') := by
 have HB := zH (Below.refl w.heap.size w)
 go_enter Tryz.func46, Tryz.ntmps46
 go_upto_region 2 with (first
  |(go_at_call 18; (with_reducible refine (r2make_13 _).mono ?_); rintro e1 w1 ⟨v1, rfl, hv1, hb1⟩
    obtain ⟨t1, x1, y1, rfl, ⟨a11, l11, k11, rfl, _⟩, ⟨a12, l12, k12, rfl, _⟩⟩ := hv1.isF
    have hba := zba w1 (.cells #[.bool t1, .slice a11 l11 k11, .slice a12 l12 k12] 38)
    have hbb := zaa hb1 hba
    have HC1 := zH (C3.new w1 38 (.bool t1) (.slice a11 l11 k11) (.slice a12 l12 k12))
    have HF1 := zH (hv1.below hba)
    replace HB := zH (zaa HB.out hbb)
    clear hv1 hb1 hba hbb))
 obtain ⟨b1, hb1⟩ : ∃ b, w1.heap.size = b := ⟨_, rfl⟩
 rw [hb1] at HC1 ⊢
 clear hb1
 generalize w1.alloc (.cells #[.bool t1, .slice a11 l11 k11, .slice a12 l12 k12] 38) = W1 at *
 obtain ⟨_, c0, c1, c2, _, _, _⟩ := HC1.out
 go_upto_region 3 with (first
  |(go_at_call 113; (with_reducible refine (two_any _ _ _ HF1.out).mono ?_); rintro e2 w2 ⟨v2, rfl, hv2, hb2⟩
    obtain ⟨rv, sv, lv, rfl, hr, hs, hl⟩ := id hv2
    obtain ⟨ra, rn, rk, rfl, _⟩ := id hr.sl
    obtain ⟨sa, sn, sk, rfl, _⟩ := id hs.sl
    obtain ⟨la, ln, lk, rfl, _⟩ := id (zua.sl hl)
    have hba := zba w2 (.cells #[.slice ra rn rk, .slice sa sn sk, .slice la ln lk] 28)
    have hbb := zaa hb2 hba
    have HC2 := zH (C3.new w2 28 (.slice ra rn rk) (.slice sa sn sk) (.slice la ln lk))
    have HC := zH (hv2.below hba)
    clear c0 c1 c2
    replace HB := zH (zaa HB.out hbb); replace HC1 := zH (HC1.out.belowS hbb); replace HF1 := zH (HF1.out.below hbb)
    clear hr hs hl hv2 hb2 hba hbb))
 obtain ⟨b2, hb2⟩ : ∃ b, w2.heap.size = b := ⟨_, rfl⟩
 rw [hb2] at HC2 ⊢
 clear hb2
 generalize w2.alloc (.cells #[.slice ra rn rk, .slice sa sn sk, .slice la ln lk] 28) = W2 at *
 obtain ⟨_, c0, c1, c2, _, _, _⟩ := HC2.out
 go_upto_region 4 with (first
  |(go_at_call 45; (with_reducible refine (cTh_mean HC.out).mono ?_); rintro e3 w3 ⟨v3, rfl, hv3, hb3⟩
    clear c0 c1 c2
    obtain ⟨t3, x3, y3, rfl, ⟨a31, l31, k31, rfl, _⟩, ⟨a32, l32, k32, rfl, _⟩⟩ := hv3.isF
    have hba := zba w3 (.cells #[.bool t3, .slice a31 l31 k31, .slice a32 l32 k32] 38)
    have hbb := zaa hb3 hba
    have HC3 := zH (C3.new w3 38 (.bool t3) (.slice a31 l31 k31) (.slice a32 l32 k32))
    have HF3 := zH (hv3.below hba)
    replace HB := zH (zaa HB.out hbb); replace HC1 := zH (HC1.out.belowS hbb); replace HF1 := zH (HF1.out.below hbb); replace HC2 := zH (HC2.out.belowS hbb); replace HC := zH (HC.out.below hbb)
    clear hv3 hb3 hba hbb))
 obtain ⟨b3, hb3⟩ : ∃ b, w3.heap.size = b := ⟨_, rfl⟩
 rw [hb3] at HC3 ⊢
 clear hb3
 generalize w3.alloc (.cells #[.bool t3, .slice a31 l31 k31, .slice a32 l32 k32] 38) = W3 at *
 obtain ⟨_, c0, c1, c2, _, _, _⟩ := HC2.out
 go_upto_region 5 with (first
  |(go_at_call 43; (with_reducible refine (cTh_hit HC.out).mono ?_); rintro e4 w4 ⟨v4, rfl, hv4, hb4⟩
    clear c0 c1 c2
    obtain ⟨t4, x4, y4, rfl, ⟨a41, l41, k41, rfl, _⟩, ⟨a42, l42, k42, rfl, _⟩⟩ := hv4.isF
    have hba := zba w4 (.cells #[.bool t4, .slice a41 l41 k41, .slice a42 l42 k42] 38)
    have hbb := zaa hb4 hba
    have HC4 := zH (C3.new w4 38 (.bool t4) (.slice a41 l41 k41) (.slice a42 l42 k42))
    have HF4 := zH (hv4.below hba)
    replace HB := zH (zaa HB.out hbb); replace HC1 := zH (HC1.out.belowS hbb); replace HF1 := zH (HF1.out.below hbb); replace HC2 := zH (HC2.out.belowS hbb); replace HC := zH (HC.out.below hbb); replace HC3 := zH (HC3.out.belowS hbb); replace HF3 := zH (HF3.out.below hbb)
    clear hv4 hb4 hba hbb))
 obtain ⟨b4, hb4⟩ : ∃ b, w4.heap.size = b := ⟨_, rfl⟩
 rw [hb4] at HC4 ⊢
 clear hb4
 generalize w4.alloc (.cells #[.bool t4, .slice a41 l41 k41, .slice a42 l42 k42] 38) = W4 at *
 obtain ⟨_, c0, c1, c2, _, _, _⟩ := HC2.out
 obtain ⟨_, d0, d1, d2, _, _, _⟩ := HC1.out
 go_upto_region 6 with (first
  |(go_at_call 48; (with_reducible refine (cTh_after HC.out HF1.out).mono ?_); rintro e5 w5 ⟨v5, rfl, hv5, hb5⟩
    clear c0 c1 c2 d0 d1 d2
    have HV5 := zH hv5
    replace HB := zH (zaa HB.out hb5); replace HC3 := zH (HC3.out.belowS hb5); replace HF3 := zH (HF3.out.below hb5); replace HC4 := zH (HC4.out.belowS hb5); replace HF4 := zH (HF4.out.below hb5)
    obtain ⟨va5, vn5, vk5, rfl, _⟩ := id hv5.sl
    clear hv5 hb5))
 clear HC1 HF1 HC2 HC
 go_upto_region 7 with (first
  |(go_at_call 43; (with_reducible refine (hit_bad _ ⟨[], [], []⟩ _ (zero_chain _) zero_bad).mono ?_); rintro e6 w6 ⟨rfl, hb6⟩
    have hba := zba w6 (.cells #[.bool false, .slice none 0 0, .slice none 0 0] 38)
    have hbb := zaa hb6 hba
    replace HB := zH (zaa HB.out hbb); replace HC3 := zH (HC3.out.belowS hbb); replace HF3 := zH (HF3.out.below hbb); replace HC4 := zH (HC4.out.belowS hbb); replace HF4 := zH (HF4.out.below hbb); replace HV5 := zH (HV5.out.below hbb)
    clear hb6 hba hbb))
 generalize w6.alloc (.cells #[.bool false, .slice none 0 0, .slice none 0 0] 38) = W6 at *
 obtain ⟨_, c0, c1, c2, _, _, _⟩ := HC3.out
 obtain ⟨_, d0, d1, d2, _, _, _⟩ := HC4.out
 have S0 := zH (And.intro c0 (And.intro c1 (And.intro c2 (And.intro d0 (And.intro d1 (And.intro d2 (Below.refl W6.heap.size W6)))))))
 clear c0 c1 c2 d0 d1 d2 HC3 HC4
 have sv5 := HV5.out.sl
 go_region_held3 (fun w' => w'.cell? ⟨b3, 0, none⟩ = some (.bool t3) ∧ w'.cell? ⟨b3, 1, none⟩ = some (.slice a31 l31 k31) ∧ w'.cell? ⟨b3, 2, none⟩ = some (.slice a32 l32 k32) ∧
  w'.cell? ⟨b4, 0, none⟩ = some (.bool t4) ∧ w'.cell? ⟨b4, 1, none⟩ = some (.slice a41 l41 k41) ∧ w'.cell? ⟨b4, 2, none⟩ = some (.slice a42 l42 k42) ∧
  Below W6.heap.size W6 w') (first
  | with_reducible exact kept6 S0.out (zha _)
  | with_reducible exact kept6 (by assumption) (zba _ _)
  | with_reducible exact kept6 (by assumption) (by assumption)) (first
  |(go_at_call 20; (with_reducible refine (r2int_3 _).mono ?_); rintro e7 w7 ⟨v7, rfl, hv7, hb7⟩)
  |(go_at_call 20; (with_reducible refine (zob _).mono ?_); rintro e8 w8 ⟨v8, rfl, hv8, hb8⟩; obtain ⟨t8, x8, y8, rfl, ⟨a81, l81, k81, rfl, _⟩, ⟨a82, l82, k82, rfl, _⟩⟩ := hv8.isF)
  |(go_at_call 20; (with_reducible refine (zse _).mono ?_); rintro e9 w9 ⟨v9, rfl, hv9, hb9⟩; obtain ⟨t9, x9, y9, rfl, ⟨a91, l91, k91, rfl, _⟩, ⟨a92, l92, k92, rfl, _⟩⟩ := hv9.isF)
  |(go_at_call 61; (with_reducible refine (zcm _ _ 3 3 _ (HF3.out.below (zdn (by assumption))) hv7).mono ?_); rintro e10 w10 ⟨⟨q10, rfl, hq10⟩, hb10⟩; obtain rfl : q10 = true := hq10.2 rfl; clear hq10 hv7)
  |(go_at_call 61; (with_reducible refine (zcm _ _ 1 1 _ (HF4.out.below (zdn (by assumption))) (by first | assumption | exact hv9)).mono ?_); rintro e11 w11 ⟨⟨q11, rfl, hq11⟩, hb11⟩; obtain rfl : q11 = true := hq11.2 rfl; clear hq11)
  |(go_at_call 23; (with_reducible refine (same_fracs _ _ [0, 1] [0, 1] _ (HV5.out.below (zdn (by assumption))) (zva.lit2 rfl (hv8.below (by assumption)) (by assumption))).mono ?_); rintro e12 w12 ⟨⟨q12, rfl, hq12⟩, hb12⟩; obtain rfl : q12 = true := hq12.2 rfl; clear hq12))
 all_goals
  have hEnd := zdn (by assumption)
  go_wp2_with fail
  go_ret
  exact ⟨rfl, zaa HB.out hEnd⟩
theorem r2same_can (va vb : Value) (p q : Rat) (w : World) (ha : zoa w va p) (hb : zoa w vb q) (hp : fits p) (hq : fits q) : Calls Tryz.prog 33 #[va, vb] w fun en w' => en = .returned (.bool (decide (p = q))) ∧ Below w.heap.size w w' := by
 have h := r2same_any va vb _ _ _ _ _ _ w ha.raw hb.raw ⟨p.den_nz, hp.2, hp.1⟩ ⟨q.den_nz, hq.2, hq.1⟩
 rw [zqb, zqb] at h
 exact h
def RMeanX (w0 : World) (P : Prop) (R : Rat) (e : Ending) (w : World) : Prop :=
 ∃ t a1 l1 k1 a2 l2 k2 z, e = .returned (.tuple #[.agg #[.bool t, .slice a1 l1 k1, .slice a2 l2 k2], .int .i64 z]) ∧ (P ∧ z = 0 ∧ zoa w (.agg #[.bool t, .slice a1 l1 k1, .slice a2 l2 k2]) R ∨ ¬ P ∧ z = 14) ∧ Below w0.heap.size w0 w
theorem zwk.x {w0 : World} {P : Prop} {R : Rat} {e : Ending} {w : World} (h : zwk w0 P R e w) : RMeanX w0 P R e w := by
 rcases h with ⟨h1, v, rfl, hv, hb⟩ | ⟨h1, rfl, hb⟩
 ·obtain ⟨t, x, y, rfl, ⟨a1, l1, k1, rfl, _⟩, ⟨a2, l2, k2, rfl, _⟩⟩ := hv.isF
  exact ⟨_, _, _, _, _, _, _, _, rfl, Or.inl ⟨h1, rfl, hv⟩, hb⟩
 ·exact ⟨_, _, _, _, _, _, _, _, rfl, Or.inr ⟨h1, rfl⟩, hb⟩
theorem TC.mean_cx {c : CQ} {H T : Nat → Rat} (h : TC c H T) {va : Value} {w : World} (ha : zwc w va c) : Calls Tryz.prog 45 #[va] w (RMeanX w (AllS c.raw) (stS c.raw T)) := (h.mean_c ha.raw).mono fun _ _ k => k.x
theorem TC.mean_fx {c : CQ} {H T : Nat → Rat} (h : TC c H T) {i : Nat} (hi : i < c.start.length) {va : Value} {w : World} (ha : zwc w va (frm c i)) : Calls Tryz.prog 45 #[va] w (RMeanX w (zzf c i) (T i)) := (h.mean_f hi ha.raw).mono fun _ _ k => k.x
theorem TC.ovR {c : CQ} {H T : Nat → Rat} (h : TC c H T) {i : Nat} (hi : i < c.start.length) {k : Nat} (hk : k ≤ c.start.length) : over 720 230400 (0 + sg k fun j => (c.rates.getD i []).getD j 0) := by
 rw [Rat.zero_add]
 have h5 := h.tape.n5
 exact (over.sg (B := 28800) (by decide) fun j hj => h.rt hi (by omega)).mono (by omega)
theorem TC.fsR {c : CQ} {H T : Nat → Rat} (h : TC c H T) {i : Nat} (hi : i < c.start.length) {k : Nat} (hk : k ≤ c.start.length) : fits (0 + sg k fun j => (c.rates.getD i []).getD j 0) := zej (h.ovR hi hk) (by decide +kernel)
theorem TC.rt_nn {c : CQ} {H T : Nat → Rat} (h : TC c H T) {i j : Nat} (hi : i < c.start.length) (hj : j < c.start.length) : 0 ≤ (c.rates.getD i []).getD j 0 := Rat.not_lt.1 (h.tape.rate hi hj).nonneg
theorem zwi (va vb : Value) {p q : Rat} {w : World} (ha : zoa w va p) (hb : zoa w vb q) (hp : fits p) (h : p = q) : Calls Tryz.prog 33 #[va, vb] w fun en w' => en = .returned (.bool true) ∧ Below w.heap.size w w' := by
 subst h
 refine (r2same_can va vb p p w ha hb hp hp).mono ?_
 rintro e w' ⟨rfl, hb⟩
 exact ⟨by rw [decide_eq_true rfl], hb⟩
end Go.Proofs.YtlpdkbmmbdfoiaaGreat
