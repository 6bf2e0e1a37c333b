/-
  package drydocklaw20: PhaseFirst, the walk.
-/
import Derived.Test.YtlpdkbmmbdfoiaaGreatFPp6
import Derived.Test.YtlpdkbmmbdfoiaaGreatFRb7
import Derived.Test.YtlpdkbmmbdfoiaaGreatFTk
set_option linter.unusedVariables false
set_option linter.unusedSimpArgs false
namespace Go.Proofs.YtlpdkbmmbdfoiaaGreat
open Go.RowKit
theorem sgn_ge (va : Value) {w : World} {q : Rat} (ha : zqa w va q) (hf : fits q) (hq : 0 ≤ q) : Calls Tryz.prog 34 #[va] w fun en w' => ∃ z, en = .returned (.int .i64 z) ∧ (decide (z < 0) = false ∧ decide (0 ≤ z) = true) ∧ Below w.heap.size w w' := by
 refine (sgn_can va ha hf).mono ?_
 rintro e w' ⟨rfl, hb⟩
 have h : ¬ cmpR q 0 < 0 := fun h => absurd ((cmpR_lt q 0).1 h) (Rat.not_lt.2 hq)
 exact ⟨_, rfl, ⟨decide_eq_false h, decide_eq_true (Int.not_lt.1 h)⟩, hb⟩
theorem psame_t (va vb : Value) {p q : Rat} {w : World} (ha : zqa w va p) (hb : zqa w vb q) (hp : fits p) (h : p = q) : Calls Tryz.prog 33 #[va, vb] w fun en w' => en = .returned (.bool true) ∧ Below w.heap.size w w' := by
 subst h
 refine (r2same_can va vb p p w ha hb hp hp).mono ?_
 rintro e w' ⟨rfl, hb⟩
 exact ⟨by rw [decide_eq_true rfl], hb⟩
theorem keep15 {w0 X Y : World} {a1 a2 a3 a4 a5 a6 a7 a8 a9 a10 a11 a12 a13 a14 a15 : Addr} {x1 x2 x3 x4 x5 x6 x7 x8 x9 x10 x11 x12 x13 x14 x15 : Value} (h : X.cell? a1 = some x1 ∧ X.cell? a2 = some x2 ∧ X.cell? a3 = some x3 ∧ X.cell? a4 = some x4 ∧ X.cell? a5 = some x5 ∧ X.cell? a6 = some x6 ∧ X.cell? a7 = some x7 ∧ X.cell? a8 = some x8 ∧ X.cell? a9 = some x9 ∧ X.cell? a10 = some x10 ∧ X.cell? a11 = some x11 ∧ X.cell? a12 = some x12 ∧ X.cell? a13 = some x13 ∧ X.cell? a14 = some x14 ∧ X.cell? a15 = some x15 ∧ Below w0.heap.size w0 X) (hb : Below X.heap.size X Y) : Y.cell? a1 = some x1 ∧ Y.cell? a2 = some x2 ∧ Y.cell? a3 = some x3 ∧ Y.cell? a4 = some x4 ∧ Y.cell? a5 = some x5 ∧ Y.cell? a6 = some x6 ∧ Y.cell? a7 = some x7 ∧ Y.cell? a8 = some x8 ∧ Y.cell? a9 = some x9 ∧ Y.cell? a10 = some x10 ∧ Y.cell? a11 = some x11 ∧ Y.cell? a12 = some x12 ∧ Y.cell? a13 = some x13 ∧ Y.cell? a14 = some x14 ∧ Y.cell? a15 = some x15 ∧ Below w0.heap.size w0 Y := by
 obtain ⟨k1, k2, k3, k4, k5, k6, k7, k8, k9, k10, k11, k12, k13, k14, k15, k16⟩ := h
 exact ⟨zba hb k1, zba hb k2, zba hb k3, zba hb k4, zba hb k5, zba hb k6, zba hb k7, zba hb k8, zba hb k9, zba hb k10, zba hb k11, zba hb k12, zba hb k13, zba hb k14, zba hb k15, zaa k16 hb⟩
theorem zdj {w0 X : World} {a1 a2 a3 a4 a5 a6 a7 a8 a9 a10 a11 a12 a13 a14 a15 : Addr} {x1 x2 x3 x4 x5 x6 x7 x8 x9 x10 x11 x12 x13 x14 x15 : Value} (h : X.cell? a1 = some x1 ∧ X.cell? a2 = some x2 ∧ X.cell? a3 = some x3 ∧ X.cell? a4 = some x4 ∧ X.cell? a5 = some x5 ∧ X.cell? a6 = some x6 ∧ X.cell? a7 = some x7 ∧ X.cell? a8 = some x8 ∧ X.cell? a9 = some x9 ∧ X.cell? a10 = some x10 ∧ X.cell? a11 = some x11 ∧ X.cell? a12 = some x12 ∧ X.cell? a13 = some x13 ∧ X.cell? a14 = some x14 ∧ X.cell? a15 = some x15 ∧ Below w0.heap.size w0 X) : Below w0.heap.size w0 X := h.2.2.2.2.2.2.2.2.2.2.2.2.2.2.2
theorem pair_facts {a b : LQ} (ha : zch 2 a) (hb : zch 2 b) : ∃ p q : Rat, fits p ∧ fits q ∧ 0 ≤ p ∧ 0 ≤ q ∧ p + q = 1 ∧ (∀ w va vb, zgm w va a → zgm w vb b → Calls Tryz.prog 32 #[va, vb] w (RF0 w p)) ∧
 (∀ w va vb, zgm w va a → zgm w vb b → Calls Tryz.prog 32 #[vb, va] w (RF0 w q)) ∧ ∀ w va, zgm w va a → Calls Tryz.prog 32 #[va, va] w (RF0 w (mkRat 1 2)) := by
 have pa := ha.law (by decide)
 have pb := hb.law (by decide)
 refine ⟨befQ a b, befQ b a, bef_fits (zxh ha hb), bef_fits (zxh hb ha), bef_nn pa pb, bef_nn pb pa, bef_add pa pb, fun w va vb h1 h2 => zof va vb a b w h1.lawC h2.lawC pa pb (zxh ha hb), fun w va vb h1 h2 => zof vb va b a w h2.lawC h1.lawC pb pa (zxh hb ha), fun w va h1 => ?_⟩
 have h := zof va va a a w h1.lawC h1.lawC pa pa (zxh ha ha)
 rw [bef_half pa] at h
 exact h
theorem padd_one (va vb : Value) {p q : Rat} {w : World} (ha : zqa w va p) (hb : zqa w vb q) (hp : fits p) (hq : fits q) (h : p + q = 1) : Calls Tryz.prog 19 #[va, vb] w (RF0 w 1) := by
 have h2 := r2add_can va vb p q w ha hb hp hq (by rw [h]; decide +kernel)
 rw [h] at h2
 exact h2
set_option maxRecDepth 100000 in
set_option maxHeartbeats 6400000 in
theorem pfirst_any (v : Value) (l : List Nat) (w : World) (h : zhc w v (bytes l)) (hb : ∀ x ∈ l, x < 256) : Calls Tryz.prog 5 #[v] w (fun e w' => e = .returned (.bool true) ∧ Below w.heap.size w w') := by
 have HV := zH h
 have HB := zH (Below.refl w.heap.size w)
 have sv := zhc.sl h
 clear h
 go_enter Tryz.func5, Tryz.ntmps5
 go_upto_region 2 with (first
  |(go_at_call 31; (with_reducible refine (tpair_any _ l _ HV.out hb).mono ?_); rintro e1 w1 ⟨va, vb, a, b, rfl, hva, hvb, hla, hlb, hb1⟩
    obtain ⟨saA, snA, skA, raA, rnA, rkA, eaA, enA, ekA, rfl⟩ := hva.slices2
    obtain ⟨saB, snB, skB, raB, rnB, rkB, eaB, enB, ekB, rfl⟩ := hvb.slices2
    have hba := zca w1 (.cells #[.string { data := #[] }, .slice saA snA skA, .slice raA rnA rkA, .slice eaA enA ekA] 52)
    have hbb := zca (w1.alloc (.cells #[.string { data := #[] }, .slice saA snA skA, .slice raA rnA rkA, .slice eaA enA ekA] 52)) (.cells #[.string { data := #[] }, .slice saB snB skB, .slice raB rnB rkB, .slice eaB enB ekB] 52)
    have hz1 : (w1.alloc (.cells #[.string { data := #[] }, .slice saA snA skA, .slice raA rnA rkA, .slice eaA enA ekA] 52)).heap.size = w1.heap.size + 1 := by show (w1.heap.push _).size = _; rw [Array.size_push]
    have HC1 := zH ((C4.new w1 52 (.string { data := #[] }) (.slice saA snA skA) (.slice raA rnA rkA) (.slice eaA enA ekA)).belowS hbb)
    have hc2 := C4.new (w1.alloc (.cells #[.string { data := #[] }, .slice saA snA skA, .slice raA rnA rkA, .slice eaA enA ekA] 52)) 52 (.string { data := #[] }) (.slice saB snB skB) (.slice raB rnB rkB) (.slice eaB enB ekB)
    rw [hz1] at hc2
    have HC2 := zH hc2
    have hbc := zaa hba hbb
    have HVA := zH (hva.below hbc)
    have HVB := zH (hvb.below hbc)
    have HB1 := zH (zaa hb1 hbc)
    have HLA := zH hla
    have HLB := zH hlb
    clear hva hvb hb1 hba hbb hz1 hc2 hbc hla hlb))
 obtain ⟨p, q, HFP, HFQ, HP0, HQ0, HPQ, HB3, HB4, HB5⟩ := pair_facts HLA.out HLB.out
 replace HFP := zH HFP
 replace HFQ := zH HFQ
 replace HP0 := zH HP0
 replace HQ0 := zH HQ0
 replace HPQ := zH HPQ
 replace HB3 := zH HB3
 replace HB4 := zH HB4
 replace HB5 := zH HB5
 clear HLA HLB HB HV sv hb
 obtain ⟨k1, hk1⟩ : ∃ b, w1.heap.size = b := ⟨_, rfl⟩
 rw [hk1] at HC1 HC2 ⊢
 clear hk1
 generalize (w1.alloc (.cells #[.string { data := #[] }, .slice saA snA skA, .slice raA rnA rkA, .slice eaA enA ekA] 52)).alloc (.cells #[.string { data := #[] }, .slice saB snB skB, .slice raB rnB rkB, .slice eaB enB ekB] 52) = W1 at *
 obtain ⟨-, c0, c1, c2, c3, -, -, -, -⟩ := HC1.out
 obtain ⟨-, d0, d1, d2, d3, -, -, -, -⟩ := HC2.out
 go_upto_region 3 with (first
  |(go_at_call 32; (with_reducible refine (HB3.out _ _ _ HVA.out HVB.out).mono ?_); rintro e3 w3 ⟨v3, rfl, hv3, hb3⟩
    clear c0 c1 c2 c3 d0 d1 d2 d3 HB3
    obtain ⟨t3, x3, y3, rfl, ⟨a31, l31, k31, rfl, _⟩, ⟨a32, l32, k32, rfl, _⟩⟩ := hv3.isF
    have hba := zca w3 (.cells #[.bool t3, .slice a31 l31 k31, .slice a32 l32 k32] 38)
    have hbb := zaa hb3 hba
    have HC3 := zH (C3.new w3 38 (.bool t3) (.slice a31 l31 k31) (.slice a32 l32 k32))
    have HF3 := zH (hv3.below hba)
    replace HB1 := zH (zaa HB1.out hbb); replace HC1 := zH (HC1.out.belowS hbb); replace HC2 := zH (HC2.out.belowS hbb); replace HVA := zH (HVA.out.below hbb); replace HVB := zH (HVB.out.below hbb)
    clear hv3 hb3 hba hbb))
 obtain ⟨b3, hb3⟩ : ∃ b, w3.heap.size = b := ⟨_, rfl⟩
 rw [hb3] at HC3 ⊢
 clear hb3
 generalize w3.alloc (.cells #[.bool t3, .slice a31 l31 k31, .slice a32 l32 k32] 38) = W3 at *
 obtain ⟨-, c0, c1, c2, c3, -, -, -, -⟩ := HC1.out
 obtain ⟨-, d0, d1, d2, d3, -, -, -, -⟩ := HC2.out
 go_upto_region 4 with (first
  |(go_at_call 32; (with_reducible refine (HB4.out _ _ _ HVA.out HVB.out).mono ?_); rintro e4 w4 ⟨v4, rfl, hv4, hb4⟩
    clear c0 c1 c2 c3 d0 d1 d2 d3 HB4
    obtain ⟨t4, x4, y4, rfl, ⟨a41, l41, k41, rfl, _⟩, ⟨a42, l42, k42, rfl, _⟩⟩ := hv4.isF
    have hba := zca w4 (.cells #[.bool t4, .slice a41 l41 k41, .slice a42 l42 k42] 38)
    have hbb := zaa hb4 hba
    have HC4 := zH (C3.new w4 38 (.bool t4) (.slice a41 l41 k41) (.slice a42 l42 k42))
    have HF4 := zH (hv4.below hba)
    replace HB1 := zH (zaa HB1.out hbb); replace HC1 := zH (HC1.out.belowS hbb); replace HVA := zH (HVA.out.below hbb); replace HC3 := zH (HC3.out.belowS hbb); replace HF3 := zH (HF3.out.below hbb)
    clear hv4 hb4 hba hbb))
 obtain ⟨b4, hb4⟩ : ∃ b, w4.heap.size = b := ⟨_, rfl⟩
 rw [hb4] at HC4 ⊢
 clear hb4
 generalize w4.alloc (.cells #[.bool t4, .slice a41 l41 k41, .slice a42 l42 k42] 38) = W4 at *
 clear HC2 HVB
 obtain ⟨-, c0, c1, c2, c3, -, -, -, -⟩ := HC1.out
 go_upto_region 5 with (first
  |(go_at_call 32; (with_reducible refine (HB5.out _ _ HVA.out).mono ?_); rintro e5 w5 ⟨v5, rfl, hv5, hb5⟩
    clear c0 c1 c2 c3 HB5
    obtain ⟨t5, x5, y5, rfl, ⟨a51, l51, k51, rfl, _⟩, ⟨a52, l52, k52, rfl, _⟩⟩ := hv5.isF
    have hba := zca w5 (.cells #[.bool t5, .slice a51 l51 k51, .slice a52 l52 k52] 38)
    have hbb := zaa hb5 hba
    have HC5 := zH (C3.new w5 38 (.bool t5) (.slice a51 l51 k51) (.slice a52 l52 k52))
    have HF5 := zH (hv5.below hba)
    replace HB1 := zH (zaa HB1.out hbb); replace HC3 := zH (HC3.out.belowS hbb); replace HF3 := zH (HF3.out.below hbb); replace HC4 := zH (HC4.out.belowS hbb); replace HF4 := zH (HF4.out.below hbb)
    clear hv5 hb5 hba hbb))
 obtain ⟨b5, hb5⟩ : ∃ b, w5.heap.size = b := ⟨_, rfl⟩
 rw [hb5] at HC5 ⊢
 clear hb5
 generalize w5.alloc (.cells #[.bool t5, .slice a51 l51 k51, .slice a52 l52 k52] 38) = W5 at *
 clear HC1 HVA
 obtain ⟨-, c0, c1, c2, -, -, -⟩ := HC3.out
 obtain ⟨-, d0, d1, d2, -, -, -⟩ := HC4.out
 go_upto_region 8 with (first
  |(go_at_call 19; (with_reducible refine (padd_one _ _ HF3.out HF4.out HFP.out HFQ.out HPQ.out).mono ?_); rintro e6 w6 ⟨v6, rfl, hv6, hb6⟩
    clear c0 c1 c2 d0 d1 d2 HPQ
    obtain ⟨t6, x6, y6, rfl, ⟨a61, l61, k61, rfl, _⟩, ⟨a62, l62, k62, rfl, _⟩⟩ := hv6.isF
    have hba := zca w6 (.cells #[.bool t6, .slice a61 l61 k61, .slice a62 l62 k62] 38)
    have hbb := zaa hb6 hba
    have HC6 := zH (C3.new w6 38 (.bool t6) (.slice a61 l61 k61) (.slice a62 l62 k62))
    have HF6 := zH (hv6.below hba)
    replace HB1 := zH (zaa HB1.out hbb); replace HC3 := zH (HC3.out.belowS hbb); replace HF3 := zH (HF3.out.below hbb); replace HC4 := zH (HC4.out.belowS hbb); replace HF4 := zH (HF4.out.below hbb); replace HC5 := zH (HC5.out.belowS hbb); replace HF5 := zH (HF5.out.below hbb)
    clear hv6 hb6 hba hbb))
 obtain ⟨b6, hb6⟩ : ∃ b, w6.heap.size = b := ⟨_, rfl⟩
 rw [hb6] at HC6 ⊢
 clear hb6
 generalize w6.alloc (.cells #[.bool t6, .slice a61 l61 k61, .slice a62 l62 k62] 38) = W6 at *
 go_upto_region 9 with (first
  |(go_at_call 18; (with_reducible refine (zmm _).mono ?_); rintro e7 w7 ⟨v7, rfl, hv7, hb7⟩
    obtain ⟨t7, x7, y7, rfl, ⟨a71, l71, k71, rfl, _⟩, ⟨a72, l72, k72, rfl, _⟩⟩ := hv7.isF
    have hba := zca w7 (.cells #[.bool t7, .slice a71 l71 k71, .slice a72 l72 k72] 38)
    have hbb := zaa hb7 hba
    have HC7 := zH (C3.new w7 38 (.bool t7) (.slice a71 l71 k71) (.slice a72 l72 k72))
    have HF7 := zH (hv7.below hba)
    replace HB1 := zH (zaa HB1.out hbb); replace HC3 := zH (HC3.out.belowS hbb); replace HF3 := zH (HF3.out.below hbb); replace HC4 := zH (HC4.out.belowS hbb); replace HF4 := zH (HF4.out.below hbb); replace HC5 := zH (HC5.out.belowS hbb); replace HF5 := zH (HF5.out.below hbb); replace HC6 := zH (HC6.out.belowS hbb); replace HF6 := zH (HF6.out.below hbb)
    clear hv7 hb7 hba hbb))
 obtain ⟨b7, hb7⟩ : ∃ b, w7.heap.size = b := ⟨_, rfl⟩
 rw [hb7] at HC7 ⊢
 clear hb7
 generalize w7.alloc (.cells #[.bool t7, .slice a71 l71 k71, .slice a72 l72 k72] 38) = W7 at *
 obtain ⟨-, c0, c1, c2, -, -, -⟩ := HC3.out
 obtain ⟨-, d0, d1, d2, -, -, -⟩ := HC4.out
 obtain ⟨-, p0, p1, p2, -, -, -⟩ := HC5.out
 obtain ⟨-, q0, q1, q2, -, -, -⟩ := HC6.out
 obtain ⟨-, r0, r1, r2, -, -, -⟩ := HC7.out
 have S0 := zH (And.intro c0 (And.intro c1 (And.intro c2 (And.intro d0 (And.intro d1 (And.intro d2 (And.intro p0 (And.intro p1 (And.intro p2 (And.intro q0 (And.intro q1 (And.intro q2 (And.intro r0 (And.intro r1 (And.intro r2 (Below.refl W7.heap.size W7))))))))))))))))
 clear c0 c1 c2 d0 d1 d2 p0 p1 p2 q0 q1 q2 r0 r1 r2 HC3 HC4 HC5 HC6 HC7
 go_region_held3 (fun w' => w'.cell? ⟨b3, 0, none⟩ = some (.bool t3) ∧ w'.cell? ⟨b3, 1, none⟩ = some (.slice a31 l31 k31) ∧ w'.cell? ⟨b3, 2, none⟩ = some (.slice a32 l32 k32) ∧ w'.cell? ⟨b4, 0, none⟩ = some (.bool t4) ∧ w'.cell? ⟨b4, 1, none⟩ = some (.slice a41 l41 k41) ∧ w'.cell? ⟨b4, 2, none⟩ = some (.slice a42 l42 k42) ∧ w'.cell? ⟨b5, 0, none⟩ = some (.bool t5) ∧ w'.cell? ⟨b5, 1, none⟩ = some (.slice a51 l51 k51) ∧ w'.cell? ⟨b5, 2, none⟩ = some (.slice a52 l52 k52) ∧ w'.cell? ⟨b6, 0, none⟩ = some (.bool t6) ∧ w'.cell? ⟨b6, 1, none⟩ = some (.slice a61 l61 k61) ∧ w'.cell? ⟨b6, 2, none⟩ = some (.slice a62 l62 k62) ∧ w'.cell? ⟨b7, 0, none⟩ = some (.bool t7) ∧ w'.cell? ⟨b7, 1, none⟩ = some (.slice a71 l71 k71) ∧ w'.cell? ⟨b7, 2, none⟩ = some (.slice a72 l72 k72) ∧ Below W7.heap.size W7 w') (first
  | with_reducible exact keep15 S0.out (zja _)
  | with_reducible exact keep15 (by assumption) (by assumption)) (first
  |(go_at_call 20; (with_reducible refine (r2int_one _).mono ?_); rintro e10 w10 ⟨v10, rfl, hv10, hb10⟩)
  |(go_at_call 33; (with_reducible refine (psame_t _ _ (HF6.out.below (zdj (by assumption))) hv10 (by decide +kernel) rfl).mono ?_); rintro e11 w11 ⟨rfl, hb11⟩)
  |(go_at_call 34; (with_reducible refine (sgn_ge _ (HF3.out.below (zdj (by assumption))) HFP.out HP0.out).mono ?_); rintro e12 w12 ⟨z12, rfl, ⟨hz12, hy12⟩, hb12⟩)
  |(go_at_call 34; (with_reducible refine (sgn_ge _ (HF4.out.below (zdj (by assumption))) HFQ.out HQ0.out).mono ?_); rintro e13 w13 ⟨z13, rfl, ⟨hz13, hy13⟩, hb13⟩)
  |(go_at_call 33; (with_reducible refine (psame_t _ _ (HF5.out.below (zdj (by assumption))) (HF7.out.below (zdj (by assumption))) (by decide +kernel) rfl).mono ?_); rintro e14 w14 ⟨rfl, hb14⟩)
  |(go_at_call 25; (with_reducible refine (awake20_any _).mono ?_); rintro e15 w15 ⟨rfl, hb15⟩))
 all_goals
  have hEnd := zdj (by assumption)
  go_wp2_with fail
  go_ret
  exact ⟨rfl, zaa HB1.out hEnd⟩
end Go.Proofs.YtlpdkbmmbdfoiaaGreat
