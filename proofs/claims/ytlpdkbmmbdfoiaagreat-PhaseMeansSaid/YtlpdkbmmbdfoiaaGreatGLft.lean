/-
  Lifting a law: what came in reads as it did in every later world that only adds to the first; small integers that came in. No law is named here.
-/
import Derived.Test.YtlpdkbmmbdfoiaaGreatGRb7
import Derived.Test.YtlpdkbmmbdfoiaaGreatFPk0
import Derived.Test.YtlpdkbmmbdfoiaaGreatFOr2
import Derived.Test.YtlpdkbmmbdfoiaaGreatGPh12
import Derived.Test.YtlpdkbmmbdfoiaaGreatGPh24
import Derived.Test.YtlpdkbmmbdfoiaaGreatGPx1
import Derived.Test.YtlpdkbmmbdfoiaaGreatFOwR
import Derived.Test.YtlpdkbmmbdfoiaaGreatRows
import Derived.WalkKit
import Derived.ProofKit
import Derived.OpenShut
import Derived.ChangeSlices
set_option linter.unusedVariables false
set_option linter.unusedSimpArgs false
namespace Go.Proofs.YtlpdkbmmbdfoiaaGreat
open Go.RowKit
set_option maxRecDepth 100000 in
set_option maxHeartbeats 1600000 in
theorem r2sub_can (va vb : Value) (p q : Rat) (w : World) (ha : zqa w va p) (hb : zqa w vb q) (hp : fits p) (hq : fits q) (hf : fits (p - q)) : Calls Tryz.prog 39 #[va, vb] w (RF0 w (p - q)) := by
 obtain ⟨ta, x0, y0, rfl, ⟨a1, a2, a3, rfl, _⟩, ⟨a4, a5, a6, rfl, _⟩⟩ := ha.isF
 obtain ⟨tb, x1, y1, rfl, ⟨b1, b2, b3, rfl, _⟩, ⟨b4, b5, b6, rfl, _⟩⟩ := hb.isF
 obtain ⟨hA, hB, hR, hbw⟩ := zmc w 38 (.bool ta) (.slice a1 a2 a3) (.slice a4 a5 a6) (.bool tb) (.slice b1 b2 b3) (.slice b4 b5 b6) (.bool false) (.slice none 0 0) (.slice none 0 0) _ rfl
 have HA := zH (ha.below hbw)
 have HB := zH (hb.below hbw)
 have HC1 := zH hA
 have HC2 := zH hB
 have HC3 := zH hR
 have HBW := zH hbw
 have HN : Hid (fits (-q)) := zH ⟨by rw [Rat.neg_num, Int.natAbs_neg]; exact hq.1, hq.2⟩
 have HP := zH hp
 have HE : Hid (p + -q = p - q) := zH (Rat.sub_eq_add_neg p q).symm
 have HF : Hid (fits (p + -q)) := zH (by rw [HE.out]; exact hf)
 rw [← HE.out]
 clear hA hB hR hbw ha hb hp hq hf
 go_enter Tryz.func39, Tryz.ntmps39
 go_upto_region 1 with fail
 generalize ((w.alloc (.cells #[.bool ta, .slice a1 a2 a3, .slice a4 a5 a6] 38)).alloc (.cells #[.bool tb, .slice b1 b2 b3, .slice b4 b5 b6] 38)).alloc (.cells #[.bool false, .slice none 0 0, .slice none 0 0] 38) = W2 at *
 obtain ⟨_, c0, c1, c2, _, _, _⟩ := HC1.out
 obtain ⟨_, d0, d1, d2, _, _, _⟩ := HC2.out
 have hbD := zja (B := W2.heap.size) W2
 have HAD := zH (HA.out.below hbD)
 have HBD := zH (HB.out.below hbD)
 have HRD := zH (HC3.out.belowS hbD)
 have HWD := zH (zaa HBW.out hbD)
 refine wpL.start 6 (fun w' => w'.cell? ⟨w.heap.size, 0, none⟩ = some (.bool ta) ∧ w'.cell? ⟨w.heap.size, 1, none⟩ = some (.slice a1 a2 a3) ∧ w'.cell? ⟨w.heap.size, 2, none⟩ = some (.slice a4 a5 a6) ∧ w'.cell? ⟨w.heap.size + 1, 0, none⟩ = some (.bool tb) ∧ w'.cell? ⟨w.heap.size + 1, 1, none⟩ = some (.slice b1 b2 b3) ∧ w'.cell? ⟨w.heap.size + 1, 2, none⟩ = some (.slice b4 b5 b6)) (by kernel_rfl) ⟨zba hbD c0, zba hbD c1, zba hbD c2, zba hbD d0, zba hbD d1, zba hbD d2⟩ (fun hHeld => ?_)
 clear c0 c1 c2 d0 d1 d2 hbD HA HB HC1 HC2 HC3 HBW
 generalize W2.drew = wd at *
 refine wpL.t 0 ?_
 refine wpL.t 1 ?_
 (refine wpL.oo 2 ?_; intro K hK)
 refine zxa 105 #[.agg #[.bool tb, .slice b1 b2 b3, .slice b4 b5 b6]] ?_ ?_ (r2opp_can _ _ _ HBD.out) ?_
 ·rfl
 ·go_simp
 rintro e7 w7 ⟨v7, rfl, hv7, hb7⟩
 have hH7 := And.intro (zba hb7 hHeld.1) (And.intro (zba hb7 hHeld.2.1) (And.intro (zba hb7 hHeld.2.2.1) (And.intro (zba hb7 hHeld.2.2.2.1) (And.intro (zba hb7 hHeld.2.2.2.2.1) (zba hb7 hHeld.2.2.2.2.2)))))
 refine ⟨_, rfl, ?_⟩
 refine hK.out _ _ (fun _ => hH7) ?_
 have HA7 := zH (HAD.out.below hb7)
 have HR7 := zH (HRD.out.belowS hb7)
 have HW7 := zH (zaa HWD.out hb7)
 clear hK K hHeld HAD HBD HRD HWD hb7
 try simp only [Act.put, List.setIfInBounds_toArray, List.set_cons_zero, List.set_cons_succ]
 (refine wpL.oo 3 ?_; intro K hK)
 refine zxa 19 #[.agg #[.bool ta, .slice a1 a2 a3, .slice a4 a5 a6], v7] ?_ ?_ (r2add_can _ _ _ _ _ HA7.out hv7 HP.out HN.out HF.out) ?_
 ·rfl
 ·go_simp
 rintro e8 w8 ⟨v8, rfl, hv8, hb8⟩
 obtain ⟨t8, x8, y8, rfl, ⟨a81, l81, k81, rfl, _⟩, ⟨a82, l82, k82, rfl, _⟩⟩ := hv8.isF
 have hH8 := And.intro (zba hb8 hH7.1) (And.intro (zba hb8 hH7.2.1) (And.intro (zba hb8 hH7.2.2.1) (And.intro (zba hb8 hH7.2.2.2.1) (And.intro (zba hb8 hH7.2.2.2.2.1) (zba hb8 hH7.2.2.2.2.2)))))
 refine ⟨_, rfl, ?_⟩
 refine hK.out _ _ (fun _ => hH8) ?_
 have HR8 := zH (HR7.out.belowS hb8)
 have HW8 := zH (zaa HW7.out hb8)
 clear hK K hH7 HA7 HR7 HW7 hb8
 try simp only [Act.put, List.setIfInBounds_toArray, List.set_cons_zero, List.set_cons_succ]
 have hHeld := hH8
 refine wpL.u 4 ?_
 refine wpL.u 5 ?_
 clear hHeld
 obtain ⟨_, g0, g1, g2, f0, f1, f2⟩ := HR8.out
 (refine wpL.oo 6 ?_; intro K hK)
 rw [if_pos (by rfl)]
 go_simp
 refine hK.out _ _ (fun h => by first | cases h | simp at h) ?_
 clear hK K hH8 g0 g1 g2 f0 f1 f2
 try simp only [Act.put, List.setIfInBounds_toArray, List.set_cons_zero, List.set_cons_succ]
 (refine wpL.oo 7 ?_; intro K hK)
 rw [if_pos (by rfl)]
 go_simp
 refine hK.out _ _ (fun h => by first | cases h | simp at h) ?_
 clear hK K
 refine wpL.done (by kernel_rfl) ?_ _
 try simp only [Act.put, List.setIfInBounds_toArray, List.set_cons_zero, List.set_cons_succ]
 go_wp2_with fail
 refine zoa rfl rfl Tryz.aggF Tryz.sizeF (HR8.out.set _ _ _) rfl ?_
 exact ⟨_, rfl, hv8.set3 HR8.out (fun z => by simp) (fun z => by simp) _ _ _, zga HW8.out (Nat.le_trans (Nat.le_succ _) (Nat.le_succ _)) _ _ _⟩
theorem pr_bounds {n d : Nat} (h : n < d) (hd : d ≤ 256) : 0 ≤ fq false n d ∧ fq false n d ≤ 1 ∧ over d 256 (fq false n d) ∧ mid (fq false n d) ∧ mid (1 - fq false n d) := by
 have hd0 : d ≠ 0 := by omega
 have hov : over d 256 (fq false n d) := by
  refine ⟨(n : Int), ?_, by rw [Int.natAbs_natCast]; omega⟩
  unfold fq sgn
  rw [if_neg (by decide)]
 have hq : over d (256 + 256) (1 - fq false n d) := over.sub hd0 ((over.one hd0).mono hd) hov
 have h1 : ¬ fq false n d < 0 := of_decide_eq_false (fq_neg false n d hd0)
 have h2 : 1 - fq false n d = fq false (d - n) d := by
  unfold fq sgn
  rw [if_neg (by decide), if_neg (by decide), Rat.mkRat_eq_div, Rat.mkRat_eq_div, Rat.div_def, Rat.div_def]
  have e1 : ((d : Int) : Rat) * ((d : Int) : Rat)⁻¹ = 1 := Rat.mul_inv_cancel _ (fun e => hd0 (by have := Rat.intCast_eq_zero_iff.1 e; omega))
  have e2 : (((d - n : Nat) : Int) : Rat) = ((d : Int) : Rat) - ((n : Int) : Rat) := by
   have : ((d - n : Nat) : Int) = (d : Int) - (n : Int) := by omega
   rw [this]; push_cast; rfl
  rw [e2]
  generalize ((d : Int) : Rat)⁻¹ = r at *
  grind
 have h3 : ¬ fq false (d - n) d < 0 := of_decide_eq_false (fq_neg false (d - n) d hd0)
 rw [← h2] at h3
 have p1 : d < 2 ^ 240 := Nat.lt_of_le_of_lt hd (by decide +kernel)
 exact ⟨Rat.not_lt.1 h1, by have := Rat.not_lt.1 h3; grind, hov, ⟨_, _, hd0, p1, by decide +kernel, hov⟩, ⟨_, _, hd0, p1, by decide +kernel, hq⟩⟩
structure MeF (a b : LQ) (p mx my ms mm mf : Rat) : Prop where
 fp : fits p
 fq : fits (1 - p)
 fx : fits mx
 fy : fits my
 fs : fits ms
 fm : fits mm
 ff : fits mf
 fxy : fits (mx + my)
 fpx : fits (p * mx)
 fqy : fits ((1 - p) * my)
 fmx : fits (p * mx + (1 - p) * my)
 es : ms = mx + my
 em : mm = p * mx + (1 - p) * my
 lx : mf ≤ mx
 ly : mf ≤ my
 cs : ∀ w va vb, zgm w va a → zgm w vb b → Calls Tryz.prog 35 #[va, vb] w (RLawS w (zno a b))
 cm : ∀ w vp va vb, zqa w vp p → zgm w va a → zgm w vb b → Calls Tryz.prog 56 #[vp, va, vb] w (RLawS w (mixL a b p))
 cf : ∀ w va vb, zgm w va a → zgm w vb b → Calls Tryz.prog 57 #[va, vb] w (RLawS w (firL a b))
 ma : ∀ w vl, zgm w vl a → Calls Tryz.prog 36 #[vl] w (RF0 w mx)
 mb : ∀ w vl, zgm w vl b → Calls Tryz.prog 36 #[vl] w (RF0 w my)
 mS : ∀ w vl, zgm w vl (zno a b) → Calls Tryz.prog 36 #[vl] w (RF0 w ms)
 mM : ∀ w vl, zgm w vl (mixL a b p) → Calls Tryz.prog 36 #[vl] w (RF0 w mm)
 mF : ∀ w vl, zgm w vl (firL a b) → Calls Tryz.prog 36 #[vl] w (RF0 w mf)
 ls : zxb (zno a b)
 lm : zxb (mixL a b p)
 lf : zxb (firL a b)
theorem me_facts {a b : LQ} {n d : Nat} (ha : zch 2 a) (hb : zch 2 b) (h : n < d) (hd : d ≤ 256) : MeF a b (fq false n d) (zfo a 1) (zfo b 1) (zfo (zno a b) 1) (zfo (mixL a b (fq false n d)) 1) (zfo (firL a b) 1) := by
 obtain ⟨h0, h1, hov, hp, hq⟩ := pr_bounds h hd
 have hd0 : d ≠ 0 := by omega
 have pa := ha.law (by decide)
 have pb := hb.law (by decide)
 have ls := zap ha hb
 have lm := mix_law ha hb hd0 hd hov h0 h1
 have lf := fir_law ha hb
 have ma := tape_mid ha
 have mb := tape_mid hb
 have sm := sum_mom ha hb
 have mm := mix_mom ha hb hd0 hd hov h0 h1
 have fm := fir_mom ha hb
 have fl := fir_mean pa pb lf
 exact ⟨hp.fits, hq.fits, ma.1.fits, mb.1.fits, mom_fits sm.1 rfl, mom_fits mm rfl, mom_fits fm rfl, ma.1.add_fits mb.1, hp.mul_fits ma.1, hq.mul_fits mb.1, hp.mix_fits ma.1 hq mb.1, sum_mean pa pb ls, mix_mean pa pb lm, fl.1, fl.2,
  fun w va vb h1 h2 => psum_any va vb a b w h1 h2 pa pb (lenN ha hb).1 ls, fun w vp va vb h3 h4 h5 => pmix_any vp va vb _ a b w h3 h4 h5 pa pb (lenN ha hb).1 hp.fits hq.fits h0 h1 lm, fun w va vb h1 h2 => pfir_any va vb a b w h1 h2 pa pb (lenN ha hb).2 lf,
  fun w vl h => zep vl _ w h.lawC pa (tape_mom ha).1, fun w vl h => zep vl _ w h.lawC pb (tape_mom hb).1, fun w vl h => zep vl _ w h.lawC ls sm.1, fun w vl h => zep vl _ w h.lawC lm mm, fun w vl h => zep vl _ w h.lawC lf fm, ls, lm, lf⟩
theorem pr2order_can (va vb : Value) (p q : Rat) (w : World) (ha : zqa w va p) (hb : zqa w vb q) (hp : fits p) (hq : fits q) :
 Calls Tryz.prog 100 #[va, vb] w fun en w' => en = .returned (.int .i64 (cmpR p q)) ∧ Below w.heap.size w w' := by
 have h := ztk va vb _ _ _ _ _ _ w ha.raw hb.raw (zuc hp) (zuc hq)
 rw [zvb, zvb] at h
 exact h
set_option maxHeartbeats 800000 in
theorem pr2less_can (va vb : Value) (p q : Rat) (w : World) (ha : zqa w va p) (hb : zqa w vb q) (hp : fits p) (hq : fits q) :
 Calls Tryz.prog 50 #[va, vb] w fun en w' => en = .returned (.bool (decide (cmpR p q < 0))) ∧ Below w.heap.size w w' := by
 obtain ⟨t1, x1, y1, rfl, ⟨a11, l11, k11, rfl, _⟩, ⟨a12, l12, k12, rfl, _⟩⟩ := ha.isF
 obtain ⟨t2, x2, y2, rfl, ⟨a21, l21, k21, rfl, _⟩, ⟨a22, l22, k22, rfl, _⟩⟩ := hb.isF
 have b1 := zca w (.cells #[.bool t1, .slice a11 l11 k11, .slice a12 l12 k12] 38)
 have b2 := zca (w.alloc (.cells #[.bool t1, .slice a11 l11 k11, .slice a12 l12 k12] 38)) (.cells #[.bool t2, .slice a21 l21 k21, .slice a22 l22 k22] 38)
 have HB := zH (zaa b1 b2)
 have HX := zH (ha.below HB.out)
 have HY := zH (hb.below HB.out)
 have HP := zH hp
 have HQ := zH hq
 clear ha hb hp hq b1 b2
 go_enter Tryz.func50, Tryz.ntmps50
 go_wp2_with (go_at_call 100; (with_reducible refine (pr2order_can _ _ p q _ HX.out HY.out HP.out HQ.out).mono ?_); rintro e3 w3 ⟨rfl, hb3⟩)
 go_ret
 exact ⟨rfl, zaa HB.out hb3⟩
theorem pless_f (va vb : Value) {p q : Rat} {w : World} (ha : zqa w va p) (hb : zqa w vb q) (hp : fits p) (hq : fits q) (h : q ≤ p) : Calls Tryz.prog 50 #[va, vb] w fun en w' => en = .returned (.bool false) ∧ Below w.heap.size w w' := by
 refine (pr2less_can va vb p q w ha hb hp hq).mono ?_
 rintro e w' ⟨rfl, hb⟩
 exact ⟨by rw [decide_eq_false (fun hh => absurd ((cmpR_lt p q).1 hh) (Rat.not_lt.2 h))], hb⟩
set_option maxRecDepth 100000 in
set_option maxHeartbeats 1600000 in
theorem pnamed_any (va : Value) (l : LQ) (w : World) (ha : zgm w va l) : Calls Tryz.prog 59 #[va] w (fun e w' => ∃ v, e = .returned v ∧ zhm w' v l ∧ Below w.heap.size w w') := by
 obtain ⟨svA, rvA, evA, rfl, hsA, hrA, heA⟩ := ha
 obtain ⟨saA, snA, skA, rfl, -⟩ := id hsA.sl
 obtain ⟨raA, rnA, rkA, rfl, -⟩ := id hrA.sl
 obtain ⟨eaA, enA, ekA, rfl, -⟩ := id heA.sl
 obtain ⟨hc1, hc2, hbw⟩ := law_box2 w 52 (.string { data := #[] }) (.slice saA snA skA) (.slice raA rnA rkA) (.slice eaA enA ekA) (.string { data := #[] }) (.slice none 0 0) (.slice none 0 0) (.slice none 0 0)
 have HC1 := zH hc1
 have HC2 := zH hc2
 have HBW := zH hbw
 have HS := zH hsA
 have HR := zH hrA
 have HE := zH heA
 clear hc1 hc2 hbw hsA hrA heA
 go_enter Tryz.func59, Tryz.ntmps59
 go_upto_region 1 with fail
 generalize (w.alloc (.cells #[.string { data := #[] }, .slice saA snA skA, .slice raA rnA rkA, .slice eaA enA ekA] 52)).alloc (.cells #[.string { data := #[] }, .slice none 0 0, .slice none 0 0, .slice none 0 0] 52) = W2 at *
 obtain ⟨-, c0, c1, c2, c3, f0, f1, f2, f3⟩ := HC1.out
 have hx1 : C4 (W2.setCell ⟨w.heap.size, 0, none⟩ (.string { data := #[120] })) w.heap.size (.string { data := #[120] }) (.slice saA snA skA) (.slice raA rnA rkA) (.slice eaA enA ekA) := by
  have hl := HC1.out.lt
  refine ⟨by simpa [World.setCell] using hl, ?_, ?_, ?_, ?_, ?_, ?_, ?_, ?_⟩ <;> go_simp
 have hne : (⟨w.heap.size, 0, none⟩ : Addr).block ≠ w.heap.size + 1 := by show w.heap.size ≠ w.heap.size + 1; omega
 have hx2 := HC2.out.other hne (.string { data := #[120] })
 have HB2 : Hid (Below w.heap.size w (W2.setCell ⟨w.heap.size, 0, none⟩ (.string { data := #[120] }))) := zH (HBW.out.setCell (p := ⟨w.heap.size, 0, none⟩) (Nat.le_refl _) _)
 go_upto_region 2 with fail
 generalize W2.setCell ⟨w.heap.size, 0, none⟩ (.string { data := #[120] }) = W3 at *
 clear c0 c1 c2 c3 f0 f1 f2 f3
 obtain ⟨-, c0, c1, c2, c3, -, -, -, -⟩ := id hx1
 obtain ⟨-, d0, d1, d2, d3, f0, f1, f2, f3⟩ := id hx2
 go_wp2_with fail
 refine zvl rfl rfl Tryz.aggL Tryz.sizeL (hx2.set _ _ _ _) rfl ?_
 have hb := zqd HB2.out (b := w.heap.size + 1) (Nat.le_succ _) (.string { data := #[120] }) (.slice saA snA skA) (.slice raA rnA rkA) (.slice eaA enA ekA)
 exact ⟨_, rfl, ⟨_, _, _, _, rfl, HS.out.below hb, HR.out.below hb, HE.out.below hb⟩, hb⟩
set_option maxRecDepth 100000 in
set_option maxHeartbeats 12800000 in
theorem pmeans_any (v : Value) (l : List Nat) (x y : Nat) (w : World) (h : zhc w v (bytes l)) (hb : ∀ x ∈ l, x < 256) (hx : x < 256) (hy : y < 256) : Calls Tryz.prog 13 #[v, .int .u8 (x : Nat), .int .u8 (y : Nat)] w (fun e w' => e = .returned (.bool true) ∧ Below w.heap.size w w') := by
 have HV := zH h
 have HB := zH (Below.refl w.heap.size w)
 have HX := zH hx
 have HY := zH hy
 have sv := zhc.sl h
 clear h hx hy
 go_enter Tryz.func13, Tryz.ntmps13
 go_upto_region 2 with (first
  |(go_at_call 31; (with_reducible refine (tpair_any _ l _ HV.out hb).mono ?_); rintro e1 w1 ⟨va, vb, a, b, rfl, hva, hvb, hla, hlb, hb1⟩
    obtain ⟨saA, snA, skA, raA, rnA, rkA, eaA, enA, ekA, rfl⟩ := hva.slices2
    obtain ⟨saB, snB, skB, raB, rnB, rkB, eaB, enB, ekB, rfl⟩ := hvb.slices2
    have hba := zca w1 (.cells #[.string { data := #[] }, .slice saA snA skA, .slice raA rnA rkA, .slice eaA enA ekA] 52)
    have hbb := zca (w1.alloc (.cells #[.string { data := #[] }, .slice saA snA skA, .slice raA rnA rkA, .slice eaA enA ekA] 52)) (.cells #[.string { data := #[] }, .slice saB snB skB, .slice raB rnB rkB, .slice eaB enB ekB] 52)
    have hz1 : (w1.alloc (.cells #[.string { data := #[] }, .slice saA snA skA, .slice raA rnA rkA, .slice eaA enA ekA] 52)).heap.size = w1.heap.size + 1 := by show (w1.heap.push _).size = _; rw [Array.size_push]
    have HC1 := zH ((C4.new w1 52 (.string { data := #[] }) (.slice saA snA skA) (.slice raA rnA rkA) (.slice eaA enA ekA)).belowS hbb)
    have hc2 := C4.new (w1.alloc (.cells #[.string { data := #[] }, .slice saA snA skA, .slice raA rnA rkA, .slice eaA enA ekA] 52)) 52 (.string { data := #[] }) (.slice saB snB skB) (.slice raB rnB rkB) (.slice eaB enB ekB)
    rw [hz1] at hc2
    have HC2 := zH hc2
    have hbc := zaa hba hbb
    have HVA := zH (hva.below hbc)
    have HVB := zH (hvb.below hbc)
    have HB1 := zH (zaa hb1 hbc)
    have HLA := zH hla
    have HLB := zH hlb
    clear hva hvb hb1 hba hbb hz1 hc2 hbc hla hlb))
 clear HB HV sv hb
 obtain ⟨k1, hk1⟩ : ∃ b, w1.heap.size = b := ⟨_, rfl⟩
 rw [hk1] at HC1 HC2 ⊢
 clear hk1
 generalize (w1.alloc (.cells #[.string { data := #[] }, .slice saA snA skA, .slice raA rnA rkA, .slice eaA enA ekA] 52)).alloc (.cells #[.string { data := #[] }, .slice saB snB skB, .slice raB rnB rkB, .slice eaB enB ekB] 52) = W1 at *
 have hx8 := HX.out
 have hy8 := HY.out
 have tok9 : True := trivial
 obtain ⟨n, hn⟩ : ∃ n, min x y = n := ⟨_, rfl⟩
 have hnd : n < y + 1 := by omega
 have hmin : (if y < x then (y : Int) else (x : Int)) = ((n : Nat) : Int) := by split <;> omega
 have hmin2 : (if y < x then Value.int .u8 (y : Int) else Value.int .u8 (x : Int)) = Value.int .u8 ((n : Nat) : Int) := by split <;> (congr 1; omega)
 obtain ⟨p, mx, my, ms, mm, mf, hp, hF⟩ : ∃ p mx my ms mm mf, fq false n (y + 1) = p ∧ MeF a b p mx my ms mm mf := ⟨_, _, _, _, _, _, rfl, me_facts HLA.out HLB.out hnd (by omega)⟩
 have HM := zH hF
 have HMK : Hid (∀ w0, Calls Tryz.prog 18 #[.int .i64 ((n : Nat) : Int), .int .i64 ((y : Int) + 1)] w0 (RF0 w0 p)) := zH (fun w0 => by rw [← hp]; exact zfp n (y + 1) _ _ w0 (by omega) (by omega) (by omega) (by omega) (by omega))
 clear hF hp hnd hn
 go_upto_region 3 with (first
  |(go_at_call 18; (with_reducible refine ((HMK.out _)).mono ?_); rintro e9 w9 ⟨v9, rfl, hv9, hb9⟩
    clear tok9
    obtain ⟨t9, x9, y9, rfl, ⟨a91, l91, k91, rfl, _⟩, ⟨a92, l92, k92, rfl, _⟩⟩ := hv9.isF
    have hba := zca w9 (.cells #[.bool t9, .slice a91 l91 k91, .slice a92 l92 k92] 38)
    have hbb := zaa hb9 hba
    have HC9 := zH (C3.new w9 38 (.bool t9) (.slice a91 l91 k91) (.slice a92 l92 k92))
    have HF9 := zH (hv9.below hba)
    replace HB1 := zH (zaa HB1.out hbb); replace HC1 := zH (HC1.out.belowS hbb); replace HC2 := zH (HC2.out.belowS hbb); replace HVA := zH (HVA.out.below hbb); replace HVB := zH (HVB.out.below hbb)
    clear hv9 hb9 hba hbb))
 obtain ⟨b9, hb9⟩ : ∃ b, w9.heap.size = b := ⟨_, rfl⟩
 rw [hb9] at HC9 ⊢
 clear hb9
 generalize w9.alloc (.cells #[.bool t9, .slice a91 l91 k91, .slice a92 l92 k92] 38) = W9 at *
 clear hx8 hy8 hmin hmin2
 obtain ⟨-, c0, c1, c2, c3, -, -, -, -⟩ := HC1.out
 go_upto_region 4 with (first
  |(go_at_call 36; (with_reducible refine ((HM.out.ma _ _ HVA.out)).mono ?_); rintro e11 w11 ⟨v11, rfl, hv11, hb11⟩
    clear c0 c1 c2 c3
    obtain ⟨t11, x11, y11, rfl, ⟨a111, l111, k111, rfl, _⟩, ⟨a112, l112, k112, rfl, _⟩⟩ := hv11.isF
    have hba := zca w11 (.cells #[.bool t11, .slice a111 l111 k111, .slice a112 l112 k112] 38)
    have hbb := zaa hb11 hba
    have HC11 := zH (C3.new w11 38 (.bool t11) (.slice a111 l111 k111) (.slice a112 l112 k112))
    have HF11 := zH (hv11.below hba)
    replace HB1 := zH (zaa HB1.out hbb); replace HC1 := zH (HC1.out.belowS hbb); replace HC2 := zH (HC2.out.belowS hbb); replace HVA := zH (HVA.out.below hbb); replace HVB := zH (HVB.out.below hbb); replace HC9 := zH (HC9.out.belowS hbb); replace HF9 := zH (HF9.out.below hbb)
    clear hv11 hb11 hba hbb))
 obtain ⟨b11, hb11⟩ : ∃ b, w11.heap.size = b := ⟨_, rfl⟩
 rw [hb11] at HC11 ⊢
 clear hb11
 generalize w11.alloc (.cells #[.bool t11, .slice a111 l111 k111, .slice a112 l112 k112] 38) = W11 at *
 obtain ⟨-, d0, d1, d2, d3, -, -, -, -⟩ := HC2.out
 go_upto_region 5 with (first
  |(go_at_call 36; (with_reducible refine ((HM.out.mb _ _ HVB.out)).mono ?_); rintro e13 w13 ⟨v13, rfl, hv13, hb13⟩
    clear d0 d1 d2 d3
    obtain ⟨t13, x13, y13, rfl, ⟨a131, l131, k131, rfl, _⟩, ⟨a132, l132, k132, rfl, _⟩⟩ := hv13.isF
    have hba := zca w13 (.cells #[.bool t13, .slice a131 l131 k131, .slice a132 l132 k132] 38)
    have hbb := zaa hb13 hba
    have HC13 := zH (C3.new w13 38 (.bool t13) (.slice a131 l131 k131) (.slice a132 l132 k132))
    have HF13 := zH (hv13.below hba)
    replace HB1 := zH (zaa HB1.out hbb); replace HC1 := zH (HC1.out.belowS hbb); replace HC2 := zH (HC2.out.belowS hbb); replace HVA := zH (HVA.out.below hbb); replace HVB := zH (HVB.out.below hbb); replace HC9 := zH (HC9.out.belowS hbb); replace HF9 := zH (HF9.out.below hbb); replace HC11 := zH (HC11.out.belowS hbb); replace HF11 := zH (HF11.out.below hbb)
    clear hv13 hb13 hba hbb))
 obtain ⟨b13, hb13⟩ : ∃ b, w13.heap.size = b := ⟨_, rfl⟩
 rw [hb13] at HC13 ⊢
 clear hb13
 generalize w13.alloc (.cells #[.bool t13, .slice a131 l131 k131, .slice a132 l132 k132] 38) = W13 at *
 obtain ⟨-, c0, c1, c2, c3, -, -, -, -⟩ := HC1.out
 obtain ⟨-, d0, d1, d2, d3, -, -, -, -⟩ := HC2.out
 go_upto_region 6 with (first
  |(go_at_call 35; (with_reducible refine ((HM.out.cs _ _ _ HVA.out HVB.out)).mono ?_); rintro e15 w15 ⟨v15, rfl, hv15, hb15⟩
    clear c0 c1 c2 c3 d0 d1 d2 d3
    obtain ⟨s15, n15, k15, r15, m15, j15, e15, o15, i15, rfl⟩ := hv15.slices2
    have hba := zca w15 (.cells #[.string { data := #[] }, .slice s15 n15 k15, .slice r15 m15 j15, .slice e15 o15 i15] 52)
    have hbb := zaa hb15 hba
    have HC15 := zH (C4.new w15 52 (.string { data := #[] }) (.slice s15 n15 k15) (.slice r15 m15 j15) (.slice e15 o15 i15))
    have HV15 := zH (hv15.below hba)
    replace HB1 := zH (zaa HB1.out hbb); replace HC1 := zH (HC1.out.belowS hbb); replace HC2 := zH (HC2.out.belowS hbb); replace HVA := zH (HVA.out.below hbb); replace HVB := zH (HVB.out.below hbb); replace HC9 := zH (HC9.out.belowS hbb); replace HF9 := zH (HF9.out.below hbb); replace HC11 := zH (HC11.out.belowS hbb); replace HF11 := zH (HF11.out.below hbb); replace HC13 := zH (HC13.out.belowS hbb); replace HF13 := zH (HF13.out.below hbb)
    clear hv15 hb15 hba hbb))
 obtain ⟨b15, hb15⟩ : ∃ b, w15.heap.size = b := ⟨_, rfl⟩
 rw [hb15] at HC15 ⊢
 clear hb15
 generalize w15.alloc (.cells #[.string { data := #[] }, .slice s15 n15 k15, .slice r15 m15 j15, .slice e15 o15 i15] 52) = W15 at *
 obtain ⟨-, c0, c1, c2, c3, -, -, -, -⟩ := HC1.out
 obtain ⟨-, d0, d1, d2, d3, -, -, -, -⟩ := HC2.out
 obtain ⟨_, g0, g1, g2, _, _, _⟩ := HC9.out
 go_upto_region 7 with (first
  |(go_at_call 56; (with_reducible refine ((HM.out.cm _ _ _ _ HF9.out HVA.out HVB.out)).mono ?_); rintro e17 w17 ⟨v17, rfl, hv17, hb17⟩
    clear c0 c1 c2 c3 d0 d1 d2 d3 g0 g1 g2
    obtain ⟨s17, n17, k17, r17, m17, j17, e17, o17, i17, rfl⟩ := hv17.slices2
    have hba := zca w17 (.cells #[.string { data := #[] }, .slice s17 n17 k17, .slice r17 m17 j17, .slice e17 o17 i17] 52)
    have hbb := zaa hb17 hba
    have HC17 := zH (C4.new w17 52 (.string { data := #[] }) (.slice s17 n17 k17) (.slice r17 m17 j17) (.slice e17 o17 i17))
    have HV17 := zH (hv17.below hba)
    replace HB1 := zH (zaa HB1.out hbb); replace HC1 := zH (HC1.out.belowS hbb); replace HC2 := zH (HC2.out.belowS hbb); replace HVA := zH (HVA.out.below hbb); replace HVB := zH (HVB.out.below hbb); replace HC9 := zH (HC9.out.belowS hbb); replace HF9 := zH (HF9.out.below hbb); replace HC11 := zH (HC11.out.belowS hbb); replace HF11 := zH (HF11.out.below hbb); replace HC13 := zH (HC13.out.belowS hbb); replace HF13 := zH (HF13.out.below hbb); replace HC15 := zH (HC15.out.belowS hbb); replace HV15 := zH (HV15.out.below hbb)
    clear hv17 hb17 hba hbb))
 obtain ⟨b17, hb17⟩ : ∃ b, w17.heap.size = b := ⟨_, rfl⟩
 rw [hb17] at HC17 ⊢
 clear hb17
 generalize w17.alloc (.cells #[.string { data := #[] }, .slice s17 n17 k17, .slice r17 m17 j17, .slice e17 o17 i17] 52) = W17 at *
 obtain ⟨-, c0, c1, c2, c3, -, -, -, -⟩ := HC1.out
 obtain ⟨-, d0, d1, d2, d3, -, -, -, -⟩ := HC2.out
 go_upto_region 10 with (first
  |(go_at_call 57; (with_reducible refine ((HM.out.cf _ _ _ HVA.out HVB.out)).mono ?_); rintro e19 w19 ⟨v19, rfl, hv19, hb19⟩
    clear c0 c1 c2 c3 d0 d1 d2 d3
    obtain ⟨s19, n19, k19, r19, m19, j19, e19, o19, i19, rfl⟩ := hv19.slices2
    have hba := zca w19 (.cells #[.string { data := #[] }, .slice s19 n19 k19, .slice r19 m19 j19, .slice e19 o19 i19] 52)
    have hbb := zaa hb19 hba
    have HC19 := zH (C4.new w19 52 (.string { data := #[] }) (.slice s19 n19 k19) (.slice r19 m19 j19) (.slice e19 o19 i19))
    have HV19 := zH (hv19.below hba)
    replace HB1 := zH (zaa HB1.out hbb); replace HC9 := zH (HC9.out.belowS hbb); replace HF9 := zH (HF9.out.below hbb); replace HC11 := zH (HC11.out.belowS hbb); replace HF11 := zH (HF11.out.below hbb); replace HC13 := zH (HC13.out.belowS hbb); replace HF13 := zH (HF13.out.below hbb); replace HC15 := zH (HC15.out.belowS hbb); replace HV15 := zH (HV15.out.below hbb); replace HC17 := zH (HC17.out.belowS hbb); replace HV17 := zH (HV17.out.below hbb)
    clear hv19 hb19 hba hbb))
 obtain ⟨b19, hb19⟩ : ∃ b, w19.heap.size = b := ⟨_, rfl⟩
 rw [hb19] at HC19 ⊢
 clear hb19
 generalize w19.alloc (.cells #[.string { data := #[] }, .slice s19 n19 k19, .slice r19 m19 j19, .slice e19 o19 i19] 52) = W19 at *
 clear HC1 HC2 HVA HVB
 obtain ⟨-, c0, c1, c2, c3, -, -, -, -⟩ := HC15.out
 go_upto_region 11 with (first
  |(go_at_call 36; (with_reducible refine ((HM.out.mS _ _ HV15.out)).mono ?_); rintro e21 w21 ⟨v21, rfl, hv21, hb21⟩
    clear c0 c1 c2 c3
    obtain ⟨t21, x21, y21, rfl, ⟨a211, l211, k211, rfl, _⟩, ⟨a212, l212, k212, rfl, _⟩⟩ := hv21.isF
    have hba := zca w21 (.cells #[.bool t21, .slice a211 l211 k211, .slice a212 l212 k212] 38)
    have hbb := zaa hb21 hba
    have HC21 := zH (C3.new w21 38 (.bool t21) (.slice a211 l211 k211) (.slice a212 l212 k212))
    have HF21 := zH (hv21.below hba)
    replace HB1 := zH (zaa HB1.out hbb); replace HC9 := zH (HC9.out.belowS hbb); replace HF9 := zH (HF9.out.below hbb); replace HC11 := zH (HC11.out.belowS hbb); replace HF11 := zH (HF11.out.below hbb); replace HC13 := zH (HC13.out.belowS hbb); replace HF13 := zH (HF13.out.below hbb); replace HC15 := zH (HC15.out.belowS hbb); replace HV15 := zH (HV15.out.below hbb); replace HC17 := zH (HC17.out.belowS hbb); replace HV17 := zH (HV17.out.below hbb); replace HC19 := zH (HC19.out.belowS hbb); replace HV19 := zH (HV19.out.below hbb)
    clear hv21 hb21 hba hbb))
 obtain ⟨b21, hb21⟩ : ∃ b, w21.heap.size = b := ⟨_, rfl⟩
 rw [hb21] at HC21 ⊢
 clear hb21
 generalize w21.alloc (.cells #[.bool t21, .slice a211 l211 k211, .slice a212 l212 k212] 38) = W21 at *
 obtain ⟨-, c0, c1, c2, c3, -, -, -, -⟩ := HC17.out
 go_upto_region 12 with (first
  |(go_at_call 36; (with_reducible refine ((HM.out.mM _ _ HV17.out)).mono ?_); rintro e22 w22 ⟨v22, rfl, hv22, hb22⟩
    clear c0 c1 c2 c3
    obtain ⟨t22, x22, y22, rfl, ⟨a221, l221, k221, rfl, _⟩, ⟨a222, l222, k222, rfl, _⟩⟩ := hv22.isF
    have hba := zca w22 (.cells #[.bool t22, .slice a221 l221 k221, .slice a222 l222 k222] 38)
    have hbb := zaa hb22 hba
    have HC22 := zH (C3.new w22 38 (.bool t22) (.slice a221 l221 k221) (.slice a222 l222 k222))
    have HF22 := zH (hv22.below hba)
    replace HB1 := zH (zaa HB1.out hbb); replace HC9 := zH (HC9.out.belowS hbb); replace HF9 := zH (HF9.out.below hbb); replace HC11 := zH (HC11.out.belowS hbb); replace HF11 := zH (HF11.out.below hbb); replace HC13 := zH (HC13.out.belowS hbb); replace HF13 := zH (HF13.out.below hbb); replace HC15 := zH (HC15.out.belowS hbb); replace HV15 := zH (HV15.out.below hbb); replace HC17 := zH (HC17.out.belowS hbb); replace HV17 := zH (HV17.out.below hbb); replace HC19 := zH (HC19.out.belowS hbb); replace HV19 := zH (HV19.out.below hbb); replace HC21 := zH (HC21.out.belowS hbb); replace HF21 := zH (HF21.out.below hbb)
    clear hv22 hb22 hba hbb))
 obtain ⟨b22, hb22⟩ : ∃ b, w22.heap.size = b := ⟨_, rfl⟩
 rw [hb22] at HC22 ⊢
 clear hb22
 generalize w22.alloc (.cells #[.bool t22, .slice a221 l221 k221, .slice a222 l222 k222] 38) = W22 at *
 obtain ⟨-, c0, c1, c2, c3, -, -, -, -⟩ := HC19.out
 go_upto_region 15 with (first
  |(go_at_call 36; (with_reducible refine ((HM.out.mF _ _ HV19.out)).mono ?_); rintro e23 w23 ⟨v23, rfl, hv23, hb23⟩
    clear c0 c1 c2 c3
    obtain ⟨t23, x23, y23, rfl, ⟨a231, l231, k231, rfl, _⟩, ⟨a232, l232, k232, rfl, _⟩⟩ := hv23.isF
    have hba := zca w23 (.cells #[.bool t23, .slice a231 l231 k231, .slice a232 l232 k232] 38)
    have hbb := zaa hb23 hba
    have HC23 := zH (C3.new w23 38 (.bool t23) (.slice a231 l231 k231) (.slice a232 l232 k232))
    have HF23 := zH (hv23.below hba)
    replace HB1 := zH (zaa HB1.out hbb); replace HC9 := zH (HC9.out.belowS hbb); replace HF9 := zH (HF9.out.below hbb); replace HC11 := zH (HC11.out.belowS hbb); replace HF11 := zH (HF11.out.below hbb); replace HC13 := zH (HC13.out.belowS hbb); replace HF13 := zH (HF13.out.below hbb); replace HC15 := zH (HC15.out.belowS hbb); replace HV15 := zH (HV15.out.below hbb); replace HC17 := zH (HC17.out.belowS hbb); replace HV17 := zH (HV17.out.below hbb); replace HC19 := zH (HC19.out.belowS hbb); replace HV19 := zH (HV19.out.below hbb); replace HC21 := zH (HC21.out.belowS hbb); replace HF21 := zH (HF21.out.below hbb); replace HC22 := zH (HC22.out.belowS hbb); replace HF22 := zH (HF22.out.below hbb)
    clear hv23 hb23 hba hbb))
 obtain ⟨b23, hb23⟩ : ∃ b, w23.heap.size = b := ⟨_, rfl⟩
 rw [hb23] at HC23 ⊢
 clear hb23
 generalize w23.alloc (.cells #[.bool t23, .slice a231 l231 k231, .slice a232 l232 k232] 38) = W23 at *
 obtain ⟨_, c0, c1, c2, _, _, _⟩ := HC11.out
 obtain ⟨_, d0, d1, d2, _, _, _⟩ := HC13.out
 go_upto_region 16 with (first
  |(go_at_call 19; (with_reducible refine ((r2add_can _ _ mx my _ HF11.out HF13.out HM.out.fx HM.out.fy HM.out.fxy)).mono ?_); rintro e24 w24 ⟨v24, rfl, hv24, hb24⟩
    clear c0 c1 c2 d0 d1 d2
    obtain ⟨t24, x24, y24, rfl, ⟨a241, l241, k241, rfl, _⟩, ⟨a242, l242, k242, rfl, _⟩⟩ := hv24.isF
    have hba := zca w24 (.cells #[.bool t24, .slice a241 l241 k241, .slice a242 l242 k242] 38)
    have hbb := zaa hb24 hba
    have HC24 := zH (C3.new w24 38 (.bool t24) (.slice a241 l241 k241) (.slice a242 l242 k242))
    have HF24 := zH (hv24.below hba)
    replace HB1 := zH (zaa HB1.out hbb); replace HC9 := zH (HC9.out.belowS hbb); replace HF9 := zH (HF9.out.below hbb); replace HC11 := zH (HC11.out.belowS hbb); replace HF11 := zH (HF11.out.below hbb); replace HC13 := zH (HC13.out.belowS hbb); replace HF13 := zH (HF13.out.below hbb); replace HC15 := zH (HC15.out.belowS hbb); replace HV15 := zH (HV15.out.below hbb); replace HC17 := zH (HC17.out.belowS hbb); replace HV17 := zH (HV17.out.below hbb); replace HC19 := zH (HC19.out.belowS hbb); replace HV19 := zH (HV19.out.below hbb); replace HC21 := zH (HC21.out.belowS hbb); replace HF21 := zH (HF21.out.below hbb); replace HC22 := zH (HC22.out.belowS hbb); replace HF22 := zH (HF22.out.below hbb); replace HC23 := zH (HC23.out.belowS hbb); replace HF23 := zH (HF23.out.below hbb)
    clear hv24 hb24 hba hbb))
 obtain ⟨b24, hb24⟩ : ∃ b, w24.heap.size = b := ⟨_, rfl⟩
 rw [hb24] at HC24 ⊢
 clear hb24
 generalize w24.alloc (.cells #[.bool t24, .slice a241 l241 k241, .slice a242 l242 k242] 38) = W24 at *
 obtain ⟨_, g1, g2, g3, _, _, _⟩ := HC9.out
 have S0 := zH (And.intro g1 (And.intro g2 g3))
 clear g1 g2 g3
 go_cut [26, 27] (fun u24 u25 wy => ∃ (b' : Nat) (t' : Bool) (a1 : Option Addr) (l1 k1 : Nat) (a2 : Option Addr) (l2 k2 : Nat), u24 = .pointer (some ⟨b', 0, none⟩) ∧ u25 = .int .i64 0 ∧ W24.heap.size ≤ b' ∧ C3 wy b' (.bool t') (.slice a1 l1 k1) (.slice a2 l2 k2) ∧ zqa wy (.agg #[.bool t', .slice a1 l1 k1, .slice a2 l2 k2]) (1 - p) ∧ Below W24.heap.size W24 wy)
 case first =>
  go_region_held3 (fun w' => w'.cell? ⟨b9, 0, none⟩ = some (.bool t9) ∧ w'.cell? ⟨b9, 1, none⟩ = some (.slice a91 l91 k91) ∧ w'.cell? ⟨b9, 2, none⟩ = some (.slice a92 l92 k92) ∧ Below W24.heap.size W24 w') (first
   | with_reducible exact kp3a S0.out (zja _)
   | with_reducible exact kp3w (by assumption) (zca _ _)
   | with_reducible exact kp3w (by assumption) (by assumption)
   | with_reducible exact kp3a S0.out (zaa hB51 (zca _ _))
   | with_reducible exact kp3s S0.out hB51 (Nat.le_refl _) _ _ _
   | with_reducible exact kp3s S0.out hB51 hB50.size _ _ _) (first
   |(go_at_call 20; (with_reducible refine (r2int_one _).mono ?_); rintro e50 w50 ⟨v50, rfl, hv50, hb50⟩
     obtain ⟨t50, x50, y50, rfl, ⟨a501, l501, k501, rfl, _⟩, ⟨a502, l502, k502, rfl, _⟩⟩ := hv50.isF
     have hB50 := zaa (kp3c (by assumption)) hb50
     have hc4 := (fun (p : Addr) hp => hb50.cell (p := p) hp)
     have hf4 := (fun (p : Addr) hp => hb50.frozen (p := p) hp)
     have zp := hb50.size
     (try simp only [zfk, zvo] at zp)
     (try have z0 : W24.heap.size < w50.heap.size := (by omega)))
   |(go_at_call 39; (with_reducible refine (r2sub_can _ _ 1 p _ (hv50.below (by first | exact Below.refl _ _ | exact zca _ _)) (HF9.out.below (kp3c (by assumption))) (by decide) HM.out.fp HM.out.fq).mono ?_); rintro e51 w51 ⟨v51, rfl, hv51, hb51⟩
     obtain ⟨t51, x51, y51, rfl, ⟨a511, l511, k511, rfl, _⟩, ⟨a512, l512, k512, rfl, _⟩⟩ := hv51.isF
     have hB51 := zaa (kp3c (by assumption)) hb51
     have hc5 := (fun (p : Addr) hp => hb51.cell (p := p) hp)
     have hf5 := (fun (p : Addr) hp => hb51.frozen (p := p) hp)
     have zq := hb51.size
     (try simp only [zfk, zvo] at zq)
     (try have z1 : w50.heap.size < w51.heap.size := (by omega))))
  all_goals
   have hE := kp3c (by assumption)
   go_wp2_with fail
   go_meet
   case rel =>
    first
     | exact ⟨_, _, _, _, _, _, _, _, rfl, rfl, hB51.size, C3.new w51 _ _ _ _, id hv51.below (zca _ _), hE⟩
     | exact ⟨_, _, _, _, _, _, _, _, rfl, rfl, hB50.size, ((C3.newB (b := w50.heap.size) w50 38 (.bool false) (.slice none 0 0) (.slice none 0 0) rfl).belowS hb51).set _ _ _, id hv51.set3 ((C3.newB (b := w50.heap.size) w50 38 (.bool false) (.slice none 0 0) (.slice none 0 0) rfl).belowS hb51) (fun z => by simp) (fun z => by simp) _ _ _, hE⟩
     | exact ⟨_, _, _, _, _, _, _, _, rfl, rfl, Nat.le_refl _, (((C3.newB (b := W24.heap.size) W24.drew 38 (.bool false) (.slice none 0 0) (.slice none 0 0) rfl).belowS hb50).belowS hb51).set _ _ _, id hv51.set3 (((C3.newB (b := W24.heap.size) W24.drew 38 (.bool false) (.slice none 0 0) (.slice none 0 0) rfl).belowS hb50).belowS hb51) (fun z => by simp) (fun z => by simp) _ _ _, hE⟩
 case rest =>
  obtain ⟨b26, t26, a261, l261, k261, a262, l262, k262, rfl, rfl, hsz6, hc, hf, hb6⟩ := hcut
  obtain ⟨W26, hw3⟩ : ∃ w3, w3 = wc := ⟨_, rfl⟩
  subst hw3
  have HC26 := zH hc
  have HF26 := zH hf
  have HB26 := zH (zaa HB1.out hb6)
  replace HC9 := zH (HC9.out.belowS hb6)
  replace HF9 := zH (HF9.out.below hb6)
  replace HC11 := zH (HC11.out.belowS hb6)
  replace HF11 := zH (HF11.out.below hb6)
  replace HC13 := zH (HC13.out.belowS hb6)
  replace HF13 := zH (HF13.out.below hb6)
  replace HC15 := zH (HC15.out.belowS hb6)
  replace HV15 := zH (HV15.out.below hb6)
  replace HC17 := zH (HC17.out.belowS hb6)
  replace HV17 := zH (HV17.out.below hb6)
  replace HC19 := zH (HC19.out.belowS hb6)
  replace HV19 := zH (HV19.out.below hb6)
  replace HC21 := zH (HC21.out.belowS hb6)
  replace HF21 := zH (HF21.out.below hb6)
  replace HC22 := zH (HC22.out.belowS hb6)
  replace HF22 := zH (HF22.out.below hb6)
  replace HC23 := zH (HC23.out.belowS hb6)
  replace HF23 := zH (HF23.out.below hb6)
  replace HC24 := zH (HC24.out.belowS hb6)
  replace HF24 := zH (HF24.out.below hb6)
  clear hc hf hb6 hsz6 S0 HB1
  obtain ⟨_, c0, c1, c2, _, _, _⟩ := HC9.out
  obtain ⟨_, d0, d1, d2, _, _, _⟩ := HC11.out
  go_upto_region 18 with (first
   |(go_at_call 38; (with_reducible refine ((r2mul_can _ _ p mx _ HF9.out HF11.out HM.out.fp HM.out.fx HM.out.fpx)).mono ?_); rintro e28 w28 ⟨v28, rfl, hv28, hb28⟩
     clear c0 c1 c2 d0 d1 d2
     obtain ⟨t28, x28, y28, rfl, ⟨a281, l281, k281, rfl, _⟩, ⟨a282, l282, k282, rfl, _⟩⟩ := hv28.isF
     have hba := zca w28 (.cells #[.bool t28, .slice a281 l281 k281, .slice a282 l282 k282] 38)
     have hbb := zaa hb28 hba
     have HC28 := zH (C3.new w28 38 (.bool t28) (.slice a281 l281 k281) (.slice a282 l282 k282))
     have HF28 := zH (hv28.below hba)
     replace HB26 := zH (zaa HB26.out hbb); replace HC11 := zH (HC11.out.belowS hbb); replace HF11 := zH (HF11.out.below hbb); replace HC13 := zH (HC13.out.belowS hbb); replace HF13 := zH (HF13.out.below hbb); replace HC15 := zH (HC15.out.belowS hbb); replace HV15 := zH (HV15.out.below hbb); replace HC17 := zH (HC17.out.belowS hbb); replace HV17 := zH (HV17.out.below hbb); replace HC19 := zH (HC19.out.belowS hbb); replace HV19 := zH (HV19.out.below hbb); replace HC21 := zH (HC21.out.belowS hbb); replace HF21 := zH (HF21.out.below hbb); replace HC22 := zH (HC22.out.belowS hbb); replace HF22 := zH (HF22.out.below hbb); replace HC23 := zH (HC23.out.belowS hbb); replace HF23 := zH (HF23.out.below hbb); replace HC24 := zH (HC24.out.belowS hbb); replace HF24 := zH (HF24.out.below hbb); replace HC26 := zH (HC26.out.belowS hbb); replace HF26 := zH (HF26.out.below hbb)
     clear hv28 hb28 hba hbb))
  obtain ⟨b28, hb28⟩ : ∃ b, w28.heap.size = b := ⟨_, rfl⟩
  rw [hb28] at HC28 ⊢
  clear hb28
  generalize w28.alloc (.cells #[.bool t28, .slice a281 l281 k281, .slice a282 l282 k282] 38) = W28 at *
  obtain ⟨_, c0, c1, c2, _, _, _⟩ := HC26.out
  obtain ⟨_, d0, d1, d2, _, _, _⟩ := HC13.out
  go_upto_region 19 with (first
   |(go_at_call 38; (with_reducible refine ((r2mul_can _ _ (1 - p) my _ HF26.out HF13.out HM.out.fq HM.out.fy HM.out.fqy)).mono ?_); rintro e30 w30 ⟨v30, rfl, hv30, hb30⟩
     clear c0 c1 c2 d0 d1 d2
     obtain ⟨t30, x30, y30, rfl, ⟨a301, l301, k301, rfl, _⟩, ⟨a302, l302, k302, rfl, _⟩⟩ := hv30.isF
     have hba := zca w30 (.cells #[.bool t30, .slice a301 l301 k301, .slice a302 l302 k302] 38)
     have hbb := zaa hb30 hba
     have HC30 := zH (C3.new w30 38 (.bool t30) (.slice a301 l301 k301) (.slice a302 l302 k302))
     have HF30 := zH (hv30.below hba)
     replace HB26 := zH (zaa HB26.out hbb); replace HC11 := zH (HC11.out.belowS hbb); replace HF11 := zH (HF11.out.below hbb); replace HC13 := zH (HC13.out.belowS hbb); replace HF13 := zH (HF13.out.below hbb); replace HC15 := zH (HC15.out.belowS hbb); replace HV15 := zH (HV15.out.below hbb); replace HC17 := zH (HC17.out.belowS hbb); replace HV17 := zH (HV17.out.below hbb); replace HC19 := zH (HC19.out.belowS hbb); replace HV19 := zH (HV19.out.below hbb); replace HC21 := zH (HC21.out.belowS hbb); replace HF21 := zH (HF21.out.below hbb); replace HC22 := zH (HC22.out.belowS hbb); replace HF22 := zH (HF22.out.below hbb); replace HC23 := zH (HC23.out.belowS hbb); replace HF23 := zH (HF23.out.below hbb); replace HC24 := zH (HC24.out.belowS hbb); replace HF24 := zH (HF24.out.below hbb); replace HC28 := zH (HC28.out.belowS hbb); replace HF28 := zH (HF28.out.below hbb)
     clear hv30 hb30 hba hbb))
  obtain ⟨b30, hb30⟩ : ∃ b, w30.heap.size = b := ⟨_, rfl⟩
  rw [hb30] at HC30 ⊢
  clear hb30
  generalize w30.alloc (.cells #[.bool t30, .slice a301 l301 k301, .slice a302 l302 k302] 38) = W30 at *
  obtain ⟨_, c0, c1, c2, _, _, _⟩ := HC28.out
  obtain ⟨_, d0, d1, d2, _, _, _⟩ := HC30.out
  go_upto_region 20 with (first
   |(go_at_call 19; (with_reducible refine ((r2add_can _ _ (p * mx) ((1 - p) * my) _ HF28.out HF30.out HM.out.fpx HM.out.fqy HM.out.fmx)).mono ?_); rintro e32 w32 ⟨v32, rfl, hv32, hb32⟩
     clear c0 c1 c2 d0 d1 d2
     obtain ⟨t32, x32, y32, rfl, ⟨a321, l321, k321, rfl, _⟩, ⟨a322, l322, k322, rfl, _⟩⟩ := hv32.isF
     have hba := zca w32 (.cells #[.bool t32, .slice a321 l321 k321, .slice a322 l322 k322] 38)
     have hbb := zaa hb32 hba
     have HC32 := zH (C3.new w32 38 (.bool t32) (.slice a321 l321 k321) (.slice a322 l322 k322))
     have HF32 := zH (hv32.below hba)
     replace HB26 := zH (zaa HB26.out hbb); replace HC11 := zH (HC11.out.belowS hbb); replace HF11 := zH (HF11.out.below hbb); replace HC13 := zH (HC13.out.belowS hbb); replace HF13 := zH (HF13.out.below hbb); replace HC15 := zH (HC15.out.belowS hbb); replace HV15 := zH (HV15.out.below hbb); replace HC17 := zH (HC17.out.belowS hbb); replace HV17 := zH (HV17.out.below hbb); replace HC19 := zH (HC19.out.belowS hbb); replace HV19 := zH (HV19.out.below hbb); replace HC21 := zH (HC21.out.belowS hbb); replace HF21 := zH (HF21.out.below hbb); replace HC22 := zH (HC22.out.belowS hbb); replace HF22 := zH (HF22.out.below hbb); replace HC23 := zH (HC23.out.belowS hbb); replace HF23 := zH (HF23.out.below hbb); replace HC24 := zH (HC24.out.belowS hbb); replace HF24 := zH (HF24.out.below hbb)
     clear hv32 hb32 hba hbb))
  obtain ⟨b32, hb32⟩ : ∃ b, w32.heap.size = b := ⟨_, rfl⟩
  rw [hb32] at HC32 ⊢
  clear hb32
  generalize w32.alloc (.cells #[.bool t32, .slice a321 l321 k321, .slice a322 l322 k322] 38) = W32 at *
  clear HC9 HF9 HC26 HF26 HC28 HF28 HC30 HF30
  obtain ⟨_, c0, c1, c2, _, _, _⟩ := HC21.out
  obtain ⟨_, d0, d1, d2, _, _, _⟩ := HC24.out
  have tok1 : True := trivial
  go_wp2_with (first
   |(go_at_call 33; (with_reducible refine (psame_t _ _ HF21.out HF24.out HM.out.fs HM.out.es).mono ?_); rintro e60 w60 ⟨rfl, hb60⟩
     clear c0 c1 c2 d0 d1 d2
     replace HB26 := zH (zaa HB26.out hb60); replace HC22 := zH (HC22.out.belowS hb60); replace HF22 := zH (HF22.out.below hb60); replace HC32 := zH (HC32.out.belowS hb60); replace HF32 := zH (HF32.out.below hb60); replace HC11 := zH (HC11.out.belowS hb60); replace HF11 := zH (HF11.out.below hb60); replace HC23 := zH (HC23.out.belowS hb60); replace HF23 := zH (HF23.out.below hb60); replace HC13 := zH (HC13.out.belowS hb60); replace HF13 := zH (HF13.out.below hb60); replace HC15 := zH (HC15.out.belowS hb60); replace HV15 := zH (HV15.out.below hb60); replace HC17 := zH (HC17.out.belowS hb60); replace HV17 := zH (HV17.out.below hb60); replace HC19 := zH (HC19.out.belowS hb60); replace HV19 := zH (HV19.out.below hb60)
     obtain ⟨_, c0, c1, c2, _, _, _⟩ := HC22.out
     obtain ⟨_, d0, d1, d2, _, _, _⟩ := HC32.out
     clear hb60)
   |(go_at_call 33; (with_reducible refine (psame_t _ _ HF22.out HF32.out HM.out.fm HM.out.em).mono ?_); rintro e61 w61 ⟨rfl, hb61⟩
     clear c0 c1 c2 d0 d1 d2
     replace HB26 := zH (zaa HB26.out hb61); replace HC11 := zH (HC11.out.belowS hb61); replace HF11 := zH (HF11.out.below hb61); replace HC23 := zH (HC23.out.belowS hb61); replace HF23 := zH (HF23.out.below hb61); replace HC13 := zH (HC13.out.belowS hb61); replace HF13 := zH (HF13.out.below hb61); replace HC15 := zH (HC15.out.belowS hb61); replace HV15 := zH (HV15.out.below hb61); replace HC17 := zH (HC17.out.belowS hb61); replace HV17 := zH (HV17.out.below hb61); replace HC19 := zH (HC19.out.belowS hb61); replace HV19 := zH (HV19.out.below hb61)
     obtain ⟨_, c0, c1, c2, _, _, _⟩ := HC11.out
     obtain ⟨_, d0, d1, d2, _, _, _⟩ := HC23.out
     clear hb61)
   |(go_at_call 50; (with_reducible refine (pless_f _ _ HF11.out HF23.out HM.out.fx HM.out.ff HM.out.lx).mono ?_); rintro e62 w62 ⟨rfl, hb62⟩
     clear c0 c1 c2 d0 d1 d2
     replace HB26 := zH (zaa HB26.out hb62); replace HC13 := zH (HC13.out.belowS hb62); replace HF13 := zH (HF13.out.below hb62); replace HC23 := zH (HC23.out.belowS hb62); replace HF23 := zH (HF23.out.below hb62); replace HC15 := zH (HC15.out.belowS hb62); replace HV15 := zH (HV15.out.below hb62); replace HC17 := zH (HC17.out.belowS hb62); replace HV17 := zH (HV17.out.below hb62); replace HC19 := zH (HC19.out.belowS hb62); replace HV19 := zH (HV19.out.below hb62)
     obtain ⟨_, c0, c1, c2, _, _, _⟩ := HC13.out
     obtain ⟨_, d0, d1, d2, _, _, _⟩ := HC23.out
     clear hb62)
   |(go_at_call 50; (with_reducible refine (pless_f _ _ HF13.out HF23.out HM.out.fy HM.out.ff HM.out.ly).mono ?_); rintro e63 w63 ⟨rfl, hb63⟩
     clear c0 c1 c2 d0 d1 d2
     replace HB26 := zH (zaa HB26.out hb63); replace HC15 := zH (HC15.out.belowS hb63); replace HV15 := zH (HV15.out.below hb63); replace HC17 := zH (HC17.out.belowS hb63); replace HV17 := zH (HV17.out.below hb63); replace HC19 := zH (HC19.out.belowS hb63); replace HV19 := zH (HV19.out.below hb63)
     obtain ⟨-, c0, c1, c2, c3, -, -, -, -⟩ := HC15.out
     clear hb63)
   |(go_at_call 59; (with_reducible refine (pnamed_any _ _ _ HV15.out).mono ?_); rintro e64 w64 ⟨v64, rfl, hv64, hb64⟩
     clear c0 c1 c2 c3
     replace HB26 := zH (zaa HB26.out hb64); replace HC17 := zH (HC17.out.belowS hb64); replace HV17 := zH (HV17.out.below hb64); replace HC19 := zH (HC19.out.belowS hb64); replace HV19 := zH (HV19.out.below hb64)
     clear hb64)
   |(go_at_call 58; (with_reducible refine (zbh _ _ _ hv64 HM.out.ls).mono ?_); rintro e65 w65 ⟨rfl, hb65⟩
     clear hv64
     replace HB26 := zH (zaa HB26.out hb65); replace HC17 := zH (HC17.out.belowS hb65); replace HV17 := zH (HV17.out.below hb65); replace HC19 := zH (HC19.out.belowS hb65); replace HV19 := zH (HV19.out.below hb65)
     obtain ⟨-, c0, c1, c2, c3, -, -, -, -⟩ := HC17.out
     clear hb65)
   |(go_at_call 59; (with_reducible refine (pnamed_any _ _ _ HV17.out).mono ?_); rintro e66 w66 ⟨v66, rfl, hv66, hb66⟩
     clear c0 c1 c2 c3
     replace HB26 := zH (zaa HB26.out hb66); replace HC19 := zH (HC19.out.belowS hb66); replace HV19 := zH (HV19.out.below hb66)
     clear hb66)
   |(go_at_call 58; (with_reducible refine (zbh _ _ _ hv66 HM.out.lm).mono ?_); rintro e67 w67 ⟨rfl, hb67⟩
     clear hv66
     replace HB26 := zH (zaa HB26.out hb67); replace HC19 := zH (HC19.out.belowS hb67); replace HV19 := zH (HV19.out.below hb67)
     obtain ⟨-, c0, c1, c2, c3, -, -, -, -⟩ := HC19.out
     clear hb67)
   |(go_at_call 59; (with_reducible refine (pnamed_any _ _ _ HV19.out).mono ?_); rintro e68 w68 ⟨v68, rfl, hv68, hb68⟩
     clear c0 c1 c2 c3
     replace HB26 := zH (zaa HB26.out hb68) 
     clear hb68)
   |(go_at_call 58; (with_reducible refine (zbh _ _ _ hv68 HM.out.lf).mono ?_); rintro e69 w69 ⟨rfl, hb69⟩
     clear hv68
     replace HB26 := zH (zaa HB26.out hb69) 
     clear hb69)
   |(go_at_call 25; (with_reducible refine (awake20_any _).mono ?_); rintro e70 w70 ⟨rfl, hb70⟩
     clear tok1
     replace HB26 := zH (zaa HB26.out hb70) 
     clear hb70))
  go_ret
  exact ⟨rfl, HB26.out⟩
end Go.Proofs.YtlpdkbmmbdfoiaaGreat
namespace Go.Proofs.YtlpdkbmmbdfoiaaGreat
open Go.ChangeShapes Go.WideShapes Go.ChangeAt Go.RowKit
section
variable {H : Type} {enc : TypeId × Value → H} {P : Program}
theorem zoh (hl : laidOutB P = true) {W W' : World} (hb : Below W.heap.size W W') : ∀ {ts : List TypeId} {vs : List Value} {ds : List (DataW H)} {ps : List MemPlace}, (ts.all fun t => P.readableRec t && decide (t < P.types.size)) = true →
 DataW.TrodAll enc P W 0 (fun _ => true) true ts vs ds ps → (∀ x ∈ ps, x.block < W.heap.size) → DataW.TrodAll enc P W' 0 (fun b => decide (b < W.heap.size)) true ts vs ds ps
 | [], vs, ds, ps, _, h, _ => by
   obtain ⟨rfl, rfl, rfl⟩ := trodAll_nil h
   exact trodAll_mk0
 | t :: ts, vs, ds, ps, hr, h, hlt => by
   obtain ⟨v, vs', d, ds', p, q, rfl, rfl, rfl, h1, h2⟩ := trodAll_cons h
   simp only [List.all_cons, Bool.and_eq_true, decide_eq_true_eq] at hr
   obtain ⟨⟨r1, r2⟩, r3⟩ := hr
   exact trodAll_cons_mk (Below.trod hl r1 r2 h1 hb fun x hx => hlt x (List.mem_append_left _ hx)) (zoh hl hb (ts := ts) r3 h2 fun x hx => hlt x (List.mem_append_right _ hx))
end
section
variable {H : Type} {enc : TypeId × Value → H}
set_option maxRecDepth 100000 in
theorem u8_came {W : World} {base : Nat} {v : Value} {d : DataW H} {p : List MemPlace} (hv : Value.okWide Tryz.prog W .any base 5 v) (h : DataW.Trod enc Tryz.prog W 0 (fun _ => true) true 5 v d p) : ∃ x : Nat, v = .int .u8 x ∧ x < 256 := by
 obtain ⟨n, rfl, rfl, rfl, hwn⟩ := open_int Tryz.underlying5 hv h
 have hn : 0 ≤ n ∧ n < 256 := by
  simp [Lit.wf, IntKind.min, IntKind.max, IntKind.signed, IntKind.bits] at hwn
  omega
 exact ⟨n.toNat, by congr 1; omega, by omega⟩
end
end Go.Proofs.YtlpdkbmmbdfoiaaGreat
