/-
  package drydockref02: Sub in lowest terms.
-/
import Derived.Test.YtlpdkbmmbdfoiaaGreatFPk0
import Derived.Test.YtlpdkbmmbdfoiaaGreatFFr3
import Derived.Test.YtlpdkbmmbdfoiaaGreatFRb7
import Derived.Test.YtlpdkbmmbdfoiaaGreatFOr2
set_option linter.unusedVariables false
set_option linter.unusedSimpArgs false
namespace Go.Proofs.YtlpdkbmmbdfoiaaGreat
open Go.RowKit
set_option maxHeartbeats 1600000 in
theorem zcp (va vb : Value) (p q : Rat) (w : World) (ha : zqa w va p) (hb : zqa w vb q) (hp : fits p) (hq : fits q) (hq0 : q ≠ 0) (hf : fits (p / q)) : Calls Tryz.prog 40 #[va, vb] w (RF0 w (p / q)) := by
 obtain ⟨a1, a2, rfl, n1, n2⟩ := id ha
 obtain ⟨b1, b2, rfl, m1, m2⟩ := id hb
 obtain ⟨x1, y1, z1, rfl, _⟩ := id n1.v.sl
 obtain ⟨x2, y2, z2, rfl, _⟩ := id n2.v.sl
 obtain ⟨x3, y3, z3, rfl, _⟩ := id m1.v.sl
 obtain ⟨x4, y4, z4, rfl, _⟩ := id m2.v.sl
 have k1 := zca w (.cells #[.bool (decide (p < 0)), .slice x1 y1 z1, .slice x2 y2 z2] 38)
 have k2 := zca (w.alloc (.cells #[.bool (decide (p < 0)), .slice x1 y1 z1, .slice x2 y2 z2] 38)) (.cells #[.bool (decide (q < 0)), .slice x3 y3 z3, .slice x4 y4 z4] 38)
 have k3 := zca ((w.alloc (.cells #[.bool (decide (p < 0)), .slice x1 y1 z1, .slice x2 y2 z2] 38)).alloc (.cells #[.bool (decide (q < 0)), .slice x3 y3 z3, .slice x4 y4 z4] 38)) (.cells #[.bool false, .slice none 0 0, .slice none 0 0] 38)
 have H3 := zmc w 38 (.bool (decide (p < 0))) (.slice x1 y1 z1) (.slice x2 y2 z2) (.bool (decide (q < 0))) (.slice x3 y3 z3) (.slice x4 y4 z4) (.bool false) (.slice none 0 0) (.slice none 0 0) _ rfl
 obtain ⟨hA, hB, hR, hbw⟩ := H3
 have HA := zH hA
 have HB := zH hB
 have HR := zH hR
 have HAP := zH (ha.below hbw)
 have HBQ := zH (hb.below hbw)
 have HP := zH hp
 have HQ := zH hq
 have HPQ := zH hf
 have hqn : q.num.natAbs ≠ 0 := fun e => hq0 (Rat.num_eq_zero.1 (by omega))
 have hlq : ∃ L, zda q.num.natAbs = L ∧ 0 < L := ⟨_, rfl, Nat.pos_of_ne_zero fun e => hqn (zta.1 e)⟩
 obtain ⟨L, hL, hL0⟩ := hlq
 have HLL := zH hL
 have HFQ : Hid (p / q = fq (!(decide (p < 0) == decide (q < 0))) (p.num.natAbs * q.den) (p.den * q.num.natAbs)) := zH (by
  have h := fq_quo (decide (p < 0)) (decide (q < 0)) (n := p.num.natAbs) (d := p.den) hqn q.den_nz
  rw [zvb, zvb] at h
  exact h)
 have HL := zH (And.intro (zrc (zuc hp)) (zrc (zuc hq)))
 obtain ⟨_, c0, c1, c2, _, _, _⟩ := id hA
 obtain ⟨_, d0, d1, d2, _, _, _⟩ := id hB
 have HQNUM := zH m1.nat
 have HDZ0 : Hid (p.den * q.num.natAbs ≠ 0) := zH (Nat.mul_ne_zero p.den_nz hqn)
 clear hA hB hR ha hb n1 n2 m1 m2 hp hq hf k1 k2 k3 hq0 hqn hL
 go_enter Tryz.func40, Tryz.ntmps40
 go_upto_region 5 with (first
  |(go_at_call 49; (with_reducible refine (zlo _ p _ HAP.out HP.out).mono ?_); rintro e1 w1 ⟨rfl, hb1⟩
    obtain ⟨_, c0, c1, c2, _, _, _⟩ := HA.out.belowS hb1
    obtain ⟨_, d0, d1, d2, _, _, _⟩ := HB.out.belowS hb1)
  |(go_at_call 49; (with_reducible refine (zlo _ q _ (HBQ.out.below hb1) HQ.out).mono ?_); rintro e2 w2' ⟨rfl, hb2'⟩
    obtain ⟨_, d0, d1, d2, _, _, _⟩ := HB.out.belowS (zaa hb1 hb2'))
  |(go_at_call 106; (with_reducible refine (zra _ q.num.natAbs _ ((HQNUM.out.below hbw).below (zaa hb1 hb2'))).mono ?_); rintro e2 w2 ⟨r2, rfl, hr2, hb2''⟩
    have s2 := hr2.v.sl
    have l2 : slen r2 = L := hr2.v.len.trans HLL.out
    have hb2 := zaa hb2' hb2''))
 have b12 := zaa hb1 hb2
 have hD := zja (B := w2.heap.size) w2
 have b1D := zaa b12 hD
 obtain ⟨_, q1, q2, q3, _, _, _⟩ := HA.out.belowS b1D
 obtain ⟨_, r1, r2, r3, _, _, _⟩ := HB.out.belowS b1D
 have HRD := zH (HR.out.belowS b1D)
 have HAD := zH (HAP.out.below b1D)
 have HBD := zH (HBQ.out.below b1D)
 have hbwD := zaa hbw b1D
 obtain ⟨u1, u2, hu, nA, nB⟩ := HAD.out
 injection hu with hu
 injection hu with hu
 simp only [List.cons.injEq, and_true, true_and] at hu
 obtain ⟨rfl, rfl⟩ := hu
 obtain ⟨u1, u2, hu, mA, mB⟩ := HBD.out
 injection hu with hu
 injection hu with hu
 simp only [List.cons.injEq, and_true, true_and] at hu
 obtain ⟨rfl, rfl⟩ := hu
 have kA : w.heap.size + 1 + 1 ≠ w.heap.size := by omega
 have kB : w.heap.size + 1 + 1 ≠ w.heap.size + 1 := by omega
 have HNN := zH (And.intro nA (And.intro nB (And.intro mA mB)))
 have HDZ := HDZ0
 have HN5 : Hid (zda (p.num.natAbs * q.den) ≤ 512) := zH (Nat.le_trans (zsd HL.out.1.1 HL.out.2.2) (by decide))
 have HD5 : Hid (zda (p.den * q.num.natAbs) ≤ 512) := zH (Nat.le_trans (zsd HL.out.1.2 HL.out.2.1) (by decide))
 clear nA nB mA mB c0 c1 c2 d0 d1 d2
 go_region_held3 (fun w' => w'.cell? ⟨w.heap.size, 0, none⟩ = some (.bool (decide (p < 0))) ∧ w'.cell? ⟨w.heap.size, 1, none⟩ = some (.slice x1 y1 z1) ∧ w'.cell? ⟨w.heap.size, 2, none⟩ = some (.slice x2 y2 z2) ∧ w'.cell? ⟨w.heap.size + 1, 0, none⟩ = some (.bool (decide (q < 0))) ∧ w'.cell? ⟨w.heap.size + 1, 1, none⟩ = some (.slice x3 y3 z3) ∧ w'.cell? ⟨w.heap.size + 1, 2, none⟩ = some (.slice x4 y4 z4)) (first
  | with_reducible exact ⟨q1, q2, q3, r1, r2, r3⟩
  | with_reducible exact keep6b (by assumption) (by assumption)
  | with_reducible exact zvp (zvp (zvp (by assumption) kA kA kA kB kB kB _) kA kA kA kB kB kB _) kA kA kA kB kB kB _) (first
  |(go_at_call 74; (with_reducible refine (zke _ _ p.num.natAbs q.den _ HNN.out.1.nat HNN.out.2.2.2.nat HL.out.1.1 HL.out.2.2).mono ?_); rintro e3 w3 ⟨v3, rfl, hv3, hb3⟩)
  |(go_at_call 74; (with_reducible refine (zke _ _ p.den q.num.natAbs _ (HNN.out.2.1.below hb3).nat (HNN.out.2.2.1.below hb3).nat HL.out.1.2 HL.out.2.1).mono ?_); rintro e4 w4 ⟨v4, rfl, hv4, hb4⟩)
  |(go_at_call 71; (with_reducible refine (zpe _ _ _ (p.num.natAbs * q.den) (p.den * q.num.natAbs) _ (hv3.below hb4).nat hv4.nat HDZ.out HN5.out HD5.out).mono ?_); rintro e5 w5 ⟨v5, rfl, hv5, hb5⟩)
  |(go_at_call 76; (with_reducible refine (zuo _ (p / q) _ (by (rw [HFQ.out]; exact hv5)) HPQ.out).mono ?_); rintro e6 w6 ⟨v6, rfl, hv6, hb6⟩
    obtain ⟨t9, x9, y9, rfl, ⟨a91, l91, k91, rfl, _⟩, ⟨a92, l92, k92, rfl, _⟩⟩ := hv6.isF
    have HR6 := zH ((((HRD.out.belowS hb3).belowS hb4).belowS hb5).belowS hb6)
    obtain ⟨_, g0, g1, g2, g3, g4, g5⟩ := HR6.out))
 have hbE := zaa (zaa (zaa (zaa hbwD hb3) hb4) hb5) hb6
 go_wp2_with fail
 refine zoa rfl rfl Tryz.aggF Tryz.sizeF (HR6.out.set _ _ _) rfl ?_
 exact ⟨_, rfl, hv6.set3 HR6.out (fun z => by simp) (fun z => by simp) _ _ _, zga hbE (Nat.le_trans (Nat.le_succ _) (Nat.le_succ _)) _ _ _⟩
set_option maxRecDepth 100000 in
set_option maxHeartbeats 1600000 in
theorem r2sub_can (va vb : Value) (p q : Rat) (w : World) (ha : zqa w va p) (hb : zqa w vb q) (hp : fits p) (hq : fits q) (hf : fits (p - q)) : Calls Tryz.prog 39 #[va, vb] w (RF0 w (p - q)) := by
 obtain ⟨ta, x0, y0, rfl, ⟨a1, a2, a3, rfl, _⟩, ⟨a4, a5, a6, rfl, _⟩⟩ := ha.isF
 obtain ⟨tb, x1, y1, rfl, ⟨b1, b2, b3, rfl, _⟩, ⟨b4, b5, b6, rfl, _⟩⟩ := hb.isF
 obtain ⟨hA, hB, hR, hbw⟩ := zmc w 38 (.bool ta) (.slice a1 a2 a3) (.slice a4 a5 a6) (.bool tb) (.slice b1 b2 b3) (.slice b4 b5 b6) (.bool false) (.slice none 0 0) (.slice none 0 0) _ rfl
 have HA := zH (ha.below hbw)
 have HB := zH (hb.below hbw)
 have HC1 := zH hA
 have HC2 := zH hB
 have HC3 := zH hR
 have HBW := zH hbw
 have HN : Hid (fits (-q)) := zH ⟨by rw [Rat.neg_num, Int.natAbs_neg]; exact hq.1, hq.2⟩
 have HP := zH hp
 have HE : Hid (p + -q = p - q) := zH (Rat.sub_eq_add_neg p q).symm
 have HF : Hid (fits (p + -q)) := zH (by rw [HE.out]; exact hf)
 rw [← HE.out]
 clear hA hB hR hbw ha hb hp hq hf
 go_enter Tryz.func39, Tryz.ntmps39
 go_upto_region 1 with fail
 generalize ((w.alloc (.cells #[.bool ta, .slice a1 a2 a3, .slice a4 a5 a6] 38)).alloc (.cells #[.bool tb, .slice b1 b2 b3, .slice b4 b5 b6] 38)).alloc (.cells #[.bool false, .slice none 0 0, .slice none 0 0] 38) = W2 at *
 obtain ⟨_, c0, c1, c2, _, _, _⟩ := HC1.out
 obtain ⟨_, d0, d1, d2, _, _, _⟩ := HC2.out
 have hbD := zja (B := W2.heap.size) W2
 have HAD := zH (HA.out.below hbD)
 have HBD := zH (HB.out.below hbD)
 have HRD := zH (HC3.out.belowS hbD)
 have HWD := zH (zaa HBW.out hbD)
 refine wpL.start 6 (fun w' => w'.cell? ⟨w.heap.size, 0, none⟩ = some (.bool ta) ∧ w'.cell? ⟨w.heap.size, 1, none⟩ = some (.slice a1 a2 a3) ∧ w'.cell? ⟨w.heap.size, 2, none⟩ = some (.slice a4 a5 a6) ∧ w'.cell? ⟨w.heap.size + 1, 0, none⟩ = some (.bool tb) ∧ w'.cell? ⟨w.heap.size + 1, 1, none⟩ = some (.slice b1 b2 b3) ∧ w'.cell? ⟨w.heap.size + 1, 2, none⟩ = some (.slice b4 b5 b6)) (by kernel_rfl) ⟨zba hbD c0, zba hbD c1, zba hbD c2, zba hbD d0, zba hbD d1, zba hbD d2⟩ (fun hHeld => ?_)
 clear c0 c1 c2 d0 d1 d2 hbD HA HB HC1 HC2 HC3 HBW
 generalize W2.drew = wd at *
 refine wpL.t 0 ?_
 refine wpL.t 1 ?_
 (refine wpL.oo 2 ?_; intro K hK)
 refine zxa 105 #[.agg #[.bool tb, .slice b1 b2 b3, .slice b4 b5 b6]] ?_ ?_ (r2opp_can _ _ _ HBD.out) ?_
 ·rfl
 ·go_simp
 rintro e7 w7 ⟨v7, rfl, hv7, hb7⟩
 have hH7 := And.intro (zba hb7 hHeld.1) (And.intro (zba hb7 hHeld.2.1) (And.intro (zba hb7 hHeld.2.2.1) (And.intro (zba hb7 hHeld.2.2.2.1) (And.intro (zba hb7 hHeld.2.2.2.2.1) (zba hb7 hHeld.2.2.2.2.2)))))
 refine ⟨_, rfl, ?_⟩
 refine hK.out _ _ (fun _ => hH7) ?_
 have HA7 := zH (HAD.out.below hb7)
 have HR7 := zH (HRD.out.belowS hb7)
 have HW7 := zH (zaa HWD.out hb7)
 clear hK K hHeld HAD HBD HRD HWD hb7
 try simp only [Act.put, List.setIfInBounds_toArray, List.set_cons_zero, List.set_cons_succ]
 (refine wpL.oo 3 ?_; intro K hK)
 refine zxa 19 #[.agg #[.bool ta, .slice a1 a2 a3, .slice a4 a5 a6], v7] ?_ ?_ (r2add_can _ _ _ _ _ HA7.out hv7 HP.out HN.out HF.out) ?_
 ·rfl
 ·go_simp
 rintro e8 w8 ⟨v8, rfl, hv8, hb8⟩
 obtain ⟨t8, x8, y8, rfl, ⟨a81, l81, k81, rfl, _⟩, ⟨a82, l82, k82, rfl, _⟩⟩ := hv8.isF
 have hH8 := And.intro (zba hb8 hH7.1) (And.intro (zba hb8 hH7.2.1) (And.intro (zba hb8 hH7.2.2.1) (And.intro (zba hb8 hH7.2.2.2.1) (And.intro (zba hb8 hH7.2.2.2.2.1) (zba hb8 hH7.2.2.2.2.2)))))
 refine ⟨_, rfl, ?_⟩
 refine hK.out _ _ (fun _ => hH8) ?_
 have HR8 := zH (HR7.out.belowS hb8)
 have HW8 := zH (zaa HW7.out hb8)
 clear hK K hH7 HA7 HR7 HW7 hb8
 try simp only [Act.put, List.setIfInBounds_toArray, List.set_cons_zero, List.set_cons_succ]
 have hHeld := hH8
 refine wpL.u 4 ?_
 refine wpL.u 5 ?_
 clear hHeld
 obtain ⟨_, g0, g1, g2, f0, f1, f2⟩ := HR8.out
 (refine wpL.oo 6 ?_; intro K hK)
 rw [if_pos (by rfl)]
 go_simp
 refine hK.out _ _ (fun h => by first | cases h | simp at h) ?_
 clear hK K hH8 g0 g1 g2 f0 f1 f2
 try simp only [Act.put, List.setIfInBounds_toArray, List.set_cons_zero, List.set_cons_succ]
 (refine wpL.oo 7 ?_; intro K hK)
 rw [if_pos (by rfl)]
 go_simp
 refine hK.out _ _ (fun h => by first | cases h | simp at h) ?_
 clear hK K
 refine wpL.done (by kernel_rfl) ?_ _
 try simp only [Act.put, List.setIfInBounds_toArray, List.set_cons_zero, List.set_cons_succ]
 go_wp2_with fail
 refine zoa rfl rfl Tryz.aggF Tryz.sizeF (HR8.out.set _ _ _) rfl ?_
 exact ⟨_, rfl, hv8.set3 HR8.out (fun z => by simp) (fun z => by simp) _ _ _, zga HW8.out (Nat.le_trans (Nat.le_succ _) (Nat.le_succ _)) _ _ _⟩
end Go.Proofs.YtlpdkbmmbdfoiaaGreat
