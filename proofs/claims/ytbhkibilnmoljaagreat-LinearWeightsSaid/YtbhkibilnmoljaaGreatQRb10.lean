/-
  package drydockref02: Quo in lowest terms.
-/
import Derived.Test.YtbhkibilnmoljaaGreatQFr5
import Derived.Test.YtbhkibilnmoljaaGreatQRb8
namespace Go.Proofs.YtbhkibilnmoljaaGreat
set_option linter.unusedVariables false
set_option linter.unusedSimpArgs false
open Go.RowKit

set_option maxHeartbeats 1600000 in
theorem r2quo_can (va vb : Value) (p q : Rat) (w : World) (ha : FracC w va p) (hb : FracC w vb q) (hp : fits p) (hq : fits q) (hq0 : q ≠ 0) (hf : fits (p / q)) : Calls Tryz.prog 51 #[va, vb] w (RF0 w (p / q)) := by
  obtain ⟨a1, a2, rfl, n1, n2⟩ := id ha
  obtain ⟨b1, b2, rfl, m1, m2⟩ := id hb
  obtain ⟨x1, y1, z1, rfl, _⟩ := id n1.v.sl
  obtain ⟨x2, y2, z2, rfl, _⟩ := id n2.v.sl
  obtain ⟨x3, y3, z3, rfl, _⟩ := id m1.v.sl
  obtain ⟨x4, y4, z4, rfl, _⟩ := id m2.v.sl
  have k1 := below_alloc w (.cells #[.bool (decide (p < 0)), .slice x1 y1 z1, .slice x2 y2 z2] 25)
  have k2 := below_alloc (w.alloc (.cells #[.bool (decide (p < 0)), .slice x1 y1 z1, .slice x2 y2 z2] 25)) (.cells #[.bool (decide (q < 0)), .slice x3 y3 z3, .slice x4 y4 z4] 25)
  have k3 := below_alloc ((w.alloc (.cells #[.bool (decide (p < 0)), .slice x1 y1 z1, .slice x2 y2 z2] 25)).alloc (.cells #[.bool (decide (q < 0)), .slice x3 y3 z3, .slice x4 y4 z4] 25)) (.cells #[.bool false, .slice none 0 0, .slice none 0 0] 25)
  have H3 := three_boxes w 25 (.bool (decide (p < 0))) (.slice x1 y1 z1) (.slice x2 y2 z2) (.bool (decide (q < 0))) (.slice x3 y3 z3) (.slice x4 y4 z4) (.bool false) (.slice none 0 0) (.slice none 0 0) _ rfl
  obtain ⟨hA, hB, hR, hbw⟩ := H3
  have HA := Lib.hid hA
  have HB := Lib.hid hB
  have HR := Lib.hid hR
  have HAP := Lib.hid (ha.below hbw)
  have HBQ := Lib.hid (hb.below hbw)
  have HP := Lib.hid hp
  have HQ := Lib.hid hq
  have HPQ := Lib.hid hf
  have hqn : q.num.natAbs ≠ 0 := fun e => hq0 (Rat.num_eq_zero.1 (by omega))
  have hlq : ∃ L, nlen q.num.natAbs = L ∧ 0 < L := ⟨_, rfl, Nat.pos_of_ne_zero fun e => hqn (nlen_eq_zero.1 e)⟩
  obtain ⟨L, hL, hL0⟩ := hlq
  have HLL := Lib.hid hL
  have HFQ : Hid (p / q = fq (!(decide (p < 0) == decide (q < 0))) (p.num.natAbs * q.den) (p.den * q.num.natAbs)) := Lib.hid (by
    have h := fq_quo (decide (p < 0)) (decide (q < 0)) (n := p.num.natAbs) (d := p.den) hqn q.den_nz
    rw [fq_self, fq_self] at h
    exact h)
  have HL := Lib.hid (And.intro (okN_nlen (fits_okN hp)) (okN_nlen (fits_okN hq)))
  obtain ⟨_, c0, c1, c2, _, _, _⟩ := id hA
  obtain ⟨_, d0, d1, d2, _, _, _⟩ := id hB
  have HQNUM := Lib.hid m1.nat
  have HDZ0 : Hid (p.den * q.num.natAbs ≠ 0) := Lib.hid (Nat.mul_ne_zero p.den_nz hqn)
  clear hA hB hR ha hb n1 n2 m1 m2 hp hq hf k1 k2 k3 hq0 hqn hL
  go_enter Tryz.func51, Tryz.ntmps51
  go_upto_region 5 with (first
    | (go_at_call 46; (with_reducible refine (r2valid_can _ p _ HAP.out HP.out).mono ?_); rintro e1 w1 ⟨rfl, hb1⟩
       obtain ⟨_, c0, c1, c2, _, _, _⟩ := HA.out.belowS hb1
       obtain ⟨_, d0, d1, d2, _, _, _⟩ := HB.out.belowS hb1)
    | (go_at_call 46; (with_reducible refine (r2valid_can _ q _ (HBQ.out.below hb1) HQ.out).mono ?_); rintro e2 w2' ⟨rfl, hb2'⟩
       obtain ⟨_, d0, d1, d2, _, _, _⟩ := HB.out.belowS (below_then hb1 hb2'))
    | (go_at_call 63; (with_reducible refine (rtrim_any _ q.num.natAbs _ ((HQNUM.out.below hbw).below (below_then hb1 hb2'))).mono ?_); rintro e2 w2 ⟨r2, rfl, hr2, hb2''⟩
       have s2 := hr2.v.sl
       have l2 : slen r2 = L := hr2.v.len.trans HLL.out
       have hb2 := below_then hb2' hb2''))
  have b12 := below_then hb1 hb2
  have hD := below_drew (B := w2.heap.size) w2
  have b1D := below_then b12 hD
  obtain ⟨_, q1, q2, q3, _, _, _⟩ := HA.out.belowS b1D
  obtain ⟨_, r1, r2, r3, _, _, _⟩ := HB.out.belowS b1D
  have HRD := Lib.hid (HR.out.belowS b1D)
  have HAD := Lib.hid (HAP.out.below b1D)
  have HBD := Lib.hid (HBQ.out.below b1D)
  have hbwD := below_then hbw b1D
  obtain ⟨u1, u2, hu, nA, nB⟩ := HAD.out
  injection hu with hu
  injection hu with hu
  simp only [List.cons.injEq, and_true, true_and] at hu
  obtain ⟨rfl, rfl⟩ := hu
  obtain ⟨u1, u2, hu, mA, mB⟩ := HBD.out
  injection hu with hu
  injection hu with hu
  simp only [List.cons.injEq, and_true, true_and] at hu
  obtain ⟨rfl, rfl⟩ := hu
  have kA : w.heap.size + 1 + 1 ≠ w.heap.size := by omega
  have kB : w.heap.size + 1 + 1 ≠ w.heap.size + 1 := by omega
  have HNN := Lib.hid (And.intro nA (And.intro nB (And.intro mA mB)))
  have HDZ := HDZ0
  have HN5 : Hid (nlen (p.num.natAbs * q.den) ≤ 512) := Lib.hid (Nat.le_trans (nlen_mul HL.out.1.1 HL.out.2.2) (by decide))
  have HD5 : Hid (nlen (p.den * q.num.natAbs) ≤ 512) := Lib.hid (Nat.le_trans (nlen_mul HL.out.1.2 HL.out.2.1) (by decide))
  clear nA nB mA mB c0 c1 c2 d0 d1 d2
  go_region_held3 (fun w' => w'.cell? ⟨w.heap.size, 0, none⟩ = some (.bool (decide (p < 0))) ∧ w'.cell? ⟨w.heap.size, 1, none⟩ = some (.slice x1 y1 z1) ∧ w'.cell? ⟨w.heap.size, 2, none⟩ = some (.slice x2 y2 z2) ∧ w'.cell? ⟨w.heap.size + 1, 0, none⟩ = some (.bool (decide (q < 0))) ∧ w'.cell? ⟨w.heap.size + 1, 1, none⟩ = some (.slice x3 y3 z3) ∧ w'.cell? ⟨w.heap.size + 1, 2, none⟩ = some (.slice x4 y4 z4)) (first
    | with_reducible exact ⟨q1, q2, q3, r1, r2, r3⟩
    | with_reducible exact keep6b (by assumption) (by assumption)
    | with_reducible exact keep6 (keep6 (keep6 (by assumption) kA kA kA kB kB kB _) kA kA kA kB kB kB _) kA kA kA kB kB kB _) (first
    | (go_at_call 74; (with_reducible refine (r2times_any _ _ p.num.natAbs q.den _ HNN.out.1.nat HNN.out.2.2.2.nat HL.out.1.1 HL.out.2.2).mono ?_); rintro e3 w3 ⟨v3, rfl, hv3, hb3⟩)
    | (go_at_call 74; (with_reducible refine (r2times_any _ _ p.den q.num.natAbs _ (HNN.out.2.1.below hb3).nat (HNN.out.2.2.1.below hb3).nat HL.out.1.2 HL.out.2.1).mono ?_); rintro e4 w4 ⟨v4, rfl, hv4, hb4⟩)
    | (go_at_call 48; (with_reducible refine (r2lowest_any _ _ _ (p.num.natAbs * q.den) (p.den * q.num.natAbs) _ (hv3.below hb4).nat hv4.nat HDZ.out HN5.out HD5.out).mono ?_); rintro e5 w5 ⟨v5, rfl, hv5, hb5⟩)
    | (go_at_call 73; (with_reducible refine (r2fits_can _ (p / q) _ (by (rw [HFQ.out]; exact hv5)) HPQ.out).mono ?_); rintro e6 w6 ⟨v6, rfl, hv6, hb6⟩
       obtain ⟨t9, x9, y9, rfl, ⟨a91, l91, k91, rfl, _⟩, ⟨a92, l92, k92, rfl, _⟩⟩ := hv6.isF
       have HR6 := Lib.hid ((((HRD.out.belowS hb3).belowS hb4).belowS hb5).belowS hb6)
       obtain ⟨_, g0, g1, g2, g3, g4, g5⟩ := HR6.out))
  have hbE := below_then (below_then (below_then (below_then hbwD hb3) hb4) hb5) hb6
  go_wp2_with fail
  refine bodyPost_c3 rfl rfl Tryz.aggF Tryz.sizeF (HR6.out.set _ _ _) rfl ?_
  exact ⟨_, rfl, hv6.set3 HR6.out (fun z => by simp) (fun z => by simp) _ _ _, below_set3 hbE (Nat.le_trans (Nat.le_succ _) (Nat.le_succ _)) _ _ _⟩
end Go.Proofs.YtbhkibilnmoljaaGreat
