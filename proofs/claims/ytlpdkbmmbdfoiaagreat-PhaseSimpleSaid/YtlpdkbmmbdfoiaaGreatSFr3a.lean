/-
  package fraction, what goes before its walks: Reduce, Cmp.
-/
import Derived.Test.YtlpdkbmmbdfoiaaGreatSStep
import Derived.Deep.RegionHeld3
set_option linter.unusedVariables false
set_option linter.unusedSimpArgs false
namespace Go.Proofs.YtlpdkbmmbdfoiaaGreat
open Go.RowKit
theorem zaa {w w1 w2 : World} (h : Below w.heap.size w w1) (h' : Below w1.heap.size w1 w2) : Below w.heap.size w w2 := h.trans (h'.mono h.size)
theorem zdj (z : Int) (w : World) (h1 : -9223372036854775808 ≤ z) (h2 : z < 9223372036854775808) :
 Calls Tryz.prog 143 #[.int .i64 z] w (RNat w z.natAbs) := by
 rcases Int.lt_or_le z 0 with h | h
 ·have h0 : z < 0 := h
  obtain ⟨m, hm⟩ : ∃ m : Nat, z = -(m : Int) := ⟨z.natAbs, by omega⟩
  have hM := znj m (by omega)
  have e : z.natAbs = m := by omega
  rw [e]
  clear e
  subst hm
  have hw : IntKind.u64.wrap (-IntKind.u64.wrap (-(m : Int))) = (m : Int) := by rw [zvb, zvb]; omega
  go_enter Tryz.func143, Tryz.ntmps143
  go_wp2_with fail
  refine (hM w).mono ?_
  rintro e w' ⟨r, rfl, hr, hb⟩
  go_wp2
  go_ret
  exact ⟨_, rfl, hr, hb⟩
 ·obtain ⟨m, rfl⟩ : ∃ m : Nat, z = (m : Int) := ⟨z.natAbs, by omega⟩
  have hM := znj m (by omega)
  have e : (m : Int).natAbs = m := by omega
  rw [e]
  have hw : IntKind.u64.wrap (m : Int) = (m : Int) := by rw [zvb]; omega
  clear e h1 h2 h
  go_enter Tryz.func143, Tryz.ntmps143
  go_wp2_with fail
  refine (hM w).mono ?_
  rintro e w' ⟨r, rfl, hr, hb⟩
  go_wp2
  go_ret
  exact ⟨_, rfl, hr, hb⟩
def IsF (v : Value) : Prop := ∃ s x y, v = .agg #[.bool s, x, y] ∧ zlc x ∧ zlc y
theorem zya.isF {w : World} {v : Value} {q : Rat} (h : zya w v q) : IsF v := by
 obtain ⟨a, b, rfl, h1, h2⟩ := h; exact ⟨_, a, b, rfl, h1.v.sl, h2.v.sl⟩
theorem isF_zero : IsF zeroF := ⟨false, _, _, rfl, zlc.nil, zlc.nil⟩
theorem zwb {w0 w : World} {q : Rat} {v : Value} {er : Int} (h1 : fits q → er = 0 ∧ zya w v q) (h2 : ¬ fits q → er = 2 ∧ v = zeroF) : IsF v := by
 by_cases h : fits q
 ·exact (h1 h).2.isF
 ·rw [(h2 h).2]; exact isF_zero
set_option maxHeartbeats 800000 in
theorem ztk (a b : Int) (w : World) (ha1 : -9223372036854775808 ≤ a) (ha2 : a < 9223372036854775808) (hb1 : -9223372036854775808 ≤ b) (hb2 : b < 9223372036854775808) (hb : b ≠ 0) :
 Calls Tryz.prog 67 #[.int .i64 a, .int .i64 b] w (zwl w (fq (!decide (a < 0) == decide (b < 0)) a.natAbs b.natAbs)) := by
 have HA := zH (And.intro ha1 ha2)
 have HB := zH (And.intro hb1 hb2)
 have hbn : b.natAbs ≠ 0 := by omega
 have HBN := zH hbn
 have h1 : ∀ z : Int, -9223372036854775808 ≤ z → z < 9223372036854775808 → zea z.natAbs ≤ 512 := fun z _ _ => zyb.2 (Nat.lt_of_lt_of_le (show z.natAbs < pw 2 by have : pw 2 = 18446744073709551616 := rfl; omega) (pw_le (by omega)))
 have H1 := zH (h1 a ha1 ha2)
 have H2 := zH (h1 b hb1 hb2)
 have h9 : (b == 0) = false := by simpa using hb
 clear ha1 ha2 hb1 hb2 hbn h1 hb
 go_enter Tryz.func67, Tryz.ntmps67
 go_wp2_with (first
  |(go_at_call 143; first
   |((with_reducible refine (zdj a _ HA.out.1 HA.out.2).mono ?_); rintro e w1 ⟨x, rfl, hx, hx1⟩)
   |((with_reducible refine (zdj b _ HB.out.1 HB.out.2).mono ?_); rintro e w2 ⟨y, rfl, hy, hy1⟩; have hx2 := hx.below hy1))
  |(go_at_call 142; (with_reducible refine (zsb _ x y a.natAbs b.natAbs _ hx2.nat hy.nat HBN.out H1.out H2.out).mono ?_); rintro e w3 ⟨v, er, rfl, hv1, hv2, hv3⟩
    obtain ⟨t, x1, y1, rfl, ⟨a1, l1, k1, rfl, _⟩, ⟨a2, l2, k2, rfl, _⟩⟩ := zwb (w0 := w) hv2 hv3
    have hC := (((C3.new w _ _ _ _).belowS hx1).belowS hy1).belowS hv1
    have HC := zH hC
    have hbz := (zca w _).trans ((hx1.trans ((hy1.trans (hv1.mono hy1.size)).mono hx1.size)).mono (zca w _).size)
    obtain ⟨_, d0, d1, d2, e0, e1, e2⟩ := hC))
 refine zoa rfl rfl Tryz.aggF Tryz.sizeF (HC.out.set _ _ _) rfl ?_
 exact ⟨_, _, rfl, zha hbz (Nat.le_refl _) _ _ _, fun h => ⟨(hv2 h).1, (hv2 h).2.set3 HC.out (fun z => by simp) (fun z => by simp) _ _ _⟩, hv3⟩
theorem zod (v : Value) (s : Bool) (n d : Nat) (w : World) (h : zlb w v s n d) (hk : okN n d) :
 Calls Tryz.prog 79 #[v] w fun e w' => e = .returned (.bool true) ∧ Below w.heap.size w w' :=
 (valid_any v s n d w h).mono fun e w' ⟨h1, h2⟩ => ⟨by rw [h1, decide_eq_true hk], h2⟩
theorem C3.allocS {w : World} {b : Nat} {v0 v1 v2 : Value} (h : C3 w b v0 v1 v2) (o : Obj) : C3 (w.alloc o) b v0 v1 v2 := h.belowS (zca w o)
theorem zcd (w : World) (t : TypeId) (x0 x1 x2 y0 y1 y2 z0 z1 z2 : Value) (W : World)
 (hW : W = ((w.alloc (.cells #[x0, x1, x2] t)).alloc (.cells #[y0, y1, y2] t)).alloc (.cells #[z0, z1, z2] t)) :
 C3 W w.heap.size x0 x1 x2 ∧ C3 W (w.heap.size + 1) y0 y1 y2 ∧ C3 W (w.heap.size + 1 + 1) z0 z1 z2 ∧ Below w.heap.size w W := by
 subst hW
 have e1 : (w.alloc (.cells #[x0, x1, x2] t)).heap.size = w.heap.size + 1 := by show (w.heap.push _).size = _; simp
 have e2 : ((w.alloc (.cells #[x0, x1, x2] t)).alloc (.cells #[y0, y1, y2] t)).heap.size = w.heap.size + 1 + 1 := by show (World.heap _ |>.push _).size = _; rw [Array.size_push, e1]
 refine ⟨((C3.new w t x0 x1 x2).allocS _).allocS _, ?_, ?_, ?_⟩
 ·rw [← e1]; exact (C3.new _ t y0 y1 y2).allocS _
 ·rw [← e2]; exact C3.new _ t z0 z1 z2
 ·exact (zca w _).trans (((zca _ _).trans ((zca _ _).mono (zca _ _).size)).mono (zca w _).size)
theorem zif {a b j k : Nat} (ha : zea a ≤ j) (hb : zea b ≤ k) : zea (a * b) ≤ j + k := by
 rw [zyb] at *
 have := Nat.mul_lt_mul'' ha hb
 rwa [← pw_add] at this
theorem nlen_sum {a b k : Nat} (ha : zea a ≤ k) (hb : zea b ≤ k) : zea (a + b) ≤ k + 1 := by
 rw [zyb] at *
 rw [zjb]; omega
theorem cmp_ge0 (va vb : Value) (m n : Nat) (w : World) (ha : zpb w va m) (hb : zpb w vb n) (h : n ≤ m) :
 Calls Tryz.prog 159 #[va, vb] w fun e w' => (∃ c : Int, e = .returned (.int .i64 c) ∧ decide (0 ≤ c) = true) ∧ Below w.heap.size w w' :=
 (zkl va vb m n w ha hb).mono fun _ _ ⟨a, k, b⟩ => ⟨⟨_, a, by unfold zsl; rw [if_neg (by omega)]; split <;> rfl⟩, b ▸ zqa w k⟩
theorem cmp_lt0 (va vb : Value) (m n : Nat) (w : World) (ha : zpb w va m) (hb : zpb w vb n) (h : m < n) :
 Calls Tryz.prog 159 #[va, vb] w fun e w' => (∃ c : Int, e = .returned (.int .i64 c) ∧ decide (0 ≤ c) = false) ∧ Below w.heap.size w w' :=
 (zkl va vb m n w ha hb).mono fun _ _ ⟨a, k, b⟩ => ⟨⟨_, a, by rw [zzg h]; rfl⟩, b ▸ zqa w k⟩
theorem zpd {n d : Nat} (h : okN n d) : zea n ≤ 128 ∧ zea d ≤ 128 := ⟨zpc h.2.2, zpc h.2.1⟩
set_option maxRecDepth 100000 in
set_option maxHeartbeats 1600000 in
theorem zrn (va vb : Value) (s t : Bool) (n d m e : Nat) (w : World) (ha : zlb w va s n d) (hb : zlb w vb t m e) (h1 : okN n d) (h2 : okN m e) :
 Calls Tryz.prog 80 #[va, vb] w (zwl w (fq s n d + fq t m e)) := by
 have hA := ha
 have hB := hb
 obtain ⟨xn, xd, rfl, hxn, hxd⟩ := ha
 obtain ⟨yn, yd, rfl, hyn, hyd⟩ := hb
 obtain ⟨an, ln, kn, rfl, _⟩ := hxn.slen.1
 obtain ⟨ad, ld, kd, rfl, _⟩ := hxd.slen.1
 obtain ⟨am, lm, km, rfl, _⟩ := hyn.slen.1
 obtain ⟨ae, le, ke, rfl, _⟩ := hyd.slen.1
 have K1 := zH h1
 have K2 := zH h2
 clear h1 h2
 go_enter Tryz.func80, Tryz.ntmps80
 go_wp2_with fail
 obtain ⟨W, hW⟩ : ∃ W, W = (((w.alloc (.cells #[.bool s, .slice an ln kn, .slice ad ld kd] 38)).alloc (.cells #[.bool t, .slice am lm km, .slice ae le ke] 38)).alloc (.cells #[.bool false, .slice none 0 0, .slice none 0 0] 38)) := ⟨_, rfl⟩
 obtain ⟨bx, byy, bz, hbw⟩ := zcd w 38 _ _ _ _ _ _ _ _ _ W hW
 rw [← hW]
 clear hW
 have HBX := zH bx
 have HBY := zH byy
 have HBZ := zH bz
 obtain ⟨_, q1, q2, q3, q4, q5, q6⟩ := bx
 obtain ⟨_, r1, r2, r3, r4, r5, r6⟩ := byy
 go_wp2_with (first
  |(go_at_call 79; first
    |((with_reducible refine (zod _ s n d _ (hA.below hbw) K1.out).mono ?_); rintro e9 w1 ⟨rfl, hv1⟩
      obtain ⟨_, f1, f2, f3, f4, f5, f6⟩ := HBY.out.belowS hv1
      have hbw1 := hbw.trans (hv1.mono hbw.size))
    |((with_reducible refine (zod _ t m e _ (hB.below hbw1) K2.out).mono ?_); rintro e9 w2 ⟨rfl, hv2⟩
      have hbx2 := (HBX.out.belowS hv1).belowS hv2
      have hby2 := (HBY.out.belowS hv1).belowS hv2
      have hbz2 := (HBZ.out.belowS hv1).belowS hv2
      have hbw2 := hbw1.trans (hv2.mono hbw1.size))))
 clear q1 q2 q3 q4 q5 q6 r1 r2 r3 r4 r5 r6 f1 f2 f3 f4 f5 f6
 have hd2 := zga (B := w2.heap.size) w2
 have hD := hbw2.trans (hd2.mono hbw2.size)
 have hbx3 := hbx2.belowS hd2
 have hby3 := hby2.belowS hd2
 have hbz3 := hbz2.belowS hd2
 clear hbx2 hby2 hbz2 hbw2 hv1 hv2 hbw hbw1 HBX HBY HBZ bz hd2
 have HX3 := zH hbx3
 have HY3 := zH hby3
 have HZ3 := zH hbz3
 obtain ⟨_, q1, q2, q3, q4, q5, q6⟩ := hbx3
 obtain ⟨_, r1, r2, r3, r4, r5, r6⟩ := hby3
 clear hbz3
 have g1 := hxn.below hD
 have g2 := hxd.below hD
 have g3 := hyn.below hD
 have g4 := hyd.below hD
 have l1 := zH (zpd K1.out)
 have l2 := zH (zpd K2.out)
 have T1 := zH (Nat.le_trans l1.out.1 (show 128 ≤ 256 by decide))
 have T2 := zH (Nat.le_trans l2.out.2 (show 128 ≤ 256 by decide))
 have T3 := zH (Nat.le_trans l2.out.1 (show 128 ≤ 256 by decide))
 have T4 := zH (Nat.le_trans l1.out.2 (show 128 ≤ 256 by decide))
 have tok1 : True := trivial
 have tok2 : True := trivial
 have tok3 : True := trivial
 go_region_held3 (fun w' => w'.cell? ⟨w.heap.size, 1, none⟩ = some (.slice an ln kn) ∧ w'.cell? ⟨w.heap.size, 2, none⟩ = some (.slice ad ld kd) ∧ w'.cell? ⟨w.heap.size + 1, 1, none⟩ = some (.slice am lm km) ∧ w'.cell? ⟨w.heap.size + 1, 2, none⟩ = some (.slice ae le ke)) (exact ⟨q2, q3, r2, r3⟩) (first
  |(go_at_call 157; have _t := tok1; clear tok1 _t; (with_reducible refine (zdb _ _ n e _ g1 g4 T1.out T2.out).mono ?_); rintro e9 w3 ⟨p1, rfl, hp1, hp2⟩
    have X4 := HX3.out.belowS hp2
    have Y4 := HY3.out.belowS hp2
    have HX4 := zH X4
    have HY4 := zH Y4
    obtain ⟨_, q1, q2, q3, q4, q5, q6⟩ := X4
    obtain ⟨_, r1, r2, r3, r4, r5, r6⟩ := Y4)
  |(go_at_call 157; have _t := tok2; clear tok2 _t; (with_reducible refine (zdb _ _ m d _ (g3.below hp2) (g2.below hp2) T3.out T4.out).mono ?_); rintro e9 w4 ⟨p3, rfl, hp3, hp4⟩
    have hp24 := zaa hp2 hp4
    have hp14 := hp1.below hp4
    have X5 := HX4.out.belowS hp4
    have Y5 := HY4.out.belowS hp4
    have HX5 := zH X5
    have HY5 := zH Y5
    obtain ⟨_, q1, q2, q3, q4, q5, q6⟩ := X5
    obtain ⟨_, r1, r2, r3, r4, r5, r6⟩ := Y5)
  |(go_at_call 157; have _t := tok3; clear tok3 _t; (with_reducible refine (zdb _ _ d e _ (g2.below hp24) (g4.below hp24) T4.out T2.out).mono ?_); rintro e9 w5 ⟨p5, rfl, hp5, hp6⟩
    have hp26 := zaa hp24 hp6
    have hp16 := hp14.below hp6
    have hp36 := hp3.below hp6
    have X6 := HX5.out.belowS hp6
    have Y6 := HY5.out.belowS hp6
    have HX6 := zH X6
    have HY6 := zH Y6
    obtain ⟨_, q1, q2, q3, q4, q5, q6⟩ := X6
    obtain ⟨_, r1, r2, r3, r4, r5, r6⟩ := Y6))
 have hdw : Below w.heap.size w w5 := hD.trans (hp26.mono hD.size)
 have HZ6 := zH (HZ3.out.belowS hp26)
 have HDE : Hid (d * e ≠ 0) := zH (Nat.mul_ne_zero K1.out.1 K2.out.1)
 have N1 := zH (zif l1.out.1 l2.out.2)
 have N3 := zH (zif l2.out.1 l1.out.2)
 have N5 := zH (Nat.le_trans (zif l1.out.2 l2.out.2) (show 128 + 128 ≤ 512 by decide))
 have NS := zH (Nat.le_trans (nlen_sum N1.out N3.out) (show 128 + 128 + 1 ≤ 512 by decide))
 have N12 := zH (Nat.le_trans N1.out (show 128 + 128 ≤ 512 by decide))
 have N32 := zH (Nat.le_trans N3.out (show 128 + 128 ≤ 512 by decide))
 clear hp24 hp26 hp14 hp1 hp3 hp2 hp4 hp6 hD HZ3 g1 g2 g3 g4 HX3 HY3 HX4 HY4 HX5 HY5 T1 T2 T3 T4
 by_cases hst : s = t
 ·have HQ := zH (zal s n d m e K1.out.1 K2.out.1)
  subst hst
  go_wp2_with (first
   |(go_at_call 158; (with_reducible refine (add_any p1 p3 (n * e) (m * d) _ hp16.nat hp36.nat N12.out N32.out).mono ?_); rintro e9 w6 ⟨r, er, rfl, hr, hb6⟩
     have hr6 := (hr.1 NS.out).2
     have hp56 := hp5.below hb6
     have hdw6 := zaa hdw hb6
     have HZ7 := zH (HZ6.out.belowS hb6)
     obtain ⟨_, q1, q2, q3, q4, q5, q6⟩ := HX6.out.belowS hb6
     obtain ⟨_, r1, r2, r3, r4, r5, r6⟩ := HY6.out.belowS hb6
     )
   |(go_at_call 142; (with_reducible refine (zsb s r p5 (n * e + m * d) (d * e) _ hr6.nat hp56.nat HDE.out NS.out N5.out).mono ?_); rintro e9 w7 ⟨v, er7, rfl, hv1, hv2, hv3⟩
     rw [← HQ.out] at hv2 hv3
     obtain ⟨t9, x9, y9, rfl, ⟨a1, l91, k1, rfl, _⟩, ⟨a2, l92, k2, rfl, _⟩⟩ := zwb (w0 := w) hv2 hv3
     have hC := HZ7.out.belowS hv1
     have HC := zH hC
     have hbz := zaa hdw6 hv1
     obtain ⟨_, d0, d1, d2, e0, e1, e2⟩ := hC
     )
   )
  refine zoa rfl rfl Tryz.aggF Tryz.sizeF (HC.out.set _ _ _) rfl ?_
  exact ⟨_, _, rfl, zha hbz (by omega) _ _ _, fun h => ⟨(hv2 h).1, (hv2 h).2.set3 HC.out (fun z => by simp) (fun z => by simp) _ _ _⟩, hv3⟩
 ·have hsb : (s == t) = false := by simpa using hst
  by_cases hle : m * d ≤ n * e
  ·have HQ := zH (fq_add_ge s t n d m e K1.out.1 K2.out.1 hsb hle)
   have HLE := zH hle
   have NS := zH (Nat.le_trans (zib (Nat.sub_le (n * e) (m * d))) N12.out)
   clear hle
   go_wp2_with (first
    |(go_at_call 159; (with_reducible refine (cmp_ge0 p1 p3 (n * e) (m * d) _ hp16.nat hp36.nat HLE.out).mono ?_); rintro e9 w5b ⟨⟨c, rfl, hc⟩, hb5⟩
      have hp16 := hp16.below hb5
      have hp36 := hp36.below hb5
      have hp5 := hp5.below hb5
      have HX6 := zH (HX6.out.belowS hb5)
      have HY6 := zH (HY6.out.belowS hb5)
      have HZ6 := zH (HZ6.out.belowS hb5)
      have hdw := zaa hdw hb5)
    |(go_at_call 160; (with_reducible refine (sub_any p1 p3 (n * e) (m * d) _ hp16.nat hp36.nat N12.out HLE.out).mono ?_); rintro e9 w6 ⟨r, er, rfl, hr, hb6⟩
      have hr6 := (hr.1 NS.out).2
      have hp56 := hp5.below hb6
      have hdw6 := zaa hdw hb6
      have HZ7 := zH (HZ6.out.belowS hb6)
      obtain ⟨_, q1, q2, q3, q4, q5, q6⟩ := HX6.out.belowS hb6
      obtain ⟨_, r1, r2, r3, r4, r5, r6⟩ := HY6.out.belowS hb6
      )
    |(go_at_call 142; (with_reducible refine (zsb s r p5 (n * e - m * d) (d * e) _ hr6.nat hp56.nat HDE.out NS.out N5.out).mono ?_); rintro e9 w7 ⟨v, er7, rfl, hv1, hv2, hv3⟩
      rw [← HQ.out] at hv2 hv3
      obtain ⟨t9, x9, y9, rfl, ⟨a1, l91, k1, rfl, _⟩, ⟨a2, l92, k2, rfl, _⟩⟩ := zwb (w0 := w) hv2 hv3
      have hC := HZ7.out.belowS hv1
      have HC := zH hC
      have hbz := zaa hdw6 hv1
      obtain ⟨_, d0, d1, d2, e0, e1, e2⟩ := hC
      )
    )
   refine zoa rfl rfl Tryz.aggF Tryz.sizeF (HC.out.set _ _ _) rfl ?_
   exact ⟨_, _, rfl, zha hbz (by omega) _ _ _, fun h => ⟨(hv2 h).1, (hv2 h).2.set3 HC.out (fun z => by simp) (fun z => by simp) _ _ _⟩, hv3⟩
  ·have hlt : n * e < m * d := Nat.lt_of_not_le hle
   have HQ := zH (fq_add_lt s t n d m e K1.out.1 K2.out.1 hsb (Nat.le_of_lt hlt))
   have HLT := zH hlt
   have NS := zH (Nat.le_trans (zib (Nat.sub_le (m * d) (n * e))) N32.out)
   clear hle hlt
   go_wp2_with (first
    |(go_at_call 159; (with_reducible refine (cmp_lt0 p1 p3 (n * e) (m * d) _ hp16.nat hp36.nat HLT.out).mono ?_); rintro e9 w5b ⟨⟨c, rfl, hc⟩, hb5⟩
      have hp16 := hp16.below hb5
      have hp36 := hp36.below hb5
      have hp5 := hp5.below hb5
      have HX6 := zH (HX6.out.belowS hb5)
      have HY6 := zH (HY6.out.belowS hb5)
      have HZ6 := zH (HZ6.out.belowS hb5)
      have hdw := zaa hdw hb5)
    |(go_at_call 160; (with_reducible refine (sub_any p3 p1 (m * d) (n * e) _ hp36.nat hp16.nat N32.out (Nat.le_of_lt HLT.out)).mono ?_); rintro e9 w6 ⟨r, er, rfl, hr, hb6⟩
      have hr6 := (hr.1 NS.out).2
      have hp56 := hp5.below hb6
      have hdw6 := zaa hdw hb6
      have HZ7 := zH (HZ6.out.belowS hb6)
      obtain ⟨_, q1, q2, q3, q4, q5, q6⟩ := HX6.out.belowS hb6
      obtain ⟨_, r1, r2, r3, r4, r5, r6⟩ := HY6.out.belowS hb6
      )
    |(go_at_call 142; (with_reducible refine (zsb t r p5 (m * d - n * e) (d * e) _ hr6.nat hp56.nat HDE.out NS.out N5.out).mono ?_); rintro e9 w7 ⟨v, er7, rfl, hv1, hv2, hv3⟩
      rw [← HQ.out] at hv2 hv3
      obtain ⟨t9, x9, y9, rfl, ⟨a1, l91, k1, rfl, _⟩, ⟨a2, l92, k2, rfl, _⟩⟩ := zwb (w0 := w) hv2 hv3
      have hC := HZ7.out.belowS hv1
      have HC := zH hC
      have hbz := zaa hdw6 hv1
      obtain ⟨_, d0, d1, d2, e0, e1, e2⟩ := hC
      )
    )
   refine zoa rfl rfl Tryz.aggF Tryz.sizeF (HC.out.set _ _ _) rfl ?_
   exact ⟨_, _, rfl, zha hbz (by omega) _ _ _, fun h => ⟨(hv2 h).1, (hv2 h).2.set3 HC.out (fun z => by simp) (fun z => by simp) _ _ _⟩, hv3⟩
end Go.Proofs.YtlpdkbmmbdfoiaaGreat
namespace Go.Proofs.YtlpdkbmmbdfoiaaGreat
def zwg (l : List Rat) : Rat := l.foldl (· + ·) 0
theorem zvk (l : List Rat) (x : Rat) : zwg (l ++ [x]) = zwg l + x := by unfold zwg; rw [List.foldl_append]; rfl
theorem lsum_take (l : List Rat) (k : Nat) (h : k < l.length) : zwg (l.take (k + 1)) = zwg (l.take k) + l[k] := by rw [zvc l k h, zvk]
def wt (q : Rat) : Nat := if q.num = 0 then 0 else zta q.num.natAbs + if q.den = 1 then 0 else zta q.den
def wts (l : List Rat) : Nat := (l.map wt).sum
theorem zcg (x : Rat) (l : List Rat) : wts (x :: l) = wt x + wts l := by simp [wts]
theorem wts_snoc (l : List Rat) (x : Rat) : wts (l ++ [x]) = wts l + wt x := by simp [wts]
theorem wts_sub {l m : List Rat} (h : l.Sublist m) : wts l ≤ wts m := by
 induction h with
 | slnil => exact Nat.le_refl _
 | cons x _ ih => rw [zcg]; omega
 | cons_cons x _ ih => rw [zcg, zcg]; omega
def slim (q : Rat) (k : Nat) : Prop := ∃ N D : Nat, D ≠ 0 ∧ q = fq false N D ∧ N + D ≤ 2 ^ k
theorem slim_zero : slim 0 0 := ⟨0, 1, by decide, by decide, by decide⟩
theorem slim_add {p q : Rat} {j k : Nat} (hp : slim p j) (hq : slim q k) : slim (p + q) (j + k) := by
 obtain ⟨N, D, h1, rfl, h2⟩ := hp
 obtain ⟨n, d, h3, rfl, h4⟩ := hq
 refine ⟨N * d + n * D, D * d, Nat.mul_ne_zero h1 h3, zal _ _ _ _ _ h1 h3, ?_⟩
 rw [Nat.pow_add]
 have h5 := Nat.mul_le_mul h2 h4
 rw [Nat.add_mul, Nat.mul_add, Nat.mul_add] at h5
 have e : n * D = D * n := Nat.mul_comm _ _
 have := Nat.zero_le (N * n)
 omega
theorem slim_wt (q : Rat) (h : 0 ≤ q) : slim q (wt q) := by
 refine ⟨q.num.natAbs, q.den, q.den_nz, ?_, ?_⟩
 ·have e := zdc q
  rw [decide_eq_false (Rat.not_lt.2 h)] at e
  exact e.symm
 ·unfold wt
  have h0 : zta q.num.natAbs ≤ zta q.num.natAbs := Nat.le_refl _
  have h1 : zta q.den ≤ zta q.den := Nat.le_refl _
  rw [zub] at h0 h1
  split
  ·next hz =>
   have e : q = 0 := Rat.num_eq_zero.1 hz
   subst e
   decide
  ·split
   ·next hz hd => simp only [hd, Nat.add_zero]; omega
   ·next hz hd =>
    have hn : q.num.natAbs ≠ 0 := by omega
    have hd0 := q.den_nz
    have h2 : 1 < zta q.den := zke.2 (by omega)
    have h3 : 0 < zta q.num.natAbs := zid.2 hn
    rw [Nat.pow_add]
    have e1 : 2 ^ 1 ≤ 2 ^ zta q.num.natAbs := Nat.pow_le_pow_right (by decide) h3
    have e2 : 2 ^ 1 ≤ 2 ^ zta q.den := Nat.pow_le_pow_right (by decide) (by omega)
    generalize 2 ^ zta q.num.natAbs = A at *
    generalize 2 ^ zta q.den = B at *
    obtain ⟨a, rfl⟩ : ∃ a, A = a + 2 := ⟨A - 2, by omega⟩
    obtain ⟨b, rfl⟩ : ∃ b, B = b + 2 := ⟨B - 2, by omega⟩
    have e3 : (a + 2) * (b + 2) = a * b + 2 * a + 2 * b + 4 := by grind
    rw [e3]
    have := Nat.zero_le (a * b)
    omega
theorem slim_lsum (l : List Rat) (h : ∀ q ∈ l, 0 ≤ q) : slim (zwg l) (wts l) := by
 have key : ∀ (m : List Rat) (s : Rat) (k : Nat), slim s k → (∀ q ∈ m, 0 ≤ q) → slim (m.foldl (· + ·) s) (k + wts m) := by
  intro m
  induction m with
  | nil => intro s k hs _; exact hs
  | cons x m ih =>
    intro s k hs hm
    rw [List.foldl_cons, zcg, ← Nat.add_assoc]
    exact ih _ _ (slim_add hs (slim_wt x (hm x (by simp)))) (fun q hq => hm q (by simp [hq]))
 have := key l 0 0 slim_zero h
 rwa [Nat.zero_add] at this
theorem zje {n k : Nat} (h : n < 2 ^ k) : zta n ≤ k := zub.2 h
theorem slim_fits {q : Rat} {k : Nat} (h : slim q k) (hk : k ≤ 4095) : fits q := by
 obtain ⟨N, D, h1, rfl, h3⟩ := h
 have h5 : 2 ^ k < 2 ^ (k + 1) := Nat.pow_lt_pow_right (by decide) (Nat.lt_succ_self k)
 have h6 : k + 1 ≤ 4096 := by omega
 refine ⟨?_, ?_⟩
 ·rw [zaf _ _ _ h1]
  exact Nat.le_trans (zje (Nat.lt_of_le_of_lt (Nat.div_le_self _ _) (Nat.lt_of_le_of_lt (Nat.le_trans (Nat.le_add_right N D) h3) h5))) h6
 ·rw [zkm _ _ _ h1]
  exact Nat.le_trans (zje (Nat.lt_of_le_of_lt (Nat.div_le_self _ _) (Nat.lt_of_le_of_lt (Nat.le_trans (Nat.le_add_left D N) h3) h5))) h6
theorem lsum_fits {l m : List Rat} (hs : l.Sublist m) (h : ∀ q ∈ m, 0 ≤ q) (hw : wts m ≤ 3800) : fits (zwg l) :=
 slim_fits (slim_lsum l (fun q hq => h q (hs.subset hq))) (by have := wts_sub hs; omega)
end Go.Proofs.YtlpdkbmmbdfoiaaGreat
namespace Go.Proofs.YtlpdkbmmbdfoiaaGreat
open Go.RowKit
@[go_sem] theorem ptr_off1 (v : Value) (k : Nat) : (⟨(ptr v k).block, (ptr v k).off + 1, none⟩ : Addr) = ptr v (k + 1) := by rw [← ptr_add]; simp [Addr.add]
@[go_sem] theorem ptr_off2 (v : Value) (k : Nat) : (⟨(ptr v k).block, (ptr v k).off + 2, none⟩ : Addr) = ptr v (k + 2) := by rw [← ptr_add]; simp [Addr.add]
structure RF where
 neg : Bool
 n : Nat
 d : Nat
def RF.q (x : RF) : Rat := fq x.neg x.n x.d
def RF.ok (x : RF) : Prop := okN x.n x.d
instance (x : RF) : Decidable x.ok := inferInstanceAs (Decidable (okN _ _))
def RF.of (q : Rat) : RF := ⟨decide (q < 0), q.num.natAbs, q.den⟩
theorem RF.of_q (q : Rat) : (RF.of q).q = q := zdc q
theorem RF.of_ok {q : Rat} (h : fits q) : (RF.of q).ok := ⟨q.den_nz, h.2, h.1⟩
def FracAt (w : World) (v : Value) (k : Nat) (x : RF) : Prop :=
 ∃ a b, w.cell? (ptr v k) = some (.bool x.neg) ∧ w.cell? (ptr v (k + 1)) = some a ∧ w.cell? (ptr v (k + 2)) = some b ∧ zpb w a x.n ∧ zpb w b x.d
theorem zba {w w' : World} (hb : Below w.heap.size w w') {p : Addr} {x : Value} (h : w.cell? p = some x) : w'.cell? p = some x := by
 have hlt := World.block_lt_of_cell? w _ h
 rw [hb.cell hlt]; exact h
theorem FracAt.below {w w' : World} {v : Value} {k : Nat} {x : RF} (h : FracAt w v k x) (hb : Below w.heap.size w w') : FracAt w' v k x := by
 obtain ⟨a, b, h1, h2, h3, h4, h5⟩ := h
 exact ⟨a, b, zba hb h1, zba hb h2, zba hb h3, h4.below hb, h5.below hb⟩
structure zci (w : World) (v : Value) (l : List RF) : Prop where
 sl : zlc v
 len : slen v = l.length
 at' : ∀ (j : Nat) (h : j < l.length), FracAt w v (j * 3) l[j]
theorem zci.below {w w' : World} {v : Value} {l : List RF} (h : zci w v l) (hb : Below w.heap.size w w') : zci w' v l :=
 ⟨h.sl, h.len, fun j hj => (h.at' j hj).below hb⟩
structure zza (w : World) (v : Value) (qs : List Rat) : Prop where
 sl : zlc v
 len : slen v = qs.length
 at' : ∀ (j : Nat) (h : j < qs.length), ∃ a b, w.cell? (ptr v (j * 3)) = some (.bool (decide (qs[j] < 0))) ∧ w.cell? (ptr v (j * 3 + 1)) = some a ∧ w.cell? (ptr v (j * 3 + 2)) = some b ∧ zgb w a qs[j].num.natAbs ∧ zgb w b qs[j].den
theorem zza.below {w w' : World} {v : Value} {l : List Rat} (h : zza w v l) (hb : Below w.heap.size w w') : zza w' v l :=
 ⟨h.sl, h.len, fun j hj => by
  obtain ⟨a, b, h1, h2, h3, h4, h5⟩ := h.at' j hj
  exact ⟨a, b, zba hb h1, zba hb h2, zba hb h3, h4.below hb, h5.below hb⟩⟩
theorem zza.raw {w : World} {v : Value} {qs : List Rat} (h : zza w v qs) : zci w v (qs.map RF.of) :=
 ⟨h.sl, by rw [h.len, List.length_map], fun j hj => by
  obtain ⟨a, b, h1, h2, h3, h4, h5⟩ := h.at' j (by simpa using hj)
  rw [List.getElem_map]
  exact ⟨a, b, h1, h2, h3, h4.nat, h5.nat⟩⟩
structure zql (w : World) (v : Value) (l : List Value) : Prop where
 sl : zlc v
 len : slen v = l.length
 cell : ∀ (j : Nat) (h : j < l.length), w.cell? (ptr v j) = some l[j]
theorem zql.below {w w' : World} {v : Value} {l : List Value} (h : zql w v l) (hb : Below w.heap.size w w') : zql w' v l :=
 ⟨h.sl, h.len, fun j hj => zba hb (h.cell j hj)⟩
def zrl (w : World) (v : Value) (l : List Bool) : Prop := zql w v (l.map Value.bool)
theorem zrl.below {w w' : World} {v : Value} {l : List Bool} (h : zrl w v l) (hb : Below w.heap.size w w') : zrl w' v l := zql.below h hb
theorem zrl.at' {w : World} {v : Value} {l : List Bool} (h : zrl w v l) (j : Nat) (hj : j < l.length) : w.cell? (ptr v j) = some (.bool l[j]) := by
 have := h.cell j (by simpa using hj); simpa using this
structure MatN (w : World) (v : Value) (m : List (List RF)) : Prop where
 sl : zlc v
 len : slen v = m.length
 at' : ∀ (j : Nat) (h : j < m.length), ∃ r, w.cell? (ptr v j) = some r ∧ zci w r m[j]
theorem MatN.below {w w' : World} {v : Value} {m : List (List RF)} (h : MatN w v m) (hb : Below w.heap.size w w') : MatN w' v m :=
 ⟨h.sl, h.len, fun j hj => by obtain ⟨r, h1, h2⟩ := h.at' j hj; exact ⟨r, zba hb h1, h2.below hb⟩⟩
structure RC where
 rates : List (List RF)
 start : List RF
 lost : List Bool
def qs (l : List RF) : List Rat := l.map RF.q
theorem lsum_qs (l : List RF) (k : Nat) (h : k < l.length) : zwg (qs (l.take (k + 1))) = zwg (qs (l.take k)) + l[k].q := by
 rw [zvc l k h]; unfold qs; rw [List.map_append]; exact zvk _ _
theorem make_one (w : World) : Calls Tryz.prog 187 #[.int .u64 1] w (RNat w 1) := znj 1 (by decide) w
theorem C3.frac {w : World} {v0 v1 v2 : Value} {q : Rat} (h : zya w (.agg #[v0, v1, v2]) q) : ∃ s a1 l1 k1 a2 l2 k2, v0 = .bool s ∧ v1 = .slice a1 l1 k1 ∧ v2 = .slice a2 l2 k2 := by
 obtain ⟨s, x, y, e, ⟨a1, l1, k1, rfl, _⟩, ⟨a2, l2, k2, rfl, _⟩⟩ := h.isF
 injection e with e
 injection e with e
 simp at e
 exact ⟨s, a1, l1, k1, a2, l2, k2, e.1, e.2.1, e.2.2⟩
theorem C3.set_other {w : World} {b b' : Nat} {v0 v1 v2 : Value} (h : C3 w b v0 v1 v2) (hb : b ≠ b') (u0 u1 u2 : Value) : C3 (((w.setCell ⟨b', 0, none⟩ u0).setCell ⟨b', 1, none⟩ u1).setCell ⟨b', 2, none⟩ u2) b v0 v1 v2 := by
 obtain ⟨lt, c0, c1, c2, f0, f1, f2⟩ := h
 refine ⟨by simpa [World.setCell] using lt, ?_, ?_, ?_, ?_, ?_, ?_⟩ <;> go_simp
theorem zzc {q : Rat} (h : fits q) : okN q.num.natAbs q.den := ⟨q.den_nz, h.2, h.1⟩
set_option maxHeartbeats 1600000 in
theorem sum_frac (va : Value) (l : List RF) (w : World) (ha : zci w va l) (hok : ∀ x ∈ l, x.ok) (hfit : ∀ k, k ≤ l.length → fits (zwg (qs (l.take k)))) :
 Calls Tryz.prog 137 #[va] w fun e w' => ∃ v, e = .returned (.tuple #[v, .int .i64 0]) ∧ zya w' v (zwg (qs l)) ∧ Below w.heap.size w w' := by
 have sa := ha.sl
 have la := ha.len
 have hle := sa.le
 rw [la] at hle
 have hlb : l.length ≤ 9223372036854775807 := by omega
 have HOK := zH hok
 have HFIT := zH hfit
 clear hok hfit hle
 go_enter Tryz.func137, Tryz.ntmps137
 go_wp2_with (go_at_call 187; (with_reducible refine (make_one _).mono ?_); rintro e w1 ⟨r1, rfl, hr1, hb1⟩; obtain ⟨a1, l1, k1, rfl, _⟩ := hr1.v.sl)
 have hb0 := (zca w (.cells #[.bool false, .slice none 0 0, .slice none 0 0] 38))
 have hbw := zaa hb0 hb1
 have hr := (C3.new w 38 _ _ _).belowS hb1
 have hlt : w.heap.size < w1.heap.size := hr.lt
 have hr2 := hr.allocS (.cells #[.bool false, .slice none 0 0, .slice a1 l1 k1] 38)
 have hs2 := C3.new w1 38 (.bool false) (.slice none 0 0) (.slice a1 l1 k1)
 have hb2 := zaa hbw (zca w1 (.cells #[.bool false, .slice none 0 0, .slice a1 l1 k1] 38))
 have hf2 : zya (w1.alloc (.cells #[.bool false, .slice none 0 0, .slice a1 l1 k1] 38)) (.agg #[.bool false, .slice none 0 0, .slice a1 l1 k1]) 0 := ⟨_, _, rfl, zgb.nil _, hr1.below (zca _ _)⟩
 generalize w1.alloc (.cells #[.bool false, .slice none 0 0, .slice a1 l1 k1] 38) = W1 at *
 generalize w1.heap.size = S at *
 clear hb0 hb1 hbw hr hr1
 go_loopw [13] (fun u13 wr => ∃ (k : Nat) (v0 v1 v2 : Value), k ≤ l.length ∧ u13 = .int .i64 k ∧ C3 wr S v0 v1 v2 ∧ zya wr (.agg #[v0, v1, v2]) (zwg (qs (l.take k))) ∧ C3 wr w.heap.size (.bool false) (.slice none 0 0) (.slice none 0 0) ∧ Below w.heap.size w wr) (fun u13 _ => l.length - (intOf u13).toNat)
 case atStart => exact ⟨0, _, _, _, Nat.zero_le _, rfl, hs2, hf2, hr2, hb2⟩
 case round =>
  obtain ⟨k, v0, v1, v2, hk, rfl, hs, hf, hr, hb⟩ := hrel
  clear hs2 hf2 hr2 hb2
  obtain ⟨s0, b1, m1, j1, b2, m2, j2, rfl, rfl, rfl⟩ := C3.frac hf
  have HS := zH hs
  have HR := zH hr
  have HF := zH hf
  obtain ⟨_, s1, s2, s3, s4, s5, s6⟩ := hs
  obtain ⟨_, q1, q2, q3, q4, q5, q6⟩ := hr
  clear hf
  by_cases hkl : k < l.length
  ·obtain ⟨xa, xb, c1, c2, c3, hxa, hxb⟩ := (ha.below hb).at' k hkl
   obtain ⟨c1a, c1l, c1k, rfl, _⟩ := hxa.slen.1
   obtain ⟨c2a, c2l, c2k, rfl, _⟩ := hxb.slen.1
   have hA : zlb (wr.alloc (.cells #[.bool l[k].neg, .slice c1a c1l c1k, .slice c2a c2l c2k] 38)) (.agg #[.bool l[k].neg, .slice c1a c1l c1k, .slice c2a c2l c2k]) l[k].neg l[k].n l[k].d := ⟨_, _, rfl, hxa.below (zca _ _), hxb.below (zca _ _)⟩
   have hB := (HF.out.raw).below (zca wr (.cells #[.bool l[k].neg, .slice c1a c1l c1k, .slice c2a c2l c2k] 38))
   have hs1 := HS.out.allocS (.cells #[.bool l[k].neg, .slice c1a c1l c1k, .slice c2a c2l c2k] 38)
   have hr1 := HR.out.allocS (.cells #[.bool l[k].neg, .slice c1a c1l c1k, .slice c2a c2l c2k] 38)
   have hb1 := zaa hb (zca wr (.cells #[.bool l[k].neg, .slice c1a c1l c1k, .slice c2a c2l c2k] 38))
   have HO : Hid (okN l[k].n l[k].d) := zH (HOK.out l[k] (List.getElem_mem hkl))
   have HQ := zH (zzc (HFIT.out k hk))
   have HE : Hid (fq (decide (zwg (qs (l.take k)) < 0)) (zwg (qs (l.take k))).num.natAbs (zwg (qs (l.take k))).den + fq l[k].neg l[k].n l[k].d = zwg (qs (l.take (k + 1)))) := zH (by rw [zdc, lsum_qs l k hkl]; rfl)
   have HF1 := zH (HFIT.out (k + 1) hkl)
   clear hb hxa hxb
   go_wp2_with (go_at_call 80; (with_reducible refine (zrn _ _ _ _ _ _ _ _ _ hB hA HQ.out HO.out).mono ?_); rw [HE.out]; rintro e w7 ⟨v, er, rfl, hb7, hv7, _⟩
                obtain ⟨rfl, hv8⟩ := hv7 HF1.out
                obtain ⟨t9, x9, y9, rfl, ⟨a1, l91, k1, rfl, _⟩, ⟨a2, l92, k2, rfl, _⟩⟩ := hv8.isF
                have hs8 := (hs1.belowS hb7).allocS (.cells #[.bool t9, .slice a1 l91 k1, .slice a2 l92 k2] 38)
                have hr8 := (hr1.belowS hb7).allocS (.cells #[.bool t9, .slice a1 l91 k1, .slice a2 l92 k2] 38)
                have hb8 := zaa (zaa hb1 hb7) (zca w7 (.cells #[.bool t9, .slice a1 l91 k1, .slice a2 l92 k2] 38))
                have hv9 := hv8.below (zca w7 (.cells #[.bool t9, .slice a1 l91 k1, .slice a2 l92 k2] 38))
                have HS8 := zH hs8
                obtain ⟨_, d1, d2, d3, d4, d5, d6⟩ := hs8)
   go_roundw
   case rel => exact ⟨k + 1, _, _, _, hkl, by go_num, HS8.out.set _ _ _, hv9.set3 HS8.out (fun z => by simp) (fun z => by simp) _ _ _, hr8.set_other (by omega) _ _ _, zha hb8 (by omega) _ _ _⟩
   case measure => simp [intOf]; omega
  ·obtain rfl : k = l.length := by omega
   have HF2 : Hid (zya wr (.agg #[.bool s0, .slice b1 m1 j1, .slice b2 m2 j2]) (zwg (qs l))) := zH (by have h5 := HF.out; rw [List.take_length] at h5; exact h5)
   clear HF
   go_wp2
   refine zoa rfl rfl Tryz.aggF Tryz.sizeF (HR.out.set _ _ _) rfl ?_
   exact ⟨_, rfl, HF2.out.set3 HR.out (fun z => by simp) (fun z => by simp) _ _ _, zha hb (Nat.le_refl _) _ _ _⟩
end Go.Proofs.YtlpdkbmmbdfoiaaGreat
namespace Go.Proofs.YtlpdkbmmbdfoiaaGreat
theorem zfn (a : Int) (b : Nat) (hb : b ≠ 0) : mkRat a b < 0 ↔ a < 0 := by
 have e : mkRat a b = fq (decide (a < 0)) a.natAbs b := by
  unfold fq sgn
  congr 1
  by_cases h : a < 0
  ·rw [if_pos (decide_eq_true h)]; omega
  ·rw [decide_eq_false h]; simp; omega
 have h := fq_neg (decide (a < 0)) a.natAbs b hb
 rw [e]
 by_cases h0 : a < 0
 ·rw [decide_eq_true h0] at h ⊢
  have hg : 0 < a.natAbs / Nat.gcd a.natAbs b := Nat.div_pos (Nat.le_of_dvd (by omega) (Nat.gcd_dvd_left _ _)) (Nat.gcd_pos_of_pos_left _ (by omega))
  rw [decide_eq_true hg] at h
  simp only [Bool.and_self, decide_eq_true_eq] at h
  exact ⟨fun _ => h0, fun _ => h⟩
 ·rw [decide_eq_false h0] at h ⊢
  simp only [Bool.false_and, decide_eq_false_iff_not] at h
  exact ⟨fun h' => absurd h' h, fun h' => absurd h' h0⟩
theorem fq_lt (s t : Bool) (n d m e : Nat) (hd : d ≠ 0) (he : e ≠ 0) : fq s n d < fq t m e ↔ sgn s (n * e) < sgn t (m * d) := by
 have h1 : fq s n d < fq t m e ↔ fq s n d - fq t m e < 0 := by
  rw [Rat.lt_iff_sub_pos, Rat.lt_iff_sub_pos (fq s n d - fq t m e)]
  have : (0 : Rat) - (fq s n d - fq t m e) = fq t m e - fq s n d := by grind
  rw [this]
 have h2 : -fq t m e = fq (!t) m e := by
  unfold fq
  rw [Rat.neg_mkRat]
  congr 1
  unfold sgn; cases t <;> simp
 rw [h1, Rat.sub_eq_add_neg, h2, fq_add _ _ _ _ _ _ hd he, zfn _ _ (Nat.mul_ne_zero hd he)]
 have h3 : sgn (!t) (m * d) = - sgn t (m * d) := by unfold sgn; cases t <;> simp
 rw [h3]
 omega
def cmpR (p q : Rat) : Int := if p < q then -1 else if q < p then 1 else 0
theorem cmpR_eq (s t : Bool) (n d m e : Nat) (hd : d ≠ 0) (he : e ≠ 0) :
 cmpR (fq s n d) (fq t m e) = if s && !decide (n = 0) && (t && !decide (m = 0)) then -zsl (n * e) (m * d) else if s && !decide (n = 0) then -1 else if t && !decide (m = 0) then 1 else zsl (n * e) (m * d) := by
 have hA : n * e = 0 ↔ n = 0 := by rw [Nat.mul_eq_zero]; exact ⟨fun h => h.resolve_right he, Or.inl⟩
 have hB : m * d = 0 ↔ m = 0 := by rw [Nat.mul_eq_zero]; exact ⟨fun h => h.resolve_right hd, Or.inl⟩
 have h1 := fq_lt s t n d m e hd he
 have h2 := fq_lt t s m e n d he hd
 have e1 : cmpR (fq s n d) (fq t m e) = if sgn s (n * e) < sgn t (m * d) then -1 else if sgn t (m * d) < sgn s (n * e) then 1 else 0 := by
  unfold cmpR
  simp only [h1, h2]
 rw [e1]
 clear e1 h1 h2
 generalize n * e = A at *
 generalize m * d = B at *
 unfold zsl sgn
 have c1 : decide (n = 0) = decide (A = 0) := by simp only [hA]
 have c2 : decide (m = 0) = decide (B = 0) := by simp only [hB]
 rw [c1, c2]
 clear c1 c2 hA hB
 by_cases hA : A = 0 <;> by_cases hB : B = 0 <;> cases s <;> cases t <;> simp [hA, hB] <;> (repeat' split) <;> omega
end Go.Proofs.YtlpdkbmmbdfoiaaGreat
namespace Go.Proofs.YtlpdkbmmbdfoiaaGreat
open Go.RowKit
theorem fits_ok (s : Bool) {n d : Nat} (h : okN n d) : fits (fq s n d) := by
 rw [zcl s n d h.1]
 exact ⟨Nat.le_trans (zfm (Nat.div_le_self _ _)) h.2.2, Nat.le_trans (zfm (Nat.div_le_self _ _)) h.2.1⟩
def RRed (w0 : World) (s : Bool) (n d : Nat) (e : Ending) (w : World) : Prop :=
 ∃ v er, e = .returned (.tuple #[v, .int .i64 er]) ∧ Below w0.heap.size w0 w ∧ (okN n d → er = 0 ∧ zya w v (fq s n d)) ∧ (¬ okN n d → er = 1 ∧ v = zeroF)
theorem valid_no (v : Value) (s : Bool) (n d : Nat) (w : World) (h : zlb w v s n d) (hk : ¬ okN n d) :
 Calls Tryz.prog 79 #[v] w fun e w' => e = .returned (.bool false) ∧ Below w.heap.size w w' :=
 (valid_any v s n d w h).mono fun e w' ⟨h1, h2⟩ => ⟨by rw [h1, decide_eq_false hk], h2⟩
theorem zte (w : World) (t : TypeId) (x0 x1 x2 y0 y1 y2 : Value) (W : World)
 (hW : W = (w.alloc (.cells #[x0, x1, x2] t)).alloc (.cells #[y0, y1, y2] t)) :
 C3 W w.heap.size x0 x1 x2 ∧ C3 W (w.heap.size + 1) y0 y1 y2 ∧ Below w.heap.size w W := by
 subst hW
 have e1 : (w.alloc (.cells #[x0, x1, x2] t)).heap.size = w.heap.size + 1 := by show (w.heap.push _).size = _; simp
 refine ⟨(C3.new w t x0 x1 x2).allocS _, ?_, ?_⟩
 ·rw [← e1]; exact C3.new _ t y0 y1 y2
 ·exact (zca w _).trans ((zca _ _).mono (zca w _).size)
set_option maxHeartbeats 1600000 in
theorem zxe (va : Value) (s : Bool) (n d : Nat) (w : World) (ha : zlb w va s n d) :
 Calls Tryz.prog 89 #[va] w (RRed w s n d) := by
 have hA := ha
 obtain ⟨xn, xd, rfl, hxn, hxd⟩ := ha
 obtain ⟨an, ln, kn, rfl, _⟩ := hxn.slen.1
 obtain ⟨ad, ld, kd, rfl, _⟩ := hxd.slen.1
 go_enter Tryz.func89, Tryz.ntmps89
 go_wp2_with fail
 obtain ⟨W, hW⟩ : ∃ W, W = ((w.alloc (.cells #[.bool s, .slice an ln kn, .slice ad ld kd] 38)).alloc (.cells #[.bool false, .slice none 0 0, .slice none 0 0] 38)) := ⟨_, rfl⟩
 obtain ⟨bx, bz, hbw⟩ := zte w 38 _ _ _ _ _ _ W hW
 rw [← hW]
 clear hW
 have HBX := zH bx
 have HBZ := zH bz
 obtain ⟨_, q1, q2, q3, q4, q5, q6⟩ := bx
 clear bz
 by_cases hk : okN n d
 ·have K := zH hk
  have NN := zH (Nat.le_trans (zpc (n := n) (k := 128) hk.2.2) (show 128 ≤ 512 by decide))
  have ND := zH (Nat.le_trans (zpc (n := d) (k := 128) hk.2.1) (show 128 ≤ 512 by decide))
  have FT := zH (fits_ok s hk)
  have D0 := zH hk.1
  clear hk
  go_wp2_with (first
   |(go_at_call 79; (with_reducible refine (zod _ s n d _ (hA.below hbw) K.out).mono ?_); rintro e9 w1 ⟨rfl, hv1⟩
     obtain ⟨_, f1, f2, f3, f4, f5, f6⟩ := HBX.out.belowS hv1
     have hbw1 := zaa hbw hv1)
   |(go_at_call 142; (with_reducible refine (zsb s _ _ n d _ (hxn.below hbw1) (hxd.below hbw1) D0.out NN.out ND.out).mono ?_); rintro e9 w7 ⟨v, er7, rfl, hv5, hv2, hv3⟩
     have hv4 := hv2 FT.out
     obtain ⟨t9, x9, y9, rfl, ⟨a1, l91, k1, rfl, _⟩, ⟨a2, l92, k2, rfl, _⟩⟩ := zwb (w0 := w) hv2 hv3
     have hC := (HBZ.out.belowS hv1).belowS hv5
     have HC := zH hC
     have hbz := zaa hbw1 hv5
     obtain ⟨_, d0, d1, d2, e0, e1, e2⟩ := hC))
  refine zoa rfl rfl Tryz.aggF Tryz.sizeF (HC.out.set _ _ _) rfl ?_
  exact ⟨_, _, rfl, zha hbz (by omega) _ _ _, fun h => ⟨rfl, hv4.2.set3 HC.out (fun z => by simp) (fun z => by simp) _ _ _⟩, fun h => absurd K.out h⟩
 ·have K := zH hk
  clear hk
  go_wp2_with (first
   |(go_at_call 79; (with_reducible refine (valid_no _ s n d _ (hA.below hbw) K.out).mono ?_); rintro e9 w1 ⟨rfl, hv1⟩
     have hC := HBZ.out.belowS hv1
     have HC := zH hC
     have hbz := zaa hbw hv1
     obtain ⟨_, d0, d1, d2, e0, e1, e2⟩ := hC))
  refine zoa rfl rfl Tryz.aggF Tryz.sizeF (HC.out.set _ _ _) rfl ?_
  exact ⟨_, _, rfl, zha hbz (by omega) _ _ _, fun h => absurd h K.out, fun _ => ⟨rfl, rfl⟩⟩
theorem zva {P : Program} {ops : Array Oper} {o : Oper} {a : Act} {w : World} {K : Act → World → Prop} {Q : Exit → Act → World → Prop} {E : Prop} (f : FuncId) (argv : Array Value) (hg : Region.wanted o (yielded ops a.tmps) = true)
 (hrun : (execOp a.eval o).run P w = .ok (.enter f argv) w) {R : Ending → World → Prop} (hc : Calls P f argv w R) (h : ∀ e w', R e w' → ∃ v, e = .returned v ∧ K (a.put o.dst v) w') :
 if Region.wanted o (yielded ops a.tmps) = true then Oper.wp P o a w K Q else E := by
 rw [if_pos hg]
 unfold Oper.wp
 rw [hrun, Oper.upon_enter]
 refine hc.mono fun e w' hr => ?_
 obtain ⟨v, rfl, hk⟩ := h e w' hr
 exact hk
end Go.Proofs.YtlpdkbmmbdfoiaaGreat
