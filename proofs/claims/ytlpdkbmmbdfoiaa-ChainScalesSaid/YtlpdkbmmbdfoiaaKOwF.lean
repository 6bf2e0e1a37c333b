/-
  Slices of fractions that a call itself made. No program is named here.
-/
import Derived.Test.YtlpdkbmmbdfoiaaKStep
import Derived.Test.YtlpdkbmmbdfoiaaKDt3
import Derived.Test.YtlpdkbmmbdfoiaaKRep
import Derived.Deep.RegionHeld3
set_option linter.unusedVariables false
set_option linter.unusedSimpArgs false
namespace Go.Proofs.Ytlpdkbmmbdfoiaa
open Go.RowKit
theorem below_then {w w1 w2 : World} (h : Below w.heap.size w w1) (h' : Below w1.heap.size w1 w2) : Below w.heap.size w w2 := h.trans (h'.mono h.size)
theorem zbi (z : Int) (w : World) (h1 : -9223372036854775808 ≤ z) (h2 : z < 9223372036854775808) :
 Calls Try.prog 93 #[.int .i64 z] w (RNat w z.natAbs) := by
 rcases Int.lt_or_le z 0 with h | h
 ·have h0 : z < 0 := h
  obtain ⟨m, hm⟩ : ∃ m : Nat, z = -(m : Int) := ⟨z.natAbs, by omega⟩
  have hM := zmi m (by omega)
  have e : z.natAbs = m := by omega
  rw [e]
  clear e
  subst hm
  have hw : IntKind.u64.wrap (-IntKind.u64.wrap (-(m : Int))) = (m : Int) := by rw [zfb, zfb]; omega
  go_enter Try.func93, Try.ntmps93
  go_wp2_with fail
  refine (hM w).mono ?_
  rintro e w' ⟨r, rfl, hr, hb⟩
  go_wp2
  go_ret
  exact ⟨_, rfl, hr, hb⟩
 ·obtain ⟨m, rfl⟩ : ∃ m : Nat, z = (m : Int) := ⟨z.natAbs, by omega⟩
  have hM := zmi m (by omega)
  have e : (m : Int).natAbs = m := by omega
  rw [e]
  have hw : IntKind.u64.wrap (m : Int) = (m : Int) := by rw [zfb]; omega
  clear e h1 h2 h
  go_enter Try.func93, Try.ntmps93
  go_wp2_with fail
  refine (hM w).mono ?_
  rintro e w' ⟨r, rfl, hr, hb⟩
  go_wp2
  go_ret
  exact ⟨_, rfl, hr, hb⟩
def IsF (v : Value) : Prop := ∃ s x y, v = .agg #[.bool s, x, y] ∧ IsSl x ∧ IsSl y
theorem FracC.isF {w : World} {v : Value} {q : Rat} (h : FracC w v q) : IsF v := by
 obtain ⟨a, b, rfl, h1, h2⟩ := h; exact ⟨_, a, b, rfl, h1.v.sl, h2.v.sl⟩
theorem isF_zero : IsF zeroF := ⟨false, _, _, rfl, IsSl.nil, IsSl.nil⟩
theorem zgb {w0 w : World} {q : Rat} {v : Value} {er : Int} (h1 : fits q → er = 0 ∧ FracC w v q) (h2 : ¬ fits q → er = 2 ∧ v = zeroF) : IsF v := by
 by_cases h : fits q
 ·exact (h1 h).2.isF
 ·rw [(h2 h).2]; exact isF_zero
set_option maxHeartbeats 800000 in
theorem make_frac (a b : Int) (w : World) (ha1 : -9223372036854775808 ≤ a) (ha2 : a < 9223372036854775808) (hb1 : -9223372036854775808 ≤ b) (hb2 : b < 9223372036854775808) (hb : b ≠ 0) :
 Calls Try.prog 56 #[.int .i64 a, .int .i64 b] w (zvh w (fq (!decide (a < 0) == decide (b < 0)) a.natAbs b.natAbs)) := by
 have HA := zH (And.intro ha1 ha2)
 have HB := zH (And.intro hb1 hb2)
 have hbn : b.natAbs ≠ 0 := by omega
 have HBN := zH hbn
 have h1 : ∀ z : Int, -9223372036854775808 ≤ z → z < 9223372036854775808 → zaa z.natAbs ≤ 512 := fun z _ _ => zcb.2 (Nat.lt_of_lt_of_le (show z.natAbs < pw 2 by have : pw 2 = 18446744073709551616 := rfl; omega) (pw_le (by omega)))
 have H1 := zH (h1 a ha1 ha2)
 have H2 := zH (h1 b hb1 hb2)
 have h9 : (b == 0) = false := by simpa using hb
 clear ha1 ha2 hb1 hb2 hbn h1 hb
 go_enter Try.func56, Try.ntmps56
 go_wp2_with (first
  |(go_at_call 93; first
   |((with_reducible refine (zbi a _ HA.out.1 HA.out.2).mono ?_); rintro e w1 ⟨x, rfl, hx, hx1⟩)
   |((with_reducible refine (zbi b _ HB.out.1 HB.out.2).mono ?_); rintro e w2 ⟨y, rfl, hy, hy1⟩; have hx2 := hx.below hy1))
  |(go_at_call 79; (with_reducible refine (zeb _ x y a.natAbs b.natAbs _ hx2.nat hy.nat HBN.out H1.out H2.out).mono ?_); rintro e w3 ⟨v, er, rfl, hv1, hv2, hv3⟩
    obtain ⟨t, x1, y1, rfl, ⟨a1, l1, k1, rfl, _⟩, ⟨a2, l2, k2, rfl, _⟩⟩ := zgb (w0 := w) hv2 hv3
    have hC := (((C3.new w _ _ _ _).belowS hx1).belowS hy1).belowS hv1
    have HC := zH hC
    have hbz := (below_alloc w _).trans ((hx1.trans ((hy1.trans (hv1.mono hy1.size)).mono hx1.size)).mono (below_alloc w _).size)
    obtain ⟨_, d0, d1, d2, e0, e1, e2⟩ := hC))
 refine bodyPost_c3 rfl rfl Try.aggF Try.sizeF (HC.out.set _ _ _) rfl ?_
 exact ⟨_, _, rfl, below_set3 hbz (Nat.le_refl _) _ _ _, fun h => ⟨(hv2 h).1, (hv2 h).2.set3 HC.out (fun z => by simp) (fun z => by simp) _ _ _⟩, hv3⟩
theorem zjc (v : Value) (s : Bool) (n d : Nat) (w : World) (h : FracN w v s n d) (hk : okN n d) :
 Calls Try.prog 76 #[v] w fun e w' => e = .returned (.bool true) ∧ Below w.heap.size w w' :=
 (valid_any v s n d w h).mono fun e w' ⟨h1, h2⟩ => ⟨by rw [h1, decide_eq_true hk], h2⟩
theorem C3.allocS {w : World} {b : Nat} {v0 v1 v2 : Value} (h : C3 w b v0 v1 v2) (o : Obj) : C3 (w.alloc o) b v0 v1 v2 := h.belowS (below_alloc w o)
theorem three_boxes (w : World) (t : TypeId) (x0 x1 x2 y0 y1 y2 z0 z1 z2 : Value) (W : World)
 (hW : W = ((w.alloc (.cells #[x0, x1, x2] t)).alloc (.cells #[y0, y1, y2] t)).alloc (.cells #[z0, z1, z2] t)) :
 C3 W w.heap.size x0 x1 x2 ∧ C3 W (w.heap.size + 1) y0 y1 y2 ∧ C3 W (w.heap.size + 1 + 1) z0 z1 z2 ∧ Below w.heap.size w W := by
 subst hW
 have e1 : (w.alloc (.cells #[x0, x1, x2] t)).heap.size = w.heap.size + 1 := by show (w.heap.push _).size = _; simp
 have e2 : ((w.alloc (.cells #[x0, x1, x2] t)).alloc (.cells #[y0, y1, y2] t)).heap.size = w.heap.size + 1 + 1 := by show (World.heap _ |>.push _).size = _; rw [Array.size_push, e1]
 refine ⟨((C3.new w t x0 x1 x2).allocS _).allocS _, ?_, ?_, ?_⟩
 ·rw [← e1]; exact (C3.new _ t y0 y1 y2).allocS _
 ·rw [← e2]; exact C3.new _ t z0 z1 z2
 ·exact (below_alloc w _).trans (((below_alloc _ _).trans ((below_alloc _ _).mono (below_alloc _ _).size)).mono (below_alloc w _).size)
theorem zfd {a b j k : Nat} (ha : zaa a ≤ j) (hb : zaa b ≤ k) : zaa (a * b) ≤ j + k := by
 rw [zcb] at *
 have := Nat.mul_lt_mul'' ha hb
 rwa [← pw_add] at this
theorem nlen_sum {a b k : Nat} (ha : zaa a ≤ k) (hb : zaa b ≤ k) : zaa (a + b) ≤ k + 1 := by
 rw [zcb] at *
 rw [zva]; omega
theorem cmp_ge0 (va vb : Value) (m n : Nat) (w : World) (ha : zya w va m) (hb : zya w vb n) (h : n ≤ m) :
 Calls Try.prog 80 #[va, vb] w fun e w' => (∃ c : Int, e = .returned (.int .i64 c) ∧ decide (0 ≤ c) = true) ∧ Below w.heap.size w w' :=
 (zgk va vb m n w ha hb).mono fun _ _ ⟨a, k, b⟩ => ⟨⟨_, a, by unfold zik; rw [if_neg (by omega)]; split <;> rfl⟩, b ▸ below_drewN w k⟩
theorem cmp_lt0 (va vb : Value) (m n : Nat) (w : World) (ha : zya w va m) (hb : zya w vb n) (h : m < n) :
 Calls Try.prog 80 #[va, vb] w fun e w' => (∃ c : Int, e = .returned (.int .i64 c) ∧ decide (0 ≤ c) = false) ∧ Below w.heap.size w w' :=
 (zgk va vb m n w ha hb).mono fun _ _ ⟨a, k, b⟩ => ⟨⟨_, a, by rw [zdf h]; rfl⟩, b ▸ below_drewN w k⟩
theorem zob {n d : Nat} (h : okN n d) : zaa n ≤ 128 ∧ zaa d ≤ 128 := ⟨zec h.2.2, zec h.2.1⟩
set_option maxRecDepth 100000 in
set_option maxHeartbeats 1600000 in
theorem zri (va vb : Value) (s t : Bool) (n d m e : Nat) (w : World) (ha : FracN w va s n d) (hb : FracN w vb t m e) (h1 : okN n d) (h2 : okN m e) :
 Calls Try.prog 42 #[va, vb] w (zvh w (fq s n d + fq t m e)) := by
 have hA := ha
 have hB := hb
 obtain ⟨xn, xd, rfl, hxn, hxd⟩ := ha
 obtain ⟨yn, yd, rfl, hyn, hyd⟩ := hb
 obtain ⟨an, ln, kn, rfl, _⟩ := hxn.slen.1
 obtain ⟨ad, ld, kd, rfl, _⟩ := hxd.slen.1
 obtain ⟨am, lm, km, rfl, _⟩ := hyn.slen.1
 obtain ⟨ae, le, ke, rfl, _⟩ := hyd.slen.1
 have K1 := zH h1
 have K2 := zH h2
 clear h1 h2
 go_enter Try.func42, Try.ntmps42
 go_wp2_with fail
 obtain ⟨W, hW⟩ : ∃ W, W = (((w.alloc (.cells #[.bool s, .slice an ln kn, .slice ad ld kd] 32)).alloc (.cells #[.bool t, .slice am lm km, .slice ae le ke] 32)).alloc (.cells #[.bool false, .slice none 0 0, .slice none 0 0] 32)) := ⟨_, rfl⟩
 obtain ⟨bx, byy, bz, hbw⟩ := three_boxes w 32 _ _ _ _ _ _ _ _ _ W hW
 rw [← hW]
 clear hW
 have HBX := zH bx
 have HBY := zH byy
 have HBZ := zH bz
 obtain ⟨_, q1, q2, q3, q4, q5, q6⟩ := bx
 obtain ⟨_, r1, r2, r3, r4, r5, r6⟩ := byy
 go_wp2_with (first
  |(go_at_call 76; first
    |((with_reducible refine (zjc _ s n d _ (hA.below hbw) K1.out).mono ?_); rintro e9 w1 ⟨rfl, hv1⟩
      obtain ⟨_, f1, f2, f3, f4, f5, f6⟩ := HBY.out.belowS hv1
      have hbw1 := hbw.trans (hv1.mono hbw.size))
    |((with_reducible refine (zjc _ t m e _ (hB.below hbw1) K2.out).mono ?_); rintro e9 w2 ⟨rfl, hv2⟩
      have hbx2 := (HBX.out.belowS hv1).belowS hv2
      have hby2 := (HBY.out.belowS hv1).belowS hv2
      have hbz2 := (HBZ.out.belowS hv1).belowS hv2
      have hbw2 := hbw1.trans (hv2.mono hbw1.size))))
 clear q1 q2 q3 q4 q5 q6 r1 r2 r3 r4 r5 r6 f1 f2 f3 f4 f5 f6
 have hd2 := below_drew (B := w2.heap.size) w2
 have hD := hbw2.trans (hd2.mono hbw2.size)
 have hbx3 := hbx2.belowS hd2
 have hby3 := hby2.belowS hd2
 have hbz3 := hbz2.belowS hd2
 clear hbx2 hby2 hbz2 hbw2 hv1 hv2 hbw hbw1 HBX HBY HBZ bz hd2
 have HX3 := zH hbx3
 have HY3 := zH hby3
 have HZ3 := zH hbz3
 obtain ⟨_, q1, q2, q3, q4, q5, q6⟩ := hbx3
 obtain ⟨_, r1, r2, r3, r4, r5, r6⟩ := hby3
 clear hbz3
 have g1 := hxn.below hD
 have g2 := hxd.below hD
 have g3 := hyn.below hD
 have g4 := hyd.below hD
 have l1 := zH (zob K1.out)
 have l2 := zH (zob K2.out)
 have T1 := zH (Nat.le_trans l1.out.1 (show 128 ≤ 256 by decide))
 have T2 := zH (Nat.le_trans l2.out.2 (show 128 ≤ 256 by decide))
 have T3 := zH (Nat.le_trans l2.out.1 (show 128 ≤ 256 by decide))
 have T4 := zH (Nat.le_trans l1.out.2 (show 128 ≤ 256 by decide))
 have tok1 : True := trivial
 have tok2 : True := trivial
 have tok3 : True := trivial
 go_region_held3 (fun w' => w'.cell? ⟨w.heap.size, 1, none⟩ = some (.slice an ln kn) ∧ w'.cell? ⟨w.heap.size, 2, none⟩ = some (.slice ad ld kd) ∧ w'.cell? ⟨w.heap.size + 1, 1, none⟩ = some (.slice am lm km) ∧ w'.cell? ⟨w.heap.size + 1, 2, none⟩ = some (.slice ae le ke)) (exact ⟨q2, q3, r2, r3⟩) (first
  |(go_at_call 77; have _t := tok1; clear tok1 _t; (with_reducible refine (zta _ _ n e _ g1 g4 T1.out T2.out).mono ?_); rintro e9 w3 ⟨p1, rfl, hp1, hp2⟩
    have X4 := HX3.out.belowS hp2
    have Y4 := HY3.out.belowS hp2
    have HX4 := zH X4
    have HY4 := zH Y4
    obtain ⟨_, q1, q2, q3, q4, q5, q6⟩ := X4
    obtain ⟨_, r1, r2, r3, r4, r5, r6⟩ := Y4)
  |(go_at_call 77; have _t := tok2; clear tok2 _t; (with_reducible refine (zta _ _ m d _ (g3.below hp2) (g2.below hp2) T3.out T4.out).mono ?_); rintro e9 w4 ⟨p3, rfl, hp3, hp4⟩
    have hp24 := below_then hp2 hp4
    have hp14 := hp1.below hp4
    have X5 := HX4.out.belowS hp4
    have Y5 := HY4.out.belowS hp4
    have HX5 := zH X5
    have HY5 := zH Y5
    obtain ⟨_, q1, q2, q3, q4, q5, q6⟩ := X5
    obtain ⟨_, r1, r2, r3, r4, r5, r6⟩ := Y5)
  |(go_at_call 77; have _t := tok3; clear tok3 _t; (with_reducible refine (zta _ _ d e _ (g2.below hp24) (g4.below hp24) T4.out T2.out).mono ?_); rintro e9 w5 ⟨p5, rfl, hp5, hp6⟩
    have hp26 := below_then hp24 hp6
    have hp16 := hp14.below hp6
    have hp36 := hp3.below hp6
    have X6 := HX5.out.belowS hp6
    have Y6 := HY5.out.belowS hp6
    have HX6 := zH X6
    have HY6 := zH Y6
    obtain ⟨_, q1, q2, q3, q4, q5, q6⟩ := X6
    obtain ⟨_, r1, r2, r3, r4, r5, r6⟩ := Y6))
 have hdw : Below w.heap.size w w5 := hD.trans (hp26.mono hD.size)
 have HZ6 := zH (HZ3.out.belowS hp26)
 have HDE : Hid (d * e ≠ 0) := zH (Nat.mul_ne_zero K1.out.1 K2.out.1)
 have N1 := zH (zfd l1.out.1 l2.out.2)
 have N3 := zH (zfd l2.out.1 l1.out.2)
 have N5 := zH (Nat.le_trans (zfd l1.out.2 l2.out.2) (show 128 + 128 ≤ 512 by decide))
 have NS := zH (Nat.le_trans (nlen_sum N1.out N3.out) (show 128 + 128 + 1 ≤ 512 by decide))
 have N12 := zH (Nat.le_trans N1.out (show 128 + 128 ≤ 512 by decide))
 have N32 := zH (Nat.le_trans N3.out (show 128 + 128 ≤ 512 by decide))
 clear hp24 hp26 hp14 hp1 hp3 hp2 hp4 hp6 hD HZ3 g1 g2 g3 g4 HX3 HY3 HX4 HY4 HX5 HY5 T1 T2 T3 T4
 by_cases hst : s = t
 ·have HQ := zH (zoe s n d m e K1.out.1 K2.out.1)
  subst hst
  go_wp2_with (first
   |(go_at_call 78; (with_reducible refine (add_any p1 p3 (n * e) (m * d) _ hp16.nat hp36.nat N12.out N32.out).mono ?_); rintro e9 w6 ⟨r, er, rfl, hr, hb6⟩
     have hr6 := (hr.1 NS.out).2
     have hp56 := hp5.below hb6
     have hdw6 := below_then hdw hb6
     have HZ7 := zH (HZ6.out.belowS hb6)
     obtain ⟨_, q1, q2, q3, q4, q5, q6⟩ := HX6.out.belowS hb6
     obtain ⟨_, r1, r2, r3, r4, r5, r6⟩ := HY6.out.belowS hb6
     )
   |(go_at_call 79; (with_reducible refine (zeb s r p5 (n * e + m * d) (d * e) _ hr6.nat hp56.nat HDE.out NS.out N5.out).mono ?_); rintro e9 w7 ⟨v, er7, rfl, hv1, hv2, hv3⟩
     rw [← HQ.out] at hv2 hv3
     obtain ⟨t9, x9, y9, rfl, ⟨a1, l91, k1, rfl, _⟩, ⟨a2, l92, k2, rfl, _⟩⟩ := zgb (w0 := w) hv2 hv3
     have hC := HZ7.out.belowS hv1
     have HC := zH hC
     have hbz := below_then hdw6 hv1
     obtain ⟨_, d0, d1, d2, e0, e1, e2⟩ := hC
     )
   )
  refine bodyPost_c3 rfl rfl Try.aggF Try.sizeF (HC.out.set _ _ _) rfl ?_
  exact ⟨_, _, rfl, below_set3 hbz (by omega) _ _ _, fun h => ⟨(hv2 h).1, (hv2 h).2.set3 HC.out (fun z => by simp) (fun z => by simp) _ _ _⟩, hv3⟩
 ·have hsb : (s == t) = false := by simpa using hst
  by_cases hle : m * d ≤ n * e
  ·have HQ := zH (fq_add_ge s t n d m e K1.out.1 K2.out.1 hsb hle)
   have HLE := zH hle
   have NS := zH (Nat.le_trans (zwa (Nat.sub_le (n * e) (m * d))) N12.out)
   clear hle
   go_wp2_with (first
    |(go_at_call 80; (with_reducible refine (cmp_ge0 p1 p3 (n * e) (m * d) _ hp16.nat hp36.nat HLE.out).mono ?_); rintro e9 w5b ⟨⟨c, rfl, hc⟩, hb5⟩
      have hp16 := hp16.below hb5
      have hp36 := hp36.below hb5
      have hp5 := hp5.below hb5
      have HX6 := zH (HX6.out.belowS hb5)
      have HY6 := zH (HY6.out.belowS hb5)
      have HZ6 := zH (HZ6.out.belowS hb5)
      have hdw := below_then hdw hb5)
    |(go_at_call 81; (with_reducible refine (sub_any p1 p3 (n * e) (m * d) _ hp16.nat hp36.nat N12.out HLE.out).mono ?_); rintro e9 w6 ⟨r, er, rfl, hr, hb6⟩
      have hr6 := (hr.1 NS.out).2
      have hp56 := hp5.below hb6
      have hdw6 := below_then hdw hb6
      have HZ7 := zH (HZ6.out.belowS hb6)
      obtain ⟨_, q1, q2, q3, q4, q5, q6⟩ := HX6.out.belowS hb6
      obtain ⟨_, r1, r2, r3, r4, r5, r6⟩ := HY6.out.belowS hb6
      )
    |(go_at_call 79; (with_reducible refine (zeb s r p5 (n * e - m * d) (d * e) _ hr6.nat hp56.nat HDE.out NS.out N5.out).mono ?_); rintro e9 w7 ⟨v, er7, rfl, hv1, hv2, hv3⟩
      rw [← HQ.out] at hv2 hv3
      obtain ⟨t9, x9, y9, rfl, ⟨a1, l91, k1, rfl, _⟩, ⟨a2, l92, k2, rfl, _⟩⟩ := zgb (w0 := w) hv2 hv3
      have hC := HZ7.out.belowS hv1
      have HC := zH hC
      have hbz := below_then hdw6 hv1
      obtain ⟨_, d0, d1, d2, e0, e1, e2⟩ := hC
      )
    )
   refine bodyPost_c3 rfl rfl Try.aggF Try.sizeF (HC.out.set _ _ _) rfl ?_
   exact ⟨_, _, rfl, below_set3 hbz (by omega) _ _ _, fun h => ⟨(hv2 h).1, (hv2 h).2.set3 HC.out (fun z => by simp) (fun z => by simp) _ _ _⟩, hv3⟩
  ·have hlt : n * e < m * d := Nat.lt_of_not_le hle
   have HQ := zH (fq_add_lt s t n d m e K1.out.1 K2.out.1 hsb (Nat.le_of_lt hlt))
   have HLT := zH hlt
   have NS := zH (Nat.le_trans (zwa (Nat.sub_le (m * d) (n * e))) N32.out)
   clear hle hlt
   go_wp2_with (first
    |(go_at_call 80; (with_reducible refine (cmp_lt0 p1 p3 (n * e) (m * d) _ hp16.nat hp36.nat HLT.out).mono ?_); rintro e9 w5b ⟨⟨c, rfl, hc⟩, hb5⟩
      have hp16 := hp16.below hb5
      have hp36 := hp36.below hb5
      have hp5 := hp5.below hb5
      have HX6 := zH (HX6.out.belowS hb5)
      have HY6 := zH (HY6.out.belowS hb5)
      have HZ6 := zH (HZ6.out.belowS hb5)
      have hdw := below_then hdw hb5)
    |(go_at_call 81; (with_reducible refine (sub_any p3 p1 (m * d) (n * e) _ hp36.nat hp16.nat N32.out (Nat.le_of_lt HLT.out)).mono ?_); rintro e9 w6 ⟨r, er, rfl, hr, hb6⟩
      have hr6 := (hr.1 NS.out).2
      have hp56 := hp5.below hb6
      have hdw6 := below_then hdw hb6
      have HZ7 := zH (HZ6.out.belowS hb6)
      obtain ⟨_, q1, q2, q3, q4, q5, q6⟩ := HX6.out.belowS hb6
      obtain ⟨_, r1, r2, r3, r4, r5, r6⟩ := HY6.out.belowS hb6
      )
    |(go_at_call 79; (with_reducible refine (zeb t r p5 (m * d - n * e) (d * e) _ hr6.nat hp56.nat HDE.out NS.out N5.out).mono ?_); rintro e9 w7 ⟨v, er7, rfl, hv1, hv2, hv3⟩
      rw [← HQ.out] at hv2 hv3
      obtain ⟨t9, x9, y9, rfl, ⟨a1, l91, k1, rfl, _⟩, ⟨a2, l92, k2, rfl, _⟩⟩ := zgb (w0 := w) hv2 hv3
      have hC := HZ7.out.belowS hv1
      have HC := zH hC
      have hbz := below_then hdw6 hv1
      obtain ⟨_, d0, d1, d2, e0, e1, e2⟩ := hC
      )
    )
   refine bodyPost_c3 rfl rfl Try.aggF Try.sizeF (HC.out.set _ _ _) rfl ?_
   exact ⟨_, _, rfl, below_set3 hbz (by omega) _ _ _, fun h => ⟨(hv2 h).1, (hv2 h).2.set3 HC.out (fun z => by simp) (fun z => by simp) _ _ _⟩, hv3⟩
@[go_sem] theorem ptr_off1 (v : Value) (k : Nat) : (⟨(ptr v k).block, (ptr v k).off + 1, none⟩ : Addr) = ptr v (k + 1) := by rw [← ptr_add]; simp [Addr.add]
@[go_sem] theorem ptr_off2 (v : Value) (k : Nat) : (⟨(ptr v k).block, (ptr v k).off + 2, none⟩ : Addr) = ptr v (k + 2) := by rw [← ptr_add]; simp [Addr.add]
structure RF where
 neg : Bool
 n : Nat
 d : Nat
def RF.q (x : RF) : Rat := fq x.neg x.n x.d
def RF.ok (x : RF) : Prop := okN x.n x.d
instance (x : RF) : Decidable x.ok := inferInstanceAs (Decidable (okN _ _))
def RF.of (q : Rat) : RF := ⟨decide (q < 0), q.num.natAbs, q.den⟩
theorem RF.of_q (q : Rat) : (RF.of q).q = q := fq_self q
theorem RF.of_ok {q : Rat} (h : fits q) : (RF.of q).ok := ⟨q.den_nz, h.2, h.1⟩
def FracAt (w : World) (v : Value) (k : Nat) (x : RF) : Prop :=
 ∃ a b, w.cell? (ptr v k) = some (.bool x.neg) ∧ w.cell? (ptr v (k + 1)) = some a ∧ w.cell? (ptr v (k + 2)) = some b ∧ zya w a x.n ∧ zya w b x.d
theorem cell_below {w w' : World} (hb : Below w.heap.size w w') {p : Addr} {x : Value} (h : w.cell? p = some x) : w'.cell? p = some x := by
 have hlt := World.block_lt_of_cell? w _ h
 rw [hb.cell hlt]; exact h
theorem FracAt.below {w w' : World} {v : Value} {k : Nat} {x : RF} (h : FracAt w v k x) (hb : Below w.heap.size w w') : FracAt w' v k x := by
 obtain ⟨a, b, h1, h2, h3, h4, h5⟩ := h
 exact ⟨a, b, cell_below hb h1, cell_below hb h2, cell_below hb h3, h4.below hb, h5.below hb⟩
structure zgc (w : World) (v : Value) (l : List RF) : Prop where
 sl : IsSl v
 len : slen v = l.length
 at' : ∀ (j : Nat) (h : j < l.length), FracAt w v (j * 3) l[j]
theorem zgc.below {w w' : World} {v : Value} {l : List RF} (h : zgc w v l) (hb : Below w.heap.size w w') : zgc w' v l :=
 ⟨h.sl, h.len, fun j hj => (h.at' j hj).below hb⟩
theorem zgc.nil (w : World) : zgc w (.slice none 0 0) [] := ⟨IsSl.nil, rfl, fun j h => by simp at h⟩
structure FracsC (w : World) (v : Value) (qs : List Rat) : Prop where
 sl : IsSl v
 len : slen v = qs.length
 at' : ∀ (j : Nat) (h : j < qs.length), ∃ a b, w.cell? (ptr v (j * 3)) = some (.bool (decide (qs[j] < 0))) ∧ w.cell? (ptr v (j * 3 + 1)) = some a ∧ w.cell? (ptr v (j * 3 + 2)) = some b ∧ NatC w a qs[j].num.natAbs ∧ NatC w b qs[j].den
theorem FracsC.below {w w' : World} {v : Value} {l : List Rat} (h : FracsC w v l) (hb : Below w.heap.size w w') : FracsC w' v l :=
 ⟨h.sl, h.len, fun j hj => by
  obtain ⟨a, b, h1, h2, h3, h4, h5⟩ := h.at' j hj
  exact ⟨a, b, cell_below hb h1, cell_below hb h2, cell_below hb h3, h4.below hb, h5.below hb⟩⟩
theorem FracsC.raw {w : World} {v : Value} {qs : List Rat} (h : FracsC w v qs) : zgc w v (qs.map RF.of) :=
 ⟨h.sl, by rw [h.len, List.length_map], fun j hj => by
  obtain ⟨a, b, h1, h2, h3, h4, h5⟩ := h.at' j (by simpa using hj)
  rw [List.getElem_map]
  exact ⟨a, b, h1, h2, h3, h4.nat, h5.nat⟩⟩
structure CellsV (w : World) (v : Value) (l : List Value) : Prop where
 sl : IsSl v
 len : slen v = l.length
 cell : ∀ (j : Nat) (h : j < l.length), w.cell? (ptr v j) = some l[j]
theorem CellsV.below {w w' : World} {v : Value} {l : List Value} (h : CellsV w v l) (hb : Below w.heap.size w w') : CellsV w' v l :=
 ⟨h.sl, h.len, fun j hj => cell_below hb (h.cell j hj)⟩
def zcd (w : World) (v : Value) (l : List Bool) : Prop := CellsV w v (l.map Value.bool)
def znm (w : World) (v : Value) (l : List Int) : Prop := CellsV w v (l.map (Value.int .i64))
theorem zcd.below {w w' : World} {v : Value} {l : List Bool} (h : zcd w v l) (hb : Below w.heap.size w w') : zcd w' v l := CellsV.below h hb
theorem znm.below {w w' : World} {v : Value} {l : List Int} (h : znm w v l) (hb : Below w.heap.size w w') : znm w' v l := CellsV.below h hb
theorem zcd.at' {w : World} {v : Value} {l : List Bool} (h : zcd w v l) (j : Nat) (hj : j < l.length) : w.cell? (ptr v j) = some (.bool l[j]) := by
 have := h.cell j (by simpa using hj); simpa using this
theorem znm.at' {w : World} {v : Value} {l : List Int} (h : znm w v l) (j : Nat) (hj : j < l.length) : w.cell? (ptr v j) = some (.int .i64 l[j]) := by
 have := h.cell j (by simpa using hj); simpa using this
theorem zcd.len {w : World} {v : Value} {l : List Bool} (h : zcd w v l) : slen v = l.length := by have := CellsV.len h; simpa using this
structure MatN (w : World) (v : Value) (m : List (List RF)) : Prop where
 sl : IsSl v
 len : slen v = m.length
 at' : ∀ (j : Nat) (h : j < m.length), ∃ r, w.cell? (ptr v j) = some r ∧ zgc w r m[j]
theorem MatN.below {w w' : World} {v : Value} {m : List (List RF)} (h : MatN w v m) (hb : Below w.heap.size w w') : MatN w' v m :=
 ⟨h.sl, h.len, fun j hj => by obtain ⟨r, h1, h2⟩ := h.at' j hj; exact ⟨r, cell_below hb h1, h2.below hb⟩⟩
structure RC where
 rates : List (List RF)
 start : List RF
 lost : List Bool
def ChainN (w : World) (v : Value) (c : RC) : Prop := ∃ r s l, v = .agg #[r, s, l] ∧ MatN w r c.rates ∧ zgc w s c.start ∧ zcd w l c.lost
theorem ChainN.below {w w' : World} {v : Value} {c : RC} (h : ChainN w v c) (hb : Below w.heap.size w w') : ChainN w' v c := by
 obtain ⟨r, s, l, rfl, h1, h2, h3⟩ := h; exact ⟨r, s, l, rfl, h1.below hb, h2.below hb, h3.below hb⟩
def qs (l : List RF) : List Rat := l.map RF.q
theorem zrb (l : List RF) : (qs l).length = l.length := by simp [qs]
theorem qs_take (l : List RF) (k : Nat) : (qs l).take k = qs (l.take k) := by unfold qs; rw [List.map_take]
theorem qs_get (l : List RF) (k : Nat) (h : k < l.length) : (qs l)[k]'(by rw [zrb]; exact h) = l[k].q := by simp [qs]
theorem lsum_qs (l : List RF) (k : Nat) (h : k < l.length) : zsb (qs (l.take (k + 1))) = zsb (qs (l.take k)) + l[k].q := by
 rw [zjb l k h]; unfold qs; rw [List.map_append]; exact ztj _ _
end Go.Proofs.Ytlpdkbmmbdfoiaa
namespace Go.Proofs.Ytlpdkbmmbdfoiaa
inductive Clo (n : Nat) (S : Nat → Prop) (L : Nat → Nat → Prop) : Nat → Prop
 | base {i : Nat} : i < n → S i → Clo n S L i
 | step {i j : Nat} : Clo n S L i → j < n → L i j → Clo n S L j
theorem Clo.lt {n : Nat} {S : Nat → Prop} {L : Nat → Nat → Prop} {i : Nat} (h : Clo n S L i) : i < n := by cases h <;> assumption
def zfk (l : List Bool) : Nat := (l.filter (fun b => !b)).length
theorem zch : ∀ {l : List Bool} {k : Nat}, l[k]? = some false → zfk (l.set k true) + 1 = zfk l
 | [], k, h => by simp at h
 | b :: l, 0, h => by
   simp at h
   subst h
   simp [zfk]
 | b :: l, k + 1, h => by
   have ih := zch (l := l) (k := k) (by simpa using h)
   cases b
   ·simp only [List.set_cons_succ]
    unfold zfk at ih ⊢
    simp only [List.filter_cons]
    simp
    omega
   ·simp only [List.set_cons_succ]
    unfold zfk at ih ⊢
    simp only [List.filter_cons]
    simp
    omega
structure GInv (n : Nat) (S : Nat → Prop) (L : Nat → Nat → Prop) (bs : List Bool) (q : List Nat) : Prop where
 len : bs.length = n
 sound : ∀ j, j < n → bs.getD j false = true → Clo n S L j
 base : ∀ j, j < n → S j → bs.getD j false = true
 done : ∀ i, i < n → bs.getD i false = true → i ∉ q → ∀ j, j < n → L i j → bs.getD j false = true
 inq : ∀ i, i ∈ q → i < n ∧ bs.getD i false = true
structure zkk (n : Nat) (S : Nat → Prop) (L : Nat → Nat → Prop) (bs : List Bool) (h : Nat) (q : List Nat) (k : Nat) : Prop where
 len : bs.length = n
 sound : ∀ j, j < n → bs.getD j false = true → Clo n S L j
 base : ∀ j, j < n → S j → bs.getD j false = true
 done : ∀ i, i < n → bs.getD i false = true → i ≠ h → i ∉ q → ∀ j, j < n → L i j → bs.getD j false = true
 inq : ∀ i, i ∈ q → i < n ∧ bs.getD i false = true
 hin : h < n ∧ bs.getD h false = true
 doneh : ∀ j, j < n → j < k → L h j → bs.getD j false = true
section
variable {n : Nat} {S : Nat → Prop} {L : Nat → Nat → Prop} {bs : List Bool} {h k : Nat} {q : List Nat}
theorem GInv.start (hl : bs.length = n) (hb : ∀ j, j < n → (bs.getD j false = true ↔ S j)) (hq : ∀ i, i < n → bs.getD i false = true → i ∈ q) (hin : ∀ i, i ∈ q → i < n ∧ bs.getD i false = true) : GInv n S L bs q :=
 ⟨hl, fun j hj h => Clo.base hj ((hb j hj).1 h), fun j hj h => (hb j hj).2 h, fun i hi h hnq => absurd (hq i hi h) hnq, hin⟩
theorem GInv.all (g : GInv n S L bs []) : ∀ j, j < n → (bs.getD j false = true ↔ Clo n S L j) := by
 intro j hj
 refine ⟨g.sound j hj, fun hc => ?_⟩
 induction hc with
 | base hi hs => exact g.base _ hi hs
 | step hc hj2 hl ih => exact g.done _ hc.lt (ih hc.lt) (by simp) _ hj2 hl
theorem GInv.head (g : GInv n S L bs (h :: q)) : zkk n S L bs h q 0 :=
 ⟨g.len, g.sound, g.base, fun i hi hb hne hnq => g.done i hi hb (by simp; exact ⟨hne, hnq⟩), fun i hi => g.inq i (by simp [hi]), g.inq h (by simp), fun j _ hj => by omega⟩
theorem zkk.finish (g : zkk n S L bs h q n) : GInv n S L bs q :=
 ⟨g.len, g.sound, g.base, fun i hi hb hnq j hj hl => by
  by_cases e : i = h
  ·subst e; exact g.doneh j hj hj hl
  ·exact g.done i hi hb e hnq j hj hl, g.inq⟩
theorem zkk.skip (g : zkk n S L bs h q k) (hk : bs.getD k false = true ∨ ¬ L h k) : zkk n S L bs h q (k + 1) :=
 ⟨g.len, g.sound, g.base, g.done, g.inq, g.hin, fun j hj hjk hl => by
  by_cases e : j = k
  ·subst e
   rcases hk with h1 | h1
   ·exact h1
   ·exact absurd hl h1
  ·exact g.doneh j hj (by omega) hl⟩
theorem zah (l : List Bool) (k j : Nat) (hk : k < l.length) : (l.set k true).getD j false = if j = k then true else l.getD j false := by
 by_cases e : j = k
 ·subst e; simp [List.getD, hk]
 ·rw [if_neg e]
  simp only [List.getD]
  rw [List.getElem?_set_ne (fun e' => e e'.symm)]
theorem zkk.push (g : zkk n S L bs h q k) (hk : k < n) (hl : L h k) : zkk n S L (bs.set k true) h (q ++ [k]) (k + 1) := by
 have hkl : k < bs.length := by rw [g.len]; exact hk
 have up : ∀ j, bs.getD j false = true → (bs.set k true).getD j false = true := fun j hj => by rw [zah _ _ _ hkl]; split <;> first | rfl | exact hj
 refine ⟨by rw [List.length_set]; exact g.len, fun j hj hb => ?_, fun j hj hs => up j (g.base j hj hs), fun i hi hb hne hnq j hj hlj => ?_, fun i hi => ?_, ⟨g.hin.1, up _ g.hin.2⟩, fun j hj hjk hlj => ?_⟩
 ·rw [zah _ _ _ hkl] at hb
  by_cases e : j = k
  ·subst e; exact Clo.step (g.sound h g.hin.1 g.hin.2) hj hl
  ·rw [if_neg e] at hb; exact g.sound j hj hb
 ·have hik : i ≠ k := fun e => hnq (by rw [e]; simp)
  rw [zah _ _ _ hkl, if_neg hik] at hb
  exact up j (g.done i hi hb hne (fun e => hnq (by simp [e])) j hj hlj)
 ·rcases List.mem_append.1 hi with h1 | h1
  ·exact ⟨(g.inq i h1).1, up i (g.inq i h1).2⟩
  ·simp at h1
   subst h1
   exact ⟨hk, by rw [zah _ _ _ hkl, if_pos rfl]⟩
 ·rw [zah _ _ _ hkl]
  by_cases e : j = k
  ·rw [if_pos e]
  ·rw [if_neg e]; exact g.doneh j hj (by omega) hlj
end
structure MC (n : Nat) (r : Mx) (lost : Nat → Prop) : Prop where
 d : ∀ i, i < n → r i i = 0
 nn : ∀ i j, i < n → j < n → 0 ≤ r i j
 ab : ∀ i j, i < n → j < n → lost i → r i j = 0
def FT (n : Nat) (r : Mx) (lost : Nat → Prop) : Nat → Prop := Clo n lost fun i j => 0 < r j i
structure LK (n : Nat) (r : Mx) (lost : Nat → Prop) (l : List Nat) : Prop where
 so : l.Pairwise (· < ·)
 lt : ∀ s, s ∈ l → s < n
 nl : ∀ s, s ∈ l → ¬ lost s
 ft : ∀ s, s ∈ l → FT n r lost s
 cl : ∀ s t, s ∈ l → t < n → 0 < r s t → t ∈ l ∨ lost t ∨ ¬ FT n r lost t
theorem sg_sub_le {n : Nat} {l : List Nat} {f : Nat → Rat} (hp : l.Pairwise (· < ·)) (hb : ∀ x, x ∈ l → x < n) (h0 : ∀ t, t < n → 0 ≤ f t) : sg l.length (fun i => f (l.getD i 0)) ≤ sg n f := by
 have h1 := zzi (n := n) (l := l) (f := fun t => if t ∈ l then f t else 0) hp hb (fun t ht h => by simp [h])
 have h2 : sg l.length (fun i => f (l.getD i 0)) = sg l.length fun i => if l.getD i 0 ∈ l then f (l.getD i 0) else 0 := zea fun i hi => by
  rw [if_pos (by rw [List.getD_eq_getElem?_getD, List.getElem?_eq_getElem hi]; exact List.getElem_mem hi)]
 rw [h2, ← h1]
 refine sg_le fun t ht => ?_
 show (if t ∈ l then f t else 0) ≤ f t
 split
 ·exact Rat.le_refl
 ·exact h0 t ht
theorem sg_sub_lt {n : Nat} {l : List Nat} {f : Nat → Rat} (hp : l.Pairwise (· < ·)) (hb : ∀ x, x ∈ l → x < n) (h0 : ∀ t, t < n → 0 ≤ f t) {k : Nat} (hk : k < n) (hkl : k ∉ l) (hf : 0 < f k) : sg l.length (fun i => f (l.getD i 0)) < sg n f := by
 have h1 := zzi (n := n) (l := l) (f := fun t => if t ∈ l then f t else 0) hp hb (fun t ht h => by simp [h])
 have h2 : sg l.length (fun i => f (l.getD i 0)) = sg l.length fun i => if l.getD i 0 ∈ l then f (l.getD i 0) else 0 := zea fun i hi => by
  rw [if_pos (by rw [List.getD_eq_getElem?_getD, List.getElem?_eq_getElem hi]; exact List.getElem_mem hi)]
 rw [h2, ← h1]
 refine sg_lt (fun t ht => ?_) hk (by show (if k ∈ l then f k else 0) < f k; rw [if_neg hkl]; exact hf)
 show (if t ∈ l then f t else 0) ≤ f t
 split
 ·exact Rat.le_refl
 ·exact h0 t ht
theorem zna {l : List Nat} {i : Nat} (hi : i < l.length) : l.getD i 0 ∈ l := by
 rw [List.getD_eq_getElem?_getD, List.getElem?_eq_getElem hi]; exact List.getElem_mem hi
theorem zem {l : List Nat} {s : Nat} (h : s ∈ l) : ∃ i, i < l.length ∧ l.getD i 0 = s := by
 obtain ⟨i, hi, e⟩ := List.mem_iff_getElem.1 h
 exact ⟨i, hi, by rw [List.getD_eq_getElem?_getD, List.getElem?_eq_getElem hi]; exact e⟩
theorem LK.esc {n : Nat} {r : Mx} {lost : Nat → Prop} {l : List Nat} (hm : MC n r lost) (h : LK n r lost l) : ∀ {s : Nat}, FT n r lost s → ∀ i, i < l.length → l.getD i 0 = s → ∃ k, esc l.length (fun i j => r (l.getD i 0) (l.getD j 0)) (fun i => sg n (r (l.getD i 0))) k i := by
 intro s hs
 induction hs with
 | base hi hS =>
   intro i hil e
   exact absurd hS (h.nl _ (e ▸ zna hil))
 | step hc hj hL ih =>
   rename_i a b
   intro i hil e
   have hbl : b ∈ l := e ▸ zna hil
   by_cases hal : a ∈ l
   ·obtain ⟨j, hjl, ej⟩ := zem hal
    obtain ⟨k, hk⟩ := ih j hjl ej
    exact ⟨k + 1, Or.inr ⟨j, hjl, by show 0 < r (l.getD i 0) (l.getD j 0); rw [e, ej]; exact hL, hk⟩⟩
   ·refine ⟨0, ?_⟩
    show sg l.length (fun j => r (l.getD i 0) (l.getD j 0)) < sg n (r (l.getD i 0))
    rw [e]
    exact sg_sub_lt (f := r b) h.so h.lt (fun t ht => hm.nn b t hj ht) (Clo.lt hc) hal hL
theorem LK.dt {n : Nat} {r : Mx} {lost : Nat → Prop} {l : List Nat} (hm : MC n r lost) (h : LK n r lost l) : dt l.length (mmA (fun i j => r (l.getD i 0) (l.getD j 0)) fun i => sg n (r (l.getD i 0))) ≠ 0 :=
 mm_dt (fun i hi => hm.d _ (h.lt _ (zna hi))) (fun i j hi hj => hm.nn _ _ (h.lt _ (zna hi)) (h.lt _ (zna hj)))
  (fun i hi => sg_sub_le (f := r (l.getD i 0)) h.so h.lt fun t ht => hm.nn _ t (h.lt _ (zna hi)) ht) (fun i hi => h.esc hm (h.ft _ (zna hi)) i hi rfl)
end Go.Proofs.Ytlpdkbmmbdfoiaa
namespace Go.Proofs.Ytlpdkbmmbdfoiaa
open Go.RowKit
def OwnFr (w : World) (e : TypeId) (B : Nat) (v : Value) (n : Nat) : Prop :=
 ∃ g cs, v = .slice (some ⟨g, 0, none⟩) n n ∧ w.ownsRow B e 3 v n cs ∧ ∀ c ∈ cs, ∀ z, c ≠ .int .u32 z
section
variable {w : World} {e : TypeId} {B n : Nat} {v : Value}
theorem OwnFr.ptr (h : OwnFr w e B v n) : ∃ g, ∀ k, Go.Proofs.Ytlpdkbmmbdfoiaa.ptr v k = ⟨g, k, none⟩ := by
 obtain ⟨g, cs, rfl, _⟩ := h
 exact ⟨g, fun k => by simp only [Go.Proofs.Ytlpdkbmmbdfoiaa.ptr, base, Addr.add_lit, Nat.zero_add]⟩
theorem OwnFr.inj (h : OwnFr w e B v n) {i j : Nat} (hij : i ≠ j) : Go.Proofs.Ytlpdkbmmbdfoiaa.ptr v i ≠ Go.Proofs.Ytlpdkbmmbdfoiaa.ptr v j := by
 obtain ⟨g, hg⟩ := h.ptr
 rw [hg, hg]
 intro h; injection h with h1 h2; exact hij h2
theorem OwnFr.sl (h : OwnFr w e B v n) : IsSl v := by
 obtain ⟨g, cs, rfl, h1, _⟩ := h
 rcases h1.2 with ⟨h', _⟩ | ⟨g', cap, cur, h', _, _, h2, h3, _⟩
 ·cases h'
 ·injection h' with h4 h5 h6
  subst h6
  exact ⟨_, _, _, rfl, h2, h3, fun e => by cases e⟩
theorem OwnFr.len (h : OwnFr w e B v n) : slen v = n := by obtain ⟨g, cs, rfl, _⟩ := h; rfl
theorem OwnFr.cell (h : OwnFr w e B v n) (j : Nat) (hj : j < n * 3) : ∃ x, w.cell? (Go.Proofs.Ytlpdkbmmbdfoiaa.ptr v j) = some x ∧ ∀ z, x ≠ .int .u32 z := by
 obtain ⟨g, cs, rfl, h1, h2⟩ := h
 have hl : cs.length = n * 3 := h1.1
 have := World.ownsRow.cellAt h1 j hj
 rw [List.getElem?_eq_getElem (by omega)] at this
 refine ⟨cs[j]'(by omega), ?_, h2 _ (List.getElem_mem _)⟩
 simpa only [Go.Proofs.Ytlpdkbmmbdfoiaa.ptr, base, Addr.add_lit, Nat.zero_add] using this
theorem OwnFr.frozen (h : OwnFr w e B v n) (j : Nat) : w.frozen? (Go.Proofs.Ytlpdkbmmbdfoiaa.ptr v j) = false := by
 obtain ⟨g, cs, rfl, h1, h2⟩ := h
 have := World.ownsRow.frozenAt h1 j
 simpa only [Go.Proofs.Ytlpdkbmmbdfoiaa.ptr, base, Addr.add_lit, Nat.zero_add] using this
theorem OwnFr.block (h : OwnFr w e B v n) : B ≤ (base v).block ∧ (base v).block < w.heap.size := by
 obtain ⟨g, cs, rfl, h1, h2⟩ := h
 rcases h1.2 with ⟨h', _⟩ | ⟨g', cap, cur, h', hb, hg, _⟩
 ·cases h'
 ·injection h' with h4
  injection h4 with h4
  injection h4 with h4
  subst h4
  exact ⟨hb, (Array.getElem?_eq_some_iff.1 hg).1⟩
theorem OwnFr.below {w' : World} (h : OwnFr w e B v n) (hb : Below w.heap.size w w') : OwnFr w' e B v n := by
 obtain ⟨g, cs, rfl, h1, h2⟩ := h
 exact ⟨g, cs, rfl, World.ownsRow.kept h1 (zzb hb) (Or.inr (by simp [Value.ownBlock])), h2⟩
theorem OwnFr.set (h : OwnFr w e B v n) (j : Nat) (u : Value) (hu : ∀ z, u ≠ .int .u32 z) : OwnFr (w.setCell (Go.Proofs.Ytlpdkbmmbdfoiaa.ptr v j) u) e B v n ∧ Below B w (w.setCell (Go.Proofs.Ytlpdkbmmbdfoiaa.ptr v j) u) := by
 have hbl := h.block
 obtain ⟨g, cs, rfl, h1, h2⟩ := h
 have hs := World.ownsRow.stored h1 j u
 have hp : Go.Proofs.Ytlpdkbmmbdfoiaa.ptr (.slice (some ⟨g, 0, none⟩) n n) j = ⟨g, j, none⟩ := by simp only [Go.Proofs.Ytlpdkbmmbdfoiaa.ptr, base, Addr.add_lit, Nat.zero_add]
 rw [hp]
 refine ⟨⟨g, _, rfl, hs.1, fun c hc => ?_⟩, below_of_grown hs.2 (by simp only [base] at hbl; omega) (fun k hk => by simp [base] at hbl hk; omega)⟩
 rcases List.mem_or_eq_of_mem_set hc with h' | h'
 ·exact h2 c h'
 ·subst h'; exact hu
def ElemC (w : World) (v : Value) (j : Nat) (q : Rat) : Prop :=
 ∃ a b, w.cell? (Go.Proofs.Ytlpdkbmmbdfoiaa.ptr v (j * 3)) = some (.bool (decide (q < 0))) ∧ w.cell? (Go.Proofs.Ytlpdkbmmbdfoiaa.ptr v (j * 3 + 1)) = some a ∧ w.cell? (Go.Proofs.Ytlpdkbmmbdfoiaa.ptr v (j * 3 + 2)) = some b ∧ NatC w a q.num.natAbs ∧ NatC w b q.den
theorem ElemC.below {w' : World} {j : Nat} {q : Rat} (h : ElemC w v j q) (hb : Below w.heap.size w w') : ElemC w' v j q := by
 obtain ⟨a, b, h1, h2, h3, h4, h5⟩ := h
 exact ⟨a, b, cell_below hb h1, cell_below hb h2, cell_below hb h3, h4.below hb, h5.below hb⟩
theorem OwnFr.set3 (h : OwnFr w e B v n) (i : Nat) (x y z : Value) (hx : ∀ k, x ≠ .int .u32 k) (hy : ∀ k, y ≠ .int .u32 k) (hz : ∀ k, z ≠ .int .u32 k) :
 OwnFr (((w.setCell (Go.Proofs.Ytlpdkbmmbdfoiaa.ptr v (i * 3)) x).setCell (Go.Proofs.Ytlpdkbmmbdfoiaa.ptr v (i * 3 + 1)) y).setCell (Go.Proofs.Ytlpdkbmmbdfoiaa.ptr v (i * 3 + 2)) z) e B v n ∧
  Below B w (((w.setCell (Go.Proofs.Ytlpdkbmmbdfoiaa.ptr v (i * 3)) x).setCell (Go.Proofs.Ytlpdkbmmbdfoiaa.ptr v (i * 3 + 1)) y).setCell (Go.Proofs.Ytlpdkbmmbdfoiaa.ptr v (i * 3 + 2)) z) := by
 have h1 := h.set (i * 3) x hx
 have h2 := h1.1.set (i * 3 + 1) y hy
 have h3 := h2.1.set (i * 3 + 2) z hz
 exact ⟨h3.1, (h1.2.trans h2.2).trans h3.2⟩
theorem NatC.over1 (h : OwnFr w e B v n) {x : Value} {m : Nat} (hx : NatC w x m) (j : Nat) (hj : j < n * 3) (u : Value) : NatC (w.setCell (Go.Proofs.Ytlpdkbmmbdfoiaa.ptr v j) u) x m := by
 obtain ⟨c, h1, h2⟩ := h.cell j hj
 exact ⟨hx.v.over h1 h2 u, hx.2⟩
theorem NatC.over3 (h : OwnFr w e B v n) {c : Value} {m : Nat} (hc : NatC w c m) (i : Nat) (hi : i < n) (x y z : Value) (hx : ∀ k, x ≠ .int .u32 k) (hy : ∀ k, y ≠ .int .u32 k) :
 NatC (((w.setCell (Go.Proofs.Ytlpdkbmmbdfoiaa.ptr v (i * 3)) x).setCell (Go.Proofs.Ytlpdkbmmbdfoiaa.ptr v (i * 3 + 1)) y).setCell (Go.Proofs.Ytlpdkbmmbdfoiaa.ptr v (i * 3 + 2)) z) c m := by
 have h1 := h.set (i * 3) x hx
 have h2 := h1.1.set (i * 3 + 1) y hy
 exact NatC.over1 h2.1 (NatC.over1 h1.1 (NatC.over1 h hc _ (by omega) _) _ (by omega) _) _ (by omega) _
theorem znd (h : OwnFr w e B v n) (i k : Nat) (hk : k ≠ i * 3) (hk1 : k ≠ i * 3 + 1) (hk2 : k ≠ i * 3 + 2) (x y z : Value) :
 (((w.setCell (Go.Proofs.Ytlpdkbmmbdfoiaa.ptr v (i * 3)) x).setCell (Go.Proofs.Ytlpdkbmmbdfoiaa.ptr v (i * 3 + 1)) y).setCell (Go.Proofs.Ytlpdkbmmbdfoiaa.ptr v (i * 3 + 2)) z).cell? (Go.Proofs.Ytlpdkbmmbdfoiaa.ptr v k) = w.cell? (Go.Proofs.Ytlpdkbmmbdfoiaa.ptr v k) := by
 rw [World.cell?_setCell_other _ _ _ _ (h.inj (Ne.symm hk2)), World.cell?_setCell_other _ _ _ _ (h.inj (Ne.symm hk1)), World.cell?_setCell_other _ _ _ _ (h.inj (Ne.symm hk))]
theorem ElemC.set3_other (h : OwnFr w e B v n) {i j : Nat} (hi : i < n) (hij : i ≠ j) {q : Rat} (hj : ElemC w v j q) (x y z : Value) (hx : ∀ k, x ≠ .int .u32 k) (hy : ∀ k, y ≠ .int .u32 k) :
 ElemC (((w.setCell (Go.Proofs.Ytlpdkbmmbdfoiaa.ptr v (i * 3)) x).setCell (Go.Proofs.Ytlpdkbmmbdfoiaa.ptr v (i * 3 + 1)) y).setCell (Go.Proofs.Ytlpdkbmmbdfoiaa.ptr v (i * 3 + 2)) z) v j q := by
 obtain ⟨a, b, h1, h2, h3, h4, h5⟩ := hj
 refine ⟨a, b, ?_, ?_, ?_, NatC.over3 h h4 i hi x y z hx hy, NatC.over3 h h5 i hi x y z hx hy⟩
 ·rw [znd h i _ (by omega) (by omega) (by omega)]; exact h1
 ·rw [znd h i _ (by omega) (by omega) (by omega)]; exact h2
 ·rw [znd h i _ (by omega) (by omega) (by omega)]; exact h3
theorem ElemC.set3 (h : OwnFr w e B v n) {i : Nat} (hi : i < n) {q : Rat} {x y z : Value} (hf : FracC w (.agg #[x, y, z]) q) :
 ElemC (((w.setCell (Go.Proofs.Ytlpdkbmmbdfoiaa.ptr v (i * 3)) x).setCell (Go.Proofs.Ytlpdkbmmbdfoiaa.ptr v (i * 3 + 1)) y).setCell (Go.Proofs.Ytlpdkbmmbdfoiaa.ptr v (i * 3 + 2)) z) v i q := by
 obtain ⟨a, b, ha, h4, h5⟩ := hf
 injection ha with ha
 injection ha with ha
 simp only [List.cons.injEq, and_true] at ha
 obtain ⟨rfl, rfl, rfl⟩ := ha
 have nx : ∀ k, Value.bool (decide (q < 0)) ≠ .int .u32 k := fun k => by simp
 have ny : ∀ k, y ≠ .int .u32 k := fun k => by obtain ⟨a1, n1, c1, e1, _⟩ := h4.v.sl; subst e1; simp
 obtain ⟨c0, d0, _⟩ := h.cell (i * 3) (by omega)
 obtain ⟨c1, d1, _⟩ := h.cell (i * 3 + 1) (by omega)
 obtain ⟨c2, d2, _⟩ := h.cell (i * 3 + 2) (by omega)
 have n01 := h.inj (show i * 3 ≠ i * 3 + 1 by omega)
 have n02 := h.inj (show i * 3 ≠ i * 3 + 2 by omega)
 have n12 := h.inj (show i * 3 + 1 ≠ i * 3 + 2 by omega)
 refine ⟨y, z, ?_, ?_, ?_, NatC.over3 h h4 i hi _ _ _ nx ny, NatC.over3 h h5 i hi _ _ _ nx ny⟩
 ·rw [World.cell?_setCell_other _ _ _ _ n02.symm, World.cell?_setCell_other _ _ _ _ n01.symm]
  exact World.cell?_setCell_same _ _ _ d0
 ·rw [World.cell?_setCell_other _ _ _ _ n12.symm]
  exact World.cell?_setCell_same _ _ _ (u := c1) (by rw [World.cell?_setCell_other _ _ _ _ n01]; exact d1)
 ·exact World.cell?_setCell_same _ _ _ (u := c2) (by rw [World.cell?_setCell_other _ _ _ _ n12, World.cell?_setCell_other _ _ _ _ n02]; exact d2)
end
theorem zph {P : Program} (t e : TypeId) (i : TypeInfo) (h1 : P.underlying t = some (.slice e)) (h2 : P.info? e = some i) (h3 : i.zero = some (.agg #[.bool false, .slice none 0 0, .slice none 0 0])) (h4 : i.size = 3) (h5 : i.bytes ≤ 64)
 (w : World) {ops : Array Oper} {rest : List Oper} {o : Oper} {a : Act} {Q : Exit → Act → World → Prop} (hg : o.guard = none) (l c : Operand) (hop : o.op = Op.makeSlice t l c)
 (B : Nat) (u : Int) (n : Nat) (hu : u = n) (hl : a.eval l = .int .i64 u) (hc : a.eval c = .int .i64 u) (b2 : n ≤ 4398046511104) (b4 : B ≤ w.heap.size)
 (hK : ∀ v w', OwnFr w' e B v n → Below w.heap.size w w' → w.heap.size ≤ (base v).block → wpList P ops Q rest (a.put o.dst v) w') :
 wpList P ops Q (o :: rest) a w := by
 subst hu
 refine wpList_make_full w hg l c t hop B e i _ 3 h1 h2 h3 h4 .i64 .i64 n n n hl hc rfl rfl (Nat.le_trans (Nat.mul_le_mul_right _ h5) (by omega)) (by unfold maxLen; omega) b4 ?_
 intro w' hown hgr
 refine hK _ w' ⟨_, _, rfl, hown, fun x hx z => ?_⟩ (below_of_grown hgr (Nat.le_refl _) (fun k hk => by cases hk)) (by simp [base])
 have hx2 : x ∈ (madeCells #[Value.bool false, .slice none 0 0, .slice none 0 0] (n * 3)).toList := hx
 unfold madeCells at hx2
 simp only [Array.toList_map, List.mem_map, Array.mem_toList_iff] at hx2
 obtain ⟨k, hk, rfl⟩ := hx2
 have h7 : k % 3 < 3 := Nat.mod_lt _ (by decide)
 have h8 : (#[Value.bool false, .slice none 0 0, .slice none 0 0] : Array Value).size = 3 := rfl
 rw [h8]
 rcases (show k % 3 = 0 ∨ k % 3 = 1 ∨ k % 3 = 2 by omega) with h9 | h9 | h9 <;> rw [h9] <;> simp
end Go.Proofs.Ytlpdkbmmbdfoiaa
