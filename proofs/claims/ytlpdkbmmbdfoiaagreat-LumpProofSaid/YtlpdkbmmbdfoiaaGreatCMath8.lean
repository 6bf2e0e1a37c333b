/-
  The order of fractions.
  Ahead of it: package fraction: absolute, Make, Reduce, Add, Cmp, Sum. Sums of fractions that are at least 0: weights bound them. Lists of fractions, of numbers, of bools; matrices; chains. package fraction: Sum.
-/
import Derived.Test.YtlpdkbmmbdfoiaaGreatCStep
import Derived.Test.YtlpdkbmmbdfoiaaGreatCBlk
import Derived.Deep.RegionHeld3
namespace Go.Proofs.YtlpdkbmmbdfoiaaGreat
set_option linter.unusedVariables false
set_option linter.unusedSimpArgs false
open Go.RowKit

theorem below_then {w w1 w2 : World} (h : Below w.heap.size w w1) (h' : Below w1.heap.size w1 w2) : Below w.heap.size w w2 := h.trans (h'.mono h.size)
theorem absolute_any (z : Int) (w : World) (h1 : -9223372036854775808 ≤ z) (h2 : z < 9223372036854775808) :
    Calls Tryz.prog 143 #[.int .i64 z] w (RNat w z.natAbs) := by
  rcases Int.lt_or_le z 0 with h | h
  · have h0 : z < 0 := h
    obtain ⟨m, hm⟩ : ∃ m : Nat, z = -(m : Int) := ⟨z.natAbs, by omega⟩
    have hM := make_any m (by omega)
    have e : z.natAbs = m := by omega
    rw [e]
    clear e
    subst hm
    have hw : IntKind.u64.wrap (-IntKind.u64.wrap (-(m : Int))) = (m : Int) := by rw [wrap_u64, wrap_u64]; omega
    go_enter Tryz.func143, Tryz.ntmps143
    go_wp2_with fail
    refine (hM w).mono ?_
    rintro e w' ⟨r, rfl, hr, hb⟩
    go_wp2
    go_ret
    exact ⟨_, rfl, hr, hb⟩
  · obtain ⟨m, rfl⟩ : ∃ m : Nat, z = (m : Int) := ⟨z.natAbs, by omega⟩
    have hM := make_any m (by omega)
    have e : (m : Int).natAbs = m := by omega
    rw [e]
    have hw : IntKind.u64.wrap (m : Int) = (m : Int) := by rw [wrap_u64]; omega
    clear e h1 h2 h
    go_enter Tryz.func143, Tryz.ntmps143
    go_wp2_with fail
    refine (hM w).mono ?_
    rintro e w' ⟨r, rfl, hr, hb⟩
    go_wp2
    go_ret
    exact ⟨_, rfl, hr, hb⟩

theorem RFrac.toSet {w0 : World} {q : Rat} {v : Value} {w : World} {b : Nat} {x y : Value} {s : Bool} (hf : fits q → FracC w v q) (hc : C3 w b (.bool s) x y) (hx : ∀ z, x ≠ .int .u32 z) (hy : ∀ z, y ≠ .int .u32 z) (u0 u1 u2 : Value) :
    fits q → FracC (((w.setCell ⟨b, 0, none⟩ u0).setCell ⟨b, 1, none⟩ u1).setCell ⟨b, 2, none⟩ u2) v q := fun h => (hf h).set3 hc hx hy _ _ _
/-- A value of the type Frac. -/
def IsF (v : Value) : Prop := ∃ s x y, v = .agg #[.bool s, x, y] ∧ IsSl x ∧ IsSl y
theorem FracC.isF {w : World} {v : Value} {q : Rat} (h : FracC w v q) : IsF v := by
  obtain ⟨a, b, rfl, h1, h2⟩ := h; exact ⟨_, a, b, rfl, h1.v.sl, h2.v.sl⟩
theorem FracN.isF {w : World} {v : Value} {s : Bool} {n d : Nat} (h : FracN w v s n d) : IsF v := by
  obtain ⟨a, b, rfl, h1, h2⟩ := h; exact ⟨_, a, b, rfl, h1.slen.1, h2.slen.1⟩
theorem isF_zero : IsF zeroF := ⟨false, _, _, rfl, IsSl.nil, IsSl.nil⟩
theorem rfrac_isF {w0 w : World} {q : Rat} {v : Value} {er : Int} (h1 : fits q → er = 0 ∧ FracC w v q) (h2 : ¬ fits q → er = 2 ∧ v = zeroF) : IsF v := by
  by_cases h : fits q
  · exact (h1 h).2.isF
  · rw [(h2 h).2]; exact isF_zero

set_option maxHeartbeats 800000 in
theorem make_frac (a b : Int) (w : World) (ha1 : -9223372036854775808 ≤ a) (ha2 : a < 9223372036854775808) (hb1 : -9223372036854775808 ≤ b) (hb2 : b < 9223372036854775808) (hb : b ≠ 0) :
    Calls Tryz.prog 67 #[.int .i64 a, .int .i64 b] w (RFrac w (fq (!decide (a < 0) == decide (b < 0)) a.natAbs b.natAbs)) := by
  have HA := Lib.hid (And.intro ha1 ha2)
  have HB := Lib.hid (And.intro hb1 hb2)
  have hbn : b.natAbs ≠ 0 := by omega
  have HBN := Lib.hid hbn
  have h1 : ∀ z : Int, -9223372036854775808 ≤ z → z < 9223372036854775808 → nlen z.natAbs ≤ 512 := fun z _ _ => nlen_le.2 (Nat.lt_of_lt_of_le (show z.natAbs < pw 2 by have : pw 2 = 18446744073709551616 := rfl; omega) (pw_le (by omega)))
  have H1 := Lib.hid (h1 a ha1 ha2)
  have H2 := Lib.hid (h1 b hb1 hb2)
  have h9 : (b == 0) = false := by simpa using hb
  clear ha1 ha2 hb1 hb2 hbn h1 hb
  go_enter Tryz.func67, Tryz.ntmps67
  go_wp2_with (first
    | (go_at_call 143; first
      | ((with_reducible refine (absolute_any a _ HA.out.1 HA.out.2).mono ?_); rintro e w1 ⟨x, rfl, hx, hx1⟩)
      | ((with_reducible refine (absolute_any b _ HB.out.1 HB.out.2).mono ?_); rintro e w2 ⟨y, rfl, hy, hy1⟩; have hx2 := hx.below hy1))
    | (go_at_call 142; (with_reducible refine (lowest_any _ x y a.natAbs b.natAbs _ hx2.nat hy.nat HBN.out H1.out H2.out).mono ?_); rintro e w3 ⟨v, er, rfl, hv1, hv2, hv3⟩
       obtain ⟨t, x1, y1, rfl, ⟨a1, l1, k1, rfl, _⟩, ⟨a2, l2, k2, rfl, _⟩⟩ := rfrac_isF (w0 := w) hv2 hv3
       have hC := (((C3.new w _ _ _ _).belowS hx1).belowS hy1).belowS hv1
       have HC := Lib.hid hC
       have hbz := (below_alloc w _).trans ((hx1.trans ((hy1.trans (hv1.mono hy1.size)).mono hx1.size)).mono (below_alloc w _).size)
       obtain ⟨_, d0, d1, d2, e0, e1, e2⟩ := hC))
  refine bodyPost_c3 rfl rfl Tryz.aggF Tryz.sizeF (HC.out.set _ _ _) rfl ?_
  exact ⟨_, _, rfl, below_set3 hbz (Nat.le_refl _) _ _ _, fun h => ⟨(hv2 h).1, (hv2 h).2.set3 HC.out (fun z => by simp) (fun z => by simp) _ _ _⟩, hv3⟩

theorem valid_ok (v : Value) (s : Bool) (n d : Nat) (w : World) (h : FracN w v s n d) (hk : okN n d) :
    Calls Tryz.prog 79 #[v] w fun e w' => e = .returned (.bool true) ∧ Below w.heap.size w w' :=
  (valid_any v s n d w h).mono fun e w' ⟨h1, h2⟩ => ⟨by rw [h1, decide_eq_true hk], h2⟩
theorem C3.allocS {w : World} {b : Nat} {v0 v1 v2 : Value} (h : C3 w b v0 v1 v2) (o : Obj) : C3 (w.alloc o) b v0 v1 v2 := h.belowS (below_alloc w o)
theorem three_boxes (w : World) (t : TypeId) (x0 x1 x2 y0 y1 y2 z0 z1 z2 : Value) (W : World)
    (hW : W = ((w.alloc (.cells #[x0, x1, x2] t)).alloc (.cells #[y0, y1, y2] t)).alloc (.cells #[z0, z1, z2] t)) :
    C3 W w.heap.size x0 x1 x2 ∧ C3 W (w.heap.size + 1) y0 y1 y2 ∧ C3 W (w.heap.size + 1 + 1) z0 z1 z2 ∧ Below w.heap.size w W := by
  subst hW
  have e1 : (w.alloc (.cells #[x0, x1, x2] t)).heap.size = w.heap.size + 1 := by show (w.heap.push _).size = _; simp
  have e2 : ((w.alloc (.cells #[x0, x1, x2] t)).alloc (.cells #[y0, y1, y2] t)).heap.size = w.heap.size + 1 + 1 := by show (World.heap _ |>.push _).size = _; rw [Array.size_push, e1]
  refine ⟨((C3.new w t x0 x1 x2).allocS _).allocS _, ?_, ?_, ?_⟩
  · rw [← e1]; exact (C3.new _ t y0 y1 y2).allocS _
  · rw [← e2]; exact C3.new _ t z0 z1 z2
  · exact (below_alloc w _).trans (((below_alloc _ _).trans ((below_alloc _ _).mono (below_alloc _ _).size)).mono (below_alloc w _).size)
theorem nlen_mul {a b j k : Nat} (ha : nlen a ≤ j) (hb : nlen b ≤ k) : nlen (a * b) ≤ j + k := by
  rw [nlen_le] at *
  have := Nat.mul_lt_mul'' ha hb
  rwa [← pw_add] at this
theorem nlen_sum {a b k : Nat} (ha : nlen a ≤ k) (hb : nlen b ≤ k) : nlen (a + b) ≤ k + 1 := by
  rw [nlen_le] at *
  rw [pw_succ]; omega
theorem cmp_ge0 (va vb : Value) (m n : Nat) (w : World) (ha : NatN w va m) (hb : NatN w vb n) (h : n ≤ m) :
    Calls Tryz.prog 159 #[va, vb] w fun e w' => (∃ c : Int, e = .returned (.int .i64 c) ∧ decide (0 ≤ c) = true) ∧ Below w.heap.size w w' :=
  (cmp_any va vb m n w ha hb).mono fun _ _ ⟨a, k, b⟩ => ⟨⟨_, a, by unfold cmpN; rw [if_neg (by omega)]; split <;> rfl⟩, b ▸ below_drewN w k⟩
theorem cmp_lt0 (va vb : Value) (m n : Nat) (w : World) (ha : NatN w va m) (hb : NatN w vb n) (h : m < n) :
    Calls Tryz.prog 159 #[va, vb] w fun e w' => (∃ c : Int, e = .returned (.int .i64 c) ∧ decide (0 ≤ c) = false) ∧ Below w.heap.size w w' :=
  (cmp_any va vb m n w ha hb).mono fun _ _ ⟨a, k, b⟩ => ⟨⟨_, a, by rw [cmpN_lt h]; rfl⟩, b ▸ below_drewN w k⟩
theorem okN_nlen {n d : Nat} (h : okN n d) : nlen n ≤ 128 ∧ nlen d ≤ 128 := ⟨nbits_nlen h.2.2, nbits_nlen h.2.1⟩
set_option maxRecDepth 100000 in
set_option maxHeartbeats 1600000 in
theorem add_frac (va vb : Value) (s t : Bool) (n d m e : Nat) (w : World) (ha : FracN w va s n d) (hb : FracN w vb t m e) (h1 : okN n d) (h2 : okN m e) :
    Calls Tryz.prog 80 #[va, vb] w (RFrac w (fq s n d + fq t m e)) := by
  have hA := ha
  have hB := hb
  obtain ⟨xn, xd, rfl, hxn, hxd⟩ := ha
  obtain ⟨yn, yd, rfl, hyn, hyd⟩ := hb
  obtain ⟨an, ln, kn, rfl, _⟩ := hxn.slen.1
  obtain ⟨ad, ld, kd, rfl, _⟩ := hxd.slen.1
  obtain ⟨am, lm, km, rfl, _⟩ := hyn.slen.1
  obtain ⟨ae, le, ke, rfl, _⟩ := hyd.slen.1
  have K1 := Lib.hid h1
  have K2 := Lib.hid h2
  clear h1 h2
  go_enter Tryz.func80, Tryz.ntmps80
  go_wp2_with fail
  obtain ⟨W, hW⟩ : ∃ W, W = (((w.alloc (.cells #[.bool s, .slice an ln kn, .slice ad ld kd] 38)).alloc (.cells #[.bool t, .slice am lm km, .slice ae le ke] 38)).alloc (.cells #[.bool false, .slice none 0 0, .slice none 0 0] 38)) := ⟨_, rfl⟩
  obtain ⟨bx, byy, bz, hbw⟩ := three_boxes w 38 _ _ _ _ _ _ _ _ _ W hW
  rw [← hW]
  clear hW
  have HBX := Lib.hid bx
  have HBY := Lib.hid byy
  have HBZ := Lib.hid bz
  obtain ⟨_, q1, q2, q3, q4, q5, q6⟩ := bx
  obtain ⟨_, r1, r2, r3, r4, r5, r6⟩ := byy
  go_wp2_with (first
    | (go_at_call 79; first
       | ((with_reducible refine (valid_ok _ s n d _ (hA.below hbw) K1.out).mono ?_); rintro e9 w1 ⟨rfl, hv1⟩
          obtain ⟨_, f1, f2, f3, f4, f5, f6⟩ := HBY.out.belowS hv1
          have hbw1 := hbw.trans (hv1.mono hbw.size))
       | ((with_reducible refine (valid_ok _ t m e _ (hB.below hbw1) K2.out).mono ?_); rintro e9 w2 ⟨rfl, hv2⟩
          have hbx2 := (HBX.out.belowS hv1).belowS hv2
          have hby2 := (HBY.out.belowS hv1).belowS hv2
          have hbz2 := (HBZ.out.belowS hv1).belowS hv2
          have hbw2 := hbw1.trans (hv2.mono hbw1.size))))
  clear q1 q2 q3 q4 q5 q6 r1 r2 r3 r4 r5 r6 f1 f2 f3 f4 f5 f6
  have hd2 := below_drew (B := w2.heap.size) w2
  have hD := hbw2.trans (hd2.mono hbw2.size)
  have hbx3 := hbx2.belowS hd2
  have hby3 := hby2.belowS hd2
  have hbz3 := hbz2.belowS hd2
  clear hbx2 hby2 hbz2 hbw2 hv1 hv2 hbw hbw1 HBX HBY HBZ bz hd2
  have HX3 := Lib.hid hbx3
  have HY3 := Lib.hid hby3
  have HZ3 := Lib.hid hbz3
  obtain ⟨_, q1, q2, q3, q4, q5, q6⟩ := hbx3
  obtain ⟨_, r1, r2, r3, r4, r5, r6⟩ := hby3
  clear hbz3
  have g1 := hxn.below hD
  have g2 := hxd.below hD
  have g3 := hyn.below hD
  have g4 := hyd.below hD
  have l1 := Lib.hid (okN_nlen K1.out)
  have l2 := Lib.hid (okN_nlen K2.out)
  have T1 := Lib.hid (Nat.le_trans l1.out.1 (show 128 ≤ 256 by decide))
  have T2 := Lib.hid (Nat.le_trans l2.out.2 (show 128 ≤ 256 by decide))
  have T3 := Lib.hid (Nat.le_trans l2.out.1 (show 128 ≤ 256 by decide))
  have T4 := Lib.hid (Nat.le_trans l1.out.2 (show 128 ≤ 256 by decide))
  have tok1 : True := trivial
  have tok2 : True := trivial
  have tok3 : True := trivial
  go_region_held3 (fun w' => w'.cell? ⟨w.heap.size, 1, none⟩ = some (.slice an ln kn) ∧ w'.cell? ⟨w.heap.size, 2, none⟩ = some (.slice ad ld kd) ∧ w'.cell? ⟨w.heap.size + 1, 1, none⟩ = some (.slice am lm km) ∧ w'.cell? ⟨w.heap.size + 1, 2, none⟩ = some (.slice ae le ke)) (exact ⟨q2, q3, r2, r3⟩) (first
    | (go_at_call 157; have _t := tok1; clear tok1 _t; (with_reducible refine (times_any _ _ n e _ g1 g4 T1.out T2.out).mono ?_); rintro e9 w3 ⟨p1, rfl, hp1, hp2⟩
       have X4 := HX3.out.belowS hp2
       have Y4 := HY3.out.belowS hp2
       have HX4 := Lib.hid X4
       have HY4 := Lib.hid Y4
       obtain ⟨_, q1, q2, q3, q4, q5, q6⟩ := X4
       obtain ⟨_, r1, r2, r3, r4, r5, r6⟩ := Y4)
    | (go_at_call 157; have _t := tok2; clear tok2 _t; (with_reducible refine (times_any _ _ m d _ (g3.below hp2) (g2.below hp2) T3.out T4.out).mono ?_); rintro e9 w4 ⟨p3, rfl, hp3, hp4⟩
       have hp24 := below_then hp2 hp4
       have hp14 := hp1.below hp4
       have X5 := HX4.out.belowS hp4
       have Y5 := HY4.out.belowS hp4
       have HX5 := Lib.hid X5
       have HY5 := Lib.hid Y5
       obtain ⟨_, q1, q2, q3, q4, q5, q6⟩ := X5
       obtain ⟨_, r1, r2, r3, r4, r5, r6⟩ := Y5)
    | (go_at_call 157; have _t := tok3; clear tok3 _t; (with_reducible refine (times_any _ _ d e _ (g2.below hp24) (g4.below hp24) T4.out T2.out).mono ?_); rintro e9 w5 ⟨p5, rfl, hp5, hp6⟩
       have hp26 := below_then hp24 hp6
       have hp16 := hp14.below hp6
       have hp36 := hp3.below hp6
       have X6 := HX5.out.belowS hp6
       have Y6 := HY5.out.belowS hp6
       have HX6 := Lib.hid X6
       have HY6 := Lib.hid Y6
       obtain ⟨_, q1, q2, q3, q4, q5, q6⟩ := X6
       obtain ⟨_, r1, r2, r3, r4, r5, r6⟩ := Y6))
  have hdw : Below w.heap.size w w5 := hD.trans (hp26.mono hD.size)
  have HZ6 := Lib.hid (HZ3.out.belowS hp26)
  have HDE : Hid (d * e ≠ 0) := Lib.hid (Nat.mul_ne_zero K1.out.1 K2.out.1)
  have N1 := Lib.hid (nlen_mul l1.out.1 l2.out.2)
  have N3 := Lib.hid (nlen_mul l2.out.1 l1.out.2)
  have N5 := Lib.hid (Nat.le_trans (nlen_mul l1.out.2 l2.out.2) (show 128 + 128 ≤ 512 by decide))
  have NS := Lib.hid (Nat.le_trans (nlen_sum N1.out N3.out) (show 128 + 128 + 1 ≤ 512 by decide))
  have N12 := Lib.hid (Nat.le_trans N1.out (show 128 + 128 ≤ 512 by decide))
  have N32 := Lib.hid (Nat.le_trans N3.out (show 128 + 128 ≤ 512 by decide))
  clear hp24 hp26 hp14 hp1 hp3 hp2 hp4 hp6 hD HZ3 g1 g2 g3 g4 HX3 HY3 HX4 HY4 HX5 HY5 T1 T2 T3 T4
  by_cases hst : s = t
  · have HQ := Lib.hid (fq_add_same s n d m e K1.out.1 K2.out.1)
    subst hst
    go_wp2_with (first
      | (go_at_call 158; (with_reducible refine (add_any p1 p3 (n * e) (m * d) _ hp16.nat hp36.nat N12.out N32.out).mono ?_); rintro e9 w6 ⟨r, er, rfl, hr, hb6⟩
         have hr6 := (hr.1 NS.out).2
         have hp56 := hp5.below hb6
         have hdw6 := below_then hdw hb6
         have HZ7 := Lib.hid (HZ6.out.belowS hb6)
         obtain ⟨_, q1, q2, q3, q4, q5, q6⟩ := HX6.out.belowS hb6
         obtain ⟨_, r1, r2, r3, r4, r5, r6⟩ := HY6.out.belowS hb6
         )
      | (go_at_call 142; (with_reducible refine (lowest_any s r p5 (n * e + m * d) (d * e) _ hr6.nat hp56.nat HDE.out NS.out N5.out).mono ?_); rintro e9 w7 ⟨v, er7, rfl, hv1, hv2, hv3⟩
         rw [← HQ.out] at hv2 hv3
         obtain ⟨t9, x9, y9, rfl, ⟨a1, l91, k1, rfl, _⟩, ⟨a2, l92, k2, rfl, _⟩⟩ := rfrac_isF (w0 := w) hv2 hv3
         have hC := HZ7.out.belowS hv1
         have HC := Lib.hid hC
         have hbz := below_then hdw6 hv1
         obtain ⟨_, d0, d1, d2, e0, e1, e2⟩ := hC
         )
      )
    refine bodyPost_c3 rfl rfl Tryz.aggF Tryz.sizeF (HC.out.set _ _ _) rfl ?_
    exact ⟨_, _, rfl, below_set3 hbz (by omega) _ _ _, fun h => ⟨(hv2 h).1, (hv2 h).2.set3 HC.out (fun z => by simp) (fun z => by simp) _ _ _⟩, hv3⟩
  · have hsb : (s == t) = false := by simpa using hst
    by_cases hle : m * d ≤ n * e
    · have HQ := Lib.hid (fq_add_ge s t n d m e K1.out.1 K2.out.1 hsb hle)
      have HLE := Lib.hid hle
      have NS := Lib.hid (Nat.le_trans (nlen_mono (Nat.sub_le (n * e) (m * d))) N12.out)
      clear hle
      go_wp2_with (first
        | (go_at_call 159; (with_reducible refine (cmp_ge0 p1 p3 (n * e) (m * d) _ hp16.nat hp36.nat HLE.out).mono ?_); rintro e9 w5b ⟨⟨c, rfl, hc⟩, hb5⟩
           have hp16 := hp16.below hb5
           have hp36 := hp36.below hb5
           have hp5 := hp5.below hb5
           have HX6 := Lib.hid (HX6.out.belowS hb5)
           have HY6 := Lib.hid (HY6.out.belowS hb5)
           have HZ6 := Lib.hid (HZ6.out.belowS hb5)
           have hdw := below_then hdw hb5)
        | (go_at_call 160; (with_reducible refine (sub_any p1 p3 (n * e) (m * d) _ hp16.nat hp36.nat N12.out HLE.out).mono ?_); rintro e9 w6 ⟨r, er, rfl, hr, hb6⟩
           have hr6 := (hr.1 NS.out).2
           have hp56 := hp5.below hb6
           have hdw6 := below_then hdw hb6
           have HZ7 := Lib.hid (HZ6.out.belowS hb6)
           obtain ⟨_, q1, q2, q3, q4, q5, q6⟩ := HX6.out.belowS hb6
           obtain ⟨_, r1, r2, r3, r4, r5, r6⟩ := HY6.out.belowS hb6
           )
        | (go_at_call 142; (with_reducible refine (lowest_any s r p5 (n * e - m * d) (d * e) _ hr6.nat hp56.nat HDE.out NS.out N5.out).mono ?_); rintro e9 w7 ⟨v, er7, rfl, hv1, hv2, hv3⟩
           rw [← HQ.out] at hv2 hv3
           obtain ⟨t9, x9, y9, rfl, ⟨a1, l91, k1, rfl, _⟩, ⟨a2, l92, k2, rfl, _⟩⟩ := rfrac_isF (w0 := w) hv2 hv3
           have hC := HZ7.out.belowS hv1
           have HC := Lib.hid hC
           have hbz := below_then hdw6 hv1
           obtain ⟨_, d0, d1, d2, e0, e1, e2⟩ := hC
           )
        )
      refine bodyPost_c3 rfl rfl Tryz.aggF Tryz.sizeF (HC.out.set _ _ _) rfl ?_
      exact ⟨_, _, rfl, below_set3 hbz (by omega) _ _ _, fun h => ⟨(hv2 h).1, (hv2 h).2.set3 HC.out (fun z => by simp) (fun z => by simp) _ _ _⟩, hv3⟩
    · have hlt : n * e < m * d := Nat.lt_of_not_le hle
      have HQ := Lib.hid (fq_add_lt s t n d m e K1.out.1 K2.out.1 hsb (Nat.le_of_lt hlt))
      have HLT := Lib.hid hlt
      have NS := Lib.hid (Nat.le_trans (nlen_mono (Nat.sub_le (m * d) (n * e))) N32.out)
      clear hle hlt
      go_wp2_with (first
        | (go_at_call 159; (with_reducible refine (cmp_lt0 p1 p3 (n * e) (m * d) _ hp16.nat hp36.nat HLT.out).mono ?_); rintro e9 w5b ⟨⟨c, rfl, hc⟩, hb5⟩
           have hp16 := hp16.below hb5
           have hp36 := hp36.below hb5
           have hp5 := hp5.below hb5
           have HX6 := Lib.hid (HX6.out.belowS hb5)
           have HY6 := Lib.hid (HY6.out.belowS hb5)
           have HZ6 := Lib.hid (HZ6.out.belowS hb5)
           have hdw := below_then hdw hb5)
        | (go_at_call 160; (with_reducible refine (sub_any p3 p1 (m * d) (n * e) _ hp36.nat hp16.nat N32.out (Nat.le_of_lt HLT.out)).mono ?_); rintro e9 w6 ⟨r, er, rfl, hr, hb6⟩
           have hr6 := (hr.1 NS.out).2
           have hp56 := hp5.below hb6
           have hdw6 := below_then hdw hb6
           have HZ7 := Lib.hid (HZ6.out.belowS hb6)
           obtain ⟨_, q1, q2, q3, q4, q5, q6⟩ := HX6.out.belowS hb6
           obtain ⟨_, r1, r2, r3, r4, r5, r6⟩ := HY6.out.belowS hb6
           )
        | (go_at_call 142; (with_reducible refine (lowest_any t r p5 (m * d - n * e) (d * e) _ hr6.nat hp56.nat HDE.out NS.out N5.out).mono ?_); rintro e9 w7 ⟨v, er7, rfl, hv1, hv2, hv3⟩
           rw [← HQ.out] at hv2 hv3
           obtain ⟨t9, x9, y9, rfl, ⟨a1, l91, k1, rfl, _⟩, ⟨a2, l92, k2, rfl, _⟩⟩ := rfrac_isF (w0 := w) hv2 hv3
           have hC := HZ7.out.belowS hv1
           have HC := Lib.hid hC
           have hbz := below_then hdw6 hv1
           obtain ⟨_, d0, d1, d2, e0, e1, e2⟩ := hC
           )
        )
      refine bodyPost_c3 rfl rfl Tryz.aggF Tryz.sizeF (HC.out.set _ _ _) rfl ?_
      exact ⟨_, _, rfl, below_set3 hbz (by omega) _ _ _, fun h => ⟨(hv2 h).1, (hv2 h).2.set3 HC.out (fun z => by simp) (fun z => by simp) _ _ _⟩, hv3⟩
end Go.Proofs.YtlpdkbmmbdfoiaaGreat
namespace Go.Proofs.YtlpdkbmmbdfoiaaGreat
set_option linter.unusedVariables false
set_option linter.unusedSimpArgs false
/-- The sum of a list from the left. -/
def lsum (l : List Rat) : Rat := l.foldl (· + ·) 0
theorem lsum_nil : lsum [] = 0 := rfl
theorem lsum_snoc (l : List Rat) (x : Rat) : lsum (l ++ [x]) = lsum l + x := by unfold lsum; rw [List.foldl_append]; rfl
theorem lsum_take (l : List Rat) (k : Nat) (h : k < l.length) : lsum (l.take (k + 1)) = lsum (l.take k) + l[k] := by rw [take_snoc l k h, lsum_snoc]
/-- The weight of a fraction. -/
def wt (q : Rat) : Nat := if q.num = 0 then 0 else nbits q.num.natAbs + if q.den = 1 then 0 else nbits q.den
def wts (l : List Rat) : Nat := (l.map wt).sum
theorem wts_nil : wts [] = 0 := rfl
theorem wts_cons (x : Rat) (l : List Rat) : wts (x :: l) = wt x + wts l := by simp [wts]
theorem wts_snoc (l : List Rat) (x : Rat) : wts (l ++ [x]) = wts l + wt x := by simp [wts]
theorem wts_take (l : List Rat) (k : Nat) (h : k < l.length) : wts (l.take (k + 1)) = wts (l.take k) + wt l[k] := by rw [take_snoc l k h, wts_snoc]
theorem wts_sub {l m : List Rat} (h : l.Sublist m) : wts l ≤ wts m := by
  induction h with
  | slnil => exact Nat.le_refl _
  | cons x _ ih => rw [wts_cons]; omega
  | cons_cons x _ ih => rw [wts_cons, wts_cons]; omega
/-- q is N / D with N + D of at most 2^k. -/
def slim (q : Rat) (k : Nat) : Prop := ∃ N D : Nat, D ≠ 0 ∧ q = fq false N D ∧ N + D ≤ 2 ^ k
theorem slim_zero : slim 0 0 := ⟨0, 1, by decide, by decide, by decide⟩
theorem slim_add {p q : Rat} {j k : Nat} (hp : slim p j) (hq : slim q k) : slim (p + q) (j + k) := by
  obtain ⟨N, D, h1, rfl, h2⟩ := hp
  obtain ⟨n, d, h3, rfl, h4⟩ := hq
  refine ⟨N * d + n * D, D * d, Nat.mul_ne_zero h1 h3, fq_add_same _ _ _ _ _ h1 h3, ?_⟩
  rw [Nat.pow_add]
  have h5 := Nat.mul_le_mul h2 h4
  rw [Nat.add_mul, Nat.mul_add, Nat.mul_add] at h5
  have e : n * D = D * n := Nat.mul_comm _ _
  have := Nat.zero_le (N * n)
  omega
theorem slim_mono {q : Rat} {j k : Nat} (h : slim q j) (hk : j ≤ k) : slim q k := by
  obtain ⟨N, D, h1, h2, h3⟩ := h
  exact ⟨N, D, h1, h2, Nat.le_trans h3 (Nat.pow_le_pow_right (by decide) hk)⟩
theorem slim_wt (q : Rat) (h : 0 ≤ q) : slim q (wt q) := by
  refine ⟨q.num.natAbs, q.den, q.den_nz, ?_, ?_⟩
  · have e := fq_self q
    rw [decide_eq_false (Rat.not_lt.2 h)] at e
    exact e.symm
  · unfold wt
    have h0 : nbits q.num.natAbs ≤ nbits q.num.natAbs := Nat.le_refl _
    have h1 : nbits q.den ≤ nbits q.den := Nat.le_refl _
    rw [nbits_le] at h0 h1
    split
    · next hz =>
      have e : q = 0 := Rat.num_eq_zero.1 hz
      subst e
      decide
    · split
      · next hz hd => simp only [hd, Nat.add_zero]; omega
      · next hz hd =>
        have hn : q.num.natAbs ≠ 0 := by omega
        have hd0 := q.den_nz
        have h2 : 1 < nbits q.den := nbits_gt_one.2 (by omega)
        have h3 : 0 < nbits q.num.natAbs := nbits_pos.2 hn
        rw [Nat.pow_add]
        have e1 : 2 ^ 1 ≤ 2 ^ nbits q.num.natAbs := Nat.pow_le_pow_right (by decide) h3
        have e2 : 2 ^ 1 ≤ 2 ^ nbits q.den := Nat.pow_le_pow_right (by decide) (by omega)
        generalize 2 ^ nbits q.num.natAbs = A at *
        generalize 2 ^ nbits q.den = B at *
        obtain ⟨a, rfl⟩ : ∃ a, A = a + 2 := ⟨A - 2, by omega⟩
        obtain ⟨b, rfl⟩ : ∃ b, B = b + 2 := ⟨B - 2, by omega⟩
        have e3 : (a + 2) * (b + 2) = a * b + 2 * a + 2 * b + 4 := by grind
        rw [e3]
        have := Nat.zero_le (a * b)
        omega
theorem slim_lsum (l : List Rat) (h : ∀ q ∈ l, 0 ≤ q) : slim (lsum l) (wts l) := by
  have key : ∀ (m : List Rat) (s : Rat) (k : Nat), slim s k → (∀ q ∈ m, 0 ≤ q) → slim (m.foldl (· + ·) s) (k + wts m) := by
    intro m
    induction m with
    | nil => intro s k hs _; exact hs
    | cons x m ih =>
      intro s k hs hm
      rw [List.foldl_cons, wts_cons, ← Nat.add_assoc]
      exact ih _ _ (slim_add hs (slim_wt x (hm x (by simp)))) (fun q hq => hm q (by simp [hq]))
  have := key l 0 0 slim_zero h
  rwa [Nat.zero_add] at this
theorem nbits_lt {n k : Nat} (h : n < 2 ^ k) : nbits n ≤ k := nbits_le.2 h
theorem slim_fits {q : Rat} {k : Nat} (h : slim q k) (hk : k ≤ 4095) : fits q := by
  obtain ⟨N, D, h1, rfl, h3⟩ := h
  have h5 : 2 ^ k < 2 ^ (k + 1) := Nat.pow_lt_pow_right (by decide) (Nat.lt_succ_self k)
  have h6 : k + 1 ≤ 4096 := by omega
  refine ⟨?_, ?_⟩
  · rw [fq_natAbs _ _ _ h1]
    exact Nat.le_trans (nbits_lt (Nat.lt_of_le_of_lt (Nat.div_le_self _ _) (Nat.lt_of_le_of_lt (Nat.le_trans (Nat.le_add_right N D) h3) h5))) h6
  · rw [fq_den _ _ _ h1]
    exact Nat.le_trans (nbits_lt (Nat.lt_of_le_of_lt (Nat.div_le_self _ _) (Nat.lt_of_le_of_lt (Nat.le_trans (Nat.le_add_left D N) h3) h5))) h6
/-- Sums of some of the elements of a row of a small weight are not large. -/
theorem lsum_fits {l m : List Rat} (hs : l.Sublist m) (h : ∀ q ∈ m, 0 ≤ q) (hw : wts m ≤ 3800) : fits (lsum l) :=
  slim_fits (slim_lsum l (fun q hq => h q (hs.subset hq))) (by have := wts_sub hs; omega)
theorem lsum_nonneg (l : List Rat) (h : ∀ q ∈ l, 0 ≤ q) : 0 ≤ lsum l := by
  have key : ∀ (m : List Rat) (s : Rat), 0 ≤ s → (∀ q ∈ m, 0 ≤ q) → 0 ≤ m.foldl (· + ·) s := by
    intro m
    induction m with
    | nil => intro s hs _; exact hs
    | cons x m ih => intro s hs hm; exact ih _ (Rat.add_nonneg hs (hm x (by simp))) (fun q hq => hm q (by simp [hq]))
  exact key l 0 (by decide) h
end Go.Proofs.YtlpdkbmmbdfoiaaGreat
namespace Go.Proofs.YtlpdkbmmbdfoiaaGreat
set_option linter.unusedVariables false
set_option linter.unusedSimpArgs false
open Go.RowKit

@[go_sem] theorem ptr_off1 (v : Value) (k : Nat) : (⟨(ptr v k).block, (ptr v k).off + 1, none⟩ : Addr) = ptr v (k + 1) := by rw [← ptr_add]; simp [Addr.add]
@[go_sem] theorem ptr_off2 (v : Value) (k : Nat) : (⟨(ptr v k).block, (ptr v k).off + 2, none⟩ : Addr) = ptr v (k + 2) := by rw [← ptr_add]; simp [Addr.add]
/-- A fraction as it is written. -/
structure RF where
  neg : Bool
  n : Nat
  d : Nat
/-- Its value. -/
def RF.q (x : RF) : Rat := fq x.neg x.n x.d
def RF.ok (x : RF) : Prop := okN x.n x.d
instance (x : RF) : Decidable x.ok := inferInstanceAs (Decidable (okN _ _))
/-- The canonical form. -/
def RF.of (q : Rat) : RF := ⟨decide (q < 0), q.num.natAbs, q.den⟩
theorem RF.of_q (q : Rat) : (RF.of q).q = q := fq_self q
theorem RF.of_ok {q : Rat} (h : fits q) : (RF.of q).ok := ⟨q.den_nz, h.2, h.1⟩
/-- The three cells at p are a fraction's. -/
def FracAt (w : World) (v : Value) (k : Nat) (x : RF) : Prop :=
  ∃ a b, w.cell? (ptr v k) = some (.bool x.neg) ∧ w.cell? (ptr v (k + 1)) = some a ∧ w.cell? (ptr v (k + 2)) = some b ∧ NatN w a x.n ∧ NatN w b x.d
theorem cell_below {w w' : World} (hb : Below w.heap.size w w') {p : Addr} {x : Value} (h : w.cell? p = some x) : w'.cell? p = some x := by
  have hlt := World.block_lt_of_cell? w _ h
  rw [hb.cell hlt]; exact h
theorem FracAt.below {w w' : World} {v : Value} {k : Nat} {x : RF} (h : FracAt w v k x) (hb : Below w.heap.size w w') : FracAt w' v k x := by
  obtain ⟨a, b, h1, h2, h3, h4, h5⟩ := h
  exact ⟨a, b, cell_below hb h1, cell_below hb h2, cell_below hb h3, h4.below hb, h5.below hb⟩
/-- v reads as the list of fractions l. -/
structure FracsN (w : World) (v : Value) (l : List RF) : Prop where
  sl : IsSl v
  len : slen v = l.length
  at' : ∀ (j : Nat) (h : j < l.length), FracAt w v (j * 3) l[j]
theorem FracsN.below {w w' : World} {v : Value} {l : List RF} (h : FracsN w v l) (hb : Below w.heap.size w w') : FracsN w' v l :=
  ⟨h.sl, h.len, fun j hj => (h.at' j hj).below hb⟩
theorem FracsN.nil (w : World) : FracsN w (.slice none 0 0) [] := ⟨IsSl.nil, rfl, fun j h => by simp at h⟩
/-- v reads as the list of canonical fractions qs. -/
structure FracsC (w : World) (v : Value) (qs : List Rat) : Prop where
  sl : IsSl v
  len : slen v = qs.length
  at' : ∀ (j : Nat) (h : j < qs.length), ∃ a b, w.cell? (ptr v (j * 3)) = some (.bool (decide (qs[j] < 0))) ∧ w.cell? (ptr v (j * 3 + 1)) = some a ∧ w.cell? (ptr v (j * 3 + 2)) = some b ∧ NatC w a qs[j].num.natAbs ∧ NatC w b qs[j].den
theorem FracsC.below {w w' : World} {v : Value} {l : List Rat} (h : FracsC w v l) (hb : Below w.heap.size w w') : FracsC w' v l :=
  ⟨h.sl, h.len, fun j hj => by
    obtain ⟨a, b, h1, h2, h3, h4, h5⟩ := h.at' j hj
    exact ⟨a, b, cell_below hb h1, cell_below hb h2, cell_below hb h3, h4.below hb, h5.below hb⟩⟩
theorem FracsC.raw {w : World} {v : Value} {qs : List Rat} (h : FracsC w v qs) : FracsN w v (qs.map RF.of) :=
  ⟨h.sl, by rw [h.len, List.length_map], fun j hj => by
    obtain ⟨a, b, h1, h2, h3, h4, h5⟩ := h.at' j (by simpa using hj)
    rw [List.getElem_map]
    exact ⟨a, b, h1, h2, h3, h4.nat, h5.nat⟩⟩
/-- v reads as a list of one-cell values. -/
structure CellsV (w : World) (v : Value) (l : List Value) : Prop where
  sl : IsSl v
  len : slen v = l.length
  cell : ∀ (j : Nat) (h : j < l.length), w.cell? (ptr v j) = some l[j]
theorem CellsV.below {w w' : World} {v : Value} {l : List Value} (h : CellsV w v l) (hb : Below w.heap.size w w') : CellsV w' v l :=
  ⟨h.sl, h.len, fun j hj => cell_below hb (h.cell j hj)⟩
def BoolsV (w : World) (v : Value) (l : List Bool) : Prop := CellsV w v (l.map Value.bool)
def IntsV (w : World) (v : Value) (l : List Int) : Prop := CellsV w v (l.map (Value.int .i64))
theorem BoolsV.below {w w' : World} {v : Value} {l : List Bool} (h : BoolsV w v l) (hb : Below w.heap.size w w') : BoolsV w' v l := CellsV.below h hb
theorem IntsV.below {w w' : World} {v : Value} {l : List Int} (h : IntsV w v l) (hb : Below w.heap.size w w') : IntsV w' v l := CellsV.below h hb
theorem BoolsV.at' {w : World} {v : Value} {l : List Bool} (h : BoolsV w v l) (j : Nat) (hj : j < l.length) : w.cell? (ptr v j) = some (.bool l[j]) := by
  have := h.cell j (by simpa using hj); simpa using this
theorem IntsV.at' {w : World} {v : Value} {l : List Int} (h : IntsV w v l) (j : Nat) (hj : j < l.length) : w.cell? (ptr v j) = some (.int .i64 l[j]) := by
  have := h.cell j (by simpa using hj); simpa using this
theorem BoolsV.len {w : World} {v : Value} {l : List Bool} (h : BoolsV w v l) : slen v = l.length := by have := CellsV.len h; simpa using this
theorem IntsV.len {w : World} {v : Value} {l : List Int} (h : IntsV w v l) : slen v = l.length := by have := CellsV.len h; simpa using this
/-- v reads as a matrix. -/
structure MatN (w : World) (v : Value) (m : List (List RF)) : Prop where
  sl : IsSl v
  len : slen v = m.length
  at' : ∀ (j : Nat) (h : j < m.length), ∃ r, w.cell? (ptr v j) = some r ∧ FracsN w r m[j]
theorem MatN.below {w w' : World} {v : Value} {m : List (List RF)} (h : MatN w v m) (hb : Below w.heap.size w w') : MatN w' v m :=
  ⟨h.sl, h.len, fun j hj => by obtain ⟨r, h1, h2⟩ := h.at' j hj; exact ⟨r, cell_below hb h1, h2.below hb⟩⟩
/-- A chain as it is written. -/
structure RC where
  rates : List (List RF)
  start : List RF
  lost : List Bool
def ChainN (w : World) (v : Value) (c : RC) : Prop := ∃ r s l, v = .agg #[r, s, l] ∧ MatN w r c.rates ∧ FracsN w s c.start ∧ BoolsV w l c.lost
theorem ChainN.below {w w' : World} {v : Value} {c : RC} (h : ChainN w v c) (hb : Below w.heap.size w w') : ChainN w' v c := by
  obtain ⟨r, s, l, rfl, h1, h2, h3⟩ := h; exact ⟨r, s, l, rfl, h1.below hb, h2.below hb, h3.below hb⟩
/-- The values of a list of fractions. -/
def qs (l : List RF) : List Rat := l.map RF.q
theorem qs_length (l : List RF) : (qs l).length = l.length := by simp [qs]
theorem qs_take (l : List RF) (k : Nat) : (qs l).take k = qs (l.take k) := by unfold qs; rw [List.map_take]
theorem qs_get (l : List RF) (k : Nat) (h : k < l.length) : (qs l)[k]'(by rw [qs_length]; exact h) = l[k].q := by simp [qs]
theorem lsum_qs (l : List RF) (k : Nat) (h : k < l.length) : lsum (qs (l.take (k + 1))) = lsum (qs (l.take k)) + l[k].q := by
  rw [take_snoc l k h]; unfold qs; rw [List.map_append]; exact lsum_snoc _ _
end Go.Proofs.YtlpdkbmmbdfoiaaGreat
namespace Go.Proofs.YtlpdkbmmbdfoiaaGreat
set_option linter.unusedVariables false
set_option linter.unusedSimpArgs false
open Go.RowKit

theorem okN_one : okN 0 1 := ⟨by decide, by decide, by decide⟩
theorem make_one (w : World) : Calls Tryz.prog 187 #[.int .u64 1] w (RNat w 1) := make_any 1 (by decide) w
theorem C3.frac {w : World} {v0 v1 v2 : Value} {q : Rat} (h : FracC w (.agg #[v0, v1, v2]) q) : ∃ s a1 l1 k1 a2 l2 k2, v0 = .bool s ∧ v1 = .slice a1 l1 k1 ∧ v2 = .slice a2 l2 k2 := by
  obtain ⟨s, x, y, e, ⟨a1, l1, k1, rfl, _⟩, ⟨a2, l2, k2, rfl, _⟩⟩ := h.isF
  injection e with e
  injection e with e
  simp at e
  exact ⟨s, a1, l1, k1, a2, l2, k2, e.1, e.2.1, e.2.2⟩
theorem C3.set_other {w : World} {b b' : Nat} {v0 v1 v2 : Value} (h : C3 w b v0 v1 v2) (hb : b ≠ b') (u0 u1 u2 : Value) : C3 (((w.setCell ⟨b', 0, none⟩ u0).setCell ⟨b', 1, none⟩ u1).setCell ⟨b', 2, none⟩ u2) b v0 v1 v2 := by
  obtain ⟨lt, c0, c1, c2, f0, f1, f2⟩ := h
  refine ⟨by simpa [World.setCell] using lt, ?_, ?_, ?_, ?_, ?_, ?_⟩ <;> go_simp
theorem fits_okN {q : Rat} (h : fits q) : okN q.num.natAbs q.den := ⟨q.den_nz, h.2, h.1⟩
set_option maxHeartbeats 1600000 in
theorem sum_frac (va : Value) (l : List RF) (w : World) (ha : FracsN w va l) (hok : ∀ x ∈ l, x.ok) (hfit : ∀ k, k ≤ l.length → fits (lsum (qs (l.take k)))) :
    Calls Tryz.prog 137 #[va] w fun e w' => ∃ v, e = .returned (.tuple #[v, .int .i64 0]) ∧ FracC w' v (lsum (qs l)) ∧ Below w.heap.size w w' := by
  have sa := ha.sl
  have la := ha.len
  have hle := sa.le
  rw [la] at hle
  have hlb : l.length ≤ 9223372036854775807 := by omega
  have HOK := Lib.hid hok
  have HFIT := Lib.hid hfit
  clear hok hfit hle
  go_enter Tryz.func137, Tryz.ntmps137
  go_wp2_with (go_at_call 187; (with_reducible refine (make_one _).mono ?_); rintro e w1 ⟨r1, rfl, hr1, hb1⟩; obtain ⟨a1, l1, k1, rfl, _⟩ := hr1.v.sl)
  have hb0 := (below_alloc w (.cells #[.bool false, .slice none 0 0, .slice none 0 0] 38))
  have hbw := below_then hb0 hb1
  have hr := (C3.new w 38 _ _ _).belowS hb1
  have hlt : w.heap.size < w1.heap.size := hr.lt
  have hr2 := hr.allocS (.cells #[.bool false, .slice none 0 0, .slice a1 l1 k1] 38)
  have hs2 := C3.new w1 38 (.bool false) (.slice none 0 0) (.slice a1 l1 k1)
  have hb2 := below_then hbw (below_alloc w1 (.cells #[.bool false, .slice none 0 0, .slice a1 l1 k1] 38))
  have hf2 : FracC (w1.alloc (.cells #[.bool false, .slice none 0 0, .slice a1 l1 k1] 38)) (.agg #[.bool false, .slice none 0 0, .slice a1 l1 k1]) 0 := ⟨_, _, rfl, NatC.nil _, hr1.below (below_alloc _ _)⟩
  generalize w1.alloc (.cells #[.bool false, .slice none 0 0, .slice a1 l1 k1] 38) = W1 at *
  generalize w1.heap.size = S at *
  clear hb0 hb1 hbw hr hr1
  go_loopw [13] (fun u13 wr => ∃ (k : Nat) (v0 v1 v2 : Value), k ≤ l.length ∧ u13 = .int .i64 k ∧ C3 wr S v0 v1 v2 ∧ FracC wr (.agg #[v0, v1, v2]) (lsum (qs (l.take k))) ∧ C3 wr w.heap.size (.bool false) (.slice none 0 0) (.slice none 0 0) ∧ Below w.heap.size w wr) (fun u13 _ => l.length - (intOf u13).toNat)
  case atStart => exact ⟨0, _, _, _, Nat.zero_le _, rfl, hs2, hf2, hr2, hb2⟩
  case round =>
    obtain ⟨k, v0, v1, v2, hk, rfl, hs, hf, hr, hb⟩ := hrel
    clear hs2 hf2 hr2 hb2
    obtain ⟨s0, b1, m1, j1, b2, m2, j2, rfl, rfl, rfl⟩ := C3.frac hf
    have HS := Lib.hid hs
    have HR := Lib.hid hr
    have HF := Lib.hid hf
    obtain ⟨_, s1, s2, s3, s4, s5, s6⟩ := hs
    obtain ⟨_, q1, q2, q3, q4, q5, q6⟩ := hr
    clear hf
    by_cases hkl : k < l.length
    · obtain ⟨xa, xb, c1, c2, c3, hxa, hxb⟩ := (ha.below hb).at' k hkl
      obtain ⟨c1a, c1l, c1k, rfl, _⟩ := hxa.slen.1
      obtain ⟨c2a, c2l, c2k, rfl, _⟩ := hxb.slen.1
      have hA : FracN (wr.alloc (.cells #[.bool l[k].neg, .slice c1a c1l c1k, .slice c2a c2l c2k] 38)) (.agg #[.bool l[k].neg, .slice c1a c1l c1k, .slice c2a c2l c2k]) l[k].neg l[k].n l[k].d := ⟨_, _, rfl, hxa.below (below_alloc _ _), hxb.below (below_alloc _ _)⟩
      have hB := (HF.out.raw).below (below_alloc wr (.cells #[.bool l[k].neg, .slice c1a c1l c1k, .slice c2a c2l c2k] 38))
      have hs1 := HS.out.allocS (.cells #[.bool l[k].neg, .slice c1a c1l c1k, .slice c2a c2l c2k] 38)
      have hr1 := HR.out.allocS (.cells #[.bool l[k].neg, .slice c1a c1l c1k, .slice c2a c2l c2k] 38)
      have hb1 := below_then hb (below_alloc wr (.cells #[.bool l[k].neg, .slice c1a c1l c1k, .slice c2a c2l c2k] 38))
      have HO : Hid (okN l[k].n l[k].d) := Lib.hid (HOK.out l[k] (List.getElem_mem hkl))
      have HQ := Lib.hid (fits_okN (HFIT.out k hk))
      have HE : Hid (fq (decide (lsum (qs (l.take k)) < 0)) (lsum (qs (l.take k))).num.natAbs (lsum (qs (l.take k))).den + fq l[k].neg l[k].n l[k].d = lsum (qs (l.take (k + 1)))) := Lib.hid (by rw [fq_self, lsum_qs l k hkl]; rfl)
      have HF1 := Lib.hid (HFIT.out (k + 1) hkl)
      clear hb hxa hxb
      go_wp2_with (go_at_call 80; (with_reducible refine (add_frac _ _ _ _ _ _ _ _ _ hB hA HQ.out HO.out).mono ?_); rw [HE.out]; rintro e w7 ⟨v, er, rfl, hb7, hv7, _⟩
                   obtain ⟨rfl, hv8⟩ := hv7 HF1.out
                   obtain ⟨t9, x9, y9, rfl, ⟨a1, l91, k1, rfl, _⟩, ⟨a2, l92, k2, rfl, _⟩⟩ := hv8.isF
                   have hs8 := (hs1.belowS hb7).allocS (.cells #[.bool t9, .slice a1 l91 k1, .slice a2 l92 k2] 38)
                   have hr8 := (hr1.belowS hb7).allocS (.cells #[.bool t9, .slice a1 l91 k1, .slice a2 l92 k2] 38)
                   have hb8 := below_then (below_then hb1 hb7) (below_alloc w7 (.cells #[.bool t9, .slice a1 l91 k1, .slice a2 l92 k2] 38))
                   have hv9 := hv8.below (below_alloc w7 (.cells #[.bool t9, .slice a1 l91 k1, .slice a2 l92 k2] 38))
                   have HS8 := Lib.hid hs8
                   obtain ⟨_, d1, d2, d3, d4, d5, d6⟩ := hs8)
      go_roundw
      case rel => exact ⟨k + 1, _, _, _, hkl, by go_num, HS8.out.set _ _ _, hv9.set3 HS8.out (fun z => by simp) (fun z => by simp) _ _ _, hr8.set_other (by omega) _ _ _, below_set3 hb8 (by omega) _ _ _⟩
      case measure => simp [intOf]; omega
    · obtain rfl : k = l.length := by omega
      have HF2 : Hid (FracC wr (.agg #[.bool s0, .slice b1 m1 j1, .slice b2 m2 j2]) (lsum (qs l))) := Lib.hid (by have h5 := HF.out; rw [List.take_length] at h5; exact h5)
      clear HF
      go_wp2
      refine bodyPost_c3 rfl rfl Tryz.aggF Tryz.sizeF (HR.out.set _ _ _) rfl ?_
      exact ⟨_, rfl, HF2.out.set3 HR.out (fun z => by simp) (fun z => by simp) _ _ _, below_set3 hb (Nat.le_refl _) _ _ _⟩
end Go.Proofs.YtlpdkbmmbdfoiaaGreat
namespace Go.Proofs.YtlpdkbmmbdfoiaaGreat
set_option linter.unusedVariables false
theorem mkRat_neg_iff (a : Int) (b : Nat) (hb : b ≠ 0) : mkRat a b < 0 ↔ a < 0 := by
  have e : mkRat a b = fq (decide (a < 0)) a.natAbs b := by
    unfold fq sgn
    congr 1
    by_cases h : a < 0
    · rw [if_pos (decide_eq_true h)]; omega
    · rw [decide_eq_false h]; simp; omega
  have h := fq_neg (decide (a < 0)) a.natAbs b hb
  rw [e]
  by_cases h0 : a < 0
  · rw [decide_eq_true h0] at h ⊢
    have hg : 0 < a.natAbs / Nat.gcd a.natAbs b := Nat.div_pos (Nat.le_of_dvd (by omega) (Nat.gcd_dvd_left _ _)) (Nat.gcd_pos_of_pos_left _ (by omega))
    rw [decide_eq_true hg] at h
    simp only [Bool.and_self, decide_eq_true_eq] at h
    exact ⟨fun _ => h0, fun _ => h⟩
  · rw [decide_eq_false h0] at h ⊢
    simp only [Bool.false_and, decide_eq_false_iff_not] at h
    exact ⟨fun h' => absurd h' h, fun h' => absurd h' h0⟩
theorem fq_lt (s t : Bool) (n d m e : Nat) (hd : d ≠ 0) (he : e ≠ 0) : fq s n d < fq t m e ↔ sgn s (n * e) < sgn t (m * d) := by
  have h1 : fq s n d < fq t m e ↔ fq s n d - fq t m e < 0 := by
    rw [Rat.lt_iff_sub_pos, Rat.lt_iff_sub_pos (fq s n d - fq t m e)]
    have : (0 : Rat) - (fq s n d - fq t m e) = fq t m e - fq s n d := by grind
    rw [this]
  have h2 : -fq t m e = fq (!t) m e := by
    unfold fq
    rw [Rat.neg_mkRat]
    congr 1
    unfold sgn; cases t <;> simp
  rw [h1, Rat.sub_eq_add_neg, h2, fq_add _ _ _ _ _ _ hd he, mkRat_neg_iff _ _ (Nat.mul_ne_zero hd he)]
  have h3 : sgn (!t) (m * d) = - sgn t (m * d) := by unfold sgn; cases t <;> simp
  rw [h3]
  omega
/-- -1, 0 or 1. -/
def cmpR (p q : Rat) : Int := if p < q then -1 else if q < p then 1 else 0
theorem cmpR_eq (s t : Bool) (n d m e : Nat) (hd : d ≠ 0) (he : e ≠ 0) :
    cmpR (fq s n d) (fq t m e) = if s && !decide (n = 0) && (t && !decide (m = 0)) then -cmpN (n * e) (m * d) else if s && !decide (n = 0) then -1 else if t && !decide (m = 0) then 1 else cmpN (n * e) (m * d) := by
  have hA : n * e = 0 ↔ n = 0 := by rw [Nat.mul_eq_zero]; exact ⟨fun h => h.resolve_right he, Or.inl⟩
  have hB : m * d = 0 ↔ m = 0 := by rw [Nat.mul_eq_zero]; exact ⟨fun h => h.resolve_right hd, Or.inl⟩
  have h1 := fq_lt s t n d m e hd he
  have h2 := fq_lt t s m e n d he hd
  have e1 : cmpR (fq s n d) (fq t m e) = if sgn s (n * e) < sgn t (m * d) then -1 else if sgn t (m * d) < sgn s (n * e) then 1 else 0 := by
    unfold cmpR
    simp only [h1, h2]
  rw [e1]
  clear e1 h1 h2
  generalize n * e = A at *
  generalize m * d = B at *
  unfold cmpN sgn
  have c1 : decide (n = 0) = decide (A = 0) := by simp only [hA]
  have c2 : decide (m = 0) = decide (B = 0) := by simp only [hB]
  rw [c1, c2]
  clear c1 c2 hA hB
  by_cases hA : A = 0 <;> by_cases hB : B = 0 <;> cases s <;> cases t <;> simp [hA, hB] <;> (repeat' split) <;> omega
end Go.Proofs.YtlpdkbmmbdfoiaaGreat
