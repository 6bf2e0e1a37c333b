/-
  package fraction: minus, Sub, Mul, Quo.
-/
import Derived.Test.YtlpdkbmmbdfoiaaGreatCGn
namespace Go.Proofs.YtlpdkbmmbdfoiaaGreat
set_option linter.unusedVariables false
set_option linter.unusedSimpArgs false
open Go.RowKit

theorem fq_scale2 (s : Bool) {n d k : Nat} (hk : k ≠ 0) : fq s (n * k) (d * k) = fq s n d := by
  unfold fq
  have e : sgn s (n * k) = sgn s n * k := by unfold sgn; split <;> simp [Int.neg_mul]
  rw [e]
  exact Rat.mkRat_mul_right hk
theorem fq_ne (s : Bool) {n d : Nat} (hn : n ≠ 0) (hd : d ≠ 0) : fq s n d ≠ 0 := fun h => by
  unfold fq at h
  have := (Rat.mkRat_eq_zero hd).1 h
  have h2 := sgn_natAbs s n
  rw [this] at h2
  exact hn h2.symm
theorem fq_quo (s t : Bool) {n d m e : Nat} (hm : m ≠ 0) (he : e ≠ 0) : fq s n d / fq t m e = fq (s != t) (n * e) (d * m) := by
  have h1 : fq s n d = fq (s != t) (n * e) (d * m) * fq t m e := by
    rw [fq_mul, ← fq_scale2 s (n := n) (d := d) (Nat.mul_ne_zero he hm)]
    congr 1
    · cases s <;> cases t <;> rfl
    · rw [Nat.mul_assoc]
    · rw [Nat.mul_assoc, Nat.mul_comm e m]
  rw [h1, Rat.mul_div_cancel (fq_ne t hm he)]
theorem fq_sub (s t : Bool) (n d m e : Nat) (he : e ≠ 0) : fq s n d - fq t m e = fq s n d + fq (!t) m e := by
  rw [Rat.sub_eq_add_neg]
  congr 1
  unfold fq
  rw [Rat.neg_mkRat]
  congr 1
  unfold sgn
  cases t <;> simp

theorem NatN.over {w : World} {v : Value} {n : Nat} (h : NatN w v n) {p : Addr} {x : Value} (hp : w.cell? p = some x) (hx : ∀ z, x ≠ .int .u32 z) (u : Value) : NatN (w.setCell p u) v n := by
  obtain ⟨l, h1, h2⟩ := h; exact ⟨l, h1.over hp hx u, h2⟩
theorem NatN.set3 {w : World} {v : Value} {n : Nat} {b : Nat} {s : Bool} {x y : Value} (h : NatN w v n) (hc : C3 w b (.bool s) x y) (hx : ∀ z, x ≠ .int .u32 z) (hy : ∀ z, y ≠ .int .u32 z) (u0 u1 u2 : Value) :
    NatN (((w.setCell ⟨b, 0, none⟩ u0).setCell ⟨b, 1, none⟩ u1).setCell ⟨b, 2, none⟩ u2) v n := by
  obtain ⟨l, h1, h2⟩ := h; exact ⟨l, h1.set3 hc (fun z => by simp) hx hy u0 u1 u2, h2⟩
set_option maxHeartbeats 800000 in
theorem fminus_any (va : Value) (s : Bool) (n d : Nat) (w : World) (ha : FracN w va s n d) :
    Calls Tryz.prog 202 #[va] w fun e w' => ∃ v, e = .returned v ∧ FracN w' v (!s) n d ∧ Below w.heap.size w w' := by
  obtain ⟨xn, xd, rfl, hxn, hxd⟩ := ha
  obtain ⟨an, ln, kn, rfl, _⟩ := hxn.slen.1
  obtain ⟨ad, ld, kd, rfl, _⟩ := hxd.slen.1
  obtain ⟨bx, bz, hbw⟩ := two_boxes w 38 (.bool s) (.slice an ln kn) (.slice ad ld kd) (.bool false) (.slice none 0 0) (.slice none 0 0) _ rfl
  have hxn2 := (hxn.below hbw).over bx.c0 (fun z => by simp) (.bool (!s))
  have hxd2 := (hxd.below hbw).over bx.c0 (fun z => by simp) (.bool (!s))
  have hZ2 := bz.other ⟨w.heap.size, 0, none⟩ (.bool (!s)) (by simp)
  have hbs := hbw.setCell (p := ⟨w.heap.size, 0, none⟩) (Nat.le_refl _) (.bool (!s))
  have HF := Lib.hid (And.intro (And.intro hxn2 hxd2) (And.intro hZ2 hbs))
  obtain ⟨_, x0, x1, x2, f0, f1, f2⟩ := bx
  obtain ⟨_, z0, z1, z2, g0, g1, g2⟩ := bz
  clear hxn2 hxd2 hZ2 hbs hxn hxd hbw
  go_enter Tryz.func202, Tryz.ntmps202
  go_upto_region 1 with fail
  generalize (w.alloc (.cells #[.bool s, .slice an ln kn, .slice ad ld kd] 38)).alloc (.cells #[.bool false, .slice none 0 0, .slice none 0 0] 38) = W at *
  go_wp2_with fail
  refine bodyPost_c1 rfl rfl Tryz.aggF Tryz.sizeF (HF.out.2.1.set _ _ _) rfl ?_
  exact ⟨_, rfl, ⟨_, _, rfl, HF.out.1.1.set3 HF.out.2.1 (fun z => by simp) (fun z => by simp) _ _ _, HF.out.1.2.set3 HF.out.2.1 (fun z => by simp) (fun z => by simp) _ _ _⟩, below_set3 HF.out.2.2 (by omega) _ _ _⟩
set_option maxRecDepth 100000 in
set_option maxHeartbeats 1600000 in
theorem mul_frac (va vb : Value) (s t : Bool) (n d m e : Nat) (w : World) (ha : FracN w va s n d) (hb : FracN w vb t m e) (h1 : okN n d) (h2 : okN m e) :
    Calls Tryz.prog 131 #[va, vb] w (RFrac w (fq s n d * fq t m e)) := by
  have hA := ha
  have hB := hb
  obtain ⟨xn, xd, rfl, hxn, hxd⟩ := ha
  obtain ⟨yn, yd, rfl, hyn, hyd⟩ := hb
  obtain ⟨an, ln, kn, rfl, _⟩ := hxn.slen.1
  obtain ⟨ad, ld, kd, rfl, _⟩ := hxd.slen.1
  obtain ⟨am, lm, km, rfl, _⟩ := hyn.slen.1
  obtain ⟨ae, le, ke, rfl, _⟩ := hyd.slen.1
  have HQ := Lib.hid (fq_mul s t n d m e)
  have K1 := Lib.hid h1
  have K2 := Lib.hid h2
  
  clear h1 h2
  go_enter Tryz.func131, Tryz.ntmps131
  go_wp2_with fail
  obtain ⟨W, hW⟩ : ∃ W, W = (((w.alloc (.cells #[.bool s, .slice an ln kn, .slice ad ld kd] 38)).alloc (.cells #[.bool t, .slice am lm km, .slice ae le ke] 38)).alloc (.cells #[.bool false, .slice none 0 0, .slice none 0 0] 38)) := ⟨_, rfl⟩
  obtain ⟨bx, byy, bz, hbw⟩ := three_boxes w 38 _ _ _ _ _ _ _ _ _ W hW
  rw [← hW]
  clear hW
  have HBX := Lib.hid bx
  have HBY := Lib.hid byy
  have HBZ := Lib.hid bz
  obtain ⟨_, q1, q2, q3, q4, q5, q6⟩ := bx
  obtain ⟨_, r1, r2, r3, r4, r5, r6⟩ := byy
  go_wp2_with (first
    | (go_at_call 79; first
       | ((with_reducible refine (valid_ok _ s n d _ (hA.below hbw) K1.out).mono ?_); rintro e9 w1 ⟨rfl, hv1⟩
          obtain ⟨_, f1, f2, f3, f4, f5, f6⟩ := HBY.out.belowS hv1
          have hbw1 := hbw.trans (hv1.mono hbw.size))
       | ((with_reducible refine (valid_ok _ t m e _ (hB.below hbw1) K2.out).mono ?_); rintro e9 w2 ⟨rfl, hv2⟩
          have hbx2 := (HBX.out.belowS hv1).belowS hv2
          have hby2 := (HBY.out.belowS hv1).belowS hv2
          have hbz2 := (HBZ.out.belowS hv1).belowS hv2
          have hbw2 := hbw1.trans (hv2.mono hbw1.size))))
  clear q1 q2 q3 q4 q5 q6 r1 r2 r3 r4 r5 r6 f1 f2 f3 f4 f5 f6
  have hd2 := below_drew (B := w2.heap.size) w2
  have hD := hbw2.trans (hd2.mono hbw2.size)
  have hbx3 := hbx2.belowS hd2
  have hby3 := hby2.belowS hd2
  have hbz3 := hbz2.belowS hd2
  have HX3 := Lib.hid hbx3
  have HY3 := Lib.hid hby3
  have HZ3 := Lib.hid hbz3
  clear hbx2 hby2 hbz2 hbw2 hv1 hv2 hbw hbw1 HBX HBY HBZ bz hd2
  obtain ⟨_, q1, q2, q3, q4, q5, q6⟩ := hbx3
  obtain ⟨_, r1, r2, r3, r4, r5, r6⟩ := hby3
  obtain ⟨_, z1, z2, z3, z4, z5, z6⟩ := hbz3
  have g1 := hxn.below hD
  have g2 := hxd.below hD
  have g3 := hyn.below hD
  have g4 := hyd.below hD
  have l1 := Lib.hid (okN_nlen K1.out)
  have l2 := Lib.hid (okN_nlen K2.out)
  have T1 := Lib.hid (Nat.le_trans l1.out.1 (show 128 ≤ 256 by decide))
  have T2 := Lib.hid (Nat.le_trans l2.out.2 (show 128 ≤ 256 by decide))
  have T3 := Lib.hid (Nat.le_trans l2.out.1 (show 128 ≤ 256 by decide))
  have T4 := Lib.hid (Nat.le_trans l1.out.2 (show 128 ≤ 256 by decide))
  have N1 := Lib.hid (Nat.le_trans (nlen_mul l1.out.1 l2.out.1) (show 128 + 128 ≤ 512 by decide))
  have N2 := Lib.hid (Nat.le_trans (nlen_mul l1.out.2 l2.out.2) (show 128 + 128 ≤ 512 by decide))
  have HDE : Hid (d * e ≠ 0) := Lib.hid (Nat.mul_ne_zero K1.out.1 K2.out.1)
  have tok1 : True := trivial
  rcases s with _ | _ <;> rcases t with _ | _
  · go_region_held3 (fun w' => w'.cell? ⟨w.heap.size, 0, none⟩ = some (.bool false) ∧ w'.cell? ⟨w.heap.size, 1, none⟩ = some (.slice an ln kn) ∧ w'.cell? ⟨w.heap.size, 2, none⟩ = some (.slice ad ld kd) ∧ w'.cell? ⟨w.heap.size + 1, 0, none⟩ = some (.bool false) ∧ w'.cell? ⟨w.heap.size + 1, 1, none⟩ = some (.slice am lm km) ∧ w'.cell? ⟨w.heap.size + 1, 2, none⟩ = some (.slice ae le ke)) (first | with_reducible exact ⟨q1, q2, q3, r1, r2, r3⟩ | (refine ⟨?_, ?_, ?_, ?_, ?_, ?_⟩ <;> go_simp)) (first
      | (go_at_call 157; have _t := tok1; clear tok1 _t; (with_reducible refine (times_any _ _ n m _ g1 g3 T1.out T3.out).mono ?_); rintro e9 w3 ⟨p1, rfl, hp1, hp2⟩
         have X4 := HX3.out.belowS hp2
         have Y4 := HY3.out.belowS hp2
         have HX4 := Lib.hid X4
         have HY4 := Lib.hid Y4
         obtain ⟨_, q1, q2, q3, q4, q5, q6⟩ := X4
         obtain ⟨_, r1, r2, r3, r4, r5, r6⟩ := Y4)
      | (go_at_call 157; (with_reducible refine (times_any _ _ d e _ (g2.below hp2) (g4.below hp2) T4.out T2.out).mono ?_); rintro e9 w4 ⟨p3, rfl, hp3, hp4⟩
         have hp24 := below_then hp2 hp4
         have hp14 := hp1.below hp4
         have X5 := HX4.out.belowS hp4
         have Y5 := HY4.out.belowS hp4
         have HX5 := Lib.hid X5
         have HY5 := Lib.hid Y5
         obtain ⟨_, q1, q2, q3, q4, q5, q6⟩ := X5
         obtain ⟨_, r1, r2, r3, r4, r5, r6⟩ := Y5)
      | (go_at_call 142; (with_reducible refine (lowest_any _ p1 p3 (n * m) (d * e) _ hp14.nat hp3.nat HDE.out N1.out N2.out).mono ?_); rintro e9 w5 ⟨v, er, rfl, hv1, hv2, hv3⟩
         obtain ⟨t9, x9, y9, rfl, ⟨a1, l91, k1, rfl, _⟩, ⟨a2, l92, k2, rfl, _⟩⟩ := rfrac_isF (w0 := w) hv2 hv3
         have hp26 := below_then hp24 hv1
         have X6 := HX5.out.belowS hv1
         have Y6 := HY5.out.belowS hv1
         have Z6 := HZ3.out.belowS hp26
         have HZ6 := Lib.hid Z6
         obtain ⟨_, q1, q2, q3, q4, q5, q6⟩ := X6
         obtain ⟨_, r1, r2, r3, r4, r5, r6⟩ := Y6
         obtain ⟨_, z1, z2, z3, z4, z5, z6⟩ := Z6))
    all_goals
      go_wp2_with fail
      refine bodyPost_c3 rfl rfl Tryz.aggF Tryz.sizeF (HZ6.out.set _ _ _) rfl ?_
      rw [HQ.out]
      exact ⟨_, _, rfl, below_set3 (hD.trans (hp26.mono hD.size)) (by omega) _ _ _, fun h => ⟨(hv2 h).1, (hv2 h).2.set3 HZ6.out (fun z => by simp) (fun z => by simp) _ _ _⟩, hv3⟩
  · go_region_held3 (fun w' => w'.cell? ⟨w.heap.size, 0, none⟩ = some (.bool false) ∧ w'.cell? ⟨w.heap.size, 1, none⟩ = some (.slice an ln kn) ∧ w'.cell? ⟨w.heap.size, 2, none⟩ = some (.slice ad ld kd) ∧ w'.cell? ⟨w.heap.size + 1, 0, none⟩ = some (.bool true) ∧ w'.cell? ⟨w.heap.size + 1, 1, none⟩ = some (.slice am lm km) ∧ w'.cell? ⟨w.heap.size + 1, 2, none⟩ = some (.slice ae le ke)) (first | with_reducible exact ⟨q1, q2, q3, r1, r2, r3⟩ | (refine ⟨?_, ?_, ?_, ?_, ?_, ?_⟩ <;> go_simp)) (first
      | (go_at_call 157; have _t := tok1; clear tok1 _t; (with_reducible refine (times_any _ _ n m _ g1 g3 T1.out T3.out).mono ?_); rintro e9 w3 ⟨p1, rfl, hp1, hp2⟩
         have X4 := HX3.out.belowS hp2
         have Y4 := HY3.out.belowS hp2
         have HX4 := Lib.hid X4
         have HY4 := Lib.hid Y4
         obtain ⟨_, q1, q2, q3, q4, q5, q6⟩ := X4
         obtain ⟨_, r1, r2, r3, r4, r5, r6⟩ := Y4)
      | (go_at_call 157; (with_reducible refine (times_any _ _ d e _ (g2.below hp2) (g4.below hp2) T4.out T2.out).mono ?_); rintro e9 w4 ⟨p3, rfl, hp3, hp4⟩
         have hp24 := below_then hp2 hp4
         have hp14 := hp1.below hp4
         have X5 := HX4.out.belowS hp4
         have Y5 := HY4.out.belowS hp4
         have HX5 := Lib.hid X5
         have HY5 := Lib.hid Y5
         obtain ⟨_, q1, q2, q3, q4, q5, q6⟩ := X5
         obtain ⟨_, r1, r2, r3, r4, r5, r6⟩ := Y5)
      | (go_at_call 142; (with_reducible refine (lowest_any _ p1 p3 (n * m) (d * e) _ hp14.nat hp3.nat HDE.out N1.out N2.out).mono ?_); rintro e9 w5 ⟨v, er, rfl, hv1, hv2, hv3⟩
         obtain ⟨t9, x9, y9, rfl, ⟨a1, l91, k1, rfl, _⟩, ⟨a2, l92, k2, rfl, _⟩⟩ := rfrac_isF (w0 := w) hv2 hv3
         have hp26 := below_then hp24 hv1
         have X6 := HX5.out.belowS hv1
         have Y6 := HY5.out.belowS hv1
         have Z6 := HZ3.out.belowS hp26
         have HZ6 := Lib.hid Z6
         obtain ⟨_, q1, q2, q3, q4, q5, q6⟩ := X6
         obtain ⟨_, r1, r2, r3, r4, r5, r6⟩ := Y6
         obtain ⟨_, z1, z2, z3, z4, z5, z6⟩ := Z6))
    all_goals
      go_wp2_with fail
      refine bodyPost_c3 rfl rfl Tryz.aggF Tryz.sizeF (HZ6.out.set _ _ _) rfl ?_
      rw [HQ.out]
      exact ⟨_, _, rfl, below_set3 (hD.trans (hp26.mono hD.size)) (by omega) _ _ _, fun h => ⟨(hv2 h).1, (hv2 h).2.set3 HZ6.out (fun z => by simp) (fun z => by simp) _ _ _⟩, hv3⟩
  · go_region_held3 (fun w' => w'.cell? ⟨w.heap.size, 0, none⟩ = some (.bool true) ∧ w'.cell? ⟨w.heap.size, 1, none⟩ = some (.slice an ln kn) ∧ w'.cell? ⟨w.heap.size, 2, none⟩ = some (.slice ad ld kd) ∧ w'.cell? ⟨w.heap.size + 1, 0, none⟩ = some (.bool false) ∧ w'.cell? ⟨w.heap.size + 1, 1, none⟩ = some (.slice am lm km) ∧ w'.cell? ⟨w.heap.size + 1, 2, none⟩ = some (.slice ae le ke)) (first | with_reducible exact ⟨q1, q2, q3, r1, r2, r3⟩ | (refine ⟨?_, ?_, ?_, ?_, ?_, ?_⟩ <;> go_simp)) (first
      | (go_at_call 157; have _t := tok1; clear tok1 _t; (with_reducible refine (times_any _ _ n m _ g1 g3 T1.out T3.out).mono ?_); rintro e9 w3 ⟨p1, rfl, hp1, hp2⟩
         have X4 := HX3.out.belowS hp2
         have Y4 := HY3.out.belowS hp2
         have HX4 := Lib.hid X4
         have HY4 := Lib.hid Y4
         obtain ⟨_, q1, q2, q3, q4, q5, q6⟩ := X4
         obtain ⟨_, r1, r2, r3, r4, r5, r6⟩ := Y4)
      | (go_at_call 157; (with_reducible refine (times_any _ _ d e _ (g2.below hp2) (g4.below hp2) T4.out T2.out).mono ?_); rintro e9 w4 ⟨p3, rfl, hp3, hp4⟩
         have hp24 := below_then hp2 hp4
         have hp14 := hp1.below hp4
         have X5 := HX4.out.belowS hp4
         have Y5 := HY4.out.belowS hp4
         have HX5 := Lib.hid X5
         have HY5 := Lib.hid Y5
         obtain ⟨_, q1, q2, q3, q4, q5, q6⟩ := X5
         obtain ⟨_, r1, r2, r3, r4, r5, r6⟩ := Y5)
      | (go_at_call 142; (with_reducible refine (lowest_any _ p1 p3 (n * m) (d * e) _ hp14.nat hp3.nat HDE.out N1.out N2.out).mono ?_); rintro e9 w5 ⟨v, er, rfl, hv1, hv2, hv3⟩
         obtain ⟨t9, x9, y9, rfl, ⟨a1, l91, k1, rfl, _⟩, ⟨a2, l92, k2, rfl, _⟩⟩ := rfrac_isF (w0 := w) hv2 hv3
         have hp26 := below_then hp24 hv1
         have X6 := HX5.out.belowS hv1
         have Y6 := HY5.out.belowS hv1
         have Z6 := HZ3.out.belowS hp26
         have HZ6 := Lib.hid Z6
         obtain ⟨_, q1, q2, q3, q4, q5, q6⟩ := X6
         obtain ⟨_, r1, r2, r3, r4, r5, r6⟩ := Y6
         obtain ⟨_, z1, z2, z3, z4, z5, z6⟩ := Z6))
    all_goals
      go_wp2_with fail
      refine bodyPost_c3 rfl rfl Tryz.aggF Tryz.sizeF (HZ6.out.set _ _ _) rfl ?_
      rw [HQ.out]
      exact ⟨_, _, rfl, below_set3 (hD.trans (hp26.mono hD.size)) (by omega) _ _ _, fun h => ⟨(hv2 h).1, (hv2 h).2.set3 HZ6.out (fun z => by simp) (fun z => by simp) _ _ _⟩, hv3⟩
  · go_region_held3 (fun w' => w'.cell? ⟨w.heap.size, 0, none⟩ = some (.bool true) ∧ w'.cell? ⟨w.heap.size, 1, none⟩ = some (.slice an ln kn) ∧ w'.cell? ⟨w.heap.size, 2, none⟩ = some (.slice ad ld kd) ∧ w'.cell? ⟨w.heap.size + 1, 0, none⟩ = some (.bool true) ∧ w'.cell? ⟨w.heap.size + 1, 1, none⟩ = some (.slice am lm km) ∧ w'.cell? ⟨w.heap.size + 1, 2, none⟩ = some (.slice ae le ke)) (first | with_reducible exact ⟨q1, q2, q3, r1, r2, r3⟩ | (refine ⟨?_, ?_, ?_, ?_, ?_, ?_⟩ <;> go_simp)) (first
      | (go_at_call 157; have _t := tok1; clear tok1 _t; (with_reducible refine (times_any _ _ n m _ g1 g3 T1.out T3.out).mono ?_); rintro e9 w3 ⟨p1, rfl, hp1, hp2⟩
         have X4 := HX3.out.belowS hp2
         have Y4 := HY3.out.belowS hp2
         have HX4 := Lib.hid X4
         have HY4 := Lib.hid Y4
         obtain ⟨_, q1, q2, q3, q4, q5, q6⟩ := X4
         obtain ⟨_, r1, r2, r3, r4, r5, r6⟩ := Y4)
      | (go_at_call 157; (with_reducible refine (times_any _ _ d e _ (g2.below hp2) (g4.below hp2) T4.out T2.out).mono ?_); rintro e9 w4 ⟨p3, rfl, hp3, hp4⟩
         have hp24 := below_then hp2 hp4
         have hp14 := hp1.below hp4
         have X5 := HX4.out.belowS hp4
         have Y5 := HY4.out.belowS hp4
         have HX5 := Lib.hid X5
         have HY5 := Lib.hid Y5
         obtain ⟨_, q1, q2, q3, q4, q5, q6⟩ := X5
         obtain ⟨_, r1, r2, r3, r4, r5, r6⟩ := Y5)
      | (go_at_call 142; (with_reducible refine (lowest_any _ p1 p3 (n * m) (d * e) _ hp14.nat hp3.nat HDE.out N1.out N2.out).mono ?_); rintro e9 w5 ⟨v, er, rfl, hv1, hv2, hv3⟩
         obtain ⟨t9, x9, y9, rfl, ⟨a1, l91, k1, rfl, _⟩, ⟨a2, l92, k2, rfl, _⟩⟩ := rfrac_isF (w0 := w) hv2 hv3
         have hp26 := below_then hp24 hv1
         have X6 := HX5.out.belowS hv1
         have Y6 := HY5.out.belowS hv1
         have Z6 := HZ3.out.belowS hp26
         have HZ6 := Lib.hid Z6
         obtain ⟨_, q1, q2, q3, q4, q5, q6⟩ := X6
         obtain ⟨_, r1, r2, r3, r4, r5, r6⟩ := Y6
         obtain ⟨_, z1, z2, z3, z4, z5, z6⟩ := Z6))
    all_goals
      go_wp2_with fail
      refine bodyPost_c3 rfl rfl Tryz.aggF Tryz.sizeF (HZ6.out.set _ _ _) rfl ?_
      rw [HQ.out]
      exact ⟨_, _, rfl, below_set3 (hD.trans (hp26.mono hD.size)) (by omega) _ _ _, fun h => ⟨(hv2 h).1, (hv2 h).2.set3 HZ6.out (fun z => by simp) (fun z => by simp) _ _ _⟩, hv3⟩
set_option maxRecDepth 100000 in
set_option maxHeartbeats 1600000 in
theorem quo_frac (va vb : Value) (s t : Bool) (n d m e : Nat) (w : World) (ha : FracN w va s n d) (hb : FracN w vb t m e) (h1 : okN n d) (h2 : okN m e) (hm : m ≠ 0) :
    Calls Tryz.prog 161 #[va, vb] w (RFrac w (fq s n d / fq t m e)) := by
  have hA := ha
  have hB := hb
  obtain ⟨xn, xd, rfl, hxn, hxd⟩ := ha
  obtain ⟨yn, yd, rfl, hyn, hyd⟩ := hb
  obtain ⟨an, ln, kn, rfl, _⟩ := hxn.slen.1
  obtain ⟨ad, ld, kd, rfl, _⟩ := hxd.slen.1
  obtain ⟨am, lm, km, rfl, _⟩ := hyn.slen.1
  obtain ⟨ae, le, ke, rfl, _⟩ := hyd.slen.1
  have HQ := Lib.hid (fq_quo s t (n := n) (d := d) (m := m) (e := e) hm h2.1)
  have K1 := Lib.hid h1
  have K2 := Lib.hid h2
  have HM := Lib.hid hm
  clear h1 h2
  go_enter Tryz.func161, Tryz.ntmps161
  go_wp2_with fail
  obtain ⟨W, hW⟩ : ∃ W, W = (((w.alloc (.cells #[.bool s, .slice an ln kn, .slice ad ld kd] 38)).alloc (.cells #[.bool t, .slice am lm km, .slice ae le ke] 38)).alloc (.cells #[.bool false, .slice none 0 0, .slice none 0 0] 38)) := ⟨_, rfl⟩
  obtain ⟨bx, byy, bz, hbw⟩ := three_boxes w 38 _ _ _ _ _ _ _ _ _ W hW
  rw [← hW]
  clear hW
  have HBX := Lib.hid bx
  have HBY := Lib.hid byy
  have HBZ := Lib.hid bz
  obtain ⟨_, q1, q2, q3, q4, q5, q6⟩ := bx
  obtain ⟨_, r1, r2, r3, r4, r5, r6⟩ := byy
  go_wp2_with (first
    | (go_at_call 79; first
       | ((with_reducible refine (valid_ok _ s n d _ (hA.below hbw) K1.out).mono ?_); rintro e9 w1 ⟨rfl, hv1⟩
          obtain ⟨_, f1, f2, f3, f4, f5, f6⟩ := HBY.out.belowS hv1
          have hbw1 := hbw.trans (hv1.mono hbw.size))
       | ((with_reducible refine (valid_ok _ t m e _ (hB.below hbw1) K2.out).mono ?_); rintro e9 w2 ⟨rfl, hv2⟩
          have hbx2 := (HBX.out.belowS hv1).belowS hv2
          have hby2 := (HBY.out.belowS hv1).belowS hv2
          have hbz2 := (HBZ.out.belowS hv1).belowS hv2
          have hbw2 := hbw1.trans (hv2.mono hbw1.size)
          clear f1 f2 f3 f4 f5 f6
          obtain ⟨_, f1, f2, f3, f4, f5, f6⟩ := id hby2))
    | (go_at_call 186; (with_reducible refine (zero_any _ t m e _ (hB.below hbw2)).mono ?_); rw [decide_eq_false HM.out]; rintro e9 w2z ⟨rfl, hvz⟩
       have hbx2 := hbx2.belowS hvz
       have hby2 := hby2.belowS hvz
       have hbz2 := hbz2.belowS hvz
       have hbw2 := hbw2.trans (hvz.mono hbw2.size)))
  clear q1 q2 q3 q4 q5 q6 r1 r2 r3 r4 r5 r6 f1 f2 f3 f4 f5 f6 hvz
  have hd2 := below_drew (B := w2z.heap.size) w2z
  have hD := hbw2.trans (hd2.mono hbw2.size)
  have hbx3 := hbx2.belowS hd2
  have hby3 := hby2.belowS hd2
  have hbz3 := hbz2.belowS hd2
  have HX3 := Lib.hid hbx3
  have HY3 := Lib.hid hby3
  have HZ3 := Lib.hid hbz3
  clear hbx2 hby2 hbz2 hbw2 hv1 hv2 hbw hbw1 HBX HBY HBZ bz hd2
  obtain ⟨_, q1, q2, q3, q4, q5, q6⟩ := hbx3
  obtain ⟨_, r1, r2, r3, r4, r5, r6⟩ := hby3
  obtain ⟨_, z1, z2, z3, z4, z5, z6⟩ := hbz3
  have g1 := hxn.below hD
  have g2 := hxd.below hD
  have g3 := hyn.below hD
  have g4 := hyd.below hD
  have l1 := Lib.hid (okN_nlen K1.out)
  have l2 := Lib.hid (okN_nlen K2.out)
  have T1 := Lib.hid (Nat.le_trans l1.out.1 (show 128 ≤ 256 by decide))
  have T2 := Lib.hid (Nat.le_trans l2.out.2 (show 128 ≤ 256 by decide))
  have T3 := Lib.hid (Nat.le_trans l2.out.1 (show 128 ≤ 256 by decide))
  have T4 := Lib.hid (Nat.le_trans l1.out.2 (show 128 ≤ 256 by decide))
  have N1 := Lib.hid (Nat.le_trans (nlen_mul l1.out.1 l2.out.2) (show 128 + 128 ≤ 512 by decide))
  have N2 := Lib.hid (Nat.le_trans (nlen_mul l1.out.2 l2.out.1) (show 128 + 128 ≤ 512 by decide))
  have HDE : Hid (d * m ≠ 0) := Lib.hid (Nat.mul_ne_zero K1.out.1 HM.out)
  have tok1 : True := trivial
  rcases s with _ | _ <;> rcases t with _ | _
  · go_region_held3 (fun w' => w'.cell? ⟨w.heap.size, 0, none⟩ = some (.bool false) ∧ w'.cell? ⟨w.heap.size, 1, none⟩ = some (.slice an ln kn) ∧ w'.cell? ⟨w.heap.size, 2, none⟩ = some (.slice ad ld kd) ∧ w'.cell? ⟨w.heap.size + 1, 0, none⟩ = some (.bool false) ∧ w'.cell? ⟨w.heap.size + 1, 1, none⟩ = some (.slice am lm km) ∧ w'.cell? ⟨w.heap.size + 1, 2, none⟩ = some (.slice ae le ke)) (first | with_reducible exact ⟨q1, q2, q3, r1, r2, r3⟩ | (refine ⟨?_, ?_, ?_, ?_, ?_, ?_⟩ <;> go_simp)) (first
      | (go_at_call 157; have _t := tok1; clear tok1 _t; (with_reducible refine (times_any _ _ n e _ g1 g4 T1.out T2.out).mono ?_); rintro e9 w3 ⟨p1, rfl, hp1, hp2⟩
         have X4 := HX3.out.belowS hp2
         have Y4 := HY3.out.belowS hp2
         have HX4 := Lib.hid X4
         have HY4 := Lib.hid Y4
         obtain ⟨_, q1, q2, q3, q4, q5, q6⟩ := X4
         obtain ⟨_, r1, r2, r3, r4, r5, r6⟩ := Y4)
      | (go_at_call 157; (with_reducible refine (times_any _ _ d m _ (g2.below hp2) (g3.below hp2) T4.out T3.out).mono ?_); rintro e9 w4 ⟨p3, rfl, hp3, hp4⟩
         have hp24 := below_then hp2 hp4
         have hp14 := hp1.below hp4
         have X5 := HX4.out.belowS hp4
         have Y5 := HY4.out.belowS hp4
         have HX5 := Lib.hid X5
         have HY5 := Lib.hid Y5
         obtain ⟨_, q1, q2, q3, q4, q5, q6⟩ := X5
         obtain ⟨_, r1, r2, r3, r4, r5, r6⟩ := Y5)
      | (go_at_call 142; (with_reducible refine (lowest_any _ p1 p3 (n * e) (d * m) _ hp14.nat hp3.nat HDE.out N1.out N2.out).mono ?_); rintro e9 w5 ⟨v, er, rfl, hv1, hv2, hv3⟩
         obtain ⟨t9, x9, y9, rfl, ⟨a1, l91, k1, rfl, _⟩, ⟨a2, l92, k2, rfl, _⟩⟩ := rfrac_isF (w0 := w) hv2 hv3
         have hp26 := below_then hp24 hv1
         have X6 := HX5.out.belowS hv1
         have Y6 := HY5.out.belowS hv1
         have Z6 := HZ3.out.belowS hp26
         have HZ6 := Lib.hid Z6
         obtain ⟨_, q1, q2, q3, q4, q5, q6⟩ := X6
         obtain ⟨_, r1, r2, r3, r4, r5, r6⟩ := Y6
         obtain ⟨_, z1, z2, z3, z4, z5, z6⟩ := Z6))
    all_goals
      go_wp2_with fail
      refine bodyPost_c3 rfl rfl Tryz.aggF Tryz.sizeF (HZ6.out.set _ _ _) rfl ?_
      rw [HQ.out]
      exact ⟨_, _, rfl, below_set3 (hD.trans (hp26.mono hD.size)) (by omega) _ _ _, fun h => ⟨(hv2 h).1, (hv2 h).2.set3 HZ6.out (fun z => by simp) (fun z => by simp) _ _ _⟩, hv3⟩
  · go_region_held3 (fun w' => w'.cell? ⟨w.heap.size, 0, none⟩ = some (.bool false) ∧ w'.cell? ⟨w.heap.size, 1, none⟩ = some (.slice an ln kn) ∧ w'.cell? ⟨w.heap.size, 2, none⟩ = some (.slice ad ld kd) ∧ w'.cell? ⟨w.heap.size + 1, 0, none⟩ = some (.bool true) ∧ w'.cell? ⟨w.heap.size + 1, 1, none⟩ = some (.slice am lm km) ∧ w'.cell? ⟨w.heap.size + 1, 2, none⟩ = some (.slice ae le ke)) (first | with_reducible exact ⟨q1, q2, q3, r1, r2, r3⟩ | (refine ⟨?_, ?_, ?_, ?_, ?_, ?_⟩ <;> go_simp)) (first
      | (go_at_call 157; have _t := tok1; clear tok1 _t; (with_reducible refine (times_any _ _ n e _ g1 g4 T1.out T2.out).mono ?_); rintro e9 w3 ⟨p1, rfl, hp1, hp2⟩
         have X4 := HX3.out.belowS hp2
         have Y4 := HY3.out.belowS hp2
         have HX4 := Lib.hid X4
         have HY4 := Lib.hid Y4
         obtain ⟨_, q1, q2, q3, q4, q5, q6⟩ := X4
         obtain ⟨_, r1, r2, r3, r4, r5, r6⟩ := Y4)
      | (go_at_call 157; (with_reducible refine (times_any _ _ d m _ (g2.below hp2) (g3.below hp2) T4.out T3.out).mono ?_); rintro e9 w4 ⟨p3, rfl, hp3, hp4⟩
         have hp24 := below_then hp2 hp4
         have hp14 := hp1.below hp4
         have X5 := HX4.out.belowS hp4
         have Y5 := HY4.out.belowS hp4
         have HX5 := Lib.hid X5
         have HY5 := Lib.hid Y5
         obtain ⟨_, q1, q2, q3, q4, q5, q6⟩ := X5
         obtain ⟨_, r1, r2, r3, r4, r5, r6⟩ := Y5)
      | (go_at_call 142; (with_reducible refine (lowest_any _ p1 p3 (n * e) (d * m) _ hp14.nat hp3.nat HDE.out N1.out N2.out).mono ?_); rintro e9 w5 ⟨v, er, rfl, hv1, hv2, hv3⟩
         obtain ⟨t9, x9, y9, rfl, ⟨a1, l91, k1, rfl, _⟩, ⟨a2, l92, k2, rfl, _⟩⟩ := rfrac_isF (w0 := w) hv2 hv3
         have hp26 := below_then hp24 hv1
         have X6 := HX5.out.belowS hv1
         have Y6 := HY5.out.belowS hv1
         have Z6 := HZ3.out.belowS hp26
         have HZ6 := Lib.hid Z6
         obtain ⟨_, q1, q2, q3, q4, q5, q6⟩ := X6
         obtain ⟨_, r1, r2, r3, r4, r5, r6⟩ := Y6
         obtain ⟨_, z1, z2, z3, z4, z5, z6⟩ := Z6))
    all_goals
      go_wp2_with fail
      refine bodyPost_c3 rfl rfl Tryz.aggF Tryz.sizeF (HZ6.out.set _ _ _) rfl ?_
      rw [HQ.out]
      exact ⟨_, _, rfl, below_set3 (hD.trans (hp26.mono hD.size)) (by omega) _ _ _, fun h => ⟨(hv2 h).1, (hv2 h).2.set3 HZ6.out (fun z => by simp) (fun z => by simp) _ _ _⟩, hv3⟩
  · go_region_held3 (fun w' => w'.cell? ⟨w.heap.size, 0, none⟩ = some (.bool true) ∧ w'.cell? ⟨w.heap.size, 1, none⟩ = some (.slice an ln kn) ∧ w'.cell? ⟨w.heap.size, 2, none⟩ = some (.slice ad ld kd) ∧ w'.cell? ⟨w.heap.size + 1, 0, none⟩ = some (.bool false) ∧ w'.cell? ⟨w.heap.size + 1, 1, none⟩ = some (.slice am lm km) ∧ w'.cell? ⟨w.heap.size + 1, 2, none⟩ = some (.slice ae le ke)) (first | with_reducible exact ⟨q1, q2, q3, r1, r2, r3⟩ | (refine ⟨?_, ?_, ?_, ?_, ?_, ?_⟩ <;> go_simp)) (first
      | (go_at_call 157; have _t := tok1; clear tok1 _t; (with_reducible refine (times_any _ _ n e _ g1 g4 T1.out T2.out).mono ?_); rintro e9 w3 ⟨p1, rfl, hp1, hp2⟩
         have X4 := HX3.out.belowS hp2
         have Y4 := HY3.out.belowS hp2
         have HX4 := Lib.hid X4
         have HY4 := Lib.hid Y4
         obtain ⟨_, q1, q2, q3, q4, q5, q6⟩ := X4
         obtain ⟨_, r1, r2, r3, r4, r5, r6⟩ := Y4)
      | (go_at_call 157; (with_reducible refine (times_any _ _ d m _ (g2.below hp2) (g3.below hp2) T4.out T3.out).mono ?_); rintro e9 w4 ⟨p3, rfl, hp3, hp4⟩
         have hp24 := below_then hp2 hp4
         have hp14 := hp1.below hp4
         have X5 := HX4.out.belowS hp4
         have Y5 := HY4.out.belowS hp4
         have HX5 := Lib.hid X5
         have HY5 := Lib.hid Y5
         obtain ⟨_, q1, q2, q3, q4, q5, q6⟩ := X5
         obtain ⟨_, r1, r2, r3, r4, r5, r6⟩ := Y5)
      | (go_at_call 142; (with_reducible refine (lowest_any _ p1 p3 (n * e) (d * m) _ hp14.nat hp3.nat HDE.out N1.out N2.out).mono ?_); rintro e9 w5 ⟨v, er, rfl, hv1, hv2, hv3⟩
         obtain ⟨t9, x9, y9, rfl, ⟨a1, l91, k1, rfl, _⟩, ⟨a2, l92, k2, rfl, _⟩⟩ := rfrac_isF (w0 := w) hv2 hv3
         have hp26 := below_then hp24 hv1
         have X6 := HX5.out.belowS hv1
         have Y6 := HY5.out.belowS hv1
         have Z6 := HZ3.out.belowS hp26
         have HZ6 := Lib.hid Z6
         obtain ⟨_, q1, q2, q3, q4, q5, q6⟩ := X6
         obtain ⟨_, r1, r2, r3, r4, r5, r6⟩ := Y6
         obtain ⟨_, z1, z2, z3, z4, z5, z6⟩ := Z6))
    all_goals
      go_wp2_with fail
      refine bodyPost_c3 rfl rfl Tryz.aggF Tryz.sizeF (HZ6.out.set _ _ _) rfl ?_
      rw [HQ.out]
      exact ⟨_, _, rfl, below_set3 (hD.trans (hp26.mono hD.size)) (by omega) _ _ _, fun h => ⟨(hv2 h).1, (hv2 h).2.set3 HZ6.out (fun z => by simp) (fun z => by simp) _ _ _⟩, hv3⟩
  · go_region_held3 (fun w' => w'.cell? ⟨w.heap.size, 0, none⟩ = some (.bool true) ∧ w'.cell? ⟨w.heap.size, 1, none⟩ = some (.slice an ln kn) ∧ w'.cell? ⟨w.heap.size, 2, none⟩ = some (.slice ad ld kd) ∧ w'.cell? ⟨w.heap.size + 1, 0, none⟩ = some (.bool true) ∧ w'.cell? ⟨w.heap.size + 1, 1, none⟩ = some (.slice am lm km) ∧ w'.cell? ⟨w.heap.size + 1, 2, none⟩ = some (.slice ae le ke)) (first | with_reducible exact ⟨q1, q2, q3, r1, r2, r3⟩ | (refine ⟨?_, ?_, ?_, ?_, ?_, ?_⟩ <;> go_simp)) (first
      | (go_at_call 157; have _t := tok1; clear tok1 _t; (with_reducible refine (times_any _ _ n e _ g1 g4 T1.out T2.out).mono ?_); rintro e9 w3 ⟨p1, rfl, hp1, hp2⟩
         have X4 := HX3.out.belowS hp2
         have Y4 := HY3.out.belowS hp2
         have HX4 := Lib.hid X4
         have HY4 := Lib.hid Y4
         obtain ⟨_, q1, q2, q3, q4, q5, q6⟩ := X4
         obtain ⟨_, r1, r2, r3, r4, r5, r6⟩ := Y4)
      | (go_at_call 157; (with_reducible refine (times_any _ _ d m _ (g2.below hp2) (g3.below hp2) T4.out T3.out).mono ?_); rintro e9 w4 ⟨p3, rfl, hp3, hp4⟩
         have hp24 := below_then hp2 hp4
         have hp14 := hp1.below hp4
         have X5 := HX4.out.belowS hp4
         have Y5 := HY4.out.belowS hp4
         have HX5 := Lib.hid X5
         have HY5 := Lib.hid Y5
         obtain ⟨_, q1, q2, q3, q4, q5, q6⟩ := X5
         obtain ⟨_, r1, r2, r3, r4, r5, r6⟩ := Y5)
      | (go_at_call 142; (with_reducible refine (lowest_any _ p1 p3 (n * e) (d * m) _ hp14.nat hp3.nat HDE.out N1.out N2.out).mono ?_); rintro e9 w5 ⟨v, er, rfl, hv1, hv2, hv3⟩
         obtain ⟨t9, x9, y9, rfl, ⟨a1, l91, k1, rfl, _⟩, ⟨a2, l92, k2, rfl, _⟩⟩ := rfrac_isF (w0 := w) hv2 hv3
         have hp26 := below_then hp24 hv1
         have X6 := HX5.out.belowS hv1
         have Y6 := HY5.out.belowS hv1
         have Z6 := HZ3.out.belowS hp26
         have HZ6 := Lib.hid Z6
         obtain ⟨_, q1, q2, q3, q4, q5, q6⟩ := X6
         obtain ⟨_, r1, r2, r3, r4, r5, r6⟩ := Y6
         obtain ⟨_, z1, z2, z3, z4, z5, z6⟩ := Z6))
    all_goals
      go_wp2_with fail
      refine bodyPost_c3 rfl rfl Tryz.aggF Tryz.sizeF (HZ6.out.set _ _ _) rfl ?_
      rw [HQ.out]
      exact ⟨_, _, rfl, below_set3 (hD.trans (hp26.mono hD.size)) (by omega) _ _ _, fun h => ⟨(hv2 h).1, (hv2 h).2.set3 HZ6.out (fun z => by simp) (fun z => by simp) _ _ _⟩, hv3⟩
end Go.Proofs.YtlpdkbmmbdfoiaaGreat
