/-
  Numbers that differ, by their shape: a test on them is decided by the simplifier alone.
-/
import Derived.Test.YtlpdkbmmbdfoiaaGreatKRb4
import Derived.Test.YtlpdkbmmbdfoiaaGreatKGn
import Derived.Test.YtlpdkbmmbdfoiaaGreatKRm
import Derived.Test.YtlpdkbmmbdfoiaaGreatKDt3
import Derived.Test.YtlpdkbmmbdfoiaaGreatKRa1
import Derived.Test.YtlpdkbmmbdfoiaaGreatKStep
import Derived.Deep.CutRange
import Derived.Deep.DeepCutAuto
import Derived.Deep.LoopGhost
import Derived.Deep.RegionHeld3
set_option linter.unusedVariables false
set_option linter.unusedSimpArgs false
namespace Go.Proofs.YtlpdkbmmbdfoiaaGreat
open Go.RowKit
theorem fits_nlen (q : Rat) : fits q ↔ zea q.num.natAbs ≤ 128 ∧ zea q.den ≤ 128 :=
 ⟨fun h => ⟨zsd (k := 128) h.1, zsd (k := 128) h.2⟩, fun h => ⟨zoh (k := 128) h.1, zoh (k := 128) h.2⟩⟩
set_option maxHeartbeats 800000 in
theorem r2large_any (v : Value) (q : Rat) (w : World) (h : zoa w v q) (b : Bool) (hf : b = true ↔ ¬ fits q) :
 Calls Tryz.prog 154 #[v] w fun e w' => e = .returned (.bool b) ∧ Below w.heap.size w w' := by
 obtain ⟨a, c, rfl, ha, hc⟩ := h
 have hn := fits_nlen q
 obtain ⟨aa, al, ak, rfl, _⟩ := id ha.v.sl
 obtain ⟨ba, bl, bk, rfl, _⟩ := id hc.v.sl
 have e1 : al = zea q.num.natAbs := ha.v.len
 have e2 : bl = zea q.den := hc.v.len
 rw [← e1, ← e2] at hn
 have HF : Hid (b = decide (128 < al ∨ 128 < bl)) := zH (by
  by_cases h9 : 128 < al ∨ 128 < bl
  ·rw [decide_eq_true h9]; exact hf.2 (fun h => by have := hn.1 h; omega)
  ·rw [decide_eq_false h9]; exact Bool.eq_false_iff.2 (fun h => hf.1 h (hn.2 (by omega))))
 have hbx := zba w (.cells #[.bool (decide (q < 0)), .slice aa al ak, .slice ba bl bk] 38)
 have hC := C3.new w 38 (.bool (decide (q < 0))) (.slice aa al ak) (.slice ba bl bk)
 obtain ⟨_, c0, c1, c2, _, _, _⟩ := id hC
 clear hC hf hn e1 e2
 by_cases g1 : 128 < al
 ·go_enter Tryz.func154, Tryz.ntmps154
  go_wp2_with fail
  go_ret
  refine ⟨?_, hbx⟩
  rw [HF.out]
  simp [g1]
 ·go_enter Tryz.func154, Tryz.ntmps154
  go_wp2_with fail
  go_ret
  refine ⟨?_, hbx⟩
  rw [HF.out]
  simp [g1]
  rw [decide_eq_false (by omega), Bool.false_or]
  by_cases g2 : 128 < bl
  ·rw [decide_eq_true g2, decide_eq_true (by omega)]
  ·rw [decide_eq_false g2, decide_eq_false (by omega)]
theorem r2fits_yes (v : Value) (q : Rat) (w : World) (h : zoa w v q) (hf : fits q) : Calls Tryz.prog 76 #[v] w (zuj w q) :=
 (zgo v q w h hf).mono fun e w' ⟨v', he, hv, hb⟩ => ⟨v', 0, he, hb, fun _ => ⟨rfl, hv⟩, fun h => absurd hf h⟩
set_option maxHeartbeats 800000 in
theorem r2fits_no (v : Value) (q : Rat) (w : World) (h : zoa w v q) (hf : ¬ fits q) : Calls Tryz.prog 76 #[v] w (zuj w q) := by
 obtain ⟨a, b, rfl, ha, hb⟩ := id h
 obtain ⟨aa, al, ak, rfl, _⟩ := id ha.v.sl
 obtain ⟨ba, bl, bk, rfl, _⟩ := id hb.v.sl
 have hbx := zba w (.cells #[.bool (decide (q < 0)), .slice aa al ak, .slice ba bl bk] 38)
 have hb2 := zba (w.alloc (.cells #[.bool (decide (q < 0)), .slice aa al ak, .slice ba bl bk] 38)) (.cells #[.bool false, .slice none 0 0, .slice none 0 0] 38)
 have hC := (C3.new w 38 (.bool (decide (q < 0))) (.slice aa al ak) (.slice ba bl bk)).belowS hb2
 have hR := C3.newB (b := w.heap.size + 1) (w.alloc (.cells #[.bool (decide (q < 0)), .slice aa al ak, .slice ba bl bk] 38)) 38 (.bool false) (.slice none 0 0) (.slice none 0 0) (by simp)
 have HC := zH hC
 have HR := zH hR
 have HF := zH hf
 have HQ := zH ((h.below hbx).below hb2)
 have hbb := zaa hbx hb2
 obtain ⟨_, c0, c1, c2, _, _, _⟩ := id hC
 clear hC hR hf h ha hb
 go_enter Tryz.func76, Tryz.ntmps76
 go_wp2_with (go_at_call 154; (with_reducible refine (r2large_any _ q _ HQ.out true ⟨fun _ => HF.out, fun _ => rfl⟩).mono ?_); rintro e1 w1 ⟨rfl, hb1⟩
              obtain ⟨_, c0, c1, c2, _, _, _⟩ := HC.out.belowS hb1
              have HR1 := zH (HR.out.belowS hb1)
              obtain ⟨_, d0, d1, d2, d3, d4, d5⟩ := HR1.out)
 refine zpa rfl rfl Tryz.aggF Tryz.sizeF (HR1.out.set _ _ _) rfl ?_
 exact ⟨_, _, rfl, zga (zaa hbb hb1) (Nat.le_succ _) _ _ _, fun h => absurd h HF.out, fun _ => ⟨rfl, rfl⟩⟩
theorem zck (v : Value) (q : Rat) (w : World) (h : zoa w v q) : Calls Tryz.prog 76 #[v] w (zuj w q) := by
 by_cases hf : fits q
 ·exact r2fits_yes v q w h hf
 ·exact r2fits_no v q w h hf
theorem rcmp_ge0 (va vb : Value) (m n : Nat) (w : World) (ha : zvb w va m) (hb : zvb w vb n) (h : n ≤ m) :
 Calls Tryz.prog 77 #[va, vb] w fun e w' => (∃ c : Int, e = .returned (.int .i64 c) ∧ decide (0 ≤ c) = true) ∧ Below w.heap.size w w' :=
 (zaf va vb m n w ha hb).mono fun _ _ ⟨a, b⟩ => ⟨⟨_, a, by unfold zkk; rw [if_neg (by omega)]; split <;> rfl⟩, b⟩
theorem rcmp_lt0 (va vb : Value) (m n : Nat) (w : World) (ha : zvb w va m) (hb : zvb w vb n) (h : m < n) :
 Calls Tryz.prog 77 #[va, vb] w fun e w' => (∃ c : Int, e = .returned (.int .i64 c) ∧ decide (0 ≤ c) = false) ∧ Below w.heap.size w w' :=
 (zaf va vb m n w ha hb).mono fun _ _ ⟨a, b⟩ => ⟨⟨_, a, by rw [zih h]; rfl⟩, b⟩
set_option maxRecDepth 100000 in
set_option maxHeartbeats 1600000 in
theorem r2add_any (va vb : Value) (s t : Bool) (n d m e : Nat) (w : World) (ha : znb w va s n d) (hb : znb w vb t m e) (h1 : okN n d) (h2 : okN m e) :
 Calls Tryz.prog 19 #[va, vb] w (zuj w (fq s n d + fq t m e)) := by
 have hA := ha
 have hB := hb
 obtain ⟨xn, xd, rfl, hxn, hxd⟩ := ha
 obtain ⟨yn, yd, rfl, hyn, hyd⟩ := hb
 obtain ⟨an, ln, kn, rfl, _⟩ := hxn.slen.1
 obtain ⟨ad, ld, kd, rfl, _⟩ := hxd.slen.1
 obtain ⟨am, lm, km, rfl, _⟩ := hyn.slen.1
 obtain ⟨ae, le, ke, rfl, _⟩ := hyd.slen.1
 have K1 := zH h1
 have K2 := zH h2
 clear h1 h2
 go_enter Tryz.func19, Tryz.ntmps19
 go_wp2_with fail
 obtain ⟨W, hW⟩ : ∃ W, W = (((w.alloc (.cells #[.bool s, .slice an ln kn, .slice ad ld kd] 38)).alloc (.cells #[.bool t, .slice am lm km, .slice ae le ke] 38)).alloc (.cells #[.bool false, .slice none 0 0, .slice none 0 0] 38)) := ⟨_, rfl⟩
 obtain ⟨bx, byy, bz, hbw⟩ := zje w 38 _ _ _ _ _ _ _ _ _ W hW
 rw [← hW]
 clear hW
 have HBX := zH bx
 have HBY := zH byy
 have HBZ := zH bz
 obtain ⟨_, q1, q2, q3, q4, q5, q6⟩ := bx
 obtain ⟨_, r1, r2, r3, r4, r5, r6⟩ := byy
 go_wp2_with (first
  |(go_at_call 49; first
    |((with_reducible refine (zfo _ s n d _ (hA.below hbw) K1.out).mono ?_); rintro e9 w1 ⟨rfl, hv1⟩
      obtain ⟨_, f1, f2, f3, f4, f5, f6⟩ := HBY.out.belowS hv1
      have hbw1 := hbw.trans (hv1.mono hbw.size))
    |((with_reducible refine (zfo _ t m e _ (hB.below hbw1) K2.out).mono ?_); rintro e9 w2 ⟨rfl, hv2⟩
      have hbx2 := (HBX.out.belowS hv1).belowS hv2
      have hby2 := (HBY.out.belowS hv1).belowS hv2
      have hbz2 := (HBZ.out.belowS hv1).belowS hv2
      have hbw2 := hbw1.trans (hv2.mono hbw1.size))))
 clear q1 q2 q3 q4 q5 q6 r1 r2 r3 r4 r5 r6 f1 f2 f3 f4 f5 f6
 have hd2 := zha (B := w2.heap.size) w2
 have hD := hbw2.trans (hd2.mono hbw2.size)
 have hbx3 := hbx2.belowS hd2
 have hby3 := hby2.belowS hd2
 have hbz3 := hbz2.belowS hd2
 clear hbx2 hby2 hbz2 hbw2 hv1 hv2 hbw hbw1 HBX HBY HBZ bz hd2
 have HX3 := zH hbx3
 have HY3 := zH hby3
 have HZ3 := zH hbz3
 obtain ⟨_, q1, q2, q3, q4, q5, q6⟩ := hbx3
 obtain ⟨_, r1, r2, r3, r4, r5, r6⟩ := hby3
 clear hbz3
 have g1 := hxn.below hD
 have g2 := hxd.below hD
 have g3 := hyn.below hD
 have g4 := hyd.below hD
 have l1 := zH (zmc K1.out)
 have l2 := zH (zmc K2.out)
 have tok1 : True := trivial
 have tok2 : True := trivial
 have tok3 : True := trivial
 go_region_held3 (fun w' => w'.cell? ⟨w.heap.size, 1, none⟩ = some (.slice an ln kn) ∧ w'.cell? ⟨w.heap.size, 2, none⟩ = some (.slice ad ld kd) ∧ w'.cell? ⟨w.heap.size + 1, 1, none⟩ = some (.slice am lm km) ∧ w'.cell? ⟨w.heap.size + 1, 2, none⟩ = some (.slice ae le ke)) (exact ⟨q2, q3, r2, r3⟩) (first
  |(go_at_call 74; have _t := tok1; clear tok1 _t; (with_reducible refine (zrd _ _ n e _ g1 g4 l1.out.1 l2.out.2).mono ?_); rintro e9 w3 ⟨p1, rfl, hp1, hp2⟩
    have X4 := HX3.out.belowS hp2
    have Y4 := HY3.out.belowS hp2
    have HX4 := zH X4
    have HY4 := zH Y4
    obtain ⟨_, q1, q2, q3, q4, q5, q6⟩ := X4
    obtain ⟨_, r1, r2, r3, r4, r5, r6⟩ := Y4)
  |(go_at_call 74; have _t := tok2; clear tok2 _t; (with_reducible refine (zrd _ _ m d _ (g3.below hp2) (g2.below hp2) l2.out.1 l1.out.2).mono ?_); rintro e9 w4 ⟨p3, rfl, hp3, hp4⟩
    have hp24 := zaa hp2 hp4
    have hp14 := hp1.below hp4
    have X5 := HX4.out.belowS hp4
    have Y5 := HY4.out.belowS hp4
    have HX5 := zH X5
    have HY5 := zH Y5
    obtain ⟨_, q1, q2, q3, q4, q5, q6⟩ := X5
    obtain ⟨_, r1, r2, r3, r4, r5, r6⟩ := Y5)
  |(go_at_call 74; have _t := tok3; clear tok3 _t; (with_reducible refine (zrd _ _ d e _ (g2.below hp24) (g4.below hp24) l1.out.2 l2.out.2).mono ?_); rintro e9 w5 ⟨p5, rfl, hp5, hp6⟩
    have hp26 := zaa hp24 hp6
    have hp16 := hp14.below hp6
    have hp36 := hp3.below hp6
    have X6 := HX5.out.belowS hp6
    have Y6 := HY5.out.belowS hp6
    have HX6 := zH X6
    have HY6 := zH Y6
    obtain ⟨_, q1, q2, q3, q4, q5, q6⟩ := X6
    obtain ⟨_, r1, r2, r3, r4, r5, r6⟩ := Y6))
 have hdw : Below w.heap.size w w5 := hD.trans (hp26.mono hD.size)
 have HZ6 := zH (HZ3.out.belowS hp26)
 have HDE : Hid (d * e ≠ 0) := zH (Nat.mul_ne_zero K1.out.1 K2.out.1)
 have N1 := zH (zod l1.out.1 l2.out.2)
 have N3 := zH (zod l2.out.1 l1.out.2)
 have N5 := zH (Nat.le_trans (zod l1.out.2 l2.out.2) (show 128 + 128 ≤ 512 by decide))
 have NS := zH (Nat.le_trans (nlen_sum N1.out N3.out) (show 128 + 128 + 1 ≤ 512 by decide))
 have N12 := zH (Nat.le_trans N1.out (show 128 + 128 ≤ 512 by decide))
 have N32 := zH (Nat.le_trans N3.out (show 128 + 128 ≤ 512 by decide))
 clear hp24 hp26 hp14 hp1 hp3 hp2 hp4 hp6 hD HZ3 g1 g2 g3 g4 HX3 HY3 HX4 HY4 HX5 HY5
 by_cases hst : s = t
 ·have HQ := zH (zkf s n d m e K1.out.1 K2.out.1)
  subst hst
  go_wp2_with (first
   |(go_at_call 75; (with_reducible refine (radd_any p1 p3 (n * e) (m * d) _ hp16.nat hp36.nat N12.out N32.out).mono ?_); rintro e9 w6 ⟨r, er, rfl, hr, hb6⟩
     have hr6 := (hr.1 NS.out).2
     have hp56 := hp5.below hb6
     have hdw6 := zaa hdw hb6
     have HZ7 := zH (HZ6.out.belowS hb6)
     obtain ⟨_, q1, q2, q3, q4, q5, q6⟩ := HX6.out.belowS hb6
     obtain ⟨_, r1, r2, r3, r4, r5, r6⟩ := HY6.out.belowS hb6
     )
   |(go_at_call 71; (with_reducible refine (zre s r p5 (n * e + m * d) (d * e) _ hr6.nat hp56.nat HDE.out NS.out N5.out).mono ?_); rintro e9 w7 ⟨v7, rfl, hv7, hb7⟩
     rw [← HQ.out] at hv7
     have hdw7 := zaa hdw6 hb7
     have HZ8 := zH (HZ7.out.belowS hb7)
     )
   |(go_at_call 76; (with_reducible refine (zck v7 _ _ hv7).mono ?_); rintro e9 w8 ⟨v, er8, rfl, hv1, hv2, hv3⟩
     obtain ⟨t9, x9, y9, rfl, ⟨a1, l91, k1, rfl, _⟩, ⟨a2, l92, k2, rfl, _⟩⟩ := zxb (w0 := w) hv2 hv3
     have hC := HZ8.out.belowS hv1
     have HC := zH hC
     have hbz := zaa hdw7 hv1
     obtain ⟨_, d0, d1, d2, e0, e1, e2⟩ := hC
     )
   )
  refine zpa rfl rfl Tryz.aggF Tryz.sizeF (HC.out.set _ _ _) rfl ?_
  exact ⟨_, _, rfl, zga hbz (by omega) _ _ _, fun h => ⟨(hv2 h).1, (hv2 h).2.set3 HC.out (fun z => by simp) (fun z => by simp) _ _ _⟩, hv3⟩
 ·have hsb : (s == t) = false := by simpa using hst
  by_cases hle : m * d ≤ n * e
  ·have HQ := zH (fq_add_ge s t n d m e K1.out.1 K2.out.1 hsb hle)
   have HLE := zH hle
   have NS := zH (Nat.le_trans (zkb (Nat.sub_le (n * e) (m * d))) N12.out)
   clear hle
   go_wp2_with (first
    |(go_at_call 77; (with_reducible refine (rcmp_ge0 p1 p3 (n * e) (m * d) _ hp16.nat hp36.nat HLE.out).mono ?_); rintro e9 w5b ⟨⟨c, rfl, hc⟩, hb5⟩
      have hp16 := hp16.below hb5
      have hp36 := hp36.below hb5
      have hp5 := hp5.below hb5
      have HX6 := zH (HX6.out.belowS hb5)
      have HY6 := zH (HY6.out.belowS hb5)
      have HZ6 := zH (HZ6.out.belowS hb5)
      have hdw := zaa hdw hb5)
    |(go_at_call 78; (with_reducible refine (rsub_le p1 p3 (n * e) (m * d) _ hp16.nat hp36.nat N12.out HLE.out).mono ?_); rintro e9 w6 ⟨r, rfl, hr6, hb6⟩
      have hp56 := hp5.below hb6
      have hdw6 := zaa hdw hb6
      have HZ7 := zH (HZ6.out.belowS hb6)
      obtain ⟨_, q1, q2, q3, q4, q5, q6⟩ := HX6.out.belowS hb6
      obtain ⟨_, r1, r2, r3, r4, r5, r6⟩ := HY6.out.belowS hb6
      )
    |(go_at_call 71; (with_reducible refine (zre s r p5 (n * e - m * d) (d * e) _ hr6.nat hp56.nat HDE.out NS.out N5.out).mono ?_); rintro e9 w7 ⟨v7, rfl, hv7, hb7⟩
      rw [← HQ.out] at hv7
      have hdw7 := zaa hdw6 hb7
      have HZ8 := zH (HZ7.out.belowS hb7)
      )
    |(go_at_call 76; (with_reducible refine (zck v7 _ _ hv7).mono ?_); rintro e9 w8 ⟨v, er8, rfl, hv1, hv2, hv3⟩
      obtain ⟨t9, x9, y9, rfl, ⟨a1, l91, k1, rfl, _⟩, ⟨a2, l92, k2, rfl, _⟩⟩ := zxb (w0 := w) hv2 hv3
      have hC := HZ8.out.belowS hv1
      have HC := zH hC
      have hbz := zaa hdw7 hv1
      obtain ⟨_, d0, d1, d2, e0, e1, e2⟩ := hC
      )
    )
   refine zpa rfl rfl Tryz.aggF Tryz.sizeF (HC.out.set _ _ _) rfl ?_
   exact ⟨_, _, rfl, zga hbz (by omega) _ _ _, fun h => ⟨(hv2 h).1, (hv2 h).2.set3 HC.out (fun z => by simp) (fun z => by simp) _ _ _⟩, hv3⟩
  ·have hlt : n * e < m * d := Nat.lt_of_not_le hle
   have HQ := zH (fq_add_lt s t n d m e K1.out.1 K2.out.1 hsb (Nat.le_of_lt hlt))
   have HLT := zH hlt
   have NS := zH (Nat.le_trans (zkb (Nat.sub_le (m * d) (n * e))) N32.out)
   clear hle hlt
   go_wp2_with (first
    |(go_at_call 77; (with_reducible refine (rcmp_lt0 p1 p3 (n * e) (m * d) _ hp16.nat hp36.nat HLT.out).mono ?_); rintro e9 w5b ⟨⟨c, rfl, hc⟩, hb5⟩
      have hp16 := hp16.below hb5
      have hp36 := hp36.below hb5
      have hp5 := hp5.below hb5
      have HX6 := zH (HX6.out.belowS hb5)
      have HY6 := zH (HY6.out.belowS hb5)
      have HZ6 := zH (HZ6.out.belowS hb5)
      have hdw := zaa hdw hb5)
    |(go_at_call 78; (with_reducible refine (rsub_le p3 p1 (m * d) (n * e) _ hp36.nat hp16.nat N32.out (Nat.le_of_lt HLT.out)).mono ?_); rintro e9 w6 ⟨r, rfl, hr6, hb6⟩
      have hp56 := hp5.below hb6
      have hdw6 := zaa hdw hb6
      have HZ7 := zH (HZ6.out.belowS hb6)
      obtain ⟨_, q1, q2, q3, q4, q5, q6⟩ := HX6.out.belowS hb6
      obtain ⟨_, r1, r2, r3, r4, r5, r6⟩ := HY6.out.belowS hb6
      )
    |(go_at_call 71; (with_reducible refine (zre t r p5 (m * d - n * e) (d * e) _ hr6.nat hp56.nat HDE.out NS.out N5.out).mono ?_); rintro e9 w7 ⟨v7, rfl, hv7, hb7⟩
      rw [← HQ.out] at hv7
      have hdw7 := zaa hdw6 hb7
      have HZ8 := zH (HZ7.out.belowS hb7)
      )
    |(go_at_call 76; (with_reducible refine (zck v7 _ _ hv7).mono ?_); rintro e9 w8 ⟨v, er8, rfl, hv1, hv2, hv3⟩
      obtain ⟨t9, x9, y9, rfl, ⟨a1, l91, k1, rfl, _⟩, ⟨a2, l92, k2, rfl, _⟩⟩ := zxb (w0 := w) hv2 hv3
      have hC := HZ8.out.belowS hv1
      have HC := zH hC
      have hbz := zaa hdw7 hv1
      obtain ⟨_, d0, d1, d2, e0, e1, e2⟩ := hC
      )
    )
   refine zpa rfl rfl Tryz.aggF Tryz.sizeF (HC.out.set _ _ _) rfl ?_
   exact ⟨_, _, rfl, zga hbz (by omega) _ _ _, fun h => ⟨(hv2 h).1, (hv2 h).2.set3 HC.out (fun z => by simp) (fun z => by simp) _ _ _⟩, hv3⟩
theorem cmpN_swap (a b : Nat) : zkk b a = -zkk a b := by
 unfold zkk
 rcases Nat.lt_trichotomy a b with h | h | h
 ·rw [if_neg (by omega), if_pos h, if_pos h]; rfl
 ·subst h; rw [if_neg (by omega), if_neg (by omega)]; rfl
 ·rw [if_pos h, if_neg (by omega), if_pos h]
theorem nlen_prod {n e : Nat} (he : e ≠ 0) : (n = 0 → zea (n * e) = 0) ∧ (n ≠ 0 → 0 < zea (n * e)) :=
 ⟨fun h => zta.2 (by rw [h, Nat.zero_mul]), fun h => zeh.2 (Nat.mul_ne_zero h he)⟩
set_option maxRecDepth 100000 in
set_option maxHeartbeats 1600000 in
theorem zji (va vb : Value) (s t : Bool) (n d m e : Nat) (w : World) (ha : znb w va s n d) (hb : znb w vb t m e) (h1 : okN n d) (h2 : okN m e) :
 Calls Tryz.prog 100 #[va, vb] w fun en w' => en = .returned (.int .i64 (zml (fq s n d) (fq t m e))) ∧ Below w.heap.size w w' := by
 obtain ⟨xn, xd, rfl, hxn, hxd⟩ := ha
 obtain ⟨yn, yd, rfl, hyn, hyd⟩ := hb
 obtain ⟨an, ln, kn, rfl, _⟩ := hxn.slen.1
 obtain ⟨ad, ld, kd, rfl, _⟩ := hxd.slen.1
 obtain ⟨am, lm, km, rfl, _⟩ := hyn.slen.1
 obtain ⟨ae, le, ke, rfl, _⟩ := hyd.slen.1
 have l1 := zH (zmc h1)
 have l2 := zH (zmc h2)
 have z1 := nlen_prod (n := n) h2.1
 have z2 := nlen_prod (n := m) h1.1
 have HR := zH (cmpR_eq s t n d m e h1.1 h2.1)
 have HSW := zH (cmpN_swap (n * e) (m * d))
 clear h1 h2
 obtain ⟨L1, hL1⟩ : ∃ L, zea (n * e) = L := ⟨_, rfl⟩
 obtain ⟨L2, hL2⟩ : ∃ L, zea (m * d) = L := ⟨_, rfl⟩
 rw [hL1] at z1
 rw [hL2] at z2
 have HL1 := zH hL1
 have HL2 := zH hL2
 have hX : (s = false) ∨ (s = true ∧ n = 0 ∧ L1 = 0) ∨ (s = true ∧ n ≠ 0 ∧ 0 < L1) := by
  cases s
  ·exact Or.inl rfl
  ·by_cases h : n = 0
   ·exact Or.inr (Or.inl ⟨rfl, h, z1.1 h⟩)
   ·exact Or.inr (Or.inr ⟨rfl, h, z1.2 h⟩)
 have hY : (t = false) ∨ (t = true ∧ m = 0 ∧ L2 = 0) ∨ (t = true ∧ m ≠ 0 ∧ 0 < L2) := by
  cases t
  ·exact Or.inl rfl
  ·by_cases h : m = 0
   ·exact Or.inr (Or.inl ⟨rfl, h, z2.1 h⟩)
   ·exact Or.inr (Or.inr ⟨rfl, h, z2.2 h⟩)
 have HX0 := zH hX
 have HY0 := zH hY
 clear hL1 hL2 z1 z2 hX hY
 go_enter Tryz.func100, Tryz.ntmps100
 go_wp2_with fail
 obtain ⟨W, hW⟩ : ∃ W, W = ((w.alloc (.cells #[.bool s, .slice an ln kn, .slice ad ld kd] 38)).alloc (.cells #[.bool t, .slice am lm km, .slice ae le ke] 38)) := ⟨_, rfl⟩
 obtain ⟨bx, byy, hbw⟩ := zag w 38 _ _ _ _ _ _ W hW
 rw [← hW]
 clear hW
 have hd2 := zha (B := W.heap.size) W
 have hD := zaa hbw hd2
 have hbx3 := bx.belowS hd2
 have hby3 := byy.belowS hd2
 have HX3 := zH hbx3
 have HY3 := zH hby3
 obtain ⟨_, q1, q2, q3, q4, q5, q6⟩ := hbx3
 obtain ⟨_, r1, r2, r3, r4, r5, r6⟩ := hby3
 have g1 := hxn.below hD
 have g2 := hxd.below hD
 have g3 := hyn.below hD
 have g4 := hyd.below hD
 clear bx byy hd2
 have tok1 : True := trivial
 go_region_held3 (fun w' => w'.cell? ⟨w.heap.size, 1, none⟩ = some (.slice an ln kn) ∧ w'.cell? ⟨w.heap.size, 2, none⟩ = some (.slice ad ld kd) ∧ w'.cell? ⟨w.heap.size + 1, 1, none⟩ = some (.slice am lm km) ∧ w'.cell? ⟨w.heap.size + 1, 2, none⟩ = some (.slice ae le ke)) (exact ⟨q2, q3, r2, r3⟩) (first
  |(go_at_call 74; have _t := tok1; clear tok1 _t; (with_reducible refine (zrd _ _ n e _ g1 g4 l1.out.1 l2.out.2).mono ?_); rintro e9 w3 ⟨p1, rfl, hp1, hp2⟩
    have X4 := HX3.out.belowS hp2
    have Y4 := HY3.out.belowS hp2
    have HX4 := zH X4
    have HY4 := zH Y4
    obtain ⟨_, q1, q2, q3, q4, q5, q6⟩ := X4
    obtain ⟨_, r1, r2, r3, r4, r5, r6⟩ := Y4)
  |(go_at_call 74; (with_reducible refine (zrd _ _ m d _ (g3.below hp2) (g2.below hp2) l2.out.1 l1.out.2).mono ?_); rintro e9 w4 ⟨p3, rfl, hp3, hp4⟩
    have hp24 := zaa hp2 hp4
    have hp14 := hp1.below hp4
    have X5 := HX4.out.belowS hp4
    have Y5 := HY4.out.belowS hp4
    have HX5 := zH X5
    have HY5 := zH Y5
    obtain ⟨_, q1, q2, q3, q4, q5, q6⟩ := X5
    obtain ⟨_, r1, r2, r3, r4, r5, r6⟩ := Y5))
 have hdw : Below w.heap.size w w4 := hD.trans (hp24.mono hD.size)
 have HP1 := zH hp14
 have HP3 := zH hp3
 have sp1 := hp14.v.sl
 have lp1 : slen p1 = L1 := hp14.v.len.trans HL1.out
 have sp3 := hp3.v.sl
 have lp3 : slen p3 = L2 := hp3.v.len.trans HL2.out
 have k1 := HX5.out.c0
 have k2 := HY5.out.c0
 clear hp24 hp14 hp1 hp3 hp2 hp4 hD g1 g2 g3 g4 HX3 HY3 HX4 HY4 q1 q2 q3 q4 q5 q6 r1 r2 r3 r4 r5 r6 hbw
 rcases HX0.out with rfl | ⟨rfl, hn0, hl0⟩ | ⟨rfl, hn0, hl0⟩ <;> rcases HY0.out with rfl | ⟨rfl, hm0, hk0⟩ | ⟨rfl, hm0, hk0⟩ <;> (
  try subst hl0
  try subst hk0
  clear HX0 HY0
  go_wp2_with (go_at_call 77; first
   |((with_reducible refine (zaf p1 p3 (n * e) (m * d) _ HP1.out.nat HP3.out.nat).mono ?_); rintro e9 w9 ⟨rfl, hb9⟩; have hdw := zaa hdw hb9)
   |((with_reducible refine (zaf p3 p1 (m * d) (n * e) _ HP3.out.nat HP1.out.nat).mono ?_); rintro e9 w9 ⟨rfl, hb9⟩; rw [HSW.out]; have hdw := zaa hdw hb9))
  all_goals
   go_ret
   exact ⟨by rw [HR.out]; simp [*], hdw⟩)
theorem cmpR_beq (p q : Rat) : (zml p q == 0) = decide (p = q) := by
 have := zpg p q
 by_cases h : p = q
 ·rw [decide_eq_true h, this.2 h]; rfl
 ·rw [decide_eq_false h]
  have h2 : zml p q ≠ 0 := fun e => h (this.1 e)
  simpa using h2
set_option maxHeartbeats 800000 in
theorem r2same_any (va vb : Value) (s t : Bool) (n d m e : Nat) (w : World) (ha : znb w va s n d) (hb : znb w vb t m e) (h1 : okN n d) (h2 : okN m e) :
 Calls Tryz.prog 33 #[va, vb] w fun en w' => en = .returned (.bool (decide (fq s n d = fq t m e))) ∧ Below w.heap.size w w' := by
 have hA := ha
 have hB := hb
 obtain ⟨xn, xd, rfl, hxn, hxd⟩ := ha
 obtain ⟨yn, yd, rfl, hyn, hyd⟩ := hb
 obtain ⟨an, ln, kn, rfl, _⟩ := hxn.slen.1
 obtain ⟨ad, ld, kd, rfl, _⟩ := hxd.slen.1
 obtain ⟨am, lm, km, rfl, _⟩ := hyn.slen.1
 obtain ⟨ae, le, ke, rfl, _⟩ := hyd.slen.1
 have K1 := zH h1
 have K2 := zH h2
 have HE := zH (cmpR_beq (fq s n d) (fq t m e))
 clear h1 h2
 go_enter Tryz.func33, Tryz.ntmps33
 go_wp2_with fail
 obtain ⟨W, hW⟩ : ∃ W, W = ((w.alloc (.cells #[.bool s, .slice an ln kn, .slice ad ld kd] 38)).alloc (.cells #[.bool t, .slice am lm km, .slice ae le ke] 38)) := ⟨_, rfl⟩
 obtain ⟨bx, byy, hbw⟩ := zag w 38 _ _ _ _ _ _ W hW
 rw [← hW]
 clear hW
 obtain ⟨_, q1, q2, q3, q4, q5, q6⟩ := bx
 obtain ⟨_, r1, r2, r3, r4, r5, r6⟩ := byy
 go_wp2_with (go_at_call 100; (with_reducible refine (zji _ _ s t n d m e _ (hA.below hbw) (hB.below hbw) K1.out K2.out).mono ?_); rintro e9 w9 ⟨rfl, hb9⟩)
 go_ret
 exact ⟨by rw [← HE.out]; rfl, zaa hbw hb9⟩
set_option maxHeartbeats 800000 in
theorem r2sign_any (va : Value) (s : Bool) (n d : Nat) (w : World) (ha : znb w va s n d) (h1 : okN n d) :
 Calls Tryz.prog 34 #[va] w fun en w' => en = .returned (.int .i64 (zml (fq s n d) 0)) ∧ Below w.heap.size w w' := by
 have hA := ha
 obtain ⟨xn, xd, rfl, hxn, hxd⟩ := ha
 obtain ⟨an, ln, kn, rfl, _⟩ := hxn.slen.1
 obtain ⟨ad, ld, kd, rfl, _⟩ := hxd.slen.1
 have K1 := zH h1
 have K0 : Hid (okN (0 : Rat).num.natAbs (0 : Rat).den) := zH (by decide +kernel)
 have HE : Hid (zml (fq s n d) (fq false 0 1) = zml (fq s n d) 0) := zH (by rw [show fq false 0 1 = 0 from fq_zero false 1 (by decide)])
 clear h1
 go_enter Tryz.func34, Tryz.ntmps34
 go_wp2_with fail
 have bx := C3.new w 38 (.bool s) (.slice an ln kn) (.slice ad ld kd)
 have hbx := zba w (.cells #[.bool s, .slice an ln kn, .slice ad ld kd] 38)
 generalize hW : w.alloc (.cells #[.bool s, .slice an ln kn, .slice ad ld kd] 38) = W at *
 clear hW
 have hd2 := zha (B := W.heap.size) W
 have hD := zaa hbx hd2
 have hbx3 := bx.belowS hd2
 have HX3 := zH hbx3
 obtain ⟨_, q1, q2, q3, q4, q5, q6⟩ := hbx3
 clear bx hd2
 go_region_held3 (fun w' => w'.cell? ⟨w.heap.size, 0, none⟩ = some (.bool s) ∧ w'.cell? ⟨w.heap.size, 1, none⟩ = some (.slice an ln kn) ∧ w'.cell? ⟨w.heap.size, 2, none⟩ = some (.slice ad ld kd)) (exact ⟨q1, q2, q3⟩) (first
  |(go_at_call 20; (with_reducible refine (zob _).mono ?_); rintro e9 w3 ⟨v3, rfl, hv3, hb3⟩
    obtain ⟨_, q1, q2, q3, q4, q5, q6⟩ := HX3.out.belowS hb3)
  |(go_at_call 100; (with_reducible refine (zji _ _ s _ n d _ _ _ ((hA.below hD).below hb3) hv3.raw K1.out K0.out).mono ?_); rintro e9 w4 ⟨rfl, hb4⟩
    obtain ⟨_, q1, q2, q3, q4, q5, q6⟩ := HX3.out.belowS (zaa hb3 hb4)))
 go_wp2
 go_ret
 exact ⟨by rw [← HE.out]; rfl, zaa (zaa hD hb3) hb4⟩
theorem keep6w {w0 X Y : World} {a1 a2 a3 a4 a5 a6 : Addr} {x1 x2 x3 x4 x5 x6 : Value} (h : X.cell? a1 = some x1 ∧ X.cell? a2 = some x2 ∧ X.cell? a3 = some x3 ∧ X.cell? a4 = some x4 ∧ X.cell? a5 = some x5 ∧ X.cell? a6 = some x6 ∧ Below w0.heap.size w0 X) (hb : Below X.heap.size X Y) :
 Y.cell? a1 = some x1 ∧ Y.cell? a2 = some x2 ∧ Y.cell? a3 = some x3 ∧ Y.cell? a4 = some x4 ∧ Y.cell? a5 = some x5 ∧ Y.cell? a6 = some x6 ∧ Below w0.heap.size w0 Y := by
 obtain ⟨k1, k2, k3, k4, k5, k6, k7⟩ := h
 exact ⟨zca hb k1, zca hb k2, zca hb k3, zca hb k4, zca hb k5, zca hb k6, zaa k7 hb⟩
theorem keep6a {w0 X : World} {a1 a2 a3 a4 a5 a6 : Addr} {x1 x2 x3 x4 x5 x6 : Value} (h : w0.cell? a1 = some x1 ∧ w0.cell? a2 = some x2 ∧ w0.cell? a3 = some x3 ∧ w0.cell? a4 = some x4 ∧ w0.cell? a5 = some x5 ∧ w0.cell? a6 = some x6) (hb : Below w0.heap.size w0 X) :
 X.cell? a1 = some x1 ∧ X.cell? a2 = some x2 ∧ X.cell? a3 = some x3 ∧ X.cell? a4 = some x4 ∧ X.cell? a5 = some x5 ∧ X.cell? a6 = some x6 ∧ Below w0.heap.size w0 X := by
 obtain ⟨k1, k2, k3, k4, k5, k6⟩ := h
 exact ⟨zca hb k1, zca hb k2, zca hb k3, zca hb k4, zca hb k5, zca hb k6, hb⟩
theorem keep6c {w0 X : World} {a1 a2 a3 a4 a5 a6 : Addr} {x1 x2 x3 x4 x5 x6 : Value} (h : X.cell? a1 = some x1 ∧ X.cell? a2 = some x2 ∧ X.cell? a3 = some x3 ∧ X.cell? a4 = some x4 ∧ X.cell? a5 = some x5 ∧ X.cell? a6 = some x6 ∧ Below w0.heap.size w0 X) : Below w0.heap.size w0 X := h.2.2.2.2.2.2
theorem zmo {w0 X : World} {a1 a2 a3 a4 a5 a6 : Addr} {x1 x2 x3 x4 x5 x6 : Value} (h : w0.cell? a1 = some x1 ∧ w0.cell? a2 = some x2 ∧ w0.cell? a3 = some x3 ∧ w0.cell? a4 = some x4 ∧ w0.cell? a5 = some x5 ∧ w0.cell? a6 = some x6) (hb : Below w0.heap.size w0 X) {b : Nat} (hB : w0.heap.size ≤ b) (x y z : Value) :
 (((X.setCell ⟨b, 0, none⟩ x).setCell ⟨b, 1, none⟩ y).setCell ⟨b, 2, none⟩ z).cell? a1 = some x1 ∧ (((X.setCell ⟨b, 0, none⟩ x).setCell ⟨b, 1, none⟩ y).setCell ⟨b, 2, none⟩ z).cell? a2 = some x2 ∧ (((X.setCell ⟨b, 0, none⟩ x).setCell ⟨b, 1, none⟩ y).setCell ⟨b, 2, none⟩ z).cell? a3 = some x3 ∧
 (((X.setCell ⟨b, 0, none⟩ x).setCell ⟨b, 1, none⟩ y).setCell ⟨b, 2, none⟩ z).cell? a4 = some x4 ∧ (((X.setCell ⟨b, 0, none⟩ x).setCell ⟨b, 1, none⟩ y).setCell ⟨b, 2, none⟩ z).cell? a5 = some x5 ∧ (((X.setCell ⟨b, 0, none⟩ x).setCell ⟨b, 1, none⟩ y).setCell ⟨b, 2, none⟩ z).cell? a6 = some x6 ∧ Below w0.heap.size w0 (((X.setCell ⟨b, 0, none⟩ x).setCell ⟨b, 1, none⟩ y).setCell ⟨b, 2, none⟩ z) :=
 keep6a h (zga hb hB x y z)
def RSame (w0 : World) (p : Prop) (e : Ending) (w : World) : Prop := (∃ b, e = .returned (.bool b) ∧ (b = true ↔ p)) ∧ Below w0.heap.size w0 w
theorem zzm {α : Type _} {a b : List α} (hl : a.length = b.length) (h : ∀ (j : Nat) (h1 : j < a.length) (h2 : j < b.length), a[j] = b[j]) : a = b := List.ext_getElem hl h
theorem znc.at' {w : World} {v : Value} {l : List Nat} (h : znc w v l) (j : Nat) (hj : j < l.length) : w.cell? (ptr v j) = some (.int .u32 (l[j] : Nat)) := h.cell j hj
set_option maxHeartbeats 1600000 in
theorem zxi (va vb : Value) (a b : List Nat) (w : World) (ha : znc w va a) (hb : znc w vb b) :
 Calls Tryz.prog 140 #[va, vb] w (RSame w (a = b)) := by
 have sa := ha.sl
 have la := ha.len
 have sb := hb.sl
 have lb := hb.len
 have hle := sa.le
 have hle2 := sb.le
 rw [la] at hle
 rw [lb] at hle2
 have hlb : a.length ≤ 9223372036854775807 := by omega
 have hlb2 : b.length ≤ 9223372036854775807 := by omega
 clear hle hle2
 have hw : w.heap.size ≤ w.heap.size := Nat.le_refl _
 by_cases hlen : a.length = b.length
 ·skip
  have hL := zH hlen
  rw [← hlen] at lb
  clear hlen
  go_enter Tryz.func140, Tryz.ntmps140
  go_wp2_with fail
  go_loopw [5] (fun u5 wr => ∃ (k : Nat), k ≤ a.length ∧ u5 = .int .i64 k ∧ (∀ (j : Nat) (h1 : j < a.length) (h2 : j < b.length), j < k → a[j] = b[j]) ∧ Below w.heap.size w wr) (fun u5 _ => a.length - (intOf u5).toNat)
  case atStart => exact ⟨0, Nat.zero_le _, rfl, fun j _ _ h => by omega, Below.refl _ _⟩
  case round =>
   obtain ⟨k, hk, rfl, hst, hbr⟩ := hrel
   have HST := zH hst
   clear hst
   by_cases hkl : k < a.length
   ·have hkb : k < b.length := by rw [← hL.out]; exact hkl
    have hc := (ha.below hbr).at' k hkl
    have hd := (hb.below hbr).at' k hkb
    have HX : Hid (∀ (h1 : k < a.length) (h2 : k < b.length), a[k] = b[k] ↔ a[k]'hkl = b[k]'hkb) := zH (fun _ _ => Iff.rfl)
    have i1 : (0 : Int) ≤ (k : Int) := by omega
    have i2 : (k : Int) < (a.length : Nat) := by omega
    generalize ha' : a[k]'hkl = x at *
    generalize hb' : b[k]'hkb = y at *
    have HA := zH ha'
    have HB := zH hb'
    clear ha' hb'
    by_cases hxy : x = y
    ·subst hxy
     have HST2 : Hid (∀ (j : Nat) (h1 : j < a.length) (h2 : j < b.length), j < k + 1 → a[j] = b[j]) := zH (fun j h1 h2 h3 => by
      rcases Nat.lt_or_ge j k with h4 | h4
      ·exact HST.out j h1 h2 h4
      ·obtain rfl : j = k := by omega
       rw [HA.out, HB.out])
     go_wp2_with fail
     go_quiet (fail)
     have hbd := zaa hbr (zla (B := wr.heap.size) wr nq)
     go_wp2_with fail
     go_roundw
     case rel => exact ⟨k + 1, by omega, by go_num, HST2.out, hbd⟩
     case measure => simp [intOf]; omega
    ·skip
     have hxy2 : ((x : Int) == (y : Int)) = false := by first | (simp; omega) | simpa using hxy
     go_wp2_with fail
     go_quiet (fail)
     have hbd := zaa hbr (zla (B := wr.heap.size) wr nq)
     go_wp2_with fail
     go_ret
     exact ⟨⟨false, rfl, by simp; intro h; subst h; exact hxy (HA.out.symm.trans HB.out)⟩, hbd⟩
   ·go_wp2_with fail
    go_ret
    refine ⟨⟨true, rfl, by simp; exact zzm hL.out (fun j h1 h2 => HST.out j h1 h2 (by omega))⟩, hbr⟩
 ·have hne : ((a.length : Int) == (b.length : Int)) = false := by simp; omega
  go_enter Tryz.func140, Tryz.ntmps140
  go_wp2_with fail
  go_ret
  exact ⟨⟨false, rfl, by simp; intro h; exact hlen (by rw [h])⟩, Below.refl _ _⟩
@[go_sem] theorem slen_lit2 (a : Option Addr) (n c : Nat) : slen (.slice a n c) = n := rfl
end Go.Proofs.YtlpdkbmmbdfoiaaGreat
namespace Go.Proofs.YtlpdkbmmbdfoiaaGreat
theorem wts_zero : ∀ {l : List Rat}, wts l = 0 → ∀ q ∈ l, q = 0 := by
 intro l
 induction l with
 | nil => intro _ q hq; simp at hq
 | cons x l ih =>
   intro h q hq
   rw [zne] at h
   rcases List.mem_cons.1 hq with rfl | hq
   ·have h1 : wt q = 0 := by omega
    have h2 : q.num = 0 := by
     unfold Go.Proofs.YtlpdkbmmbdfoiaaGreat.wt at h1
     by_cases h3 : q.num = 0
     ·exact h3
     ·rw [if_neg h3] at h1
      have h4 : zya q.num.natAbs ≤ 0 := by omega
      have := zfc.1 h4
      omega
    exact Rat.num_eq_zero.1 h2
   ·exact ih (by omega) q hq
end Go.Proofs.YtlpdkbmmbdfoiaaGreat
namespace Go.Proofs.YtlpdkbmmbdfoiaaGreat
open Go.RowKit
def zcb (c : RC) (i : Nat) : List Rat := qs (c.rates.getD i [])
theorem zxa.row {c : RC} (h : zxa c) {i : Nat} (hi : i < c.lost.length) : ∃ h2 : i < c.rates.length, (c.rates[i]).length = c.lost.length ∧ zhm c.rates[i] (c.rates[i]).length ∧ zcb c i = qs c.rates[i] := by
 obtain ⟨h1, h2, h3, h4, h5, h6, h7⟩ := h
 have hi2 : i < c.rates.length := by omega
 obtain ⟨r1, _⟩ := h6 i _ (List.getElem?_eq_getElem hi2)
 have hl : (c.rates[i]).length = c.start.length := r1.2.1
 refine ⟨hi2, by rw [hl, h3], by rw [hl]; exact r1, ?_⟩
 unfold zcb
 simp only [List.getD, List.getElem?_eq_getElem hi2, Option.getD_some]
set_option maxRecDepth 100000 in
set_option maxHeartbeats 3200000 in
theorem zmp (va : Value) (c : RC) (i : Nat) (w : World) (ha : zdc w va c) (hi : i < c.rates.length) (hrow : zhm c.rates[i] (c.rates[i]).length) :
 Calls Tryz.prog 162 #[va, .int .i64 i] w (RF1 w (zuc (qs c.rates[i]))) := by
 obtain ⟨rv, sv, lv, rfl, hr, hs, hl⟩ := id ha
 obtain ⟨ra, rn, rk, rfl, _⟩ := id hr.sl
 obtain ⟨sa, sn, sk, rfl, _⟩ := id hs.sl
 obtain ⟨la, ln, lk, rfl, _⟩ := id (zua.sl hl)
 have hrn : rn = c.rates.length := hr.len
 subst hrn
 have sr := hr.sl
 obtain ⟨rw', hrw, hrf⟩ := hr.at' i hi
 obtain ⟨ea, en, ek, rfl, _⟩ := id hrf.sl
 have HOK : Hid (∀ x ∈ c.rates[i], x.ok) := zH hrow.ok
 have HFT : Hid (∀ k, k ≤ (c.rates[i]).length → fits (zuc (qs ((c.rates[i]).take k)))) := zH fun k _ => hrow.fits k
 generalize c.rates[i]'hi = row at *
 have hbx := zba w (.cells #[.slice ra c.rates.length rk, .slice sa sn sk, .slice la ln lk] 28)
 have hb2 := zba (w.alloc (.cells #[.slice ra c.rates.length rk, .slice sa sn sk, .slice la ln lk] 28)) (.cells #[.bool false, .slice none 0 0, .slice none 0 0] 38)
 have hC := (C3.new w 28 (.slice ra c.rates.length rk) (.slice sa sn sk) (.slice la ln lk)).belowS hb2
 have hR := C3.newB (b := w.heap.size + 1) (w.alloc (.cells #[.slice ra c.rates.length rk, .slice sa sn sk, .slice la ln lk] 28)) 38 (.bool false) (.slice none 0 0) (.slice none 0 0) (by simp)
 have hbw := zaa hbx hb2
 have hrw2 := zca hbw hrw
 have HF := zH (hrf.below hbw)
 have HR := zH hR
 have HBW := zH hbw
 have i1 : (0 : Int) ≤ (i : Int) := by omega
 have i2 : (i : Int) < (c.rates.length : Nat) := by omega
 clear hR hr hs hl hrf hrw ha hrow hbx hb2 hbw
 go_enter Tryz.func162, Tryz.ntmps162
 go_upto_region 1 with fail
 generalize (w.alloc (.cells #[.slice ra c.rates.length rk, .slice sa sn sk, .slice la ln lk] 28)).alloc (.cells #[.bool false, .slice none 0 0, .slice none 0 0] 38) = W2 at *
 obtain ⟨_, c0, c1, c2, _, _, _⟩ := hC
 go_wp2_with (go_at_call 137; (with_reducible refine (sum_frac _ row _ HF.out HOK.out HFT.out).mono ?_); rintro e3 w3 ⟨v3, rfl, hv3, hb3⟩
              obtain ⟨t3, x3, y3, rfl, ⟨a31, l31, k31, rfl, _⟩, ⟨a32, l32, k32, rfl, _⟩⟩ := hv3.isF
              have hba := zba w3 (.cells #[.bool t3, .slice a31 l31 k31, .slice a32 l32 k32] 38)
              have HV3 := zH (hv3.below hba)
              have HB3 := zH (zaa HBW.out (zaa hb3 hba))
              have HR3 := zH (HR.out.belowS (zaa hb3 hba))
              obtain ⟨_, d0, d1, d2, f0, f1, f2⟩ := HR3.out
              obtain ⟨_, g0, g1, g2, _, _, _⟩ := C3.new w3 38 (.bool t3) (.slice a31 l31 k31) (.slice a32 l32 k32)
              clear hv3 hba hb3)
 refine zfb rfl rfl Tryz.aggF Tryz.sizeF (HR3.out.set _ _ _) rfl ?_
 exact ⟨_, rfl, HV3.out.set3 HR3.out (fun z => by simp) (fun z => by simp) _ _ _, zga HB3.out (by omega) _ _ _⟩
theorem r2order_can (va vb : Value) (p q : Rat) (w : World) (ha : zoa w va p) (hb : zoa w vb q) (hp : fits p) (hq : fits q) :
 Calls Tryz.prog 100 #[va, vb] w fun en w' => en = .returned (.int .i64 (zml p q)) ∧ Below w.heap.size w w' := by
 have h := zji va vb _ _ _ _ _ _ w ha.raw hb.raw (zub hp) (zub hq)
 rw [zqb, zqb] at h
 exact h
set_option maxHeartbeats 800000 in
theorem r2less_can (va vb : Value) (p q : Rat) (w : World) (ha : zoa w va p) (hb : zoa w vb q) (hp : fits p) (hq : fits q) :
 Calls Tryz.prog 50 #[va, vb] w fun en w' => en = .returned (.bool (decide (zml p q < 0))) ∧ Below w.heap.size w w' := by
 obtain ⟨t1, x1, y1, rfl, ⟨a11, l11, k11, rfl, _⟩, ⟨a12, l12, k12, rfl, _⟩⟩ := ha.isF
 obtain ⟨t2, x2, y2, rfl, ⟨a21, l21, k21, rfl, _⟩, ⟨a22, l22, k22, rfl, _⟩⟩ := hb.isF
 have b1 := zba w (.cells #[.bool t1, .slice a11 l11 k11, .slice a12 l12 k12] 38)
 have b2 := zba (w.alloc (.cells #[.bool t1, .slice a11 l11 k11, .slice a12 l12 k12] 38)) (.cells #[.bool t2, .slice a21 l21 k21, .slice a22 l22 k22] 38)
 have HB := zH (zaa b1 b2)
 have HX := zH (ha.below HB.out)
 have HY := zH (hb.below HB.out)
 have HP := zH hp
 have HQ := zH hq
 clear ha hb hp hq b1 b2
 go_enter Tryz.func50, Tryz.ntmps50
 go_wp2_with (go_at_call 100; (with_reducible refine (r2order_can _ _ p q _ HX.out HY.out HP.out HQ.out).mono ?_); rintro e3 w3 ⟨rfl, hb3⟩)
 go_ret
 exact ⟨rfl, zaa HB.out hb3⟩
def oth (y : Int) (n : Nat) : Int := if n % 2 = 0 then y + ((n / 2 + 1 : Nat) : Int) else y - ((n / 2 + 1 : Nat) : Int)
theorem oth_ne (y : Int) (n : Nat) : oth y n ≠ y := by unfold oth; split <;> omega
@[go_sem] theorem oth_beq (y : Int) (n : Nat) : (oth y n == y) = false := by simpa using oth_ne y n
@[go_sem] theorem beq_oth (y : Int) (n : Nat) : (y == oth y n) = false := by simpa using fun h => oth_ne y n h.symm
@[go_sem] theorem oth_bne (y : Int) (n : Nat) : (oth y n != y) = true := by simpa using oth_ne y n
@[go_sem] theorem bne_oth (y : Int) (n : Nat) : (y != oth y n) = true := by simpa using fun h => oth_ne y n h.symm
@[go_sem] theorem int_beq_self (y : Int) : (y == y) = true := by simp
@[go_sem] theorem int_bne_self (y : Int) : (y != y) = false := by simp
end Go.Proofs.YtlpdkbmmbdfoiaaGreat
