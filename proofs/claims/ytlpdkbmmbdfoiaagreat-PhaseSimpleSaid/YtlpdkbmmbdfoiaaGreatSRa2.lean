/-
  package drydockref01: plus, minus, times.
-/
import Derived.Test.YtlpdkbmmbdfoiaaGreatSFr3a
import Derived.Test.YtlpdkbmmbdfoiaaGreatSFr6
import Derived.Test.YtlpdkbmmbdfoiaaGreatSNa7
set_option linter.unusedVariables false
set_option linter.unusedSimpArgs false
namespace Go.Proofs.YtlpdkbmmbdfoiaaGreat
open Go.RowKit
set_option maxRecDepth 100000 in
set_option maxHeartbeats 1600000 in
theorem cmp_frac (va vb : Value) (s t : Bool) (n d m e : Nat) (w : World) (ha : zlb w va s n d) (hb : zlb w vb t m e) (h1 : okN n d) (h2 : okN m e) :
 Calls Tryz.prog 130 #[va, vb] w fun en w' => en = .returned (.tuple #[.int .i64 (cmpR (fq s n d) (fq t m e)), .int .i64 0]) ∧ Below w.heap.size w w' := by
 have hA := ha
 have hB := hb
 obtain ⟨xn, xd, rfl, hxn, hxd⟩ := ha
 obtain ⟨yn, yd, rfl, hyn, hyd⟩ := hb
 obtain ⟨an, ln, kn, rfl, _⟩ := hxn.slen.1
 obtain ⟨ad, ld, kd, rfl, _⟩ := hxd.slen.1
 obtain ⟨am, lm, km, rfl, _⟩ := hyn.slen.1
 obtain ⟨ae, le, ke, rfl, _⟩ := hyd.slen.1
 have K1 := zH h1
 have K2 := zH h2
 have HR := zH (cmpR_eq s t n d m e h1.1 h2.1)
 clear h1 h2
 go_enter Tryz.func130, Tryz.ntmps130
 go_wp2_with fail
 obtain ⟨W, hW⟩ : ∃ W, W = ((w.alloc (.cells #[.bool s, .slice an ln kn, .slice ad ld kd] 38)).alloc (.cells #[.bool t, .slice am lm km, .slice ae le ke] 38)) := ⟨_, rfl⟩
 obtain ⟨bx, byy, hbw⟩ := zte w 38 _ _ _ _ _ _ W hW
 rw [← hW]
 clear hW
 have HBX := zH bx
 have HBY := zH byy
 obtain ⟨_, q1, q2, q3, q4, q5, q6⟩ := bx
 obtain ⟨_, r1, r2, r3, r4, r5, r6⟩ := byy
 go_wp2_with (first
  |(go_at_call 79; first
    |((with_reducible refine (zod _ s n d _ (hA.below hbw) K1.out).mono ?_); rintro e9 w1 ⟨rfl, hv1⟩
      obtain ⟨_, f1, f2, f3, f4, f5, f6⟩ := HBY.out.belowS hv1
      have hbw1 := zaa hbw hv1)
    |((with_reducible refine (zod _ t m e _ (hB.below hbw1) K2.out).mono ?_); rintro e9 w2 ⟨rfl, hv2⟩
      have hbx2 := (HBX.out.belowS hv1).belowS hv2
      have hby2 := (HBY.out.belowS hv1).belowS hv2
      have hbw2 := zaa hbw1 hv2)))
 clear q1 q2 q3 q4 q5 q6 r1 r2 r3 r4 r5 r6 f1 f2 f3 f4 f5 f6
 have hd2 := zga (B := w2.heap.size) w2
 have hD := hbw2.trans (hd2.mono hbw2.size)
 have hbx3 := hbx2.belowS hd2
 have hby3 := hby2.belowS hd2
 clear hbx2 hby2 hbw2 hv1 hv2 hbw hbw1 HBX HBY hd2
 have HX3 := zH hbx3
 have HY3 := zH hby3
 obtain ⟨_, q1, q2, q3, q4, q5, q6⟩ := hbx3
 obtain ⟨_, r1, r2, r3, r4, r5, r6⟩ := hby3
 have g1 := hxn.below hD
 have g2 := hxd.below hD
 have g3 := hyn.below hD
 have g4 := hyd.below hD
 have l1 := zH (zpd K1.out)
 have l2 := zH (zpd K2.out)
 have T1 := zH (Nat.le_trans l1.out.1 (show 128 ≤ 256 by decide))
 have T2 := zH (Nat.le_trans l2.out.2 (show 128 ≤ 256 by decide))
 have T3 := zH (Nat.le_trans l2.out.1 (show 128 ≤ 256 by decide))
 have T4 := zH (Nat.le_trans l1.out.2 (show 128 ≤ 256 by decide))
 have tok1 : True := trivial
 go_region_held3 (fun w' => w'.cell? ⟨w.heap.size, 1, none⟩ = some (.slice an ln kn) ∧ w'.cell? ⟨w.heap.size, 2, none⟩ = some (.slice ad ld kd) ∧ w'.cell? ⟨w.heap.size + 1, 1, none⟩ = some (.slice am lm km) ∧ w'.cell? ⟨w.heap.size + 1, 2, none⟩ = some (.slice ae le ke)) (exact ⟨q2, q3, r2, r3⟩) (first
  |(go_at_call 157; have _t := tok1; clear tok1 _t; (with_reducible refine (zdb _ _ n e _ g1 g4 T1.out T2.out).mono ?_); rintro e9 w3 ⟨p1, rfl, hp1, hp2⟩
    have X4 := HX3.out.belowS hp2
    have Y4 := HY3.out.belowS hp2
    have HX4 := zH X4
    have HY4 := zH Y4
    obtain ⟨_, q1, q2, q3, q4, q5, q6⟩ := X4
    obtain ⟨_, r1, r2, r3, r4, r5, r6⟩ := Y4)
  |(go_at_call 157; (with_reducible refine (zdb _ _ m d _ (g3.below hp2) (g2.below hp2) T3.out T4.out).mono ?_); rintro e9 w4 ⟨p3, rfl, hp3, hp4⟩
    have hp24 := zaa hp2 hp4
    have hp14 := hp1.below hp4
    have X5 := HX4.out.belowS hp4
    have Y5 := HY4.out.belowS hp4
    have HX5 := zH X5
    have HY5 := zH Y5
    obtain ⟨_, q1, q2, q3, q4, q5, q6⟩ := X5
    obtain ⟨_, r1, r2, r3, r4, r5, r6⟩ := Y5)
  |(go_at_call 159; (with_reducible refine (zkl p1 p3 (n * e) (m * d) _ hp14.nat hp3.nat).mono ?_); rintro e9 w5 ⟨rfl, k9, rfl⟩
    have hp5 := zqa (B := w4.heap.size) w4 k9
    have hp26 := zaa hp24 hp5
    have X6 := HX5.out.belowS hp5
    have Y6 := HY5.out.belowS hp5
    have HX6 := zH X6
    have HY6 := zH Y6
    obtain ⟨_, q1, q2, q3, q4, q5, q6⟩ := X6
    obtain ⟨_, r1, r2, r3, r4, r5, r6⟩ := Y6))
 have hdw : Below w.heap.size w (w4.drewN k9) := hD.trans (hp26.mono hD.size)
 clear q1 q2 q3 q4 q5 q6 r1 r2 r3 r4 r5 r6 hp5 hp26 hp24 hp14 hp1 hp3 hp2 hp4 hD g1 g2 g3 g4 HX3 HY3 HX4 HY4 HX5 HY5 T1 T2 T3 T4
 generalize w4.drewN k9 = W4 at *
 have hcb : -1 ≤ zsl (n * e) (m * d) ∧ zsl (n * e) (m * d) ≤ 1 := by unfold zsl; split <;> (try split) <;> omega
 obtain ⟨hcb1, hcb2⟩ := hcb
 generalize hcn : zsl (n * e) (m * d) = c at *
 have HCN := zH hcn
 clear hcn
 have hd2 := zga (B := W4.heap.size) W4
 have hD := hdw.trans (hd2.mono hdw.size)
 have hbx3 := HX6.out.belowS hd2
 have hby3 := HY6.out.belowS hd2
 have HX7 := zH hbx3
 have HY7 := zH hby3
 clear HX6 HY6
 go_wp2_with fail
 obtain ⟨_, q1, q2, q3, q4, q5, q6⟩ := hbx3
 obtain ⟨_, r1, r2, r3, r4, r5, r6⟩ := hby3
 rcases s with _ | _ <;> rcases t with _ | _
 ·go_region
  all_goals
   go_wp2
   all_goals
    go_ret2
    exact ⟨by rw [HR.out]; simp [*], hD⟩
 ·go_region_law (refine zva 186 #[.agg #[.bool true, .slice am lm km, .slice ae le ke]] ?_ ?_ (zdh _ true m e _ (hB.below hD)) ?_; go_simp; go_simp; rintro e9 w5 ⟨rfl, hz1⟩; refine ⟨_, rfl, ?_⟩; obtain ⟨_, q1, q2, q3, q4, q5, q6⟩ := HX7.out.belowS hz1; obtain ⟨_, r1, r2, r3, r4, r5, r6⟩ := HY7.out.belowS hz1)
  all_goals
   go_wp2
   all_goals
    go_ret2
    exact ⟨by rw [HR.out]; simp [*], hD.trans (hz1.mono hD.size)⟩
 ·go_region_law (refine zva 186 #[.agg #[.bool true, .slice an ln kn, .slice ad ld kd]] ?_ ?_ (zdh _ true n d _ (hA.below hD)) ?_; go_simp; go_simp; rintro e9 w5 ⟨rfl, hz1⟩; refine ⟨_, rfl, ?_⟩; obtain ⟨_, q1, q2, q3, q4, q5, q6⟩ := HX7.out.belowS hz1; obtain ⟨_, r1, r2, r3, r4, r5, r6⟩ := HY7.out.belowS hz1)
  all_goals
   go_wp2
   all_goals
    go_ret2
    exact ⟨by rw [HR.out]; simp [*], hD.trans (hz1.mono hD.size)⟩
 ·go_region_held3 (fun w' => w'.cell? ⟨w.heap.size, 0, none⟩ = some (.bool true) ∧ w'.cell? ⟨w.heap.size, 1, none⟩ = some (.slice an ln kn) ∧ w'.cell? ⟨w.heap.size, 2, none⟩ = some (.slice ad ld kd) ∧ w'.cell? ⟨w.heap.size + 1, 0, none⟩ = some (.bool true) ∧ w'.cell? ⟨w.heap.size + 1, 1, none⟩ = some (.slice am lm km) ∧ w'.cell? ⟨w.heap.size + 1, 2, none⟩ = some (.slice ae le ke)) (exact ⟨q1, q2, q3, r1, r2, r3⟩) (first
  |(go_at_call 186; (with_reducible refine (zdh _ true n d _ (hA.below hD)).mono ?_); rintro e9 w5 ⟨rfl, hz1⟩
    have X8 := HX7.out.belowS hz1
    have Y8 := HY7.out.belowS hz1
    have HX8 := zH X8
    have HY8 := zH Y8
    obtain ⟨_, q1, q2, q3, q4, q5, q6⟩ := X8
    obtain ⟨_, r1, r2, r3, r4, r5, r6⟩ := Y8)
  |(go_at_call 186; (with_reducible refine (zdh _ true m e _ ((hB.below hD).below hz1)).mono ?_); rintro e9 w6 ⟨rfl, hz2⟩
    have X9 := HX8.out.belowS hz2
    have Y9 := HY8.out.belowS hz2
    obtain ⟨_, q1, q2, q3, q4, q5, q6⟩ := X9
    obtain ⟨_, r1, r2, r3, r4, r5, r6⟩ := Y9))
  all_goals
   go_wp2
   all_goals
    go_ret2
    exact ⟨by rw [HR.out]; simp [*], hD.trans ((zaa hz1 hz2).mono hD.size)⟩
set_option maxHeartbeats 800000 in
theorem zie (w : World) : Calls Tryz.prog 88 #[.int .i64 0] w (RF1 w 0) := by
 go_enter Tryz.func88, Tryz.ntmps88
 go_wp2_with (go_at_call 67; (with_reducible refine (make_01 _).mono ?_); rintro e w1 ⟨v, rfl, hv, hb1⟩
              obtain ⟨t9, x9, y9, rfl, ⟨a1, l91, k1, rfl, _⟩, ⟨a2, l92, k2, rfl, _⟩⟩ := hv.isF
              have hr := ((C3.new w 38 (.bool false) (.slice none 0 0) (.slice none 0 0)).belowS hb1).allocS (.cells #[.bool t9, .slice a1 l91 k1, .slice a2 l92 k2] 38)
              have hv2 := hv.below (zca w1 (.cells #[.bool t9, .slice a1 l91 k1, .slice a2 l92 k2] 38))
              have hb2 := zaa (zaa (zca w (.cells #[.bool false, .slice none 0 0, .slice none 0 0] 38)) hb1) (zca w1 (.cells #[.bool t9, .slice a1 l91 k1, .slice a2 l92 k2] 38))
              have HR := zH hr
              obtain ⟨_, d1, d2, d3, d4, d5, d6⟩ := hr)
 refine zab rfl rfl Tryz.aggF Tryz.sizeF (HR.out.set _ _ _) rfl ?_
 exact ⟨_, rfl, hv2.set3 HR.out (fun z => by simp) (fun z => by simp) _ _ _, zha hb2 (Nat.le_refl _) _ _ _⟩
set_option maxHeartbeats 800000 in
theorem znk (w : World) : Calls Tryz.prog 88 #[.int .i64 1] w (RF1 w 1) := by
 go_enter Tryz.func88, Tryz.ntmps88
 go_wp2_with (go_at_call 67; (with_reducible refine (make_11 _).mono ?_); rintro e w1 ⟨v, rfl, hv, hb1⟩
              obtain ⟨t9, x9, y9, rfl, ⟨a1, l91, k1, rfl, _⟩, ⟨a2, l92, k2, rfl, _⟩⟩ := hv.isF
              have hr := ((C3.new w 38 (.bool false) (.slice none 0 0) (.slice none 0 0)).belowS hb1).allocS (.cells #[.bool t9, .slice a1 l91 k1, .slice a2 l92 k2] 38)
              have hv2 := hv.below (zca w1 (.cells #[.bool t9, .slice a1 l91 k1, .slice a2 l92 k2] 38))
              have hb2 := zaa (zaa (zca w (.cells #[.bool false, .slice none 0 0, .slice none 0 0] 38)) hb1) (zca w1 (.cells #[.bool t9, .slice a1 l91 k1, .slice a2 l92 k2] 38))
              have HR := zH hr
              obtain ⟨_, d1, d2, d3, d4, d5, d6⟩ := hr)
 refine zab rfl rfl Tryz.aggF Tryz.sizeF (HR.out.set _ _ _) rfl ?_
 exact ⟨_, rfl, hv2.set3 HR.out (fun z => by simp) (fun z => by simp) _ _ _, zha hb2 (Nat.le_refl _) _ _ _⟩
set_option maxHeartbeats 1600000 in
theorem pplus_can (va vb : Value) (p q : Rat) (w : World) (ha : zya w va p) (hb : zya w vb q) (hp : fits p) (hq : fits q) (hr : fits (p + q)) : Calls Tryz.prog 94 #[va, vb] w (RF1 w (p + q)) := by
 obtain ⟨t1, x1, y1, rfl, ⟨a11, l11, k11, rfl, _⟩, ⟨a12, l12, k12, rfl, _⟩⟩ := ha.isF
 obtain ⟨t2, x2, y2, rfl, ⟨a21, l21, k21, rfl, _⟩, ⟨a22, l22, k22, rfl, _⟩⟩ := hb.isF
 obtain ⟨hA, hB, hR, hbw⟩ := zcd w 38 (.bool t1) (.slice a11 l11 k11) (.slice a12 l12 k12) (.bool t2) (.slice a21 l21 k21) (.slice a22 l22 k22) (.bool false) (.slice none 0 0) (.slice none 0 0) _ rfl
 have HR := zH hR
 have HBW := zH hbw
 have HA := zH (ha.below hbw)
 have HB := zH (hb.below hbw)
 have HF := zH (And.intro hp (And.intro hq hr))
 obtain ⟨_, c0, c1, c2, _, _, _⟩ := id hA
 obtain ⟨_, d0, d1, d2, _, _, _⟩ := id hB
 clear hA hB hR ha hb hp hq hr hbw
 go_enter Tryz.func94, Tryz.ntmps94
 go_wp2_with (first
  |(go_at_call 80; (with_reducible refine (add_can _ _ p q _ HA.out HB.out HF.out.1 HF.out.2.1 HF.out.2.2).mono ?_); rintro e3 w3 ⟨v3, rfl, hv3, hb3⟩
    obtain ⟨t3, x3, y3, rfl, ⟨a31, l31, k31, rfl, _⟩, ⟨a32, l32, k32, rfl, _⟩⟩ := hv3.isF
    have hba := zca w3 (.cells #[.bool t3, .slice a31 l31 k31, .slice a32 l32 k32] 38)
    have HR3 := zH (HR.out.belowS (zaa hb3 hba))
    have HV3 := zH (hv3.below hba)
    have HB3 := zH (zaa HBW.out (zaa hb3 hba))
    obtain ⟨_, g0, g1, g2, g3, g4, g5⟩ := HR3.out
    clear hv3 hb3 hba))
 refine zab rfl rfl Tryz.aggF Tryz.sizeF (HR3.out.set _ _ _) rfl ?_
 exact ⟨_, rfl, HV3.out.set3 HR3.out (fun z => by simp) (fun z => by simp) _ _ _, zha HB3.out (Nat.le_trans (Nat.le_succ _) (Nat.le_succ _)) _ _ _⟩
set_option maxHeartbeats 1600000 in
theorem zli (va vb : Value) (p q : Rat) (w : World) (ha : zya w va p) (hb : zya w vb q) (hp : fits p) (hq : fits q) (hr : fits (p - q)) : Calls Tryz.prog 96 #[va, vb] w (RF1 w (p - q)) := by
 obtain ⟨t1, x1, y1, rfl, ⟨a11, l11, k11, rfl, _⟩, ⟨a12, l12, k12, rfl, _⟩⟩ := ha.isF
 obtain ⟨t2, x2, y2, rfl, ⟨a21, l21, k21, rfl, _⟩, ⟨a22, l22, k22, rfl, _⟩⟩ := hb.isF
 obtain ⟨hA, hB, hR, hbw⟩ := zcd w 38 (.bool t1) (.slice a11 l11 k11) (.slice a12 l12 k12) (.bool t2) (.slice a21 l21 k21) (.slice a22 l22 k22) (.bool false) (.slice none 0 0) (.slice none 0 0) _ rfl
 have HR := zH hR
 have HBW := zH hbw
 have HA := zH (ha.below hbw)
 have HB := zH (hb.below hbw)
 have HF := zH (And.intro hp (And.intro hq hr))
 obtain ⟨_, c0, c1, c2, _, _, _⟩ := id hA
 obtain ⟨_, d0, d1, d2, _, _, _⟩ := id hB
 clear hA hB hR ha hb hp hq hr hbw
 go_enter Tryz.func96, Tryz.ntmps96
 go_wp2_with (first
  |(go_at_call 163; (with_reducible refine (sub_can _ _ p q _ HA.out HB.out HF.out.1 HF.out.2.1 HF.out.2.2).mono ?_); rintro e3 w3 ⟨v3, rfl, hv3, hb3⟩
    obtain ⟨t3, x3, y3, rfl, ⟨a31, l31, k31, rfl, _⟩, ⟨a32, l32, k32, rfl, _⟩⟩ := hv3.isF
    have hba := zca w3 (.cells #[.bool t3, .slice a31 l31 k31, .slice a32 l32 k32] 38)
    have HR3 := zH (HR.out.belowS (zaa hb3 hba))
    have HV3 := zH (hv3.below hba)
    have HB3 := zH (zaa HBW.out (zaa hb3 hba))
    obtain ⟨_, g0, g1, g2, g3, g4, g5⟩ := HR3.out
    clear hv3 hb3 hba))
 refine zab rfl rfl Tryz.aggF Tryz.sizeF (HR3.out.set _ _ _) rfl ?_
 exact ⟨_, rfl, HV3.out.set3 HR3.out (fun z => by simp) (fun z => by simp) _ _ _, zha HB3.out (Nat.le_trans (Nat.le_succ _) (Nat.le_succ _)) _ _ _⟩
set_option maxHeartbeats 1600000 in
theorem ptimes_can (va vb : Value) (p q : Rat) (w : World) (ha : zya w va p) (hb : zya w vb q) (hp : fits p) (hq : fits q) (hr : fits (p * q)) : Calls Tryz.prog 97 #[va, vb] w (RF1 w (p * q)) := by
 obtain ⟨t1, x1, y1, rfl, ⟨a11, l11, k11, rfl, _⟩, ⟨a12, l12, k12, rfl, _⟩⟩ := ha.isF
 obtain ⟨t2, x2, y2, rfl, ⟨a21, l21, k21, rfl, _⟩, ⟨a22, l22, k22, rfl, _⟩⟩ := hb.isF
 obtain ⟨hA, hB, hR, hbw⟩ := zcd w 38 (.bool t1) (.slice a11 l11 k11) (.slice a12 l12 k12) (.bool t2) (.slice a21 l21 k21) (.slice a22 l22 k22) (.bool false) (.slice none 0 0) (.slice none 0 0) _ rfl
 have HR := zH hR
 have HBW := zH hbw
 have HA := zH (ha.below hbw)
 have HB := zH (hb.below hbw)
 have HF := zH (And.intro hp (And.intro hq hr))
 obtain ⟨_, c0, c1, c2, _, _, _⟩ := id hA
 obtain ⟨_, d0, d1, d2, _, _, _⟩ := id hB
 clear hA hB hR ha hb hp hq hr hbw
 go_enter Tryz.func97, Tryz.ntmps97
 go_wp2_with (first
  |(go_at_call 131; (with_reducible refine (zrk _ _ p q _ HA.out HB.out HF.out.1 HF.out.2.1 HF.out.2.2).mono ?_); rintro e3 w3 ⟨v3, rfl, hv3, hb3⟩
    obtain ⟨t3, x3, y3, rfl, ⟨a31, l31, k31, rfl, _⟩, ⟨a32, l32, k32, rfl, _⟩⟩ := hv3.isF
    have hba := zca w3 (.cells #[.bool t3, .slice a31 l31 k31, .slice a32 l32 k32] 38)
    have HR3 := zH (HR.out.belowS (zaa hb3 hba))
    have HV3 := zH (hv3.below hba)
    have HB3 := zH (zaa HBW.out (zaa hb3 hba))
    obtain ⟨_, g0, g1, g2, g3, g4, g5⟩ := HR3.out
    clear hv3 hb3 hba))
 refine zab rfl rfl Tryz.aggF Tryz.sizeF (HR3.out.set _ _ _) rfl ?_
 exact ⟨_, rfl, HV3.out.set3 HR3.out (fun z => by simp) (fun z => by simp) _ _ _, zha HB3.out (Nat.le_trans (Nat.le_succ _) (Nat.le_succ _)) _ _ _⟩
theorem fin_any (n lo hi : Int) (w : World) : Calls Tryz.prog 133 #[.int .i64 n, .int .i64 lo, .int .i64 hi] w (fun e w' => e = .returned (.bool (decide (lo ≤ n) && decide (n ≤ hi))) ∧ w' = w) := by
 go_enter Tryz.func133, Tryz.ntmps133
 by_cases h1 : lo ≤ n
 ·have h2 : decide (lo ≤ n) = true := decide_eq_true h1
  go_wp2_with fail
  go_ret
  exact ⟨by simp [h1], rfl⟩
 ·have h2 : decide (lo ≤ n) = false := decide_eq_false h1
  go_wp2_with fail
  go_ret
  exact ⟨by simp [h1], rfl⟩
def RSame (w0 : World) (p : Prop) (e : Ending) (w : World) : Prop := (∃ b, e = .returned (.bool b) ∧ (b = true ↔ p)) ∧ Below w0.heap.size w0 w
theorem zxg {α : Type _} {a b : List α} (hl : a.length = b.length) (h : ∀ (j : Nat) (h1 : j < a.length) (h2 : j < b.length), a[j] = b[j]) : a = b := List.ext_getElem hl h
theorem zxb.at' {w : World} {v : Value} {l : List Nat} (h : zxb w v l) (j : Nat) (hj : j < l.length) : w.cell? (ptr v j) = some (.int .u32 (l[j] : Nat)) := h.cell j hj
set_option maxHeartbeats 1600000 in
theorem zlh (va vb : Value) (a b : List Nat) (w : World) (ha : zxb w va a) (hb : zxb w vb b) :
 Calls Tryz.prog 140 #[va, vb] w (RSame w (a = b)) := by
 have sa := ha.sl
 have la := ha.len
 have sb := hb.sl
 have lb := hb.len
 have hle := sa.le
 have hle2 := sb.le
 rw [la] at hle
 rw [lb] at hle2
 have hlb : a.length ≤ 9223372036854775807 := by omega
 have hlb2 : b.length ≤ 9223372036854775807 := by omega
 clear hle hle2
 have hw : w.heap.size ≤ w.heap.size := Nat.le_refl _
 by_cases hlen : a.length = b.length
 ·skip
  have hL := zH hlen
  rw [← hlen] at lb
  clear hlen
  go_enter Tryz.func140, Tryz.ntmps140
  go_wp2_with fail
  go_loopw [5] (fun u5 wr => ∃ (k : Nat), k ≤ a.length ∧ u5 = .int .i64 k ∧ (∀ (j : Nat) (h1 : j < a.length) (h2 : j < b.length), j < k → a[j] = b[j]) ∧ Below w.heap.size w wr) (fun u5 _ => a.length - (intOf u5).toNat)
  case atStart => exact ⟨0, Nat.zero_le _, rfl, fun j _ _ h => by omega, Below.refl _ _⟩
  case round =>
   obtain ⟨k, hk, rfl, hst, hbr⟩ := hrel
   have HST := zH hst
   clear hst
   by_cases hkl : k < a.length
   ·have hkb : k < b.length := by rw [← hL.out]; exact hkl
    have hc := (ha.below hbr).at' k hkl
    have hd := (hb.below hbr).at' k hkb
    have HX : Hid (∀ (h1 : k < a.length) (h2 : k < b.length), a[k] = b[k] ↔ a[k]'hkl = b[k]'hkb) := zH (fun _ _ => Iff.rfl)
    have i1 : (0 : Int) ≤ (k : Int) := by omega
    have i2 : (k : Int) < (a.length : Nat) := by omega
    generalize ha' : a[k]'hkl = x at *
    generalize hb' : b[k]'hkb = y at *
    have HA := zH ha'
    have HB := zH hb'
    clear ha' hb'
    by_cases hxy : x = y
    ·subst hxy
     have HST2 : Hid (∀ (j : Nat) (h1 : j < a.length) (h2 : j < b.length), j < k + 1 → a[j] = b[j]) := zH (fun j h1 h2 h3 => by
      rcases Nat.lt_or_ge j k with h4 | h4
      ·exact HST.out j h1 h2 h4
      ·obtain rfl : j = k := by omega
       rw [HA.out, HB.out])
     go_wp2_with fail
     go_quiet (fail)
     have hbd := zaa hbr (zqa (B := wr.heap.size) wr nq)
     go_wp2_with fail
     go_roundw
     case rel => exact ⟨k + 1, by omega, by go_num, HST2.out, hbd⟩
     case measure => simp [intOf]; omega
    ·skip
     have hxy2 : ((x : Int) == (y : Int)) = false := by first | (simp; omega) | simpa using hxy
     go_wp2_with fail
     go_quiet (fail)
     have hbd := zaa hbr (zqa (B := wr.heap.size) wr nq)
     go_wp2_with fail
     go_ret
     exact ⟨⟨false, rfl, by simp; intro h; subst h; exact hxy (HA.out.symm.trans HB.out)⟩, hbd⟩
   ·go_wp2_with fail
    go_ret
    refine ⟨⟨true, rfl, by simp; exact zxg hL.out (fun j h1 h2 => HST.out j h1 h2 (by omega))⟩, hbr⟩
 ·have hne : ((a.length : Int) == (b.length : Int)) = false := by simp; omega
  go_enter Tryz.func140, Tryz.ntmps140
  go_wp2_with fail
  go_ret
  exact ⟨⟨false, rfl, by simp; intro h; exact hlen (by rw [h])⟩, Below.refl _ _⟩
theorem rat_parts {p q : Rat} : p = q ↔ decide (p < 0) = decide (q < 0) ∧ zka p.num.natAbs = zka q.num.natAbs ∧ zka p.den = zka q.den := by
 constructor
 ·rintro rfl; exact ⟨rfl, rfl, rfl⟩
 ·rintro ⟨h1, h2, h3⟩
  have e2 := zyf h2
  have e3 := zyf h3
  rw [← zdc p, ← zdc q, h1, e2, e3]
set_option maxRecDepth 100000 in
set_option maxHeartbeats 1600000 in
theorem zwj (va vb : Value) (p q : Rat) (w : World) (ha : zya w va p) (hb : zya w vb q) :
 Calls Tryz.prog 61 #[va, vb] w (RSame w (p = q)) := by
 obtain ⟨a1, a2, rfl, n1, n2⟩ := ha
 obtain ⟨b1, b2, rfl, m1, m2⟩ := hb
 have HP := zH (@rat_parts p q)
 have n1 := n1.1
 have n2 := n2.1
 have m1 := m1.1
 have m2 := m2.1
 obtain ⟨a1a, a1n, a1c, rfl, _⟩ := n1.sl
 obtain ⟨a2a, a2n, a2c, rfl, _⟩ := n2.sl
 obtain ⟨b1a, b1n, b1c, rfl, _⟩ := m1.sl
 obtain ⟨b2a, b2n, b2c, rfl, _⟩ := m2.sl
 generalize decide (p < 0) = s at *
 generalize decide (q < 0) = t at *
 generalize zka p.num.natAbs = x at *
 generalize zka q.num.natAbs = y at *
 generalize zka p.den = z at *
 generalize zka q.den = u at *
 have hbx := zca w (.cells #[.bool s, .slice a1a a1n a1c, .slice a2a a2n a2c] 38)
 have hbx := (hbx.alloc hbx.size (.cells #[.bool t, .slice b1a b1n b1c, .slice b2a b2n b2c] 38))
 have n1 := n1.below hbx
 have n2 := n2.below hbx
 have m1 := m1.below hbx
 have m2 := m2.below hbx
 have hC := (C3.new w 38 (.bool s) (.slice a1a a1n a1c) (.slice a2a a2n a2c)).allocS (.cells #[.bool t, .slice b1a b1n b1c, .slice b2a b2n b2c] 38)
 have hD := C3.new (w.alloc (.cells #[.bool s, .slice a1a a1n a1c, .slice a2a a2n a2c] 38)) 38 (.bool t) (.slice b1a b1n b1c) (.slice b2a b2n b2c)
 rw [show (w.alloc (.cells #[.bool s, .slice a1a a1n a1c, .slice a2a a2n a2c] 38)).heap.size = w.heap.size + 1 from by simp] at hD
 by_cases h1 : s = t
 ·subst h1
  by_cases hxy : x = y
  ·by_cases hzu : z = u
   ·have tok : True := trivial
    go_enter Tryz.func61, Tryz.ntmps61
    go_wp2_with (first
     |(go_at_call 140; have _t := tok; (with_reducible refine (zlh _ _ x y _ n1 m1).mono ?_); rintro e1 w1 ⟨⟨r1, rfl, h1⟩, hbel1⟩; obtain rfl : r1 = true := h1.2 hxy; clear h1 tok _t
       have n3 := n2.below hbel1
       have m3 := m2.below hbel1
       obtain ⟨_, c0, c1, c2, _, _, _⟩ := hC.belowS hbel1
       obtain ⟨_, d0, d1, d2, _, _, _⟩ := hD.belowS hbel1)
     |(go_at_call 140; (with_reducible refine (zlh _ _ z u _ n3 m3).mono ?_); rintro e2 w2 ⟨⟨r2, rfl, h2⟩, hbel2⟩; obtain rfl : r2 = true := h2.2 hzu; clear h2))
    go_ret
    exact ⟨⟨true, rfl, by simp; exact HP.out.2 ⟨by first | rfl | trivial, hxy, hzu⟩⟩, (hbx.trans (hbel1.mono hbx.size)).trans (hbel2.mono (hbx.trans (hbel1.mono hbx.size)).size)⟩
   ·have tok : True := trivial
    go_enter Tryz.func61, Tryz.ntmps61
    go_wp2_with (first
     |(go_at_call 140; have _t := tok; (with_reducible refine (zlh _ _ x y _ n1 m1).mono ?_); rintro e1 w1 ⟨⟨r1, rfl, h1⟩, hbel1⟩; obtain rfl : r1 = true := h1.2 hxy; clear h1 tok _t
       have n3 := n2.below hbel1
       have m3 := m2.below hbel1
       obtain ⟨_, c0, c1, c2, _, _, _⟩ := hC.belowS hbel1
       obtain ⟨_, d0, d1, d2, _, _, _⟩ := hD.belowS hbel1)
     |(go_at_call 140; (with_reducible refine (zlh _ _ z u _ n3 m3).mono ?_); rintro e2 w2 ⟨⟨r2, rfl, h2⟩, hbel2⟩; obtain rfl : r2 = false := Bool.eq_false_iff.2 (fun h => hzu (h2.1 h)); clear h2))
    go_ret
    exact ⟨⟨false, rfl, by simp; exact fun h => hzu (HP.out.1 h).2.2⟩, (hbx.trans (hbel1.mono hbx.size)).trans (hbel2.mono (hbx.trans (hbel1.mono hbx.size)).size)⟩
  ·go_enter Tryz.func61, Tryz.ntmps61
   go_wp2_with (go_at_call 140; (with_reducible refine (zlh _ _ x y _ n1 m1).mono ?_); rintro e1 w1 ⟨⟨r1, rfl, h1⟩, hbel1⟩; obtain rfl : r1 = false := Bool.eq_false_iff.2 (fun h => hxy (h1.1 h)); clear h1)
   go_ret
   exact ⟨⟨false, rfl, by simp; exact fun h => hxy (HP.out.1 h).2.1⟩, hbx.trans (hbel1.mono hbx.size)⟩
 ·have h2 : (s == t) = false := by simpa using h1
  go_enter Tryz.func61, Tryz.ntmps61
  go_wp2_with fail
  go_ret
  exact ⟨⟨false, rfl, by simp; exact fun h => h1 (HP.out.1 h).1⟩, hbx⟩
set_option maxRecDepth 100000 in
set_option maxHeartbeats 1600000 in
theorem zhi (va vb : Value) (a b : List Rat) (w : World) (ha : zza w va a) (hb : zza w vb b) :
 Calls Tryz.prog 23 #[va, vb] w (RSame w (a = b)) := by
 have sa := ha.sl
 have la := ha.len
 have sb := hb.sl
 have lb := hb.len
 have hle := sa.le
 have hle2 := sb.le
 rw [la] at hle
 rw [lb] at hle2
 have hlb : a.length ≤ 9223372036854775807 := by omega
 have hlb2 : b.length ≤ 9223372036854775807 := by omega
 clear hle hle2
 by_cases hlen : a.length = b.length
 ·skip
  have hL := zH hlen
  rw [← hlen] at lb
  clear hlen
  go_enter Tryz.func23, Tryz.ntmps23
  go_wp2_with fail
  go_loopw [5] (fun u5 wr => ∃ (k : Nat), k ≤ a.length ∧ u5 = .int .i64 k ∧ (∀ (j : Nat) (h1 : j < a.length) (h2 : j < b.length), j < k → a[j] = b[j]) ∧ Below w.heap.size w wr) (fun u5 _ => a.length - (intOf u5).toNat)
  case atStart => exact ⟨0, Nat.zero_le _, rfl, fun j _ _ h => by omega, Below.refl _ _⟩
  case round =>
   obtain ⟨k, hk, rfl, hst, hbr⟩ := hrel
   have HST := zH hst
   clear hst
   by_cases hkl : k < a.length
   ·have hkb : k < b.length := by rw [← hL.out]; exact hkl
    have hdr := zga (B := wr.heap.size) wr
    have hbd := zaa hbr hdr
    obtain ⟨a1, a2, c1, c2, c3, n1, n2⟩ := (ha.below hbd).at' k hkl
    obtain ⟨b1, b2, d1, d2, d3, m1, m2⟩ := (hb.below hbd).at' k hkb
    have i1 : (0 : Int) ≤ (k : Int) := by omega
    have i2 : (k : Int) < (a.length : Nat) := by omega
    generalize ha' : a[k]'hkl = x at *
    generalize hb' : b[k]'hkb = y at *
    have HA := zH ha'
    have HB := zH hb'
    clear ha' hb'
    have hX : zya wr.drew (.agg #[.bool (decide (x < 0)), a1, a2]) x := ⟨_, _, rfl, n1, n2⟩
    have hY : zya wr.drew (.agg #[.bool (decide (y < 0)), b1, b2]) y := ⟨_, _, rfl, m1, m2⟩
    clear n1 n2 m1 m2
    go_wp2_with fail
    go_region_held3 (fun w' => w'.cell? (ptr va (k * 3)) = some (.bool (decide (x < 0))) ∧ w'.cell? (ptr va (k * 3 + 1)) = some a1 ∧ w'.cell? (ptr va (k * 3 + 2)) = some a2 ∧ w'.cell? (ptr vb (k * 3)) = some (.bool (decide (y < 0))) ∧ w'.cell? (ptr vb (k * 3 + 1)) = some b1 ∧ w'.cell? (ptr vb (k * 3 + 2)) = some b2) (exact ⟨c1, c2, c3, d1, d2, d3⟩) (first
     |(go_at_call 61; (with_reducible refine (zwj _ _ x y _ hX hY).mono ?_); rintro e9 w9 ⟨⟨r9, rfl, h9⟩, hb9⟩
       have c1 := zba hb9 c1
       have c2 := zba hb9 c2
       have c3 := zba hb9 c3
       have d1 := zba hb9 d1
       have d2 := zba hb9 d2
       have d3 := zba hb9 d3))
    clear c1 c2 c3 d1 d2 d3 hX hY
    have hbr2 := zaa hbd hb9
    by_cases hxy : x = y
    ·obtain rfl : r9 = true := h9.2 hxy
     have HST2 : Hid (∀ (j : Nat) (h1 : j < a.length) (h2 : j < b.length), j < k + 1 → a[j] = b[j]) := zH (fun j h1 h2 h3 => by
      rcases Nat.lt_or_ge j k with h4 | h4
      ·exact HST.out j h1 h2 h4
      ·obtain rfl : j = k := by omega
       rw [HA.out, HB.out, hxy])
     clear hxy h9
     go_wp2
     go_roundw
     case rel => exact ⟨k + 1, by omega, by go_num, HST2.out, hbr2⟩
     case measure => simp [intOf]; omega
    ·obtain rfl : r9 = false := Bool.eq_false_iff.2 (fun h => hxy (h9.1 h))
     have HXY := zH hxy
     clear hxy h9
     go_wp2
     go_ret
     exact ⟨⟨false, rfl, by simp; intro h; subst h; exact HXY.out (HA.out.symm.trans HB.out)⟩, hbr2⟩
   ·go_wp2_with fail
    go_ret
    refine ⟨⟨true, rfl, by simp; exact zxg hL.out (fun j h1 h2 => HST.out j h1 h2 (by omega))⟩, hbr⟩
 ·skip
  have hne : ((a.length : Int) == (b.length : Int)) = false := by simp; omega
  go_enter Tryz.func23, Tryz.ntmps23
  go_wp2_with fail
  go_ret
  exact ⟨⟨false, rfl, by simp; intro h; exact hlen (by rw [h])⟩, Below.refl _ _⟩
structure MatC (w : World) (v : Value) (m : List (List Rat)) : Prop where
 sl : zlc v
 len : slen v = m.length
 at' : ∀ (j : Nat) (h : j < m.length), ∃ r, w.cell? (ptr v j) = some r ∧ zza w r m[j]
theorem MatC.below {w w' : World} {v : Value} {m : List (List Rat)} (h : MatC w v m) (hb : Below w.heap.size w w') : MatC w' v m :=
 ⟨h.sl, h.len, fun j hj => by obtain ⟨r, h1, h2⟩ := h.at' j hj; exact ⟨r, zba hb h1, h2.below hb⟩⟩
set_option maxRecDepth 100000 in
set_option maxHeartbeats 1600000 in
theorem same_mat (va vb : Value) (a b : List (List Rat)) (w : World) (ha : MatC w va a) (hb : MatC w vb b) :
 Calls Tryz.prog 93 #[va, vb] w (RSame w (a = b)) := by
 have sa := ha.sl
 have la := ha.len
 have sb := hb.sl
 have lb := hb.len
 have hle := sa.le
 have hle2 := sb.le
 rw [la] at hle
 rw [lb] at hle2
 have hlb : a.length ≤ 9223372036854775807 := by omega
 have hlb2 : b.length ≤ 9223372036854775807 := by omega
 clear hle hle2
 by_cases hlen : a.length = b.length
 ·skip
  have hL := zH hlen
  rw [← hlen] at lb
  clear hlen
  go_enter Tryz.func93, Tryz.ntmps93
  go_wp2_with fail
  go_loopw [5] (fun u5 wr => ∃ (k : Nat), k ≤ a.length ∧ u5 = .int .i64 k ∧ (∀ (j : Nat) (h1 : j < a.length) (h2 : j < b.length), j < k → a[j] = b[j]) ∧ Below w.heap.size w wr) (fun u5 _ => a.length - (intOf u5).toNat)
  case atStart => exact ⟨0, Nat.zero_le _, rfl, fun j _ _ h => by omega, Below.refl _ _⟩
  case round =>
   obtain ⟨k, hk, rfl, hst, hbr⟩ := hrel
   have HST := zH hst
   clear hst
   by_cases hkl : k < a.length
   ·have hkb : k < b.length := by rw [← hL.out]; exact hkl
    have hdr := zga (B := wr.heap.size) wr
    have hbd := zaa hbr hdr
    obtain ⟨r1, c1, hX⟩ := (ha.below hbd).at' k hkl
    obtain ⟨r2, d1, hY⟩ := (hb.below hbd).at' k hkb
    have i1 : (0 : Int) ≤ (k : Int) := by omega
    have i2 : (k : Int) < (a.length : Nat) := by omega
    generalize ha' : a[k]'hkl = x at *
    generalize hb' : b[k]'hkb = y at *
    have HA := zH ha'
    have HB := zH hb'
    clear ha' hb'
    go_wp2_with fail
    go_region_held3 (fun w' => w'.cell? (ptr va k) = some r1 ∧ w'.cell? (ptr vb k) = some r2) (exact ⟨c1, d1⟩) (first
     |(go_at_call 23; (with_reducible refine (zhi _ _ x y _ hX hY).mono ?_); rintro e9 w9 ⟨⟨r9, rfl, h9⟩, hb9⟩
       have c1 := zba hb9 c1
       have d1 := zba hb9 d1))
    clear c1 d1 hX hY
    have hbr2 := zaa hbd hb9
    by_cases hxy : x = y
    ·obtain rfl : r9 = true := h9.2 hxy
     have HST2 : Hid (∀ (j : Nat) (h1 : j < a.length) (h2 : j < b.length), j < k + 1 → a[j] = b[j]) := zH (fun j h1 h2 h3 => by
      rcases Nat.lt_or_ge j k with h4 | h4
      ·exact HST.out j h1 h2 h4
      ·obtain rfl : j = k := by omega
       rw [HA.out, HB.out, hxy])
     clear hxy h9
     go_wp2
     go_roundw
     case rel => exact ⟨k + 1, by omega, by go_num, HST2.out, hbr2⟩
     case measure => simp [intOf]; omega
    ·obtain rfl : r9 = false := Bool.eq_false_iff.2 (fun h => hxy (h9.1 h))
     have HXY := zH hxy
     clear hxy h9
     go_wp2
     go_ret
     exact ⟨⟨false, rfl, by simp; intro h; subst h; exact HXY.out (HA.out.symm.trans HB.out)⟩, hbr2⟩
   ·go_wp2_with fail
    go_ret
    refine ⟨⟨true, rfl, by simp; exact zxg hL.out (fun j h1 h2 => HST.out j h1 h2 (by omega))⟩, hbr⟩
 ·skip
  have hne : ((a.length : Int) == (b.length : Int)) = false := by simp; omega
  go_enter Tryz.func93, Tryz.ntmps93
  go_wp2_with fail
  go_ret
  exact ⟨⟨false, rfl, by simp; intro h; exact hlen (by rw [h])⟩, Below.refl _ _⟩
def RNatO (w0 : World) (n : Nat) (e : Ending) (w : World) : Prop := ∃ r, e = .returned r ∧ zcc w 142 w0.heap.size r (zka n) ∧ zea n ≤ 4294967296 ∧ Below w0.heap.size w0 w
theorem RNatO.nat {w0 : World} {n : Nat} {e : Ending} {w : World} (h : RNatO w0 n e w) : RNat w0 n e w := by
 obtain ⟨r, h1, h2, h3, h4⟩ := h; exact ⟨r, h1, ⟨h2.nat, h3⟩, h4⟩
theorem zre (l : List Nat) (j : Nat) (hj : j < l.length) : l.getD j 0 = l[j] := by simp [List.getD, hj]
set_option maxHeartbeats 400000 in
theorem zxj (v : Value) (n : Nat) (w : World) (h : zpb w v n) :
 Calls Tryz.prog 106 #[v] w (RNatO w n) := by
 obtain ⟨l, hl, HE, hll⟩ := h
 have hs := hl.sl
 have hlen := hl.len
 have hle := hs.le
 have hcan := hl.can hll
 rw [HE] at hcan
 have hce : clen l = zea n := by rw [zsi hl.lm, HE]
 have hcl := znb hl.lm
 rw [HE] at hcl
 have HCE := zH hce
 clear HE hce
 have HLL := zH hll
 clear hll
 have hcs : zea n ≤ scap v := by omega
 obtain ⟨i0, hi, hz0, hz1, hz2⟩ := info_parts Tryz.info102
 have hroom : ([] : List Nat).length + (zka n).length ≤ 35184372088832 := by have := hcan.2; unfold zea at this; simp; omega
 have hA := zui (P := Tryz.prog) 36 142 i0 Tryz.underlying36 hi hz0 hz1 hz2
 have HR := zH hroom
 have HN := zH hcan
 clear hroom hcan hi hz0 hz1 hz2
 go_enter Tryz.func106, Tryz.ntmps106
 go_wp2
 go_loop [3] (fun i => ∃ k : Nat, k ≤ l.length ∧ i = .int .i64 k ∧ clen (l.take k) = clen l) (fun i => (intOf i).toNat)
 case atStart => exact ⟨l.length, Nat.le_refl _, by simp [hlen], by rw [List.take_length]⟩
 case round =>
  obtain ⟨k, hk, rfl, hce⟩ := hrel
  have HC := zH hce; clear hce
  by_cases h1 : 0 < k ∧ l.getD (k - 1) 0 = 0
  ·obtain ⟨h0, hx⟩ := h1
   obtain ⟨j, rfl⟩ : ∃ j, k = j + 1 := ⟨k - 1, by omega⟩
   have hj : j < l.length := by omega
   rw [Nat.add_sub_cancel, zre _ _ hj] at hx
   have hc := hl.cell j hj
   have HZ := zH (zse l j hj hx)
   rw [hx] at hc
   clear hx
   go_wp2_with fail
   go_round
   case rel => exact ⟨j, by omega, rfl, by rw [← HC.out, HZ.out]⟩
   case measure => simp [intOf]
  ·have e : zea n = k := by
    rw [← HCE.out, ← HC.out]
    by_cases h0 : 0 < k
    ·obtain ⟨j, rfl⟩ : ∃ j, k = j + 1 := ⟨k - 1, by omega⟩
     have hj : j < l.length := by omega
     exact zai l j hj (fun hx => h1 ⟨h0, by rw [Nat.add_sub_cancel, zre _ _ hj, hx]⟩)
    ·obtain rfl : k = 0 := by omega
     rfl
   rw [e] at HN hcs hcl
   have hc : 0 < k → ∃ x : Nat, w.cell? (ptr v (k - 1)) = some (.int .u32 x) ∧ (((x : Nat) : Int) == 0) = false := fun h0 => by
    have hj : k - 1 < l.length := by omega
    refine ⟨_, hl.cell (k - 1) hj, ?_⟩
    have : l[k - 1] ≠ 0 := fun hx => h1 ⟨h0, by rw [zre _ _ hj, hx]⟩
    have : ((l[k - 1] : Nat) : Int) ≠ 0 := by omega
    simpa using this
   clear h1 e
   rcases Nat.eq_zero_or_pos k with h0 | h0
   ·clear hc
    subst h0
    go_wp2_with (at_builtin; refine hA w rfl _ _ rfl w.heap.size _ [] rfl (zcc.nil _ _ _) _ rfl (zka n) HN.out.1 HR.out (Nat.le_refl _) ?_; intro v' w1 hown _ hbel)
    go_ret
    exact ⟨v', rfl, by simpa using hown, HN.out.2, hbel⟩
   ·obtain ⟨x, hx, hx3⟩ := hc h0
    clear hc
    go_wp2_with (at_builtin; refine hA w rfl _ _ rfl w.heap.size _ [] rfl (zcc.nil _ _ _) _ rfl (zka n) HN.out.1 HR.out (Nat.le_refl _) ?_; intro v' w1 hown _ hbel)
    go_ret
    exact ⟨v', rfl, by simpa using hown, HN.out.2, hbel⟩
theorem zxa (v : Value) (n : Nat) (w : World) (h : zpb w v n) :
 Calls Tryz.prog 106 #[v] w (RNat w n) := (zxj v n w h).mono fun _ _ h => h.nat
set_option maxHeartbeats 400000 in
theorem zhd (n : Nat) (hn : n < 18446744073709551616) (w : World) :
 Calls Tryz.prog 72 #[.int .u64 n] w (RNat w n) := by
 have HN := zqk w 142 (n % 4294967296) (n / 4294967296) (by omega) (by omega)
 rw [show ((n % 4294967296 : Nat) : Int) = (n : Int) % 4294967296 from by omega, show ((n / 4294967296 : Nat) : Int) = (n : Int) / 4294967296 from by omega] at HN
 have hv : val [n % 4294967296, n / 4294967296] = n := by simp [val]; omega
 have HL := HN.natN (by simp)
 rw [hv] at HL
 have HT := zH (zxa _ _ _ HL)
 have HB := zH ((Below.refl w.heap.size w).alloc (Nat.le_refl _) (.cells #[.int .u32 ((n : Int) % 4294967296), .int .u32 ((n : Int) / 4294967296)] 142))
 clear HN hv HL
 go_enter Tryz.func72, Tryz.ntmps72
 go_wp2_with (go_at_call 106; refine HT.out.mono ?_; rintro e w1 ⟨r, rfl, hr, hb⟩)
 go_ret
 exact ⟨_, rfl, hr, HB.out.trans (hb.mono HB.out.size)⟩
theorem zcm (v : Value) (n : Nat) (w : World) (h : zpb w v n) :
 Calls Tryz.prog 152 #[v] w fun e w' => e = .returned (.bool (decide (512 < zea n))) ∧ Below w.heap.size w w' := by
 go_enter Tryz.func152, Tryz.ntmps152
 go_wp2_with (go_at_call 106; refine (zxa v n _ h).mono ?_; rintro e w1 ⟨r, rfl, hr, hb⟩; have h1 := hr.1.sl; have h2 : slen r = zea n := hr.1.len)
 go_ret
 exact ⟨by congr 2; simp; omega, hb⟩
theorem zwe (v : Value) (n : Nat) (w : World) (h : zpb w v n) (hn : zea n ≤ 512) :
 Calls Tryz.prog 152 #[v] w fun e w' => e = .returned (.bool false) ∧ Below w.heap.size w w' :=
 (zcm v n w h).mono fun e w' ⟨h1, h2⟩ => ⟨by rw [h1, decide_eq_false (by omega)], h2⟩
set_option maxHeartbeats 800000 in
theorem zgg (va vb : Value) (m n : Nat) (w : World) (ha : zpb w va m) (hb : zpb w vb n) :
 Calls Tryz.prog 77 #[va, vb] w fun e w' => e = .returned (.int .i64 (zsl m n)) ∧ Below w.heap.size w w' := by
 go_enter Tryz.func77, Tryz.ntmps77
 go_wp2_with (go_at_call 106; first
  |((with_reducible refine (zxa va m _ ha).mono ?_); rintro e w1 ⟨ra, rfl, hra, hb1⟩)
  |((with_reducible refine (zxa vb n _ (hb.below hb1)).mono ?_); rintro e w2 ⟨rb, rfl, hrb, hb2⟩
    have h1 := (hra.below hb2).1.sl
    have h2 : slen ra = zea m := (hra.below hb2).1.len
    have h3 := hrb.1.sl
    have h4 : slen rb = zea n := hrb.1.len
    have h5 : zea m ≤ 4294967296 := hra.2))
 ·go_ret
  exact ⟨by rw [zzg (zlg (by assumption))]; rfl, hb1.trans (hb2.mono hb1.size)⟩
 ·have hne : ((zea m : Nat) : Int) ≠ zea n := by simpa using ‹((zea m : Int) != (zea n : Int)) = true›
  have hlt : ¬ zea m < zea n := by assumption
  go_ret
  exact ⟨by rw [zll (zlg (by omega))]; rfl, hb1.trans (hb2.mono hb1.size)⟩
 ·have he : zea m = zea n := by
   have : ((zea m : Nat) : Int) = zea n := by simpa using ‹((zea m : Int) != (zea n : Int)) = false›
   omega
  have HB := zH (hb1.trans (hb2.mono hb1.size))
  have ca := (hra.below hb2).1.cell
  have cb := hrb.1.cell
  have hln := hrb.2
  clear ha hb hb1 hb2 hra hrb
  have HE := zH he
  rw [← he] at hln
  clear he
  go_loopw [5] (fun i wr => ∃ k q : Nat, k ≤ zea m ∧ i = .int .i64 ((k : Int) - 1) ∧ (zka m).drop k = (zka n).drop k ∧ wr = w2.drewN q) (fun i _ => (intOf i + 1).toNat)
  case atStart => exact ⟨zea m, 0, Nat.le_refl _, by simp, by rw [List.drop_of_length_le (show zea m ≤ zea m from Nat.le_refl _), List.drop_of_length_le (show zea n ≤ zea m by have := HE.out; omega)], rfl⟩
  case round =>
   obtain ⟨k, q, hk, rfl, hd, rfl⟩ := hrel
   have HD := zH hd
   clear hd
   by_cases hk0 : 0 < k
   ·obtain ⟨j, rfl⟩ : ∃ j, k = j + 1 := ⟨k - 1, by omega⟩
    have hj1 : j < zea m := by omega
    have hj2 : j < zea n := by have := HE.out; omega
    have h7 := ca j hj1
    have h8 := cb j hj2
    have hlt := zyd (zmb m) j hj1 hj2 HD.out
    have hgt := zyd (zmb n) j hj2 hj1 HD.out.symm
    have heq := zom j hj1 hj2 HD.out
    rw [zia, zia] at hlt hgt
    clear ca cb HD
    generalize (zka m)[j]'hj1 = x at *
    generalize (zka n)[j]'hj2 = y at *
    have HL := zH hlt
    have HG := zH hgt
    have HQ := zH heq
    clear hlt hgt heq
    by_cases hxy : x < y
    ·go_wp2
     go_quiet (fail)
     go_wp2
     go_ret
     exact ⟨by rw [zzg (HL.out hxy)]; rfl, by first | exact HB.out.trans ((zqa _ _).mono HB.out.size) | (simp only [World.drewN_drewN]; exact HB.out.trans ((zqa _ _).mono HB.out.size))⟩
    ·by_cases hyx : y < x
     ·go_wp2
      go_quiet (fail)
      go_wp2
      go_quiet (fail)
      go_wp2
      go_ret
      exact ⟨by rw [zll (HG.out hyx)]; rfl, by first | exact HB.out.trans ((zqa _ _).mono HB.out.size) | (simp only [World.drewN_drewN]; exact HB.out.trans ((zqa _ _).mono HB.out.size))⟩
     ·go_wp2
      go_quiet (fail)
      go_wp2
      go_quiet (fail)
      go_wp2
      go_roundw
      case rel => exact ⟨j, _, by omega, by go_num, HQ.out (by omega), by first | rfl | (simp only [World.drewN_drewN]; rfl)⟩
      case measure => simp [intOf]
   ·obtain rfl : k = 0 := by omega
    have hmn : m = n := zyf (by simpa using HD.out)
    have HM := zH hmn
    clear hmn
    go_wp2
    go_ret
    exact ⟨by rw [cmpN_eq HM.out]; rfl, HB.out.trans ((zqa _ _).mono HB.out.size)⟩
theorem zff (l : List Nat) (k : Nat) : val (l.take (k + 1)) = val (l.take k) + pw k * l.getD k 0 := by
 by_cases h : k < l.length
 ·rw [zja l k h, zre l k h]
 ·rw [zhc l (k + 1) (by omega), zhc l k (by omega)]
  have : l.getD k 0 = 0 := by simp [List.getD, List.getElem?_eq_none (Nat.le_of_not_lt h)]
  rw [this, Nat.mul_zero, Nat.add_zero]
theorem zhj (o : List Nat) (z : Nat) : val (o ++ [z]) = val o + pw o.length * z := by rw [zzb]; simp [val]
theorem zkg {o a b : List Nat} {k bo x y z bo' : Nat} (ho : o.length = k) (ha : val (a.take (k + 1)) = val (a.take k) + pw k * x) (hb : val (b.take (k + 1)) = val (b.take k) + pw k * y)
 (hz : z + bo + y = x + 4294967296 * bo') (hv : val o + val (b.take k) = val (a.take k) + pw k * bo) :
 val (o ++ [z]) + val (b.take (k + 1)) = val (a.take (k + 1)) + pw (k + 1) * bo' := by
 rw [zhj, ha, hb, zjb, ho]
 grind
theorem minus_end {o a b : List Nat} {bo : Nat} (hb : val b ≤ val a) (ho : Lm o) (hol : o.length = a.length) (hbo : bo ≤ 1) (hv : val o + val b = val a + pw a.length * bo) : val o = val a - val b := by
 have h1 := zhe ho
 rw [hol] at h1
 rcases Nat.eq_zero_or_pos bo with h | h
 ·subst h; omega
 ·obtain rfl : bo = 1 := by omega
  omega
set_option maxHeartbeats 1000000 in
theorem minus_own (va vb : Value) (a b : List Nat) (w : World) (ha : zxb w va a) (hb : zxb w vb b) (hla : a.length ≤ 65536) (hlb : b.length ≤ a.length) (hba : val b ≤ val a) :
 Calls Tryz.prog 155 #[va, vb] w (RNatO w (val a - val b)) := by
 obtain ⟨i0, hi, hz0, hz1, hz2⟩ := info_parts Tryz.info102
 have hA1 := zbh (P := Tryz.prog) 36 142 i0 Tryz.underlying36 hi hz0 hz1 hz2
 clear hi hz0 hz1 hz2
 have HBA := zH hba
 clear hba
 have sa := ha.sl
 have sb := hb.sl
 have la := ha.len
 have lb := hb.len
 go_enter Tryz.func155, Tryz.ntmps155
 go_wp2_with fail
 go_loopw [5, 6, 7] (fun u5 u6 u7 wr => ∃ (k bo : Nat) (o : List Nat), k ≤ a.length ∧ u7 = .int .i64 k ∧ u6 = .int .u64 bo ∧ bo ≤ 1 ∧ zcc wr 142 w.heap.size u5 o ∧ o.length = k ∧
  val o + val (b.take k) = val (a.take k) + pw k * bo ∧ Below w.heap.size w wr) (fun _ _ u7 _ => a.length - (intOf u7).toNat)
 case atStart => exact ⟨0, 0, [], by omega, rfl, rfl, by omega, zcc.nil _ _ _, rfl, by simp [val], Below.refl _ _⟩
 case round =>
  obtain ⟨k, bo, o, hk, rfl, rfl, hc, hownr, hol, hval, hbr⟩ := hrel
  have HOL := zH hol
  have HV := zH hval
  have HO : Hid (o.length + 1 ≤ 4294967296) := zH (by omega)
  clear hol hval
  by_cases h1 : k < a.length
  ·have hx := (ha.below hbr).cell k h1
   have hx1 := ha.lt k h1
   have HX := zH (zja a k h1)
   generalize a[k] = x at *
   by_cases h2 : k < b.length
   ·have hy := (hb.below hbr).cell k h2
    have hy1 := hb.lt k h2
    have HY := zH (zja b k h2)
    generalize b[k] = y at *
    by_cases h3 : x < bo + y
    ·have HS := zH (zkg (z := x + 4294967296 - (bo + y)) (bo' := 1) HOL.out HX.out HY.out (by omega) HV.out)
     go_wp2_with (at_builtin; refine hA1 wr rfl _ _ rfl w.heap.size _ u5 o rfl (by exact hownr) _ (x + 4294967296 - (bo + y)) (by omega) (by omega) rfl (Nat.le_trans HO.out (by decide)) hbr.size ?_; intro v' w1 hown1 hbel1)
     go_roundw
     case rel => exact ⟨k + 1, 1, _, by omega, by go_num, by go_num, by omega, hown1, by simp [HOL.out], HS.out, hbr.trans (hbel1.mono (Nat.le_refl _))⟩
     case measure => simp [intOf]; omega
    ·have HS := zH (zkg (z := x - (bo + y)) (bo' := 0) HOL.out HX.out HY.out (by omega) HV.out)
     go_wp2_with (at_builtin; refine hA1 wr rfl _ _ rfl w.heap.size _ u5 o rfl (by exact hownr) _ (x - (bo + y)) (by omega) (by omega) rfl (Nat.le_trans HO.out (by decide)) hbr.size ?_; intro v' w1 hown1 hbel1)
     go_roundw
     case rel => exact ⟨k + 1, 0, _, by omega, by go_num, by go_num, by omega, hown1, by simp [HOL.out], HS.out, hbr.trans (hbel1.mono (Nat.le_refl _))⟩
     case measure => simp [intOf]; omega
   ·have HY : Hid (val (b.take (k + 1)) = val (b.take k) + pw k * 0) := zH (by rw [zhc b (k + 1) (by omega), zhc b k (by omega)]; simp)
    by_cases h3 : x < bo + 0
    ·have HS := zH (zkg (z := x + 4294967296 - (bo + 0)) (bo' := 1) HOL.out HX.out HY.out (by omega) HV.out)
     go_wp2_with (at_builtin; refine hA1 wr rfl _ _ rfl w.heap.size _ u5 o rfl (by exact hownr) _ (x + 4294967296 - (bo + 0)) (by omega) (by omega) rfl (Nat.le_trans HO.out (by decide)) hbr.size ?_; intro v' w1 hown1 hbel1)
     go_roundw
     case rel => exact ⟨k + 1, 1, _, by omega, by go_num, by go_num, by omega, hown1, by simp [HOL.out], HS.out, hbr.trans (hbel1.mono (Nat.le_refl _))⟩
     case measure => simp [intOf]; omega
    ·have HS := zH (zkg (z := x - (bo + 0)) (bo' := 0) HOL.out HX.out HY.out (by omega) HV.out)
     go_wp2_with (at_builtin; refine hA1 wr rfl _ _ rfl w.heap.size _ u5 o rfl (by exact hownr) _ (x - (bo + 0)) (by omega) (by omega) rfl (Nat.le_trans HO.out (by decide)) hbr.size ?_; intro v' w1 hown1 hbel1)
     go_roundw
     case rel => exact ⟨k + 1, 0, _, by omega, by go_num, by go_num, by omega, hown1, by simp [HOL.out], HS.out, hbr.trans (hbel1.mono (Nat.le_refl _))⟩
     case measure => simp [intOf]; omega
  ·obtain rfl : k = a.length := by omega
   have hv : val o = val a - val b := minus_end HBA.out hownr.lm HOL.out hc (by have := HV.out; rw [zhc a a.length (Nat.le_refl _), zhc b a.length (by omega)] at this; exact this)
   have HT := zxj _ _ wr (hownr.nat.natN (by have := HO.out; omega))
   rw [hv] at HT
   have HT2 := zH HT
   clear HT hv
   go_wp2_with (go_at_call 106; refine HT2.out.mono ?_; rintro e w1 ⟨r, rfl, hr, hr2, hb⟩)
   go_ret
   exact ⟨r, rfl, ⟨hr.own.mono hbr.size, hr.lm⟩, hr2, hbr.trans (hb.mono hbr.size)⟩
end Go.Proofs.YtlpdkbmmbdfoiaaGreat
