/-
  package fraction: Cmp.
-/
import Derived.Test.YtlpdkbmmbdfoiaaGreatCGn
namespace Go.Proofs.YtlpdkbmmbdfoiaaGreat
set_option linter.unusedVariables false
set_option linter.unusedSimpArgs false
open Go.RowKit

set_option maxRecDepth 100000 in
set_option maxHeartbeats 1600000 in
theorem cmp_frac (va vb : Value) (s t : Bool) (n d m e : Nat) (w : World) (ha : FracN w va s n d) (hb : FracN w vb t m e) (h1 : okN n d) (h2 : okN m e) :
    Calls Tryz.prog 130 #[va, vb] w fun en w' => en = .returned (.tuple #[.int .i64 (cmpR (fq s n d) (fq t m e)), .int .i64 0]) ∧ Below w.heap.size w w' := by
  have hA := ha
  have hB := hb
  obtain ⟨xn, xd, rfl, hxn, hxd⟩ := ha
  obtain ⟨yn, yd, rfl, hyn, hyd⟩ := hb
  obtain ⟨an, ln, kn, rfl, _⟩ := hxn.slen.1
  obtain ⟨ad, ld, kd, rfl, _⟩ := hxd.slen.1
  obtain ⟨am, lm, km, rfl, _⟩ := hyn.slen.1
  obtain ⟨ae, le, ke, rfl, _⟩ := hyd.slen.1
  have K1 := Lib.hid h1
  have K2 := Lib.hid h2
  have HR := Lib.hid (cmpR_eq s t n d m e h1.1 h2.1)
  clear h1 h2
  go_enter Tryz.func130, Tryz.ntmps130
  go_wp2_with fail
  obtain ⟨W, hW⟩ : ∃ W, W = ((w.alloc (.cells #[.bool s, .slice an ln kn, .slice ad ld kd] 38)).alloc (.cells #[.bool t, .slice am lm km, .slice ae le ke] 38)) := ⟨_, rfl⟩
  obtain ⟨bx, byy, hbw⟩ := two_boxes w 38 _ _ _ _ _ _ W hW
  rw [← hW]
  clear hW
  have HBX := Lib.hid bx
  have HBY := Lib.hid byy
  obtain ⟨_, q1, q2, q3, q4, q5, q6⟩ := bx
  obtain ⟨_, r1, r2, r3, r4, r5, r6⟩ := byy
  go_wp2_with (first
    | (go_at_call 79; first
       | ((with_reducible refine (valid_ok _ s n d _ (hA.below hbw) K1.out).mono ?_); rintro e9 w1 ⟨rfl, hv1⟩
          obtain ⟨_, f1, f2, f3, f4, f5, f6⟩ := HBY.out.belowS hv1
          have hbw1 := below_then hbw hv1)
       | ((with_reducible refine (valid_ok _ t m e _ (hB.below hbw1) K2.out).mono ?_); rintro e9 w2 ⟨rfl, hv2⟩
          have hbx2 := (HBX.out.belowS hv1).belowS hv2
          have hby2 := (HBY.out.belowS hv1).belowS hv2
          have hbw2 := below_then hbw1 hv2)))
  clear q1 q2 q3 q4 q5 q6 r1 r2 r3 r4 r5 r6 f1 f2 f3 f4 f5 f6
  have hd2 := below_drew (B := w2.heap.size) w2
  have hD := hbw2.trans (hd2.mono hbw2.size)
  have hbx3 := hbx2.belowS hd2
  have hby3 := hby2.belowS hd2
  clear hbx2 hby2 hbw2 hv1 hv2 hbw hbw1 HBX HBY hd2
  have HX3 := Lib.hid hbx3
  have HY3 := Lib.hid hby3
  obtain ⟨_, q1, q2, q3, q4, q5, q6⟩ := hbx3
  obtain ⟨_, r1, r2, r3, r4, r5, r6⟩ := hby3
  have g1 := hxn.below hD
  have g2 := hxd.below hD
  have g3 := hyn.below hD
  have g4 := hyd.below hD
  have l1 := Lib.hid (okN_nlen K1.out)
  have l2 := Lib.hid (okN_nlen K2.out)
  have T1 := Lib.hid (Nat.le_trans l1.out.1 (show 128 ≤ 256 by decide))
  have T2 := Lib.hid (Nat.le_trans l2.out.2 (show 128 ≤ 256 by decide))
  have T3 := Lib.hid (Nat.le_trans l2.out.1 (show 128 ≤ 256 by decide))
  have T4 := Lib.hid (Nat.le_trans l1.out.2 (show 128 ≤ 256 by decide))
  have tok1 : True := trivial
  go_region_held3 (fun w' => w'.cell? ⟨w.heap.size, 1, none⟩ = some (.slice an ln kn) ∧ w'.cell? ⟨w.heap.size, 2, none⟩ = some (.slice ad ld kd) ∧ w'.cell? ⟨w.heap.size + 1, 1, none⟩ = some (.slice am lm km) ∧ w'.cell? ⟨w.heap.size + 1, 2, none⟩ = some (.slice ae le ke)) (exact ⟨q2, q3, r2, r3⟩) (first
    | (go_at_call 157; have _t := tok1; clear tok1 _t; (with_reducible refine (times_any _ _ n e _ g1 g4 T1.out T2.out).mono ?_); rintro e9 w3 ⟨p1, rfl, hp1, hp2⟩
       have X4 := HX3.out.belowS hp2
       have Y4 := HY3.out.belowS hp2
       have HX4 := Lib.hid X4
       have HY4 := Lib.hid Y4
       obtain ⟨_, q1, q2, q3, q4, q5, q6⟩ := X4
       obtain ⟨_, r1, r2, r3, r4, r5, r6⟩ := Y4)
    | (go_at_call 157; (with_reducible refine (times_any _ _ m d _ (g3.below hp2) (g2.below hp2) T3.out T4.out).mono ?_); rintro e9 w4 ⟨p3, rfl, hp3, hp4⟩
       have hp24 := below_then hp2 hp4
       have hp14 := hp1.below hp4
       have X5 := HX4.out.belowS hp4
       have Y5 := HY4.out.belowS hp4
       have HX5 := Lib.hid X5
       have HY5 := Lib.hid Y5
       obtain ⟨_, q1, q2, q3, q4, q5, q6⟩ := X5
       obtain ⟨_, r1, r2, r3, r4, r5, r6⟩ := Y5)
    | (go_at_call 159; (with_reducible refine (cmp_any p1 p3 (n * e) (m * d) _ hp14.nat hp3.nat).mono ?_); rintro e9 w5 ⟨rfl, k9, rfl⟩
       have hp5 := below_drewN (B := w4.heap.size) w4 k9
       have hp26 := below_then hp24 hp5
       have X6 := HX5.out.belowS hp5
       have Y6 := HY5.out.belowS hp5
       have HX6 := Lib.hid X6
       have HY6 := Lib.hid Y6
       obtain ⟨_, q1, q2, q3, q4, q5, q6⟩ := X6
       obtain ⟨_, r1, r2, r3, r4, r5, r6⟩ := Y6))
  have hdw : Below w.heap.size w (w4.drewN k9) := hD.trans (hp26.mono hD.size)
  clear q1 q2 q3 q4 q5 q6 r1 r2 r3 r4 r5 r6 hp5 hp26 hp24 hp14 hp1 hp3 hp2 hp4 hD g1 g2 g3 g4 HX3 HY3 HX4 HY4 HX5 HY5 T1 T2 T3 T4
  generalize w4.drewN k9 = W4 at *
  have hcb : -1 ≤ cmpN (n * e) (m * d) ∧ cmpN (n * e) (m * d) ≤ 1 := by unfold cmpN; split <;> (try split) <;> omega
  obtain ⟨hcb1, hcb2⟩ := hcb
  generalize hcn : cmpN (n * e) (m * d) = c at *
  have HCN := Lib.hid hcn
  clear hcn
  have hd2 := below_drew (B := W4.heap.size) W4
  have hD := hdw.trans (hd2.mono hdw.size)
  have hbx3 := HX6.out.belowS hd2
  have hby3 := HY6.out.belowS hd2
  have HX7 := Lib.hid hbx3
  have HY7 := Lib.hid hby3
  clear HX6 HY6
  go_wp2_with fail
  obtain ⟨_, q1, q2, q3, q4, q5, q6⟩ := hbx3
  obtain ⟨_, r1, r2, r3, r4, r5, r6⟩ := hby3
  rcases s with _ | _ <;> rcases t with _ | _
  · go_region
    all_goals
      go_wp2
      all_goals
        go_ret2
        exact ⟨by rw [HR.out]; simp [*], hD⟩
  · go_region_law (refine step_callg 186 #[.agg #[.bool true, .slice am lm km, .slice ae le ke]] ?_ ?_ (zero_any _ true m e _ (hB.below hD)) ?_; go_simp; go_simp; rintro e9 w5 ⟨rfl, hz1⟩; refine ⟨_, rfl, ?_⟩; obtain ⟨_, q1, q2, q3, q4, q5, q6⟩ := HX7.out.belowS hz1; obtain ⟨_, r1, r2, r3, r4, r5, r6⟩ := HY7.out.belowS hz1)
    all_goals
      go_wp2
      all_goals
        go_ret2
        exact ⟨by rw [HR.out]; simp [*], hD.trans (hz1.mono hD.size)⟩
  · go_region_law (refine step_callg 186 #[.agg #[.bool true, .slice an ln kn, .slice ad ld kd]] ?_ ?_ (zero_any _ true n d _ (hA.below hD)) ?_; go_simp; go_simp; rintro e9 w5 ⟨rfl, hz1⟩; refine ⟨_, rfl, ?_⟩; obtain ⟨_, q1, q2, q3, q4, q5, q6⟩ := HX7.out.belowS hz1; obtain ⟨_, r1, r2, r3, r4, r5, r6⟩ := HY7.out.belowS hz1)
    all_goals
      go_wp2
      all_goals
        go_ret2
        exact ⟨by rw [HR.out]; simp [*], hD.trans (hz1.mono hD.size)⟩
  · go_region_held3 (fun w' => w'.cell? ⟨w.heap.size, 0, none⟩ = some (.bool true) ∧ w'.cell? ⟨w.heap.size, 1, none⟩ = some (.slice an ln kn) ∧ w'.cell? ⟨w.heap.size, 2, none⟩ = some (.slice ad ld kd) ∧ w'.cell? ⟨w.heap.size + 1, 0, none⟩ = some (.bool true) ∧ w'.cell? ⟨w.heap.size + 1, 1, none⟩ = some (.slice am lm km) ∧ w'.cell? ⟨w.heap.size + 1, 2, none⟩ = some (.slice ae le ke)) (exact ⟨q1, q2, q3, r1, r2, r3⟩) (first
    | (go_at_call 186; (with_reducible refine (zero_any _ true n d _ (hA.below hD)).mono ?_); rintro e9 w5 ⟨rfl, hz1⟩
       have X8 := HX7.out.belowS hz1
       have Y8 := HY7.out.belowS hz1
       have HX8 := Lib.hid X8
       have HY8 := Lib.hid Y8
       obtain ⟨_, q1, q2, q3, q4, q5, q6⟩ := X8
       obtain ⟨_, r1, r2, r3, r4, r5, r6⟩ := Y8)
    | (go_at_call 186; (with_reducible refine (zero_any _ true m e _ ((hB.below hD).below hz1)).mono ?_); rintro e9 w6 ⟨rfl, hz2⟩
       have X9 := HX8.out.belowS hz2
       have Y9 := HY8.out.belowS hz2
       obtain ⟨_, q1, q2, q3, q4, q5, q6⟩ := X9
       obtain ⟨_, r1, r2, r3, r4, r5, r6⟩ := Y9))
    all_goals
      go_wp2
      all_goals
        go_ret2
        exact ⟨by rw [HR.out]; simp [*], hD.trans ((below_then hz1 hz2).mono hD.size)⟩
end Go.Proofs.YtlpdkbmmbdfoiaaGreat
