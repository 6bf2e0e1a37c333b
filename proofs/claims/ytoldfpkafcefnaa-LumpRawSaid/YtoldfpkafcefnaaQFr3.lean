/-
  package fraction: Reduce, Cmp.
  Ahead of it: The order of fractions.
-/
import Derived.Test.YtoldfpkafcefnaaQFr2
import Derived.Test.YtoldfpkafcefnaaQMath6
namespace Go.Proofs.Ytoldfpkafcefnaa
set_option linter.unusedVariables false
theorem mkRat_neg_iff (a : Int) (b : Nat) (hb : b ≠ 0) : mkRat a b < 0 ↔ a < 0 := by
  have e : mkRat a b = fq (decide (a < 0)) a.natAbs b := by
    unfold fq sgn
    congr 1
    by_cases h : a < 0
    · rw [if_pos (decide_eq_true h)]; omega
    · rw [decide_eq_false h]; simp; omega
  have h := fq_neg (decide (a < 0)) a.natAbs b hb
  rw [e]
  by_cases h0 : a < 0
  · rw [decide_eq_true h0] at h ⊢
    have hg : 0 < a.natAbs / Nat.gcd a.natAbs b := Nat.div_pos (Nat.le_of_dvd (by omega) (Nat.gcd_dvd_left _ _)) (Nat.gcd_pos_of_pos_left _ (by omega))
    rw [decide_eq_true hg] at h
    simp only [Bool.and_self, decide_eq_true_eq] at h
    exact ⟨fun _ => h0, fun _ => h⟩
  · rw [decide_eq_false h0] at h ⊢
    simp only [Bool.false_and, decide_eq_false_iff_not] at h
    exact ⟨fun h' => absurd h' h, fun h' => absurd h' h0⟩
theorem fq_lt (s t : Bool) (n d m e : Nat) (hd : d ≠ 0) (he : e ≠ 0) : fq s n d < fq t m e ↔ sgn s (n * e) < sgn t (m * d) := by
  have h1 : fq s n d < fq t m e ↔ fq s n d - fq t m e < 0 := by
    rw [Rat.lt_iff_sub_pos, Rat.lt_iff_sub_pos (fq s n d - fq t m e)]
    have : (0 : Rat) - (fq s n d - fq t m e) = fq t m e - fq s n d := by grind
    rw [this]
  have h2 : -fq t m e = fq (!t) m e := by
    unfold fq
    rw [Rat.neg_mkRat]
    congr 1
    unfold sgn; cases t <;> simp
  rw [h1, Rat.sub_eq_add_neg, h2, fq_add _ _ _ _ _ _ hd he, mkRat_neg_iff _ _ (Nat.mul_ne_zero hd he)]
  have h3 : sgn (!t) (m * d) = - sgn t (m * d) := by unfold sgn; cases t <;> simp
  rw [h3]
  omega
/-- -1, 0 or 1. -/
def cmpR (p q : Rat) : Int := if p < q then -1 else if q < p then 1 else 0
theorem cmpR_eq (s t : Bool) (n d m e : Nat) (hd : d ≠ 0) (he : e ≠ 0) :
    cmpR (fq s n d) (fq t m e) = if s && !decide (n = 0) && (t && !decide (m = 0)) then -cmpN (n * e) (m * d) else if s && !decide (n = 0) then -1 else if t && !decide (m = 0) then 1 else cmpN (n * e) (m * d) := by
  have hA : n * e = 0 ↔ n = 0 := by rw [Nat.mul_eq_zero]; exact ⟨fun h => h.resolve_right he, Or.inl⟩
  have hB : m * d = 0 ↔ m = 0 := by rw [Nat.mul_eq_zero]; exact ⟨fun h => h.resolve_right hd, Or.inl⟩
  have h1 := fq_lt s t n d m e hd he
  have h2 := fq_lt t s m e n d he hd
  have e1 : cmpR (fq s n d) (fq t m e) = if sgn s (n * e) < sgn t (m * d) then -1 else if sgn t (m * d) < sgn s (n * e) then 1 else 0 := by
    unfold cmpR
    simp only [h1, h2]
  rw [e1]
  clear e1 h1 h2
  generalize n * e = A at *
  generalize m * d = B at *
  unfold cmpN sgn
  have c1 : decide (n = 0) = decide (A = 0) := by simp only [hA]
  have c2 : decide (m = 0) = decide (B = 0) := by simp only [hB]
  rw [c1, c2]
  clear c1 c2 hA hB
  by_cases hA : A = 0 <;> by_cases hB : B = 0 <;> cases s <;> cases t <;> simp [hA, hB] <;> (repeat' split) <;> omega
end Go.Proofs.Ytoldfpkafcefnaa
namespace Go.Proofs.Ytoldfpkafcefnaa
set_option linter.unusedVariables false
set_option linter.unusedSimpArgs false
open Go.RowKit

theorem fits_ok (s : Bool) {n d : Nat} (h : okN n d) : fits (fq s n d) := by
  rw [fits_fq s n d h.1]
  exact ⟨Nat.le_trans (nbits_mono (Nat.div_le_self _ _)) h.2.2, Nat.le_trans (nbits_mono (Nat.div_le_self _ _)) h.2.1⟩
/-- A reduced fraction, or the zero value and ErrArg. -/
def RRed (w0 : World) (s : Bool) (n d : Nat) (e : Ending) (w : World) : Prop :=
  ∃ v er, e = .returned (.tuple #[v, .int .i64 er]) ∧ Below w0.heap.size w0 w ∧ (okN n d → er = 0 ∧ FracC w v (fq s n d)) ∧ (¬ okN n d → er = 1 ∧ v = zeroF)
theorem valid_no (v : Value) (s : Bool) (n d : Nat) (w : World) (h : FracN w v s n d) (hk : ¬ okN n d) :
    Calls Try.prog 40 #[v] w fun e w' => e = .returned (.bool false) ∧ Below w.heap.size w w' :=
  (valid_any v s n d w h).mono fun e w' ⟨h1, h2⟩ => ⟨by rw [h1, decide_eq_false hk], h2⟩
theorem two_boxes (w : World) (t : TypeId) (x0 x1 x2 y0 y1 y2 : Value) (W : World)
    (hW : W = (w.alloc (.cells #[x0, x1, x2] t)).alloc (.cells #[y0, y1, y2] t)) :
    C3 W w.heap.size x0 x1 x2 ∧ C3 W (w.heap.size + 1) y0 y1 y2 ∧ Below w.heap.size w W := by
  subst hW
  have e1 : (w.alloc (.cells #[x0, x1, x2] t)).heap.size = w.heap.size + 1 := by show (w.heap.push _).size = _; simp
  refine ⟨(C3.new w t x0 x1 x2).allocS _, ?_, ?_⟩
  · rw [← e1]; exact C3.new _ t y0 y1 y2
  · exact (below_alloc w _).trans ((below_alloc _ _).mono (below_alloc w _).size)
set_option maxHeartbeats 1600000 in
theorem reduce_any (va : Value) (s : Bool) (n d : Nat) (w : World) (ha : FracN w va s n d) :
    Calls Try.prog 86 #[va] w (RRed w s n d) := by
  have hA := ha
  obtain ⟨xn, xd, rfl, hxn, hxd⟩ := ha
  obtain ⟨an, ln, kn, rfl, _⟩ := hxn.slen.1
  obtain ⟨ad, ld, kd, rfl, _⟩ := hxd.slen.1
  go_enter Try.func86, Try.ntmps86
  go_wp2_with fail
  obtain ⟨W, hW⟩ : ∃ W, W = ((w.alloc (.cells #[.bool s, .slice an ln kn, .slice ad ld kd] 50)).alloc (.cells #[.bool false, .slice none 0 0, .slice none 0 0] 50)) := ⟨_, rfl⟩
  obtain ⟨bx, bz, hbw⟩ := two_boxes w 50 _ _ _ _ _ _ W hW
  rw [← hW]
  clear hW
  have HBX := Lib.hid bx
  have HBZ := Lib.hid bz
  obtain ⟨_, q1, q2, q3, q4, q5, q6⟩ := bx
  clear bz
  by_cases hk : okN n d
  · have K := Lib.hid hk
    have NN := Lib.hid (Nat.le_trans (nbits_nlen (n := n) (k := 128) hk.2.2) (show 128 ≤ 512 by decide))
    have ND := Lib.hid (Nat.le_trans (nbits_nlen (n := d) (k := 128) hk.2.1) (show 128 ≤ 512 by decide))
    have FT := Lib.hid (fits_ok s hk)
    have D0 := Lib.hid hk.1
    clear hk
    go_wp2_with (first
      | (go_at_call 40; (with_reducible refine (valid_ok _ s n d _ (hA.below hbw) K.out).mono ?_); rintro e9 w1 ⟨rfl, hv1⟩
         obtain ⟨_, f1, f2, f3, f4, f5, f6⟩ := HBX.out.belowS hv1
         have hbw1 := below_then hbw hv1)
      | (go_at_call 55; (with_reducible refine (lowest_any s _ _ n d _ (hxn.below hbw1) (hxd.below hbw1) D0.out NN.out ND.out).mono ?_); rintro e9 w7 ⟨v, er7, rfl, hv5, hv2, hv3⟩
         have hv4 := hv2 FT.out
         obtain ⟨t9, x9, y9, rfl, ⟨a1, l91, k1, rfl, _⟩, ⟨a2, l92, k2, rfl, _⟩⟩ := rfrac_isF (w0 := w) hv2 hv3
         have hC := (HBZ.out.belowS hv1).belowS hv5
         have HC := Lib.hid hC
         have hbz := below_then hbw1 hv5
         obtain ⟨_, d0, d1, d2, e0, e1, e2⟩ := hC))
    refine bodyPost_c3 rfl rfl Try.aggF Try.sizeF (HC.out.set _ _ _) rfl ?_
    exact ⟨_, _, rfl, below_set3 hbz (by omega) _ _ _, fun h => ⟨rfl, hv4.2.set3 HC.out (fun z => by simp) (fun z => by simp) _ _ _⟩, fun h => absurd K.out h⟩
  · have K := Lib.hid hk
    clear hk
    go_wp2_with (first
      | (go_at_call 40; (with_reducible refine (valid_no _ s n d _ (hA.below hbw) K.out).mono ?_); rintro e9 w1 ⟨rfl, hv1⟩
         have hC := HBZ.out.belowS hv1
         have HC := Lib.hid hC
         have hbz := below_then hbw hv1
         obtain ⟨_, d0, d1, d2, e0, e1, e2⟩ := hC))
    refine bodyPost_c3 rfl rfl Try.aggF Try.sizeF (HC.out.set _ _ _) rfl ?_
    exact ⟨_, _, rfl, below_set3 hbz (by omega) _ _ _, fun h => absurd h K.out, fun _ => ⟨rfl, rfl⟩⟩

theorem step_callg {P : Program} {ops : Array Oper} {o : Oper} {a : Act} {w : World} {K : Act → World → Prop} {Q : Exit → Act → World → Prop} {E : Prop} (f : FuncId) (argv : Array Value) (hg : Region.wanted o (yielded ops a.tmps) = true)
    (hrun : (execOp a.eval o).run P w = .ok (.enter f argv) w) {R : Ending → World → Prop} (hc : Calls P f argv w R) (h : ∀ e w', R e w' → ∃ v, e = .returned v ∧ K (a.put o.dst v) w') :
    if Region.wanted o (yielded ops a.tmps) = true then Oper.wp P o a w K Q else E := by
  rw [if_pos hg]
  unfold Oper.wp
  rw [hrun, Oper.upon_enter]
  refine hc.mono fun e w' hr => ?_
  obtain ⟨v, rfl, hk⟩ := h e w' hr
  exact hk
set_option maxRecDepth 100000 in
set_option maxHeartbeats 1600000 in
theorem cmp_frac (va vb : Value) (s t : Bool) (n d m e : Nat) (w : World) (ha : FracN w va s n d) (hb : FracN w vb t m e) (h1 : okN n d) (h2 : okN m e) :
    Calls Try.prog 61 #[va, vb] w fun en w' => en = .returned (.tuple #[.int .i64 (cmpR (fq s n d) (fq t m e)), .int .i64 0]) ∧ Below w.heap.size w w' := by
  have hA := ha
  have hB := hb
  obtain ⟨xn, xd, rfl, hxn, hxd⟩ := ha
  obtain ⟨yn, yd, rfl, hyn, hyd⟩ := hb
  obtain ⟨an, ln, kn, rfl, _⟩ := hxn.slen.1
  obtain ⟨ad, ld, kd, rfl, _⟩ := hxd.slen.1
  obtain ⟨am, lm, km, rfl, _⟩ := hyn.slen.1
  obtain ⟨ae, le, ke, rfl, _⟩ := hyd.slen.1
  have K1 := Lib.hid h1
  have K2 := Lib.hid h2
  have HR := Lib.hid (cmpR_eq s t n d m e h1.1 h2.1)
  clear h1 h2
  go_enter Try.func61, Try.ntmps61
  go_wp2_with fail
  obtain ⟨W, hW⟩ : ∃ W, W = ((w.alloc (.cells #[.bool s, .slice an ln kn, .slice ad ld kd] 50)).alloc (.cells #[.bool t, .slice am lm km, .slice ae le ke] 50)) := ⟨_, rfl⟩
  obtain ⟨bx, byy, hbw⟩ := two_boxes w 50 _ _ _ _ _ _ W hW
  rw [← hW]
  clear hW
  have HBX := Lib.hid bx
  have HBY := Lib.hid byy
  obtain ⟨_, q1, q2, q3, q4, q5, q6⟩ := bx
  obtain ⟨_, r1, r2, r3, r4, r5, r6⟩ := byy
  go_wp2_with (first
    | (go_at_call 40; first
       | ((with_reducible refine (valid_ok _ s n d _ (hA.below hbw) K1.out).mono ?_); rintro e9 w1 ⟨rfl, hv1⟩
          obtain ⟨_, f1, f2, f3, f4, f5, f6⟩ := HBY.out.belowS hv1
          have hbw1 := below_then hbw hv1)
       | ((with_reducible refine (valid_ok _ t m e _ (hB.below hbw1) K2.out).mono ?_); rintro e9 w2 ⟨rfl, hv2⟩
          have hbx2 := (HBX.out.belowS hv1).belowS hv2
          have hby2 := (HBY.out.belowS hv1).belowS hv2
          have hbw2 := below_then hbw1 hv2)))
  clear q1 q2 q3 q4 q5 q6 r1 r2 r3 r4 r5 r6 f1 f2 f3 f4 f5 f6
  have hd2 := below_drew (B := w2.heap.size) w2
  have hD := hbw2.trans (hd2.mono hbw2.size)
  have hbx3 := hbx2.belowS hd2
  have hby3 := hby2.belowS hd2
  clear hbx2 hby2 hbw2 hv1 hv2 hbw hbw1 HBX HBY hd2
  have HX3 := Lib.hid hbx3
  have HY3 := Lib.hid hby3
  obtain ⟨_, q1, q2, q3, q4, q5, q6⟩ := hbx3
  obtain ⟨_, r1, r2, r3, r4, r5, r6⟩ := hby3
  have g1 := hxn.below hD
  have g2 := hxd.below hD
  have g3 := hyn.below hD
  have g4 := hyd.below hD
  have l1 := Lib.hid (okN_nlen K1.out)
  have l2 := Lib.hid (okN_nlen K2.out)
  have T1 := Lib.hid (Nat.le_trans l1.out.1 (show 128 ≤ 256 by decide))
  have T2 := Lib.hid (Nat.le_trans l2.out.2 (show 128 ≤ 256 by decide))
  have T3 := Lib.hid (Nat.le_trans l2.out.1 (show 128 ≤ 256 by decide))
  have T4 := Lib.hid (Nat.le_trans l1.out.2 (show 128 ≤ 256 by decide))
  have tok1 : True := trivial
  go_region_held3 (fun w' => w'.cell? ⟨w.heap.size, 1, none⟩ = some (.slice an ln kn) ∧ w'.cell? ⟨w.heap.size, 2, none⟩ = some (.slice ad ld kd) ∧ w'.cell? ⟨w.heap.size + 1, 1, none⟩ = some (.slice am lm km) ∧ w'.cell? ⟨w.heap.size + 1, 2, none⟩ = some (.slice ae le ke)) (exact ⟨q2, q3, r2, r3⟩) (first
    | (go_at_call 66; have _t := tok1; clear tok1 _t; (with_reducible refine (times_any _ _ n e _ g1 g4 T1.out T2.out).mono ?_); rintro e9 w3 ⟨p1, rfl, hp1, hp2⟩
       have X4 := HX3.out.belowS hp2
       have Y4 := HY3.out.belowS hp2
       have HX4 := Lib.hid X4
       have HY4 := Lib.hid Y4
       obtain ⟨_, q1, q2, q3, q4, q5, q6⟩ := X4
       obtain ⟨_, r1, r2, r3, r4, r5, r6⟩ := Y4)
    | (go_at_call 66; (with_reducible refine (times_any _ _ m d _ (g3.below hp2) (g2.below hp2) T3.out T4.out).mono ?_); rintro e9 w4 ⟨p3, rfl, hp3, hp4⟩
       have hp24 := below_then hp2 hp4
       have hp14 := hp1.below hp4
       have X5 := HX4.out.belowS hp4
       have Y5 := HY4.out.belowS hp4
       have HX5 := Lib.hid X5
       have HY5 := Lib.hid Y5
       obtain ⟨_, q1, q2, q3, q4, q5, q6⟩ := X5
       obtain ⟨_, r1, r2, r3, r4, r5, r6⟩ := Y5)
    | (go_at_call 68; (with_reducible refine (cmp_any p1 p3 (n * e) (m * d) _ hp14.nat hp3.nat).mono ?_); rintro e9 w5 ⟨rfl, k9, rfl⟩
       have hp5 := below_drewN (B := w4.heap.size) w4 k9
       have hp26 := below_then hp24 hp5
       have X6 := HX5.out.belowS hp5
       have Y6 := HY5.out.belowS hp5
       have HX6 := Lib.hid X6
       have HY6 := Lib.hid Y6
       obtain ⟨_, q1, q2, q3, q4, q5, q6⟩ := X6
       obtain ⟨_, r1, r2, r3, r4, r5, r6⟩ := Y6))
  have hdw : Below w.heap.size w (w4.drewN k9) := hD.trans (hp26.mono hD.size)
  clear q1 q2 q3 q4 q5 q6 r1 r2 r3 r4 r5 r6 hp5 hp26 hp24 hp14 hp1 hp3 hp2 hp4 hD g1 g2 g3 g4 HX3 HY3 HX4 HY4 HX5 HY5 T1 T2 T3 T4
  generalize w4.drewN k9 = W4 at *
  have hcb : -1 ≤ cmpN (n * e) (m * d) ∧ cmpN (n * e) (m * d) ≤ 1 := by unfold cmpN; split <;> (try split) <;> omega
  obtain ⟨hcb1, hcb2⟩ := hcb
  generalize hcn : cmpN (n * e) (m * d) = c at *
  have HCN := Lib.hid hcn
  clear hcn
  have hd2 := below_drew (B := W4.heap.size) W4
  have hD := hdw.trans (hd2.mono hdw.size)
  have hbx3 := HX6.out.belowS hd2
  have hby3 := HY6.out.belowS hd2
  have HX7 := Lib.hid hbx3
  have HY7 := Lib.hid hby3
  clear HX6 HY6
  go_wp2_with fail
  obtain ⟨_, q1, q2, q3, q4, q5, q6⟩ := hbx3
  obtain ⟨_, r1, r2, r3, r4, r5, r6⟩ := hby3
  rcases s with _ | _ <;> rcases t with _ | _
  · go_region
    all_goals
      go_wp2
      all_goals
        go_ret2
        exact ⟨by rw [HR.out]; simp [*], hD⟩
  · go_region_law (refine step_callg 87 #[.agg #[.bool true, .slice am lm km, .slice ae le ke]] ?_ ?_ (zero_any _ true m e _ (hB.below hD)) ?_; go_simp; go_simp; rintro e9 w5 ⟨rfl, hz1⟩; refine ⟨_, rfl, ?_⟩; obtain ⟨_, q1, q2, q3, q4, q5, q6⟩ := HX7.out.belowS hz1; obtain ⟨_, r1, r2, r3, r4, r5, r6⟩ := HY7.out.belowS hz1)
    all_goals
      go_wp2
      all_goals
        go_ret2
        exact ⟨by rw [HR.out]; simp [*], hD.trans (hz1.mono hD.size)⟩
  · go_region_law (refine step_callg 87 #[.agg #[.bool true, .slice an ln kn, .slice ad ld kd]] ?_ ?_ (zero_any _ true n d _ (hA.below hD)) ?_; go_simp; go_simp; rintro e9 w5 ⟨rfl, hz1⟩; refine ⟨_, rfl, ?_⟩; obtain ⟨_, q1, q2, q3, q4, q5, q6⟩ := HX7.out.belowS hz1; obtain ⟨_, r1, r2, r3, r4, r5, r6⟩ := HY7.out.belowS hz1)
    all_goals
      go_wp2
      all_goals
        go_ret2
        exact ⟨by rw [HR.out]; simp [*], hD.trans (hz1.mono hD.size)⟩
  · go_region_held3 (fun w' => w'.cell? ⟨w.heap.size, 0, none⟩ = some (.bool true) ∧ w'.cell? ⟨w.heap.size, 1, none⟩ = some (.slice an ln kn) ∧ w'.cell? ⟨w.heap.size, 2, none⟩ = some (.slice ad ld kd) ∧ w'.cell? ⟨w.heap.size + 1, 0, none⟩ = some (.bool true) ∧ w'.cell? ⟨w.heap.size + 1, 1, none⟩ = some (.slice am lm km) ∧ w'.cell? ⟨w.heap.size + 1, 2, none⟩ = some (.slice ae le ke)) (exact ⟨q1, q2, q3, r1, r2, r3⟩) (first
    | (go_at_call 87; (with_reducible refine (zero_any _ true n d _ (hA.below hD)).mono ?_); rintro e9 w5 ⟨rfl, hz1⟩
       have X8 := HX7.out.belowS hz1
       have Y8 := HY7.out.belowS hz1
       have HX8 := Lib.hid X8
       have HY8 := Lib.hid Y8
       obtain ⟨_, q1, q2, q3, q4, q5, q6⟩ := X8
       obtain ⟨_, r1, r2, r3, r4, r5, r6⟩ := Y8)
    | (go_at_call 87; (with_reducible refine (zero_any _ true m e _ ((hB.below hD).below hz1)).mono ?_); rintro e9 w6 ⟨rfl, hz2⟩
       have X9 := HX8.out.belowS hz2
       have Y9 := HY8.out.belowS hz2
       obtain ⟨_, q1, q2, q3, q4, q5, q6⟩ := X9
       obtain ⟨_, r1, r2, r3, r4, r5, r6⟩ := Y9))
    all_goals
      go_wp2
      all_goals
        go_ret2
        exact ⟨by rw [HR.out]; simp [*], hD.trans ((below_then hz1 hz2).mono hD.size)⟩
end Go.Proofs.Ytoldfpkafcefnaa
