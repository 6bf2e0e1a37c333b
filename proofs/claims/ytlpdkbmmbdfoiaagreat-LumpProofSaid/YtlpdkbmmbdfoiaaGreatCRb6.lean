/-
  package drydockref02: Order, Same, Sign of any fractions.
  Ahead of it: package drydockref02: Valid, Large, fits, Reduce, Order, Same, Less, Sign, Cmp of any fractions. package drydockref02: fits, Reduce, Add of any fractions.
-/
import Derived.Test.YtlpdkbmmbdfoiaaGreatCRb3
namespace Go.Proofs.YtlpdkbmmbdfoiaaGreat
set_option linter.unusedVariables false
set_option linter.unusedSimpArgs false
open Go.RowKit

theorem nlen_pos_iff {d : Nat} : 0 < nlen d ↔ d ≠ 0 := by
  constructor
  · intro h e; subst e; have := nlen_eq_zero.2 (rfl : (0 : Nat) = 0); omega
  · intro h; have : nlen d ≠ 0 := fun e => h (nlen_eq_zero.1 e); omega
theorem okN_iff (n d : Nat) : okN n d ↔ 0 < nlen d ∧ nlen d ≤ 128 ∧ nlen n ≤ 128 := by
  constructor
  · intro h; exact ⟨nlen_pos_iff.2 h.1, nbits_nlen (k := 128) h.2.1, nbits_nlen (k := 128) h.2.2⟩
  · intro h; exact ⟨nlen_pos_iff.1 h.1, nlen_nbits (k := 128) h.2.1, nlen_nbits (k := 128) h.2.2⟩
set_option maxHeartbeats 800000 in
theorem r2valid_any (v : Value) (s : Bool) (n d : Nat) (w : World) (h : FracN w v s n d) :
    Calls Tryz.prog 49 #[v] w fun e w' => e = .returned (.bool (decide (okN n d))) ∧ Below w.heap.size w w' := by
  obtain ⟨a, b, rfl, ha, hb⟩ := h
  obtain ⟨aa, al, ak, rfl, _⟩ := id ha.slen.1
  obtain ⟨ba, bl, bk, rfl, _⟩ := id hb.slen.1
  have hbx := below_alloc w (.cells #[.bool s, .slice aa al ak, .slice ba bl bk] 38)
  have hC := C3.new w 38 (.bool s) (.slice aa al ak) (.slice ba bl bk)
  have HC := Lib.hid hC
  have HA := Lib.hid (ha.below hbx)
  have HB := Lib.hid (hb.below hbx)
  have HO := Lib.hid (okN_iff n d)
  obtain ⟨D, hD⟩ : ∃ D, nlen d = D := ⟨_, rfl⟩
  obtain ⟨M, hM⟩ : ∃ M, nlen n = M := ⟨_, rfl⟩
  have HD := Lib.hid hD
  have HM := Lib.hid hM
  obtain ⟨_, c0, c1, c2, _, _, _⟩ := id hC
  clear hC ha hb hD hM
  have HOB : Hid (decide (okN n d) = (decide (0 < D) && (decide (D ≤ 128) && decide (M ≤ 128)))) := Lib.hid (by
    rw [Bool.eq_iff_iff]
    simp only [Bool.and_eq_true, decide_eq_true_eq]
    rw [HO.out, HD.out, HM.out])
  by_cases g1 : 0 < D
  · by_cases g2 : D ≤ 128
    · skip
      go_enter Tryz.func49, Tryz.ntmps49
      go_wp2_with (first
        | (go_at_call 106; (with_reducible refine (rtrim_any _ d _ HB.out).mono ?_); rintro e1 w1 ⟨r1, rfl, hr1, hb1⟩
           have s1 := hr1.v.sl
           have l1 : slen r1 = D := hr1.v.len.trans HD.out
           have hbb := below_then hbx hb1
           obtain ⟨_, c0, c1, c2, _, _, _⟩ := HC.out.belowS hb1)
        | (go_at_call 106; (with_reducible refine (rtrim_any _ d _ (HB.out.below hb1)).mono ?_); rintro e2 w2 ⟨r2, rfl, hr2, hb2⟩
           have s2 := hr2.v.sl
           have l2 : slen r2 = D := hr2.v.len.trans HD.out
           have hb12 := below_then hb1 hb2
           have hbb := below_then hbx hb12
           obtain ⟨_, c0, c1, c2, _, _, _⟩ := HC.out.belowS hb12)
        | (go_at_call 106; (with_reducible refine (rtrim_any _ n _ (HA.out.below hb12)).mono ?_); rintro e3 w3 ⟨r3, rfl, hr3, hb3⟩
           have s3 := hr3.v.sl
           have l3 : slen r3 = M := hr3.v.len.trans HM.out
           have hbb := below_then hbb hb3))
      go_ret
      refine ⟨?_, hbb⟩
      rw [HOB.out]
      simp [g1, g2]
      omega
    · skip
      go_enter Tryz.func49, Tryz.ntmps49
      go_wp2_with (first
        | (go_at_call 106; (with_reducible refine (rtrim_any _ d _ HB.out).mono ?_); rintro e1 w1 ⟨r1, rfl, hr1, hb1⟩
           have s1 := hr1.v.sl
           have l1 : slen r1 = D := hr1.v.len.trans HD.out
           have hbb := below_then hbx hb1
           obtain ⟨_, c0, c1, c2, _, _, _⟩ := HC.out.belowS hb1)
        | (go_at_call 106; (with_reducible refine (rtrim_any _ d _ (HB.out.below hb1)).mono ?_); rintro e2 w2 ⟨r2, rfl, hr2, hb2⟩
           have s2 := hr2.v.sl
           have l2 : slen r2 = D := hr2.v.len.trans HD.out
           have hb12 := below_then hb1 hb2
           have hbb := below_then hbx hb12
           obtain ⟨_, c0, c1, c2, _, _, _⟩ := HC.out.belowS hb12)
        | (go_at_call 106; (with_reducible refine (rtrim_any _ n _ (HA.out.below hb12)).mono ?_); rintro e3 w3 ⟨r3, rfl, hr3, hb3⟩
           have s3 := hr3.v.sl
           have l3 : slen r3 = M := hr3.v.len.trans HM.out
           have hbb := below_then hbb hb3))
      go_ret
      refine ⟨?_, hbb⟩
      rw [HOB.out]
      simp [g1, g2]
  · skip
    go_enter Tryz.func49, Tryz.ntmps49
    go_wp2_with (first
      | (go_at_call 106; (with_reducible refine (rtrim_any _ d _ HB.out).mono ?_); rintro e1 w1 ⟨r1, rfl, hr1, hb1⟩
         have s1 := hr1.v.sl
         have l1 : slen r1 = D := hr1.v.len.trans HD.out
         have hbb := below_then hbx hb1
         obtain ⟨_, c0, c1, c2, _, _, _⟩ := HC.out.belowS hb1)
      | (go_at_call 106; (with_reducible refine (rtrim_any _ d _ (HB.out.below hb1)).mono ?_); rintro e2 w2 ⟨r2, rfl, hr2, hb2⟩
         have s2 := hr2.v.sl
         have l2 : slen r2 = D := hr2.v.len.trans HD.out
         have hb12 := below_then hb1 hb2
         have hbb := below_then hbx hb12
         obtain ⟨_, c0, c1, c2, _, _, _⟩ := HC.out.belowS hb12)
      | (go_at_call 106; (with_reducible refine (rtrim_any _ n _ (HA.out.below hb12)).mono ?_); rintro e3 w3 ⟨r3, rfl, hr3, hb3⟩
         have s3 := hr3.v.sl
         have l3 : slen r3 = M := hr3.v.len.trans HM.out
         have hbb := below_then hbb hb3))
    go_ret
    refine ⟨?_, hbb⟩
    rw [HOB.out]
    simp [g1]
theorem r2valid_ok (v : Value) (s : Bool) (n d : Nat) (w : World) (h : FracN w v s n d) (hk : okN n d) :
    Calls Tryz.prog 49 #[v] w fun e w' => e = .returned (.bool true) ∧ Below w.heap.size w w' :=
  (r2valid_any v s n d w h).mono fun e w' ⟨h1, h2⟩ => ⟨by rw [h1, decide_eq_true hk], h2⟩
theorem r2valid_no (v : Value) (s : Bool) (n d : Nat) (w : World) (h : FracN w v s n d) (hk : ¬ okN n d) :
    Calls Tryz.prog 49 #[v] w fun e w' => e = .returned (.bool false) ∧ Below w.heap.size w w' :=
  (r2valid_any v s n d w h).mono fun e w' ⟨h1, h2⟩ => ⟨by rw [h1, decide_eq_false hk], h2⟩
end Go.Proofs.YtlpdkbmmbdfoiaaGreat
namespace Go.Proofs.YtlpdkbmmbdfoiaaGreat
set_option linter.unusedVariables false
set_option linter.unusedSimpArgs false
open Go.RowKit

theorem fits_nlen (q : Rat) : fits q ↔ nlen q.num.natAbs ≤ 128 ∧ nlen q.den ≤ 128 :=
  ⟨fun h => ⟨nbits_nlen (k := 128) h.1, nbits_nlen (k := 128) h.2⟩, fun h => ⟨nlen_nbits (k := 128) h.1, nlen_nbits (k := 128) h.2⟩⟩
set_option maxHeartbeats 800000 in
theorem r2large_any (v : Value) (q : Rat) (w : World) (h : FracC w v q) (b : Bool) (hf : b = true ↔ ¬ fits q) :
    Calls Tryz.prog 154 #[v] w fun e w' => e = .returned (.bool b) ∧ Below w.heap.size w w' := by
  obtain ⟨a, c, rfl, ha, hc⟩ := h
  have hn := fits_nlen q
  obtain ⟨aa, al, ak, rfl, _⟩ := id ha.v.sl
  obtain ⟨ba, bl, bk, rfl, _⟩ := id hc.v.sl
  have e1 : al = nlen q.num.natAbs := ha.v.len
  have e2 : bl = nlen q.den := hc.v.len
  rw [← e1, ← e2] at hn
  have HF : Hid (b = decide (128 < al ∨ 128 < bl)) := Lib.hid (by
    by_cases h9 : 128 < al ∨ 128 < bl
    · rw [decide_eq_true h9]; exact hf.2 (fun h => by have := hn.1 h; omega)
    · rw [decide_eq_false h9]; exact Bool.eq_false_iff.2 (fun h => hf.1 h (hn.2 (by omega))))
  have hbx := below_alloc w (.cells #[.bool (decide (q < 0)), .slice aa al ak, .slice ba bl bk] 38)
  have hC := C3.new w 38 (.bool (decide (q < 0))) (.slice aa al ak) (.slice ba bl bk)
  obtain ⟨_, c0, c1, c2, _, _, _⟩ := id hC
  clear hC hf hn e1 e2
  by_cases g1 : 128 < al
  · go_enter Tryz.func154, Tryz.ntmps154
    go_wp2_with fail
    go_ret
    refine ⟨?_, hbx⟩
    rw [HF.out]
    simp [g1]
  · go_enter Tryz.func154, Tryz.ntmps154
    go_wp2_with fail
    go_ret
    refine ⟨?_, hbx⟩
    rw [HF.out]
    simp [g1]
    rw [decide_eq_false (by omega), Bool.false_or]
    by_cases g2 : 128 < bl
    · rw [decide_eq_true g2, decide_eq_true (by omega)]
    · rw [decide_eq_false g2, decide_eq_false (by omega)]
/-- fits. -/
theorem r2fits_yes (v : Value) (q : Rat) (w : World) (h : FracC w v q) (hf : fits q) : Calls Tryz.prog 76 #[v] w (RFrac w q) :=
  (r2fits_can v q w h hf).mono fun e w' ⟨v', he, hv, hb⟩ => ⟨v', 0, he, hb, fun _ => ⟨rfl, hv⟩, fun h => absurd hf h⟩
set_option maxHeartbeats 800000 in
theorem r2fits_no (v : Value) (q : Rat) (w : World) (h : FracC w v q) (hf : ¬ fits q) : Calls Tryz.prog 76 #[v] w (RFrac w q) := by
  obtain ⟨a, b, rfl, ha, hb⟩ := id h
  obtain ⟨aa, al, ak, rfl, _⟩ := id ha.v.sl
  obtain ⟨ba, bl, bk, rfl, _⟩ := id hb.v.sl
  have hbx := below_alloc w (.cells #[.bool (decide (q < 0)), .slice aa al ak, .slice ba bl bk] 38)
  have hb2 := below_alloc (w.alloc (.cells #[.bool (decide (q < 0)), .slice aa al ak, .slice ba bl bk] 38)) (.cells #[.bool false, .slice none 0 0, .slice none 0 0] 38)
  have hC := (C3.new w 38 (.bool (decide (q < 0))) (.slice aa al ak) (.slice ba bl bk)).belowS hb2
  have hR := C3.newB (b := w.heap.size + 1) (w.alloc (.cells #[.bool (decide (q < 0)), .slice aa al ak, .slice ba bl bk] 38)) 38 (.bool false) (.slice none 0 0) (.slice none 0 0) (by simp)
  have HC := Lib.hid hC
  have HR := Lib.hid hR
  have HF := Lib.hid hf
  have HQ := Lib.hid ((h.below hbx).below hb2)
  have hbb := below_then hbx hb2
  obtain ⟨_, c0, c1, c2, _, _, _⟩ := id hC
  clear hC hR hf h ha hb
  go_enter Tryz.func76, Tryz.ntmps76
  go_wp2_with (go_at_call 154; (with_reducible refine (r2large_any _ q _ HQ.out true ⟨fun _ => HF.out, fun _ => rfl⟩).mono ?_); rintro e1 w1 ⟨rfl, hb1⟩
               obtain ⟨_, c0, c1, c2, _, _, _⟩ := HC.out.belowS hb1
               have HR1 := Lib.hid (HR.out.belowS hb1)
               obtain ⟨_, d0, d1, d2, d3, d4, d5⟩ := HR1.out)
  refine bodyPost_c3 rfl rfl Tryz.aggF Tryz.sizeF (HR1.out.set _ _ _) rfl ?_
  exact ⟨_, _, rfl, below_set3 (below_then hbb hb1) (Nat.le_succ _) _ _ _, fun h => absurd h HF.out, fun _ => ⟨rfl, rfl⟩⟩
theorem r2fits_any (v : Value) (q : Rat) (w : World) (h : FracC w v q) : Calls Tryz.prog 76 #[v] w (RFrac w q) := by
  by_cases hf : fits q
  · exact r2fits_yes v q w h hf
  · exact r2fits_no v q w h hf
set_option maxHeartbeats 1600000 in
theorem r2reduce_any (va : Value) (s : Bool) (n d : Nat) (w : World) (ha : FracN w va s n d) :
    Calls Tryz.prog 116 #[va] w (RRed w s n d) := by
  have hA := ha
  obtain ⟨xn, xd, rfl, hxn, hxd⟩ := ha
  obtain ⟨an, ln, kn, rfl, _⟩ := hxn.slen.1
  obtain ⟨ad, ld, kd, rfl, _⟩ := hxd.slen.1
  go_enter Tryz.func116, Tryz.ntmps116
  go_wp2_with fail
  obtain ⟨W, hW⟩ : ∃ W, W = ((w.alloc (.cells #[.bool s, .slice an ln kn, .slice ad ld kd] 38)).alloc (.cells #[.bool false, .slice none 0 0, .slice none 0 0] 38)) := ⟨_, rfl⟩
  obtain ⟨bx, bz, hbw⟩ := two_boxes w 38 _ _ _ _ _ _ W hW
  rw [← hW]
  clear hW
  have HBX := Lib.hid bx
  have HBZ := Lib.hid bz
  obtain ⟨_, q1, q2, q3, q4, q5, q6⟩ := bx
  clear bz
  by_cases hk : okN n d
  · have K := Lib.hid hk
    have NN := Lib.hid (Nat.le_trans (nbits_nlen (n := n) (k := 128) hk.2.2) (show 128 ≤ 512 by decide))
    have ND := Lib.hid (Nat.le_trans (nbits_nlen (n := d) (k := 128) hk.2.1) (show 128 ≤ 512 by decide))
    have D0 := Lib.hid hk.1
    clear hk
    go_wp2_with (first
      | (go_at_call 49; (with_reducible refine (r2valid_ok _ s n d _ (hA.below hbw) K.out).mono ?_); rintro e9 w1 ⟨rfl, hv1⟩
         obtain ⟨_, f1, f2, f3, f4, f5, f6⟩ := HBX.out.belowS hv1
         have hbw1 := below_then hbw hv1)
      | (go_at_call 71; (with_reducible refine (r2lowest_any s _ _ n d _ (hxn.below hbw1) (hxd.below hbw1) D0.out NN.out ND.out).mono ?_); rintro e9 w7 ⟨v, rfl, hv4, hv5⟩
         obtain ⟨t9, x9, y9, rfl, ⟨a1, l91, k1, rfl, _⟩, ⟨a2, l92, k2, rfl, _⟩⟩ := hv4.isF
         have hC := (HBZ.out.belowS hv1).belowS hv5
         have HC := Lib.hid hC
         have hbz := below_then hbw1 hv5
         obtain ⟨_, d0, d1, d2, e0, e1, e2⟩ := hC))
    refine bodyPost_c3 rfl rfl Tryz.aggF Tryz.sizeF (HC.out.set _ _ _) rfl ?_
    exact ⟨_, _, rfl, below_set3 hbz (by omega) _ _ _, fun h => ⟨rfl, hv4.set3 HC.out (fun z => by simp) (fun z => by simp) _ _ _⟩, fun h => absurd K.out h⟩
  · have K := Lib.hid hk
    clear hk
    go_wp2_with (first
      | (go_at_call 49; (with_reducible refine (r2valid_no _ s n d _ (hA.below hbw) K.out).mono ?_); rintro e9 w1 ⟨rfl, hv1⟩
         have hC := HBZ.out.belowS hv1
         have HC := Lib.hid hC
         have hbz := below_then hbw hv1
         obtain ⟨_, d0, d1, d2, e0, e1, e2⟩ := hC))
    refine bodyPost_c3 rfl rfl Tryz.aggF Tryz.sizeF (HC.out.set _ _ _) rfl ?_
    exact ⟨_, _, rfl, below_set3 hbz (by omega) _ _ _, fun h => absurd h K.out, fun _ => ⟨rfl, rfl⟩⟩

theorem rcmp_ge0 (va vb : Value) (m n : Nat) (w : World) (ha : NatN w va m) (hb : NatN w vb n) (h : n ≤ m) :
    Calls Tryz.prog 77 #[va, vb] w fun e w' => (∃ c : Int, e = .returned (.int .i64 c) ∧ decide (0 ≤ c) = true) ∧ Below w.heap.size w w' :=
  (rcmp_any va vb m n w ha hb).mono fun _ _ ⟨a, b⟩ => ⟨⟨_, a, by unfold cmpN; rw [if_neg (by omega)]; split <;> rfl⟩, b⟩
theorem rcmp_lt0 (va vb : Value) (m n : Nat) (w : World) (ha : NatN w va m) (hb : NatN w vb n) (h : m < n) :
    Calls Tryz.prog 77 #[va, vb] w fun e w' => (∃ c : Int, e = .returned (.int .i64 c) ∧ decide (0 ≤ c) = false) ∧ Below w.heap.size w w' :=
  (rcmp_any va vb m n w ha hb).mono fun _ _ ⟨a, b⟩ => ⟨⟨_, a, by rw [cmpN_lt h]; rfl⟩, b⟩
set_option maxRecDepth 100000 in
set_option maxHeartbeats 1600000 in
theorem r2add_any (va vb : Value) (s t : Bool) (n d m e : Nat) (w : World) (ha : FracN w va s n d) (hb : FracN w vb t m e) (h1 : okN n d) (h2 : okN m e) :
    Calls Tryz.prog 19 #[va, vb] w (RFrac w (fq s n d + fq t m e)) := by
  have hA := ha
  have hB := hb
  obtain ⟨xn, xd, rfl, hxn, hxd⟩ := ha
  obtain ⟨yn, yd, rfl, hyn, hyd⟩ := hb
  obtain ⟨an, ln, kn, rfl, _⟩ := hxn.slen.1
  obtain ⟨ad, ld, kd, rfl, _⟩ := hxd.slen.1
  obtain ⟨am, lm, km, rfl, _⟩ := hyn.slen.1
  obtain ⟨ae, le, ke, rfl, _⟩ := hyd.slen.1
  have K1 := Lib.hid h1
  have K2 := Lib.hid h2
  clear h1 h2
  go_enter Tryz.func19, Tryz.ntmps19
  go_wp2_with fail
  obtain ⟨W, hW⟩ : ∃ W, W = (((w.alloc (.cells #[.bool s, .slice an ln kn, .slice ad ld kd] 38)).alloc (.cells #[.bool t, .slice am lm km, .slice ae le ke] 38)).alloc (.cells #[.bool false, .slice none 0 0, .slice none 0 0] 38)) := ⟨_, rfl⟩
  obtain ⟨bx, byy, bz, hbw⟩ := three_boxes w 38 _ _ _ _ _ _ _ _ _ W hW
  rw [← hW]
  clear hW
  have HBX := Lib.hid bx
  have HBY := Lib.hid byy
  have HBZ := Lib.hid bz
  obtain ⟨_, q1, q2, q3, q4, q5, q6⟩ := bx
  obtain ⟨_, r1, r2, r3, r4, r5, r6⟩ := byy
  go_wp2_with (first
    | (go_at_call 49; first
       | ((with_reducible refine (r2valid_ok _ s n d _ (hA.below hbw) K1.out).mono ?_); rintro e9 w1 ⟨rfl, hv1⟩
          obtain ⟨_, f1, f2, f3, f4, f5, f6⟩ := HBY.out.belowS hv1
          have hbw1 := hbw.trans (hv1.mono hbw.size))
       | ((with_reducible refine (r2valid_ok _ t m e _ (hB.below hbw1) K2.out).mono ?_); rintro e9 w2 ⟨rfl, hv2⟩
          have hbx2 := (HBX.out.belowS hv1).belowS hv2
          have hby2 := (HBY.out.belowS hv1).belowS hv2
          have hbz2 := (HBZ.out.belowS hv1).belowS hv2
          have hbw2 := hbw1.trans (hv2.mono hbw1.size))))
  clear q1 q2 q3 q4 q5 q6 r1 r2 r3 r4 r5 r6 f1 f2 f3 f4 f5 f6
  have hd2 := below_drew (B := w2.heap.size) w2
  have hD := hbw2.trans (hd2.mono hbw2.size)
  have hbx3 := hbx2.belowS hd2
  have hby3 := hby2.belowS hd2
  have hbz3 := hbz2.belowS hd2
  clear hbx2 hby2 hbz2 hbw2 hv1 hv2 hbw hbw1 HBX HBY HBZ bz hd2
  have HX3 := Lib.hid hbx3
  have HY3 := Lib.hid hby3
  have HZ3 := Lib.hid hbz3
  obtain ⟨_, q1, q2, q3, q4, q5, q6⟩ := hbx3
  obtain ⟨_, r1, r2, r3, r4, r5, r6⟩ := hby3
  clear hbz3
  have g1 := hxn.below hD
  have g2 := hxd.below hD
  have g3 := hyn.below hD
  have g4 := hyd.below hD
  have l1 := Lib.hid (okN_nlen K1.out)
  have l2 := Lib.hid (okN_nlen K2.out)
  have tok1 : True := trivial
  have tok2 : True := trivial
  have tok3 : True := trivial
  go_region_held3 (fun w' => w'.cell? ⟨w.heap.size, 1, none⟩ = some (.slice an ln kn) ∧ w'.cell? ⟨w.heap.size, 2, none⟩ = some (.slice ad ld kd) ∧ w'.cell? ⟨w.heap.size + 1, 1, none⟩ = some (.slice am lm km) ∧ w'.cell? ⟨w.heap.size + 1, 2, none⟩ = some (.slice ae le ke)) (exact ⟨q2, q3, r2, r3⟩) (first
    | (go_at_call 74; have _t := tok1; clear tok1 _t; (with_reducible refine (r2times_any _ _ n e _ g1 g4 l1.out.1 l2.out.2).mono ?_); rintro e9 w3 ⟨p1, rfl, hp1, hp2⟩
       have X4 := HX3.out.belowS hp2
       have Y4 := HY3.out.belowS hp2
       have HX4 := Lib.hid X4
       have HY4 := Lib.hid Y4
       obtain ⟨_, q1, q2, q3, q4, q5, q6⟩ := X4
       obtain ⟨_, r1, r2, r3, r4, r5, r6⟩ := Y4)
    | (go_at_call 74; have _t := tok2; clear tok2 _t; (with_reducible refine (r2times_any _ _ m d _ (g3.below hp2) (g2.below hp2) l2.out.1 l1.out.2).mono ?_); rintro e9 w4 ⟨p3, rfl, hp3, hp4⟩
       have hp24 := below_then hp2 hp4
       have hp14 := hp1.below hp4
       have X5 := HX4.out.belowS hp4
       have Y5 := HY4.out.belowS hp4
       have HX5 := Lib.hid X5
       have HY5 := Lib.hid Y5
       obtain ⟨_, q1, q2, q3, q4, q5, q6⟩ := X5
       obtain ⟨_, r1, r2, r3, r4, r5, r6⟩ := Y5)
    | (go_at_call 74; have _t := tok3; clear tok3 _t; (with_reducible refine (r2times_any _ _ d e _ (g2.below hp24) (g4.below hp24) l1.out.2 l2.out.2).mono ?_); rintro e9 w5 ⟨p5, rfl, hp5, hp6⟩
       have hp26 := below_then hp24 hp6
       have hp16 := hp14.below hp6
       have hp36 := hp3.below hp6
       have X6 := HX5.out.belowS hp6
       have Y6 := HY5.out.belowS hp6
       have HX6 := Lib.hid X6
       have HY6 := Lib.hid Y6
       obtain ⟨_, q1, q2, q3, q4, q5, q6⟩ := X6
       obtain ⟨_, r1, r2, r3, r4, r5, r6⟩ := Y6))
  have hdw : Below w.heap.size w w5 := hD.trans (hp26.mono hD.size)
  have HZ6 := Lib.hid (HZ3.out.belowS hp26)
  have HDE : Hid (d * e ≠ 0) := Lib.hid (Nat.mul_ne_zero K1.out.1 K2.out.1)
  have N1 := Lib.hid (nlen_mul l1.out.1 l2.out.2)
  have N3 := Lib.hid (nlen_mul l2.out.1 l1.out.2)
  have N5 := Lib.hid (Nat.le_trans (nlen_mul l1.out.2 l2.out.2) (show 128 + 128 ≤ 512 by decide))
  have NS := Lib.hid (Nat.le_trans (nlen_sum N1.out N3.out) (show 128 + 128 + 1 ≤ 512 by decide))
  have N12 := Lib.hid (Nat.le_trans N1.out (show 128 + 128 ≤ 512 by decide))
  have N32 := Lib.hid (Nat.le_trans N3.out (show 128 + 128 ≤ 512 by decide))
  clear hp24 hp26 hp14 hp1 hp3 hp2 hp4 hp6 hD HZ3 g1 g2 g3 g4 HX3 HY3 HX4 HY4 HX5 HY5
  by_cases hst : s = t
  · have HQ := Lib.hid (fq_add_same s n d m e K1.out.1 K2.out.1)
    subst hst
    go_wp2_with (first
      | (go_at_call 75; (with_reducible refine (radd_any p1 p3 (n * e) (m * d) _ hp16.nat hp36.nat N12.out N32.out).mono ?_); rintro e9 w6 ⟨r, er, rfl, hr, hb6⟩
         have hr6 := (hr.1 NS.out).2
         have hp56 := hp5.below hb6
         have hdw6 := below_then hdw hb6
         have HZ7 := Lib.hid (HZ6.out.belowS hb6)
         obtain ⟨_, q1, q2, q3, q4, q5, q6⟩ := HX6.out.belowS hb6
         obtain ⟨_, r1, r2, r3, r4, r5, r6⟩ := HY6.out.belowS hb6
         )
      | (go_at_call 71; (with_reducible refine (r2lowest_any s r p5 (n * e + m * d) (d * e) _ hr6.nat hp56.nat HDE.out NS.out N5.out).mono ?_); rintro e9 w7 ⟨v7, rfl, hv7, hb7⟩
         rw [← HQ.out] at hv7
         have hdw7 := below_then hdw6 hb7
         have HZ8 := Lib.hid (HZ7.out.belowS hb7)
         )
      | (go_at_call 76; (with_reducible refine (r2fits_any v7 _ _ hv7).mono ?_); rintro e9 w8 ⟨v, er8, rfl, hv1, hv2, hv3⟩
         obtain ⟨t9, x9, y9, rfl, ⟨a1, l91, k1, rfl, _⟩, ⟨a2, l92, k2, rfl, _⟩⟩ := rfrac_isF (w0 := w) hv2 hv3
         have hC := HZ8.out.belowS hv1
         have HC := Lib.hid hC
         have hbz := below_then hdw7 hv1
         obtain ⟨_, d0, d1, d2, e0, e1, e2⟩ := hC
         )
      )
    refine bodyPost_c3 rfl rfl Tryz.aggF Tryz.sizeF (HC.out.set _ _ _) rfl ?_
    exact ⟨_, _, rfl, below_set3 hbz (by omega) _ _ _, fun h => ⟨(hv2 h).1, (hv2 h).2.set3 HC.out (fun z => by simp) (fun z => by simp) _ _ _⟩, hv3⟩
  · have hsb : (s == t) = false := by simpa using hst
    by_cases hle : m * d ≤ n * e
    · have HQ := Lib.hid (fq_add_ge s t n d m e K1.out.1 K2.out.1 hsb hle)
      have HLE := Lib.hid hle
      have NS := Lib.hid (Nat.le_trans (nlen_mono (Nat.sub_le (n * e) (m * d))) N12.out)
      clear hle
      go_wp2_with (first
        | (go_at_call 77; (with_reducible refine (rcmp_ge0 p1 p3 (n * e) (m * d) _ hp16.nat hp36.nat HLE.out).mono ?_); rintro e9 w5b ⟨⟨c, rfl, hc⟩, hb5⟩
           have hp16 := hp16.below hb5
           have hp36 := hp36.below hb5
           have hp5 := hp5.below hb5
           have HX6 := Lib.hid (HX6.out.belowS hb5)
           have HY6 := Lib.hid (HY6.out.belowS hb5)
           have HZ6 := Lib.hid (HZ6.out.belowS hb5)
           have hdw := below_then hdw hb5)
        | (go_at_call 78; (with_reducible refine (rsub_le p1 p3 (n * e) (m * d) _ hp16.nat hp36.nat N12.out HLE.out).mono ?_); rintro e9 w6 ⟨r, rfl, hr6, hb6⟩
           have hp56 := hp5.below hb6
           have hdw6 := below_then hdw hb6
           have HZ7 := Lib.hid (HZ6.out.belowS hb6)
           obtain ⟨_, q1, q2, q3, q4, q5, q6⟩ := HX6.out.belowS hb6
           obtain ⟨_, r1, r2, r3, r4, r5, r6⟩ := HY6.out.belowS hb6
           )
        | (go_at_call 71; (with_reducible refine (r2lowest_any s r p5 (n * e - m * d) (d * e) _ hr6.nat hp56.nat HDE.out NS.out N5.out).mono ?_); rintro e9 w7 ⟨v7, rfl, hv7, hb7⟩
           rw [← HQ.out] at hv7
           have hdw7 := below_then hdw6 hb7
           have HZ8 := Lib.hid (HZ7.out.belowS hb7)
           )
        | (go_at_call 76; (with_reducible refine (r2fits_any v7 _ _ hv7).mono ?_); rintro e9 w8 ⟨v, er8, rfl, hv1, hv2, hv3⟩
           obtain ⟨t9, x9, y9, rfl, ⟨a1, l91, k1, rfl, _⟩, ⟨a2, l92, k2, rfl, _⟩⟩ := rfrac_isF (w0 := w) hv2 hv3
           have hC := HZ8.out.belowS hv1
           have HC := Lib.hid hC
           have hbz := below_then hdw7 hv1
           obtain ⟨_, d0, d1, d2, e0, e1, e2⟩ := hC
           )
        )
      refine bodyPost_c3 rfl rfl Tryz.aggF Tryz.sizeF (HC.out.set _ _ _) rfl ?_
      exact ⟨_, _, rfl, below_set3 hbz (by omega) _ _ _, fun h => ⟨(hv2 h).1, (hv2 h).2.set3 HC.out (fun z => by simp) (fun z => by simp) _ _ _⟩, hv3⟩
    · have hlt : n * e < m * d := Nat.lt_of_not_le hle
      have HQ := Lib.hid (fq_add_lt s t n d m e K1.out.1 K2.out.1 hsb (Nat.le_of_lt hlt))
      have HLT := Lib.hid hlt
      have NS := Lib.hid (Nat.le_trans (nlen_mono (Nat.sub_le (m * d) (n * e))) N32.out)
      clear hle hlt
      go_wp2_with (first
        | (go_at_call 77; (with_reducible refine (rcmp_lt0 p1 p3 (n * e) (m * d) _ hp16.nat hp36.nat HLT.out).mono ?_); rintro e9 w5b ⟨⟨c, rfl, hc⟩, hb5⟩
           have hp16 := hp16.below hb5
           have hp36 := hp36.below hb5
           have hp5 := hp5.below hb5
           have HX6 := Lib.hid (HX6.out.belowS hb5)
           have HY6 := Lib.hid (HY6.out.belowS hb5)
           have HZ6 := Lib.hid (HZ6.out.belowS hb5)
           have hdw := below_then hdw hb5)
        | (go_at_call 78; (with_reducible refine (rsub_le p3 p1 (m * d) (n * e) _ hp36.nat hp16.nat N32.out (Nat.le_of_lt HLT.out)).mono ?_); rintro e9 w6 ⟨r, rfl, hr6, hb6⟩
           have hp56 := hp5.below hb6
           have hdw6 := below_then hdw hb6
           have HZ7 := Lib.hid (HZ6.out.belowS hb6)
           obtain ⟨_, q1, q2, q3, q4, q5, q6⟩ := HX6.out.belowS hb6
           obtain ⟨_, r1, r2, r3, r4, r5, r6⟩ := HY6.out.belowS hb6
           )
        | (go_at_call 71; (with_reducible refine (r2lowest_any t r p5 (m * d - n * e) (d * e) _ hr6.nat hp56.nat HDE.out NS.out N5.out).mono ?_); rintro e9 w7 ⟨v7, rfl, hv7, hb7⟩
           rw [← HQ.out] at hv7
           have hdw7 := below_then hdw6 hb7
           have HZ8 := Lib.hid (HZ7.out.belowS hb7)
           )
        | (go_at_call 76; (with_reducible refine (r2fits_any v7 _ _ hv7).mono ?_); rintro e9 w8 ⟨v, er8, rfl, hv1, hv2, hv3⟩
           obtain ⟨t9, x9, y9, rfl, ⟨a1, l91, k1, rfl, _⟩, ⟨a2, l92, k2, rfl, _⟩⟩ := rfrac_isF (w0 := w) hv2 hv3
           have hC := HZ8.out.belowS hv1
           have HC := Lib.hid hC
           have hbz := below_then hdw7 hv1
           obtain ⟨_, d0, d1, d2, e0, e1, e2⟩ := hC
           )
        )
      refine bodyPost_c3 rfl rfl Tryz.aggF Tryz.sizeF (HC.out.set _ _ _) rfl ?_
      exact ⟨_, _, rfl, below_set3 hbz (by omega) _ _ _, fun h => ⟨(hv2 h).1, (hv2 h).2.set3 HC.out (fun z => by simp) (fun z => by simp) _ _ _⟩, hv3⟩
end Go.Proofs.YtlpdkbmmbdfoiaaGreat
namespace Go.Proofs.YtlpdkbmmbdfoiaaGreat
set_option linter.unusedVariables false
set_option linter.unusedSimpArgs false
open Go.RowKit

theorem cmpN_swap (a b : Nat) : cmpN b a = -cmpN a b := by
  unfold cmpN
  rcases Nat.lt_trichotomy a b with h | h | h
  · rw [if_neg (by omega), if_pos h, if_pos h]; rfl
  · subst h; rw [if_neg (by omega), if_neg (by omega)]; rfl
  · rw [if_pos h, if_neg (by omega), if_pos h]
theorem nlen_prod {n e : Nat} (he : e ≠ 0) : (n = 0 → nlen (n * e) = 0) ∧ (n ≠ 0 → 0 < nlen (n * e)) :=
  ⟨fun h => nlen_eq_zero.2 (by rw [h, Nat.zero_mul]), fun h => nlen_pos_iff.2 (Nat.mul_ne_zero h he)⟩
set_option maxRecDepth 100000 in
set_option maxHeartbeats 1600000 in
theorem r2order_any (va vb : Value) (s t : Bool) (n d m e : Nat) (w : World) (ha : FracN w va s n d) (hb : FracN w vb t m e) (h1 : okN n d) (h2 : okN m e) :
    Calls Tryz.prog 100 #[va, vb] w fun en w' => en = .returned (.int .i64 (cmpR (fq s n d) (fq t m e))) ∧ Below w.heap.size w w' := by
  obtain ⟨xn, xd, rfl, hxn, hxd⟩ := ha
  obtain ⟨yn, yd, rfl, hyn, hyd⟩ := hb
  obtain ⟨an, ln, kn, rfl, _⟩ := hxn.slen.1
  obtain ⟨ad, ld, kd, rfl, _⟩ := hxd.slen.1
  obtain ⟨am, lm, km, rfl, _⟩ := hyn.slen.1
  obtain ⟨ae, le, ke, rfl, _⟩ := hyd.slen.1
  have l1 := Lib.hid (okN_nlen h1)
  have l2 := Lib.hid (okN_nlen h2)
  have z1 := nlen_prod (n := n) h2.1
  have z2 := nlen_prod (n := m) h1.1
  have HR := Lib.hid (cmpR_eq s t n d m e h1.1 h2.1)
  have HSW := Lib.hid (cmpN_swap (n * e) (m * d))
  clear h1 h2
  obtain ⟨L1, hL1⟩ : ∃ L, nlen (n * e) = L := ⟨_, rfl⟩
  obtain ⟨L2, hL2⟩ : ∃ L, nlen (m * d) = L := ⟨_, rfl⟩
  rw [hL1] at z1
  rw [hL2] at z2
  have HL1 := Lib.hid hL1
  have HL2 := Lib.hid hL2
  have hX : (s = false) ∨ (s = true ∧ n = 0 ∧ L1 = 0) ∨ (s = true ∧ n ≠ 0 ∧ 0 < L1) := by
    cases s
    · exact Or.inl rfl
    · by_cases h : n = 0
      · exact Or.inr (Or.inl ⟨rfl, h, z1.1 h⟩)
      · exact Or.inr (Or.inr ⟨rfl, h, z1.2 h⟩)
  have hY : (t = false) ∨ (t = true ∧ m = 0 ∧ L2 = 0) ∨ (t = true ∧ m ≠ 0 ∧ 0 < L2) := by
    cases t
    · exact Or.inl rfl
    · by_cases h : m = 0
      · exact Or.inr (Or.inl ⟨rfl, h, z2.1 h⟩)
      · exact Or.inr (Or.inr ⟨rfl, h, z2.2 h⟩)
  have HX0 := Lib.hid hX
  have HY0 := Lib.hid hY
  clear hL1 hL2 z1 z2 hX hY
  go_enter Tryz.func100, Tryz.ntmps100
  go_wp2_with fail
  obtain ⟨W, hW⟩ : ∃ W, W = ((w.alloc (.cells #[.bool s, .slice an ln kn, .slice ad ld kd] 38)).alloc (.cells #[.bool t, .slice am lm km, .slice ae le ke] 38)) := ⟨_, rfl⟩
  obtain ⟨bx, byy, hbw⟩ := two_boxes w 38 _ _ _ _ _ _ W hW
  rw [← hW]
  clear hW
  have hd2 := below_drew (B := W.heap.size) W
  have hD := below_then hbw hd2
  have hbx3 := bx.belowS hd2
  have hby3 := byy.belowS hd2
  have HX3 := Lib.hid hbx3
  have HY3 := Lib.hid hby3
  obtain ⟨_, q1, q2, q3, q4, q5, q6⟩ := hbx3
  obtain ⟨_, r1, r2, r3, r4, r5, r6⟩ := hby3
  have g1 := hxn.below hD
  have g2 := hxd.below hD
  have g3 := hyn.below hD
  have g4 := hyd.below hD
  clear bx byy hd2
  have tok1 : True := trivial
  go_region_held3 (fun w' => w'.cell? ⟨w.heap.size, 1, none⟩ = some (.slice an ln kn) ∧ w'.cell? ⟨w.heap.size, 2, none⟩ = some (.slice ad ld kd) ∧ w'.cell? ⟨w.heap.size + 1, 1, none⟩ = some (.slice am lm km) ∧ w'.cell? ⟨w.heap.size + 1, 2, none⟩ = some (.slice ae le ke)) (exact ⟨q2, q3, r2, r3⟩) (first
    | (go_at_call 74; have _t := tok1; clear tok1 _t; (with_reducible refine (r2times_any _ _ n e _ g1 g4 l1.out.1 l2.out.2).mono ?_); rintro e9 w3 ⟨p1, rfl, hp1, hp2⟩
       have X4 := HX3.out.belowS hp2
       have Y4 := HY3.out.belowS hp2
       have HX4 := Lib.hid X4
       have HY4 := Lib.hid Y4
       obtain ⟨_, q1, q2, q3, q4, q5, q6⟩ := X4
       obtain ⟨_, r1, r2, r3, r4, r5, r6⟩ := Y4)
    | (go_at_call 74; (with_reducible refine (r2times_any _ _ m d _ (g3.below hp2) (g2.below hp2) l2.out.1 l1.out.2).mono ?_); rintro e9 w4 ⟨p3, rfl, hp3, hp4⟩
       have hp24 := below_then hp2 hp4
       have hp14 := hp1.below hp4
       have X5 := HX4.out.belowS hp4
       have Y5 := HY4.out.belowS hp4
       have HX5 := Lib.hid X5
       have HY5 := Lib.hid Y5
       obtain ⟨_, q1, q2, q3, q4, q5, q6⟩ := X5
       obtain ⟨_, r1, r2, r3, r4, r5, r6⟩ := Y5))
  have hdw : Below w.heap.size w w4 := hD.trans (hp24.mono hD.size)
  have HP1 := Lib.hid hp14
  have HP3 := Lib.hid hp3
  have sp1 := hp14.v.sl
  have lp1 : slen p1 = L1 := hp14.v.len.trans HL1.out
  have sp3 := hp3.v.sl
  have lp3 : slen p3 = L2 := hp3.v.len.trans HL2.out
  have k1 := HX5.out.c0
  have k2 := HY5.out.c0
  clear hp24 hp14 hp1 hp3 hp2 hp4 hD g1 g2 g3 g4 HX3 HY3 HX4 HY4 q1 q2 q3 q4 q5 q6 r1 r2 r3 r4 r5 r6 hbw
  rcases HX0.out with rfl | ⟨rfl, hn0, hl0⟩ | ⟨rfl, hn0, hl0⟩ <;> rcases HY0.out with rfl | ⟨rfl, hm0, hk0⟩ | ⟨rfl, hm0, hk0⟩ <;> (
    try subst hl0
    try subst hk0
    clear HX0 HY0
    go_wp2_with (go_at_call 77; first
      | ((with_reducible refine (rcmp_any p1 p3 (n * e) (m * d) _ HP1.out.nat HP3.out.nat).mono ?_); rintro e9 w9 ⟨rfl, hb9⟩; have hdw := below_then hdw hb9)
      | ((with_reducible refine (rcmp_any p3 p1 (m * d) (n * e) _ HP3.out.nat HP1.out.nat).mono ?_); rintro e9 w9 ⟨rfl, hb9⟩; rw [HSW.out]; have hdw := below_then hdw hb9))
    all_goals
      go_ret
      exact ⟨by rw [HR.out]; simp [*], hdw⟩)
theorem cmpR_beq (p q : Rat) : (cmpR p q == 0) = decide (p = q) := by
  have := cmpR_self_iff p q
  by_cases h : p = q
  · rw [decide_eq_true h, this.2 h]; rfl
  · rw [decide_eq_false h]
    have h2 : cmpR p q ≠ 0 := fun e => h (this.1 e)
    simpa using h2
set_option maxHeartbeats 800000 in
theorem r2same_any (va vb : Value) (s t : Bool) (n d m e : Nat) (w : World) (ha : FracN w va s n d) (hb : FracN w vb t m e) (h1 : okN n d) (h2 : okN m e) :
    Calls Tryz.prog 33 #[va, vb] w fun en w' => en = .returned (.bool (decide (fq s n d = fq t m e))) ∧ Below w.heap.size w w' := by
  have hA := ha
  have hB := hb
  obtain ⟨xn, xd, rfl, hxn, hxd⟩ := ha
  obtain ⟨yn, yd, rfl, hyn, hyd⟩ := hb
  obtain ⟨an, ln, kn, rfl, _⟩ := hxn.slen.1
  obtain ⟨ad, ld, kd, rfl, _⟩ := hxd.slen.1
  obtain ⟨am, lm, km, rfl, _⟩ := hyn.slen.1
  obtain ⟨ae, le, ke, rfl, _⟩ := hyd.slen.1
  have K1 := Lib.hid h1
  have K2 := Lib.hid h2
  have HE := Lib.hid (cmpR_beq (fq s n d) (fq t m e))
  clear h1 h2
  go_enter Tryz.func33, Tryz.ntmps33
  go_wp2_with fail
  obtain ⟨W, hW⟩ : ∃ W, W = ((w.alloc (.cells #[.bool s, .slice an ln kn, .slice ad ld kd] 38)).alloc (.cells #[.bool t, .slice am lm km, .slice ae le ke] 38)) := ⟨_, rfl⟩
  obtain ⟨bx, byy, hbw⟩ := two_boxes w 38 _ _ _ _ _ _ W hW
  rw [← hW]
  clear hW
  obtain ⟨_, q1, q2, q3, q4, q5, q6⟩ := bx
  obtain ⟨_, r1, r2, r3, r4, r5, r6⟩ := byy
  go_wp2_with (go_at_call 100; (with_reducible refine (r2order_any _ _ s t n d m e _ (hA.below hbw) (hB.below hbw) K1.out K2.out).mono ?_); rintro e9 w9 ⟨rfl, hb9⟩)
  go_ret
  exact ⟨by rw [← HE.out]; rfl, below_then hbw hb9⟩
set_option maxHeartbeats 800000 in
theorem r2sign_any (va : Value) (s : Bool) (n d : Nat) (w : World) (ha : FracN w va s n d) (h1 : okN n d) :
    Calls Tryz.prog 34 #[va] w fun en w' => en = .returned (.int .i64 (cmpR (fq s n d) 0)) ∧ Below w.heap.size w w' := by
  have hA := ha
  obtain ⟨xn, xd, rfl, hxn, hxd⟩ := ha
  obtain ⟨an, ln, kn, rfl, _⟩ := hxn.slen.1
  obtain ⟨ad, ld, kd, rfl, _⟩ := hxd.slen.1
  have K1 := Lib.hid h1
  have K0 : Hid (okN (0 : Rat).num.natAbs (0 : Rat).den) := Lib.hid (by decide +kernel)
  have HE : Hid (cmpR (fq s n d) (fq false 0 1) = cmpR (fq s n d) 0) := Lib.hid (by rw [show fq false 0 1 = 0 from fq_zero false 1 (by decide)])
  clear h1
  go_enter Tryz.func34, Tryz.ntmps34
  go_wp2_with fail
  have bx := C3.new w 38 (.bool s) (.slice an ln kn) (.slice ad ld kd)
  have hbx := below_alloc w (.cells #[.bool s, .slice an ln kn, .slice ad ld kd] 38)
  generalize hW : w.alloc (.cells #[.bool s, .slice an ln kn, .slice ad ld kd] 38) = W at *
  clear hW
  have hd2 := below_drew (B := W.heap.size) W
  have hD := below_then hbx hd2
  have hbx3 := bx.belowS hd2
  have HX3 := Lib.hid hbx3
  obtain ⟨_, q1, q2, q3, q4, q5, q6⟩ := hbx3
  clear bx hd2
  go_region_held3 (fun w' => w'.cell? ⟨w.heap.size, 0, none⟩ = some (.bool s) ∧ w'.cell? ⟨w.heap.size, 1, none⟩ = some (.slice an ln kn) ∧ w'.cell? ⟨w.heap.size, 2, none⟩ = some (.slice ad ld kd)) (exact ⟨q1, q2, q3⟩) (first
    | (go_at_call 20; (with_reducible refine (r2int_zero _).mono ?_); rintro e9 w3 ⟨v3, rfl, hv3, hb3⟩
       obtain ⟨_, q1, q2, q3, q4, q5, q6⟩ := HX3.out.belowS hb3)
    | (go_at_call 100; (with_reducible refine (r2order_any _ _ s _ n d _ _ _ ((hA.below hD).below hb3) hv3.raw K1.out K0.out).mono ?_); rintro e9 w4 ⟨rfl, hb4⟩
       obtain ⟨_, q1, q2, q3, q4, q5, q6⟩ := HX3.out.belowS (below_then hb3 hb4)))
  go_wp2
  go_ret
  exact ⟨by rw [← HE.out]; rfl, below_then (below_then hD hb3) hb4⟩
end Go.Proofs.YtlpdkbmmbdfoiaaGreat
