/-
  package drydockref21: Valid.
  Ahead of it: package drydockref02: Valid, Large, fits, Reduce, Order, Same, Less, Sign, Cmp of any fractions. package drydockref02: fits, Reduce, Add of any fractions. package drydockref02: Order, Same, Sign of any fractions. package drydockref22: Partition, count. package drydockref22: rate. package drydockref02: Sum. package drydockref05: Weight. Package drydockref21: plain. package drydockref21: plain, plains.
-/
import Derived.Test.YtoldfpkafcefnaaQCp1
import Derived.Test.YtoldfpkafcefnaaQLu1
import Derived.Test.YtoldfpkafcefnaaQSa1
import Derived.Test.YtoldfpkafcefnaaQLu2
import Derived.Test.YtoldfpkafcefnaaQRd1
import Derived.Deep.CutRange
import Derived.Deep.DeepCutAuto
import Derived.Deep.LoopGhost
namespace Go.Proofs.Ytoldfpkafcefnaa
set_option linter.unusedVariables false
set_option linter.unusedSimpArgs false
open Go.RowKit

theorem nlen_pos_iff {d : Nat} : 0 < nlen d ↔ d ≠ 0 := by
  constructor
  · intro h e; subst e; have := nlen_eq_zero.2 (rfl : (0 : Nat) = 0); omega
  · intro h; have : nlen d ≠ 0 := fun e => h (nlen_eq_zero.1 e); omega
theorem okN_iff (n d : Nat) : okN n d ↔ 0 < nlen d ∧ nlen d ≤ 128 ∧ nlen n ≤ 128 := by
  constructor
  · intro h; exact ⟨nlen_pos_iff.2 h.1, nbits_nlen (k := 128) h.2.1, nbits_nlen (k := 128) h.2.2⟩
  · intro h; exact ⟨nlen_pos_iff.1 h.1, nlen_nbits (k := 128) h.2.1, nlen_nbits (k := 128) h.2.2⟩
set_option maxHeartbeats 800000 in
theorem r2valid_any (v : Value) (s : Bool) (n d : Nat) (w : World) (h : FracN w v s n d) :
    Calls Try.prog 43 #[v] w fun e w' => e = .returned (.bool (decide (okN n d))) ∧ Below w.heap.size w w' := by
  obtain ⟨a, b, rfl, ha, hb⟩ := h
  obtain ⟨aa, al, ak, rfl, _⟩ := id ha.slen.1
  obtain ⟨ba, bl, bk, rfl, _⟩ := id hb.slen.1
  have hbx := below_alloc w (.cells #[.bool s, .slice aa al ak, .slice ba bl bk] 50)
  have hC := C3.new w 50 (.bool s) (.slice aa al ak) (.slice ba bl bk)
  have HC := Lib.hid hC
  have HA := Lib.hid (ha.below hbx)
  have HB := Lib.hid (hb.below hbx)
  have HO := Lib.hid (okN_iff n d)
  obtain ⟨D, hD⟩ : ∃ D, nlen d = D := ⟨_, rfl⟩
  obtain ⟨M, hM⟩ : ∃ M, nlen n = M := ⟨_, rfl⟩
  have HD := Lib.hid hD
  have HM := Lib.hid hM
  obtain ⟨_, c0, c1, c2, _, _, _⟩ := id hC
  clear hC ha hb hD hM
  have HOB : Hid (decide (okN n d) = (decide (0 < D) && (decide (D ≤ 128) && decide (M ≤ 128)))) := Lib.hid (by
    rw [Bool.eq_iff_iff]
    simp only [Bool.and_eq_true, decide_eq_true_eq]
    rw [HO.out, HD.out, HM.out])
  by_cases g1 : 0 < D
  · by_cases g2 : D ≤ 128
    · skip
      go_enter Try.func43, Try.ntmps43
      go_wp2_with (first
        | (go_at_call 70; (with_reducible refine (rtrim_any _ d _ HB.out).mono ?_); rintro e1 w1 ⟨r1, rfl, hr1, hb1⟩
           have s1 := hr1.v.sl
           have l1 : slen r1 = D := hr1.v.len.trans HD.out
           have hbb := below_then hbx hb1
           obtain ⟨_, c0, c1, c2, _, _, _⟩ := HC.out.belowS hb1)
        | (go_at_call 70; (with_reducible refine (rtrim_any _ d _ (HB.out.below hb1)).mono ?_); rintro e2 w2 ⟨r2, rfl, hr2, hb2⟩
           have s2 := hr2.v.sl
           have l2 : slen r2 = D := hr2.v.len.trans HD.out
           have hb12 := below_then hb1 hb2
           have hbb := below_then hbx hb12
           obtain ⟨_, c0, c1, c2, _, _, _⟩ := HC.out.belowS hb12)
        | (go_at_call 70; (with_reducible refine (rtrim_any _ n _ (HA.out.below hb12)).mono ?_); rintro e3 w3 ⟨r3, rfl, hr3, hb3⟩
           have s3 := hr3.v.sl
           have l3 : slen r3 = M := hr3.v.len.trans HM.out
           have hbb := below_then hbb hb3))
      go_ret
      refine ⟨?_, hbb⟩
      rw [HOB.out]
      simp [g1, g2]
      omega
    · skip
      go_enter Try.func43, Try.ntmps43
      go_wp2_with (first
        | (go_at_call 70; (with_reducible refine (rtrim_any _ d _ HB.out).mono ?_); rintro e1 w1 ⟨r1, rfl, hr1, hb1⟩
           have s1 := hr1.v.sl
           have l1 : slen r1 = D := hr1.v.len.trans HD.out
           have hbb := below_then hbx hb1
           obtain ⟨_, c0, c1, c2, _, _, _⟩ := HC.out.belowS hb1)
        | (go_at_call 70; (with_reducible refine (rtrim_any _ d _ (HB.out.below hb1)).mono ?_); rintro e2 w2 ⟨r2, rfl, hr2, hb2⟩
           have s2 := hr2.v.sl
           have l2 : slen r2 = D := hr2.v.len.trans HD.out
           have hb12 := below_then hb1 hb2
           have hbb := below_then hbx hb12
           obtain ⟨_, c0, c1, c2, _, _, _⟩ := HC.out.belowS hb12)
        | (go_at_call 70; (with_reducible refine (rtrim_any _ n _ (HA.out.below hb12)).mono ?_); rintro e3 w3 ⟨r3, rfl, hr3, hb3⟩
           have s3 := hr3.v.sl
           have l3 : slen r3 = M := hr3.v.len.trans HM.out
           have hbb := below_then hbb hb3))
      go_ret
      refine ⟨?_, hbb⟩
      rw [HOB.out]
      simp [g1, g2]
  · skip
    go_enter Try.func43, Try.ntmps43
    go_wp2_with (first
      | (go_at_call 70; (with_reducible refine (rtrim_any _ d _ HB.out).mono ?_); rintro e1 w1 ⟨r1, rfl, hr1, hb1⟩
         have s1 := hr1.v.sl
         have l1 : slen r1 = D := hr1.v.len.trans HD.out
         have hbb := below_then hbx hb1
         obtain ⟨_, c0, c1, c2, _, _, _⟩ := HC.out.belowS hb1)
      | (go_at_call 70; (with_reducible refine (rtrim_any _ d _ (HB.out.below hb1)).mono ?_); rintro e2 w2 ⟨r2, rfl, hr2, hb2⟩
         have s2 := hr2.v.sl
         have l2 : slen r2 = D := hr2.v.len.trans HD.out
         have hb12 := below_then hb1 hb2
         have hbb := below_then hbx hb12
         obtain ⟨_, c0, c1, c2, _, _, _⟩ := HC.out.belowS hb12)
      | (go_at_call 70; (with_reducible refine (rtrim_any _ n _ (HA.out.below hb12)).mono ?_); rintro e3 w3 ⟨r3, rfl, hr3, hb3⟩
         have s3 := hr3.v.sl
         have l3 : slen r3 = M := hr3.v.len.trans HM.out
         have hbb := below_then hbb hb3))
    go_ret
    refine ⟨?_, hbb⟩
    rw [HOB.out]
    simp [g1]
theorem r2valid_ok (v : Value) (s : Bool) (n d : Nat) (w : World) (h : FracN w v s n d) (hk : okN n d) :
    Calls Try.prog 43 #[v] w fun e w' => e = .returned (.bool true) ∧ Below w.heap.size w w' :=
  (r2valid_any v s n d w h).mono fun e w' ⟨h1, h2⟩ => ⟨by rw [h1, decide_eq_true hk], h2⟩
theorem r2valid_no (v : Value) (s : Bool) (n d : Nat) (w : World) (h : FracN w v s n d) (hk : ¬ okN n d) :
    Calls Try.prog 43 #[v] w fun e w' => e = .returned (.bool false) ∧ Below w.heap.size w w' :=
  (r2valid_any v s n d w h).mono fun e w' ⟨h1, h2⟩ => ⟨by rw [h1, decide_eq_false hk], h2⟩
end Go.Proofs.Ytoldfpkafcefnaa
namespace Go.Proofs.Ytoldfpkafcefnaa
set_option linter.unusedVariables false
set_option linter.unusedSimpArgs false
open Go.RowKit

theorem fits_nlen (q : Rat) : fits q ↔ nlen q.num.natAbs ≤ 128 ∧ nlen q.den ≤ 128 :=
  ⟨fun h => ⟨nbits_nlen (k := 128) h.1, nbits_nlen (k := 128) h.2⟩, fun h => ⟨nlen_nbits (k := 128) h.1, nlen_nbits (k := 128) h.2⟩⟩
set_option maxHeartbeats 800000 in
theorem r2large_any (v : Value) (q : Rat) (w : World) (h : FracC w v q) (b : Bool) (hf : b = true ↔ ¬ fits q) :
    Calls Try.prog 80 #[v] w fun e w' => e = .returned (.bool b) ∧ Below w.heap.size w w' := by
  obtain ⟨a, c, rfl, ha, hc⟩ := h
  have hn := fits_nlen q
  obtain ⟨aa, al, ak, rfl, _⟩ := id ha.v.sl
  obtain ⟨ba, bl, bk, rfl, _⟩ := id hc.v.sl
  have e1 : al = nlen q.num.natAbs := ha.v.len
  have e2 : bl = nlen q.den := hc.v.len
  rw [← e1, ← e2] at hn
  have HF : Hid (b = decide (128 < al ∨ 128 < bl)) := Lib.hid (by
    by_cases h9 : 128 < al ∨ 128 < bl
    · rw [decide_eq_true h9]; exact hf.2 (fun h => by have := hn.1 h; omega)
    · rw [decide_eq_false h9]; exact Bool.eq_false_iff.2 (fun h => hf.1 h (hn.2 (by omega))))
  have hbx := below_alloc w (.cells #[.bool (decide (q < 0)), .slice aa al ak, .slice ba bl bk] 50)
  have hC := C3.new w 50 (.bool (decide (q < 0))) (.slice aa al ak) (.slice ba bl bk)
  obtain ⟨_, c0, c1, c2, _, _, _⟩ := id hC
  clear hC hf hn e1 e2
  by_cases g1 : 128 < al
  · go_enter Try.func80, Try.ntmps80
    go_wp2_with fail
    go_ret
    refine ⟨?_, hbx⟩
    rw [HF.out]
    simp [g1]
  · go_enter Try.func80, Try.ntmps80
    go_wp2_with fail
    go_ret
    refine ⟨?_, hbx⟩
    rw [HF.out]
    simp [g1]
    rw [decide_eq_false (by omega), Bool.false_or]
    by_cases g2 : 128 < bl
    · rw [decide_eq_true g2, decide_eq_true (by omega)]
    · rw [decide_eq_false g2, decide_eq_false (by omega)]
/-- fits. -/
theorem r2fits_yes (v : Value) (q : Rat) (w : World) (h : FracC w v q) (hf : fits q) : Calls Try.prog 53 #[v] w (RFrac w q) :=
  (r2fits_can v q w h hf).mono fun e w' ⟨v', he, hv, hb⟩ => ⟨v', 0, he, hb, fun _ => ⟨rfl, hv⟩, fun h => absurd hf h⟩
set_option maxHeartbeats 800000 in
theorem r2fits_no (v : Value) (q : Rat) (w : World) (h : FracC w v q) (hf : ¬ fits q) : Calls Try.prog 53 #[v] w (RFrac w q) := by
  obtain ⟨a, b, rfl, ha, hb⟩ := id h
  obtain ⟨aa, al, ak, rfl, _⟩ := id ha.v.sl
  obtain ⟨ba, bl, bk, rfl, _⟩ := id hb.v.sl
  have hbx := below_alloc w (.cells #[.bool (decide (q < 0)), .slice aa al ak, .slice ba bl bk] 50)
  have hb2 := below_alloc (w.alloc (.cells #[.bool (decide (q < 0)), .slice aa al ak, .slice ba bl bk] 50)) (.cells #[.bool false, .slice none 0 0, .slice none 0 0] 50)
  have hC := (C3.new w 50 (.bool (decide (q < 0))) (.slice aa al ak) (.slice ba bl bk)).belowS hb2
  have hR := C3.newB (b := w.heap.size + 1) (w.alloc (.cells #[.bool (decide (q < 0)), .slice aa al ak, .slice ba bl bk] 50)) 50 (.bool false) (.slice none 0 0) (.slice none 0 0) (by simp)
  have HC := Lib.hid hC
  have HR := Lib.hid hR
  have HF := Lib.hid hf
  have HQ := Lib.hid ((h.below hbx).below hb2)
  have hbb := below_then hbx hb2
  obtain ⟨_, c0, c1, c2, _, _, _⟩ := id hC
  clear hC hR hf h ha hb
  go_enter Try.func53, Try.ntmps53
  go_wp2_with (go_at_call 80; (with_reducible refine (r2large_any _ q _ HQ.out true ⟨fun _ => HF.out, fun _ => rfl⟩).mono ?_); rintro e1 w1 ⟨rfl, hb1⟩
               obtain ⟨_, c0, c1, c2, _, _, _⟩ := HC.out.belowS hb1
               have HR1 := Lib.hid (HR.out.belowS hb1)
               obtain ⟨_, d0, d1, d2, d3, d4, d5⟩ := HR1.out)
  refine bodyPost_c3 rfl rfl Try.aggF Try.sizeF (HR1.out.set _ _ _) rfl ?_
  exact ⟨_, _, rfl, below_set3 (below_then hbb hb1) (Nat.le_succ _) _ _ _, fun h => absurd h HF.out, fun _ => ⟨rfl, rfl⟩⟩
theorem r2fits_any (v : Value) (q : Rat) (w : World) (h : FracC w v q) : Calls Try.prog 53 #[v] w (RFrac w q) := by
  by_cases hf : fits q
  · exact r2fits_yes v q w h hf
  · exact r2fits_no v q w h hf
set_option maxHeartbeats 1600000 in
theorem r2reduce_any (va : Value) (s : Bool) (n d : Nat) (w : World) (ha : FracN w va s n d) :
    Calls Try.prog 101 #[va] w (RRed w s n d) := by
  have hA := ha
  obtain ⟨xn, xd, rfl, hxn, hxd⟩ := ha
  obtain ⟨an, ln, kn, rfl, _⟩ := hxn.slen.1
  obtain ⟨ad, ld, kd, rfl, _⟩ := hxd.slen.1
  go_enter Try.func101, Try.ntmps101
  go_wp2_with fail
  obtain ⟨W, hW⟩ : ∃ W, W = ((w.alloc (.cells #[.bool s, .slice an ln kn, .slice ad ld kd] 50)).alloc (.cells #[.bool false, .slice none 0 0, .slice none 0 0] 50)) := ⟨_, rfl⟩
  obtain ⟨bx, bz, hbw⟩ := two_boxes w 50 _ _ _ _ _ _ W hW
  rw [← hW]
  clear hW
  have HBX := Lib.hid bx
  have HBZ := Lib.hid bz
  obtain ⟨_, q1, q2, q3, q4, q5, q6⟩ := bx
  clear bz
  by_cases hk : okN n d
  · have K := Lib.hid hk
    have NN := Lib.hid (Nat.le_trans (nbits_nlen (n := n) (k := 128) hk.2.2) (show 128 ≤ 512 by decide))
    have ND := Lib.hid (Nat.le_trans (nbits_nlen (n := d) (k := 128) hk.2.1) (show 128 ≤ 512 by decide))
    have D0 := Lib.hid hk.1
    clear hk
    go_wp2_with (first
      | (go_at_call 43; (with_reducible refine (r2valid_ok _ s n d _ (hA.below hbw) K.out).mono ?_); rintro e9 w1 ⟨rfl, hv1⟩
         obtain ⟨_, f1, f2, f3, f4, f5, f6⟩ := HBX.out.belowS hv1
         have hbw1 := below_then hbw hv1)
      | (go_at_call 50; (with_reducible refine (r2lowest_any s _ _ n d _ (hxn.below hbw1) (hxd.below hbw1) D0.out NN.out ND.out).mono ?_); rintro e9 w7 ⟨v, rfl, hv4, hv5⟩
         obtain ⟨t9, x9, y9, rfl, ⟨a1, l91, k1, rfl, _⟩, ⟨a2, l92, k2, rfl, _⟩⟩ := hv4.isF
         have hC := (HBZ.out.belowS hv1).belowS hv5
         have HC := Lib.hid hC
         have hbz := below_then hbw1 hv5
         obtain ⟨_, d0, d1, d2, e0, e1, e2⟩ := hC))
    refine bodyPost_c3 rfl rfl Try.aggF Try.sizeF (HC.out.set _ _ _) rfl ?_
    exact ⟨_, _, rfl, below_set3 hbz (by omega) _ _ _, fun h => ⟨rfl, hv4.set3 HC.out (fun z => by simp) (fun z => by simp) _ _ _⟩, fun h => absurd K.out h⟩
  · have K := Lib.hid hk
    clear hk
    go_wp2_with (first
      | (go_at_call 43; (with_reducible refine (r2valid_no _ s n d _ (hA.below hbw) K.out).mono ?_); rintro e9 w1 ⟨rfl, hv1⟩
         have hC := HBZ.out.belowS hv1
         have HC := Lib.hid hC
         have hbz := below_then hbw hv1
         obtain ⟨_, d0, d1, d2, e0, e1, e2⟩ := hC))
    refine bodyPost_c3 rfl rfl Try.aggF Try.sizeF (HC.out.set _ _ _) rfl ?_
    exact ⟨_, _, rfl, below_set3 hbz (by omega) _ _ _, fun h => absurd h K.out, fun _ => ⟨rfl, rfl⟩⟩

theorem rcmp_ge0 (va vb : Value) (m n : Nat) (w : World) (ha : NatN w va m) (hb : NatN w vb n) (h : n ≤ m) :
    Calls Try.prog 72 #[va, vb] w fun e w' => (∃ c : Int, e = .returned (.int .i64 c) ∧ decide (0 ≤ c) = true) ∧ Below w.heap.size w w' :=
  (rcmp_any va vb m n w ha hb).mono fun _ _ ⟨a, b⟩ => ⟨⟨_, a, by unfold cmpN; rw [if_neg (by omega)]; split <;> rfl⟩, b⟩
theorem rcmp_lt0 (va vb : Value) (m n : Nat) (w : World) (ha : NatN w va m) (hb : NatN w vb n) (h : m < n) :
    Calls Try.prog 72 #[va, vb] w fun e w' => (∃ c : Int, e = .returned (.int .i64 c) ∧ decide (0 ≤ c) = false) ∧ Below w.heap.size w w' :=
  (rcmp_any va vb m n w ha hb).mono fun _ _ ⟨a, b⟩ => ⟨⟨_, a, by rw [cmpN_lt h]; rfl⟩, b⟩
set_option maxRecDepth 100000 in
set_option maxHeartbeats 1600000 in
theorem r2add_any (va vb : Value) (s t : Bool) (n d m e : Nat) (w : World) (ha : FracN w va s n d) (hb : FracN w vb t m e) (h1 : okN n d) (h2 : okN m e) :
    Calls Try.prog 45 #[va, vb] w (RFrac w (fq s n d + fq t m e)) := by
  have hA := ha
  have hB := hb
  obtain ⟨xn, xd, rfl, hxn, hxd⟩ := ha
  obtain ⟨yn, yd, rfl, hyn, hyd⟩ := hb
  obtain ⟨an, ln, kn, rfl, _⟩ := hxn.slen.1
  obtain ⟨ad, ld, kd, rfl, _⟩ := hxd.slen.1
  obtain ⟨am, lm, km, rfl, _⟩ := hyn.slen.1
  obtain ⟨ae, le, ke, rfl, _⟩ := hyd.slen.1
  have K1 := Lib.hid h1
  have K2 := Lib.hid h2
  clear h1 h2
  go_enter Try.func45, Try.ntmps45
  go_wp2_with fail
  obtain ⟨W, hW⟩ : ∃ W, W = (((w.alloc (.cells #[.bool s, .slice an ln kn, .slice ad ld kd] 50)).alloc (.cells #[.bool t, .slice am lm km, .slice ae le ke] 50)).alloc (.cells #[.bool false, .slice none 0 0, .slice none 0 0] 50)) := ⟨_, rfl⟩
  obtain ⟨bx, byy, bz, hbw⟩ := three_boxes w 50 _ _ _ _ _ _ _ _ _ W hW
  rw [← hW]
  clear hW
  have HBX := Lib.hid bx
  have HBY := Lib.hid byy
  have HBZ := Lib.hid bz
  obtain ⟨_, q1, q2, q3, q4, q5, q6⟩ := bx
  obtain ⟨_, r1, r2, r3, r4, r5, r6⟩ := byy
  go_wp2_with (first
    | (go_at_call 43; first
       | ((with_reducible refine (r2valid_ok _ s n d _ (hA.below hbw) K1.out).mono ?_); rintro e9 w1 ⟨rfl, hv1⟩
          obtain ⟨_, f1, f2, f3, f4, f5, f6⟩ := HBY.out.belowS hv1
          have hbw1 := hbw.trans (hv1.mono hbw.size))
       | ((with_reducible refine (r2valid_ok _ t m e _ (hB.below hbw1) K2.out).mono ?_); rintro e9 w2 ⟨rfl, hv2⟩
          have hbx2 := (HBX.out.belowS hv1).belowS hv2
          have hby2 := (HBY.out.belowS hv1).belowS hv2
          have hbz2 := (HBZ.out.belowS hv1).belowS hv2
          have hbw2 := hbw1.trans (hv2.mono hbw1.size))))
  clear q1 q2 q3 q4 q5 q6 r1 r2 r3 r4 r5 r6 f1 f2 f3 f4 f5 f6
  have hd2 := below_drew (B := w2.heap.size) w2
  have hD := hbw2.trans (hd2.mono hbw2.size)
  have hbx3 := hbx2.belowS hd2
  have hby3 := hby2.belowS hd2
  have hbz3 := hbz2.belowS hd2
  clear hbx2 hby2 hbz2 hbw2 hv1 hv2 hbw hbw1 HBX HBY HBZ bz hd2
  have HX3 := Lib.hid hbx3
  have HY3 := Lib.hid hby3
  have HZ3 := Lib.hid hbz3
  obtain ⟨_, q1, q2, q3, q4, q5, q6⟩ := hbx3
  obtain ⟨_, r1, r2, r3, r4, r5, r6⟩ := hby3
  clear hbz3
  have g1 := hxn.below hD
  have g2 := hxd.below hD
  have g3 := hyn.below hD
  have g4 := hyd.below hD
  have l1 := Lib.hid (okN_nlen K1.out)
  have l2 := Lib.hid (okN_nlen K2.out)
  have tok1 : True := trivial
  have tok2 : True := trivial
  have tok3 : True := trivial
  go_region_held3 (fun w' => w'.cell? ⟨w.heap.size, 1, none⟩ = some (.slice an ln kn) ∧ w'.cell? ⟨w.heap.size, 2, none⟩ = some (.slice ad ld kd) ∧ w'.cell? ⟨w.heap.size + 1, 1, none⟩ = some (.slice am lm km) ∧ w'.cell? ⟨w.heap.size + 1, 2, none⟩ = some (.slice ae le ke)) (exact ⟨q2, q3, r2, r3⟩) (first
    | (go_at_call 54; have _t := tok1; clear tok1 _t; (with_reducible refine (r2times_any _ _ n e _ g1 g4 l1.out.1 l2.out.2).mono ?_); rintro e9 w3 ⟨p1, rfl, hp1, hp2⟩
       have X4 := HX3.out.belowS hp2
       have Y4 := HY3.out.belowS hp2
       have HX4 := Lib.hid X4
       have HY4 := Lib.hid Y4
       obtain ⟨_, q1, q2, q3, q4, q5, q6⟩ := X4
       obtain ⟨_, r1, r2, r3, r4, r5, r6⟩ := Y4)
    | (go_at_call 54; have _t := tok2; clear tok2 _t; (with_reducible refine (r2times_any _ _ m d _ (g3.below hp2) (g2.below hp2) l2.out.1 l1.out.2).mono ?_); rintro e9 w4 ⟨p3, rfl, hp3, hp4⟩
       have hp24 := below_then hp2 hp4
       have hp14 := hp1.below hp4
       have X5 := HX4.out.belowS hp4
       have Y5 := HY4.out.belowS hp4
       have HX5 := Lib.hid X5
       have HY5 := Lib.hid Y5
       obtain ⟨_, q1, q2, q3, q4, q5, q6⟩ := X5
       obtain ⟨_, r1, r2, r3, r4, r5, r6⟩ := Y5)
    | (go_at_call 54; have _t := tok3; clear tok3 _t; (with_reducible refine (r2times_any _ _ d e _ (g2.below hp24) (g4.below hp24) l1.out.2 l2.out.2).mono ?_); rintro e9 w5 ⟨p5, rfl, hp5, hp6⟩
       have hp26 := below_then hp24 hp6
       have hp16 := hp14.below hp6
       have hp36 := hp3.below hp6
       have X6 := HX5.out.belowS hp6
       have Y6 := HY5.out.belowS hp6
       have HX6 := Lib.hid X6
       have HY6 := Lib.hid Y6
       obtain ⟨_, q1, q2, q3, q4, q5, q6⟩ := X6
       obtain ⟨_, r1, r2, r3, r4, r5, r6⟩ := Y6))
  have hdw : Below w.heap.size w w5 := hD.trans (hp26.mono hD.size)
  have HZ6 := Lib.hid (HZ3.out.belowS hp26)
  have HDE : Hid (d * e ≠ 0) := Lib.hid (Nat.mul_ne_zero K1.out.1 K2.out.1)
  have N1 := Lib.hid (nlen_mul l1.out.1 l2.out.2)
  have N3 := Lib.hid (nlen_mul l2.out.1 l1.out.2)
  have N5 := Lib.hid (Nat.le_trans (nlen_mul l1.out.2 l2.out.2) (show 128 + 128 ≤ 512 by decide))
  have NS := Lib.hid (Nat.le_trans (nlen_sum N1.out N3.out) (show 128 + 128 + 1 ≤ 512 by decide))
  have N12 := Lib.hid (Nat.le_trans N1.out (show 128 + 128 ≤ 512 by decide))
  have N32 := Lib.hid (Nat.le_trans N3.out (show 128 + 128 ≤ 512 by decide))
  clear hp24 hp26 hp14 hp1 hp3 hp2 hp4 hp6 hD HZ3 g1 g2 g3 g4 HX3 HY3 HX4 HY4 HX5 HY5
  by_cases hst : s = t
  · have HQ := Lib.hid (fq_add_same s n d m e K1.out.1 K2.out.1)
    subst hst
    go_wp2_with (first
      | (go_at_call 71; (with_reducible refine (radd_any p1 p3 (n * e) (m * d) _ hp16.nat hp36.nat N12.out N32.out).mono ?_); rintro e9 w6 ⟨r, er, rfl, hr, hb6⟩
         have hr6 := (hr.1 NS.out).2
         have hp56 := hp5.below hb6
         have hdw6 := below_then hdw hb6
         have HZ7 := Lib.hid (HZ6.out.belowS hb6)
         obtain ⟨_, q1, q2, q3, q4, q5, q6⟩ := HX6.out.belowS hb6
         obtain ⟨_, r1, r2, r3, r4, r5, r6⟩ := HY6.out.belowS hb6
         )
      | (go_at_call 50; (with_reducible refine (r2lowest_any s r p5 (n * e + m * d) (d * e) _ hr6.nat hp56.nat HDE.out NS.out N5.out).mono ?_); rintro e9 w7 ⟨v7, rfl, hv7, hb7⟩
         rw [← HQ.out] at hv7
         have hdw7 := below_then hdw6 hb7
         have HZ8 := Lib.hid (HZ7.out.belowS hb7)
         )
      | (go_at_call 53; (with_reducible refine (r2fits_any v7 _ _ hv7).mono ?_); rintro e9 w8 ⟨v, er8, rfl, hv1, hv2, hv3⟩
         obtain ⟨t9, x9, y9, rfl, ⟨a1, l91, k1, rfl, _⟩, ⟨a2, l92, k2, rfl, _⟩⟩ := rfrac_isF (w0 := w) hv2 hv3
         have hC := HZ8.out.belowS hv1
         have HC := Lib.hid hC
         have hbz := below_then hdw7 hv1
         obtain ⟨_, d0, d1, d2, e0, e1, e2⟩ := hC
         )
      )
    refine bodyPost_c3 rfl rfl Try.aggF Try.sizeF (HC.out.set _ _ _) rfl ?_
    exact ⟨_, _, rfl, below_set3 hbz (by omega) _ _ _, fun h => ⟨(hv2 h).1, (hv2 h).2.set3 HC.out (fun z => by simp) (fun z => by simp) _ _ _⟩, hv3⟩
  · have hsb : (s == t) = false := by simpa using hst
    by_cases hle : m * d ≤ n * e
    · have HQ := Lib.hid (fq_add_ge s t n d m e K1.out.1 K2.out.1 hsb hle)
      have HLE := Lib.hid hle
      have NS := Lib.hid (Nat.le_trans (nlen_mono (Nat.sub_le (n * e) (m * d))) N12.out)
      clear hle
      go_wp2_with (first
        | (go_at_call 72; (with_reducible refine (rcmp_ge0 p1 p3 (n * e) (m * d) _ hp16.nat hp36.nat HLE.out).mono ?_); rintro e9 w5b ⟨⟨c, rfl, hc⟩, hb5⟩
           have hp16 := hp16.below hb5
           have hp36 := hp36.below hb5
           have hp5 := hp5.below hb5
           have HX6 := Lib.hid (HX6.out.belowS hb5)
           have HY6 := Lib.hid (HY6.out.belowS hb5)
           have HZ6 := Lib.hid (HZ6.out.belowS hb5)
           have hdw := below_then hdw hb5)
        | (go_at_call 73; (with_reducible refine (rsub_le p1 p3 (n * e) (m * d) _ hp16.nat hp36.nat N12.out HLE.out).mono ?_); rintro e9 w6 ⟨r, rfl, hr6, hb6⟩
           have hp56 := hp5.below hb6
           have hdw6 := below_then hdw hb6
           have HZ7 := Lib.hid (HZ6.out.belowS hb6)
           obtain ⟨_, q1, q2, q3, q4, q5, q6⟩ := HX6.out.belowS hb6
           obtain ⟨_, r1, r2, r3, r4, r5, r6⟩ := HY6.out.belowS hb6
           )
        | (go_at_call 50; (with_reducible refine (r2lowest_any s r p5 (n * e - m * d) (d * e) _ hr6.nat hp56.nat HDE.out NS.out N5.out).mono ?_); rintro e9 w7 ⟨v7, rfl, hv7, hb7⟩
           rw [← HQ.out] at hv7
           have hdw7 := below_then hdw6 hb7
           have HZ8 := Lib.hid (HZ7.out.belowS hb7)
           )
        | (go_at_call 53; (with_reducible refine (r2fits_any v7 _ _ hv7).mono ?_); rintro e9 w8 ⟨v, er8, rfl, hv1, hv2, hv3⟩
           obtain ⟨t9, x9, y9, rfl, ⟨a1, l91, k1, rfl, _⟩, ⟨a2, l92, k2, rfl, _⟩⟩ := rfrac_isF (w0 := w) hv2 hv3
           have hC := HZ8.out.belowS hv1
           have HC := Lib.hid hC
           have hbz := below_then hdw7 hv1
           obtain ⟨_, d0, d1, d2, e0, e1, e2⟩ := hC
           )
        )
      refine bodyPost_c3 rfl rfl Try.aggF Try.sizeF (HC.out.set _ _ _) rfl ?_
      exact ⟨_, _, rfl, below_set3 hbz (by omega) _ _ _, fun h => ⟨(hv2 h).1, (hv2 h).2.set3 HC.out (fun z => by simp) (fun z => by simp) _ _ _⟩, hv3⟩
    · have hlt : n * e < m * d := Nat.lt_of_not_le hle
      have HQ := Lib.hid (fq_add_lt s t n d m e K1.out.1 K2.out.1 hsb (Nat.le_of_lt hlt))
      have HLT := Lib.hid hlt
      have NS := Lib.hid (Nat.le_trans (nlen_mono (Nat.sub_le (m * d) (n * e))) N32.out)
      clear hle hlt
      go_wp2_with (first
        | (go_at_call 72; (with_reducible refine (rcmp_lt0 p1 p3 (n * e) (m * d) _ hp16.nat hp36.nat HLT.out).mono ?_); rintro e9 w5b ⟨⟨c, rfl, hc⟩, hb5⟩
           have hp16 := hp16.below hb5
           have hp36 := hp36.below hb5
           have hp5 := hp5.below hb5
           have HX6 := Lib.hid (HX6.out.belowS hb5)
           have HY6 := Lib.hid (HY6.out.belowS hb5)
           have HZ6 := Lib.hid (HZ6.out.belowS hb5)
           have hdw := below_then hdw hb5)
        | (go_at_call 73; (with_reducible refine (rsub_le p3 p1 (m * d) (n * e) _ hp36.nat hp16.nat N32.out (Nat.le_of_lt HLT.out)).mono ?_); rintro e9 w6 ⟨r, rfl, hr6, hb6⟩
           have hp56 := hp5.below hb6
           have hdw6 := below_then hdw hb6
           have HZ7 := Lib.hid (HZ6.out.belowS hb6)
           obtain ⟨_, q1, q2, q3, q4, q5, q6⟩ := HX6.out.belowS hb6
           obtain ⟨_, r1, r2, r3, r4, r5, r6⟩ := HY6.out.belowS hb6
           )
        | (go_at_call 50; (with_reducible refine (r2lowest_any t r p5 (m * d - n * e) (d * e) _ hr6.nat hp56.nat HDE.out NS.out N5.out).mono ?_); rintro e9 w7 ⟨v7, rfl, hv7, hb7⟩
           rw [← HQ.out] at hv7
           have hdw7 := below_then hdw6 hb7
           have HZ8 := Lib.hid (HZ7.out.belowS hb7)
           )
        | (go_at_call 53; (with_reducible refine (r2fits_any v7 _ _ hv7).mono ?_); rintro e9 w8 ⟨v, er8, rfl, hv1, hv2, hv3⟩
           obtain ⟨t9, x9, y9, rfl, ⟨a1, l91, k1, rfl, _⟩, ⟨a2, l92, k2, rfl, _⟩⟩ := rfrac_isF (w0 := w) hv2 hv3
           have hC := HZ8.out.belowS hv1
           have HC := Lib.hid hC
           have hbz := below_then hdw7 hv1
           obtain ⟨_, d0, d1, d2, e0, e1, e2⟩ := hC
           )
        )
      refine bodyPost_c3 rfl rfl Try.aggF Try.sizeF (HC.out.set _ _ _) rfl ?_
      exact ⟨_, _, rfl, below_set3 hbz (by omega) _ _ _, fun h => ⟨(hv2 h).1, (hv2 h).2.set3 HC.out (fun z => by simp) (fun z => by simp) _ _ _⟩, hv3⟩
end Go.Proofs.Ytoldfpkafcefnaa
namespace Go.Proofs.Ytoldfpkafcefnaa
set_option linter.unusedVariables false
set_option linter.unusedSimpArgs false
open Go.RowKit

theorem cmpN_swap (a b : Nat) : cmpN b a = -cmpN a b := by
  unfold cmpN
  rcases Nat.lt_trichotomy a b with h | h | h
  · rw [if_neg (by omega), if_pos h, if_pos h]; rfl
  · subst h; rw [if_neg (by omega), if_neg (by omega)]; rfl
  · rw [if_pos h, if_neg (by omega), if_pos h]
theorem nlen_prod {n e : Nat} (he : e ≠ 0) : (n = 0 → nlen (n * e) = 0) ∧ (n ≠ 0 → 0 < nlen (n * e)) :=
  ⟨fun h => nlen_eq_zero.2 (by rw [h, Nat.zero_mul]), fun h => nlen_pos_iff.2 (Nat.mul_ne_zero h he)⟩
set_option maxRecDepth 100000 in
set_option maxHeartbeats 1600000 in
theorem r2order_any (va vb : Value) (s t : Bool) (n d m e : Nat) (w : World) (ha : FracN w va s n d) (hb : FracN w vb t m e) (h1 : okN n d) (h2 : okN m e) :
    Calls Try.prog 97 #[va, vb] w fun en w' => en = .returned (.int .i64 (cmpR (fq s n d) (fq t m e))) ∧ Below w.heap.size w w' := by
  obtain ⟨xn, xd, rfl, hxn, hxd⟩ := ha
  obtain ⟨yn, yd, rfl, hyn, hyd⟩ := hb
  obtain ⟨an, ln, kn, rfl, _⟩ := hxn.slen.1
  obtain ⟨ad, ld, kd, rfl, _⟩ := hxd.slen.1
  obtain ⟨am, lm, km, rfl, _⟩ := hyn.slen.1
  obtain ⟨ae, le, ke, rfl, _⟩ := hyd.slen.1
  have l1 := Lib.hid (okN_nlen h1)
  have l2 := Lib.hid (okN_nlen h2)
  have z1 := nlen_prod (n := n) h2.1
  have z2 := nlen_prod (n := m) h1.1
  have HR := Lib.hid (cmpR_eq s t n d m e h1.1 h2.1)
  have HSW := Lib.hid (cmpN_swap (n * e) (m * d))
  clear h1 h2
  obtain ⟨L1, hL1⟩ : ∃ L, nlen (n * e) = L := ⟨_, rfl⟩
  obtain ⟨L2, hL2⟩ : ∃ L, nlen (m * d) = L := ⟨_, rfl⟩
  rw [hL1] at z1
  rw [hL2] at z2
  have HL1 := Lib.hid hL1
  have HL2 := Lib.hid hL2
  have hX : (s = false) ∨ (s = true ∧ n = 0 ∧ L1 = 0) ∨ (s = true ∧ n ≠ 0 ∧ 0 < L1) := by
    cases s
    · exact Or.inl rfl
    · by_cases h : n = 0
      · exact Or.inr (Or.inl ⟨rfl, h, z1.1 h⟩)
      · exact Or.inr (Or.inr ⟨rfl, h, z1.2 h⟩)
  have hY : (t = false) ∨ (t = true ∧ m = 0 ∧ L2 = 0) ∨ (t = true ∧ m ≠ 0 ∧ 0 < L2) := by
    cases t
    · exact Or.inl rfl
    · by_cases h : m = 0
      · exact Or.inr (Or.inl ⟨rfl, h, z2.1 h⟩)
      · exact Or.inr (Or.inr ⟨rfl, h, z2.2 h⟩)
  have HX0 := Lib.hid hX
  have HY0 := Lib.hid hY
  clear hL1 hL2 z1 z2 hX hY
  go_enter Try.func97, Try.ntmps97
  go_wp2_with fail
  obtain ⟨W, hW⟩ : ∃ W, W = ((w.alloc (.cells #[.bool s, .slice an ln kn, .slice ad ld kd] 50)).alloc (.cells #[.bool t, .slice am lm km, .slice ae le ke] 50)) := ⟨_, rfl⟩
  obtain ⟨bx, byy, hbw⟩ := two_boxes w 50 _ _ _ _ _ _ W hW
  rw [← hW]
  clear hW
  have hd2 := below_drew (B := W.heap.size) W
  have hD := below_then hbw hd2
  have hbx3 := bx.belowS hd2
  have hby3 := byy.belowS hd2
  have HX3 := Lib.hid hbx3
  have HY3 := Lib.hid hby3
  obtain ⟨_, q1, q2, q3, q4, q5, q6⟩ := hbx3
  obtain ⟨_, r1, r2, r3, r4, r5, r6⟩ := hby3
  have g1 := hxn.below hD
  have g2 := hxd.below hD
  have g3 := hyn.below hD
  have g4 := hyd.below hD
  clear bx byy hd2
  have tok1 : True := trivial
  go_region_held3 (fun w' => w'.cell? ⟨w.heap.size, 1, none⟩ = some (.slice an ln kn) ∧ w'.cell? ⟨w.heap.size, 2, none⟩ = some (.slice ad ld kd) ∧ w'.cell? ⟨w.heap.size + 1, 1, none⟩ = some (.slice am lm km) ∧ w'.cell? ⟨w.heap.size + 1, 2, none⟩ = some (.slice ae le ke)) (exact ⟨q2, q3, r2, r3⟩) (first
    | (go_at_call 54; have _t := tok1; clear tok1 _t; (with_reducible refine (r2times_any _ _ n e _ g1 g4 l1.out.1 l2.out.2).mono ?_); rintro e9 w3 ⟨p1, rfl, hp1, hp2⟩
       have X4 := HX3.out.belowS hp2
       have Y4 := HY3.out.belowS hp2
       have HX4 := Lib.hid X4
       have HY4 := Lib.hid Y4
       obtain ⟨_, q1, q2, q3, q4, q5, q6⟩ := X4
       obtain ⟨_, r1, r2, r3, r4, r5, r6⟩ := Y4)
    | (go_at_call 54; (with_reducible refine (r2times_any _ _ m d _ (g3.below hp2) (g2.below hp2) l2.out.1 l1.out.2).mono ?_); rintro e9 w4 ⟨p3, rfl, hp3, hp4⟩
       have hp24 := below_then hp2 hp4
       have hp14 := hp1.below hp4
       have X5 := HX4.out.belowS hp4
       have Y5 := HY4.out.belowS hp4
       have HX5 := Lib.hid X5
       have HY5 := Lib.hid Y5
       obtain ⟨_, q1, q2, q3, q4, q5, q6⟩ := X5
       obtain ⟨_, r1, r2, r3, r4, r5, r6⟩ := Y5))
  have hdw : Below w.heap.size w w4 := hD.trans (hp24.mono hD.size)
  have HP1 := Lib.hid hp14
  have HP3 := Lib.hid hp3
  have sp1 := hp14.v.sl
  have lp1 : slen p1 = L1 := hp14.v.len.trans HL1.out
  have sp3 := hp3.v.sl
  have lp3 : slen p3 = L2 := hp3.v.len.trans HL2.out
  have k1 := HX5.out.c0
  have k2 := HY5.out.c0
  clear hp24 hp14 hp1 hp3 hp2 hp4 hD g1 g2 g3 g4 HX3 HY3 HX4 HY4 q1 q2 q3 q4 q5 q6 r1 r2 r3 r4 r5 r6 hbw
  rcases HX0.out with rfl | ⟨rfl, hn0, hl0⟩ | ⟨rfl, hn0, hl0⟩ <;> rcases HY0.out with rfl | ⟨rfl, hm0, hk0⟩ | ⟨rfl, hm0, hk0⟩ <;> (
    try subst hl0
    try subst hk0
    clear HX0 HY0
    go_wp2_with (go_at_call 72; first
      | ((with_reducible refine (rcmp_any p1 p3 (n * e) (m * d) _ HP1.out.nat HP3.out.nat).mono ?_); rintro e9 w9 ⟨rfl, hb9⟩; have hdw := below_then hdw hb9)
      | ((with_reducible refine (rcmp_any p3 p1 (m * d) (n * e) _ HP3.out.nat HP1.out.nat).mono ?_); rintro e9 w9 ⟨rfl, hb9⟩; rw [HSW.out]; have hdw := below_then hdw hb9))
    all_goals
      go_ret
      exact ⟨by rw [HR.out]; simp [*], hdw⟩)
theorem cmpR_beq (p q : Rat) : (cmpR p q == 0) = decide (p = q) := by
  have := cmpR_self_iff p q
  by_cases h : p = q
  · rw [decide_eq_true h, this.2 h]; rfl
  · rw [decide_eq_false h]
    have h2 : cmpR p q ≠ 0 := fun e => h (this.1 e)
    simpa using h2
set_option maxHeartbeats 800000 in
theorem r2same_any (va vb : Value) (s t : Bool) (n d m e : Nat) (w : World) (ha : FracN w va s n d) (hb : FracN w vb t m e) (h1 : okN n d) (h2 : okN m e) :
    Calls Try.prog 77 #[va, vb] w fun en w' => en = .returned (.bool (decide (fq s n d = fq t m e))) ∧ Below w.heap.size w w' := by
  have hA := ha
  have hB := hb
  obtain ⟨xn, xd, rfl, hxn, hxd⟩ := ha
  obtain ⟨yn, yd, rfl, hyn, hyd⟩ := hb
  obtain ⟨an, ln, kn, rfl, _⟩ := hxn.slen.1
  obtain ⟨ad, ld, kd, rfl, _⟩ := hxd.slen.1
  obtain ⟨am, lm, km, rfl, _⟩ := hyn.slen.1
  obtain ⟨ae, le, ke, rfl, _⟩ := hyd.slen.1
  have K1 := Lib.hid h1
  have K2 := Lib.hid h2
  have HE := Lib.hid (cmpR_beq (fq s n d) (fq t m e))
  clear h1 h2
  go_enter Try.func77, Try.ntmps77
  go_wp2_with fail
  obtain ⟨W, hW⟩ : ∃ W, W = ((w.alloc (.cells #[.bool s, .slice an ln kn, .slice ad ld kd] 50)).alloc (.cells #[.bool t, .slice am lm km, .slice ae le ke] 50)) := ⟨_, rfl⟩
  obtain ⟨bx, byy, hbw⟩ := two_boxes w 50 _ _ _ _ _ _ W hW
  rw [← hW]
  clear hW
  obtain ⟨_, q1, q2, q3, q4, q5, q6⟩ := bx
  obtain ⟨_, r1, r2, r3, r4, r5, r6⟩ := byy
  go_wp2_with (go_at_call 97; (with_reducible refine (r2order_any _ _ s t n d m e _ (hA.below hbw) (hB.below hbw) K1.out K2.out).mono ?_); rintro e9 w9 ⟨rfl, hb9⟩)
  go_ret
  exact ⟨by rw [← HE.out]; rfl, below_then hbw hb9⟩
set_option maxHeartbeats 800000 in
theorem r2sign_any (va : Value) (s : Bool) (n d : Nat) (w : World) (ha : FracN w va s n d) (h1 : okN n d) :
    Calls Try.prog 75 #[va] w fun en w' => en = .returned (.int .i64 (cmpR (fq s n d) 0)) ∧ Below w.heap.size w w' := by
  have hA := ha
  obtain ⟨xn, xd, rfl, hxn, hxd⟩ := ha
  obtain ⟨an, ln, kn, rfl, _⟩ := hxn.slen.1
  obtain ⟨ad, ld, kd, rfl, _⟩ := hxd.slen.1
  have K1 := Lib.hid h1
  have K0 : Hid (okN (0 : Rat).num.natAbs (0 : Rat).den) := Lib.hid (by decide +kernel)
  have HE : Hid (cmpR (fq s n d) (fq false 0 1) = cmpR (fq s n d) 0) := Lib.hid (by rw [show fq false 0 1 = 0 from fq_zero false 1 (by decide)])
  clear h1
  go_enter Try.func75, Try.ntmps75
  go_wp2_with fail
  have bx := C3.new w 50 (.bool s) (.slice an ln kn) (.slice ad ld kd)
  have hbx := below_alloc w (.cells #[.bool s, .slice an ln kn, .slice ad ld kd] 50)
  generalize hW : w.alloc (.cells #[.bool s, .slice an ln kn, .slice ad ld kd] 50) = W at *
  clear hW
  have hd2 := below_drew (B := W.heap.size) W
  have hD := below_then hbx hd2
  have hbx3 := bx.belowS hd2
  have HX3 := Lib.hid hbx3
  obtain ⟨_, q1, q2, q3, q4, q5, q6⟩ := hbx3
  clear bx hd2
  go_region_held3 (fun w' => w'.cell? ⟨w.heap.size, 0, none⟩ = some (.bool s) ∧ w'.cell? ⟨w.heap.size, 1, none⟩ = some (.slice an ln kn) ∧ w'.cell? ⟨w.heap.size, 2, none⟩ = some (.slice ad ld kd)) (exact ⟨q1, q2, q3⟩) (first
    | (go_at_call 27; (with_reducible refine (r2int_zero _).mono ?_); rintro e9 w3 ⟨v3, rfl, hv3, hb3⟩
       obtain ⟨_, q1, q2, q3, q4, q5, q6⟩ := HX3.out.belowS hb3)
    | (go_at_call 97; (with_reducible refine (r2order_any _ _ s _ n d _ _ _ ((hA.below hD).below hb3) hv3.raw K1.out K0.out).mono ?_); rintro e9 w4 ⟨rfl, hb4⟩
       obtain ⟨_, q1, q2, q3, q4, q5, q6⟩ := HX3.out.belowS (below_then hb3 hb4)))
  go_wp2
  go_ret
  exact ⟨by rw [← HE.out]; rfl, below_then (below_then hD hb3) hb4⟩
end Go.Proofs.Ytoldfpkafcefnaa
namespace Go.Proofs.Ytoldfpkafcefnaa
set_option linter.unusedVariables false
set_option linter.unusedSimpArgs false
open Go.RowKit

set_option maxHeartbeats 800000 in
theorem part_any (va : Value) (l : List Int) (n : Nat) (w : World) (ha : IntsV w va l) :
    Calls Try.prog 42 #[va, .int .i64 n] w (RSame w (okB l ∧ l.length = n)) := by
  have sa := CellsV.sl ha
  have la := ha.len
  have hle := sa.le
  rw [la] at hle
  have hlb : l.length ≤ 9223372036854775807 := by omega
  clear hle
  by_cases hln : l.length = n
  · subst hln
    go_enter Try.func42, Try.ntmps42
    go_wp2_with fail
    go_loop [5, 6] (fun u5 u6 => ∃ (k : Nat), k ≤ l.length ∧ u6 = .int .i64 k ∧ u5 = .int .i64 (cnt (l.take k) : Nat) ∧ (∀ j b, j < k → l[j]? = some b → 0 ≤ b ∧ b ≤ (cnt (l.take j) : Int))) (fun _ u6 => l.length - (intOf u6).toNat)
    case atStart => exact ⟨0, Nat.zero_le _, rfl, rfl, fun j b h => by omega⟩
    case round =>
      obtain ⟨k, hk, rfl, rfl, hst⟩ := hrel
      have HST := Lib.hid hst
      clear hst
      have hck := cnt_le l k
      by_cases hkl : k < l.length
      · have hc := ha.at' k hkl
        have HG : Hid (l[k]? = some (l[k]'hkl)) := Lib.hid (List.getElem?_eq_getElem hkl)
        have HCT := Lib.hid (cnt_take l k hkl)
        generalize l[k]'hkl = b at *
        generalize hcn : cnt (l.take k) = n at *
        have HCN := Lib.hid hcn
        clear hcn
        by_cases hbad : b < 0 ∨ (n : Int) < b
        · have HB : Hid (¬ okB l) := Lib.hid (fun h => by have h6 := h k b HG.out; rw [HCN.out] at h6; omega)
          rcases hbad with h | h
          · go_wp2_with fail
            go_ret
            exact ⟨⟨false, rfl, by simp, fun h => absurd h HB.out⟩, Below.refl _ _⟩
          · by_cases h0 : b < 0
            · omega
            · go_wp2_with fail
              go_ret
              exact ⟨⟨false, rfl, by simp, fun h => absurd h HB.out⟩, Below.refl _ _⟩
        · have h1 : ¬ b < 0 := fun h => hbad (Or.inl h)
          have h2 : ¬ (n : Int) < b := fun h => hbad (Or.inr h)
          have HST2 : Hid (∀ j b', j < k + 1 → l[j]? = some b' → 0 ≤ b' ∧ b' ≤ (cnt (l.take j) : Int)) := Lib.hid (fun j b' hj hb' => by
            rcases Nat.lt_or_ge j k with h6 | h6
            · exact HST.out j b' h6 hb'
            · obtain rfl : j = k := by omega
              rw [HG.out] at hb'
              injection hb' with hb'
              subst hb'
              rw [HCN.out]; omega)
          clear hbad
          by_cases hbn : b = (n : Int)
          · have hbb : (b == (n : Int)) = true := by simp [hbn]
            have HE := Lib.hid hbn
            clear hbn
            go_wp2_with fail
            go_round
            case rel => exact ⟨k + 1, hkl, by go_num, by rw [HCT.out, if_pos HE.out]; go_num, HST2.out⟩
            case measure => simp [intOf]; omega
          · have hbb : (b == (n : Int)) = false := by simpa using hbn
            have HE := Lib.hid hbn
            clear hbn
            go_wp2_with fail
            go_round
            case rel => exact ⟨k + 1, hkl, by go_num, by rw [HCT.out, if_neg HE.out], HST2.out⟩
            case measure => simp [intOf]; omega
      · obtain rfl : k = l.length := by omega
        have HOK : Hid (okB l) := Lib.hid (fun k b h => HST.out k b (List.getElem?_eq_some_iff.1 h).1 h)
        go_wp2_with fail
        go_ret
        exact ⟨⟨true, rfl, fun _ => HOK.out, fun _ => rfl⟩, Below.refl _ _⟩
  · have hb : (((l.length : Nat) : Int) != (n : Nat)) = true := by simp; omega
    have HB := Lib.hid hln
    clear hln
    go_enter Try.func42, Try.ntmps42
    go_wp2_with fail
    go_ret
    exact ⟨⟨false, rfl, by simp, fun h => absurd h.2 HB.out⟩, Below.refl _ _⟩
set_option maxHeartbeats 800000 in
theorem rcount_any (va : Value) (l : List Int) (w : World) (ha : IntsV w va l) (hok : okB l) :
    Calls Try.prog 44 #[va] w fun e w' => e = .returned (.int .i64 (cnt l : Nat)) ∧ w = w' := by
  have sa := CellsV.sl ha
  have la := ha.len
  have hle := sa.le
  rw [la] at hle
  have hlb : l.length ≤ 9223372036854775807 := by omega
  have HOK := Lib.hid hok
  clear hle hok
  go_enter Try.func44, Try.ntmps44
  go_wp2_with fail
  go_loop [3, 4] (fun u3 u4 => ∃ (k : Nat), k ≤ l.length ∧ u4 = .int .i64 k ∧ u3 = .int .i64 (cnt (l.take k) : Nat)) (fun _ u4 => l.length - (intOf u4).toNat)
  case atStart => exact ⟨0, Nat.zero_le _, rfl, rfl⟩
  case round =>
    obtain ⟨k, hk, rfl, rfl⟩ := hrel
    have hck := cnt_le l k
    by_cases hkl : k < l.length
    · have hc := ha.at' k hkl
      have hb := HOK.out k _ (List.getElem?_eq_getElem hkl)
      have HCT := Lib.hid (cnt_take l k hkl)
      generalize l[k]'hkl = b at *
      generalize hcn : cnt (l.take k) = n at *
      obtain ⟨h1, h2⟩ := hb
      obtain ⟨b, rfl⟩ : ∃ x : Nat, b = (x : Int) := ⟨b.toNat, by omega⟩
      have h3 : b ≤ n := by omega
      clear hcn h1 h2
      by_cases hbn : b = n
      · subst hbn
        go_wp2_with fail
        go_round
        case rel => exact ⟨k + 1, hkl, by go_num, by rw [HCT.out, if_pos rfl]; simp⟩
        case measure => simp [intOf]; omega
      · have HE := Lib.hid hbn
        go_wp2_with fail
        go_round
        case rel => exact ⟨k + 1, hkl, by go_num, by rw [HCT.out, if_neg (by have := HE.out; omega)]⟩
        case measure => simp [intOf]; omega
    · obtain rfl : k = l.length := by omega
      rw [List.take_length] at *
      go_wp2_with fail
      go_ret
      exact ⟨rfl, rfl⟩
end Go.Proofs.Ytoldfpkafcefnaa
namespace Go.Proofs.Ytoldfpkafcefnaa
set_option linter.unusedVariables false
set_option linter.unusedSimpArgs false
open Go.RowKit

/-- The sums over the blocks on the way. -/
theorem bsum_fits_row {bl : List Int} {row : List RF} (h : rowP row row.length) (m : Nat) (j : Int) : fits (bsum (bl.take m) ((qs row).take m) j) :=
  bsum_fits m j (fun q hq => by
    obtain ⟨x, hx, rfl⟩ := List.mem_map.1 hq
    exact Rat.not_lt.1 (h.1 x hx).2.1) h.2.2
set_option maxRecDepth 100000 in
set_option maxHeartbeats 3200000 in
theorem rate_any (va vb : Value) (c : RC) (bl : List Int) (i : Nat) (z : Int) (w : World) (ha : ChainN w va c) (hb : IntsV w vb bl) (hi : i < c.rates.length) (hlen : (c.rates[i]).length = bl.length) (hrow : rowP c.rates[i] (c.rates[i]).length) :
    Calls Try.prog 48 #[va, vb, .int .i64 i, .int .i64 z] w (RF1 w (bsum bl (qs c.rates[i]) z)) := by
  obtain ⟨rv, sv, lv, rfl, hr, hs, hl⟩ := id ha
  obtain ⟨ra, rn, rk, rfl, r1, r2, r3⟩ := id hr.sl
  obtain ⟨sa, sn, sk, rfl, s1, s2, s3⟩ := id hs.sl
  obtain ⟨la, ln, lk, rfl, l1, l2, l3⟩ := id (CellsV.sl hl)
  have hrn : rn = c.rates.length := hr.len
  subst hrn
  have sr := hr.sl
  have sb := CellsV.sl hb
  have lb := hb.len
  have hle := sb.le
  rw [lb] at hle
  have hlb : bl.length ≤ 9223372036854775807 := by omega
  obtain ⟨rw', hrw, hrf⟩ := hr.at' i hi
  obtain ⟨ea, en, ek, rfl, _⟩ := id hrf.sl
  have hen : en = bl.length := hrf.len.trans hlen
  subst hen
  have se := hrf.sl
  have HROW := Lib.hid hrow
  generalize c.rates[i]'hi = row at *
  have HLEN := Lib.hid hlen
  have hbx := below_alloc w (.cells #[.slice ra c.rates.length rk, .slice sa sn sk, .slice la ln lk] 27)
  have hb2 := below_alloc (w.alloc (.cells #[.slice ra c.rates.length rk, .slice sa sn sk, .slice la ln lk] 27)) (.cells #[.bool false, .slice none 0 0, .slice none 0 0] 50)
  have hC := (C3.new w 27 (.slice ra c.rates.length rk) (.slice sa sn sk) (.slice la ln lk)).belowS hb2
  have hR := C3.newB (b := w.heap.size + 1) (w.alloc (.cells #[.slice ra c.rates.length rk, .slice sa sn sk, .slice la ln lk] 27)) 50 (.bool false) (.slice none 0 0) (.slice none 0 0) (by simp)
  have hbw := below_then hbx hb2
  have HC := Lib.hid hC
  have HR := Lib.hid hR
  have i1 : (0 : Int) ≤ (i : Int) := by omega
  have i2 : (i : Int) < (c.rates.length : Nat) := by omega
  have i3 : c.rates.length ≤ 9223372036854775807 := by simp [maxLen] at r2; omega
  clear hC hR ha hs hl hlen hrow hbx hb2 hle
  go_enter Try.func48, Try.ntmps48
  go_wp2_with (go_at_call 27; (with_reducible refine (r2int_zero _).mono ?_); rintro e1 w1 ⟨v1, rfl, hv1, hb1⟩
               obtain ⟨t9, x9, y9, rfl, ⟨a1, l91, k1, rfl, _⟩, ⟨a2, l92, k2, rfl, _⟩⟩ := hv1.isF
               have hT := C3.new w1 50 (.bool t9) (.slice a1 l91 k1) (.slice a2 l92 k2)
               have hb3 := below_alloc w1 (.cells #[.bool t9, .slice a1 l91 k1, .slice a2 l92 k2] 50)
               have HV := Lib.hid (hv1.below hb3)
               have HB := Lib.hid (below_then (below_then hbw hb1) hb3)
               have HC3 := Lib.hid ((HC.out.belowS hb1).belowS hb3)
               have HR3 := Lib.hid ((HR.out.belowS hb1).belowS hb3)
               have hS : w.heap.size + 1 < w1.heap.size := (HR.out.belowS hb1).lt)
  generalize w1.alloc (.cells #[.bool t9, .slice a1 l91 k1, .slice a2 l92 k2] 50) = W1 at *
  generalize w1.heap.size = S at *
  clear hb1 hb3 hv1 hbw
  go_loopw [10] (fun u10 wr => ∃ (k : Nat) (v0 v1 v2 : Value), k ≤ bl.length ∧ u10 = .int .i64 k ∧ C3 wr S v0 v1 v2 ∧ FracC wr (.agg #[v0, v1, v2]) (bsum (bl.take k) ((qs row).take k) z) ∧ C3 wr (w.heap.size + 1) (.bool false) (.slice none 0 0) (.slice none 0 0) ∧ C3 wr w.heap.size (.slice ra c.rates.length rk) (.slice sa sn sk) (.slice la ln lk) ∧ Below w.heap.size w wr) (fun u10 _ => bl.length - (intOf u10).toNat)
  case atStart => exact ⟨0, _, _, _, Nat.zero_le _, rfl, hT, by simpa [bsum, bsel, lsum] using HV.out, HR3.out, HC3.out, HB.out⟩
  case round =>
    obtain ⟨k, v0, v1, v2, hk, rfl, hs, hf, hr2, hc2, hbr⟩ := hrel
    obtain ⟨s0, b1, m1, j1, b2, m2, j2, rfl, rfl, rfl⟩ := C3.frac hf
    have HS := Lib.hid hs
    have HR := Lib.hid hr2
    have HC2 := Lib.hid hc2
    have HF := Lib.hid hf
    have HBR := Lib.hid hbr
    clear hT HV HR3 HC3 HB HC
    obtain ⟨_, q0, q1, q2, f0, f1, f2⟩ := hs
    obtain ⟨_, c0, _, _, _, _, _⟩ := hc2
    obtain ⟨_, d0, d1, d2, g0, g1, g2⟩ := hr2
    clear hf
    by_cases hkl : k < bl.length
    · have hbc := (hb.below hbr).at' k hkl
      have hkr : k < row.length := by rw [HLEN.out]; exact hkl
      have hrc := cell_below hbr hrw
      obtain ⟨xa, xb, e1, e2, e3, hxa, hxb⟩ := (hrf.below hbr).at' k hkr
      obtain ⟨c1a, c1l, c1k, rfl, _⟩ := hxa.slen.1
      obtain ⟨c2a, c2l, c2k, rfl, _⟩ := hxb.slen.1
      have HBT : Hid (bsum (bl.take (k + 1)) ((qs row).take (k + 1)) z = if bl[k]'hkl = z then bsum (bl.take k) ((qs row).take k) z + (row[k]'hkr).q else bsum (bl.take k) ((qs row).take k) z) := Lib.hid (by
        rw [bsum_take bl (qs row) z k hkl (by rw [qs_length]; exact hkr), qs_get row k hkr])
      have HXO : Hid (okN (row[k]'hkr).n (row[k]'hkr).d) := Lib.hid (HROW.out.ok _ (List.getElem_mem hkr))
      generalize bl[k]'hkl = bk at *
      generalize row[k]'hkr = x at *
      have HA := Lib.hid (And.intro hxa hxb)
      have i4 : (0 : Int) ≤ (k : Int) := by omega
      have i5 : (k : Int) < (bl.length : Nat) := by omega
      clear hxa hxb hkr
      by_cases hbz : bk = z
      · have hbb : (bk == z) = true := by simp [hbz]
        have HE := Lib.hid hbz
        clear hbz
        go_wp2_with fail
        have hD := below_drew (B := wr.heap.size) wr
        have hSD := HS.out.belowS hD
        have HSD := Lib.hid hSD
        have hFD := HF.out.below hD
        have hF1 := hFD.raw
        have hF2 : FracN wr.drew (.agg #[.bool x.neg, .slice c1a c1l c1k, .slice c2a c2l c2k]) x.neg x.n x.d := ⟨_, _, rfl, HA.out.1.below hD, HA.out.2.below hD⟩
        have HF1 := Lib.hid (fits_okN (bsum_fits_row (bl := bl) HROW.out k z))
        have HF3 := Lib.hid (bsum_fits_row (bl := bl) HROW.out (k + 1) z)
        have HEQ : Hid (fq (decide (bsum (bl.take k) ((qs row).take k) z < 0)) (bsum (bl.take k) ((qs row).take k) z).num.natAbs (bsum (bl.take k) ((qs row).take k) z).den + fq x.neg x.n x.d = bsum (bl.take (k + 1)) ((qs row).take (k + 1)) z) := Lib.hid (by rw [fq_self, HBT.out, if_pos HE.out]; rfl)
        have c0D := cell_below hD c0
        have hrcD := cell_below hD hrc
        have e1D := cell_below hD e1
        have e2D := cell_below hD e2
        have e3D := cell_below hD e3
        clear q0 q1 q2 f0 f1 f2 c0 hrc e1 e2 e3 hFD
        obtain ⟨_, q0, q1, q2, f0, f1, f2⟩ := hSD
        go_region_law (refine step_call rfl 45 #[.agg #[.bool s0, .slice b1 m1 j1, .slice b2 m2 j2], .agg #[.bool x.neg, .slice c1a c1l c1k, .slice c2a c2l c2k]] ?_ (r2add_any _ _ _ _ _ _ _ _ _ hF1 hF2 HF1.out HXO.out) ?_; go_simp; rw [HEQ.out]; rintro e9 w9 ⟨v9, er, rfl, hb9, hv7, _⟩; refine ⟨_, rfl, ?_⟩
                       obtain ⟨rfl, hv8⟩ := hv7 HF3.out
                       obtain ⟨t9, x9, y9, rfl, ⟨a1, l91, k1, rfl, _⟩, ⟨a2, l92, k2, rfl, _⟩⟩ := hv8.isF
                       have c0D := cell_below hb9 c0D
                       have hrcD := cell_below hb9 hrcD
                       have e1D := cell_below hb9 e1D
                       have e2D := cell_below hb9 e2D
                       have e3D := cell_below hb9 e3D
                       have hS9 := HSD.out.belowS hb9
                       have HS9 := Lib.hid hS9
                       obtain ⟨_, q0, q1, q2, f0, f1, f2⟩ := hS9)
        all_goals
          clear c0D hrcD e1D e2D e3D q0 q1 q2
          go_wp2
          go_roundw
          case rel => exact ⟨k + 1, _, _, _, hkl, by go_num, HS9.out.set _ _ _, hv8.set3 HS9.out (fun z => by simp) (fun z => by simp) _ _ _, ((HR.out.belowS hD).belowS hb9).set_other (by omega) _ _ _, ((HC2.out.belowS hD).belowS hb9).set_other (by omega) _ _ _, below_set3 (below_then (below_then HBR.out hD) hb9) (by omega) _ _ _⟩
          case measure => simp [intOf]; omega
      · have hbb : (bk == z) = false := by simpa using hbz
        have HE := Lib.hid hbz
        clear hbz
        go_wp2_with fail
        go_roundw
        case rel => exact ⟨k + 1, _, _, _, hkl, by go_num, HS.out, by rw [HBT.out, if_neg HE.out]; exact HF.out, HR.out, HC2.out, HBR.out⟩
        case measure => simp [intOf]; omega
    · obtain rfl : k = bl.length := by omega
      have HF2 : Hid (FracC wr (.agg #[.bool s0, .slice b1 m1 j1, .slice b2 m2 j2]) (bsum bl (qs row) z)) := Lib.hid (by
        have h5 := HF.out
        rwa [List.take_length, List.take_of_length_le (by rw [qs_length, HLEN.out]; exact Nat.le_refl _)] at h5)
      clear HF
      go_wp2
      refine bodyPost_c1 rfl rfl Try.aggF Try.sizeF (HR.out.set _ _ _) rfl ?_
      exact ⟨_, rfl, HF2.out.set3 HR.out (fun z => by simp) (fun z => by simp) _ _ _, below_set3 HBR.out (by omega) _ _ _⟩
end Go.Proofs.Ytoldfpkafcefnaa
namespace Go.Proofs.Ytoldfpkafcefnaa
set_option linter.unusedVariables false
set_option linter.unusedSimpArgs false
open Go.RowKit

theorem keep6w {w0 X Y : World} {a1 a2 a3 a4 a5 a6 : Addr} {x1 x2 x3 x4 x5 x6 : Value} (h : X.cell? a1 = some x1 ∧ X.cell? a2 = some x2 ∧ X.cell? a3 = some x3 ∧ X.cell? a4 = some x4 ∧ X.cell? a5 = some x5 ∧ X.cell? a6 = some x6 ∧ Below w0.heap.size w0 X) (hb : Below X.heap.size X Y) :
    Y.cell? a1 = some x1 ∧ Y.cell? a2 = some x2 ∧ Y.cell? a3 = some x3 ∧ Y.cell? a4 = some x4 ∧ Y.cell? a5 = some x5 ∧ Y.cell? a6 = some x6 ∧ Below w0.heap.size w0 Y := by
  obtain ⟨k1, k2, k3, k4, k5, k6, k7⟩ := h
  exact ⟨cell_below hb k1, cell_below hb k2, cell_below hb k3, cell_below hb k4, cell_below hb k5, cell_below hb k6, below_then k7 hb⟩
theorem keep6a {w0 X : World} {a1 a2 a3 a4 a5 a6 : Addr} {x1 x2 x3 x4 x5 x6 : Value} (h : w0.cell? a1 = some x1 ∧ w0.cell? a2 = some x2 ∧ w0.cell? a3 = some x3 ∧ w0.cell? a4 = some x4 ∧ w0.cell? a5 = some x5 ∧ w0.cell? a6 = some x6) (hb : Below w0.heap.size w0 X) :
    X.cell? a1 = some x1 ∧ X.cell? a2 = some x2 ∧ X.cell? a3 = some x3 ∧ X.cell? a4 = some x4 ∧ X.cell? a5 = some x5 ∧ X.cell? a6 = some x6 ∧ Below w0.heap.size w0 X := by
  obtain ⟨k1, k2, k3, k4, k5, k6⟩ := h
  exact ⟨cell_below hb k1, cell_below hb k2, cell_below hb k3, cell_below hb k4, cell_below hb k5, cell_below hb k6, hb⟩
theorem keep6c {w0 X : World} {a1 a2 a3 a4 a5 a6 : Addr} {x1 x2 x3 x4 x5 x6 : Value} (h : X.cell? a1 = some x1 ∧ X.cell? a2 = some x2 ∧ X.cell? a3 = some x3 ∧ X.cell? a4 = some x4 ∧ X.cell? a5 = some x5 ∧ X.cell? a6 = some x6 ∧ Below w0.heap.size w0 X) : Below w0.heap.size w0 X := h.2.2.2.2.2.2
theorem keep6s {w0 X : World} {a1 a2 a3 a4 a5 a6 : Addr} {x1 x2 x3 x4 x5 x6 : Value} (h : w0.cell? a1 = some x1 ∧ w0.cell? a2 = some x2 ∧ w0.cell? a3 = some x3 ∧ w0.cell? a4 = some x4 ∧ w0.cell? a5 = some x5 ∧ w0.cell? a6 = some x6) (hb : Below w0.heap.size w0 X) {b : Nat} (hB : w0.heap.size ≤ b) (x y z : Value) :
    (((X.setCell ⟨b, 0, none⟩ x).setCell ⟨b, 1, none⟩ y).setCell ⟨b, 2, none⟩ z).cell? a1 = some x1 ∧ (((X.setCell ⟨b, 0, none⟩ x).setCell ⟨b, 1, none⟩ y).setCell ⟨b, 2, none⟩ z).cell? a2 = some x2 ∧ (((X.setCell ⟨b, 0, none⟩ x).setCell ⟨b, 1, none⟩ y).setCell ⟨b, 2, none⟩ z).cell? a3 = some x3 ∧
    (((X.setCell ⟨b, 0, none⟩ x).setCell ⟨b, 1, none⟩ y).setCell ⟨b, 2, none⟩ z).cell? a4 = some x4 ∧ (((X.setCell ⟨b, 0, none⟩ x).setCell ⟨b, 1, none⟩ y).setCell ⟨b, 2, none⟩ z).cell? a5 = some x5 ∧ (((X.setCell ⟨b, 0, none⟩ x).setCell ⟨b, 1, none⟩ y).setCell ⟨b, 2, none⟩ z).cell? a6 = some x6 ∧ Below w0.heap.size w0 (((X.setCell ⟨b, 0, none⟩ x).setCell ⟨b, 1, none⟩ y).setCell ⟨b, 2, none⟩ z) :=
  keep6a h (below_set3 hb hB x y z)
theorem FracC.same {w : World} {va vb : Value} {p q : Rat} (ha : FracC w va p) (hb : FracC w vb q) (hp : fits p) (hq : fits q) :
    Calls Try.prog 77 #[va, vb] w fun en w' => en = .returned (.bool (decide (p = q))) ∧ Below w.heap.size w w' := by
  have := r2same_any va vb _ _ _ _ _ _ w ha.raw hb.raw (fits_okN hp) (fits_okN hq)
  rwa [fq_self, fq_self] at this
/-- Add, where the sum fits. -/
theorem r2add_acc (va vb : Value) (p r : Rat) (x : RF) (w : World) (ha : FracC w va p) (hb : FracN w vb x.neg x.n x.d) (hp : fits p) (hx : okN x.n x.d) (hr : p + x.q = r) (hf : fits r) :
    Calls Try.prog 45 #[va, vb] w (RF0 w r) := by
  refine (r2add_any va vb _ _ _ _ _ _ w ha.raw hb (fits_okN hp) hx).mono ?_
  rw [fq_self, show p + fq x.neg x.n x.d = r from hr]
  rintro e w' ⟨v, er, rfl, h1, h2, _⟩
  obtain ⟨rfl, h3⟩ := h2 hf
  exact ⟨v, rfl, h3, h1⟩
set_option maxRecDepth 100000 in
set_option maxHeartbeats 3200000 in
theorem r2sum_fit (va : Value) (l : List RF) (w : World) (ha : FracsN w va l) (hok : ∀ x ∈ l, x.ok) (hfit : ∀ k, k ≤ l.length → fits (lsum (qs (l.take k)))) :
    Calls Try.prog 76 #[va] w (RF0 w (lsum (qs l))) := by
  have sa := ha.sl
  have la := ha.len
  have hle := sa.le
  rw [la] at hle
  have hlb : l.length ≤ 9223372036854775807 := by omega
  have HOK := Lib.hid hok
  have HFIT := Lib.hid hfit
  clear hok hfit hle
  have hb0 := (below_alloc w (.cells #[.bool false, .slice none 0 0, .slice none 0 0] 50))
  have HR0 := Lib.hid (C3.new w 50 (.bool false) (.slice none 0 0) (.slice none 0 0))
  go_enter Try.func76, Try.ntmps76
  go_wp2_with (go_at_call 27; (with_reducible refine (r2int_zero _).mono ?_); rintro e1 w1 ⟨v1, rfl, hv1, hb1⟩
               obtain ⟨t9, x9, y9, rfl, ⟨a1, l91, k1, rfl, _⟩, ⟨a2, l92, k2, rfl, _⟩⟩ := hv1.isF
               have hT := C3.new w1 50 (.bool t9) (.slice a1 l91 k1) (.slice a2 l92 k2)
               have hb3 := below_alloc w1 (.cells #[.bool t9, .slice a1 l91 k1, .slice a2 l92 k2] 50)
               have HV := Lib.hid (hv1.below hb3)
               have HB := Lib.hid (below_then (below_then hb0 hb1) hb3)
               have HR3 := Lib.hid ((HR0.out.belowS hb1).belowS hb3)
               have hS : w.heap.size < w1.heap.size := (HR0.out.belowS hb1).lt)
  generalize w1.alloc (.cells #[.bool t9, .slice a1 l91 k1, .slice a2 l92 k2] 50) = W1 at *
  generalize w1.heap.size = S at *
  clear hb0 hb1 hb3 hv1
  go_loopg [5] (l.length) (fun g u5 wr => ∃ (k : Nat) (v0 v1 v2 : Value), k ≤ l.length ∧ g = l.length - k ∧ u5 = .int .i64 k ∧ C3 wr S v0 v1 v2 ∧ FracC wr (.agg #[v0, v1, v2]) (lsum (qs (l.take k))) ∧ C3 wr w.heap.size (.bool false) (.slice none 0 0) (.slice none 0 0) ∧ Below w.heap.size w wr)
  case atStart => exact ⟨0, _, _, _, Nat.zero_le _, rfl, rfl, hT, HV.out, HR3.out, HB.out⟩
  case round =>
    obtain ⟨k, v0, v1, v2, hk, hg, rfl, hs, hf, hr, hbr⟩ := hrel
    obtain ⟨s0, b1, m1, j1, b2, m2, j2, rfl, rfl, rfl⟩ := C3.frac hf
    obtain ⟨w2, hw2⟩ : ∃ w2, w2 = wr := ⟨_, rfl⟩
    subst hw2
    have HS := Lib.hid hs
    have HR := Lib.hid hr
    have HF := Lib.hid hf
    have HBR := Lib.hid hbr
    clear hT HV HR3 HB hf
    obtain ⟨_, s1, s2, s3, s4, s5, s6⟩ := hs
    obtain ⟨_, q1, q2, q3, q4, q5, q6⟩ := hr
    by_cases hkl : k < l.length
    · obtain ⟨xa, xb, c1, c2, c3, hxa, hxb⟩ := (ha.below hbr).at' k hkl
      obtain ⟨c1a, c1l, c1k, rfl, _⟩ := hxa.slen.1
      obtain ⟨c2a, c2l, c2k, rfl, _⟩ := hxb.slen.1
      have HO : Hid (okN l[k].n l[k].d) := Lib.hid (HOK.out l[k] (List.getElem_mem hkl))
      have HQ := Lib.hid (HFIT.out k hk)
      have HE : Hid (lsum (qs (l.take k)) + (l[k]'hkl).q = lsum (qs (l.take (k + 1)))) := Lib.hid (lsum_qs l k hkl).symm
      have HF1 := Lib.hid (HFIT.out (k + 1) hkl)
      generalize l[k]'hkl = x at *
      have HA : Hid (FracN w2 (.agg #[.bool x.neg, .slice c1a c1l c1k, .slice c2a c2l c2k]) x.neg x.n x.d) := Lib.hid ⟨_, _, rfl, hxa, hxb⟩
      have S0 := Lib.hid (And.intro s1 (And.intro s2 (And.intro s3 (And.intro c1 (And.intro c2 c3)))))
      have i1 : (0 : Int) ≤ (k : Int) := by omega
      have i2 : (k : Int) < (l.length : Nat) := by omega
      clear hxa hxb s1 s2 s3 s4 s5 s6 q1 q2 q3 q4 q5 q6 c1 c2 c3 hbr
      go_wp2_with fail
      go_cut [6, 7] (fun u6 u7 wy => ∃ (b6 : Nat) (t' : Bool) (x' y' : Value), u6 = .pointer (some ⟨b6, 0, none⟩) ∧ u7 = .int .i64 0 ∧ C3 wy b6 (.bool t') x' y' ∧ FracC wy (.agg #[.bool t', x', y']) (lsum (qs (l.take (k + 1)))) ∧ Below w2.heap.size w2 wy)
      case first =>
        go_region_held3 (fun w' => w'.cell? ⟨S, 0, none⟩ = some (.bool s0) ∧ w'.cell? ⟨S, 1, none⟩ = some (.slice b1 m1 j1) ∧ w'.cell? ⟨S, 2, none⟩ = some (.slice b2 m2 j2) ∧ w'.cell? (ptr va (k * 3)) = some (.bool x.neg) ∧ w'.cell? (ptr va (k * 3 + 1)) = some (.slice c1a c1l c1k) ∧ w'.cell? (ptr va (k * 3 + 2)) = some (.slice c2a c2l c2k) ∧ Below w2.heap.size w2 w') (first
          | with_reducible exact keep6a S0.out (below_drew _)
          | with_reducible exact keep6w (by assumption) (below_alloc _ _)
          | with_reducible exact keep6w (by assumption) (by assumption)
          | with_reducible exact keep6a S0.out (below_then hB31 (below_alloc _ _))
          | with_reducible exact keep6s S0.out hB31 (Nat.le_refl _) _ _ _) (first
          | (go_at_call 45; (with_reducible refine (r2add_acc _ _ (lsum (qs (l.take k))) (lsum (qs (l.take (k + 1)))) x _ (HF.out.below (keep6c (by assumption))) (HA.out.below (keep6c (by assumption))) HQ.out HO.out HE.out HF1.out).mono ?_); rintro e31 w31 ⟨v31, rfl, hv31, hb31⟩
             obtain ⟨t31, x31, y31, rfl, ⟨a311, l311, k311, rfl, _⟩, ⟨a312, l312, k312, rfl, _⟩⟩ := hv31.isF
             have hB31 := below_then (keep6c (by assumption)) hb31
             have hc5 := (fun (p : Addr) hp => hb31.cell (p := p) hp)
             have hf5 := (fun (p : Addr) hp => hb31.frozen (p := p) hp)
             have zq := hb31.size
             (try simp only [sizeA, sizeD] at zq)
             (try have z1 : w2.heap.size < w31.heap.size := (by omega))))
        all_goals
          have hE := keep6c (by assumption)
          go_wp2_with fail
          go_meet
          case rel =>
            first
              | exact ⟨_, _, _, _, rfl, rfl, C3.new w31 _ _ _ _, hv31.below (below_alloc _ _), hE⟩
              | exact ⟨_, _, _, _, rfl, rfl, (((C3.newB (b := w2.heap.size) w2 50 (.bool false) (.slice none 0 0) (.slice none 0 0) rfl).belowS (below_drew _)).belowS hb31).set _ _ _, hv31.set3 (((C3.newB (b := w2.heap.size) w2 50 (.bool false) (.slice none 0 0) (.slice none 0 0) rfl).belowS (below_drew _)).belowS hb31) (fun z => by simp) (fun z => by simp) _ _ _, hE⟩
      case rest =>
        obtain ⟨b6, t6, x6, y6, rfl, rfl, hC6, hv6, hb6⟩ := hcut
        obtain ⟨w3, hw3⟩ : ∃ w3, w3 = wc := ⟨_, rfl⟩
        subst hw3
        have hv6' := hv6
        obtain ⟨_, _, _, hF6, ⟨a61, l61, k61, rfl, _⟩, ⟨a62, l62, k62, rfl, _⟩⟩ := hv6'.isF
        injection hF6 with hF6
        injection hF6 with hF6
        simp only [List.cons.injEq, and_true, Value.bool.injEq] at hF6
        obtain ⟨rfl, rfl, rfl⟩ := hF6
        have HS3 := Lib.hid (HS.out.belowS hb6)
        have HR3 := Lib.hid (HR.out.belowS hb6)
        have HB3 := Lib.hid (below_then HBR.out hb6)
        obtain ⟨_, e1, e2, e3, _, _, _⟩ := id hC6
        obtain ⟨_, s1, s2, s3, s4, s5, s6⟩ := HS3.out
        go_wp2_with fail
        go_roundg (l.length - (k + 1))
        case measure => omega
        case rel => exact ⟨k + 1, _, _, _, hkl, rfl, by go_num, HS3.out.set _ _ _, hv6.set3 HS3.out (fun z => by simp) (fun z => by simp) _ _ _, HR3.out.set_other (by omega) _ _ _, below_set3 HB3.out (by omega) _ _ _⟩
    · obtain rfl : k = l.length := by omega
      have HF2 : Hid (FracC w2 (.agg #[.bool s0, .slice b1 m1 j1, .slice b2 m2 j2]) (lsum (qs l))) := Lib.hid (by have h5 := HF.out; rw [List.take_length] at h5; exact h5)
      clear HF
      go_wp2
      refine bodyPost_c3 rfl rfl Try.aggF Try.sizeF (HR.out.set _ _ _) rfl ?_
      exact ⟨_, rfl, HF2.out.set3 HR.out (fun z => by simp) (fun z => by simp) _ _ _, below_set3 hbr (Nat.le_refl _) _ _ _⟩
end Go.Proofs.Ytoldfpkafcefnaa
namespace Go.Proofs.Ytoldfpkafcefnaa
set_option linter.unusedVariables false
set_option linter.unusedSimpArgs false
open Go.RowKit

theorem r2reduce_ok (va : Value) (x : RF) (w : World) (ha : FracN w va x.neg x.n x.d) (hx : x.ok) : Calls Try.prog 101 #[va] w (RF0 w x.q) :=
  (r2reduce_any va x.neg x.n x.d w ha).mono fun e w' h => by
    obtain ⟨v, er, rfl, h1, h2, _⟩ := h
    obtain ⟨rfl, h3⟩ := h2 hx
    exact ⟨v, rfl, h3, h1⟩
/-- The first limb of a denominator of one limb. -/
theorem den_one {d : Nat} (h : nlen d = 1) : d < 4294967296 ∧ ∀ (wx : World) (g : Value), NatC wx g d → wx.cell? (ptr g 0) = some (.int .u32 d) := by
  have h0 : d ≠ 0 := nlen_pos_iff.1 (by omega)
  have hb : d < 4294967296 := by have := nlen_le.1 (Nat.le_of_eq h); simpa [pw] using this
  refine ⟨hb, fun wx g hg => ?_⟩
  have h1 := hg.v
  have e : limbs d = [d] := by rw [limbs_pos h0, Nat.mod_eq_of_lt hb, Nat.div_eq_of_lt hb, limbs_zero]
  rw [e] at h1
  exact h1.cell 0 (by simp)
set_option maxRecDepth 100000 in
set_option maxHeartbeats 3200000 in
theorem rweight_any (va : Value) (l : List RF) (w : World) (ha : FracsN w va l) (hok : ∀ x ∈ l, x.ok) (hl : l.length ≤ 65536) :
    Calls Try.prog 96 #[va] w fun e w' => e = .returned (.int .i64 (wts (qs l) : Nat)) ∧ Below w.heap.size w w' := by
  have sa := ha.sl
  have la := ha.len
  have HOK := Lib.hid hok
  clear hok
  go_enter Try.func96, Try.ntmps96
  go_wp2_with fail
  go_loopw [3, 4] (fun u3 u4 wr => ∃ (k : Nat), k ≤ l.length ∧ u4 = .int .i64 k ∧ u3 = .int .i64 (wts (qs (l.take k)) : Nat) ∧ Below w.heap.size w wr) (fun _ u4 _ => l.length - (intOf u4).toNat)
  case atStart => exact ⟨0, Nat.zero_le _, rfl, by simp [qs, wts], Below.refl _ _⟩
  case round =>
    obtain ⟨k, hk, rfl, rfl, hbr⟩ := hrel
    by_cases hkl : k < l.length
    · obtain ⟨xa, xb, c1, c2, c3, hxa, hxb⟩ := (ha.below hbr).at' k hkl
      obtain ⟨c1a, c1l, c1k, rfl, _⟩ := hxa.slen.1
      obtain ⟨c2a, c2l, c2k, rfl, _⟩ := hxb.slen.1
      have HX := Lib.hid (HOK.out l[k] (List.getElem_mem hkl))
      have HTS := Lib.hid (wts_qs l k hkl)
      have hWj : wts (qs (l.take k)) ≤ 8192 * 65536 := by
        have h1 := wts_le (l.take k) (fun x h => HOK.out x (List.mem_of_mem_take h))
        rw [List.length_take] at h1; omega
      generalize l[k]'hkl = x at *
      generalize wts (qs (l.take k)) = W1 at *
      have HA : Hid (FracN wr (.agg #[.bool x.neg, .slice c1a c1l c1k, .slice c2a c2l c2k]) x.neg x.n x.d) := Lib.hid ⟨_, _, rfl, hxa, hxb⟩
      obtain ⟨hf1, hf2⟩ := RF.fits HX.out
      have hn0 := nbits_pos (n := x.q.num.natAbs)
      have hd0 := x.q.den_nz
      have hlp := nlen_pos_iff (d := x.q.num.natAbs)
      have hld := nlen_pos_iff (d := x.q.den)
      have HONE := Lib.hid (den_one (d := x.q.den))
      obtain ⟨bn, hbn⟩ : ∃ bn, nbits x.q.num.natAbs = bn := ⟨_, rfl⟩
      obtain ⟨bd, hbd⟩ : ∃ bd, nbits x.q.den = bd := ⟨_, rfl⟩
      obtain ⟨ln, hln⟩ : ∃ ln, nlen x.q.num.natAbs = ln := ⟨_, rfl⟩
      obtain ⟨ld, hld2⟩ : ∃ ld, nlen x.q.den = ld := ⟨_, rfl⟩
      rw [hbn] at hf1 hn0
      rw [hbd] at hf2
      rw [hln] at hlp
      rw [hld2] at hld
      have HBN := Lib.hid hbn
      have HBD := Lib.hid hbd
      have HLN := Lib.hid hln
      have HLD := Lib.hid hld2
      have hld0 : 0 < ld := hld.2 hd0
      have i1 : (0 : Int) ≤ (k : Int) := by omega
      have i2 : (k : Int) < (l.length : Nat) := by omega
      clear hbn hbd hln hld2 hxa hxb hld
      by_cases hz : x.q.num = 0
      · have hbz : bn = 0 := by have := hn0.1; omega
        have hlz : ln = 0 := by have := hlp.1; omega
        have HW := Lib.hid (wt_zero hz)
        have hlq : ¬ 0 < ln := by omega
        have HB0 := Lib.hid hbz
        clear hz hn0 hd0 hlp hlz hbz
        go_wp2_with (first
          | (go_at_call 101; (with_reducible refine (r2reduce_ok _ x _ HA.out HX.out).mono ?_); rintro e w7 ⟨v, rfl, hv, hb7⟩
             obtain ⟨xa2, xb2, rfl, hxa2, hxb2⟩ := hv
             obtain ⟨y1, y2, y3, rfl, _⟩ := id hxa2.v.sl
             obtain ⟨y4, y5, y6, rfl, _⟩ := id hxb2.v.sl
             have e2 : y2 = _ := hxa2.v.len.trans HLN.out
             have e5 : y5 = _ := hxb2.v.len.trans HLD.out
             subst e2 e5
             have hb9 := below_alloc w7 (.cells #[.bool (decide (x.q < 0)), .slice y1 y2 y3, .slice y4 y5 y6] 50)
             have hC9 := C3.new w7 50 (.bool (decide (x.q < 0))) (.slice y1 y2 y3) (.slice y4 y5 y6)
             have HC9 := Lib.hid hC9
             have HXA := Lib.hid (hxa2.below hb9)
             have HXB := Lib.hid (hxb2.below hb9)
             have sB := hxb2.v.sl
             have hb8 := below_then (below_then hbr hb7) hb9
             obtain ⟨_, f0, f1, f2, _, _, _⟩ := id hC9
             clear hC9 hxa2 hxb2 hb9)
          | (go_at_call 102; first
             | ((with_reducible refine (rbits_any _ _ _ HXA.out.nat).mono ?_); rintro e w8 ⟨rfl, hb10⟩; rw [HBN.out]
                have hb8 := below_then hb8 hb10
                have HXB := Lib.hid (HXB.out.below hb10)
                skip
                obtain ⟨_, f0, f1, f2, _, _, _⟩ := HC9.out.belowS hb10)
             | ((with_reducible refine (rbits_any _ _ _ HXB.out.nat).mono ?_); rintro e w9 ⟨rfl, hb11⟩; rw [HBD.out]
                have hb8 := below_then hb8 hb11)))
        go_roundw
        case rel => exact ⟨k + 1, hkl, by go_num, by rw [HTS.out, HW.out, HB0.out]; go_num, hb8⟩
        case measure => simp [intOf]; omega
      · have hbz : 0 < bn := hn0.2 (by omega)
        have hlz : 0 < ln := hlp.2 (by omega)
        by_cases hd : x.q.den = 1
        · have HW := Lib.hid (wt_int hz hd)
          have hl1 : ld = 1 := by rw [← HLD.out, hd]; decide +kernel
          have HC1 := Lib.hid (HONE.out (by rw [HLD.out]; exact hl1))
          have HDE : Hid (∀ (wx : World) (g : Value), NatC wx g x.q.den → wx.cell? (ptr g 0) = some (.int .u32 (1 : Nat))) := Lib.hid (fun wx g h => by have := HC1.out.2 wx g h; rwa [hd] at this)
          have hlq : ¬ 1 < ld := by omega
          clear hz hn0 hd0 hlp hd hl1
          go_wp2_with (first
            | (go_at_call 101; (with_reducible refine (r2reduce_ok _ x _ HA.out HX.out).mono ?_); rintro e w7 ⟨v, rfl, hv, hb7⟩
               obtain ⟨xa2, xb2, rfl, hxa2, hxb2⟩ := hv
               obtain ⟨y1, y2, y3, rfl, _⟩ := id hxa2.v.sl
               obtain ⟨y4, y5, y6, rfl, _⟩ := id hxb2.v.sl
               have e2 : y2 = _ := hxa2.v.len.trans HLN.out
               have e5 : y5 = _ := hxb2.v.len.trans HLD.out
               subst e2 e5
               have hb9 := below_alloc w7 (.cells #[.bool (decide (x.q < 0)), .slice y1 y2 y3, .slice y4 y5 y6] 50)
               have hC9 := C3.new w7 50 (.bool (decide (x.q < 0))) (.slice y1 y2 y3) (.slice y4 y5 y6)
               have HC9 := Lib.hid hC9
               have HXA := Lib.hid (hxa2.below hb9)
               have HXB := Lib.hid (hxb2.below hb9)
               have sB := hxb2.v.sl
               have hb8 := below_then (below_then hbr hb7) hb9
               obtain ⟨_, f0, f1, f2, _, _, _⟩ := id hC9
               clear hC9 hxa2 hxb2 hb9)
            | (go_at_call 102; first
               | ((with_reducible refine (rbits_any _ _ _ HXA.out.nat).mono ?_); rintro e w8 ⟨rfl, hb10⟩; rw [HBN.out]
                  have hb8 := below_then hb8 hb10
                  have HXB := Lib.hid (HXB.out.below hb10)
                  have hden := HDE.out _ _ HXB.out
                  obtain ⟨_, f0, f1, f2, _, _, _⟩ := HC9.out.belowS hb10)
               | ((with_reducible refine (rbits_any _ _ _ HXB.out.nat).mono ?_); rintro e w9 ⟨rfl, hb11⟩; rw [HBD.out]
                  have hb8 := below_then hb8 hb11)))
          go_roundw
          case rel => exact ⟨k + 1, hkl, by go_num, by rw [HTS.out, HW.out, HBN.out]; go_num, hb8⟩
          case measure => simp [intOf]; omega
        · have HW := Lib.hid (wt_frac hz hd)
          by_cases hl1 : ld = 1
          · have HC1 := Lib.hid (HONE.out (by rw [HLD.out]; exact hl1))
            obtain ⟨dn, hdn⟩ : ∃ dn, x.q.den = dn := ⟨_, rfl⟩
            have hd2 : 1 < dn := by omega
            have hd3 : dn < 4294967296 := by have := HC1.out.1; omega
            have HDE : Hid (∀ (wx : World) (g : Value), NatC wx g x.q.den → wx.cell? (ptr g 0) = some (.int .u32 dn)) := Lib.hid (fun wx g h => by have := HC1.out.2 wx g h; rwa [hdn] at this)
            have hlq : ¬ 1 < ld := by omega
            clear hz hn0 hd0 hlp hd hdn hl1
            go_wp2_with (first
              | (go_at_call 101; (with_reducible refine (r2reduce_ok _ x _ HA.out HX.out).mono ?_); rintro e w7 ⟨v, rfl, hv, hb7⟩
                 obtain ⟨xa2, xb2, rfl, hxa2, hxb2⟩ := hv
                 obtain ⟨y1, y2, y3, rfl, _⟩ := id hxa2.v.sl
                 obtain ⟨y4, y5, y6, rfl, _⟩ := id hxb2.v.sl
                 have e2 : y2 = _ := hxa2.v.len.trans HLN.out
                 have e5 : y5 = _ := hxb2.v.len.trans HLD.out
                 subst e2 e5
                 have hb9 := below_alloc w7 (.cells #[.bool (decide (x.q < 0)), .slice y1 y2 y3, .slice y4 y5 y6] 50)
                 have hC9 := C3.new w7 50 (.bool (decide (x.q < 0))) (.slice y1 y2 y3) (.slice y4 y5 y6)
                 have HC9 := Lib.hid hC9
                 have HXA := Lib.hid (hxa2.below hb9)
                 have HXB := Lib.hid (hxb2.below hb9)
                 have sB := hxb2.v.sl
                 have hb8 := below_then (below_then hbr hb7) hb9
                 obtain ⟨_, f0, f1, f2, _, _, _⟩ := id hC9
                 clear hC9 hxa2 hxb2 hb9)
              | (go_at_call 102; first
                 | ((with_reducible refine (rbits_any _ _ _ HXA.out.nat).mono ?_); rintro e w8 ⟨rfl, hb10⟩; rw [HBN.out]
                    have hb8 := below_then hb8 hb10
                    have HXB := Lib.hid (HXB.out.below hb10)
                    have hden := HDE.out _ _ HXB.out
                    obtain ⟨_, f0, f1, f2, _, _, _⟩ := HC9.out.belowS hb10)
                 | ((with_reducible refine (rbits_any _ _ _ HXB.out.nat).mono ?_); rintro e w9 ⟨rfl, hb11⟩; rw [HBD.out]
                    have hb8 := below_then hb8 hb11)))
            go_roundw
            case rel => exact ⟨k + 1, hkl, by go_num, by rw [HTS.out, HW.out, HBN.out, HBD.out]; go_num, hb8⟩
            case measure => simp [intOf]; omega
          · have hl2 : 1 < ld := by omega
            clear hz hn0 hd0 hlp hd
            go_wp2_with (first
              | (go_at_call 101; (with_reducible refine (r2reduce_ok _ x _ HA.out HX.out).mono ?_); rintro e w7 ⟨v, rfl, hv, hb7⟩
                 obtain ⟨xa2, xb2, rfl, hxa2, hxb2⟩ := hv
                 obtain ⟨y1, y2, y3, rfl, _⟩ := id hxa2.v.sl
                 obtain ⟨y4, y5, y6, rfl, _⟩ := id hxb2.v.sl
                 have e2 : y2 = _ := hxa2.v.len.trans HLN.out
                 have e5 : y5 = _ := hxb2.v.len.trans HLD.out
                 subst e2 e5
                 have hb9 := below_alloc w7 (.cells #[.bool (decide (x.q < 0)), .slice y1 y2 y3, .slice y4 y5 y6] 50)
                 have hC9 := C3.new w7 50 (.bool (decide (x.q < 0))) (.slice y1 y2 y3) (.slice y4 y5 y6)
                 have HC9 := Lib.hid hC9
                 have HXA := Lib.hid (hxa2.below hb9)
                 have HXB := Lib.hid (hxb2.below hb9)
                 have sB := hxb2.v.sl
                 have hb8 := below_then (below_then hbr hb7) hb9
                 obtain ⟨_, f0, f1, f2, _, _, _⟩ := id hC9
                 clear hC9 hxa2 hxb2 hb9)
              | (go_at_call 102; first
                 | ((with_reducible refine (rbits_any _ _ _ HXA.out.nat).mono ?_); rintro e w8 ⟨rfl, hb10⟩; rw [HBN.out]
                    have hb8 := below_then hb8 hb10
                    have HXB := Lib.hid (HXB.out.below hb10)
                    skip
                    obtain ⟨_, f0, f1, f2, _, _, _⟩ := HC9.out.belowS hb10)
                 | ((with_reducible refine (rbits_any _ _ _ HXB.out.nat).mono ?_); rintro e w9 ⟨rfl, hb11⟩; rw [HBD.out]
                    have hb8 := below_then hb8 hb11)))
            go_roundw
            case rel => exact ⟨k + 1, hkl, by go_num, by rw [HTS.out, HW.out, HBN.out, HBD.out]; go_num, hb8⟩
            case measure => simp [intOf]; omega
    · obtain rfl : k = l.length := by omega
      rw [List.take_length] at *
      go_wp2_with fail
      go_ret
      exact ⟨rfl, hbr⟩
end Go.Proofs.Ytoldfpkafcefnaa
namespace Go.Proofs.Ytoldfpkafcefnaa
set_option linter.unusedVariables false
set_option linter.unusedSimpArgs false
open Go.RowKit

set_option maxRecDepth 100000 in
set_option maxHeartbeats 1600000 in
theorem rplain_any (va : Value) (x : RF) (w : World) (ha : FracN w va x.neg x.n x.d) : Calls Try.prog 95 #[va] w (RSame w (plainP x)) := by
  obtain ⟨xn, xd, rfl, hxn, hxd⟩ := id ha
  obtain ⟨an, an1, kn, rfl, _⟩ := hxn.slen.1
  obtain ⟨ad, ad1, kd, rfl, _⟩ := hxd.slen.1
  have hbx := below_alloc w (.cells #[.bool x.neg, .slice an an1 kn, .slice ad ad1 kd] 50)
  have HA := Lib.hid (ha.below hbx)
  have hC := C3.new w 50 (.bool x.neg) (.slice an an1 kn) (.slice ad ad1 kd)
  obtain ⟨_, c0, c1, c2, _, _, _⟩ := hC
  obtain ⟨ln, hln⟩ : ∃ ln, nlen x.q.num.natAbs = ln := ⟨_, rfl⟩
  obtain ⟨ld, hld⟩ : ∃ ld, nlen x.q.den = ld := ⟨_, rfl⟩
  have HP : Hid (x.ok → (plainP x ↔ ¬ x.q < 0 ∧ ln ≤ 4 ∧ ld ≤ 4)) := Lib.hid (fun h => by
    unfold plainP
    rw [hln, hld]
    exact ⟨fun h1 => h1.2, fun h1 => ⟨h, h1⟩⟩)
  have HLN := Lib.hid hln
  have HLD := Lib.hid hld
  clear ha hxn hxd hln hld
  by_cases hx : x.ok
  · have HX := Lib.hid hx
    clear hx
    by_cases h1 : x.q < 0
    · have hd1 : decide (x.q < 0) = true := decide_eq_true h1
      have HB := Lib.hid (fun h => ((HP.out HX.out).1 h).1 h1)
      clear h1
      go_enter Try.func95, Try.ntmps95
      go_wp2_with (first
        | (go_at_call 101; (with_reducible refine (r2reduce_ok _ x _ HA.out HX.out).mono ?_); rintro e w7 ⟨v, rfl, hv, hb7⟩
           obtain ⟨xa2, xb2, rfl, hxa2, hxb2⟩ := hv
           obtain ⟨y1, y2, y3, rfl, _⟩ := id hxa2.v.sl
           obtain ⟨y4, y5, y6, rfl, _⟩ := id hxb2.v.sl
           have e2 : y2 = ln := hxa2.v.len.trans HLN.out
           have e5 : y5 = ld := hxb2.v.len.trans HLD.out
           subst e2 e5
           have hb9 := below_alloc w7 (.cells #[.bool (decide (x.q < 0)), .slice y1 y2 y3, .slice y4 y5 y6] 50)
           have hC9 := C3.new w7 50 (.bool (decide (x.q < 0))) (.slice y1 y2 y3) (.slice y4 y5 y6)
           have hb8 := fun (b : Bool) => below_then (below_then hbx hb7) (below_alloc w7 (.cells #[.bool b, .slice y1 y2 y3, .slice y4 y5 y6] 50))
           obtain ⟨_, f0, f1, f2, _, _, _⟩ := hC9))
      go_ret
      exact ⟨⟨_, rfl, by simp, fun h => absurd h HB.out⟩, hb8 _⟩
    · have hd1 : decide (x.q < 0) = false := decide_eq_false h1
      have HPP := Lib.hid (HP.out HX.out)
      have H1 := Lib.hid h1
      clear h1
      by_cases g2 : ln ≤ 4
      · by_cases g3 : ld ≤ 4
        · have HG := Lib.hid (HPP.out.2 ⟨H1.out, g2, g3⟩)
          go_enter Try.func95, Try.ntmps95
          go_wp2_with (first
            | (go_at_call 101; (with_reducible refine (r2reduce_ok _ x _ HA.out HX.out).mono ?_); rintro e w7 ⟨v, rfl, hv, hb7⟩
               obtain ⟨xa2, xb2, rfl, hxa2, hxb2⟩ := hv
               obtain ⟨y1, y2, y3, rfl, _⟩ := id hxa2.v.sl
               obtain ⟨y4, y5, y6, rfl, _⟩ := id hxb2.v.sl
               have e2 : y2 = ln := hxa2.v.len.trans HLN.out
               have e5 : y5 = ld := hxb2.v.len.trans HLD.out
               subst e2 e5
               have hb9 := below_alloc w7 (.cells #[.bool (decide (x.q < 0)), .slice y1 y2 y3, .slice y4 y5 y6] 50)
               have hC9 := C3.new w7 50 (.bool (decide (x.q < 0))) (.slice y1 y2 y3) (.slice y4 y5 y6)
               have hb8 := fun (b : Bool) => below_then (below_then hbx hb7) (below_alloc w7 (.cells #[.bool b, .slice y1 y2 y3, .slice y4 y5 y6] 50))
               obtain ⟨_, f0, f1, f2, _, _, _⟩ := hC9))
          go_ret
          exact ⟨⟨_, rfl, fun _ => HG.out, fun _ => by simp; omega⟩, hb8 _⟩
        · have HB := Lib.hid (fun h => g3 (HPP.out.1 h).2.2)
          go_enter Try.func95, Try.ntmps95
          go_wp2_with (first
            | (go_at_call 101; (with_reducible refine (r2reduce_ok _ x _ HA.out HX.out).mono ?_); rintro e w7 ⟨v, rfl, hv, hb7⟩
               obtain ⟨xa2, xb2, rfl, hxa2, hxb2⟩ := hv
               obtain ⟨y1, y2, y3, rfl, _⟩ := id hxa2.v.sl
               obtain ⟨y4, y5, y6, rfl, _⟩ := id hxb2.v.sl
               have e2 : y2 = ln := hxa2.v.len.trans HLN.out
               have e5 : y5 = ld := hxb2.v.len.trans HLD.out
               subst e2 e5
               have hb9 := below_alloc w7 (.cells #[.bool (decide (x.q < 0)), .slice y1 y2 y3, .slice y4 y5 y6] 50)
               have hC9 := C3.new w7 50 (.bool (decide (x.q < 0))) (.slice y1 y2 y3) (.slice y4 y5 y6)
               have hb8 := fun (b : Bool) => below_then (below_then hbx hb7) (below_alloc w7 (.cells #[.bool b, .slice y1 y2 y3, .slice y4 y5 y6] 50))
               obtain ⟨_, f0, f1, f2, _, _, _⟩ := hC9))
          go_ret
          exact ⟨⟨_, rfl, by simp; omega, fun h => absurd h HB.out⟩, hb8 _⟩
      · have HB := Lib.hid (fun h => g2 (HPP.out.1 h).2.1)
        go_enter Try.func95, Try.ntmps95
        go_wp2_with (first
          | (go_at_call 101; (with_reducible refine (r2reduce_ok _ x _ HA.out HX.out).mono ?_); rintro e w7 ⟨v, rfl, hv, hb7⟩
             obtain ⟨xa2, xb2, rfl, hxa2, hxb2⟩ := hv
             obtain ⟨y1, y2, y3, rfl, _⟩ := id hxa2.v.sl
             obtain ⟨y4, y5, y6, rfl, _⟩ := id hxb2.v.sl
             have e2 : y2 = ln := hxa2.v.len.trans HLN.out
             have e5 : y5 = ld := hxb2.v.len.trans HLD.out
             subst e2 e5
             have hb9 := below_alloc w7 (.cells #[.bool (decide (x.q < 0)), .slice y1 y2 y3, .slice y4 y5 y6] 50)
             have hC9 := C3.new w7 50 (.bool (decide (x.q < 0))) (.slice y1 y2 y3) (.slice y4 y5 y6)
             have hb8 := fun (b : Bool) => below_then (below_then hbx hb7) (below_alloc w7 (.cells #[.bool b, .slice y1 y2 y3, .slice y4 y5 y6] 50))
             obtain ⟨_, f0, f1, f2, _, _, _⟩ := hC9))
        go_ret
        exact ⟨⟨_, rfl, by simp, fun h => absurd h HB.out⟩, hb8 _⟩
  · have HX := Lib.hid hx
    have HB : Hid (¬ plainP x) := Lib.hid (fun h => hx h.1)
    clear hx
    go_enter Try.func95, Try.ntmps95
    go_wp2_with (go_at_call 101; (with_reducible refine (r2reduce_any _ x.neg x.n x.d _ HA.out).mono ?_); rintro e w7 ⟨v, er, rfl, hb7, _, hv⟩
                 obtain ⟨rfl, rfl⟩ := hv HX.out
                 unfold zeroF
                 have hb8 := below_then (below_then hbx hb7) (below_alloc w7 (.cells #[.bool false, .slice none 0 0, .slice none 0 0] 50)))
    go_ret
    exact ⟨⟨_, rfl, by simp, fun h => absurd h HB.out⟩, hb8⟩
set_option maxRecDepth 100000 in
set_option maxHeartbeats 1600000 in
theorem rplains_any (va : Value) (l : List RF) (n : Nat) (w : World) (ha : FracsN w va l) (hn : n ≤ 65536) :
    Calls Try.prog 74 #[va, .int .i64 n] w (RSame w (rowP l n)) := by
  have sa := ha.sl
  have la := ha.len
  have hle := sa.le
  rw [la] at hle
  have hlb : l.length ≤ 9223372036854775807 := by omega
  clear hle
  by_cases hln : l.length = n
  · subst hln
    go_enter Try.func74, Try.ntmps74
    go_wp2_with fail
    go_loopw [5] (fun u5 wr => ∃ (k : Nat), k ≤ l.length ∧ u5 = .int .i64 k ∧ (∀ x ∈ l.take k, plainP x) ∧ Below w.heap.size w wr) (fun u5 _ => l.length - (intOf u5).toNat)
    case atStart => exact ⟨0, Nat.zero_le _, rfl, by simp, Below.refl _ _⟩
    case round =>
      obtain ⟨k, hk, rfl, hpl, hb⟩ := hrel
      have HPL := Lib.hid hpl
      clear hpl
      by_cases hkl : k < l.length
      · obtain ⟨xa, xb, c1, c2, c3, hxa, hxb⟩ := (ha.below hb).at' k hkl
        obtain ⟨c1a, c1l, c1k, rfl, _⟩ := hxa.slen.1
        obtain ⟨c2a, c2l, c2k, rfl, _⟩ := hxb.slen.1
        have HBADx : Hid (¬ plainP l[k] → ¬ rowP l l.length) := Lib.hid (fun h h' => h (h'.1 _ (List.getElem_mem hkl)))
        have HNEXT : Hid (plainP l[k] → ∀ x ∈ l.take (k + 1), plainP x) := Lib.hid (fun h x hx => by
          rw [take_snoc l k hkl, List.mem_append, List.mem_singleton] at hx
          rcases hx with hx | rfl
          · exact HPL.out x hx
          · exact h)
        generalize l[k]'hkl = x at *
        have HA : Hid (FracN wr (.agg #[.bool x.neg, .slice c1a c1l c1k, .slice c2a c2l c2k]) x.neg x.n x.d) := Lib.hid ⟨_, _, rfl, hxa, hxb⟩
        have i1 : (0 : Int) ≤ (k : Int) := by omega
        have i2 : (k : Int) < (l.length : Nat) := by omega
        clear hxa hxb
        by_cases hp : plainP x
        · have HGOOD := Lib.hid (HNEXT.out hp)
          have HP := Lib.hid hp
          clear hp
          go_wp2_with (go_at_call 95; (with_reducible refine (rplain_any _ x _ HA.out).mono ?_); rintro e9 w9 ⟨⟨b9, rfl, hb9⟩, hbel9⟩; obtain rfl : b9 = true := hb9.2 HP.out; clear hb9)
          go_roundw
          case rel => exact ⟨k + 1, hkl, by go_num, HGOOD.out, below_then hb hbel9⟩
          case measure => simp [intOf]; omega
        · have HBAD := Lib.hid (HBADx.out hp)
          have HP := Lib.hid hp
          clear hp
          go_wp2_with (go_at_call 95; (with_reducible refine (rplain_any _ x _ HA.out).mono ?_); rintro e9 w9 ⟨⟨b9, rfl, hb9⟩, hbel9⟩; obtain rfl : b9 = false := Bool.eq_false_iff.2 (fun h => HP.out (hb9.1 h)); clear hb9)
          go_ret
          exact ⟨⟨_, rfl, by simp, fun h => absurd h HBAD.out⟩, below_then hb hbel9⟩
      · obtain rfl : k = l.length := by omega
        have HALL : Hid (∀ x ∈ l, plainP x) := Lib.hid (by have := HPL.out; rwa [List.take_length] at this)
        have HOK9 : Hid (∀ x ∈ l, x.ok) := Lib.hid (fun x hx => (HALL.out x hx).1)
        go_wp2_with (go_at_call 96; (with_reducible refine (rweight_any _ l _ (ha.below hb) HOK9.out hn).mono ?_); rintro e9 w9 ⟨rfl, hbel9⟩)
        go_ret
        refine ⟨⟨_, rfl, ?_⟩, below_then hb hbel9⟩
        unfold rowP
        have h9 := HALL.out
        simp
        exact ⟨fun h => ⟨h9, by omega⟩, fun h => by omega⟩
  · have hb : (((l.length : Nat) : Int) != (n : Nat)) = true := by simp; omega
    have HB : Hid (¬ rowP l n) := Lib.hid (fun h => hln h.2.1)
    clear hln
    go_enter Try.func74, Try.ntmps74
    go_wp2_with fail
    go_ret
    exact ⟨⟨_, rfl, by simp, fun h => absurd h HB.out⟩, Below.refl _ _⟩
end Go.Proofs.Ytoldfpkafcefnaa
namespace Go.Proofs.Ytoldfpkafcefnaa
set_option linter.unusedVariables false
set_option linter.unusedSimpArgs false
open Go.RowKit

theorem r2sign_q (va : Value) (x : RF) (w : World) (ha : FracN w va x.neg x.n x.d) (h1 : x.ok) :
    Calls Try.prog 75 #[va] w fun en w' => en = .returned (.int .i64 (cmpR x.q 0)) ∧ Below w.heap.size w w' := r2sign_any va x.neg x.n x.d w ha h1
theorem cmpR_num (q : Rat) : cmpR q 0 = 0 ↔ q.num = 0 := by rw [cmpR_self_iff, Rat.num_eq_zero]
theorem wts_all {l : List RF} : wts (qs l) = 0 ↔ ∀ x ∈ l, x.q.num = 0 := by
  constructor
  · intro h x hx
    have := wts_zero h x.q (List.mem_map.2 ⟨x, hx, rfl⟩)
    rw [this]; rfl
  · intro h
    exact wts_of_zero (fun q hq => by
      obtain ⟨x, hx, rfl⟩ := List.mem_map.1 hq
      exact Rat.num_eq_zero.1 (h x hx))
set_option maxHeartbeats 1600000 in
theorem rvalid_false1 (va : Value) (c : RC) (w : World) (ha : ChainN w va c) (h : c.start.length < 1 ∨ 128 < c.start.length ∨ c.lost.length ≠ c.start.length ∨ c.rates.length ≠ c.start.length ∨ ¬ rowP c.start c.start.length) :
    Calls Try.prog 46 #[va] w fun e w' => e = .returned (.bool false) ∧ Below w.heap.size w w' := by
  obtain ⟨rv, sv, lv, rfl, hr, hs, hl⟩ := ha
  obtain ⟨ra, rn, rk, rfl, r1, r2, r3⟩ := hr.sl
  obtain ⟨sa, sn, sk, rfl, s1, s2, s3⟩ := hs.sl
  obtain ⟨la, ln, lk, rfl, l1, l2, l3⟩ := CellsV.sl hl
  have hrl : rn = c.rates.length := hr.len
  have hsl : sn = c.start.length := hs.len
  have hll : ln = c.lost.length := hl.len
  subst hrl hsl hll
  unfold maxLen at r2 s2 l2
  have hbx := below_alloc w (.cells #[.slice ra c.rates.length rk, .slice sa c.start.length sk, .slice la c.lost.length lk] 27)
  have hs' := hs.below hbx
  have hC := C3.new w 27 (.slice ra c.rates.length rk) (.slice sa c.start.length sk) (.slice la c.lost.length lk)
  generalize c.start.length = n at *
  generalize c.lost.length = nl at *
  generalize c.rates.length = nr at *
  obtain ⟨_, b0, b1, b2, _, _, _⟩ := hC
  by_cases h1 : n < 1
  · go_enter Try.func46, Try.ntmps46
    go_wp2_with fail
    go_ret
    exact ⟨rfl, hbx⟩
  · by_cases h2 : 128 < n
    · go_enter Try.func46, Try.ntmps46
      go_wp2_with fail
      go_ret
      exact ⟨rfl, hbx⟩
    · by_cases h3 : nl = n
      · by_cases h4 : nr = n
        · have h5 : ¬ rowP c.start n := by
            rcases h with h | h | h | h | h
            · omega
            · omega
            · omega
            · omega
            · exact h
          have H5 := Lib.hid h5
          subst h3 h4
          clear h h5
          go_enter Try.func46, Try.ntmps46
          go_wp2_with (go_at_call 74; (with_reducible refine (rplains_any _ c.start nr _ hs' (by omega)).mono ?_); rintro e9 w9 ⟨⟨b9, rfl, hb9⟩, hbel9⟩; obtain rfl : b9 = false := Bool.eq_false_iff.2 (fun h => H5.out (hb9.1 h)); clear hb9)
          go_ret
          exact ⟨rfl, below_then hbx hbel9⟩
        · have h4b : (((nr : Nat) : Int) != (n : Nat)) = true := by simp; omega
          subst h3
          clear h
          go_enter Try.func46, Try.ntmps46
          go_wp2_with fail
          go_ret
          exact ⟨rfl, hbx⟩
      · have h3b : (((nl : Nat) : Int) != (n : Nat)) = true := by simp; omega
        clear h
        go_enter Try.func46, Try.ntmps46
        go_wp2_with fail
        go_ret
        exact ⟨rfl, hbx⟩
set_option maxRecDepth 100000 in
set_option maxHeartbeats 3200000 in
theorem rvalid_rest (va : Value) (c : RC) (w : World) (ha : ChainN w va c) (h1 : 1 ≤ c.start.length) (h2 : c.start.length ≤ 128) (h3 : c.lost.length = c.start.length) (h4 : c.rates.length = c.start.length) (h5 : rowP c.start c.start.length) :
    Calls Try.prog 46 #[va] w (RValid w c) := by
  obtain ⟨rv, sv, lv, rfl, hr, hs, hl⟩ := ha
  obtain ⟨ra, rn, rk, rfl, r1, r2, r3⟩ := hr.sl
  obtain ⟨sa, sn, sk, rfl, s1, s2, s3⟩ := hs.sl
  obtain ⟨la, ln, lk, rfl, l1, l2, l3⟩ := CellsV.sl hl
  have hrl : rn = c.start.length := hr.len.trans h4
  have hsl : sn = c.start.length := hs.len
  have hll : ln = c.start.length := hl.len.trans h3
  subst hrl hsl hll
  clear r1 r2 r3 s1 s2 s3 l1 l2 l3
  have hbx := below_alloc w (.cells #[.slice ra c.start.length rk, .slice sa c.start.length sk, .slice la c.start.length lk] 27)
  have hs' := hs.below hbx
  have hr' := hr.below hbx
  have hl' := hl.below hbx
  have hc3 := C3.new w 27 (.slice ra c.start.length rk) (.slice sa c.start.length sk) (.slice la c.start.length lk)
  have H3 := Lib.hid h3
  have H4 := Lib.hid h4
  have H5 := Lib.hid h5
  have HVAL : Hid (validP c ↔ (∀ i r, c.rates[i]? = some r → stateP c i r) ∧ lsum (qs c.start) = 1) := Lib.hid ⟨fun h => ⟨h.2.2.2.2.2.1, h.2.2.2.2.2.2⟩, fun h => ⟨h1, h2, h3, h4, h5, h.1, h.2⟩⟩
  clear h3 h4 h5 hs hr hl
  generalize hn : c.start.length = n at *
  have HSTP : Hid (∀ i r, (rowP r n ∧ (∀ x, r[i]? = some x → x.q.num = 0) ∧ (c.lost[i]? = some true → ∀ x ∈ r, x.q.num = 0)) ↔ stateP c i r) := Lib.hid (fun i r => by unfold stateP; rw [hn, wts_all])
  have HN6 : Hid (n ≤ 65536) := Lib.hid (by omega)
  clear hn
  go_enter Try.func46, Try.ntmps46
  go_wp2_with fail
  have hd1 : decide ((n : Int) < 1) = false := decide_eq_false (by omega)
  have hd2 : decide ((128 : Int) < (n : Int)) = false := decide_eq_false (by omega)
  generalize hW : w.alloc (.cells #[.slice ra n rk, .slice sa n sk, .slice la n lk] 27) = W at *
  clear hW
  have HC3 := Lib.hid hc3
  obtain ⟨_, b0, b1, b2, b3, b4, b5⟩ := hc3
  go_wp2_with (go_at_call 74; (with_reducible refine (rplains_any _ c.start n _ hs' HN6.out).mono ?_); rintro e9 w1 ⟨⟨b9, rfl, hb9⟩, hb1⟩; obtain rfl : b9 = true := hb9.2 H5.out; clear hb9; obtain ⟨_, f0, f1, f2, f3, f4, f5⟩ := HC3.out.belowS hb1)
  clear b0 b1 b2 b3 b4 b5 f0 f1 f2 f3 f4 f5 hd1 hd2
  have slR := hr'.sl
  have slS := hs'.sl
  have slL : IsSl (.slice la n lk) := CellsV.sl hl'
  go_loopw [4] (fun u4 wr => ∃ (k : Nat), k ≤ n ∧ u4 = .int .i64 k ∧ (∀ i r, i < k → c.rates[i]? = some r → stateP c i r) ∧ Below W.heap.size W wr) (fun u4 _ => n - (intOf u4).toNat)
  case atStart => exact ⟨0, Nat.zero_le _, rfl, fun i r h => by omega, hb1⟩
  case round =>
    obtain ⟨k, hk, rfl, hst, hb⟩ := hrel
    clear hb1
    have HST := Lib.hid hst
    have HBW := Lib.hid hb
    clear hst
    have HC := Lib.hid (HC3.out.belowS hb)
    obtain ⟨_, b0, b1, b2, b3, b4, b5⟩ := HC3.out.belowS hb
    by_cases hkn : k < n
    · have hkr : k < c.rates.length := by rw [H4.out]; exact hkn
      have hkl : k < c.lost.length := by rw [H3.out]; exact hkn
      obtain ⟨rv, hrc, hrw⟩ := (hr'.below hb).at' k hkr
      have hlc := (hl'.below hb).at' k hkl
      have HRK : Hid (c.rates[k]? = some (c.rates[k]'hkr)) := Lib.hid (List.getElem?_eq_getElem hkr)
      have HLK : Hid (c.lost[k]? = some (c.lost[k]'hkl)) := Lib.hid (List.getElem?_eq_getElem hkl)
      generalize c.rates[k]'hkr = l at *
      generalize c.lost[k]'hkl = lo at *
      have HNO : Hid (¬ stateP c k l → ¬ validP c) := Lib.hid (fun h h' => h ((HVAL.out.1 h').1 k l HRK.out))
      have HYES : Hid (stateP c k l → ∀ i r, i < k + 1 → c.rates[i]? = some r → stateP c i r) := Lib.hid (fun h i r hi hr => by
        rcases Nat.lt_or_ge i k with h6 | h6
        · exact HST.out i r h6 hr
        · obtain rfl : i = k := by omega
          rw [HRK.out] at hr
          injection hr with hr
          subst hr
          exact h)
      clear hkr hkl
      obtain ⟨ea, en, ek, rfl, e1, e2, e3⟩ := hrw.sl
      have slW := hrw.sl
      have hen : en = l.length := hrw.len
      subst hen
      have i1 : (0 : Int) ≤ (k : Int) := by omega
      have i2 : (k : Int) < (n : Int) := by omega
      by_cases hrow : rowP l n
      · have hll : l.length = n := hrow.2.1
        have hkl : k < l.length := by omega
        obtain ⟨xa, xb, c1, c2, c3, hxa, hxb⟩ := hrw.at' k hkl
        obtain ⟨c1a, c1l, c1k, rfl, _⟩ := hxa.slen.1
        obtain ⟨c2a, c2l, c2k, rfl, _⟩ := hxb.slen.1
        have HXK : Hid (l[k]? = some (l[k]'hkl)) := Lib.hid (List.getElem?_eq_getElem hkl)
        have HXO : Hid ((l[k]'hkl).ok) := Lib.hid ((hrow.1 _ (List.getElem_mem hkl)).1)
        have HROW := Lib.hid hrow
        have HLL := Lib.hid hll
        have HRW := Lib.hid hrw
        generalize l[k]'hkl = x at *
        have HXN : Hid (FracN wr (.agg #[.bool x.neg, .slice c1a c1l c1k, .slice c2a c2l c2k]) x.neg x.n x.d) := Lib.hid ⟨_, _, rfl, hxa, hxb⟩
        rw [hll] at hrc slW c1 c2 c3
        clear hrow hll hxa hxb hkl hrw
        have HRW2 : Hid (FracsN wr (.slice ea n ek) l) := Lib.hid (by rw [← HLL.out]; exact HRW.out)
        by_cases hz : x.q.num = 0
        · have HSG := Lib.hid ((cmpR_num x.q).2 hz)
          have HXZ : Hid (∀ y, l[k]? = some y → y.q.num = 0) := Lib.hid (fun y hy => by rw [HXK.out] at hy; injection hy with hy; rw [← hy]; exact hz)
          clear hz
          go_wp2_with (first
            | (go_at_call 74; (with_reducible refine (rplains_any _ l n _ HRW2.out HN6.out).mono ?_); rintro e9 w1 ⟨⟨b9, rfl, hb9⟩, hb1⟩; obtain rfl : b9 = true := hb9.2 HROW.out; clear hb9
               have hrc := cell_below hb1 hrc
               have c1 := cell_below hb1 c1
               have c2 := cell_below hb1 c2
               have c3 := cell_below hb1 c3
               obtain ⟨_, b0, b1, b2, b3, b4, b5⟩ := HC.out.belowS hb1
               )
            | (go_at_call 75; (with_reducible refine (r2sign_q _ x _ (HXN.out.below hb1) HXO.out).mono ?_); rintro e w2 ⟨rfl, hb2⟩; rw [HSG.out]
               have hb12 := below_then hb1 hb2
               have hrc := cell_below hb2 hrc
               have hlc := cell_below hb12 hlc
               obtain ⟨_, b0, b1, b2, b3, b4, b5⟩ := HC.out.belowS hb12
               ))
          have HB12 := Lib.hid hb12
          have HRW3 := Lib.hid (HRW2.out.below hb12)
          have HC2 := Lib.hid (HC.out.belowS hb12)
          clear b0 b1 b2 b3 b4 b5 c1 c2 c3 hb1 hb2 hb12 hb
          go_loopw [5] (fun u5 wi => ∃ (j : Nat), j ≤ n ∧ u5 = .int .i64 j ∧ (∀ y, y < j → ∀ z, l[y]? = some z → z.q.num = 0) ∧ Below w2.heap.size w2 wi) (fun u5 _ => n - (intOf u5).toNat)
          case atStart => exact ⟨0, Nat.zero_le _, rfl, fun y h => by omega, Below.refl _ _⟩
          case round =>
            obtain ⟨j, hj, rfl, hjz, hbi⟩ := hrel
            have HJZ := Lib.hid hjz
            have HBI := Lib.hid hbi
            clear hjz
            have hrc2 := cell_below hbi hrc
            have hlc2 := cell_below hbi hlc
            obtain ⟨_, b0, b1, b2, _, _, _⟩ := HC2.out.belowS hbi
            rcases lo with _ | _
            · have HOK := Lib.hid (HYES.out ((HSTP.out k l).1 ⟨HROW.out, HXZ.out, fun h => by rw [HLK.out] at h; injection h with h; cases h⟩))
              have hbE := HBW.out.trans ((HB12.out.trans (hbi.mono HB12.out.size)).mono HBW.out.size)
              by_cases hjn : j < n
              · go_wp2_with fail
                go_roundw
                case rel => exact ⟨k + 1, hkn, by go_num, HOK.out, hbE⟩
                case measure => simp [intOf]; omega
              · obtain rfl : j = n := by omega
                go_wp2_with fail
                go_roundw
                case rel => exact ⟨k + 1, hkn, by go_num, HOK.out, hbE⟩
                case measure => simp [intOf]; omega
            · by_cases hjn : j < n
              · have hjl : j < l.length := by rw [HLL.out]; exact hjn
                obtain ⟨za, zb, d1, d2, d3, hza, hzb⟩ := (HRW3.out.below hbi).at' j hjl
                obtain ⟨d1a, d1l, d1k, rfl, _⟩ := hza.slen.1
                obtain ⟨d2a, d2l, d2k, rfl, _⟩ := hzb.slen.1
                have HYK : Hid (l[j]? = some (l[j]'hjl)) := Lib.hid (List.getElem?_eq_getElem hjl)
                have HYM : Hid ((l[j]'hjl) ∈ l) := Lib.hid (List.getElem_mem hjl)
                have HYO : Hid ((l[j]'hjl).ok) := Lib.hid ((HROW.out.1 _ (List.getElem_mem hjl)).1)
                generalize l[j]'hjl = y at *
                have HYN : Hid (FracN wr (.agg #[.bool y.neg, .slice d1a d1l d1k, .slice d2a d2l d2k]) y.neg y.n y.d) := Lib.hid ⟨_, _, rfl, hza, hzb⟩
                have i3 : (0 : Int) ≤ (j : Int) := by omega
                have i4 : (j : Int) < (n : Int) := by omega
                clear hza hzb hjl
                by_cases hy : y.q.num = 0
                · have HSY := Lib.hid ((cmpR_num y.q).2 hy)
                  have HJ1 : Hid (∀ y', y' < j + 1 → ∀ z, l[y']? = some z → z.q.num = 0) := Lib.hid (fun y' hy' z hz => by
                    rcases Nat.lt_or_ge y' j with h6 | h6
                    · exact HJZ.out y' h6 z hz
                    · obtain rfl : y' = j := by omega
                      rw [HYK.out] at hz
                      injection hz with hz
                      subst hz
                      exact hy)
                  clear hy
                  go_wp2_with (first
                    | (go_at_call 75; (with_reducible refine (r2sign_q _ y _ HYN.out HYO.out).mono ?_); rintro e w3 ⟨rfl, hb3⟩; rw [HSY.out]))
                  go_roundw
                  case rel => exact ⟨j + 1, hjn, by go_num, HJ1.out, below_then hbi hb3⟩
                  case measure => simp [intOf]; omega
                · have HN := Lib.hid (HNO.out (fun h => hy (((HSTP.out k l).2 h).2.2 HLK.out y HYM.out)))
                  obtain ⟨sg, hsg⟩ : ∃ sg, cmpR y.q 0 = sg := ⟨_, rfl⟩
                  have hsb : (sg != 0) = true := by
                    have : sg ≠ 0 := fun h => hy ((cmpR_num y.q).1 (hsg.trans h))
                    simpa using this
                  have HSY := Lib.hid hsg
                  clear hy hsg
                  go_wp2_with (first
                    | (go_at_call 75; (with_reducible refine (r2sign_q _ y _ HYN.out HYO.out).mono ?_); rintro e w3 ⟨rfl, hb3⟩; rw [HSY.out]))
                  go_ret
                  exact RValid.no HN.out (hbx.trans ((HBW.out.trans ((HB12.out.trans ((below_then hbi hb3).mono HB12.out.size)).mono HBW.out.size)).mono hbx.size))
              · obtain rfl : j = n := by omega
                have HOK := Lib.hid (HYES.out ((HSTP.out k l).1 ⟨HROW.out, HXZ.out, fun _ z hz => by
                  obtain ⟨y, hy, rfl⟩ := List.getElem_of_mem hz
                  exact HJZ.out y (by rw [← HLL.out]; exact hy) _ (List.getElem?_eq_getElem hy)⟩))
                have hbE := HBW.out.trans ((HB12.out.trans (hbi.mono HB12.out.size)).mono HBW.out.size)
                go_wp2_with fail
                go_roundw
                case rel => exact ⟨k + 1, hkn, by go_num, HOK.out, hbE⟩
                case measure => simp [intOf]; omega
        · have HN := Lib.hid (HNO.out (fun h => hz (((HSTP.out k l).2 h).2.1 x HXK.out)))
          obtain ⟨sg, hsg⟩ : ∃ sg, cmpR x.q 0 = sg := ⟨_, rfl⟩
          have hsb : (sg != 0) = true := by
            have : sg ≠ 0 := fun h => hz ((cmpR_num x.q).1 (hsg.trans h))
            simpa using this
          have HSG := Lib.hid hsg
          clear hz hsg
          go_wp2_with (first
            | (go_at_call 74; (with_reducible refine (rplains_any _ l n _ HRW2.out HN6.out).mono ?_); rintro e9 w1 ⟨⟨b9, rfl, hb9⟩, hb1⟩; obtain rfl : b9 = true := hb9.2 HROW.out; clear hb9
               have hrc := cell_below hb1 hrc
               have c1 := cell_below hb1 c1
               have c2 := cell_below hb1 c2
               have c3 := cell_below hb1 c3
               obtain ⟨_, b0, b1, b2, b3, b4, b5⟩ := HC.out.belowS hb1
               )
            | (go_at_call 75; (with_reducible refine (r2sign_q _ x _ (HXN.out.below hb1) HXO.out).mono ?_); rintro e w2 ⟨rfl, hb2⟩; rw [HSG.out]
               have hb12 := below_then hb1 hb2))
          go_ret
          exact RValid.no HN.out (hbx.trans ((below_then HBW.out hb12).mono hbx.size))
      · have HB := Lib.hid (HNO.out (fun h => hrow ((HSTP.out k l).2 h).1))
        have HR := Lib.hid hrow
        clear hrow
        go_wp2_with (go_at_call 74; (with_reducible refine (rplains_any _ l n _ hrw HN6.out).mono ?_); rintro e9 w1 ⟨⟨b9, rfl, hb9⟩, hb1⟩; obtain rfl : b9 = false := Bool.eq_false_iff.2 (fun h => HR.out (hb9.1 h)); clear hb9)
        go_ret
        exact RValid.no HB.out (hbx.trans ((below_then hb hb1).mono hbx.size))
    · obtain rfl : k = n := by omega
      have HALL : Hid (∀ i r, c.rates[i]? = some r → stateP c i r) := Lib.hid (fun i r h => HST.out i r (by
        obtain ⟨h6, _⟩ := List.getElem?_eq_some_iff.1 h
        have := H4.out; omega) h)
      have HOKS : Hid (∀ x ∈ c.start, x.ok) := Lib.hid H5.out.ok
      have HFIT : Hid (∀ j, j ≤ c.start.length → fits (lsum (qs (c.start.take j)))) := Lib.hid (fun j _ => H5.out.fits j)
      have HFS : Hid (fits (lsum (qs c.start))) := Lib.hid (by have h6 := H5.out.fits c.start.length; rw [List.take_length] at h6; exact h6)
      go_wp2_with (go_at_call 76; (with_reducible refine (r2sum_fit _ c.start _ (hs'.below hb) HOKS.out HFIT.out).mono ?_); rintro e w1 ⟨v, rfl, hv, hb1⟩
                   obtain ⟨t9, x9, y9, rfl, ⟨a1, l91, k1, rfl, _⟩, ⟨a2, l92, k2, rfl, _⟩⟩ := hv.isF)
      have hv6 := hv.below (below_alloc w1 (.cells #[.bool t9, .slice a1 l91 k1, .slice a2 l92 k2] 50))
      have hc6 := C3.new w1 50 (.bool t9) (.slice a1 l91 k1) (.slice a2 l92 k2)
      have hb6 := below_then (below_then hb hb1) (below_alloc w1 (.cells #[.bool t9, .slice a1 l91 k1, .slice a2 l92 k2] 50))
      generalize w1.alloc (.cells #[.bool t9, .slice a1 l91 k1, .slice a2 l92 k2] 50) = W6 at *
      have hdr := below_drew (B := W6.heap.size) W6
      have hv7 := hv6.below hdr
      have HC7 := Lib.hid (hc6.belowS hdr)
      have hb7 := below_then hb6 hdr
      clear hv hv6 hb1 hb6 hb b0 b1 b2 b3 b4 b5 hs' hr' hl'
      obtain ⟨_, q1, q2, q3, q4, q5, q6⟩ := hc6.belowS hdr
      clear hc6
      generalize w1.heap.size = B6 at *
      have HF1 := Lib.hid fits_one
      have tok1 : True := trivial
      go_region_held3 (fun w' => w'.cell? ⟨B6, 0, none⟩ = some (.bool t9) ∧ w'.cell? ⟨B6, 1, none⟩ = some (.slice a1 l91 k1) ∧ w'.cell? ⟨B6, 2, none⟩ = some (.slice a2 l92 k2)) (exact ⟨q1, q2, q3⟩) (first
        | (go_at_call 43; (with_reducible refine (r2valid_can _ _ _ hv7 HFS.out).mono ?_); rintro e8 w7 ⟨rfl, hb8a⟩
           obtain ⟨_, q1, q2, q3, q4, q5, q6⟩ := HC7.out.belowS hb8a
           have HC8 := Lib.hid (HC7.out.belowS hb8a)
           have hv8a := hv7.below hb8a)
        | (go_at_call 27; (with_reducible refine (r2int_one _).mono ?_); rintro e8 w8 ⟨v1, rfl, hv1, hb8⟩
           obtain ⟨_, q1, q2, q3, q4, q5, q6⟩ := HC8.out.belowS hb8
           have HC9 := Lib.hid (HC8.out.belowS hb8)
           have hv8 := hv8a.below hb8)
        | (go_at_call 77; (with_reducible refine (FracC.same hv8 hv1 HFS.out HF1.out).mono ?_); rintro e9 w9 ⟨rfl, hb9⟩
           obtain ⟨_, q1, q2, q3, q4, q5, q6⟩ := HC9.out.belowS hb9))
      go_wp2
      go_ret
      refine ⟨⟨_, rfl, ?_⟩, hbx.trans ((below_then (below_then (below_then hb7 hb8a) hb8) hb9).mono hbx.size)⟩
      rw [HVAL.out]
      exact ⟨fun h => ⟨HALL.out, by simpa using h⟩, fun h => by simpa using h.2⟩
/-- Valid decides whether a chain is valid. -/
theorem rvalid_chain (va : Value) (c : RC) (w : World) (ha : ChainN w va c) : Calls Try.prog 46 #[va] w (RValid w c) := by
  by_cases h : c.start.length < 1 ∨ 128 < c.start.length ∨ c.lost.length ≠ c.start.length ∨ c.rates.length ≠ c.start.length ∨ ¬ rowP c.start c.start.length
  · refine (rvalid_false1 va c w ha h).mono fun e w' ⟨h1, h2⟩ => ?_
    rw [h1]
    refine RValid.no (fun hv => ?_) h2
    obtain ⟨v1, v2, v3, v4, v5, _⟩ := hv
    rcases h with h | h | h | h | h
    · omega
    · omega
    · exact h v3
    · exact h v4
    · exact h v5
  · exact rvalid_rest va c w ha (Nat.le_of_not_lt fun h1 => h (Or.inl h1)) (Nat.le_of_not_lt fun h1 => h (Or.inr (Or.inl h1))) (Decidable.of_not_not fun h1 => h (Or.inr (Or.inr (Or.inl h1)))) (Decidable.of_not_not fun h1 => h (Or.inr (Or.inr (Or.inr (Or.inl h1))))) (Decidable.of_not_not fun h1 => h (Or.inr (Or.inr (Or.inr (Or.inr h1)))))
end Go.Proofs.Ytoldfpkafcefnaa
