/-
  What the walks of many packages share: fractions as results, constants, what types' zero values are.
  Ahead of it: package fraction: Sum. The order of fractions. package fraction, what goes before its walks: Reduce, Cmp.
-/
import Derived.Test.YtbhkibilnmoljaaQMath6
import Derived.Test.YtbhkibilnmoljaaQOwF
namespace Go.Proofs.Ytbhkibilnmoljaa
set_option linter.unusedVariables false
set_option linter.unusedSimpArgs false
open Go.RowKit

theorem okN_one : okN 0 1 := ⟨by decide, by decide, by decide⟩
theorem make_one (w : World) : Calls Try.prog 90 #[.int .u64 1] w (RNat w 1) := make_any 1 (by decide) w
theorem C3.frac {w : World} {v0 v1 v2 : Value} {q : Rat} (h : FracC w (.agg #[v0, v1, v2]) q) : ∃ s a1 l1 k1 a2 l2 k2, v0 = .bool s ∧ v1 = .slice a1 l1 k1 ∧ v2 = .slice a2 l2 k2 := by
  obtain ⟨s, x, y, e, ⟨a1, l1, k1, rfl, _⟩, ⟨a2, l2, k2, rfl, _⟩⟩ := h.isF
  injection e with e
  injection e with e
  simp at e
  exact ⟨s, a1, l1, k1, a2, l2, k2, e.1, e.2.1, e.2.2⟩
theorem C3.set_other {w : World} {b b' : Nat} {v0 v1 v2 : Value} (h : C3 w b v0 v1 v2) (hb : b ≠ b') (u0 u1 u2 : Value) : C3 (((w.setCell ⟨b', 0, none⟩ u0).setCell ⟨b', 1, none⟩ u1).setCell ⟨b', 2, none⟩ u2) b v0 v1 v2 := by
  obtain ⟨lt, c0, c1, c2, f0, f1, f2⟩ := h
  refine ⟨by simpa [World.setCell] using lt, ?_, ?_, ?_, ?_, ?_, ?_⟩ <;> go_simp
theorem fits_okN {q : Rat} (h : fits q) : okN q.num.natAbs q.den := ⟨q.den_nz, h.2, h.1⟩
set_option maxHeartbeats 1600000 in
theorem sum_frac (va : Value) (l : List RF) (w : World) (ha : FracsN w va l) (hok : ∀ x ∈ l, x.ok) (hfit : ∀ k, k ≤ l.length → fits (lsum (qs (l.take k)))) :
    Calls Try.prog 79 #[va] w fun e w' => ∃ v, e = .returned (.tuple #[v, .int .i64 0]) ∧ FracC w' v (lsum (qs l)) ∧ Below w.heap.size w w' := by
  have sa := ha.sl
  have la := ha.len
  have hle := sa.le
  rw [la] at hle
  have hlb : l.length ≤ 9223372036854775807 := by omega
  have HOK := Lib.hid hok
  have HFIT := Lib.hid hfit
  clear hok hfit hle
  go_enter Try.func79, Try.ntmps79
  go_wp2_with (go_at_call 90; (with_reducible refine (make_one _).mono ?_); rintro e w1 ⟨r1, rfl, hr1, hb1⟩; obtain ⟨a1, l1, k1, rfl, _⟩ := hr1.v.sl)
  have hb0 := (below_alloc w (.cells #[.bool false, .slice none 0 0, .slice none 0 0] 30))
  have hbw := below_then hb0 hb1
  have hr := (C3.new w 30 _ _ _).belowS hb1
  have hlt : w.heap.size < w1.heap.size := hr.lt
  have hr2 := hr.allocS (.cells #[.bool false, .slice none 0 0, .slice a1 l1 k1] 30)
  have hs2 := C3.new w1 30 (.bool false) (.slice none 0 0) (.slice a1 l1 k1)
  have hb2 := below_then hbw (below_alloc w1 (.cells #[.bool false, .slice none 0 0, .slice a1 l1 k1] 30))
  have hf2 : FracC (w1.alloc (.cells #[.bool false, .slice none 0 0, .slice a1 l1 k1] 30)) (.agg #[.bool false, .slice none 0 0, .slice a1 l1 k1]) 0 := ⟨_, _, rfl, NatC.nil _, hr1.below (below_alloc _ _)⟩
  generalize w1.alloc (.cells #[.bool false, .slice none 0 0, .slice a1 l1 k1] 30) = W1 at *
  generalize w1.heap.size = S at *
  clear hb0 hb1 hbw hr hr1
  go_loopw [13] (fun u13 wr => ∃ (k : Nat) (v0 v1 v2 : Value), k ≤ l.length ∧ u13 = .int .i64 k ∧ C3 wr S v0 v1 v2 ∧ FracC wr (.agg #[v0, v1, v2]) (lsum (qs (l.take k))) ∧ C3 wr w.heap.size (.bool false) (.slice none 0 0) (.slice none 0 0) ∧ Below w.heap.size w wr) (fun u13 _ => l.length - (intOf u13).toNat)
  case atStart => exact ⟨0, _, _, _, Nat.zero_le _, rfl, hs2, hf2, hr2, hb2⟩
  case round =>
    obtain ⟨k, v0, v1, v2, hk, rfl, hs, hf, hr, hb⟩ := hrel
    clear hs2 hf2 hr2 hb2
    obtain ⟨s0, b1, m1, j1, b2, m2, j2, rfl, rfl, rfl⟩ := C3.frac hf
    have HS := Lib.hid hs
    have HR := Lib.hid hr
    have HF := Lib.hid hf
    obtain ⟨_, s1, s2, s3, s4, s5, s6⟩ := hs
    obtain ⟨_, q1, q2, q3, q4, q5, q6⟩ := hr
    clear hf
    by_cases hkl : k < l.length
    · obtain ⟨xa, xb, c1, c2, c3, hxa, hxb⟩ := (ha.below hb).at' k hkl
      obtain ⟨c1a, c1l, c1k, rfl, _⟩ := hxa.slen.1
      obtain ⟨c2a, c2l, c2k, rfl, _⟩ := hxb.slen.1
      have hA : FracN (wr.alloc (.cells #[.bool l[k].neg, .slice c1a c1l c1k, .slice c2a c2l c2k] 30)) (.agg #[.bool l[k].neg, .slice c1a c1l c1k, .slice c2a c2l c2k]) l[k].neg l[k].n l[k].d := ⟨_, _, rfl, hxa.below (below_alloc _ _), hxb.below (below_alloc _ _)⟩
      have hB := (HF.out.raw).below (below_alloc wr (.cells #[.bool l[k].neg, .slice c1a c1l c1k, .slice c2a c2l c2k] 30))
      have hs1 := HS.out.allocS (.cells #[.bool l[k].neg, .slice c1a c1l c1k, .slice c2a c2l c2k] 30)
      have hr1 := HR.out.allocS (.cells #[.bool l[k].neg, .slice c1a c1l c1k, .slice c2a c2l c2k] 30)
      have hb1 := below_then hb (below_alloc wr (.cells #[.bool l[k].neg, .slice c1a c1l c1k, .slice c2a c2l c2k] 30))
      have HO : Hid (okN l[k].n l[k].d) := Lib.hid (HOK.out l[k] (List.getElem_mem hkl))
      have HQ := Lib.hid (fits_okN (HFIT.out k hk))
      have HE : Hid (fq (decide (lsum (qs (l.take k)) < 0)) (lsum (qs (l.take k))).num.natAbs (lsum (qs (l.take k))).den + fq l[k].neg l[k].n l[k].d = lsum (qs (l.take (k + 1)))) := Lib.hid (by rw [fq_self, lsum_qs l k hkl]; rfl)
      have HF1 := Lib.hid (HFIT.out (k + 1) hkl)
      clear hb hxa hxb
      go_wp2_with (go_at_call 91; (with_reducible refine (add_frac _ _ _ _ _ _ _ _ _ hB hA HQ.out HO.out).mono ?_); rw [HE.out]; rintro e w7 ⟨v, er, rfl, hb7, hv7, _⟩
                   obtain ⟨rfl, hv8⟩ := hv7 HF1.out
                   obtain ⟨t9, x9, y9, rfl, ⟨a1, l91, k1, rfl, _⟩, ⟨a2, l92, k2, rfl, _⟩⟩ := hv8.isF
                   have hs8 := (hs1.belowS hb7).allocS (.cells #[.bool t9, .slice a1 l91 k1, .slice a2 l92 k2] 30)
                   have hr8 := (hr1.belowS hb7).allocS (.cells #[.bool t9, .slice a1 l91 k1, .slice a2 l92 k2] 30)
                   have hb8 := below_then (below_then hb1 hb7) (below_alloc w7 (.cells #[.bool t9, .slice a1 l91 k1, .slice a2 l92 k2] 30))
                   have hv9 := hv8.below (below_alloc w7 (.cells #[.bool t9, .slice a1 l91 k1, .slice a2 l92 k2] 30))
                   have HS8 := Lib.hid hs8
                   obtain ⟨_, d1, d2, d3, d4, d5, d6⟩ := hs8)
      go_roundw
      case rel => exact ⟨k + 1, _, _, _, hkl, by go_num, HS8.out.set _ _ _, hv9.set3 HS8.out (fun z => by simp) (fun z => by simp) _ _ _, hr8.set_other (by omega) _ _ _, below_set3 hb8 (by omega) _ _ _⟩
      case measure => simp [intOf]; omega
    · obtain rfl : k = l.length := by omega
      have HF2 : Hid (FracC wr (.agg #[.bool s0, .slice b1 m1 j1, .slice b2 m2 j2]) (lsum (qs l))) := Lib.hid (by have h5 := HF.out; rw [List.take_length] at h5; exact h5)
      clear HF
      go_wp2
      refine bodyPost_c3 rfl rfl Try.aggF Try.sizeF (HR.out.set _ _ _) rfl ?_
      exact ⟨_, rfl, HF2.out.set3 HR.out (fun z => by simp) (fun z => by simp) _ _ _, below_set3 hb (Nat.le_refl _) _ _ _⟩
end Go.Proofs.Ytbhkibilnmoljaa
namespace Go.Proofs.Ytbhkibilnmoljaa
set_option linter.unusedVariables false
theorem mkRat_neg_iff (a : Int) (b : Nat) (hb : b ≠ 0) : mkRat a b < 0 ↔ a < 0 := by
  have e : mkRat a b = fq (decide (a < 0)) a.natAbs b := by
    unfold fq sgn
    congr 1
    by_cases h : a < 0
    · rw [if_pos (decide_eq_true h)]; omega
    · rw [decide_eq_false h]; simp; omega
  have h := fq_neg (decide (a < 0)) a.natAbs b hb
  rw [e]
  by_cases h0 : a < 0
  · rw [decide_eq_true h0] at h ⊢
    have hg : 0 < a.natAbs / Nat.gcd a.natAbs b := Nat.div_pos (Nat.le_of_dvd (by omega) (Nat.gcd_dvd_left _ _)) (Nat.gcd_pos_of_pos_left _ (by omega))
    rw [decide_eq_true hg] at h
    simp only [Bool.and_self, decide_eq_true_eq] at h
    exact ⟨fun _ => h0, fun _ => h⟩
  · rw [decide_eq_false h0] at h ⊢
    simp only [Bool.false_and, decide_eq_false_iff_not] at h
    exact ⟨fun h' => absurd h' h, fun h' => absurd h' h0⟩
theorem fq_lt (s t : Bool) (n d m e : Nat) (hd : d ≠ 0) (he : e ≠ 0) : fq s n d < fq t m e ↔ sgn s (n * e) < sgn t (m * d) := by
  have h1 : fq s n d < fq t m e ↔ fq s n d - fq t m e < 0 := by
    rw [Rat.lt_iff_sub_pos, Rat.lt_iff_sub_pos (fq s n d - fq t m e)]
    have : (0 : Rat) - (fq s n d - fq t m e) = fq t m e - fq s n d := by grind
    rw [this]
  have h2 : -fq t m e = fq (!t) m e := by
    unfold fq
    rw [Rat.neg_mkRat]
    congr 1
    unfold sgn; cases t <;> simp
  rw [h1, Rat.sub_eq_add_neg, h2, fq_add _ _ _ _ _ _ hd he, mkRat_neg_iff _ _ (Nat.mul_ne_zero hd he)]
  have h3 : sgn (!t) (m * d) = - sgn t (m * d) := by unfold sgn; cases t <;> simp
  rw [h3]
  omega
/-- -1, 0 or 1. -/
def cmpR (p q : Rat) : Int := if p < q then -1 else if q < p then 1 else 0
theorem cmpR_eq (s t : Bool) (n d m e : Nat) (hd : d ≠ 0) (he : e ≠ 0) :
    cmpR (fq s n d) (fq t m e) = if s && !decide (n = 0) && (t && !decide (m = 0)) then -cmpN (n * e) (m * d) else if s && !decide (n = 0) then -1 else if t && !decide (m = 0) then 1 else cmpN (n * e) (m * d) := by
  have hA : n * e = 0 ↔ n = 0 := by rw [Nat.mul_eq_zero]; exact ⟨fun h => h.resolve_right he, Or.inl⟩
  have hB : m * d = 0 ↔ m = 0 := by rw [Nat.mul_eq_zero]; exact ⟨fun h => h.resolve_right hd, Or.inl⟩
  have h1 := fq_lt s t n d m e hd he
  have h2 := fq_lt t s m e n d he hd
  have e1 : cmpR (fq s n d) (fq t m e) = if sgn s (n * e) < sgn t (m * d) then -1 else if sgn t (m * d) < sgn s (n * e) then 1 else 0 := by
    unfold cmpR
    simp only [h1, h2]
  rw [e1]
  clear e1 h1 h2
  generalize n * e = A at *
  generalize m * d = B at *
  unfold cmpN sgn
  have c1 : decide (n = 0) = decide (A = 0) := by simp only [hA]
  have c2 : decide (m = 0) = decide (B = 0) := by simp only [hB]
  rw [c1, c2]
  clear c1 c2 hA hB
  by_cases hA : A = 0 <;> by_cases hB : B = 0 <;> cases s <;> cases t <;> simp [hA, hB] <;> (repeat' split) <;> omega
end Go.Proofs.Ytbhkibilnmoljaa
namespace Go.Proofs.Ytbhkibilnmoljaa
set_option linter.unusedVariables false
set_option linter.unusedSimpArgs false
open Go.RowKit

theorem fits_ok (s : Bool) {n d : Nat} (h : okN n d) : fits (fq s n d) := by
  rw [fits_fq s n d h.1]
  exact ⟨Nat.le_trans (nbits_mono (Nat.div_le_self _ _)) h.2.2, Nat.le_trans (nbits_mono (Nat.div_le_self _ _)) h.2.1⟩
/-- A reduced fraction, or the zero value and ErrArg. -/
def RRed (w0 : World) (s : Bool) (n d : Nat) (e : Ending) (w : World) : Prop :=
  ∃ v er, e = .returned (.tuple #[v, .int .i64 er]) ∧ Below w0.heap.size w0 w ∧ (okN n d → er = 0 ∧ FracC w v (fq s n d)) ∧ (¬ okN n d → er = 1 ∧ v = zeroF)
theorem valid_no (v : Value) (s : Bool) (n d : Nat) (w : World) (h : FracN w v s n d) (hk : ¬ okN n d) :
    Calls Try.prog 77 #[v] w fun e w' => e = .returned (.bool false) ∧ Below w.heap.size w w' :=
  (valid_any v s n d w h).mono fun e w' ⟨h1, h2⟩ => ⟨by rw [h1, decide_eq_false hk], h2⟩
theorem two_boxes (w : World) (t : TypeId) (x0 x1 x2 y0 y1 y2 : Value) (W : World)
    (hW : W = (w.alloc (.cells #[x0, x1, x2] t)).alloc (.cells #[y0, y1, y2] t)) :
    C3 W w.heap.size x0 x1 x2 ∧ C3 W (w.heap.size + 1) y0 y1 y2 ∧ Below w.heap.size w W := by
  subst hW
  have e1 : (w.alloc (.cells #[x0, x1, x2] t)).heap.size = w.heap.size + 1 := by show (w.heap.push _).size = _; simp
  refine ⟨(C3.new w t x0 x1 x2).allocS _, ?_, ?_⟩
  · rw [← e1]; exact C3.new _ t y0 y1 y2
  · exact (below_alloc w _).trans ((below_alloc _ _).mono (below_alloc w _).size)
set_option maxHeartbeats 1600000 in
theorem reduce_any (va : Value) (s : Bool) (n d : Nat) (w : World) (ha : FracN w va s n d) :
    Calls Try.prog 62 #[va] w (RRed w s n d) := by
  have hA := ha
  obtain ⟨xn, xd, rfl, hxn, hxd⟩ := ha
  obtain ⟨an, ln, kn, rfl, _⟩ := hxn.slen.1
  obtain ⟨ad, ld, kd, rfl, _⟩ := hxd.slen.1
  go_enter Try.func62, Try.ntmps62
  go_wp2_with fail
  obtain ⟨W, hW⟩ : ∃ W, W = ((w.alloc (.cells #[.bool s, .slice an ln kn, .slice ad ld kd] 30)).alloc (.cells #[.bool false, .slice none 0 0, .slice none 0 0] 30)) := ⟨_, rfl⟩
  obtain ⟨bx, bz, hbw⟩ := two_boxes w 30 _ _ _ _ _ _ W hW
  rw [← hW]
  clear hW
  have HBX := Lib.hid bx
  have HBZ := Lib.hid bz
  obtain ⟨_, q1, q2, q3, q4, q5, q6⟩ := bx
  clear bz
  by_cases hk : okN n d
  · have K := Lib.hid hk
    have NN := Lib.hid (Nat.le_trans (nbits_nlen (n := n) (k := 128) hk.2.2) (show 128 ≤ 512 by decide))
    have ND := Lib.hid (Nat.le_trans (nbits_nlen (n := d) (k := 128) hk.2.1) (show 128 ≤ 512 by decide))
    have FT := Lib.hid (fits_ok s hk)
    have D0 := Lib.hid hk.1
    clear hk
    go_wp2_with (first
      | (go_at_call 77; (with_reducible refine (valid_ok _ s n d _ (hA.below hbw) K.out).mono ?_); rintro e9 w1 ⟨rfl, hv1⟩
         obtain ⟨_, f1, f2, f3, f4, f5, f6⟩ := HBX.out.belowS hv1
         have hbw1 := below_then hbw hv1)
      | (go_at_call 82; (with_reducible refine (lowest_any s _ _ n d _ (hxn.below hbw1) (hxd.below hbw1) D0.out NN.out ND.out).mono ?_); rintro e9 w7 ⟨v, er7, rfl, hv5, hv2, hv3⟩
         have hv4 := hv2 FT.out
         obtain ⟨t9, x9, y9, rfl, ⟨a1, l91, k1, rfl, _⟩, ⟨a2, l92, k2, rfl, _⟩⟩ := rfrac_isF (w0 := w) hv2 hv3
         have hC := (HBZ.out.belowS hv1).belowS hv5
         have HC := Lib.hid hC
         have hbz := below_then hbw1 hv5
         obtain ⟨_, d0, d1, d2, e0, e1, e2⟩ := hC))
    refine bodyPost_c3 rfl rfl Try.aggF Try.sizeF (HC.out.set _ _ _) rfl ?_
    exact ⟨_, _, rfl, below_set3 hbz (by omega) _ _ _, fun h => ⟨rfl, hv4.2.set3 HC.out (fun z => by simp) (fun z => by simp) _ _ _⟩, fun h => absurd K.out h⟩
  · have K := Lib.hid hk
    clear hk
    go_wp2_with (first
      | (go_at_call 77; (with_reducible refine (valid_no _ s n d _ (hA.below hbw) K.out).mono ?_); rintro e9 w1 ⟨rfl, hv1⟩
         have hC := HBZ.out.belowS hv1
         have HC := Lib.hid hC
         have hbz := below_then hbw hv1
         obtain ⟨_, d0, d1, d2, e0, e1, e2⟩ := hC))
    refine bodyPost_c3 rfl rfl Try.aggF Try.sizeF (HC.out.set _ _ _) rfl ?_
    exact ⟨_, _, rfl, below_set3 hbz (by omega) _ _ _, fun h => absurd h K.out, fun _ => ⟨rfl, rfl⟩⟩

theorem step_callg {P : Program} {ops : Array Oper} {o : Oper} {a : Act} {w : World} {K : Act → World → Prop} {Q : Exit → Act → World → Prop} {E : Prop} (f : FuncId) (argv : Array Value) (hg : Region.wanted o (yielded ops a.tmps) = true)
    (hrun : (execOp a.eval o).run P w = .ok (.enter f argv) w) {R : Ending → World → Prop} (hc : Calls P f argv w R) (h : ∀ e w', R e w' → ∃ v, e = .returned v ∧ K (a.put o.dst v) w') :
    if Region.wanted o (yielded ops a.tmps) = true then Oper.wp P o a w K Q else E := by
  rw [if_pos hg]
  unfold Oper.wp
  rw [hrun, Oper.upon_enter]
  refine hc.mono fun e w' hr => ?_
  obtain ⟨v, rfl, hk⟩ := h e w' hr
  exact hk
end Go.Proofs.Ytbhkibilnmoljaa
namespace Go.Proofs.Ytbhkibilnmoljaa
set_option linter.unusedVariables false
set_option linter.unusedSimpArgs false
open Go.RowKit

theorem fits_zero : fits 0 := by decide
theorem fits_one : fits 1 := by decide
/-- A fraction with OK. -/
def RF0 (w0 : World) (q : Rat) (e : Ending) (w : World) : Prop := ∃ v, e = .returned (.tuple #[v, .int .i64 0]) ∧ FracC w v q ∧ Below w0.heap.size w0 w
/-- A fraction. -/
def RF1 (w0 : World) (q : Rat) (e : Ending) (w : World) : Prop := ∃ v, e = .returned v ∧ FracC w v q ∧ Below w0.heap.size w0 w
theorem RFrac.ok {w0 : World} {q q' : Rat} {e : Ending} {w : World} (h : RFrac w0 q e w) (hq : q = q') (hf : fits q') : RF0 w0 q' e w := by
  subst hq
  obtain ⟨v, er, rfl, h1, h2, _⟩ := h
  obtain ⟨rfl, h3⟩ := h2 hf
  exact ⟨v, rfl, h3, h1⟩
theorem make_01 (w : World) : Calls Try.prog 76 #[.int .i64 0, .int .i64 1] w (RF0 w 0) :=
  (make_frac 0 1 w (by decide) (by decide) (by decide) (by decide) (by decide)).mono fun _ _ h => h.ok (by decide) fits_zero
theorem make_11 (w : World) : Calls Try.prog 76 #[.int .i64 1, .int .i64 1] w (RF0 w 1) :=
  (make_frac 1 1 w (by decide) (by decide) (by decide) (by decide) (by decide)).mono fun _ _ h => h.ok (by decide) fits_one
theorem results_cell {fn : Func} {p : Tmp} {ty : TypeId} (h : fn.results = #[.cell p ty]) (tmps : Array Value) (P : Program) (w : World) :
    (results fn tmps).run P w = ((asAddr (tmps.getD p undef)).run P w).andThen fun a w => (loadVar ty a).run P w := by
  simp [results, h]
theorem bodyPost_c1 {P : Program} {fn : Func} {R : Ending → World → Prop} {a : Act} {w : World} {p : Tmp} {ty : TypeId} {b : Nat} {v0 v1 v2 : Value} (h : fn.results = #[.cell p ty])
    (hp : a.tmps.getD p undef = .pointer (some ⟨b, 0, none⟩)) (hagg : ∀ w, (isAgg ty).run P w = .ok true w) (hs : ∀ w, (sizeOf ty).run P w = .ok 3 w) (hc : C3 w b v0 v1 v2) (hd : a.defers = [])
    (hR : R (.returned (.agg #[v0, v1, v2])) w) : bodyPost P fn R .ret a w := by
  refine bodyPost_ret ?_ hd hR
  rw [results_cell h, hp]
  simp only [asAddr, Sem.run_pure, Result.andThen_ok, load_c3 hagg hs hc]
theorem Try.infoF : (Try.prog.info? 30).map (fun i => (i.zero, i.size, i.bytes)) = some (some (.agg #[.bool false, .slice none 0 0, .slice none 0 0]), 3, 56) := by kernel_rfl
theorem below_then2 {w w1 w2 : World} {B : Nat} (h : Below B w w1) (h' : Below w1.heap.size w1 w2) (hB : B ≤ w1.heap.size := by exact h.size) : Below B w w2 := h.trans (h'.mono hB)
theorem OwnFr.fracs {w : World} {e : TypeId} {B n : Nat} {v : Value} (h : OwnFr w e B v n) {l : List Rat} (hl : l.length = n) (he : ∀ j (hj : j < l.length), ElemC w v j l[j]) : FracsC w v l :=
  ⟨h.sl, by rw [h.len, hl], he⟩
theorem Try.infoRow : (Try.prog.info? 26).map (fun i => (i.zero, i.size, i.bytes)) = some (some (.slice none 0 0), 1, 24) := by kernel_rfl
theorem Try.infoBool : (Try.prog.info? 4).map (fun i => (i.zero, i.size, i.bytes)) = some (some (.bool false), 1, 1) := by kernel_rfl
theorem Try.infoInt : (Try.prog.info? 3).map (fun i => (i.zero, i.size, i.bytes)) = some (some (.int .i64 0), 1, 8) := by kernel_rfl
theorem C3.other {w : World} {b : Nat} {v0 v1 v2 : Value} (h : C3 w b v0 v1 v2) (p : Addr) (u : Value) (hp : p.block ≠ b) : C3 (w.setCell p u) b v0 v1 v2 := by
  obtain ⟨lt, c0, c1, c2, f0, f1, f2⟩ := h
  have hne : ∀ k, p ≠ ⟨b, k, none⟩ := fun k e => hp (by rw [e])
  have hf : ∀ q, (w.setCell p u).frozen? q = w.frozen? q := fun q => by simp
  exact ⟨by simpa [World.setCell] using lt, by rw [World.cell?_setCell_other _ _ _ _ (hne _)]; exact c0, by rw [World.cell?_setCell_other _ _ _ _ (hne _)]; exact c1, by rw [World.cell?_setCell_other _ _ _ _ (hne _)]; exact c2,
    by rw [hf]; exact f0, by rw [hf]; exact f1, by rw [hf]; exact f2⟩
theorem C3.set0 {w : World} {b : Nat} {v0 v1 v2 : Value} (h : C3 w b v0 v1 v2) (u : Value) : C3 (w.setCell ⟨b, 0, none⟩ u) b u v1 v2 := by
  obtain ⟨lt, c0, c1, c2, f0, f1, f2⟩ := h
  refine ⟨by simpa [World.setCell] using lt, ?_, ?_, ?_, ?_, ?_, ?_⟩ <;> go_simp
theorem C3.set1 {w : World} {b : Nat} {v0 v1 v2 : Value} (h : C3 w b v0 v1 v2) (u : Value) : C3 (w.setCell ⟨b, 1, none⟩ u) b v0 u v2 := by
  obtain ⟨lt, c0, c1, c2, f0, f1, f2⟩ := h
  refine ⟨by simpa [World.setCell] using lt, ?_, ?_, ?_, ?_, ?_, ?_⟩ <;> go_simp
theorem C3.set2 {w : World} {b : Nat} {v0 v1 v2 : Value} (h : C3 w b v0 v1 v2) (u : Value) : C3 (w.setCell ⟨b, 2, none⟩ u) b v0 v1 u := by
  obtain ⟨lt, c0, c1, c2, f0, f1, f2⟩ := h
  refine ⟨by simpa [World.setCell] using lt, ?_, ?_, ?_, ?_, ?_, ?_⟩ <;> go_simp
theorem sizeD (w : World) : w.drew.heap.size = w.heap.size := rfl
theorem sizeA (w : World) (o : Obj) : (w.alloc o).heap.size = w.heap.size + 1 := by simp
theorem C3.newB {b : Nat} (w : World) (t : TypeId) (v0 v1 v2 : Value) (hb : w.heap.size = b) : C3 (w.alloc (.cells #[v0, v1, v2] t)) b v0 v1 v2 := by subst hb; exact C3.new w t v0 v1 v2
theorem C3.grownB {w w' : World} {b : Nat} {v0 v1 v2 : Value} {r : Option Nat} (h : C3 w b v0 v1 v2) (hg : w.grownBy w' r) (hr : r ≠ some b) : C3 w' b v0 v1 v2 := by
  have e := hg.block b h.lt (fun h => hr h.symm)
  obtain ⟨lt, c0, c1, c2, f0, f1, f2⟩ := h
  have hc : ∀ k, w'.cell? ⟨b, k, none⟩ = w.cell? ⟨b, k, none⟩ := fun k => by simp [World.cell?, e]
  have hf : ∀ k, w'.frozen? ⟨b, k, none⟩ = w.frozen? ⟨b, k, none⟩ := fun k => by simp [World.frozen?, e]
  exact ⟨Nat.lt_of_lt_of_le lt hg.size, by rw [hc]; exact c0, by rw [hc]; exact c1, by rw [hc]; exact c2, by rw [hf]; exact f0, by rw [hf]; exact f1, by rw [hf]; exact f2⟩
end Go.Proofs.Ytbhkibilnmoljaa
