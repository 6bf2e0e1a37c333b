/-
  package drydockref02: Make, Int, times, fits, Mul.
-/
import Derived.Test.YtlpdkbmmbdfoiaaGreatFRa7
import Derived.Test.YtlpdkbmmbdfoiaaGreatFOwR
set_option linter.unusedVariables false
set_option linter.unusedSimpArgs false
namespace Go.Proofs.YtlpdkbmmbdfoiaaGreat
open Go.RowKit
set_option maxHeartbeats 800000 in
theorem zvj (va vb : Value) (m n : Nat) (w : World) (ha : zob w va m) (hb : zob w vb n) (h : n ≠ 0) (hm : zda m ≤ 512) (hn : zda n ≤ 512) :
 Calls Tryz.prog 150 #[va, vb] w (RDiv2 w m n) := by
 have HM := zH hm
 have HN := zH hn
 have H0 := zH h
 have hnz : zda n ≠ 0 := fun h' => h (zta.1 h')
 have hnz2 : (((zda n : Nat) : Int) == 0) = false := by simpa using hnz
 clear hm hn hnz h
 have tok1 : True := trivial
 go_enter Tryz.func150, Tryz.ntmps150
 go_wp2_with (first
  |(go_at_call 152; first
    |((with_reducible refine (zyc va m _ ha HM.out).mono ?_); rintro e wa ⟨rfl, hba⟩)
    |((with_reducible refine (zyc vb n _ (hb.below hba) HN.out).mono ?_); rintro e wb ⟨rfl, hbb⟩; have hbw := zaa hba hbb))
  |(go_at_call 106; have _t := tok1; (with_reducible refine (zra vb n _ (hb.below hbw)).mono ?_); rintro e wc ⟨r0, rfl, hr0, hb0⟩; clear tok1 _t; have sl0 := hr0.v.sl; have ln0 : slen r0 = zda n := hr0.v.len; have hbw0 := zaa hbw hb0)
  |(go_at_call 106; first
     |((with_reducible refine (zra va m _ (ha.below hbw0)).mono ?_); rintro e w1 ⟨ra, rfl, hra, hb1⟩; have hbw1 := zaa hbw0 hb1)
     |((with_reducible refine (zra vb n _ (hb.below hbw1)).mono ?_); rintro e w2 ⟨rb, rfl, hrb, hb2⟩; have hbw2 := zaa hbw1 hb2; have hra2 := hra.below hb2))
  |(go_at_call 196; (with_reducible refine (zqk ra rb m n _ hra2 hrb H0.out HM.out).mono ?_); rintro e w3 ⟨q, r, rfl, hq, hr, hb3⟩; have hbw3 := zaa hbw2 hb3))
 go_ret3
 exact ⟨q, r, rfl, hq, hr, hbw3⟩
set_option maxHeartbeats 800000 in
theorem zen (va vb : Value) (m n : Nat) (w : World) (ha : zob w va m) (hb : zob w vb n) (hm : zda m ≤ 512) (hn : zda n ≤ 512) :
 Calls Tryz.prog 149 #[va, vb] w (RNat0 w (Nat.gcd m n)) := by
 have HM := zH hm
 have HN := zH hn
 clear hm hn
 go_enter Tryz.func149, Tryz.ntmps149
 go_wp2_with (first
  |(go_at_call 152; first
    |((with_reducible refine (zyc va m _ ha HM.out).mono ?_); rintro e wa ⟨rfl, hba⟩)
    |((with_reducible refine (zyc vb n _ (hb.below hba) HN.out).mono ?_); rintro e wb ⟨rfl, hbb⟩; have hbw0 := zaa hba hbb))
  |(go_at_call 106; first
     |((with_reducible refine (zra va m _ (ha.below hbw0)).mono ?_); rintro e w1 ⟨ra, rfl, hra, hb1⟩; have hbw1 := zaa hbw0 hb1)
     |((with_reducible refine (zra vb n _ (hb.below hbw1)).mono ?_); rintro e w2 ⟨rb, rfl, hrb, hb2⟩; have hbw := zaa hbw1 hb2; have hra2 := hra.below hb2)))
 go_loopw [6, 7] (fun u0 u1 wr => ∃ (x y : Nat), zjb wr u0 x ∧ zjb wr u1 y ∧ zda x ≤ 512 ∧ zda y ≤ 512 ∧ Nat.gcd x y = Nat.gcd m n ∧ Below w.heap.size w wr) (fun _ u1 wr => natOf wr u1)
 case atStart => exact ⟨m, n, hra2, hrb, HM.out, HN.out, rfl, hbw⟩
 case round =>
  obtain ⟨x, y, hx, hy, hx5, hy5, hg, hbr⟩ := hrel
  clear ha hb hra hrb hra2 hb1 hb2 hbw hbw0 hbw1 hba hbb
  obtain ⟨sx, lx⟩ : zgc u6 ∧ slen u6 = zda x := ⟨hx.v.sl, hx.v.len⟩
  obtain ⟨sy, ly⟩ : zgc u7 ∧ slen u7 = zda y := ⟨hy.v.sl, hy.v.len⟩
  have HX := zH hx5
  have HY := zH hy5
  have HG := zH hg
  have hxb : zda x ≤ 4294967296 := by omega
  have hyb : zda y ≤ 4294967296 := by omega
  clear hx5 hy5 hg
  by_cases hy0 : y = 0
  ·have hyz : zda y = 0 := zta.2 hy0
   have hfin : x = Nat.gcd m n := by rw [← HG.out, hy0, Nat.gcd_zero_right]
   have HF := zH hfin
   clear hfin hy0
   go_wp2
   go_ret2
   exact ⟨_, rfl, HF.out ▸ hx, hbr⟩
  ·have hyz : 0 < zda y := by have : zda y ≠ 0 := fun h' => hy0 (zta.1 h'); omega
   have HY0 := zH hy0
   clear hy0
   go_wp2_with (go_at_call 196; (with_reducible refine (zqk _ _ x y _ hx hy HY0.out HX.out).mono ?_); rintro e w3 ⟨q, r, rfl, hq, hr, hbl⟩)
   have hy3 := hy.below hbl
   have hbr3 := hbr.trans (hbl.mono hbr.size)
   go_wp2
   go_roundw
   case rel => exact ⟨y, x % y, hy3, hr, HY.out, Nat.le_trans (zfb (Nat.le_of_lt (Nat.mod_lt _ (Nat.pos_of_ne_zero HY0.out)))) HY.out, by rw [← HG.out, Nat.gcd_comm y, ← Nat.gcd_rec, Nat.gcd_comm], hbr3⟩
   case measure => rw [zwj hr, zwj hy]; exact Nat.mod_lt _ (Nat.pos_of_ne_zero HY0.out)
theorem make_one (w : World) : Calls Tryz.prog 187 #[.int .u64 1] w (RNat w 1) := zxj 1 (by decide) w
theorem C3.frac {w : World} {v0 v1 v2 : Value} {q : Rat} (h : zqa w (.agg #[v0, v1, v2]) q) : ∃ s a1 l1 k1 a2 l2 k2, v0 = .bool s ∧ v1 = .slice a1 l1 k1 ∧ v2 = .slice a2 l2 k2 := by
 obtain ⟨s, x, y, e, ⟨a1, l1, k1, rfl, _⟩, ⟨a2, l2, k2, rfl, _⟩⟩ := h.isF
 injection e with e
 injection e with e
 simp at e
 exact ⟨s, a1, l1, k1, a2, l2, k2, e.1, e.2.1, e.2.2⟩
theorem C3.set_other {w : World} {b b' : Nat} {v0 v1 v2 : Value} (h : C3 w b v0 v1 v2) (hb : b ≠ b') (u0 u1 u2 : Value) : C3 (((w.setCell ⟨b', 0, none⟩ u0).setCell ⟨b', 1, none⟩ u1).setCell ⟨b', 2, none⟩ u2) b v0 v1 v2 := by
 obtain ⟨lt, c0, c1, c2, f0, f1, f2⟩ := h
 refine ⟨by simpa [World.setCell] using lt, ?_, ?_, ?_, ?_, ?_, ?_⟩ <;> go_simp
theorem zuc {q : Rat} (h : fits q) : okN q.num.natAbs q.den := ⟨q.den_nz, h.2, h.1⟩
set_option maxHeartbeats 1600000 in
theorem sum_frac (va : Value) (l : List RF) (w : World) (ha : zni w va l) (hok : ∀ x ∈ l, x.ok) (hfit : ∀ k, k ≤ l.length → fits (zgg (qs (l.take k)))) :
 Calls Tryz.prog 137 #[va] w fun e w' => ∃ v, e = .returned (.tuple #[v, .int .i64 0]) ∧ zqa w' v (zgg (qs l)) ∧ Below w.heap.size w w' := by
 have sa := ha.sl
 have la := ha.len
 have hle := sa.le
 rw [la] at hle
 have hlb : l.length ≤ 9223372036854775807 := by omega
 have HOK := zH hok
 have HFIT := zH hfit
 clear hok hfit hle
 go_enter Tryz.func137, Tryz.ntmps137
 go_wp2_with (go_at_call 187; (with_reducible refine (make_one _).mono ?_); rintro e w1 ⟨r1, rfl, hr1, hb1⟩; obtain ⟨a1, l1, k1, rfl, _⟩ := hr1.v.sl)
 have hb0 := (zca w (.cells #[.bool false, .slice none 0 0, .slice none 0 0] 38))
 have hbw := zaa hb0 hb1
 have hr := (C3.new w 38 _ _ _).belowS hb1
 have hlt : w.heap.size < w1.heap.size := hr.lt
 have hr2 := hr.allocS (.cells #[.bool false, .slice none 0 0, .slice a1 l1 k1] 38)
 have hs2 := C3.new w1 38 (.bool false) (.slice none 0 0) (.slice a1 l1 k1)
 have hb2 := zaa hbw (zca w1 (.cells #[.bool false, .slice none 0 0, .slice a1 l1 k1] 38))
 have hf2 : zqa (w1.alloc (.cells #[.bool false, .slice none 0 0, .slice a1 l1 k1] 38)) (.agg #[.bool false, .slice none 0 0, .slice a1 l1 k1]) 0 := ⟨_, _, rfl, zjb.nil _, hr1.below (zca _ _)⟩
 generalize w1.alloc (.cells #[.bool false, .slice none 0 0, .slice a1 l1 k1] 38) = W1 at *
 generalize w1.heap.size = S at *
 clear hb0 hb1 hbw hr hr1
 go_loopw [13] (fun u13 wr => ∃ (k : Nat) (v0 v1 v2 : Value), k ≤ l.length ∧ u13 = .int .i64 k ∧ C3 wr S v0 v1 v2 ∧ zqa wr (.agg #[v0, v1, v2]) (zgg (qs (l.take k))) ∧ C3 wr w.heap.size (.bool false) (.slice none 0 0) (.slice none 0 0) ∧ Below w.heap.size w wr) (fun u13 _ => l.length - (intOf u13).toNat)
 case atStart => exact ⟨0, _, _, _, Nat.zero_le _, rfl, hs2, hf2, hr2, hb2⟩
 case round =>
  obtain ⟨k, v0, v1, v2, hk, rfl, hs, hf, hr, hb⟩ := hrel
  clear hs2 hf2 hr2 hb2
  obtain ⟨s0, b1, m1, j1, b2, m2, j2, rfl, rfl, rfl⟩ := C3.frac hf
  have HS := zH hs
  have HR := zH hr
  have HF := zH hf
  obtain ⟨_, s1, s2, s3, s4, s5, s6⟩ := hs
  obtain ⟨_, q1, q2, q3, q4, q5, q6⟩ := hr
  clear hf
  by_cases hkl : k < l.length
  ·obtain ⟨xa, xb, c1, c2, c3, hxa, hxb⟩ := (ha.below hb).at' k hkl
   obtain ⟨c1a, c1l, c1k, rfl, _⟩ := hxa.slen.1
   obtain ⟨c2a, c2l, c2k, rfl, _⟩ := hxb.slen.1
   have hA : zdc (wr.alloc (.cells #[.bool l[k].neg, .slice c1a c1l c1k, .slice c2a c2l c2k] 38)) (.agg #[.bool l[k].neg, .slice c1a c1l c1k, .slice c2a c2l c2k]) l[k].neg l[k].n l[k].d := ⟨_, _, rfl, hxa.below (zca _ _), hxb.below (zca _ _)⟩
   have hB := (HF.out.raw).below (zca wr (.cells #[.bool l[k].neg, .slice c1a c1l c1k, .slice c2a c2l c2k] 38))
   have hs1 := HS.out.allocS (.cells #[.bool l[k].neg, .slice c1a c1l c1k, .slice c2a c2l c2k] 38)
   have hr1 := HR.out.allocS (.cells #[.bool l[k].neg, .slice c1a c1l c1k, .slice c2a c2l c2k] 38)
   have hb1 := zaa hb (zca wr (.cells #[.bool l[k].neg, .slice c1a c1l c1k, .slice c2a c2l c2k] 38))
   have HO : Hid (okN l[k].n l[k].d) := zH (HOK.out l[k] (List.getElem_mem hkl))
   have HQ := zH (zuc (HFIT.out k hk))
   have HE : Hid (fq (decide (zgg (qs (l.take k)) < 0)) (zgg (qs (l.take k))).num.natAbs (zgg (qs (l.take k))).den + fq l[k].neg l[k].n l[k].d = zgg (qs (l.take (k + 1)))) := zH (by rw [zvb, lsum_qs l k hkl]; rfl)
   have HF1 := zH (HFIT.out (k + 1) hkl)
   clear hb hxa hxb
   go_wp2_with (go_at_call 80; (with_reducible refine (zco _ _ _ _ _ _ _ _ _ hB hA HQ.out HO.out).mono ?_); rw [HE.out]; rintro e w7 ⟨v, er, rfl, hb7, hv7, _⟩
                obtain ⟨rfl, hv8⟩ := hv7 HF1.out
                obtain ⟨t9, x9, y9, rfl, ⟨a1, l91, k1, rfl, _⟩, ⟨a2, l92, k2, rfl, _⟩⟩ := hv8.isF
                have hs8 := (hs1.belowS hb7).allocS (.cells #[.bool t9, .slice a1 l91 k1, .slice a2 l92 k2] 38)
                have hr8 := (hr1.belowS hb7).allocS (.cells #[.bool t9, .slice a1 l91 k1, .slice a2 l92 k2] 38)
                have hb8 := zaa (zaa hb1 hb7) (zca w7 (.cells #[.bool t9, .slice a1 l91 k1, .slice a2 l92 k2] 38))
                have hv9 := hv8.below (zca w7 (.cells #[.bool t9, .slice a1 l91 k1, .slice a2 l92 k2] 38))
                have HS8 := zH hs8
                obtain ⟨_, d1, d2, d3, d4, d5, d6⟩ := hs8)
   go_roundw
   case rel => exact ⟨k + 1, _, _, _, hkl, by go_num, HS8.out.set _ _ _, hv9.set3 HS8.out (fun z => by simp) (fun z => by simp) _ _ _, hr8.set_other (by omega) _ _ _, zga hb8 (by omega) _ _ _⟩
   case measure => simp [intOf]; omega
  ·obtain rfl : k = l.length := by omega
   have HF2 : Hid (zqa wr (.agg #[.bool s0, .slice b1 m1 j1, .slice b2 m2 j2]) (zgg (qs l))) := zH (by have h5 := HF.out; rw [List.take_length] at h5; exact h5)
   clear HF
   go_wp2
   refine zoa rfl rfl Tryz.aggF Tryz.sizeF (HR.out.set _ _ _) rfl ?_
   exact ⟨_, rfl, HF2.out.set3 HR.out (fun z => by simp) (fun z => by simp) _ _ _, zga hb (Nat.le_refl _) _ _ _⟩
end Go.Proofs.YtlpdkbmmbdfoiaaGreat
namespace Go.Proofs.YtlpdkbmmbdfoiaaGreat
theorem znn (a : Int) (b : Nat) (hb : b ≠ 0) : mkRat a b < 0 ↔ a < 0 := by
 have e : mkRat a b = fq (decide (a < 0)) a.natAbs b := by
  unfold fq sgn
  congr 1
  by_cases h : a < 0
  ·rw [if_pos (decide_eq_true h)]; omega
  ·rw [decide_eq_false h]; simp; omega
 have h := fq_neg (decide (a < 0)) a.natAbs b hb
 rw [e]
 by_cases h0 : a < 0
 ·rw [decide_eq_true h0] at h ⊢
  have hg : 0 < a.natAbs / Nat.gcd a.natAbs b := Nat.div_pos (Nat.le_of_dvd (by omega) (Nat.gcd_dvd_left _ _)) (Nat.gcd_pos_of_pos_left _ (by omega))
  rw [decide_eq_true hg] at h
  simp only [Bool.and_self, decide_eq_true_eq] at h
  exact ⟨fun _ => h0, fun _ => h⟩
 ·rw [decide_eq_false h0] at h ⊢
  simp only [Bool.false_and, decide_eq_false_iff_not] at h
  exact ⟨fun h' => absurd h' h, fun h' => absurd h' h0⟩
theorem fq_lt (s t : Bool) (n d m e : Nat) (hd : d ≠ 0) (he : e ≠ 0) : fq s n d < fq t m e ↔ sgn s (n * e) < sgn t (m * d) := by
 have h1 : fq s n d < fq t m e ↔ fq s n d - fq t m e < 0 := by
  rw [Rat.lt_iff_sub_pos, Rat.lt_iff_sub_pos (fq s n d - fq t m e)]
  have : (0 : Rat) - (fq s n d - fq t m e) = fq t m e - fq s n d := by grind
  rw [this]
 have h2 : -fq t m e = fq (!t) m e := by
  unfold fq
  rw [Rat.neg_mkRat]
  congr 1
  unfold sgn; cases t <;> simp
 rw [h1, Rat.sub_eq_add_neg, h2, fq_add _ _ _ _ _ _ hd he, znn _ _ (Nat.mul_ne_zero hd he)]
 have h3 : sgn (!t) (m * d) = - sgn t (m * d) := by unfold sgn; cases t <;> simp
 rw [h3]
 omega
def cmpR (p q : Rat) : Int := if p < q then -1 else if q < p then 1 else 0
theorem cmpR_eq (s t : Bool) (n d m e : Nat) (hd : d ≠ 0) (he : e ≠ 0) :
 cmpR (fq s n d) (fq t m e) = if s && !decide (n = 0) && (t && !decide (m = 0)) then -zfj (n * e) (m * d) else if s && !decide (n = 0) then -1 else if t && !decide (m = 0) then 1 else zfj (n * e) (m * d) := by
 have hA : n * e = 0 ↔ n = 0 := by rw [Nat.mul_eq_zero]; exact ⟨fun h => h.resolve_right he, Or.inl⟩
 have hB : m * d = 0 ↔ m = 0 := by rw [Nat.mul_eq_zero]; exact ⟨fun h => h.resolve_right hd, Or.inl⟩
 have h1 := fq_lt s t n d m e hd he
 have h2 := fq_lt t s m e n d he hd
 have e1 : cmpR (fq s n d) (fq t m e) = if sgn s (n * e) < sgn t (m * d) then -1 else if sgn t (m * d) < sgn s (n * e) then 1 else 0 := by
  unfold cmpR
  simp only [h1, h2]
 rw [e1]
 clear e1 h1 h2
 generalize n * e = A at *
 generalize m * d = B at *
 unfold zfj sgn
 have c1 : decide (n = 0) = decide (A = 0) := by simp only [hA]
 have c2 : decide (m = 0) = decide (B = 0) := by simp only [hB]
 rw [c1, c2]
 clear c1 c2 hA hB
 by_cases hA : A = 0 <;> by_cases hB : B = 0 <;> cases s <;> cases t <;> simp [hA, hB] <;> (repeat' split) <;> omega
end Go.Proofs.YtlpdkbmmbdfoiaaGreat
namespace Go.Proofs.YtlpdkbmmbdfoiaaGreat
open Go.RowKit
theorem fits_ok (s : Bool) {n d : Nat} (h : okN n d) : fits (fq s n d) := by
 rw [zll s n d h.1]
 exact ⟨Nat.le_trans (znm (Nat.div_le_self _ _)) h.2.2, Nat.le_trans (znm (Nat.div_le_self _ _)) h.2.1⟩
def RRed (w0 : World) (s : Bool) (n d : Nat) (e : Ending) (w : World) : Prop :=
 ∃ v er, e = .returned (.tuple #[v, .int .i64 er]) ∧ Below w0.heap.size w0 w ∧ (okN n d → er = 0 ∧ zqa w v (fq s n d)) ∧ (¬ okN n d → er = 1 ∧ v = zeroF)
theorem valid_no (v : Value) (s : Bool) (n d : Nat) (w : World) (h : zdc w v s n d) (hk : ¬ okN n d) :
 Calls Tryz.prog 79 #[v] w fun e w' => e = .returned (.bool false) ∧ Below w.heap.size w w' :=
 (valid_any v s n d w h).mono fun e w' ⟨h1, h2⟩ => ⟨by rw [h1, decide_eq_false hk], h2⟩
theorem zcf (w : World) (t : TypeId) (x0 x1 x2 y0 y1 y2 : Value) (W : World)
 (hW : W = (w.alloc (.cells #[x0, x1, x2] t)).alloc (.cells #[y0, y1, y2] t)) :
 C3 W w.heap.size x0 x1 x2 ∧ C3 W (w.heap.size + 1) y0 y1 y2 ∧ Below w.heap.size w W := by
 subst hW
 have e1 : (w.alloc (.cells #[x0, x1, x2] t)).heap.size = w.heap.size + 1 := by show (w.heap.push _).size = _; simp
 refine ⟨(C3.new w t x0 x1 x2).allocS _, ?_, ?_⟩
 ·rw [← e1]; exact C3.new _ t y0 y1 y2
 ·exact (zca w _).trans ((zca _ _).mono (zca w _).size)
set_option maxHeartbeats 1600000 in
theorem zef (va : Value) (s : Bool) (n d : Nat) (w : World) (ha : zdc w va s n d) :
 Calls Tryz.prog 89 #[va] w (RRed w s n d) := by
 have hA := ha
 obtain ⟨xn, xd, rfl, hxn, hxd⟩ := ha
 obtain ⟨an, ln, kn, rfl, _⟩ := hxn.slen.1
 obtain ⟨ad, ld, kd, rfl, _⟩ := hxd.slen.1
 go_enter Tryz.func89, Tryz.ntmps89
 go_wp2_with fail
 obtain ⟨W, hW⟩ : ∃ W, W = ((w.alloc (.cells #[.bool s, .slice an ln kn, .slice ad ld kd] 38)).alloc (.cells #[.bool false, .slice none 0 0, .slice none 0 0] 38)) := ⟨_, rfl⟩
 obtain ⟨bx, bz, hbw⟩ := zcf w 38 _ _ _ _ _ _ W hW
 rw [← hW]
 clear hW
 have HBX := zH bx
 have HBZ := zH bz
 obtain ⟨_, q1, q2, q3, q4, q5, q6⟩ := bx
 clear bz
 by_cases hk : okN n d
 ·have K := zH hk
  have NN := zH (Nat.le_trans (zgd (n := n) (k := 128) hk.2.2) (show 128 ≤ 512 by decide))
  have ND := zH (Nat.le_trans (zgd (n := d) (k := 128) hk.2.1) (show 128 ≤ 512 by decide))
  have FT := zH (fits_ok s hk)
  have D0 := zH hk.1
  clear hk
  go_wp2_with (first
   |(go_at_call 79; (with_reducible refine (zrd _ s n d _ (hA.below hbw) K.out).mono ?_); rintro e9 w1 ⟨rfl, hv1⟩
     obtain ⟨_, f1, f2, f3, f4, f5, f6⟩ := HBX.out.belowS hv1
     have hbw1 := zaa hbw hv1)
   |(go_at_call 142; (with_reducible refine (zub s _ _ n d _ (hxn.below hbw1) (hxd.below hbw1) D0.out NN.out ND.out).mono ?_); rintro e9 w7 ⟨v, er7, rfl, hv5, hv2, hv3⟩
     have hv4 := hv2 FT.out
     obtain ⟨t9, x9, y9, rfl, ⟨a1, l91, k1, rfl, _⟩, ⟨a2, l92, k2, rfl, _⟩⟩ := zpb (w0 := w) hv2 hv3
     have hC := (HBZ.out.belowS hv1).belowS hv5
     have HC := zH hC
     have hbz := zaa hbw1 hv5
     obtain ⟨_, d0, d1, d2, e0, e1, e2⟩ := hC))
  refine zoa rfl rfl Tryz.aggF Tryz.sizeF (HC.out.set _ _ _) rfl ?_
  exact ⟨_, _, rfl, zga hbz (by omega) _ _ _, fun h => ⟨rfl, hv4.2.set3 HC.out (fun z => by simp) (fun z => by simp) _ _ _⟩, fun h => absurd K.out h⟩
 ·have K := zH hk
  clear hk
  go_wp2_with (first
   |(go_at_call 79; (with_reducible refine (valid_no _ s n d _ (hA.below hbw) K.out).mono ?_); rintro e9 w1 ⟨rfl, hv1⟩
     have hC := HBZ.out.belowS hv1
     have HC := zH hC
     have hbz := zaa hbw hv1
     obtain ⟨_, d0, d1, d2, e0, e1, e2⟩ := hC))
  refine zoa rfl rfl Tryz.aggF Tryz.sizeF (HC.out.set _ _ _) rfl ?_
  exact ⟨_, _, rfl, zga hbz (by omega) _ _ _, fun h => absurd h K.out, fun _ => ⟨rfl, rfl⟩⟩
theorem zxa {P : Program} {ops : Array Oper} {o : Oper} {a : Act} {w : World} {K : Act → World → Prop} {Q : Exit → Act → World → Prop} {E : Prop} (f : FuncId) (argv : Array Value) (hg : Region.wanted o (yielded ops a.tmps) = true)
 (hrun : (execOp a.eval o).run P w = .ok (.enter f argv) w) {R : Ending → World → Prop} (hc : Calls P f argv w R) (h : ∀ e w', R e w' → ∃ v, e = .returned v ∧ K (a.put o.dst v) w') :
 if Region.wanted o (yielded ops a.tmps) = true then Oper.wp P o a w K Q else E := by
 rw [if_pos hg]
 unfold Oper.wp
 rw [hrun, Oper.upon_enter]
 refine hc.mono fun e w' hr => ?_
 obtain ⟨v, rfl, hk⟩ := h e w' hr
 exact hk
theorem zkl : fits 0 := by decide
theorem fits_one : fits 1 := by decide
def RF0 (w0 : World) (q : Rat) (e : Ending) (w : World) : Prop := ∃ v, e = .returned (.tuple #[v, .int .i64 0]) ∧ zqa w v q ∧ Below w0.heap.size w0 w
def RF1 (w0 : World) (q : Rat) (e : Ending) (w : World) : Prop := ∃ v, e = .returned v ∧ zqa w v q ∧ Below w0.heap.size w0 w
theorem zmi.ok {w0 : World} {q q' : Rat} {e : Ending} {w : World} (h : zmi w0 q e w) (hq : q = q') (hf : fits q') : RF0 w0 q' e w := by
 subst hq
 obtain ⟨v, er, rfl, h1, h2, _⟩ := h
 obtain ⟨rfl, h3⟩ := h2 hf
 exact ⟨v, rfl, h3, h1⟩
theorem make_01 (w : World) : Calls Tryz.prog 67 #[.int .i64 0, .int .i64 1] w (RF0 w 0) :=
 (zel 0 1 w (by decide) (by decide) (by decide) (by decide) (by decide)).mono fun _ _ h => h.ok (by decide) zkl
theorem make_11 (w : World) : Calls Tryz.prog 67 #[.int .i64 1, .int .i64 1] w (RF0 w 1) :=
 (zel 1 1 w (by decide) (by decide) (by decide) (by decide) (by decide)).mono fun _ _ h => h.ok (by decide) fits_one
theorem zmj {fn : Func} {p : Tmp} {ty : TypeId} (h : fn.results = #[.cell p ty]) (tmps : Array Value) (P : Program) (w : World) :
 (results fn tmps).run P w = ((asAddr (tmps.getD p undef)).run P w).andThen fun a w => (loadVar ty a).run P w := by
 simp [results, h]
theorem zab {P : Program} {fn : Func} {R : Ending → World → Prop} {a : Act} {w : World} {p : Tmp} {ty : TypeId} {b : Nat} {v0 v1 v2 : Value} (h : fn.results = #[.cell p ty])
 (hp : a.tmps.getD p undef = .pointer (some ⟨b, 0, none⟩)) (hagg : ∀ w, (isAgg ty).run P w = .ok true w) (hs : ∀ w, (sizeOf ty).run P w = .ok 3 w) (hc : C3 w b v0 v1 v2) (hd : a.defers = [])
 (hR : R (.returned (.agg #[v0, v1, v2])) w) : bodyPost P fn R .ret a w := by
 refine bodyPost_ret ?_ hd hR
 rw [zmj h, hp]
 simp only [asAddr, Sem.run_pure, Result.andThen_ok, load_c3 hagg hs hc]
theorem Tryz.infoF : (Tryz.prog.info? 38).map (fun i => (i.zero, i.size, i.bytes)) = some (some (.agg #[.bool false, .slice none 0 0, .slice none 0 0]), 3, 56) := by kernel_rfl
theorem zfa {w w1 w2 : World} {B : Nat} (h : Below B w w1) (h' : Below w1.heap.size w1 w2) (hB : B ≤ w1.heap.size := by exact h.size) : Below B w w2 := h.trans (h'.mono hB)
theorem zqb.fracs {w : World} {e : TypeId} {B n : Nat} {v : Value} (h : zqb w e B v n) {l : List Rat} (hl : l.length = n) (he : ∀ j (hj : j < l.length), zlg w v j l[j]) : zbb w v l :=
 ⟨h.sl, by rw [h.len, hl], he⟩
theorem Tryz.infoRow : (Tryz.prog.info? 25).map (fun i => (i.zero, i.size, i.bytes)) = some (some (.slice none 0 0), 1, 24) := by kernel_rfl
theorem Tryz.infoBool : (Tryz.prog.info? 4).map (fun i => (i.zero, i.size, i.bytes)) = some (some (.bool false), 1, 1) := by kernel_rfl
theorem C3.other {w : World} {b : Nat} {v0 v1 v2 : Value} (h : C3 w b v0 v1 v2) (p : Addr) (u : Value) (hp : p.block ≠ b) : C3 (w.setCell p u) b v0 v1 v2 := by
 obtain ⟨lt, c0, c1, c2, f0, f1, f2⟩ := h
 have hne : ∀ k, p ≠ ⟨b, k, none⟩ := fun k e => hp (by rw [e])
 have hf : ∀ q, (w.setCell p u).frozen? q = w.frozen? q := fun q => by simp
 exact ⟨by simpa [World.setCell] using lt, by rw [World.cell?_setCell_other _ _ _ _ (hne _)]; exact c0, by rw [World.cell?_setCell_other _ _ _ _ (hne _)]; exact c1, by rw [World.cell?_setCell_other _ _ _ _ (hne _)]; exact c2,
  by rw [hf]; exact f0, by rw [hf]; exact f1, by rw [hf]; exact f2⟩
theorem zvo (w : World) : w.drew.heap.size = w.heap.size := rfl
theorem zfk (w : World) (o : Obj) : (w.alloc o).heap.size = w.heap.size + 1 := by simp
theorem C3.newB {b : Nat} (w : World) (t : TypeId) (v0 v1 v2 : Value) (hb : w.heap.size = b) : C3 (w.alloc (.cells #[v0, v1, v2] t)) b v0 v1 v2 := by subst hb; exact C3.new w t v0 v1 v2
theorem C3.grownB {w w' : World} {b : Nat} {v0 v1 v2 : Value} {r : Option Nat} (h : C3 w b v0 v1 v2) (hg : w.grownBy w' r) (hr : r ≠ some b) : C3 w' b v0 v1 v2 := by
 have e := hg.block b h.lt (fun h => hr h.symm)
 obtain ⟨lt, c0, c1, c2, f0, f1, f2⟩ := h
 have hc : ∀ k, w'.cell? ⟨b, k, none⟩ = w.cell? ⟨b, k, none⟩ := fun k => by simp [World.cell?, e]
 have hf : ∀ k, w'.frozen? ⟨b, k, none⟩ = w.frozen? ⟨b, k, none⟩ := fun k => by simp [World.frozen?, e]
 exact ⟨Nat.lt_of_lt_of_le lt hg.size, by rw [hc]; exact c0, by rw [hc]; exact c1, by rw [hc]; exact c2, by rw [hf]; exact f0, by rw [hf]; exact f1, by rw [hf]; exact f2⟩
theorem zei : zla 1 = [1] := by rw [zxd (by decide)]; simp [zbc]
theorem fq_zero (s : Bool) (d : Nat) (hd : d ≠ 0) : fq s 0 d = 0 := by
 unfold fq; rw [sgn_zero]; simp
set_option maxRecDepth 100000 in
set_option maxHeartbeats 1600000 in
theorem zin (s : Bool) (va vb : Value) (d : Nat) (w : World) (ha : zob w va 0) (hb : zob w vb d) (hd : d ≠ 0) :
 Calls Tryz.prog 71 #[.bool s, va, vb] w (RF1 w (fq s 0 d)) := by
 rw [fq_zero s d hd]
 obtain ⟨n, hn⟩ : ∃ n, n = 0 := ⟨0, rfl⟩
 rw [← hn] at ha
 have hz : zda n = 0 := zta.2 hn
 have HN := zH hn
 clear hn
 go_enter Tryz.func71, Tryz.ntmps71
 go_wp2_with (first
  |(go_at_call 106; first
   |((with_reducible refine (zra va n _ (ha.below (zca _ _))).mono ?_); rintro e w1 ⟨x1, rfl, hx1, hb1⟩; have s1 := hx1.v.sl; have l1 : slen x1 = zda n := hx1.v.len)
   |((with_reducible refine (zra vb d _ ((hb.below (zca _ _)).below hb1)).mono ?_); rintro e w2 ⟨x2, rfl, hx2, hb2⟩
     have hC2 := (((C3.new w 38 (.bool false) (.slice none 0 0) (.slice none 0 0)).belowS hb1).belowS hb2).allocS (.cells #[.int .u32 1] 142)
     have hbw2 := zaa (zaa (zaa (zca w (.cells #[.bool false, .slice none 0 0, .slice none 0 0] 38)) hb1) hb2) (zca w2 (.cells #[.int .u32 1] 142))
     have HC2 := zH hC2
     obtain ⟨_, c0, c1, c2, f0, f1, f2⟩ := hC2)))
 have hF : zqa (w2.alloc (.cells #[.int .u32 1] 142)) (.agg #[.bool false, .slice none 0 0, .slice (some ⟨w2.heap.size, 0, none⟩) 1 1]) 0 := by
  refine ⟨_, _, rfl, zjb.nil _, ?_⟩
  have h1 : zfc (w2.alloc (.cells #[.int .u32 1] 142)) (.slice (some ⟨w2.heap.size, 0, none⟩) 1 1) [1] := by
   refine ⟨⟨_, 1, 1, rfl, Nat.le_refl _, by simp [maxLen], fun e => by cases e⟩, rfl, fun j hj => ?_, fun x hx => by simp at hx; omega⟩
   have hj0 : j = 0 := by simp at hj; omega
   subst hj0
   simp [ptr, base, Addr.add]
  show zjb _ _ 1
  unfold zjb
  rw [zei]
  exact ⟨h1, by unfold zda; rw [zei]; decide⟩
 refine zab rfl rfl Tryz.aggF Tryz.sizeF (HC2.out.set _ _ _) rfl ?_
 exact ⟨_, rfl, hF.set3 HC2.out (fun z => by simp) (fun z => by simp) _ _ _, zga hbw2 (Nat.le_refl _) _ _ _⟩
set_option maxRecDepth 100000 in
set_option maxHeartbeats 1600000 in
theorem r2lowest_one (s : Bool) (va vb : Value) (n d : Nat) (w : World) (ha : zob w va n) (hb : zob w vb d) (hd : d ≠ 0) (hn0 : n ≠ 0) (hn5 : zda n ≤ 512) (hd5 : zda d ≤ 512) (hg : Nat.gcd n d = 1) :
 Calls Tryz.prog 71 #[.bool s, va, vb] w (RF1 w (fq s n d)) := by
 have HN5 := zH hn5
 have HD5 := zH hd5
 have HF : Hid (∀ (wx : World) (xa xb : Value), zjb wx xa n → zjb wx xb d → zqa wx (.agg #[.bool s, xa, xb]) (fq s n d)) := zH (fun wx xa xb h1 h2 => by
  refine zxg hd (by rw [hg, Nat.div_one]; exact h1) (by rw [hg, Nat.div_one]; exact h2) ?_
  rw [hg, Nat.div_one, decide_eq_true (Nat.pos_of_ne_zero hn0), Bool.and_true])
 have hnz : 0 < zda n := by have : zda n ≠ 0 := fun h => hn0 (zta.1 h); omega
 have hnzb : (((zda n : Nat) : Int) == 0) = false := by simp; omega
 have hg1 : zda (Nat.gcd n d) = 1 := by rw [hg]; unfold zda; rw [zei]; rfl
 have HGC : Hid (∀ (wx : World) (g : Value), zjb wx g (Nat.gcd n d) → wx.cell? (ptr g 0) = some (.int .u32 1)) := zH (fun wx g h => by
  rw [hg] at h
  have h1 := h.v
  rw [zei] at h1
  exact h1.cell 0 (by simp))
 have HG1 := zH hg1
 clear hn5 hd5 hg hg1 hn0
 go_enter Tryz.func71, Tryz.ntmps71
 go_wp2_with (first
  |(go_at_call 106; first
   |((with_reducible refine (zra va n _ (ha.below (zca _ _))).mono ?_); rintro e w1 ⟨x1, rfl, hx1, hb1⟩; have s1 := hx1.v.sl; have l1 : slen x1 = zda n := hx1.v.len)
   |((with_reducible refine (zra vb d _ ((hb.below (zca _ _)).below hb1)).mono ?_); rintro e w2 ⟨x2, rfl, hx2, hb2⟩
     have hx12 := hx1.below hb2
     have hC2 := ((C3.new w 38 (.bool false) (.slice none 0 0) (.slice none 0 0)).belowS hb1).belowS hb2
     have hbw2 := zaa (zaa (zca w (.cells #[.bool false, .slice none 0 0, .slice none 0 0] 38)) hb1) hb2))
  |(go_at_call 149; (with_reducible refine (zen x1 x2 n d _ hx12.nat hx2.nat HN5.out HD5.out).mono ?_); rintro e w3 ⟨g, rfl, hg, hb3⟩
    have sg := hg.v.sl
    have lg : slen g = 1 := hg.v.len.trans HG1.out
    have hgc := HGC.out _ _ hg
    have hx13 := hx12.below hb3
    have hx23 := hx2.below hb3
    have hC3 := hC2.belowS hb3
    have hbw3 := zaa hbw2 hb3
    clear hx1 hx2 hx12 hC2 s1 l1
    obtain ⟨a1, m1, k1, rfl, _⟩ := hx13.v.sl
    obtain ⟨a2, m2, k2, rfl, _⟩ := hx23.v.sl
    have HC3 := zH hC3
    obtain ⟨_, c0, c1, c2, f0, f1, f2⟩ := hC3))
 have hF := HF.out _ _ _ hx13 hx23
 refine zab rfl rfl Tryz.aggF Tryz.sizeF (HC3.out.set _ _ _) rfl ?_
 exact ⟨_, rfl, hF.set3 HC3.out (fun z => by simp) (fun z => by simp) _ _ _, zga hbw3 (Nat.le_refl _) _ _ _⟩
set_option maxRecDepth 100000 in
set_option maxHeartbeats 3200000 in
theorem zjn (s : Bool) (va vb : Value) (n d : Nat) (w : World) (ha : zob w va n) (hb : zob w vb d) (hd : d ≠ 0) (hn0 : n ≠ 0) (hn5 : zda n ≤ 512) (hd5 : zda d ≤ 512) (hg1 : 1 < Nat.gcd n d) :
 Calls Tryz.prog 71 #[.bool s, va, vb] w (RF1 w (fq s n d)) := by
 have HN5 := zH hn5
 have HD5 := zH hd5
 obtain ⟨G, hG⟩ : ∃ G, Nat.gcd n d = G := ⟨_, rfl⟩
 have hGn : G ∣ n := hG ▸ Nat.gcd_dvd_left n d
 have HF : Hid (∀ (wx : World) (xa xb : Value), zjb wx xa (n / G) → zjb wx xb (d / G) → zqa wx (.agg #[.bool s, xa, xb]) (fq s n d)) := zH (fun wx xa xb h1 h2 => by
  refine zxg hd (by rw [hG]; exact h1) (by rw [hG]; exact h2) ?_
  rw [hG, decide_eq_true (Nat.div_pos (Nat.le_of_dvd (Nat.pos_of_ne_zero hn0) hGn) (by omega)), Bool.and_true])
 have hnz : 0 < zda n := by have : zda n ≠ 0 := fun h => hn0 (zta.1 h); omega
 have hnzb : (((zda n : Nat) : Int) == 0) = false := by simp; omega
 rw [hG] at hg1
 have HGE := zH hG
 have HG0 : Hid (G ≠ 0) := zH (by omega)
 have HG5 : Hid (zda G ≤ 512) := zH (Nat.le_trans (zfb (Nat.le_of_dvd (Nat.pos_of_ne_zero hn0) hGn)) hn5)
 have HG1 := zH hg1
 obtain ⟨L, hL⟩ : ∃ L, zda G = L := ⟨_, rfl⟩
 have HLE := zH hL
 have hL1 : 1 ≤ L := by have : zda G ≠ 0 := fun h => HG0.out (zta.1 h); omega
 have hL5 : L ≤ 512 := by have := HG5.out; omega
 clear hn5 hd5 hG hg1 hn0 hGn hL
 by_cases h1 : 1 < L
 ·skip
  go_enter Tryz.func71, Tryz.ntmps71
  go_wp2_with (first
   |(go_at_call 106; first
    |((with_reducible refine (zra va n _ (ha.below (zca _ _))).mono ?_); rintro e w1 ⟨x1, rfl, hx1, hb1⟩; have s1 := hx1.v.sl; have l1 : slen x1 = zda n := hx1.v.len)
    |((with_reducible refine (zra vb d _ ((hb.below (zca _ _)).below hb1)).mono ?_); rintro e w2 ⟨x2, rfl, hx2, hb2⟩
      have hx12 := hx1.below hb2
      have hC2 := ((C3.new w 38 (.bool false) (.slice none 0 0) (.slice none 0 0)).belowS hb1).belowS hb2
      have hbw2 := zaa (zaa (zca w (.cells #[.bool false, .slice none 0 0, .slice none 0 0] 38)) hb1) hb2))
   |(go_at_call 149; (with_reducible refine (zen x1 x2 n d _ hx12.nat hx2.nat HN5.out HD5.out).mono ?_); rintro e w3 ⟨g, rfl, hg, hb3⟩; rw [HGE.out] at hg
     have sg := hg.v.sl
     have lg := (show slen g = zda G from hg.v.len).trans HLE.out
     skip
     have hx13 := hx12.below hb3
     have hx23 := hx2.below hb3
     have hC3 := hC2.belowS hb3
     have hbw3 := zaa hbw2 hb3
     clear hx1 hx2 hx12 hC2 s1 l1)
   |(go_at_call 150; first
     |((with_reducible refine (zvj x1 g n G _ hx13.nat hg.nat HG0.out HN5.out HG5.out).mono ?_); rintro e w4 ⟨q1, r1, rfl, hq1, _, hb4⟩
       have hg4 := hg.below hb4
       have hx24 := hx23.below hb4)
     |((with_reducible refine (zvj x2 g d G _ hx24.nat hg4.nat HG0.out HD5.out HG5.out).mono ?_); rintro e w5 ⟨q2, r2, rfl, hq2, _, hb5⟩
       have hq15 := hq1.below hb5
       have hC5 := (hC3.belowS hb4).belowS hb5
       have hbw5 := zaa (zaa hbw3 hb4) hb5
       clear hg hg4 hx13 hx23 hx24 hC3 hq1
       obtain ⟨a1, m1, k1, rfl, _⟩ := hq15.v.sl
       obtain ⟨a2, m2, k2, rfl, _⟩ := hq2.v.sl
       have HC5 := zH hC5
       obtain ⟨_, c0, c1, c2, f0, f1, f2⟩ := hC5)))
  have hF := HF.out _ _ _ hq15 hq2
  refine zab rfl rfl Tryz.aggF Tryz.sizeF (HC5.out.set _ _ _) rfl ?_
  exact ⟨_, rfl, hF.set3 HC5.out (fun z => by simp) (fun z => by simp) _ _ _, zga hbw5 (Nat.le_refl _) _ _ _⟩
 ·obtain rfl : L = 1 := by omega
  have hGb : G < 4294967296 := by have := zzb.1 (Nat.le_of_eq HLE.out); simpa [pw] using this
  have HGC : Hid (∀ (wx : World) (g : Value), zjb wx g G → wx.cell? (ptr g 0) = some (.int .u32 G)) := zH (fun wx g h => by
   have h1 := h.v
   have e : zla G = [G] := by rw [zxd HG0.out, Nat.mod_eq_of_lt hGb, Nat.div_eq_of_lt hGb, zbc]
   rw [e] at h1
   exact h1.cell 0 (by simp))
  have hG2 : 1 < G := HG1.out
  go_enter Tryz.func71, Tryz.ntmps71
  go_wp2_with (first
   |(go_at_call 106; first
    |((with_reducible refine (zra va n _ (ha.below (zca _ _))).mono ?_); rintro e w1 ⟨x1, rfl, hx1, hb1⟩; have s1 := hx1.v.sl; have l1 : slen x1 = zda n := hx1.v.len)
    |((with_reducible refine (zra vb d _ ((hb.below (zca _ _)).below hb1)).mono ?_); rintro e w2 ⟨x2, rfl, hx2, hb2⟩
      have hx12 := hx1.below hb2
      have hC2 := ((C3.new w 38 (.bool false) (.slice none 0 0) (.slice none 0 0)).belowS hb1).belowS hb2
      have hbw2 := zaa (zaa (zca w (.cells #[.bool false, .slice none 0 0, .slice none 0 0] 38)) hb1) hb2))
   |(go_at_call 149; (with_reducible refine (zen x1 x2 n d _ hx12.nat hx2.nat HN5.out HD5.out).mono ?_); rintro e w3 ⟨g, rfl, hg, hb3⟩; rw [HGE.out] at hg
     have sg := hg.v.sl
     have lg := (show slen g = zda G from hg.v.len).trans HLE.out
     have hgc := HGC.out _ _ hg
     have hx13 := hx12.below hb3
     have hx23 := hx2.below hb3
     have hC3 := hC2.belowS hb3
     have hbw3 := zaa hbw2 hb3
     clear hx1 hx2 hx12 hC2 s1 l1)
   |(go_at_call 150; first
     |((with_reducible refine (zvj x1 g n G _ hx13.nat hg.nat HG0.out HN5.out HG5.out).mono ?_); rintro e w4 ⟨q1, r1, rfl, hq1, _, hb4⟩
       have hg4 := hg.below hb4
       have hx24 := hx23.below hb4)
     |((with_reducible refine (zvj x2 g d G _ hx24.nat hg4.nat HG0.out HD5.out HG5.out).mono ?_); rintro e w5 ⟨q2, r2, rfl, hq2, _, hb5⟩
       have hq15 := hq1.below hb5
       have hC5 := (hC3.belowS hb4).belowS hb5
       have hbw5 := zaa (zaa hbw3 hb4) hb5
       clear hg hg4 hx13 hx23 hx24 hC3 hq1
       obtain ⟨a1, m1, k1, rfl, _⟩ := hq15.v.sl
       obtain ⟨a2, m2, k2, rfl, _⟩ := hq2.v.sl
       have HC5 := zH hC5
       obtain ⟨_, c0, c1, c2, f0, f1, f2⟩ := hC5)))
  have hF := HF.out _ _ _ hq15 hq2
  refine zab rfl rfl Tryz.aggF Tryz.sizeF (HC5.out.set _ _ _) rfl ?_
  exact ⟨_, rfl, hF.set3 HC5.out (fun z => by simp) (fun z => by simp) _ _ _, zga hbw5 (Nat.le_refl _) _ _ _⟩
theorem zpe (s : Bool) (va vb : Value) (n d : Nat) (w : World) (ha : zob w va n) (hb : zob w vb d) (hd : d ≠ 0) (hn5 : zda n ≤ 512) (hd5 : zda d ≤ 512) :
 Calls Tryz.prog 71 #[.bool s, va, vb] w (RF1 w (fq s n d)) := by
 have h0 : Nat.gcd n d ≠ 0 := fun h => hd (Nat.gcd_eq_zero_iff.1 h).2
 rcases Nat.eq_zero_or_pos n with hn | hn
 ·subst hn; exact zin s va vb d w ha hb hd
 ·rcases Nat.lt_or_ge 1 (Nat.gcd n d) with h | h
  ·exact zjn s va vb n d w ha hb hd (by omega) hn5 hd5 h
  ·exact r2lowest_one s va vb n d w ha hb hd (by omega) hn5 hd5 (by omega)
theorem ret_u64 {a b : Int} (h : a = b) : Ending.returned (.int .u64 a) = Ending.returned (.int .u64 b) := by rw [h]
theorem size_any (z : Int) (w : World) (h1 : -9223372036854775808 ≤ z) (h2 : z < 9223372036854775808) :
 Calls Tryz.prog 73 #[.int .i64 z] w fun e w' => e = .returned (.int .u64 (z.natAbs : Nat)) ∧ w = w' := by
 rcases Int.lt_or_le z 0 with h | h
 ·obtain ⟨m, hm⟩ : ∃ m : Nat, z = -((m : Int) + 1) := ⟨(-(z + 1)).toNat, by omega⟩
  have e : z.natAbs = m + 1 := by omega
  have hmb : m ≤ 9223372036854775807 := by omega
  rw [e]
  subst hm
  clear e h h2
  go_enter Tryz.func73, Tryz.ntmps73
  go_wp2_with fail
  go_ret
  exact ⟨ret_u64 (by omega), rfl⟩
 ·obtain ⟨m, rfl⟩ : ∃ m : Nat, z = (m : Int) := ⟨z.natAbs, by omega⟩
  have e : (m : Int).natAbs = m := by omega
  rw [e]
  have hmb : m ≤ 9223372036854775807 := by omega
  clear e h h1 h2
  go_enter Tryz.func73, Tryz.ntmps73
  go_wp2_with fail
  go_ret
  exact ⟨ret_u64 (by omega), rfl⟩
set_option maxHeartbeats 800000 in
theorem r2make_any (a b : Int) (w : World) (ha1 : -9223372036854775808 ≤ a) (ha2 : a < 9223372036854775808) (hb1 : -9223372036854775808 ≤ b) (hb2 : b < 9223372036854775808) (hb : b ≠ 0) :
 Calls Tryz.prog 18 #[.int .i64 a, .int .i64 b] w (RF0 w (fq (!decide (a < 0) == decide (b < 0)) a.natAbs b.natAbs)) := by
 have HA := zH (And.intro ha1 ha2)
 have HB := zH (And.intro hb1 hb2)
 have hbn : b.natAbs ≠ 0 := by omega
 have HBN := zH hbn
 have h1 : ∀ z : Int, -9223372036854775808 ≤ z → z < 9223372036854775808 → zda z.natAbs ≤ 512 := fun z _ _ => zzb.2 (Nat.lt_of_lt_of_le (show z.natAbs < pw 2 by have : pw 2 = 18446744073709551616 := rfl; omega) (pw_le (by omega)))
 have H1 := zH (h1 a ha1 ha2)
 have H2 := zH (h1 b hb1 hb2)
 have HA6 : Hid (a.natAbs < 18446744073709551616) := zH (by omega)
 have HB6 : Hid (b.natAbs < 18446744073709551616) := zH (by omega)
 have h9 : (b == 0) = false := by simpa using hb
 clear ha1 ha2 hb1 hb2 hbn h1 hb
 go_enter Tryz.func18, Tryz.ntmps18
 go_wp2_with (first
  |(go_at_call 73; first
   |((with_reducible refine (size_any a _ HA.out.1 HA.out.2).mono ?_); rintro e w' ⟨rfl, rfl⟩)
   |((with_reducible refine (size_any b _ HB.out.1 HB.out.2).mono ?_); rintro e w' ⟨rfl, rfl⟩))
  |(go_at_call 72; first
   |((with_reducible refine (zkd a.natAbs HA6.out _).mono ?_); rintro e w1 ⟨x, rfl, hx, hx1⟩)
   |((with_reducible refine (zkd b.natAbs HB6.out _).mono ?_); rintro e w2 ⟨y, rfl, hy, hy1⟩; have hx2 := hx.below hy1))
  |(go_at_call 71; (with_reducible refine (zpe _ x y a.natAbs b.natAbs _ hx2.nat hy.nat HBN.out H1.out H2.out).mono ?_); rintro e w3 ⟨v, rfl, hv, hv1⟩
    obtain ⟨t, x1, y1, rfl, ⟨a1, l1, k1, rfl, _⟩, ⟨a2, l2, k2, rfl, _⟩⟩ := hv.isF
    have hC := (((C3.new w 38 (.bool false) (.slice none 0 0) (.slice none 0 0)).belowS hx1).belowS hy1).belowS hv1
    have HC := zH hC
    have hbz := zaa (zaa (zaa (zca w (.cells #[.bool false, .slice none 0 0, .slice none 0 0] 38)) hx1) hy1) hv1
    obtain ⟨_, d0, d1, d2, e0, e1, e2⟩ := hC))
 refine zoa rfl rfl Tryz.aggF Tryz.sizeF (HC.out.set _ _ _) rfl ?_
 exact ⟨_, rfl, hv.set3 HC.out (fun z => by simp) (fun z => by simp) _ _ _, zga hbz (Nat.le_refl _) _ _ _⟩
theorem RF0.eq {w0 : World} {q q' : Rat} {e : Ending} {w : World} (h : RF0 w0 q e w) (hq : q = q') : RF0 w0 q' e w := hq ▸ h
theorem zgf (a b : Nat) (w : World) (ha : a < 4294967296) (hb : b < 4294967296) (hb0 : b ≠ 0) :
 Calls Tryz.prog 18 #[.int .i64 a, .int .i64 b] w (RF0 w (fq false a b)) :=
 (r2make_any a b w (by omega) (by omega) (by omega) (by omega) (by omega)).mono fun _ _ h => h.eq (by
  rw [decide_eq_false (show ¬ ((a : Nat) : Int) < 0 by omega), decide_eq_false (show ¬ ((b : Nat) : Int) < 0 by omega)]; rfl)
theorem r2make_01 (w : World) : Calls Tryz.prog 18 #[.int .i64 0, .int .i64 1] w (RF0 w 0) :=
 (zgf 0 1 w (by decide) (by decide) (by decide)).mono fun _ _ h => h.eq (by decide)
theorem r2make_11 (w : World) : Calls Tryz.prog 18 #[.int .i64 1, .int .i64 1] w (RF0 w 1) :=
 (zgf 1 1 w (by decide) (by decide) (by decide)).mono fun _ _ h => h.eq (by decide)
theorem r2make_n1 (n : Nat) (w : World) (hn : n < 4294967296) : Calls Tryz.prog 18 #[.int .i64 n, .int .i64 1] w (RF0 w (fq false n 1)) :=
 zgf n 1 w hn (by decide) (by decide)
set_option maxHeartbeats 800000 in
theorem zwi (w : World) : Calls Tryz.prog 20 #[.int .i64 0] w (RF1 w 0) := by
 go_enter Tryz.func20, Tryz.ntmps20
 go_wp2_with (go_at_call 18; (with_reducible refine (r2make_01 _).mono ?_); rintro e w1 ⟨v, rfl, hv, hb1⟩
              obtain ⟨t9, x9, y9, rfl, ⟨a1, l91, k1, rfl, _⟩, ⟨a2, l92, k2, rfl, _⟩⟩ := hv.isF
              have hr := ((C3.new w 38 (.bool false) (.slice none 0 0) (.slice none 0 0)).belowS hb1).allocS (.cells #[.bool t9, .slice a1 l91 k1, .slice a2 l92 k2] 38)
              have hv2 := hv.below (zca w1 (.cells #[.bool t9, .slice a1 l91 k1, .slice a2 l92 k2] 38))
              have hb2 := zaa (zaa (zca w (.cells #[.bool false, .slice none 0 0, .slice none 0 0] 38)) hb1) (zca w1 (.cells #[.bool t9, .slice a1 l91 k1, .slice a2 l92 k2] 38))
              have HR := zH hr
              obtain ⟨_, d1, d2, d3, d4, d5, d6⟩ := hr)
 refine zab rfl rfl Tryz.aggF Tryz.sizeF (HR.out.set _ _ _) rfl ?_
 exact ⟨_, rfl, hv2.set3 HR.out (fun z => by simp) (fun z => by simp) _ _ _, zga hb2 (Nat.le_refl _) _ _ _⟩
set_option maxHeartbeats 800000 in
theorem r2int_one (w : World) : Calls Tryz.prog 20 #[.int .i64 1] w (RF1 w 1) := by
 go_enter Tryz.func20, Tryz.ntmps20
 go_wp2_with (go_at_call 18; (with_reducible refine (r2make_11 _).mono ?_); rintro e w1 ⟨v, rfl, hv, hb1⟩
              obtain ⟨t9, x9, y9, rfl, ⟨a1, l91, k1, rfl, _⟩, ⟨a2, l92, k2, rfl, _⟩⟩ := hv.isF
              have hr := ((C3.new w 38 (.bool false) (.slice none 0 0) (.slice none 0 0)).belowS hb1).allocS (.cells #[.bool t9, .slice a1 l91 k1, .slice a2 l92 k2] 38)
              have hv2 := hv.below (zca w1 (.cells #[.bool t9, .slice a1 l91 k1, .slice a2 l92 k2] 38))
              have hb2 := zaa (zaa (zca w (.cells #[.bool false, .slice none 0 0, .slice none 0 0] 38)) hb1) (zca w1 (.cells #[.bool t9, .slice a1 l91 k1, .slice a2 l92 k2] 38))
              have HR := zH hr
              obtain ⟨_, d1, d2, d3, d4, d5, d6⟩ := hr)
 refine zab rfl rfl Tryz.aggF Tryz.sizeF (HR.out.set _ _ _) rfl ?_
 exact ⟨_, rfl, hv2.set3 HR.out (fun z => by simp) (fun z => by simp) _ _ _, zga hb2 (Nat.le_refl _) _ _ _⟩
set_option maxHeartbeats 800000 in
theorem zdp (n : Nat) (w : World) (hn : n < 4294967296) : Calls Tryz.prog 20 #[.int .i64 n] w (RF1 w (fq false n 1)) := by
 have HN := zH hn
 clear hn
 go_enter Tryz.func20, Tryz.ntmps20
 go_wp2_with (go_at_call 18; (with_reducible refine (r2make_n1 n _ HN.out).mono ?_); rintro e w1 ⟨v, rfl, hv, hb1⟩
              obtain ⟨t9, x9, y9, rfl, ⟨a1, l91, k1, rfl, _⟩, ⟨a2, l92, k2, rfl, _⟩⟩ := hv.isF
              have hr := ((C3.new w 38 (.bool false) (.slice none 0 0) (.slice none 0 0)).belowS hb1).allocS (.cells #[.bool t9, .slice a1 l91 k1, .slice a2 l92 k2] 38)
              have hv2 := hv.below (zca w1 (.cells #[.bool t9, .slice a1 l91 k1, .slice a2 l92 k2] 38))
              have hb2 := zaa (zaa (zca w (.cells #[.bool false, .slice none 0 0, .slice none 0 0] 38)) hb1) (zca w1 (.cells #[.bool t9, .slice a1 l91 k1, .slice a2 l92 k2] 38))
              have HR := zH hr
              obtain ⟨_, d1, d2, d3, d4, d5, d6⟩ := hr)
 refine zab rfl rfl Tryz.aggF Tryz.sizeF (HR.out.set _ _ _) rfl ?_
 exact ⟨_, rfl, hv2.set3 HR.out (fun z => by simp) (fun z => by simp) _ _ _, zga hb2 (Nat.le_refl _) _ _ _⟩
end Go.Proofs.YtlpdkbmmbdfoiaaGreat
