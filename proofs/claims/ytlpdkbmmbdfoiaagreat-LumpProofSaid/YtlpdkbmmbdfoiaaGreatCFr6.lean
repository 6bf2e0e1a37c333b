/-
  package fraction: Sub; Sub, Mul, Quo of canonical fractions whose result is not large.
-/
import Derived.Test.YtlpdkbmmbdfoiaaGreatCFr5
namespace Go.Proofs.YtlpdkbmmbdfoiaaGreat
set_option linter.unusedVariables false
set_option linter.unusedSimpArgs false
open Go.RowKit

set_option maxRecDepth 100000 in
set_option maxHeartbeats 1600000 in
theorem sub_frac (va vb : Value) (s t : Bool) (n d m e : Nat) (w : World) (ha : FracN w va s n d) (hb : FracN w vb t m e) (h1 : okN n d) (h2 : okN m e) :
    Calls Tryz.prog 163 #[va, vb] w (RFrac w (fq s n d - fq t m e)) := by
  have hA := ha
  have hB := hb
  obtain ⟨xn, xd, rfl, hxn, hxd⟩ := ha
  obtain ⟨yn, yd, rfl, hyn, hyd⟩ := hb
  obtain ⟨an, ln, kn, rfl, _⟩ := hxn.slen.1
  obtain ⟨ad, ld, kd, rfl, _⟩ := hxd.slen.1
  obtain ⟨am, lm, km, rfl, _⟩ := hyn.slen.1
  obtain ⟨ae, le, ke, rfl, _⟩ := hyd.slen.1
  have HQ := Lib.hid (fq_sub s t n d m e h2.1)
  have K1 := Lib.hid h1
  have K2 := Lib.hid h2
  clear h1 h2 hxn hxd hyn hyd
  go_enter Tryz.func163, Tryz.ntmps163
  go_wp2_with fail
  obtain ⟨W, hW⟩ : ∃ W, W = (((w.alloc (.cells #[.bool s, .slice an ln kn, .slice ad ld kd] 38)).alloc (.cells #[.bool t, .slice am lm km, .slice ae le ke] 38)).alloc (.cells #[.bool false, .slice none 0 0, .slice none 0 0] 38)) := ⟨_, rfl⟩
  obtain ⟨bx, byy, bz, hbw⟩ := three_boxes w 38 _ _ _ _ _ _ _ _ _ W hW
  rw [← hW]
  clear hW
  have hd2 := below_drew (B := W.heap.size) W
  have hD := hbw.trans (hd2.mono hbw.size)
  have hbx3 := bx.belowS hd2
  have hby3 := byy.belowS hd2
  have hbz3 := bz.belowS hd2
  have HX3 := Lib.hid hbx3
  have HY3 := Lib.hid hby3
  have HZ3 := Lib.hid hbz3
  have gA := hA.below hD
  have gB := hB.below hD
  clear bx byy bz hbw hA hB hd2
  obtain ⟨_, q1, q2, q3, q4, q5, q6⟩ := hbx3
  obtain ⟨_, r1, r2, r3, r4, r5, r6⟩ := hby3
  obtain ⟨_, z1, z2, z3, z4, z5, z6⟩ := hbz3
  go_region_held3 (fun w' => w'.cell? ⟨w.heap.size, 0, none⟩ = some (.bool s) ∧ w'.cell? ⟨w.heap.size, 1, none⟩ = some (.slice an ln kn) ∧ w'.cell? ⟨w.heap.size, 2, none⟩ = some (.slice ad ld kd) ∧ w'.cell? ⟨w.heap.size + 1, 0, none⟩ = some (.bool t) ∧ w'.cell? ⟨w.heap.size + 1, 1, none⟩ = some (.slice am lm km) ∧ w'.cell? ⟨w.heap.size + 1, 2, none⟩ = some (.slice ae le ke)) (first | with_reducible exact ⟨q1, q2, q3, r1, r2, r3⟩ | (refine ⟨?_, ?_, ?_, ?_, ?_, ?_⟩ <;> go_simp)) (first
    | (go_at_call 202; (with_reducible refine (fminus_any _ t m e _ gB).mono ?_); rintro e9 w3 ⟨v3, rfl, hv3, hb3⟩
       have gA3 := gA.below hb3
       have X4 := HX3.out.belowS hb3
       have Y4 := HY3.out.belowS hb3
       have HX4 := Lib.hid X4
       have HY4 := Lib.hid Y4
       obtain ⟨_, q1, q2, q3, q4, q5, q6⟩ := X4
       obtain ⟨_, r1, r2, r3, r4, r5, r6⟩ := Y4)
    | (go_at_call 80; (with_reducible refine (add_frac _ _ s (!t) n d m e _ gA3 hv3 K1.out K2.out).mono ?_); rintro e9 w5 ⟨v, er, rfl, hv1, hv2, hv4⟩
       obtain ⟨t9, x9, y9, rfl, ⟨a1, l91, k1, rfl, _⟩, ⟨a2, l92, k2, rfl, _⟩⟩ := rfrac_isF (w0 := w) hv2 hv4
       have hp26 := below_then hb3 hv1
       have X6 := HX4.out.belowS hv1
       have Y6 := HY4.out.belowS hv1
       have Z6 := HZ3.out.belowS hp26
       have HZ6 := Lib.hid Z6
       obtain ⟨_, q1, q2, q3, q4, q5, q6⟩ := X6
       obtain ⟨_, r1, r2, r3, r4, r5, r6⟩ := Y6
       obtain ⟨_, z1, z2, z3, z4, z5, z6⟩ := Z6))
  all_goals
    go_wp2_with fail
    refine bodyPost_c3 rfl rfl Tryz.aggF Tryz.sizeF (HZ6.out.set _ _ _) rfl ?_
    rw [HQ.out]
    exact ⟨_, _, rfl, below_set3 (hD.trans (hp26.mono hD.size)) (by omega) _ _ _, fun h => ⟨(hv2 h).1, (hv2 h).2.set3 HZ6.out (fun z => by simp) (fun z => by simp) _ _ _⟩, hv4⟩
theorem sub_can (va vb : Value) (p q : Rat) (w : World) (ha : FracC w va p) (hb : FracC w vb q) (hp : fits p) (hq : fits q) (hr : fits (p - q)) : Calls Tryz.prog 163 #[va, vb] w (RF0 w (p - q)) := by
  have := sub_frac va vb _ _ _ _ _ _ w ha.raw hb.raw (fits_okN hp) (fits_okN hq)
  rw [fq_self, fq_self] at this
  exact this.mono fun _ _ h => h.ok rfl hr
theorem mul_can (va vb : Value) (p q : Rat) (w : World) (ha : FracC w va p) (hb : FracC w vb q) (hp : fits p) (hq : fits q) (hr : fits (p * q)) : Calls Tryz.prog 131 #[va, vb] w (RF0 w (p * q)) := by
  have := mul_frac va vb _ _ _ _ _ _ w ha.raw hb.raw (fits_okN hp) (fits_okN hq)
  rw [fq_self, fq_self] at this
  exact this.mono fun _ _ h => h.ok rfl hr
theorem add_can (va vb : Value) (p q : Rat) (w : World) (ha : FracC w va p) (hb : FracC w vb q) (hp : fits p) (hq : fits q) (hr : fits (p + q)) : Calls Tryz.prog 80 #[va, vb] w (RF0 w (p + q)) := by
  have := add_frac va vb _ _ _ _ _ _ w ha.raw hb.raw (fits_okN hp) (fits_okN hq)
  rw [fq_self, fq_self] at this
  exact this.mono fun _ _ h => h.ok rfl hr
theorem quo_can (va vb : Value) (p q : Rat) (w : World) (ha : FracC w va p) (hb : FracC w vb q) (hp : fits p) (hq : fits q) (hq0 : q ≠ 0) (hr : fits (p / q)) : Calls Tryz.prog 161 #[va, vb] w (RF0 w (p / q)) := by
  have := quo_frac va vb _ _ _ _ _ _ w ha.raw hb.raw (fits_okN hp) (fits_okN hq) (fun h => hq0 (Rat.num_eq_zero.1 (by omega)))
  rw [fq_self, fq_self] at this
  exact this.mono fun _ _ h => h.ok rfl hr
end Go.Proofs.YtlpdkbmmbdfoiaaGreat
