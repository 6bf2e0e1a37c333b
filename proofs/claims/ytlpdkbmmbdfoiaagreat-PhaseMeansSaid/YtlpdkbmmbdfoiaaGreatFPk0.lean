/-
  Small lemmas that chain and phase share: make of one-cell elements, marks, small integers.
-/
import Derived.Test.YtlpdkbmmbdfoiaaGreatFRb5
import Derived.Test.YtlpdkbmmbdfoiaaGreatFFr3
import Derived.Test.YtlpdkbmmbdfoiaaGreatFTa4
import Derived.Test.YtlpdkbmmbdfoiaaGreatFNa1
import Derived.Test.YtlpdkbmmbdfoiaaGreatFOwR
set_option linter.unusedVariables false
set_option linter.unusedSimpArgs false
namespace Go.Proofs.YtlpdkbmmbdfoiaaGreat
open Go.RowKit
theorem cmpN_swap (a b : Nat) : zfj b a = -zfj a b := by
 unfold zfj
 rcases Nat.lt_trichotomy a b with h | h | h
 ·rw [if_neg (by omega), if_pos h, if_pos h]; rfl
 ·subst h; rw [if_neg (by omega), if_neg (by omega)]; rfl
 ·rw [if_pos h, if_neg (by omega), if_pos h]
theorem nlen_prod {n e : Nat} (he : e ≠ 0) : (n = 0 → zda (n * e) = 0) ∧ (n ≠ 0 → 0 < zda (n * e)) :=
 ⟨fun h => zta.2 (by rw [h, Nat.zero_mul]), fun h => zfg.2 (Nat.mul_ne_zero h he)⟩
set_option maxRecDepth 100000 in
set_option maxHeartbeats 1600000 in
theorem ztk (va vb : Value) (s t : Bool) (n d m e : Nat) (w : World) (ha : zdc w va s n d) (hb : zdc w vb t m e) (h1 : okN n d) (h2 : okN m e) :
 Calls Tryz.prog 100 #[va, vb] w fun en w' => en = .returned (.int .i64 (cmpR (fq s n d) (fq t m e))) ∧ Below w.heap.size w w' := by
 obtain ⟨xn, xd, rfl, hxn, hxd⟩ := ha
 obtain ⟨yn, yd, rfl, hyn, hyd⟩ := hb
 obtain ⟨an, ln, kn, rfl, _⟩ := hxn.slen.1
 obtain ⟨ad, ld, kd, rfl, _⟩ := hxd.slen.1
 obtain ⟨am, lm, km, rfl, _⟩ := hyn.slen.1
 obtain ⟨ae, le, ke, rfl, _⟩ := hyd.slen.1
 have l1 := zH (zrc h1)
 have l2 := zH (zrc h2)
 have z1 := nlen_prod (n := n) h2.1
 have z2 := nlen_prod (n := m) h1.1
 have HR := zH (cmpR_eq s t n d m e h1.1 h2.1)
 have HSW := zH (cmpN_swap (n * e) (m * d))
 clear h1 h2
 obtain ⟨L1, hL1⟩ : ∃ L, zda (n * e) = L := ⟨_, rfl⟩
 obtain ⟨L2, hL2⟩ : ∃ L, zda (m * d) = L := ⟨_, rfl⟩
 rw [hL1] at z1
 rw [hL2] at z2
 have HL1 := zH hL1
 have HL2 := zH hL2
 have hX : (s = false) ∨ (s = true ∧ n = 0 ∧ L1 = 0) ∨ (s = true ∧ n ≠ 0 ∧ 0 < L1) := by
  cases s
  ·exact Or.inl rfl
  ·by_cases h : n = 0
   ·exact Or.inr (Or.inl ⟨rfl, h, z1.1 h⟩)
   ·exact Or.inr (Or.inr ⟨rfl, h, z1.2 h⟩)
 have hY : (t = false) ∨ (t = true ∧ m = 0 ∧ L2 = 0) ∨ (t = true ∧ m ≠ 0 ∧ 0 < L2) := by
  cases t
  ·exact Or.inl rfl
  ·by_cases h : m = 0
   ·exact Or.inr (Or.inl ⟨rfl, h, z2.1 h⟩)
   ·exact Or.inr (Or.inr ⟨rfl, h, z2.2 h⟩)
 have HX0 := zH hX
 have HY0 := zH hY
 clear hL1 hL2 z1 z2 hX hY
 go_enter Tryz.func100, Tryz.ntmps100
 go_wp2_with fail
 obtain ⟨W, hW⟩ : ∃ W, W = ((w.alloc (.cells #[.bool s, .slice an ln kn, .slice ad ld kd] 38)).alloc (.cells #[.bool t, .slice am lm km, .slice ae le ke] 38)) := ⟨_, rfl⟩
 obtain ⟨bx, byy, hbw⟩ := zcf w 38 _ _ _ _ _ _ W hW
 rw [← hW]
 clear hW
 have hd2 := zja (B := W.heap.size) W
 have hD := zaa hbw hd2
 have hbx3 := bx.belowS hd2
 have hby3 := byy.belowS hd2
 have HX3 := zH hbx3
 have HY3 := zH hby3
 obtain ⟨_, q1, q2, q3, q4, q5, q6⟩ := hbx3
 obtain ⟨_, r1, r2, r3, r4, r5, r6⟩ := hby3
 have g1 := hxn.below hD
 have g2 := hxd.below hD
 have g3 := hyn.below hD
 have g4 := hyd.below hD
 clear bx byy hd2
 have tok1 : True := trivial
 go_region_held3 (fun w' => w'.cell? ⟨w.heap.size, 1, none⟩ = some (.slice an ln kn) ∧ w'.cell? ⟨w.heap.size, 2, none⟩ = some (.slice ad ld kd) ∧ w'.cell? ⟨w.heap.size + 1, 1, none⟩ = some (.slice am lm km) ∧ w'.cell? ⟨w.heap.size + 1, 2, none⟩ = some (.slice ae le ke)) (exact ⟨q2, q3, r2, r3⟩) (first
  |(go_at_call 74; have _t := tok1; clear tok1 _t; (with_reducible refine (zke _ _ n e _ g1 g4 l1.out.1 l2.out.2).mono ?_); rintro e9 w3 ⟨p1, rfl, hp1, hp2⟩
    have X4 := HX3.out.belowS hp2
    have Y4 := HY3.out.belowS hp2
    have HX4 := zH X4
    have HY4 := zH Y4
    obtain ⟨_, q1, q2, q3, q4, q5, q6⟩ := X4
    obtain ⟨_, r1, r2, r3, r4, r5, r6⟩ := Y4)
  |(go_at_call 74; (with_reducible refine (zke _ _ m d _ (g3.below hp2) (g2.below hp2) l2.out.1 l1.out.2).mono ?_); rintro e9 w4 ⟨p3, rfl, hp3, hp4⟩
    have hp24 := zaa hp2 hp4
    have hp14 := hp1.below hp4
    have X5 := HX4.out.belowS hp4
    have Y5 := HY4.out.belowS hp4
    have HX5 := zH X5
    have HY5 := zH Y5
    obtain ⟨_, q1, q2, q3, q4, q5, q6⟩ := X5
    obtain ⟨_, r1, r2, r3, r4, r5, r6⟩ := Y5))
 have hdw : Below w.heap.size w w4 := hD.trans (hp24.mono hD.size)
 have HP1 := zH hp14
 have HP3 := zH hp3
 have sp1 := hp14.v.sl
 have lp1 : slen p1 = L1 := hp14.v.len.trans HL1.out
 have sp3 := hp3.v.sl
 have lp3 : slen p3 = L2 := hp3.v.len.trans HL2.out
 have k1 := HX5.out.c0
 have k2 := HY5.out.c0
 clear hp24 hp14 hp1 hp3 hp2 hp4 hD g1 g2 g3 g4 HX3 HY3 HX4 HY4 q1 q2 q3 q4 q5 q6 r1 r2 r3 r4 r5 r6 hbw
 rcases HX0.out with rfl | ⟨rfl, hn0, hl0⟩ | ⟨rfl, hn0, hl0⟩ <;> rcases HY0.out with rfl | ⟨rfl, hm0, hk0⟩ | ⟨rfl, hm0, hk0⟩ <;> (
  try subst hl0
  try subst hk0
  clear HX0 HY0
  go_wp2_with (go_at_call 77; first
   |((with_reducible refine (zee p1 p3 (n * e) (m * d) _ HP1.out.nat HP3.out.nat).mono ?_); rintro e9 w9 ⟨rfl, hb9⟩; have hdw := zaa hdw hb9)
   |((with_reducible refine (zee p3 p1 (m * d) (n * e) _ HP3.out.nat HP1.out.nat).mono ?_); rintro e9 w9 ⟨rfl, hb9⟩; rw [HSW.out]; have hdw := zaa hdw hb9))
  all_goals
   go_ret
   exact ⟨by rw [HR.out]; simp [*], hdw⟩)
theorem cmpR_beq (p q : Rat) : (cmpR p q == 0) = decide (p = q) := by
 have := zji p q
 by_cases h : p = q
 ·rw [decide_eq_true h, this.2 h]; rfl
 ·rw [decide_eq_false h]
  have h2 : cmpR p q ≠ 0 := fun e => h (this.1 e)
  simpa using h2
set_option maxHeartbeats 800000 in
theorem r2same_any (va vb : Value) (s t : Bool) (n d m e : Nat) (w : World) (ha : zdc w va s n d) (hb : zdc w vb t m e) (h1 : okN n d) (h2 : okN m e) :
 Calls Tryz.prog 33 #[va, vb] w fun en w' => en = .returned (.bool (decide (fq s n d = fq t m e))) ∧ Below w.heap.size w w' := by
 have hA := ha
 have hB := hb
 obtain ⟨xn, xd, rfl, hxn, hxd⟩ := ha
 obtain ⟨yn, yd, rfl, hyn, hyd⟩ := hb
 obtain ⟨an, ln, kn, rfl, _⟩ := hxn.slen.1
 obtain ⟨ad, ld, kd, rfl, _⟩ := hxd.slen.1
 obtain ⟨am, lm, km, rfl, _⟩ := hyn.slen.1
 obtain ⟨ae, le, ke, rfl, _⟩ := hyd.slen.1
 have K1 := zH h1
 have K2 := zH h2
 have HE := zH (cmpR_beq (fq s n d) (fq t m e))
 clear h1 h2
 go_enter Tryz.func33, Tryz.ntmps33
 go_wp2_with fail
 obtain ⟨W, hW⟩ : ∃ W, W = ((w.alloc (.cells #[.bool s, .slice an ln kn, .slice ad ld kd] 38)).alloc (.cells #[.bool t, .slice am lm km, .slice ae le ke] 38)) := ⟨_, rfl⟩
 obtain ⟨bx, byy, hbw⟩ := zcf w 38 _ _ _ _ _ _ W hW
 rw [← hW]
 clear hW
 obtain ⟨_, q1, q2, q3, q4, q5, q6⟩ := bx
 obtain ⟨_, r1, r2, r3, r4, r5, r6⟩ := byy
 go_wp2_with (go_at_call 100; (with_reducible refine (ztk _ _ s t n d m e _ (hA.below hbw) (hB.below hbw) K1.out K2.out).mono ?_); rintro e9 w9 ⟨rfl, hb9⟩)
 go_ret
 exact ⟨by rw [← HE.out]; rfl, zaa hbw hb9⟩
set_option maxHeartbeats 800000 in
theorem r2sign_any (va : Value) (s : Bool) (n d : Nat) (w : World) (ha : zdc w va s n d) (h1 : okN n d) :
 Calls Tryz.prog 34 #[va] w fun en w' => en = .returned (.int .i64 (cmpR (fq s n d) 0)) ∧ Below w.heap.size w w' := by
 have hA := ha
 obtain ⟨xn, xd, rfl, hxn, hxd⟩ := ha
 obtain ⟨an, ln, kn, rfl, _⟩ := hxn.slen.1
 obtain ⟨ad, ld, kd, rfl, _⟩ := hxd.slen.1
 have K1 := zH h1
 have K0 : Hid (okN (0 : Rat).num.natAbs (0 : Rat).den) := zH (by decide +kernel)
 have HE : Hid (cmpR (fq s n d) (fq false 0 1) = cmpR (fq s n d) 0) := zH (by rw [show fq false 0 1 = 0 from fq_zero false 1 (by decide)])
 clear h1
 go_enter Tryz.func34, Tryz.ntmps34
 go_wp2_with fail
 have bx := C3.new w 38 (.bool s) (.slice an ln kn) (.slice ad ld kd)
 have hbx := zca w (.cells #[.bool s, .slice an ln kn, .slice ad ld kd] 38)
 generalize hW : w.alloc (.cells #[.bool s, .slice an ln kn, .slice ad ld kd] 38) = W at *
 clear hW
 have hd2 := zja (B := W.heap.size) W
 have hD := zaa hbx hd2
 have hbx3 := bx.belowS hd2
 have HX3 := zH hbx3
 obtain ⟨_, q1, q2, q3, q4, q5, q6⟩ := hbx3
 clear bx hd2
 go_region_held3 (fun w' => w'.cell? ⟨w.heap.size, 0, none⟩ = some (.bool s) ∧ w'.cell? ⟨w.heap.size, 1, none⟩ = some (.slice an ln kn) ∧ w'.cell? ⟨w.heap.size, 2, none⟩ = some (.slice ad ld kd)) (exact ⟨q1, q2, q3⟩) (first
  |(go_at_call 20; (with_reducible refine (zwi _).mono ?_); rintro e9 w3 ⟨v3, rfl, hv3, hb3⟩
    obtain ⟨_, q1, q2, q3, q4, q5, q6⟩ := HX3.out.belowS hb3)
  |(go_at_call 100; (with_reducible refine (ztk _ _ s _ n d _ _ _ ((hA.below hD).below hb3) hv3.raw K1.out K0.out).mono ?_); rintro e9 w4 ⟨rfl, hb4⟩
    obtain ⟨_, q1, q2, q3, q4, q5, q6⟩ := HX3.out.belowS (zaa hb3 hb4)))
 go_wp2
 go_ret
 exact ⟨by rw [← HE.out]; rfl, zaa (zaa hD hb3) hb4⟩
theorem r2add_can (va vb : Value) (p q : Rat) (w : World) (ha : zqa w va p) (hb : zqa w vb q) (hp : fits p) (hq : fits q) (hf : fits (p + q)) : Calls Tryz.prog 19 #[va, vb] w (RF0 w (p + q)) :=
 (r2add_any va vb _ _ _ _ _ _ w ha.raw hb.raw ⟨p.den_nz, hp.2, hp.1⟩ ⟨q.den_nz, hq.2, hq.1⟩).mono fun _ _ h => h.ok (by rw [zvb, zvb]) hf
theorem sgn_can (va : Value) {w : World} {q : Rat} (ha : zqa w va q) (hf : fits q) : Calls Tryz.prog 34 #[va] w fun en w' => en = .returned (.int .i64 (cmpR q 0)) ∧ Below w.heap.size w w' := by
 have h := r2sign_any va _ _ _ w ha.raw ⟨q.den_nz, hf.2, hf.1⟩
 rw [zvb] at h
 exact h
theorem zbb.cellsAt {w : World} {v : Value} {l : List Rat} (h : zbb w v l) {k : Nat} (hk : k < l.length) :
 ∃ t a1 l1 k1 a2 l2 k2, w.cell? (ptr v (k * 3)) = some (.bool t) ∧ w.cell? (ptr v (k * 3 + 1)) = some (.slice a1 l1 k1) ∧ w.cell? (ptr v (k * 3 + 2)) = some (.slice a2 l2 k2) ∧ zqa w (.agg #[.bool t, .slice a1 l1 k1, .slice a2 l2 k2]) (l.getD k 0) := by
 obtain ⟨za, zb, p1, p2, p3, p4, p5⟩ := h.at' k hk
 obtain ⟨za1, za2, za3, rfl, _⟩ := p4.v.sl
 obtain ⟨zb1, zb2, zb3, rfl, _⟩ := p5.v.sl
 refine ⟨_, _, _, _, _, _, _, p1, p2, p3, ?_⟩
 rw [List.getD_eq_getElem?_getD, List.getElem?_eq_getElem hk]
 exact ⟨_, _, rfl, p4, p5⟩
def zvg (q : Rat) : Prop := 0 ≤ q ∧ zua q.num.natAbs ≤ 32 ∧ zua q.den ≤ 32
theorem zvg.fits {q : Rat} (h : zvg q) : fits q := ⟨Nat.le_trans h.2.1 (by decide), Nat.le_trans h.2.2 (by decide)⟩
theorem zoo (va : Value) (q : Rat) (w : World) (ha : zqa w va q) (hf : fits q) : Calls Tryz.prog 89 #[va] w (RF0 w q) := by
 refine (zef va _ _ _ w ha.raw).mono ?_
 rintro e w' ⟨v, er, rfl, hb, h1, _⟩
 obtain ⟨rfl, h2⟩ := h1 (zuc hf)
 rw [zvb] at h2
 exact ⟨v, rfl, h2, hb⟩
set_option maxHeartbeats 1600000 in
theorem finlim_ok (va : Value) (q : Rat) (w : World) (ha : zqa w va q) (hl : zvg q) : Calls Tryz.prog 135 #[va] w (fun e w' => e = .returned (.bool true) ∧ Below w.heap.size w w') := by
 obtain ⟨t1, x1, y1, rfl, ⟨a11, l11, k11, rfl, _⟩, ⟨a12, l12, k12, rfl, _⟩⟩ := ha.isF
 have hba := zca w (.cells #[.bool t1, .slice a11 l11 k11, .slice a12 l12 k12] 38)
 have HC := zH (C3.new w 38 (.bool t1) (.slice a11 l11 k11) (.slice a12 l12 k12))
 have HA := zH (ha.below hba)
 have HB := zH hba
 have HF := zH hl.fits
 have HN : Hid (decide (q < 0) = false) := zH (decide_eq_false (Rat.not_lt.2 hl.1))
 have hn1 : decide (((zua q.num.natAbs : Nat) : Int) ≤ 32) = true := decide_eq_true (by have := hl.2.1; omega)
 have hn2 : decide (((zua q.den : Nat) : Int) ≤ 32) = true := decide_eq_true (by have := hl.2.2; omega)
 obtain ⟨_, c0, c1, c2, _, _, _⟩ := HC.out
 clear ha hba hl
 go_enter Tryz.func135, Tryz.ntmps135
 go_upto_region 2 with (first
  |(go_at_call 89; (with_reducible refine (zoo _ q _ HA.out HF.out).mono ?_); rintro e3 w3 ⟨v3, rfl, hv3, hb3⟩
    obtain ⟨x3, y3, rfl, n1, n2⟩ := id hv3
    rw [HN.out] at hv3 ⊢
    obtain ⟨a31, l31, k31, rfl, _⟩ := id n1.v.sl
    obtain ⟨a32, l32, k32, rfl, _⟩ := id n2.v.sl
    have hba := zca w3 (.cells #[.bool false, .slice a31 l31 k31, .slice a32 l32 k32] 38)
    have HC3 := zH (C3.new w3 38 (.bool false) (.slice a31 l31 k31) (.slice a32 l32 k32))
    have HN1 := zH (n1.below hba).nat
    have HN2 := zH (n2.below hba).nat
    have HB3 := zH (zaa HB.out (zaa hb3 hba))
    clear c0 c1 c2 hv3 hb3 hba n1 n2))
 obtain ⟨b3, hb3⟩ : ∃ b, w3.heap.size = b := ⟨_, rfl⟩
 rw [hb3] at HC3 ⊢
 clear hb3
 generalize w3.alloc (.cells #[.bool false, .slice a31 l31 k31, .slice a32 l32 k32] 38) = W3 at *
 obtain ⟨_, c0, c1, c2, _, _, _⟩ := HC3.out
 go_wp2_with (first
  |(go_at_call 156; (with_reducible refine (zva _ q.num.natAbs _ HN1.out).mono ?_); rintro e4 w4 ⟨rfl, rfl⟩)
  |(go_at_call 156; (with_reducible refine (zva _ q.den _ HN2.out).mono ?_); rintro e5 w5 ⟨rfl, rfl⟩))
 go_ret
 exact ⟨rfl, HB3.out⟩
set_option maxHeartbeats 1600000 in
theorem ztf (va : Value) (q : Rat) (w : World) (ha : zqa w va q) : Calls Tryz.prog 136 #[va] w (fun e w' => e = .returned (.bool (decide (0 < zua q.num.natAbs))) ∧ Below w.heap.size w w') := by
 obtain ⟨x1, y1, rfl, n1, n2⟩ := id ha
 obtain ⟨a11, l11, k11, rfl, _⟩ := id n1.v.sl
 obtain ⟨a12, l12, k12, rfl, _⟩ := id n2.v.sl
 have hba := zca w (.cells #[.bool (decide (q < 0)), .slice a11 l11 k11, .slice a12 l12 k12] 38)
 have HN1 := zH (n1.below hba).nat
 have HB := zH hba
 obtain ⟨_, c0, c1, c2, _, _, _⟩ := C3.new w 38 (.bool (decide (q < 0))) (.slice a11 l11 k11) (.slice a12 l12 k12)
 clear ha hba n1 n2
 go_enter Tryz.func136, Tryz.ntmps136
 go_wp2_with (first
  |(go_at_call 156; (with_reducible refine (zva _ q.num.natAbs _ HN1.out).mono ?_); rintro e4 w4 ⟨rfl, rfl⟩))
 go_ret
 exact ⟨rfl, HB.out⟩
set_option maxRecDepth 100000 in
set_option maxHeartbeats 1600000 in
theorem fall_ok (va : Value) (l : List Rat) (w : World) (ha : zbb w va l) (hl : ∀ q ∈ l, zvg q) (hn : l.length ≤ 1000) :
 Calls Tryz.prog 134 #[va, .func (.func 135) #[] #[]] w (fun e w' => e = .returned (.bool true) ∧ Below w.heap.size w w') := by
 obtain ⟨xa, xn, xk, rfl, _⟩ := id ha.sl
 have sx := ha.sl
 have hxn : xn = l.length := ha.len
 obtain ⟨n, hnn⟩ : ∃ n, l.length = n := ⟨_, rfl⟩
 rw [hnn] at hxn hn
 subst hxn
 have HN := zH hnn
 have HA := zH ha
 have HL := zH hl
 clear hnn ha hl
 go_enter Tryz.func134, Tryz.ntmps134
 go_wp2_with fail
 go_loopg [9] (xn) (fun g u9 wr => ∃ (k : Nat), k ≤ xn ∧ g = xn - k ∧ u9 = .int .i64 k ∧ Below w.heap.size w wr)
 case atStart => exact ⟨0, Nat.zero_le _, rfl, rfl, Below.refl _ _⟩
 case round =>
  obtain ⟨k, hk, hg, rfl, hbr⟩ := hrel
  obtain ⟨wb, hwb⟩ : ∃ wb, wb = wr := ⟨_, rfl⟩
  subst hwb
  have HG := zH hg
  have HBR := zH hbr
  clear hg hbr
  by_cases hkl : k < xn
  ·have hk2 : k < l.length := by rw [HN.out]; exact hkl
   obtain ⟨ts, as1, ls1, ks1, as2, ls2, ks2, g1, g2, g3, hfs⟩ := (HA.out.below HBR.out).cellsAt (k := k) hk2
   have hlq : zvg (l.getD k 0) := by
    rw [List.getD_eq_getElem?_getD, List.getElem?_eq_getElem hk2]
    exact HL.out _ (List.getElem_mem hk2)
   have hba := zca wb (.cells #[.bool ts, .slice as1 ls1 ks1, .slice as2 ls2 ks2] 38)
   have HFS := zH (hfs.below hba)
   have HLQ := zH hlq
   have HB2 := zH (zaa HBR.out hba)
   obtain ⟨_, c0, c1, c2, _, _, _⟩ := C3.new wb 38 (.bool ts) (.slice as1 ls1 ks1) (.slice as2 ls2 ks2)
   have i1 : (0 : Int) ≤ (k : Int) := by omega
   have i2 : (k : Int) < (xn : Nat) := by omega
   clear hfs hlq hba
   go_wp2_with (first
    |(go_at_call 135; (with_reducible refine (finlim_ok _ _ _ HFS.out HLQ.out).mono ?_); rintro e4 w4 ⟨rfl, hb4⟩
      have HB4 := zH (zaa HB2.out hb4)
      clear hb4))
   go_roundg (xn - (k + 1))
   case measure => (have := HG.out; omega)
   case rel => exact ⟨k + 1, by omega, rfl, by go_num, HB4.out⟩
  ·obtain rfl : k = xn := by omega
   go_wp2_with fail
   go_ret
   exact ⟨rfl, HBR.out⟩
structure C4 (w : World) (b : Nat) (v0 v1 v2 v3 : Value) : Prop where
 lt : b < w.heap.size
 c0 : w.cell? ⟨b, 0, none⟩ = some v0
 c1 : w.cell? ⟨b, 1, none⟩ = some v1
 c2 : w.cell? ⟨b, 2, none⟩ = some v2
 c3 : w.cell? ⟨b, 3, none⟩ = some v3
 f0 : w.frozen? ⟨b, 0, none⟩ = false
 f1 : w.frozen? ⟨b, 1, none⟩ = false
 f2 : w.frozen? ⟨b, 2, none⟩ = false
 f3 : w.frozen? ⟨b, 3, none⟩ = false
theorem C4.of {w : World} {b : Nat} {v0 v1 v2 v3 : Value} {t : TypeId} (h : w.heap[b]? = some (.cells #[v0, v1, v2, v3] t (0, 0))) : C4 w b v0 v1 v2 v3 := by
 refine ⟨lt_of_block h, ?_, ?_, ?_, ?_, ?_, ?_, ?_, ?_⟩ <;> simp [World.cell?, World.frozen?, h]
theorem C4.new (w : World) (t : TypeId) (v0 v1 v2 v3 : Value) : C4 (w.alloc (.cells #[v0, v1, v2, v3] t)) w.heap.size v0 v1 v2 v3 :=
 C4.of (t := t) (by show (w.heap.push _)[w.heap.size]? = _; simp)
theorem C4.below {w w' : World} {B b : Nat} {v0 v1 v2 v3 : Value} (h : C4 w b v0 v1 v2 v3) (hb : Below B w w') (hB : b < B) : C4 w' b v0 v1 v2 v3 :=
 ⟨Nat.lt_of_lt_of_le h.lt hb.size, by rw [hb.cell hB]; exact h.c0, by rw [hb.cell hB]; exact h.c1, by rw [hb.cell hB]; exact h.c2, by rw [hb.cell hB]; exact h.c3, by rw [hb.frozen hB]; exact h.f0, by rw [hb.frozen hB]; exact h.f1, by rw [hb.frozen hB]; exact h.f2, by rw [hb.frozen hB]; exact h.f3⟩
theorem C4.belowS {w w' : World} {b : Nat} {v0 v1 v2 v3 : Value} (h : C4 w b v0 v1 v2 v3) (hb : Below w.heap.size w w') : C4 w' b v0 v1 v2 v3 := h.below hb h.lt
structure LQ where
 start : List Rat
 exit : List Rat
 rates : List (List Rat)
def zhm (w : World) (v : Value) (l : LQ) : Prop := ∃ nm s r e, v = .agg #[nm, s, r, e] ∧ zbb w s l.start ∧ MatC w r l.rates ∧ zbb w e l.exit
theorem zhm.below {w w' : World} {v : Value} {l : LQ} (h : zhm w v l) (hb : Below w.heap.size w w') : zhm w' v l := by
 obtain ⟨nm, s, r, e, rfl, h1, h2, h3⟩ := h
 exact ⟨nm, s, r, e, rfl, h1.below hb, h2.below hb, h3.below hb⟩
structure zxb (l : LQ) : Prop where
 n1 : 1 ≤ l.start.length
 n4 : l.start.length ≤ 4
 el : l.exit.length = l.start.length
 rl : l.rates.length = l.start.length
 st : ∀ q ∈ l.start, zvg q
 ex : ∀ q ∈ l.exit, zvg q
 row : ∀ (i : Nat) (h : i < l.rates.length), l.rates[i].length = l.start.length ∧ (∀ q ∈ l.rates[i], zvg q) ∧ l.rates[i].getD i 0 = 0
 sum : zgg l.start = 1
 ends : ∃ d : Nat → Nat, ∀ i, i < l.start.length → d i ≤ l.start.length ∧ (0 < l.exit.getD i 0 ∨ ∃ j, j < l.start.length ∧ 0 < (l.rates.getD i []).getD j 0 ∧ d j < d i)
theorem zvg.above {q : Rat} (h : zvg q) : decide (0 < zua q.num.natAbs) = decide (0 < q) := by
 rw [decide_eq_decide]
 constructor
 ·intro h1
  refine Classical.byContradiction fun h2 => ?_
  have h3 : q = 0 := Rat.le_antisymm (Rat.not_lt.1 h2) h.1
  rw [h3] at h1
  exact absurd h1 (by decide)
 ·intro h1
  refine Nat.pos_of_ne_zero fun h2 => ?_
  have h3 : q.num.natAbs < 2 ^ 0 := zwb.1 (Nat.le_of_eq h2)
  have h4 : q.num.natAbs = 0 := by simpa using h3
  have h5 : q = 0 := Rat.num_eq_zero.1 (Int.natAbs_eq_zero.1 h4)
  rw [h5] at h1
  exact absurd h1 (by decide)
@[go_sem] theorem slen_lit0 (a : Option Addr) (n c : Nat) : slen (.slice a n c) = n := rfl
@[go_sem] theorem int_beq_self0 (y : Int) : (y == y) = true := by simp
@[go_sem] theorem int_bne_self0 (y : Int) : (y != y) = false := by simp
theorem make_E2 {P : Program} (t e : TypeId) (i : TypeInfo) (z : Value) (by' : Nat) (h1 : P.underlying t = some (.slice e)) (h2 : P.info? e = some i) (h3 : i.zero = some z) (h4 : i.size = 1) (h5 : i.bytes = by') (hby : by' ≤ 32) (hz : z.cells = #[z])
 (w : World) {ops : Array Oper} {rest : List Oper} {o : Oper} {a : Act} {Q : Exit → Act → World → Prop} (hg : o.guard = none) (l c : Operand) (hop : o.op = Op.makeSlice t l c)
 (n : Nat) (hl : a.eval l = .int .i64 n) (hc : a.eval c = .int .i64 n) (hn : n ≤ 128)
 (hK : ∀ v w', zce w' e w.heap.size v (List.replicate n z) → Below w.heap.size w w' → wpList P ops Q rest (a.put o.dst v) w') :
 wpList P ops Q (o :: rest) a w :=
 zjh w hg l c t hop w.heap.size e i z h1 h2 h3 h4 hz n hl hc (by rw [h5]; exact Nat.le_trans (Nat.mul_le_mul hby hn) (by decide)) (by simp [maxLen]; omega) (Nat.le_refl _) (fun v w' h6 h7 _ => hK v w' h6 h7)
theorem zrn {l : List Bool} {k : Nat} (h : k < l.length) : l.getD k false = l[k] := by
 rw [List.getD_eq_getElem?_getD, List.getElem?_eq_getElem h]; rfl
theorem zge {x : Int} (h1 : 0 ≤ x) (h2 : x ≤ 1900) : IntKind.i64.wrap x = x := by
 unfold IntKind.wrap
 simp [IntKind.signed, IntKind.bits]
 omega
end Go.Proofs.YtlpdkbmmbdfoiaaGreat
