/-
  package phase: Exponential.
-/
import Derived.Test.YtlpdkbmmbdfoiaaGreatGPs2
import Derived.Test.YtlpdkbmmbdfoiaaGreatFOwR
import Derived.Test.YtlpdkbmmbdfoiaaGreatFRa3
import Derived.Test.YtlpdkbmmbdfoiaaGreatFEl2
set_option linter.unusedVariables false
set_option linter.unusedSimpArgs false
namespace Go.Proofs.YtlpdkbmmbdfoiaaGreat
def midN (n : Nat) (q : Rat) : Prop := ∃ E K, E ≠ 0 ∧ E < 2 ^ n ∧ K < 2 ^ n ∧ over E K q
def mid (q : Rat) : Prop := midN 240 q
theorem zgp {x y a b : Nat} (h1 : x < 2 ^ a) (h2 : y < 2 ^ b) : x * y < 2 ^ (a + b) := by
 rw [Nat.pow_add]
 exact Nat.mul_lt_mul'' h1 h2
section
variable {a b : Nat} {p q : Rat}
theorem midN.fits (h : midN a p) (ha : a ≤ 4096) : Go.Proofs.YtlpdkbmmbdfoiaaGreat.fits p := by
 obtain ⟨E, K, h1, h2, h3, h4⟩ := h
 exact h4.fits h1 (zwc h3 ha) (zwc h2 ha)
theorem midN.mul (h : midN a p) (k : midN b q) : midN (a + b) (p * q) := by
 obtain ⟨E, K, h1, h2, h3, h4⟩ := h
 obtain ⟨F, L, k1, k2, k3, k4⟩ := k
 exact ⟨E * F, K * L, Nat.mul_ne_zero h1 k1, zgp h2 k2, zgp h3 k3, over.mul h4 k4⟩
theorem midN.two (h : midN a p) (k : midN b q) : midN (a + b + 1) (p + q) ∧ midN (a + b + 1) (p - q) := by
 obtain ⟨E, K, h1, h2, h3, h4⟩ := h
 obtain ⟨F, L, k1, k2, k3, k4⟩ := k
 have e1 : K * F < 2 ^ (a + b) := zgp h3 k2
 have e2 : L * E < 2 ^ (a + b) := by have := zgp k3 h2; rwa [Nat.add_comm b a] at this
 have e3 : E * F < 2 ^ (a + b) := zgp h2 k2
 have e4 : 2 ^ (a + b + 1) = 2 ^ (a + b) * 2 := Nat.pow_succ _ _
 have g1 := over.scale k1 h4
 have g2 := over.scale h1 k4
 rw [Nat.mul_comm F E] at g2
 have h0 := Nat.mul_ne_zero h1 k1
 exact ⟨⟨_, _, h0, by omega, by omega, over.add h0 g1 g2⟩, ⟨_, _, h0, by omega, by omega, over.sub h0 g1 g2⟩⟩
end
section
variable {p q r s : Rat}
theorem mid.fits (h : mid q) : Go.Proofs.YtlpdkbmmbdfoiaaGreat.fits q := midN.fits h (by decide)
theorem mid.mul_fits (h : mid p) (k : mid q) : Go.Proofs.YtlpdkbmmbdfoiaaGreat.fits (p * q) := (midN.mul h k).fits (by decide)
theorem mid.add_fits (h : mid p) (k : mid q) : Go.Proofs.YtlpdkbmmbdfoiaaGreat.fits (p + q) := (midN.two h k).1.fits (by decide)
theorem mid.var_fits (h : mid p) (k : mid q) : Go.Proofs.YtlpdkbmmbdfoiaaGreat.fits (p - q * q) := (midN.two h (midN.mul k k)).2.fits (by decide)
theorem mid.mix_fits (h : mid p) (k : mid q) (h' : mid r) (k' : mid s) : Go.Proofs.YtlpdkbmmbdfoiaaGreat.fits (p * q + r * s) := (midN.two (midN.mul h k) (midN.mul h' k')).1.fits (by decide)
end
section
variable {l : LQ} {D B : Nat}
theorem mom_mid (h : zxb l) (hs : SmL D B l) (hD : D ≠ 0) (hD1 : D ≤ 6720) (hB : D ≤ 5 * B) (hB1 : 5 * B ≤ 1814400) {DS : Nat} (hDS : DS ≠ 0) (hDS2 : DS ≤ 2 ^ 13) (hst : ∀ i, i < l.start.length → over DS (2 ^ 13) (stQ l i)) : mid (zfo l 1) ∧ mid (zfo l 2) := by
 have hS := h.sms hs hD hD1 hB hB1
 obtain ⟨E1, a1, a2, a3⟩ := hS.sol (F := 1) (K := 1) (by decide) (fun i _ => zeg) (h.mom_eq 0)
 rw [Nat.mul_one] at a3
 have e91 : 2 ^ 91 * 1 = 2 ^ 91 := Nat.mul_one _
 rw [e91] at a3
 obtain ⟨E2, c1, c2, c3⟩ := hS.sol (F := E1) (K := 2 ^ 91) a1 a3 (h.mom_eq 1)
 have n4 := h.n4
 have key : ∀ (x : Nat → Rat) (E K f : Nat), E ≠ 0 → E < 2 ^ 200 → K ≤ 2 ^ 200 → f ≤ 2 → (∀ i, i < l.start.length → over E K (x i)) → mid ((sg l.start.length fun i => stQ l i * x i) * fq false f 1) := fun x E K f hE hE2 hK hf hx => by
  have h1 : over (DS * E) (l.start.length * (2 ^ 13 * K)) (sg l.start.length fun i => stQ l i * x i) := over.sg (Nat.mul_ne_zero hDS hE) fun i hi => over.mul (hst i hi) (hx i hi)
  have h2 : over 1 2 (fq false f 1) := by
   refine ⟨(f : Int), ?_, by simp; omega⟩
   unfold fq sgn
   simp
  have h3 := over.mul h1 h2
  rw [Nat.mul_one] at h3
  refine ⟨_, _, Nat.mul_ne_zero hDS hE, ?_, ?_, h3⟩
  ·have g1 : DS * E ≤ 2 ^ 13 * E := Nat.mul_le_mul_right _ hDS2
   have g2 : 2 ^ 13 * E < 2 ^ 13 * 2 ^ 200 := Nat.mul_lt_mul_of_pos_left hE2 (by decide +kernel)
   exact Nat.lt_of_lt_of_le (Nat.lt_of_le_of_lt g1 g2) (by decide +kernel)
  ·have g1 : l.start.length * (2 ^ 13 * K) * 2 ≤ 4 * (2 ^ 13 * 2 ^ 200) * 2 := Nat.mul_le_mul_right _ (Nat.mul_le_mul n4 (Nat.mul_le_mul_left _ hK))
   exact Nat.lt_of_le_of_lt g1 (by decide +kernel)
 rw [zhp, zhp]
 refine ⟨key _ E1 _ (zem 1) a1 (Nat.lt_trans a2 (by decide +kernel)) (by decide +kernel) (by decide) a3, key _ (E2 * E1) _ (zem 2) (Nat.mul_ne_zero c1 a1) ?_ (by decide +kernel) (by decide) c3⟩
 exact Nat.lt_of_lt_of_le (Nat.mul_lt_mul'' c2 a2) (by decide +kernel)
end
theorem lim_over {D B : Nat} {q : Rat} (hD : D ≠ 0) (h : over D B q) (h0 : 0 ≤ q) (h1 : D < 2 ^ 32) (h2 : B < 2 ^ 32) : zvg q := by
 obtain ⟨s, n, rfl, h4⟩ := h.fq
 refine ⟨h0, ?_, ?_⟩
 ·rw [zif _ _ _ hD]
  exact zre (Nat.lt_of_le_of_lt (Nat.div_le_self _ _) (Nat.lt_of_le_of_lt h4 h2))
 ·rw [zsm _ _ _ hD]
  exact zre (Nat.lt_of_le_of_lt (Nat.div_le_self _ _) h1)
section
variable {a b : LQ} {p : Rat}
theorem zch.step {m : Nat} (h : zch m a) {i : Nat} (hi : i < a.start.length) : 0 < exQ a i ∨ (i + 1 < a.start.length ∧ 0 < rtQ a i (i + 1)) := by
 obtain ⟨n, h1, h2, h3⟩ := h
 rw [h3.sl] at hi ⊢
 rcases h3.ex_get hi with h4 | ⟨_, h4⟩
 ·exact Or.inl h4.pos
 ·exact Or.inr ⟨h4, ((h3.rt_get hi h4).1 rfl).pos⟩
theorem lenN (ha : zch 2 a) (hb : zch 2 b) : a.start.length + b.start.length ≤ 4 ∧ a.start.length * b.start.length ≤ 4 := ⟨Nat.add_le_add ha.len hb.len, Nat.mul_le_mul ha.len hb.len⟩
theorem zap (ha : zch 2 a) (hb : zch 2 b) : zxb (zno a b) := by
 have pa := ha.law (by decide)
 have pb := hb.law (by decide)
 have n1 := pa.n1
 have m1 := pb.n1
 obtain ⟨h4, _⟩ := lenN ha hb
 refine fn_law (by omega) h4 (fun i hi => ?_) (fun i hi => ?_) (fun i j hi hj => ?_) (fun i hi => ?_) ?_ fun i hi => ?_
 ·rcases zio hi with h | ⟨k, hk, rfl⟩
  ·rw [(zqp (b := b) h).1]; exact pa.st_lim h
  ·rw [(zlp (b := b) k).1]; exact zfi
 ·rcases zio hi with h | ⟨k, hk, rfl⟩
  ·rw [(zqp h).2]; exact zfi
  ·rw [(zlp k).2]; exact pb.ex_lim hk
 ·rcases zio hi with h | ⟨k, hk, rfl⟩
  ·rcases zio hj with h2 | ⟨t, ht, rfl⟩
   ·rw [smR_aa h h2]; exact pa.rt_lim h h2
   ·rw [smR_ab h]
    exact lim_over (by decide) (over.mul (ha.sm.e i h) (hb.start8 ht)) (Rat.mul_nonneg (pa.ex_lim h).1 (pb.st_lim ht).1) (by decide) (by decide)
  ·rcases zio hj with h2 | ⟨t, ht, rfl⟩
   ·rw [smR_ba k h2]; exact zfi
   ·rw [smR_bb]; exact pb.rt_lim hk ht
 ·rcases zio hi with h | ⟨k, hk, rfl⟩
  ·rw [smR_aa h h]; exact pa.rt_diag h
  ·rw [smR_bb]; exact pb.rt_diag hk
 ·rw [zbn]
  have e1 : sg a.start.length (smS a) = 1 := by rw [← pa.st_sum]; exact zma fun i hi => (zqp (b := b) hi).1
  have e2 : (sg b.start.length fun j => smS a (a.start.length + j)) = sg b.start.length fun _ => 0 := zma fun k _ => (zlp (b := b) k).1
  rw [e1, e2, zsi, Rat.add_zero]
 ·rcases zio hi with h | ⟨k, hk, rfl⟩
  ·right
   rcases ha.step h with h1 | ⟨h1, h2⟩
   ·have hne : ∃ k, k < b.start.length ∧ 0 < stQ b k := Classical.byContradiction fun hn => by
     have h5 : sg b.start.length (stQ b) = sg b.start.length fun _ => 0 := zma fun k hk => by
      refine Rat.le_antisymm (Rat.not_lt.1 fun h6 => hn ⟨k, hk, h6⟩) (pb.st_lim hk).1
     rw [pb.st_sum, zsi] at h5
     exact absurd h5 (by decide +kernel)
    obtain ⟨k, hk, h6⟩ := hne
    refine ⟨a.start.length + k, by omega, by omega, ?_⟩
    rw [smR_ab h]
    exact Rat.mul_pos h1 h6
   ·exact ⟨i + 1, by omega, by omega, by rw [smR_aa h h1]; exact h2⟩
  ·rcases hb.step hk with h1 | ⟨h1, h2⟩
   ·left; rw [(zlp k).2]; exact h1
   ·right
    exact ⟨a.start.length + (k + 1), by omega, by omega, by rw [smR_bb]; exact h2⟩
theorem zsp {B : Nat} {q : Rat} (h : over 840 B q) : over 6720 (B * 8) q := over.scale (m := 8) (by decide) h
theorem sum_sm (ha : zch 2 a) (hb : zch 2 b) : SmL 6720 40320 (zno a b) := by
 refine fn_sm (fun i j hi hj => ?_) fun i hi => ?_
 ·rcases zio hi with h | ⟨k, hk, rfl⟩
  ·rcases zio hj with h2 | ⟨t, ht, rfl⟩
   ·rw [smR_aa h h2]; exact zsp (ha.sm.r i j h h2)
   ·rw [smR_ab h]; exact over.mul (ha.sm.e i h) (hb.start8 ht)
  ·rcases zio hj with h2 | ⟨t, ht, rfl⟩
   ·rw [smR_ba k h2]; exact over.zero _ _
   ·rw [smR_bb]; exact zsp (hb.sm.r k t hk ht)
 ·rcases zio hi with h | ⟨k, hk, rfl⟩
  ·rw [(zqp h).2]; exact over.zero _ _
  ·rw [(zlp k).2]; exact zsp (hb.sm.e k hk)
theorem sum_st (ha : zch 2 a) {i : Nat} (hi : i < (zno a b).start.length) : over 8 (2 ^ 13) (stQ (zno a b) i) := by
 rw [show (zno a b).start.length = a.start.length + b.start.length from zjo] at hi
 rw [show stQ (zno a b) i = smS a i from fn_st hi]
 rcases zio hi with h | ⟨k, hk, rfl⟩
 ·rw [(zqp (b := b) h).1]; exact start13 ha h
 ·rw [(zlp (b := b) k).1]; exact over.zero _ _
theorem sum_mom (ha : zch 2 a) (hb : zch 2 b) : MomP (zno a b) 1 1 ∧ MomP (zno a b) 2 2 :=
 zto (zap ha hb) (sum_sm ha hb) (by decide) (by decide) (by decide) (by decide) (DS := 8) (by decide) (by decide) fun i hi => sum_st ha hi
theorem sum_mid (ha : zch 2 a) (hb : zch 2 b) : mid (zfo (zno a b) 1) ∧ mid (zfo (zno a b) 2) :=
 mom_mid (zap ha hb) (sum_sm ha hb) (by decide) (by decide) (by decide) (by decide) (DS := 8) (by decide) (by decide) fun i hi => sum_st ha hi
theorem tape_mid (ha : zch 2 a) : mid (zfo a 1) ∧ mid (zfo a 2) :=
 mom_mid (ha.law (by decide)) ha.sm (by decide) (by decide) (by decide) (by decide) (DS := 8) (by decide) (by decide) fun i hi => start13 ha hi
end
section
variable {a b : LQ} {p : Rat} {D : Nat}
theorem mix_law (ha : zch 2 a) (hb : zch 2 b) (hD : D ≠ 0) (hD2 : D ≤ 256) (hp : over D 256 p) (h0 : 0 ≤ p) (h1 : p ≤ 1) : zxb (mixL a b p) := by
 have pa := ha.law (by decide)
 have pb := hb.law (by decide)
 have n1 := pa.n1
 have m1 := pb.n1
 obtain ⟨h4, _⟩ := lenN ha hb
 have hq : over D (256 + 256) (1 - p) := over.sub hD ((over.one hD).mono hD2) hp
 have hq0 : 0 ≤ 1 - p := by grind
 have hD8 : D * 8 ≠ 0 := by omega
 have hD9 : D * 8 < 2 ^ 32 := Nat.lt_of_le_of_lt (Nat.mul_le_mul_right 8 hD2) (by decide)
 refine fn_law (by omega) h4 (fun i hi => ?_) (fun i hi => ?_) (fun i j hi hj => ?_) (fun i hi => ?_) ?_ fun i hi => ?_
 ·rcases zio hi with h | ⟨k, hk, rfl⟩
  ·rw [(mx_lt h).1]
   exact lim_over hD8 (over.mul hp (ha.start8 h)) (Rat.mul_nonneg h0 (pa.st_lim h).1) hD9 (by decide)
  ·rw [(mx_ge k).1]
   exact lim_over hD8 (over.mul hq (hb.start8 hk)) (Rat.mul_nonneg hq0 (pb.st_lim hk).1) hD9 (by decide)
 ·rcases zio hi with h | ⟨k, hk, rfl⟩
  ·rw [(mx_lt (p := p) h).2]; exact pa.ex_lim h
  ·rw [(mx_ge (p := p) k).2]; exact pb.ex_lim hk
 ·rcases zio hi with h | ⟨k, hk, rfl⟩
  ·rcases zio hj with h2 | ⟨t, ht, rfl⟩
   ·rw [mxR_aa h h2]; exact pa.rt_lim h h2
   ·rw [mxR_ab h]; exact zfi
  ·rcases zio hj with h2 | ⟨t, ht, rfl⟩
   ·rw [mxR_ba k h2]; exact zfi
   ·rw [mxR_bb]; exact pb.rt_lim hk ht
 ·rcases zio hi with h | ⟨k, hk, rfl⟩
  ·rw [mxR_aa h h]; exact pa.rt_diag h
  ·rw [mxR_bb]; exact pb.rt_diag hk
 ·rw [zbn]
  have e1 : sg a.start.length (mxS a b p) = p := by
   have e : sg a.start.length (mxS a b p) = sg a.start.length fun i => p * stQ a i := zma fun i hi => (mx_lt hi).1
   rw [e, zcb, pa.st_sum, Rat.mul_one]
  have e2 : (sg b.start.length fun j => mxS a b p (a.start.length + j)) = 1 - p := by
   have e : (sg b.start.length fun j => mxS a b p (a.start.length + j)) = sg b.start.length fun k => (1 - p) * stQ b k := zma fun k _ => (mx_ge k).1
   rw [e, zcb, pb.st_sum, Rat.mul_one]
  rw [e1, e2]
  grind
 ·rcases zio hi with h | ⟨k, hk, rfl⟩
  ·rcases ha.step h with h1 | ⟨h1, h2⟩
   ·left; rw [(mx_lt (p := p) h).2]; exact h1
   ·right; exact ⟨i + 1, by omega, by omega, by rw [mxR_aa h h1]; exact h2⟩
  ·rcases hb.step hk with h1 | ⟨h1, h2⟩
   ·left; rw [(mx_ge (p := p) k).2]; exact h1
   ·right; exact ⟨a.start.length + (k + 1), by omega, by omega, by rw [mxR_bb]; exact h2⟩
theorem mix_sm (ha : zch 2 a) (hb : zch 2 b) : SmL 840 5040 (mixL a b p) := by
 refine fn_sm (fun i j hi hj => ?_) fun i hi => ?_
 ·rcases zio hi with h | ⟨k, hk, rfl⟩
  ·rcases zio hj with h2 | ⟨t, ht, rfl⟩
   ·rw [mxR_aa h h2]; exact ha.sm.r i j h h2
   ·rw [mxR_ab h]; exact over.zero _ _
  ·rcases zio hj with h2 | ⟨t, ht, rfl⟩
   ·rw [mxR_ba k h2]; exact over.zero _ _
   ·rw [mxR_bb]; exact hb.sm.r k t hk ht
 ·rcases zio hi with h | ⟨k, hk, rfl⟩
  ·rw [(mx_lt (p := p) h).2]; exact ha.sm.e i h
  ·rw [(mx_ge (p := p) k).2]; exact hb.sm.e k hk
theorem mix_st (ha : zch 2 a) (hb : zch 2 b) (hD : D ≠ 0) (hD2 : D ≤ 256) (hp : over D 256 p) {i : Nat} (hi : i < (mixL a b p).start.length) : over (D * 8) (2 ^ 13) (stQ (mixL a b p) i) := by
 rw [show (mixL a b p).start.length = a.start.length + b.start.length from zjo] at hi
 rw [show stQ (mixL a b p) i = mxS a b p i from fn_st hi]
 have hq : over D (256 + 256) (1 - p) := over.sub hD ((over.one hD).mono hD2) hp
 rcases zio hi with h | ⟨k, hk, rfl⟩
 ·rw [(mx_lt h).1]; exact (over.mul hp (ha.start8 h)).mono (by decide)
 ·rw [(mx_ge k).1]; exact (over.mul hq (hb.start8 hk)).mono (by decide)
theorem mix_mom (ha : zch 2 a) (hb : zch 2 b) (hD : D ≠ 0) (hD2 : D ≤ 256) (hp : over D 256 p) (h0 : 0 ≤ p) (h1 : p ≤ 1) : MomP (mixL a b p) 1 1 :=
 (zto (mix_law ha hb hD hD2 hp h0 h1) (mix_sm ha hb) (by decide) (by decide) (by decide) (by decide) (DS := D * 8) (by omega) (Nat.le_trans (Nat.mul_le_mul_right 8 hD2) (by decide)) fun i hi => mix_st ha hb hD hD2 hp hi).1
theorem fir_law (ha : zch 2 a) (hb : zch 2 b) : zxb (firL a b) := by
 have pa := ha.law (by decide)
 have pb := hb.law (by decide)
 obtain ⟨_, h4⟩ := lenN ha hb
 refine fn_law (Nat.mul_pos (by have := pa.n1; omega) (by have := pb.n1; omega)) h4 (fun r hr => ?_) (fun r hr => ?_) (fun r c hr hc => ?_) (fun r hr => zyn r) ?_ fun r hr => ?_
 ·obtain ⟨r1, r2⟩ := zjj pb hr
  exact lim_over (by decide) (over.mul (ha.start8 r1) (hb.start8 r2)) (Rat.mul_nonneg (pa.st_lim r1).1 (pb.st_lim r2).1) (by decide) (by decide)
 ·obtain ⟨r1, r2⟩ := zjj pb hr
  exact lim_over (by decide) (over.add (by decide) (ha.sm.e _ r1) (hb.sm.e _ r2)) (Rat.add_nonneg (pa.ex_lim r1).1 (pb.ex_lim r2).1) (by decide) (by decide)
 ·obtain ⟨r1, r2⟩ := zjj pb hr
  obtain ⟨c1, c2⟩ := zjj pb hc
  unfold bfr
  split
  ·exact zfi
  ·split
   ·exact pa.rt_lim r1 c1
   ·split
    ·exact pb.rt_lim r2 c2
    ·exact zfi
 ·have h := fir_sum (a := a) (b := b) (x := fun _ => 1) pb
  rw [← zzo] at h
  rw [h]
  have e : (sg a.start.length fun i => sg b.start.length fun j => stQ a i * stQ b j * 1) = sg a.start.length fun i => stQ a i * 1 := zma fun i hi => by
   rw [← pb.st_sum, ← zcb]
   exact zma fun j _ => by rw [pb.st_sum, Rat.mul_one]
  rw [e, ← zzo]
  exact pa.st_sum
 ·obtain ⟨r1, r2⟩ := zjj pb hr
  rcases ha.step r1 with h1 | ⟨h1, h2⟩
  ·left
   have h3 := (pb.ex_lim r2).1
   show 0 < exQ a (r / b.start.length) + exQ b (r % b.start.length)
   grind
  ·right
   have hm : b.start.length * 1 ≤ b.start.length := by omega
   have e0 : r / b.start.length * b.start.length + r % b.start.length = r := at_eq
   have e1 : (r / b.start.length + 1) * b.start.length = r / b.start.length * b.start.length + b.start.length := Nat.succ_mul _ _
   have hb1 := pb.n1
   refine ⟨(r / b.start.length + 1) * b.start.length + r % b.start.length, by omega, zao h1 r2, ?_⟩
   unfold bfr
   rw [if_neg (by omega), zbe r2, zyf r2, if_pos rfl]
   exact h2
theorem fir_sm (ha : zch 2 a) (hb : zch 2 b) : SmL 840 10080 (firL a b) := by
 have pb := hb.law (by decide)
 refine fn_sm (fun r c hr hc => ?_) fun r hr => ?_
 ·obtain ⟨r1, r2⟩ := zjj pb hr
  obtain ⟨c1, c2⟩ := zjj pb hc
  unfold bfr
  split
  ·exact over.zero _ _
  ·split
   ·exact (ha.sm.r _ _ r1 c1).mono (by decide)
   ·split
    ·exact (hb.sm.r _ _ r2 c2).mono (by decide)
    ·exact over.zero _ _
 ·obtain ⟨r1, r2⟩ := zjj pb hr
  exact over.add (by decide) (ha.sm.e _ r1) (hb.sm.e _ r2)
theorem fir_st (ha : zch 2 a) (hb : zch 2 b) {i : Nat} (hi : i < (firL a b).start.length) : over 64 (2 ^ 13) (stQ (firL a b) i) := by
 have pb := hb.law (by decide)
 rw [show (firL a b).start.length = bfN a b from zjo] at hi
 rw [show stQ (firL a b) i = bfS a b i from fn_st hi]
 obtain ⟨r1, r2⟩ := zjj pb hi
 exact (over.mul (ha.start8 r1) (hb.start8 r2)).mono (by decide)
theorem fir_mom (ha : zch 2 a) (hb : zch 2 b) : MomP (firL a b) 1 1 :=
 (zto (fir_law ha hb) (fir_sm ha hb) (by decide) (by decide) (by decide) (by decide) (DS := 64) (by decide) (by decide) fun i hi => fir_st ha hb hi).1
end
end Go.Proofs.YtlpdkbmmbdfoiaaGreat
namespace Go.Proofs.YtlpdkbmmbdfoiaaGreat
open Go.RowKit
theorem append_rowsP {P : Program} (t e : TypeId) (i : TypeInfo) (ht : P.underlying t = some (.slice e)) (hi : P.info? e = some i) (hz : i.zero = some (.slice none 0 0)) (hsize : i.size = 1) (hby : i.bytes = 24)
 (w : World) {ops : Array Oper} {rest : List Oper} {o : Oper} {a : Act} {Q : Exit → Act → World → Prop} (hgd : o.guard = none) (s x : Operand)
 (ho : o.op = .call { callee := .builtin .append, args := #[s, x], argTypes := #[t, t] }) (B : Nat)
 (v : Value) (xs : List Value) (hs : a.eval s = v) (hown : zlc w e B 1 v xs.length xs) (ad : Addr) (m c : Nat) (hxe : a.eval x = .slice (some ad) m c) (news : List Value) (hl : news.length = m)
 (hnews : ∀ j u, news[j]? = some u → w.cell? (ad.add j) = some u) (h1 : ∀ u ∈ news, u.oneCell' = true) (hnn : ∀ c ∈ news, ∀ z, c ≠ .int .u32 z) (hn : xs.length + m ≤ 1000) (hbase : B ≤ w.heap.size)
 (h : ∀ v' w', zlc w' e B 1 v' (xs ++ news).length (xs ++ news) → w.grownBy w' v.ownBlock → zlb w v → (v'.ownBlock = v.ownBlock ∨ v'.ownBlock = some w.heap.size) → zgc v' → wpList P ops Q rest (a.put o.dst v') w') :
 wpList P ops Q (o :: rest) a w := by
 refine wpList_plain hgd fun K hK => ?_
 obtain ⟨v', w', hr, k1, k2, k3, k4⟩ := zwd (P := P) w B t o.type e i _ 1 24 ht hi hz hsize hby rfl (by decide) v xs.length xs hown.own ad m c news (by omega)
  hnews h1 (by simp [maxLen]; omega) (by omega) hbase hown.nl hnn (fun c hc z => by
   have hc2 : c ∈ [Value.slice none 0 0] := hc
   simp at hc2; subst hc2; simp)
 unfold Oper.wp execOp
 simp only [ho, resolve, invoke, builtin, Sem.run_bind, Sem.run_pure, Result.andThen_ok, List.map_toArray, List.map_cons, List.map_nil, hs, hxe, hr]
 have hR : zlc w' e B 1 v' (xs.length + m) (xs ++ news) := ⟨k1, k4⟩
 exact hK _ _ (h v' w' (by rw [List.length_append, hl]; exact hR) k2 hown.nl k3 hR.sl)
theorem zlc.lit2 {w : World} {e : TypeId} {b : Nat} {x1 y1 : Option Addr} {x2 x3 y2 y3 : Nat} (hb : w.heap.size = b) : zlc (w.alloc (.cells #[.slice x1 x2 x3, .slice y1 y2 y3] e)) e b 1 (.slice (some ⟨b, 0, none⟩) 2 2) 2 [.slice x1 x2 x3, .slice y1 y2 y3] := by
 subst hb
 refine ⟨⟨rfl, .inr ⟨_, 2, #[.slice x1 x2 x3, .slice y1 y2 y3], rfl, Nat.le_refl _, heap_alloc_new w _, Nat.le_refl _, by decide, rfl, rfl⟩⟩, ?_⟩
 intro g hg cur e' fz hc c hcc z
 simp only [Value.ownBlock, Option.some.injEq] at hg
 subst hg
 rw [heap_alloc_new w _] at hc
 injection hc with hc
 injection hc with hc _
 subst hc
 simp at hcc
 rcases hcc with rfl | rfl <;> simp
theorem MatC.news {w : World} {v : Value} {m : List (List Rat)} (h : MatC w v m) : ∃ news : List Value, news.length = m.length ∧ (∀ j u, news[j]? = some u → w.cell? (ptr v j) = some u) ∧ (∀ u ∈ news, u.oneCell' = true) ∧ (∀ u ∈ news, ∀ z, u ≠ .int .u32 z) ∧ ∀ j (hj : j < news.length) (hj' : j < m.length), zbb w news[j] m[j] := by
 have key : ∀ j (hj : j < ((List.range m.length).map fun j => (w.cell? (ptr v j)).getD undef).length) (hj' : j < m.length), ∃ r, ((List.range m.length).map fun j => (w.cell? (ptr v j)).getD undef)[j] = r ∧ w.cell? (ptr v j) = some r ∧ zbb w r m[j] := fun j hj hj' => by
  obtain ⟨r, h1, h2⟩ := h.at' j hj'
  exact ⟨r, by simp [h1], h1, h2⟩
 have one : ∀ u ∈ (List.range m.length).map fun j => (w.cell? (ptr v j)).getD undef, ∃ q, zbb w u q := fun u hu => by
  obtain ⟨j, hj, e⟩ := List.getElem_of_mem hu
  obtain ⟨r, h1, h2, h3⟩ := key j hj (by simpa using hj)
  exact ⟨_, by rw [← e, h1]; exact h3⟩
 refine ⟨(List.range m.length).map fun j => (w.cell? (ptr v j)).getD undef, by simp, fun j u hu => ?_, fun u hu => ?_, fun u hu z => ?_, fun j hj hj' => ?_⟩
 ·obtain ⟨hj, e⟩ := List.getElem?_eq_some_iff.1 hu
  obtain ⟨r, h1, h2, h3⟩ := key j hj (by simpa using hj)
  rw [h2, ← e, h1]
 ·obtain ⟨q, hq⟩ := one u hu
  obtain ⟨a1, a2, a3, rfl, _⟩ := hq.sl
  rfl
 ·obtain ⟨q, hq⟩ := one u hu
  obtain ⟨a1, a2, a3, rfl, _⟩ := hq.sl
  simp
 ·obtain ⟨r, h1, h2, h3⟩ := key j hj hj'
  rw [h1]; exact h3
theorem chk_rows {w : World} {sv ev : Value} {l : LQ} {news : List Value} (hs : zbb w sv l.start) (he : zbb w ev l.exit) (hl : zxb l) (hn : news.length = l.rates.length) (hr : ∀ j (hj : j < news.length) (hj' : j < l.rates.length), zbb w news[j] l.rates[j]) :
 ∀ i (h : i < ([sv, ev] ++ news).length), ∃ q : List Rat, zbb w ([sv, ev] ++ news)[i] q ∧ (∀ x ∈ q, zvg x) ∧ q.length ≤ 4 := by
 intro i h
 match i, h with
 | 0, h => exact ⟨l.start, hs, hl.st, hl.n4⟩
 | 1, h => exact ⟨l.exit, he, hl.ex, by rw [hl.el]; exact hl.n4⟩
 | i + 2, h =>
   have h1 : i < news.length := by simp at h; omega
   have h2 : i < l.rates.length := by omega
   have e : ([sv, ev] ++ news)[i + 2] = news[i] := by simp
   rw [e]
   obtain ⟨k1, k2, _⟩ := hl.row i h2
   exact ⟨l.rates[i], hr i h1 h2, k2, by rw [k1]; exact hl.n4⟩
theorem law_box2 (w : World) (t : TypeId) (x0 x1 x2 x3 y0 y1 y2 y3 : Value) : C4 ((w.alloc (.cells #[x0, x1, x2, x3] t)).alloc (.cells #[y0, y1, y2, y3] t)) w.heap.size x0 x1 x2 x3 ∧ C4 ((w.alloc (.cells #[x0, x1, x2, x3] t)).alloc (.cells #[y0, y1, y2, y3] t)) (w.heap.size + 1) y0 y1 y2 y3 ∧
 Below w.heap.size w ((w.alloc (.cells #[x0, x1, x2, x3] t)).alloc (.cells #[y0, y1, y2, y3] t)) := by
 have hba := zca w (.cells #[x0, x1, x2, x3] t)
 have hbb := zca (w.alloc (.cells #[x0, x1, x2, x3] t)) (.cells #[y0, y1, y2, y3] t)
 have hz1 : (w.alloc (.cells #[x0, x1, x2, x3] t)).heap.size = w.heap.size + 1 := by show (w.heap.push _).size = _; rw [Array.size_push]
 have h2 := C4.new (w.alloc (.cells #[x0, x1, x2, x3] t)) t y0 y1 y2 y3
 rw [hz1] at h2
 exact ⟨(C4.new w t x0 x1 x2 x3).belowS hbb, h2, zaa hba hbb⟩
set_option maxRecDepth 100000 in
set_option maxHeartbeats 6400000 in
theorem pchecked_ok (va : Value) (l : LQ) (w : World) (ha : zgm w va l) (hla : zxb l) : Calls Tryz.prog 104 #[va] w (fun e w' => e = .returned (.tuple #[va, .int .i64 0]) ∧ Below w.heap.size w w') := by
 obtain ⟨i4, hi4, hz4, hs4, hy4⟩ := info_parts Tryz.infoRow
 have hAR := fun (w : World) {ops : Array Oper} {rest : List Oper} {o : Oper} {a : Act} {Q : Exit → Act → World → Prop} => append_rowsP (P := Tryz.prog) 24 25 i4 Tryz.underlying24 hi4 hz4 hs4 hy4 w (ops := ops) (rest := rest) (o := o) (a := a) (Q := Q)
 clear hi4 hz4 hs4 hy4
 obtain ⟨svA, rvA, evA, rfl, hsA, hrA, heA⟩ := ha
 obtain ⟨saA, snA, skA, rfl, -⟩ := id hsA.sl
 obtain ⟨raA, rnA, rkA, rfl, hra⟩ := id hrA.sl
 obtain ⟨eaA, enA, ekA, rfl, -⟩ := id heA.sl
 have hrn : rnA = l.rates.length := hrA.len
 have hrn4 : rnA ≤ 4 := by rw [hrn, hla.rl]; exact hla.n4
 have hrn1 : 1 ≤ rnA := by rw [hrn, hla.rl]; exact hla.n1
 obtain ⟨ad, rfl⟩ : ∃ ad, raA = some ad := by
  cases raA with
  | none => obtain ⟨_, _, h3⟩ := hra; have := h3 rfl; omega
  | some ad => exact ⟨ad, rfl⟩
 obtain ⟨hc1, hc2, hbw⟩ := law_box2 w 52 (.string { data := #[] }) (.slice saA snA skA) (.slice (some ad) rnA rkA) (.slice eaA enA ekA) (.string { data := #[] }) (.slice none 0 0) (.slice none 0 0) (.slice none 0 0)
 have HC1 := zH hc1
 have HC2 := zH hc2
 have HBW := zH hbw
 have HSA := zH (hsA.below hbw)
 have HRA := zH (hrA.below hbw)
 have HEA := zH (heA.below hbw)
 have HLA := zH hla
 have HRN := zH hrn
 have ssA := hsA.sl
 have srA := hrA.sl
 have seA := heA.sl
 clear hc1 hc2 hbw hsA hrA heA hla hrn hra
 go_enter Tryz.func104, Tryz.ntmps104
 go_upto_region 1 with fail
 generalize (w.alloc (.cells #[.string { data := #[] }, .slice saA snA skA, .slice (some ad) rnA rkA, .slice eaA enA ekA] 52)).alloc (.cells #[.string { data := #[] }, .slice none 0 0, .slice none 0 0, .slice none 0 0] 52) = W2 at *
 have hbx := zca W2 (.cells #[.slice saA snA skA, .slice eaA enA ekA] 25)
 obtain ⟨news, hnl, hnc, hn1, hnn, hnr⟩ := HRA.out.news
 have HROWS := zH (chk_rows HSA.out HEA.out HLA.out hnl hnr)
 have HNL : Hid (news.length = rnA) := zH (hnl.trans HRN.out.symm)
 have hncx : ∀ j u, news[j]? = some u → (W2.alloc (.cells #[.slice saA snA skA, .slice eaA enA ekA] 25)).cell? (ad.add j) = some u := fun j u hu => by
  have h := zba hbx (hnc j u hu)
  simpa only [ptr, base] using h
 clear hnl
 obtain ⟨-, c0, c1, c2, c3, -, -, -, -⟩ := HC1.out
 obtain ⟨-, x0, x1, x2, x3, -, -, -, -⟩ := HC1.out.belowS hbx
 go_wp2_with (first
  |(at_builtin; refine hAR _ rfl _ _ rfl W2.heap.size _ [.slice saA snA skA, .slice eaA enA ekA] rfl (zlc.lit2 rfl) ad rnA rkA rfl news HNL.out hncx hn1 hnn (by simp; omega) hbx.size ?_; intro v5 w5 ho5 hg5 hn5 hq5 sv5
    have hbg := zid (B := W2.heap.size) hg5 hbx.size (zlc.lit2 (w := W2) rfl).block
    have HB5 := zH (hbx.trans hbg)
    have HO5 := zH ho5
    have HLV : Hid (slen v5 = ([Value.slice saA snA skA, Value.slice eaA enA ekA] ++ news).length) := zH ho5.len
    clear hbg hg5 hn5 hq5 ho5 c0 c1 c2 c3 x0 x1 x2 x3))
 obtain ⟨p1, M, p3, rfl, _⟩ := id sv5
 have hM : M = ([Value.slice saA snA skA, Value.slice eaA enA ekA] ++ news).length := HLV.out
 have hM6 : M ≤ 6 := by rw [hM, List.length_append, HNL.out]; simp; omega
 have HMM := zH hM
 clear hM HLV hbx hnc hn1 hnn hnr hncx
 obtain ⟨W5, hW5⟩ : ∃ w, w = w5 := ⟨_, rfl⟩
 subst hW5
 go_loopg [17] (M) (fun g u17 wr => ∃ (i : Nat), i ≤ M ∧ g = M - i ∧ u17 = .int .i64 i ∧ Below W5.heap.size W5 wr)
 case atStart => exact ⟨0, Nat.zero_le _, rfl, rfl, Below.refl _ _⟩
 case round =>
  obtain ⟨i, hin, hg, rfl, hbr⟩ := hrel
  obtain ⟨wx, hwx⟩ : ∃ w6, w6 = wr := ⟨_, rfl⟩
  subst hwx
  have HG := zH hg
  have HBR := zH hbr
  clear hg hbr
  by_cases hil : i < M
  ·have i1 : (0 : Int) ≤ (i : Int) := by omega
   have i2 : (i : Int) < (M : Nat) := by omega
   have hil2 : i < ([Value.slice saA snA skA, Value.slice eaA enA ekA] ++ news).length := by rw [← HMM.out]; exact hil
   obtain ⟨q, hq, hlim, hq4⟩ := HROWS.out i hil2
   have hcell := zba HBR.out (HO5.out.cell i hil2)
   obtain ⟨row, hrow⟩ : ∃ r, ([Value.slice saA snA skA, Value.slice eaA enA ekA] ++ news)[i] = r := ⟨_, rfl⟩
   rw [hrow] at hq hcell
   obtain ⟨o1, o2, o3, rfl, _⟩ := id hq.sl
   have srow := hq.sl
   have ho2 : o2 = q.length := hq.len
   have HQ := zH (hq.below HB5.out)
   have HLIM := zH hlim
   have HO2 := zH ho2
   have ho4 : o2 ≤ 4 := by omega
   clear hq hlim ho2 hrow hil2
   go_wp2_with fail
   clear hcell
   go_loopg [23] (o2) (fun g u23 wr => ∃ (j : Nat), j ≤ o2 ∧ g = o2 - j ∧ u23 = .int .i64 j ∧ Below W5.heap.size W5 wr)
   case atStart => exact ⟨0, Nat.zero_le _, rfl, rfl, HBR.out⟩
   case round =>
    obtain ⟨j, hjn, hgj, rfl, hbr⟩ := hrel
    obtain ⟨wy, hwy⟩ : ∃ w6, w6 = wr := ⟨_, rfl⟩
    subst hwy
    have HGJ := zH hgj
    have HBY := zH hbr
    clear hgj hbr
    by_cases hjl : j < o2
    ·have j1 : (0 : Int) ≤ (j : Int) := by omega
     have j2 : (j : Int) < (o2 : Nat) := by omega
     have hjq : j < q.length := by rw [← HO2.out]; exact hjl
     obtain ⟨ts, as1, ls1, ks1, as2, ls2, ks2, g1, g2, g3, hfs⟩ := (HQ.out.below HBY.out).cellsAt (k := j) hjq
     have hlq : zvg (q.getD j 0) := by
      rw [List.getD_eq_getElem?_getD, List.getElem?_eq_getElem hjq]
      exact HLIM.out _ (List.getElem_mem hjq)
     obtain ⟨x, hx⟩ : ∃ x, q.getD j 0 = x := ⟨_, rfl⟩
     rw [hx] at hfs hlq
     obtain ⟨y1, y2, hy, n1, n2⟩ := id hfs
     have hb9 := zca wy (.cells #[.bool ts, .slice as1 ls1 ks1, .slice as2 ls2 ks2] 38)
     injection hy with hy
     simp at hy
     obtain ⟨-, rfl, rfl⟩ := hy
     have HN1 := zH (n1.below hb9).nat
     have HN2 := zH (n2.below hb9).nat
     have HC9 := zH (C3.new wy 38 (.bool ts) (.slice as1 ls1 ks1) (.slice as2 ls2 ks2))
     have HB9 := zH (zaa HBY.out hb9)
     have hn1 : decide ((32 : Int) < ((zua x.num.natAbs : Nat) : Int)) = false := decide_eq_false (by have := hlq.2.1; omega)
     have hn2 : decide ((32 : Int) < ((zua x.den : Nat) : Int)) = false := decide_eq_false (by have := hlq.2.2; omega)
     clear hfs n1 n2 hb9 hx hlq
     go_upto_region 7 with fail
     clear g1 g2 g3
     obtain ⟨b9, hb9⟩ : ∃ b, wy.heap.size = b := ⟨_, rfl⟩
     rw [hb9] at HC9 ⊢
     clear hb9
     generalize wy.alloc (.cells #[.bool ts, .slice as1 ls1 ks1, .slice as2 ls2 ks2] 38) = W9 at *
     obtain ⟨_, c0, c1, c2, _, _, _⟩ := HC9.out
     go_wp2_with (first
      |(go_at_call 156; (with_reducible refine (zva _ x.num.natAbs _ HN1.out).mono ?_); rintro e4 w4 ⟨rfl, rfl⟩)
      |(go_at_call 156; (with_reducible refine (zva _ x.den _ HN2.out).mono ?_); rintro e5 w5 ⟨rfl, rfl⟩))
     go_roundg (o2 - (j + 1))
     case measure => (have := HGJ.out; omega)
     case rel => exact ⟨j + 1, by omega, rfl, by go_num, HB9.out⟩
    ·obtain rfl : j = o2 := by omega
     go_wp2_with fail
     go_roundg (M - (i + 1))
     case measure => (have := HG.out; omega)
     case rel => exact ⟨i + 1, by omega, rfl, by go_num, HBY.out⟩
  ·obtain rfl : i = M := by omega
   have HBX := zH (zaa HB5.out HBR.out)
   have HTX := zH (HC2.out.belowS HBX.out)
   have HBZ := zH (zaa HBW.out HBX.out)
   obtain ⟨-, c0, c1, c2, c3, -, -, -, -⟩ := HC1.out.belowS HBX.out
   obtain ⟨-, d0, d1, d2, d3, f0, f1, f2, f3⟩ := HTX.out
   go_wp2_with fail
   refine zzd rfl rfl Tryz.aggL Tryz.sizeL (HTX.out.set _ _ _ _) rfl ?_
   exact ⟨rfl, zqd HBZ.out (Nat.le_succ _) _ _ _ _⟩
theorem zqn : zgc (.slice none 0 0) := ⟨none, 0, 0, rfl, Nat.le_refl _, by simp [maxLen], fun _ => rfl⟩
set_option maxRecDepth 100000 in
set_option maxHeartbeats 3200000 in
theorem zig (va : Value) (s : Bool) (a d : Nat) (w : World) (ha : zdc w va s a d) : Calls Tryz.prog 26 #[va] w (RErl w 1 s a d) := by
 obtain ⟨x0, y0, rfl, h1, h2⟩ := id ha
 obtain ⟨a11, l11, k11, rfl, _⟩ := h1.slen.1
 obtain ⟨a12, l12, k12, rfl, _⟩ := h2.slen.1
 have hb1 := zca w (.cells #[.bool s, .slice a11 l11 k11, .slice a12 l12 k12] 38)
 have hb2 := zca (w.alloc (.cells #[.bool s, .slice a11 l11 k11, .slice a12 l12 k12] 38)) (.cells #[.string { data := #[] }, .slice none 0 0, .slice none 0 0, .slice none 0 0] 52)
 have HB := zH (zaa hb1 hb2)
 have HC := zH ((C3.new w 38 (.bool s) (.slice a11 l11 k11) (.slice a12 l12 k12)).belowS hb2)
 have HT := zH (C4.new (w.alloc (.cells #[.bool s, .slice a11 l11 k11, .slice a12 l12 k12] 38)) 52 (.string { data := #[] }) (.slice none 0 0) (.slice none 0 0) (.slice none 0 0))
 have HA := zH ((ha.below hb1).below hb2)
 have htb : (w.alloc (.cells #[.bool s, .slice a11 l11 k11, .slice a12 l12 k12] 38)).heap.size = w.heap.size + 1 := by show (w.heap.push _).size = _; rw [Array.size_push]
 rw [htb] at HT
 clear ha h1 h2 hb1 hb2 htb
 go_enter Tryz.func26, Tryz.ntmps26
 go_upto_region 1 with fail
 generalize (w.alloc (.cells #[.bool s, .slice a11 l11 k11, .slice a12 l12 k12] 38)).alloc (.cells #[.string { data := #[] }, .slice none 0 0, .slice none 0 0, .slice none 0 0] 52) = W2 at *
 obtain ⟨_, c0, c1, c2, _, _, _⟩ := HC.out
 go_wp2_with (go_at_call 28; (with_reducible refine (zop 1 _ s a d _ HA.out).mono ?_); rintro e3 w3 ⟨v, er, rfl, hb3, k1, k2, k3⟩
              have hv : ∃ x1 x2 x3 x4, v = .agg #[x1, x2, x3, x4] := (by
               by_cases hr : zuh s a d
               ·obtain ⟨_, h5⟩ := k3 ⟨by omega, by omega⟩ hr
                obtain ⟨y1, y2, y3, e, _⟩ := h5.lawE
                exact ⟨_, _, _, _, e⟩
               ·exact ⟨_, _, _, _, (k2 ⟨by omega, by omega⟩ hr).2⟩)
              obtain ⟨x1, x2, x3, x4, rfl⟩ := hv
              have hs : zgc x2 ∧ zgc x3 ∧ zgc x4 ∧ x1 = .string { data := #[] } := (by
               by_cases hr : zuh s a d
               ·obtain ⟨_, h5⟩ := k3 ⟨by omega, by omega⟩ hr
                obtain ⟨y1, y2, y3, e, e1, e2, e3⟩ := h5.lawE
                injection e with e
                injection e with e
                simp only [List.cons.injEq, and_true] at e
                obtain ⟨rfl, rfl, rfl, rfl⟩ := e
                exact ⟨e1.sl, e2.sl, e3.sl, rfl⟩
               ·have e := (k2 ⟨by omega, by omega⟩ hr).2
                unfold zah at e
                injection e with e
                injection e with e
                simp only [List.cons.injEq, and_true] at e
                obtain ⟨rfl, rfl, rfl, rfl⟩ := e
                exact ⟨zqn, zqn, zqn, rfl⟩)
              obtain ⟨⟨p1, p2, p3, rfl, _⟩, ⟨q1, q2, q3, rfl, _⟩, ⟨r1, r2, r3, rfl, _⟩, rfl⟩ := hs
              have HK2 := zH k2
              have HK3 := zH k3
              have HT3 := zH (HT.out.belowS hb3)
              have HB3 := zH (zqd (zaa HB.out hb3) (Nat.le_succ w.heap.size) (.string { data := #[] }) (.slice p1 p2 p3) (.slice q1 q2 q3) (.slice r1 r2 r3))
              obtain ⟨_, d0, d1, d2, d3, f0, f1, f2, f3⟩ := HT3.out
              clear hb3 k1 k2 k3 c0 c1 c2)
 refine zzd rfl rfl Tryz.aggL Tryz.sizeL (HT3.out.set _ _ _ _) rfl ?_
 refine ⟨_, er, rfl, HB3.out, fun h => absurd (by omega) h, HK2.out, fun h hr => ?_⟩
 obtain ⟨h0, h5⟩ := HK3.out h hr
 exact ⟨h0, (h5.set4 HT3.out (fun z => by simp) (fun z => by simp) (fun z => by simp) _ _ _ _).mono HB.out.size⟩
end Go.Proofs.YtlpdkbmmbdfoiaaGreat
