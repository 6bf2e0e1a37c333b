/-
  package drydockref05, of raw fractions: vector, Shape, Weights, add, mul.
  Ahead of it: package drydockref02: Order, Same, Sign of any fractions. package drydockref02: Sum. package drydockref05: Weight. Package drydockref21: plain. package drydockref02: Mul of any fractions whose product is not large.
-/
import Derived.Test.YtbhkibilnmoljaaGreatQLi10
import Derived.Test.YtbhkibilnmoljaaGreatQLp2
import Derived.Test.YtbhkibilnmoljaaGreatQRb8
import Derived.Deep.CutRange
import Derived.Deep.DeepCutAuto
import Derived.Deep.LoopGhost
namespace Go.Proofs.YtbhkibilnmoljaaGreat
set_option linter.unusedVariables false
set_option linter.unusedSimpArgs false
open Go.RowKit

theorem cmpN_swap (a b : Nat) : cmpN b a = -cmpN a b := by
  unfold cmpN
  rcases Nat.lt_trichotomy a b with h | h | h
  · rw [if_neg (by omega), if_pos h, if_pos h]; rfl
  · subst h; rw [if_neg (by omega), if_neg (by omega)]; rfl
  · rw [if_pos h, if_neg (by omega), if_pos h]
theorem nlen_prod {n e : Nat} (he : e ≠ 0) : (n = 0 → nlen (n * e) = 0) ∧ (n ≠ 0 → 0 < nlen (n * e)) :=
  ⟨fun h => nlen_eq_zero.2 (by rw [h, Nat.zero_mul]), fun h => nlen_pos_iff.2 (Nat.mul_ne_zero h he)⟩
set_option maxRecDepth 100000 in
set_option maxHeartbeats 1600000 in
theorem r2order_any (va vb : Value) (s t : Bool) (n d m e : Nat) (w : World) (ha : FracN w va s n d) (hb : FracN w vb t m e) (h1 : okN n d) (h2 : okN m e) :
    Calls Tryz.prog 72 #[va, vb] w fun en w' => en = .returned (.int .i64 (cmpR (fq s n d) (fq t m e))) ∧ Below w.heap.size w w' := by
  obtain ⟨xn, xd, rfl, hxn, hxd⟩ := ha
  obtain ⟨yn, yd, rfl, hyn, hyd⟩ := hb
  obtain ⟨an, ln, kn, rfl, _⟩ := hxn.slen.1
  obtain ⟨ad, ld, kd, rfl, _⟩ := hxd.slen.1
  obtain ⟨am, lm, km, rfl, _⟩ := hyn.slen.1
  obtain ⟨ae, le, ke, rfl, _⟩ := hyd.slen.1
  have l1 := Lib.hid (okN_nlen h1)
  have l2 := Lib.hid (okN_nlen h2)
  have z1 := nlen_prod (n := n) h2.1
  have z2 := nlen_prod (n := m) h1.1
  have HR := Lib.hid (cmpR_eq s t n d m e h1.1 h2.1)
  have HSW := Lib.hid (cmpN_swap (n * e) (m * d))
  clear h1 h2
  obtain ⟨L1, hL1⟩ : ∃ L, nlen (n * e) = L := ⟨_, rfl⟩
  obtain ⟨L2, hL2⟩ : ∃ L, nlen (m * d) = L := ⟨_, rfl⟩
  rw [hL1] at z1
  rw [hL2] at z2
  have HL1 := Lib.hid hL1
  have HL2 := Lib.hid hL2
  have hX : (s = false) ∨ (s = true ∧ n = 0 ∧ L1 = 0) ∨ (s = true ∧ n ≠ 0 ∧ 0 < L1) := by
    cases s
    · exact Or.inl rfl
    · by_cases h : n = 0
      · exact Or.inr (Or.inl ⟨rfl, h, z1.1 h⟩)
      · exact Or.inr (Or.inr ⟨rfl, h, z1.2 h⟩)
  have hY : (t = false) ∨ (t = true ∧ m = 0 ∧ L2 = 0) ∨ (t = true ∧ m ≠ 0 ∧ 0 < L2) := by
    cases t
    · exact Or.inl rfl
    · by_cases h : m = 0
      · exact Or.inr (Or.inl ⟨rfl, h, z2.1 h⟩)
      · exact Or.inr (Or.inr ⟨rfl, h, z2.2 h⟩)
  have HX0 := Lib.hid hX
  have HY0 := Lib.hid hY
  clear hL1 hL2 z1 z2 hX hY
  go_enter Tryz.func72, Tryz.ntmps72
  go_wp2_with fail
  obtain ⟨W, hW⟩ : ∃ W, W = ((w.alloc (.cells #[.bool s, .slice an ln kn, .slice ad ld kd] 25)).alloc (.cells #[.bool t, .slice am lm km, .slice ae le ke] 25)) := ⟨_, rfl⟩
  obtain ⟨bx, byy, hbw⟩ := two_boxes w 25 _ _ _ _ _ _ W hW
  rw [← hW]
  clear hW
  have hd2 := below_drew (B := W.heap.size) W
  have hD := below_then hbw hd2
  have hbx3 := bx.belowS hd2
  have hby3 := byy.belowS hd2
  have HX3 := Lib.hid hbx3
  have HY3 := Lib.hid hby3
  obtain ⟨_, q1, q2, q3, q4, q5, q6⟩ := hbx3
  obtain ⟨_, r1, r2, r3, r4, r5, r6⟩ := hby3
  have g1 := hxn.below hD
  have g2 := hxd.below hD
  have g3 := hyn.below hD
  have g4 := hyd.below hD
  clear bx byy hd2
  have tok1 : True := trivial
  go_region_held3 (fun w' => w'.cell? ⟨w.heap.size, 1, none⟩ = some (.slice an ln kn) ∧ w'.cell? ⟨w.heap.size, 2, none⟩ = some (.slice ad ld kd) ∧ w'.cell? ⟨w.heap.size + 1, 1, none⟩ = some (.slice am lm km) ∧ w'.cell? ⟨w.heap.size + 1, 2, none⟩ = some (.slice ae le ke)) (exact ⟨q2, q3, r2, r3⟩) (first
    | (go_at_call 74; have _t := tok1; clear tok1 _t; (with_reducible refine (r2times_any _ _ n e _ g1 g4 l1.out.1 l2.out.2).mono ?_); rintro e9 w3 ⟨p1, rfl, hp1, hp2⟩
       have X4 := HX3.out.belowS hp2
       have Y4 := HY3.out.belowS hp2
       have HX4 := Lib.hid X4
       have HY4 := Lib.hid Y4
       obtain ⟨_, q1, q2, q3, q4, q5, q6⟩ := X4
       obtain ⟨_, r1, r2, r3, r4, r5, r6⟩ := Y4)
    | (go_at_call 74; (with_reducible refine (r2times_any _ _ m d _ (g3.below hp2) (g2.below hp2) l2.out.1 l1.out.2).mono ?_); rintro e9 w4 ⟨p3, rfl, hp3, hp4⟩
       have hp24 := below_then hp2 hp4
       have hp14 := hp1.below hp4
       have X5 := HX4.out.belowS hp4
       have Y5 := HY4.out.belowS hp4
       have HX5 := Lib.hid X5
       have HY5 := Lib.hid Y5
       obtain ⟨_, q1, q2, q3, q4, q5, q6⟩ := X5
       obtain ⟨_, r1, r2, r3, r4, r5, r6⟩ := Y5))
  have hdw : Below w.heap.size w w4 := hD.trans (hp24.mono hD.size)
  have HP1 := Lib.hid hp14
  have HP3 := Lib.hid hp3
  have sp1 := hp14.v.sl
  have lp1 : slen p1 = L1 := hp14.v.len.trans HL1.out
  have sp3 := hp3.v.sl
  have lp3 : slen p3 = L2 := hp3.v.len.trans HL2.out
  have k1 := HX5.out.c0
  have k2 := HY5.out.c0
  clear hp24 hp14 hp1 hp3 hp2 hp4 hD g1 g2 g3 g4 HX3 HY3 HX4 HY4 q1 q2 q3 q4 q5 q6 r1 r2 r3 r4 r5 r6 hbw
  rcases HX0.out with rfl | ⟨rfl, hn0, hl0⟩ | ⟨rfl, hn0, hl0⟩ <;> rcases HY0.out with rfl | ⟨rfl, hm0, hk0⟩ | ⟨rfl, hm0, hk0⟩ <;> (
    try subst hl0
    try subst hk0
    clear HX0 HY0
    go_wp2_with (go_at_call 82; first
      | ((with_reducible refine (rcmp_any p1 p3 (n * e) (m * d) _ HP1.out.nat HP3.out.nat).mono ?_); rintro e9 w9 ⟨rfl, hb9⟩; have hdw := below_then hdw hb9)
      | ((with_reducible refine (rcmp_any p3 p1 (m * d) (n * e) _ HP3.out.nat HP1.out.nat).mono ?_); rintro e9 w9 ⟨rfl, hb9⟩; rw [HSW.out]; have hdw := below_then hdw hb9))
    all_goals
      go_ret
      exact ⟨by rw [HR.out]; simp [*], hdw⟩)
theorem cmpR_beq (p q : Rat) : (cmpR p q == 0) = decide (p = q) := by
  have := cmpR_self_iff p q
  by_cases h : p = q
  · rw [decide_eq_true h, this.2 h]; rfl
  · rw [decide_eq_false h]
    have h2 : cmpR p q ≠ 0 := fun e => h (this.1 e)
    simpa using h2
set_option maxHeartbeats 800000 in
theorem r2sign_any (va : Value) (s : Bool) (n d : Nat) (w : World) (ha : FracN w va s n d) (h1 : okN n d) :
    Calls Tryz.prog 49 #[va] w fun en w' => en = .returned (.int .i64 (cmpR (fq s n d) 0)) ∧ Below w.heap.size w w' := by
  have hA := ha
  obtain ⟨xn, xd, rfl, hxn, hxd⟩ := ha
  obtain ⟨an, ln, kn, rfl, _⟩ := hxn.slen.1
  obtain ⟨ad, ld, kd, rfl, _⟩ := hxd.slen.1
  have K1 := Lib.hid h1
  have K0 : Hid (okN (0 : Rat).num.natAbs (0 : Rat).den) := Lib.hid (by decide +kernel)
  have HE : Hid (cmpR (fq s n d) (fq false 0 1) = cmpR (fq s n d) 0) := Lib.hid (by rw [show fq false 0 1 = 0 from fq_zero false 1 (by decide)])
  clear h1
  go_enter Tryz.func49, Tryz.ntmps49
  go_wp2_with fail
  have bx := C3.new w 25 (.bool s) (.slice an ln kn) (.slice ad ld kd)
  have hbx := below_alloc w (.cells #[.bool s, .slice an ln kn, .slice ad ld kd] 25)
  generalize hW : w.alloc (.cells #[.bool s, .slice an ln kn, .slice ad ld kd] 25) = W at *
  clear hW
  have hd2 := below_drew (B := W.heap.size) W
  have hD := below_then hbx hd2
  have hbx3 := bx.belowS hd2
  have HX3 := Lib.hid hbx3
  obtain ⟨_, q1, q2, q3, q4, q5, q6⟩ := hbx3
  clear bx hd2
  go_region_held3 (fun w' => w'.cell? ⟨w.heap.size, 0, none⟩ = some (.bool s) ∧ w'.cell? ⟨w.heap.size, 1, none⟩ = some (.slice an ln kn) ∧ w'.cell? ⟨w.heap.size, 2, none⟩ = some (.slice ad ld kd)) (exact ⟨q1, q2, q3⟩) (first
    | (go_at_call 35; (with_reducible refine (r2int_zero _).mono ?_); rintro e9 w3 ⟨v3, rfl, hv3, hb3⟩
       obtain ⟨_, q1, q2, q3, q4, q5, q6⟩ := HX3.out.belowS hb3)
    | (go_at_call 72; (with_reducible refine (r2order_any _ _ s _ n d _ _ _ ((hA.below hD).below hb3) hv3.raw K1.out K0.out).mono ?_); rintro e9 w4 ⟨rfl, hb4⟩
       obtain ⟨_, q1, q2, q3, q4, q5, q6⟩ := HX3.out.belowS (below_then hb3 hb4)))
  go_wp2
  go_ret
  exact ⟨by rw [← HE.out]; rfl, below_then (below_then hD hb3) hb4⟩
end Go.Proofs.YtbhkibilnmoljaaGreat
namespace Go.Proofs.YtbhkibilnmoljaaGreat
set_option linter.unusedVariables false
set_option linter.unusedSimpArgs false
open Go.RowKit

theorem keep6w {w0 X Y : World} {a1 a2 a3 a4 a5 a6 : Addr} {x1 x2 x3 x4 x5 x6 : Value} (h : X.cell? a1 = some x1 ∧ X.cell? a2 = some x2 ∧ X.cell? a3 = some x3 ∧ X.cell? a4 = some x4 ∧ X.cell? a5 = some x5 ∧ X.cell? a6 = some x6 ∧ Below w0.heap.size w0 X) (hb : Below X.heap.size X Y) :
    Y.cell? a1 = some x1 ∧ Y.cell? a2 = some x2 ∧ Y.cell? a3 = some x3 ∧ Y.cell? a4 = some x4 ∧ Y.cell? a5 = some x5 ∧ Y.cell? a6 = some x6 ∧ Below w0.heap.size w0 Y := by
  obtain ⟨k1, k2, k3, k4, k5, k6, k7⟩ := h
  exact ⟨cell_below hb k1, cell_below hb k2, cell_below hb k3, cell_below hb k4, cell_below hb k5, cell_below hb k6, below_then k7 hb⟩
theorem keep6a {w0 X : World} {a1 a2 a3 a4 a5 a6 : Addr} {x1 x2 x3 x4 x5 x6 : Value} (h : w0.cell? a1 = some x1 ∧ w0.cell? a2 = some x2 ∧ w0.cell? a3 = some x3 ∧ w0.cell? a4 = some x4 ∧ w0.cell? a5 = some x5 ∧ w0.cell? a6 = some x6) (hb : Below w0.heap.size w0 X) :
    X.cell? a1 = some x1 ∧ X.cell? a2 = some x2 ∧ X.cell? a3 = some x3 ∧ X.cell? a4 = some x4 ∧ X.cell? a5 = some x5 ∧ X.cell? a6 = some x6 ∧ Below w0.heap.size w0 X := by
  obtain ⟨k1, k2, k3, k4, k5, k6⟩ := h
  exact ⟨cell_below hb k1, cell_below hb k2, cell_below hb k3, cell_below hb k4, cell_below hb k5, cell_below hb k6, hb⟩
theorem keep6c {w0 X : World} {a1 a2 a3 a4 a5 a6 : Addr} {x1 x2 x3 x4 x5 x6 : Value} (h : X.cell? a1 = some x1 ∧ X.cell? a2 = some x2 ∧ X.cell? a3 = some x3 ∧ X.cell? a4 = some x4 ∧ X.cell? a5 = some x5 ∧ X.cell? a6 = some x6 ∧ Below w0.heap.size w0 X) : Below w0.heap.size w0 X := h.2.2.2.2.2.2
theorem keep6s {w0 X : World} {a1 a2 a3 a4 a5 a6 : Addr} {x1 x2 x3 x4 x5 x6 : Value} (h : w0.cell? a1 = some x1 ∧ w0.cell? a2 = some x2 ∧ w0.cell? a3 = some x3 ∧ w0.cell? a4 = some x4 ∧ w0.cell? a5 = some x5 ∧ w0.cell? a6 = some x6) (hb : Below w0.heap.size w0 X) {b : Nat} (hB : w0.heap.size ≤ b) (x y z : Value) :
    (((X.setCell ⟨b, 0, none⟩ x).setCell ⟨b, 1, none⟩ y).setCell ⟨b, 2, none⟩ z).cell? a1 = some x1 ∧ (((X.setCell ⟨b, 0, none⟩ x).setCell ⟨b, 1, none⟩ y).setCell ⟨b, 2, none⟩ z).cell? a2 = some x2 ∧ (((X.setCell ⟨b, 0, none⟩ x).setCell ⟨b, 1, none⟩ y).setCell ⟨b, 2, none⟩ z).cell? a3 = some x3 ∧
    (((X.setCell ⟨b, 0, none⟩ x).setCell ⟨b, 1, none⟩ y).setCell ⟨b, 2, none⟩ z).cell? a4 = some x4 ∧ (((X.setCell ⟨b, 0, none⟩ x).setCell ⟨b, 1, none⟩ y).setCell ⟨b, 2, none⟩ z).cell? a5 = some x5 ∧ (((X.setCell ⟨b, 0, none⟩ x).setCell ⟨b, 1, none⟩ y).setCell ⟨b, 2, none⟩ z).cell? a6 = some x6 ∧ Below w0.heap.size w0 (((X.setCell ⟨b, 0, none⟩ x).setCell ⟨b, 1, none⟩ y).setCell ⟨b, 2, none⟩ z) :=
  keep6a h (below_set3 hb hB x y z)
/-- Add, where the sum fits. -/
theorem r2add_acc (va vb : Value) (p r : Rat) (x : RF) (w : World) (ha : FracC w va p) (hb : FracN w vb x.neg x.n x.d) (hp : fits p) (hx : okN x.n x.d) (hr : p + x.q = r) (hf : fits r) :
    Calls Tryz.prog 59 #[va, vb] w (RF0 w r) := by
  refine (r2add_any va vb _ _ _ _ _ _ w ha.raw hb (fits_okN hp) hx).mono ?_
  rw [fq_self, show p + fq x.neg x.n x.d = r from hr]
  rintro e w' ⟨v, er, rfl, h1, h2, _⟩
  obtain ⟨rfl, h3⟩ := h2 hf
  exact ⟨v, rfl, h3, h1⟩
end Go.Proofs.YtbhkibilnmoljaaGreat
namespace Go.Proofs.YtbhkibilnmoljaaGreat
set_option linter.unusedVariables false
set_option linter.unusedSimpArgs false
open Go.RowKit

@[go_sem] theorem slen_lit2 (a : Option Addr) (n c : Nat) : slen (.slice a n c) = n := rfl
theorem r2reduce_ok (va : Value) (x : RF) (w : World) (ha : FracN w va x.neg x.n x.d) (hx : x.ok) : Calls Tryz.prog 27 #[va] w (RF0 w x.q) :=
  (r2reduce_any va x.neg x.n x.d w ha).mono fun e w' h => by
    obtain ⟨v, er, rfl, h1, h2, _⟩ := h
    obtain ⟨rfl, h3⟩ := h2 hx
    exact ⟨v, rfl, h3, h1⟩
/-- The first limb of a denominator of one limb. -/
theorem den_one {d : Nat} (h : nlen d = 1) : d < 4294967296 ∧ ∀ (wx : World) (g : Value), NatC wx g d → wx.cell? (ptr g 0) = some (.int .u32 d) := by
  have h0 : d ≠ 0 := nlen_pos_iff.1 (by omega)
  have hb : d < 4294967296 := by have := nlen_le.1 (Nat.le_of_eq h); simpa [pw] using this
  refine ⟨hb, fun wx g hg => ?_⟩
  have h1 := hg.v
  have e : limbs d = [d] := by rw [limbs_pos h0, Nat.mod_eq_of_lt hb, Nat.div_eq_of_lt hb, limbs_zero]
  rw [e] at h1
  exact h1.cell 0 (by simp)
set_option maxRecDepth 100000 in
set_option maxHeartbeats 3200000 in
theorem rweight_any (va : Value) (l : List RF) (w : World) (ha : FracsN w va l) (hok : ∀ x ∈ l, x.ok) (hl : l.length ≤ 65536) :
    Calls Tryz.prog 25 #[va] w fun e w' => e = .returned (.int .i64 (wts (qs l) : Nat)) ∧ Below w.heap.size w w' := by
  have sa := ha.sl
  have la := ha.len
  have HOK := Lib.hid hok
  clear hok
  go_enter Tryz.func25, Tryz.ntmps25
  go_wp2_with fail
  go_loopw [3, 4] (fun u3 u4 wr => ∃ (k : Nat), k ≤ l.length ∧ u4 = .int .i64 k ∧ u3 = .int .i64 (wts (qs (l.take k)) : Nat) ∧ Below w.heap.size w wr) (fun _ u4 _ => l.length - (intOf u4).toNat)
  case atStart => exact ⟨0, Nat.zero_le _, rfl, by simp [qs, wts], Below.refl _ _⟩
  case round =>
    obtain ⟨k, hk, rfl, rfl, hbr⟩ := hrel
    by_cases hkl : k < l.length
    · obtain ⟨xa, xb, c1, c2, c3, hxa, hxb⟩ := (ha.below hbr).at' k hkl
      obtain ⟨c1a, c1l, c1k, rfl, _⟩ := hxa.slen.1
      obtain ⟨c2a, c2l, c2k, rfl, _⟩ := hxb.slen.1
      have HX := Lib.hid (HOK.out l[k] (List.getElem_mem hkl))
      have HTS := Lib.hid (wts_qs l k hkl)
      have hWj : wts (qs (l.take k)) ≤ 8192 * 65536 := by
        have h1 := wts_le (l.take k) (fun x h => HOK.out x (List.mem_of_mem_take h))
        rw [List.length_take] at h1; omega
      generalize l[k]'hkl = x at *
      generalize wts (qs (l.take k)) = W1 at *
      have HA : Hid (FracN wr (.agg #[.bool x.neg, .slice c1a c1l c1k, .slice c2a c2l c2k]) x.neg x.n x.d) := Lib.hid ⟨_, _, rfl, hxa, hxb⟩
      obtain ⟨hf1, hf2⟩ := RF.fits HX.out
      have hn0 := nbits_pos (n := x.q.num.natAbs)
      have hd0 := x.q.den_nz
      have hlp := nlen_pos_iff (d := x.q.num.natAbs)
      have hld := nlen_pos_iff (d := x.q.den)
      have HONE := Lib.hid (den_one (d := x.q.den))
      obtain ⟨bn, hbn⟩ : ∃ bn, nbits x.q.num.natAbs = bn := ⟨_, rfl⟩
      obtain ⟨bd, hbd⟩ : ∃ bd, nbits x.q.den = bd := ⟨_, rfl⟩
      obtain ⟨ln, hln⟩ : ∃ ln, nlen x.q.num.natAbs = ln := ⟨_, rfl⟩
      obtain ⟨ld, hld2⟩ : ∃ ld, nlen x.q.den = ld := ⟨_, rfl⟩
      rw [hbn] at hf1 hn0
      rw [hbd] at hf2
      rw [hln] at hlp
      rw [hld2] at hld
      have HBN := Lib.hid hbn
      have HBD := Lib.hid hbd
      have HLN := Lib.hid hln
      have HLD := Lib.hid hld2
      have hld0 : 0 < ld := hld.2 hd0
      have i1 : (0 : Int) ≤ (k : Int) := by omega
      have i2 : (k : Int) < (l.length : Nat) := by omega
      clear hbn hbd hln hld2 hxa hxb hld
      by_cases hz : x.q.num = 0
      · have hbz : bn = 0 := by have := hn0.1; omega
        have hlz : ln = 0 := by have := hlp.1; omega
        have HW := Lib.hid (wt_zero hz)
        have hlq : ¬ 0 < ln := by omega
        have HB0 := Lib.hid hbz
        clear hz hn0 hd0 hlp hlz hbz
        go_wp2_with (first
          | (go_at_call 27; (with_reducible refine (r2reduce_ok _ x _ HA.out HX.out).mono ?_); rintro e w7 ⟨v, rfl, hv, hb7⟩
             obtain ⟨xa2, xb2, rfl, hxa2, hxb2⟩ := hv
             obtain ⟨y1, y2, y3, rfl, _⟩ := id hxa2.v.sl
             obtain ⟨y4, y5, y6, rfl, _⟩ := id hxb2.v.sl
             have e2 : y2 = _ := hxa2.v.len.trans HLN.out
             have e5 : y5 = _ := hxb2.v.len.trans HLD.out
             subst e2 e5
             have hb9 := below_alloc w7 (.cells #[.bool (decide (x.q < 0)), .slice y1 y2 y3, .slice y4 y5 y6] 25)
             have hC9 := C3.new w7 25 (.bool (decide (x.q < 0))) (.slice y1 y2 y3) (.slice y4 y5 y6)
             have HC9 := Lib.hid hC9
             have HXA := Lib.hid (hxa2.below hb9)
             have HXB := Lib.hid (hxb2.below hb9)
             have sB := hxb2.v.sl
             have hb8 := below_then (below_then hbr hb7) hb9
             obtain ⟨_, f0, f1, f2, _, _, _⟩ := id hC9
             clear hC9 hxa2 hxb2 hb9)
          | (go_at_call 47; first
             | ((with_reducible refine (rbits_any _ _ _ HXA.out.nat).mono ?_); rintro e w8 ⟨rfl, hb10⟩; rw [HBN.out]
                have hb8 := below_then hb8 hb10
                have HXB := Lib.hid (HXB.out.below hb10)
                skip
                obtain ⟨_, f0, f1, f2, _, _, _⟩ := HC9.out.belowS hb10)
             | ((with_reducible refine (rbits_any _ _ _ HXB.out.nat).mono ?_); rintro e w9 ⟨rfl, hb11⟩; rw [HBD.out]
                have hb8 := below_then hb8 hb11)))
        go_roundw
        case rel => exact ⟨k + 1, hkl, by go_num, by rw [HTS.out, HW.out, HB0.out]; go_num, hb8⟩
        case measure => simp [intOf]; omega
      · have hbz : 0 < bn := hn0.2 (by omega)
        have hlz : 0 < ln := hlp.2 (by omega)
        by_cases hd : x.q.den = 1
        · have HW := Lib.hid (wt_int hz hd)
          have hl1 : ld = 1 := by rw [← HLD.out, hd]; decide +kernel
          have HC1 := Lib.hid (HONE.out (by rw [HLD.out]; exact hl1))
          have HDE : Hid (∀ (wx : World) (g : Value), NatC wx g x.q.den → wx.cell? (ptr g 0) = some (.int .u32 (1 : Nat))) := Lib.hid (fun wx g h => by have := HC1.out.2 wx g h; rwa [hd] at this)
          have hlq : ¬ 1 < ld := by omega
          clear hz hn0 hd0 hlp hd hl1
          go_wp2_with (first
            | (go_at_call 27; (with_reducible refine (r2reduce_ok _ x _ HA.out HX.out).mono ?_); rintro e w7 ⟨v, rfl, hv, hb7⟩
               obtain ⟨xa2, xb2, rfl, hxa2, hxb2⟩ := hv
               obtain ⟨y1, y2, y3, rfl, _⟩ := id hxa2.v.sl
               obtain ⟨y4, y5, y6, rfl, _⟩ := id hxb2.v.sl
               have e2 : y2 = _ := hxa2.v.len.trans HLN.out
               have e5 : y5 = _ := hxb2.v.len.trans HLD.out
               subst e2 e5
               have hb9 := below_alloc w7 (.cells #[.bool (decide (x.q < 0)), .slice y1 y2 y3, .slice y4 y5 y6] 25)
               have hC9 := C3.new w7 25 (.bool (decide (x.q < 0))) (.slice y1 y2 y3) (.slice y4 y5 y6)
               have HC9 := Lib.hid hC9
               have HXA := Lib.hid (hxa2.below hb9)
               have HXB := Lib.hid (hxb2.below hb9)
               have sB := hxb2.v.sl
               have hb8 := below_then (below_then hbr hb7) hb9
               obtain ⟨_, f0, f1, f2, _, _, _⟩ := id hC9
               clear hC9 hxa2 hxb2 hb9)
            | (go_at_call 47; first
               | ((with_reducible refine (rbits_any _ _ _ HXA.out.nat).mono ?_); rintro e w8 ⟨rfl, hb10⟩; rw [HBN.out]
                  have hb8 := below_then hb8 hb10
                  have HXB := Lib.hid (HXB.out.below hb10)
                  have hden := HDE.out _ _ HXB.out
                  obtain ⟨_, f0, f1, f2, _, _, _⟩ := HC9.out.belowS hb10)
               | ((with_reducible refine (rbits_any _ _ _ HXB.out.nat).mono ?_); rintro e w9 ⟨rfl, hb11⟩; rw [HBD.out]
                  have hb8 := below_then hb8 hb11)))
          go_roundw
          case rel => exact ⟨k + 1, hkl, by go_num, by rw [HTS.out, HW.out, HBN.out]; go_num, hb8⟩
          case measure => simp [intOf]; omega
        · have HW := Lib.hid (wt_frac hz hd)
          by_cases hl1 : ld = 1
          · have HC1 := Lib.hid (HONE.out (by rw [HLD.out]; exact hl1))
            obtain ⟨dn, hdn⟩ : ∃ dn, x.q.den = dn := ⟨_, rfl⟩
            have hd2 : 1 < dn := by omega
            have hd3 : dn < 4294967296 := by have := HC1.out.1; omega
            have HDE : Hid (∀ (wx : World) (g : Value), NatC wx g x.q.den → wx.cell? (ptr g 0) = some (.int .u32 dn)) := Lib.hid (fun wx g h => by have := HC1.out.2 wx g h; rwa [hdn] at this)
            have hlq : ¬ 1 < ld := by omega
            clear hz hn0 hd0 hlp hd hdn hl1
            go_wp2_with (first
              | (go_at_call 27; (with_reducible refine (r2reduce_ok _ x _ HA.out HX.out).mono ?_); rintro e w7 ⟨v, rfl, hv, hb7⟩
                 obtain ⟨xa2, xb2, rfl, hxa2, hxb2⟩ := hv
                 obtain ⟨y1, y2, y3, rfl, _⟩ := id hxa2.v.sl
                 obtain ⟨y4, y5, y6, rfl, _⟩ := id hxb2.v.sl
                 have e2 : y2 = _ := hxa2.v.len.trans HLN.out
                 have e5 : y5 = _ := hxb2.v.len.trans HLD.out
                 subst e2 e5
                 have hb9 := below_alloc w7 (.cells #[.bool (decide (x.q < 0)), .slice y1 y2 y3, .slice y4 y5 y6] 25)
                 have hC9 := C3.new w7 25 (.bool (decide (x.q < 0))) (.slice y1 y2 y3) (.slice y4 y5 y6)
                 have HC9 := Lib.hid hC9
                 have HXA := Lib.hid (hxa2.below hb9)
                 have HXB := Lib.hid (hxb2.below hb9)
                 have sB := hxb2.v.sl
                 have hb8 := below_then (below_then hbr hb7) hb9
                 obtain ⟨_, f0, f1, f2, _, _, _⟩ := id hC9
                 clear hC9 hxa2 hxb2 hb9)
              | (go_at_call 47; first
                 | ((with_reducible refine (rbits_any _ _ _ HXA.out.nat).mono ?_); rintro e w8 ⟨rfl, hb10⟩; rw [HBN.out]
                    have hb8 := below_then hb8 hb10
                    have HXB := Lib.hid (HXB.out.below hb10)
                    have hden := HDE.out _ _ HXB.out
                    obtain ⟨_, f0, f1, f2, _, _, _⟩ := HC9.out.belowS hb10)
                 | ((with_reducible refine (rbits_any _ _ _ HXB.out.nat).mono ?_); rintro e w9 ⟨rfl, hb11⟩; rw [HBD.out]
                    have hb8 := below_then hb8 hb11)))
            go_roundw
            case rel => exact ⟨k + 1, hkl, by go_num, by rw [HTS.out, HW.out, HBN.out, HBD.out]; go_num, hb8⟩
            case measure => simp [intOf]; omega
          · have hl2 : 1 < ld := by omega
            clear hz hn0 hd0 hlp hd
            go_wp2_with (first
              | (go_at_call 27; (with_reducible refine (r2reduce_ok _ x _ HA.out HX.out).mono ?_); rintro e w7 ⟨v, rfl, hv, hb7⟩
                 obtain ⟨xa2, xb2, rfl, hxa2, hxb2⟩ := hv
                 obtain ⟨y1, y2, y3, rfl, _⟩ := id hxa2.v.sl
                 obtain ⟨y4, y5, y6, rfl, _⟩ := id hxb2.v.sl
                 have e2 : y2 = _ := hxa2.v.len.trans HLN.out
                 have e5 : y5 = _ := hxb2.v.len.trans HLD.out
                 subst e2 e5
                 have hb9 := below_alloc w7 (.cells #[.bool (decide (x.q < 0)), .slice y1 y2 y3, .slice y4 y5 y6] 25)
                 have hC9 := C3.new w7 25 (.bool (decide (x.q < 0))) (.slice y1 y2 y3) (.slice y4 y5 y6)
                 have HC9 := Lib.hid hC9
                 have HXA := Lib.hid (hxa2.below hb9)
                 have HXB := Lib.hid (hxb2.below hb9)
                 have sB := hxb2.v.sl
                 have hb8 := below_then (below_then hbr hb7) hb9
                 obtain ⟨_, f0, f1, f2, _, _, _⟩ := id hC9
                 clear hC9 hxa2 hxb2 hb9)
              | (go_at_call 47; first
                 | ((with_reducible refine (rbits_any _ _ _ HXA.out.nat).mono ?_); rintro e w8 ⟨rfl, hb10⟩; rw [HBN.out]
                    have hb8 := below_then hb8 hb10
                    have HXB := Lib.hid (HXB.out.below hb10)
                    skip
                    obtain ⟨_, f0, f1, f2, _, _, _⟩ := HC9.out.belowS hb10)
                 | ((with_reducible refine (rbits_any _ _ _ HXB.out.nat).mono ?_); rintro e w9 ⟨rfl, hb11⟩; rw [HBD.out]
                    have hb8 := below_then hb8 hb11)))
            go_roundw
            case rel => exact ⟨k + 1, hkl, by go_num, by rw [HTS.out, HW.out, HBN.out, HBD.out]; go_num, hb8⟩
            case measure => simp [intOf]; omega
    · obtain rfl : k = l.length := by omega
      rw [List.take_length] at *
      go_wp2_with fail
      go_ret
      exact ⟨rfl, hbr⟩
end Go.Proofs.YtbhkibilnmoljaaGreat
namespace Go.Proofs.YtbhkibilnmoljaaGreat
set_option linter.unusedVariables false
set_option linter.unusedSimpArgs false
open Go.RowKit

set_option maxHeartbeats 1600000 in
theorem r2mul_raw (va vb : Value) (s t : Bool) (n d m e : Nat) (w : World) (ha : FracN w va s n d) (hb : FracN w vb t m e) (hp : okN n d) (hq : okN m e) (hf : fits (fq s n d * fq t m e)) : Calls Tryz.prog 60 #[va, vb] w (RF0 w (fq s n d * fq t m e)) := by
  obtain ⟨a1, a2, rfl, n1, n2⟩ := id ha
  obtain ⟨b1, b2, rfl, m1, m2⟩ := id hb
  obtain ⟨x1, y1, z1, rfl, _⟩ := id n1.slen.1
  obtain ⟨x2, y2, z2, rfl, _⟩ := id n2.slen.1
  obtain ⟨x3, y3, z3, rfl, _⟩ := id m1.slen.1
  obtain ⟨x4, y4, z4, rfl, _⟩ := id m2.slen.1
  have k1 := below_alloc w (.cells #[.bool s, .slice x1 y1 z1, .slice x2 y2 z2] 25)
  have k2 := below_alloc (w.alloc (.cells #[.bool s, .slice x1 y1 z1, .slice x2 y2 z2] 25)) (.cells #[.bool t, .slice x3 y3 z3, .slice x4 y4 z4] 25)
  have k3 := below_alloc ((w.alloc (.cells #[.bool s, .slice x1 y1 z1, .slice x2 y2 z2] 25)).alloc (.cells #[.bool t, .slice x3 y3 z3, .slice x4 y4 z4] 25)) (.cells #[.bool false, .slice none 0 0, .slice none 0 0] 25)
  have H3 := three_boxes w 25 (.bool s) (.slice x1 y1 z1) (.slice x2 y2 z2) (.bool t) (.slice x3 y3 z3) (.slice x4 y4 z4) (.bool false) (.slice none 0 0) (.slice none 0 0) _ rfl
  obtain ⟨hA, hB, hR, hbw⟩ := H3
  have HA := Lib.hid hA
  have HB := Lib.hid hB
  have HR := Lib.hid hR
  have HAP := Lib.hid (ha.below hbw)
  have HBQ := Lib.hid (hb.below hbw)
  have HP := Lib.hid hp
  have HQ := Lib.hid hq
  have HPQ := Lib.hid hf
  have HFQ : Hid (fq s n d * fq t m e = fq (!(s == t)) (n * m) (d * e)) := Lib.hid (by rw [fq_mul]; rfl)
  have HL := Lib.hid (And.intro (okN_nlen hp) (okN_nlen hq))
  obtain ⟨_, c0, c1, c2, _, _, _⟩ := id hA
  obtain ⟨_, d0, d1, d2, _, _, _⟩ := id hB
  clear hA hB hR ha hb n1 n2 m1 m2 hp hq hf k1 k2 k3
  go_enter Tryz.func60, Tryz.ntmps60
  go_upto_region 3 with (first
    | (go_at_call 46; (with_reducible refine (r2valid_ok _ s n d _ HAP.out HP.out).mono ?_); rintro z1' w1 ⟨rfl, hb1⟩
       obtain ⟨_, c0, c1, c2, _, _, _⟩ := HA.out.belowS hb1
       obtain ⟨_, d0, d1, d2, _, _, _⟩ := HB.out.belowS hb1)
    | (go_at_call 46; (with_reducible refine (r2valid_ok _ t m e _ (HBQ.out.below hb1) HQ.out).mono ?_); rintro z2' w2 ⟨rfl, hb2⟩))
  have b12 := below_then hb1 hb2
  have hD := below_drew (B := w2.heap.size) w2
  have b1D := below_then b12 hD
  obtain ⟨_, q1, q2, q3, _, _, _⟩ := HA.out.belowS b1D
  obtain ⟨_, r1, r2, r3, _, _, _⟩ := HB.out.belowS b1D
  have HRD := Lib.hid (HR.out.belowS b1D)
  have HAD := Lib.hid (HAP.out.below b1D)
  have HBD := Lib.hid (HBQ.out.below b1D)
  have hbwD := below_then hbw b1D
  obtain ⟨u1, u2, hu, nA, nB⟩ := HAD.out
  injection hu with hu
  injection hu with hu
  simp only [List.cons.injEq, and_true, true_and] at hu
  obtain ⟨rfl, rfl⟩ := hu
  obtain ⟨u1, u2, hu, mA, mB⟩ := HBD.out
  injection hu with hu
  injection hu with hu
  simp only [List.cons.injEq, and_true, true_and] at hu
  obtain ⟨rfl, rfl⟩ := hu
  have kA : w.heap.size + 1 + 1 ≠ w.heap.size := by omega
  have kB : w.heap.size + 1 + 1 ≠ w.heap.size + 1 := by omega
  have HNN := Lib.hid (And.intro nA (And.intro nB (And.intro mA mB)))
  have HDZ : Hid (d * e ≠ 0) := Lib.hid (Nat.mul_ne_zero HP.out.1 HQ.out.1)
  have HN5 : Hid (nlen (n * m) ≤ 512) := Lib.hid (Nat.le_trans (nlen_mul HL.out.1.1 HL.out.2.1) (by decide))
  have HD5 : Hid (nlen (d * e) ≤ 512) := Lib.hid (Nat.le_trans (nlen_mul HL.out.1.2 HL.out.2.2) (by decide))
  clear nA nB mA mB c0 c1 c2 d0 d1 d2
  go_region_held3 (fun w' => w'.cell? ⟨w.heap.size, 0, none⟩ = some (.bool s) ∧ w'.cell? ⟨w.heap.size, 1, none⟩ = some (.slice x1 y1 z1) ∧ w'.cell? ⟨w.heap.size, 2, none⟩ = some (.slice x2 y2 z2) ∧ w'.cell? ⟨w.heap.size + 1, 0, none⟩ = some (.bool t) ∧ w'.cell? ⟨w.heap.size + 1, 1, none⟩ = some (.slice x3 y3 z3) ∧ w'.cell? ⟨w.heap.size + 1, 2, none⟩ = some (.slice x4 y4 z4)) (first
    | with_reducible exact ⟨q1, q2, q3, r1, r2, r3⟩
    | with_reducible exact keep6b (by assumption) (by assumption)
    | with_reducible exact keep6 (keep6 (keep6 (by assumption) kA kA kA kB kB kB _) kA kA kA kB kB kB _) kA kA kA kB kB kB _) (first
    | (go_at_call 74; (with_reducible refine (r2times_any _ _ n m _ HNN.out.1 HNN.out.2.2.1 HL.out.1.1 HL.out.2.1).mono ?_); rintro z3' w3 ⟨v3, rfl, hv3, hb3⟩)
    | (go_at_call 74; (with_reducible refine (r2times_any _ _ d e _ (HNN.out.2.1.below hb3) (HNN.out.2.2.2.below hb3) HL.out.1.2 HL.out.2.2).mono ?_); rintro z4' w4 ⟨v4, rfl, hv4, hb4⟩)
    | (go_at_call 48; (with_reducible refine (r2lowest_any _ _ _ (n * m) (d * e) _ (hv3.below hb4).nat hv4.nat HDZ.out HN5.out HD5.out).mono ?_); rintro z5' w5 ⟨v5, rfl, hv5, hb5⟩)
    | (go_at_call 73; (with_reducible refine (r2fits_can _ (fq s n d * fq t m e) _ (by (rw [HFQ.out]; exact hv5)) HPQ.out).mono ?_); rintro z6' w6 ⟨v6, rfl, hv6, hb6⟩
       obtain ⟨t9, x9, y9, rfl, ⟨a91, l91, k91, rfl, _⟩, ⟨a92, l92, k92, rfl, _⟩⟩ := hv6.isF
       have HR6 := Lib.hid ((((HRD.out.belowS hb3).belowS hb4).belowS hb5).belowS hb6)
       obtain ⟨_, g0, g1, g2, g3, g4, g5⟩ := HR6.out))
  have hbE := below_then (below_then (below_then (below_then hbwD hb3) hb4) hb5) hb6
  go_wp2_with fail
  refine bodyPost_c3 rfl rfl Tryz.aggF Tryz.sizeF (HR6.out.set _ _ _) rfl ?_
  exact ⟨_, rfl, hv6.set3 HR6.out (fun z => by simp) (fun z => by simp) _ _ _, below_set3 hbE (Nat.le_trans (Nat.le_succ _) (Nat.le_succ _)) _ _ _⟩
end Go.Proofs.YtbhkibilnmoljaaGreat
namespace Go.Proofs.YtbhkibilnmoljaaGreat
set_option linter.unusedVariables false
set_option linter.unusedSimpArgs false
open Go.RowKit

set_option maxRecDepth 100000 in
set_option maxHeartbeats 3200000 in
theorem rvector_any (va : Value) (l : List RF) (n : Nat) (w : World) (ha : FracsN w va l) :
    Calls Tryz.prog 23 #[va, .int .i64 n] w fun e w' => e = .returned (.bool (decide (vecP l n))) ∧ Below w.heap.size w w' := by
  have sa := ha.sl
  have la := ha.len
  have hle := sa.le
  rw [la] at hle
  have hlb : l.length ≤ 9223372036854775807 := by omega
  clear hle
  by_cases hln : l.length = n
  · subst hln
    go_enter Tryz.func23, Tryz.ntmps23
    go_wp2_with fail
    go_loopw [5] (fun u5 wr => ∃ (k : Nat), k ≤ l.length ∧ u5 = .int .i64 k ∧ (∀ x ∈ l.take k, x.ok) ∧ Below w.heap.size w wr) (fun u5 _ => l.length - (intOf u5).toNat)
    case atStart => exact ⟨0, Nat.zero_le _, rfl, fun x h => by simp at h, Below.refl _ _⟩
    case round =>
      obtain ⟨k, hk, rfl, hok, hb⟩ := hrel
      have HOK := Lib.hid hok
      clear hok
      by_cases hkl : k < l.length
      · obtain ⟨xa, xb, c1, c2, c3, hxa, hxb⟩ := (ha.below hb).at' k hkl
        obtain ⟨c1a, c1l, c1k, rfl, _⟩ := hxa.slen.1
        obtain ⟨c2a, c2l, c2k, rfl, _⟩ := hxb.slen.1
        obtain ⟨x, hx⟩ : ∃ x, l[k]'hkl = x := ⟨_, rfl⟩
        rw [hx] at c1 hxa hxb
        have HMEM : Hid (x ∈ l) := Lib.hid (by rw [← hx]; exact List.getElem_mem hkl)
        have HTK : Hid (l.take (k + 1) = l.take k ++ [x]) := Lib.hid (by rw [take_snoc l k hkl, hx])
        have hA : FracN wr (.agg #[.bool x.neg, .slice c1a c1l c1k, .slice c2a c2l c2k]) x.neg x.n x.d := ⟨_, _, rfl, hxa, hxb⟩
        clear hxa hxb hx
        by_cases hko : x.ok
        · have HX : Hid (okN x.n x.d) := Lib.hid hko
          clear hko
          go_wp2_with (go_at_call 46; (with_reducible refine (r2valid_ok _ x.neg x.n x.d _ hA HX.out).mono ?_); rintro e w7 ⟨rfl, hb7⟩)
          go_roundw
          case rel => exact ⟨k + 1, hkl, by go_num, fun y hy => by
            rw [HTK.out] at hy
            rcases List.mem_append.1 hy with h | h
            · exact HOK.out y h
            · have : y = x := by simpa using h
              rw [this]; exact HX.out, below_then hb hb7⟩
          case measure => simp [intOf]; omega
        · have HX : Hid (¬ okN x.n x.d) := Lib.hid hko
          have HBAD : Hid (¬ vecP l l.length) := Lib.hid (fun h => hko (h.1 x HMEM.out))
          clear hko
          go_wp2_with (go_at_call 46; (with_reducible refine (r2valid_no _ x.neg x.n x.d _ hA HX.out).mono ?_); rintro e w7 ⟨rfl, hb7⟩)
          go_ret
          exact ⟨by rw [decide_eq_false HBAD.out]; rfl, below_then hb hb7⟩
      · obtain rfl : k = l.length := by omega
        have HD : Hid (vecP l l.length) := Lib.hid (by
          have h := HOK.out
          rw [List.take_length] at h
          exact ⟨h, rfl⟩)
        go_wp2_with fail
        go_ret
        exact ⟨by rw [decide_eq_true HD.out]; rfl, hb⟩
  · have HBAD : Hid (¬ vecP l n) := Lib.hid (fun h => hln h.2)
    have hne : ((l.length : Int) != (n : Int)) = true := by simp; omega
    clear hln
    go_enter Tryz.func23, Tryz.ntmps23
    go_wp2_with fail
    go_ret
    exact ⟨by rw [decide_eq_false HBAD.out]; rfl, Below.refl _ _⟩
set_option maxRecDepth 100000 in
set_option maxHeartbeats 3200000 in
theorem rweights_any (va : Value) (m : List (List RF)) (w : World) (ha : MatN w va m) (hs : shapeP m) :
    Calls Tryz.prog 24 #[va] w fun e w' => e = .returned (.int .i64 (wtsM m : Nat)) ∧ Below w.heap.size w w' := by
  have sa := ha.sl
  have la := ha.len
  have hml : m.length ≤ 24 := hs.2.1
  have HOK : Hid (∀ l ∈ m, ∀ x ∈ l, x.ok) := Lib.hid fun l hl => (hs.2.2.2.2 l hl).1
  have HL : Hid (∀ l ∈ m, l.length ≤ 65536) := Lib.hid fun l hl => by rw [(hs.2.2.2.2 l hl).2]; have := hs.2.2.2.1; omega
  clear hs
  go_enter Tryz.func24, Tryz.ntmps24
  go_wp2_with fail
  go_loopw [3, 4] (fun u3 u4 wr => ∃ (k : Nat), k ≤ m.length ∧ u4 = .int .i64 k ∧ u3 = .int .i64 (wtsM (m.take k) : Nat) ∧ Below w.heap.size w wr) (fun _ u4 _ => m.length - (intOf u4).toNat)
  case atStart => exact ⟨0, Nat.zero_le _, rfl, rfl, Below.refl _ _⟩
  case round =>
    obtain ⟨k, hk, rfl, rfl, hb⟩ := hrel
    by_cases hkm : k < m.length
    · obtain ⟨rv, hrc, hrv⟩ := (ha.below hb).at' k hkm
      have hW : wtsM (m.take k) ≤ 536870912 * 24 := by
        have h1 := wtsM_le (m.take k) (fun l h => HOK.out l (List.mem_of_mem_take h)) (fun l h => HL.out l (List.mem_of_mem_take h))
        rw [List.length_take] at h1; omega
      have hlk := HL.out m[k] (List.getElem_mem hkm)
      have HOKL := Lib.hid (HOK.out m[k] (List.getElem_mem hkm))
      have hwl := wts_le m[k] HOKL.out
      have HTM := Lib.hid (wtsM_take m k hkm)
      generalize m[k]'hkm = l at *
      generalize wtsM (m.take k) = W0 at *
      obtain ⟨W1, hW1⟩ : ∃ W1, wts (qs l) = W1 := ⟨_, rfl⟩
      rw [hW1] at hwl
      have HW1 := Lib.hid hW1
      have hwl2 : W1 ≤ 8192 * 65536 := Nat.le_trans hwl (Nat.mul_le_mul_left _ hlk)
      have srv := hrv.sl
      clear hW1 hwl
      go_wp2_with (go_at_call 25; (with_reducible refine (rweight_any _ l _ hrv HOKL.out hlk).mono ?_); rw [HW1.out]; rintro e w7 ⟨rfl, hb7⟩)
      go_roundw
      case rel => exact ⟨k + 1, hkm, by go_num, by rw [HTM.out, HW1.out]; go_num, below_then hb hb7⟩
      case measure => simp [intOf]; omega
    · obtain rfl : k = m.length := by omega
      rw [List.take_length]
      go_wp2_with fail
      go_ret
      exact ⟨rfl, hb⟩
set_option maxRecDepth 100000 in
set_option maxHeartbeats 800000 in
theorem r5mul_raw (va vb : Value) (x y : RF) (w : World) (ha : FracN w va x.neg x.n x.d) (hb : FracN w vb y.neg y.n y.d) (hx : x.ok) (hy : y.ok) (hf : fits (x.q * y.q)) : Calls Tryz.prog 37 #[va, vb] w (RF1 w (x.q * y.q)) := by
  obtain ⟨a1, a2, rfl, n1, n2⟩ := id ha
  obtain ⟨b1, b2, rfl, m1, m2⟩ := id hb
  obtain ⟨x1, y1, z1, rfl, _⟩ := id n1.slen.1
  obtain ⟨x2, y2, z2, rfl, _⟩ := id n2.slen.1
  obtain ⟨x3, y3, z3, rfl, _⟩ := id m1.slen.1
  obtain ⟨x4, y4, z4, rfl, _⟩ := id m2.slen.1
  obtain ⟨s, hs⟩ : ∃ s, x.neg = s := ⟨_, rfl⟩
  obtain ⟨t, ht⟩ : ∃ t, y.neg = t := ⟨_, rfl⟩
  have HX : Hid (okN x.n x.d) := Lib.hid hx
  have HY : Hid (okN y.n y.d) := Lib.hid hy
  have HQ : Hid (x.q * y.q = fq s x.n x.d * fq t y.n y.d) := Lib.hid (by unfold RF.q; rw [hs, ht])
  have HF : Hid (fits (fq s x.n x.d * fq t y.n y.d)) := Lib.hid (by rw [← HQ.out]; exact hf)
  rw [hs] at ha ⊢
  rw [ht] at hb ⊢
  clear n1 n2 m1 m2 hx hy hf hs ht
  have k1 := below_alloc w (.cells #[.bool s, .slice x1 y1 z1, .slice x2 y2 z2] 25)
  have H3 := three_boxes w 25 (.bool s) (.slice x1 y1 z1) (.slice x2 y2 z2) (.bool t) (.slice x3 y3 z3) (.slice x4 y4 z4) (.bool false) (.slice none 0 0) (.slice none 0 0) _ rfl
  obtain ⟨hA, hB, hR, hbw⟩ := H3
  have HR := Lib.hid hR
  have HAP := Lib.hid (ha.below hbw)
  have HBQ := Lib.hid (hb.below hbw)
  obtain ⟨_, c0, c1, c2, _, _, _⟩ := id hA
  obtain ⟨_, d0, d1, d2, _, _, _⟩ := id hB
  clear hA hB hR ha hb
  go_enter Tryz.func37, Tryz.ntmps37
  go_wp2_with (go_at_call 60; (with_reducible refine (r2mul_raw _ _ s t x.n x.d y.n y.d _ HAP.out HBQ.out HX.out HY.out HF.out).mono ?_); rintro e6 w6 ⟨v6, rfl, hv6, hb6⟩
               obtain ⟨t9, x9, y9, rfl, ⟨a91, l91, k91, rfl, _⟩, ⟨a92, l92, k92, rfl, _⟩⟩ := hv6.isF
               have hv6 := hv6.below (below_alloc w6 (.cells #[.bool t9, .slice a91 l91 k91, .slice a92 l92 k92] 25))
               have HR6 := Lib.hid ((HR.out.belowS hb6).belowS (below_alloc w6 (.cells #[.bool t9, .slice a91 l91 k91, .slice a92 l92 k92] 25)))
               obtain ⟨_, g0, g1, g2, g3, g4, g5⟩ := HR6.out)
  rw [HQ.out]
  refine bodyPost_c1 rfl rfl Tryz.aggF Tryz.sizeF (HR6.out.set _ _ _) rfl ?_
  exact ⟨_, rfl, hv6.set3 HR6.out (fun z => by simp) (fun z => by simp) _ _ _, below_set3 (below_then (below_then hbw hb6) (below_alloc _ _)) (Nat.le_trans (Nat.le_succ _) (Nat.le_succ _)) _ _ _⟩
set_option maxRecDepth 100000 in
set_option maxHeartbeats 800000 in
theorem r5add_can (va vb : Value) (p q : Rat) (w : World) (ha : FracC w va p) (hb : FracC w vb q) (hp : fits p) (hq : fits q) (hf : fits (p + q)) : Calls Tryz.prog 36 #[va, vb] w (RF1 w (p + q)) := by
  obtain ⟨a1, a2, rfl, n1, n2⟩ := id ha
  obtain ⟨b1, b2, rfl, m1, m2⟩ := id hb
  obtain ⟨x1, y1, z1, rfl, _⟩ := id n1.v.sl
  obtain ⟨x2, y2, z2, rfl, _⟩ := id n2.v.sl
  obtain ⟨x3, y3, z3, rfl, _⟩ := id m1.v.sl
  obtain ⟨x4, y4, z4, rfl, _⟩ := id m2.v.sl
  obtain ⟨s, hs⟩ : ∃ s, decide (p < 0) = s := ⟨_, rfl⟩
  obtain ⟨t, ht⟩ : ∃ t, decide (q < 0) = t := ⟨_, rfl⟩
  have HX := Lib.hid hp
  have HY := Lib.hid hq
  have HF := Lib.hid hf
  rw [hs] at ha ⊢
  rw [ht] at hb ⊢
  clear n1 n2 m1 m2 hp hq hf hs ht
  have k1 := below_alloc w (.cells #[.bool s, .slice x1 y1 z1, .slice x2 y2 z2] 25)
  have H3 := three_boxes w 25 (.bool s) (.slice x1 y1 z1) (.slice x2 y2 z2) (.bool t) (.slice x3 y3 z3) (.slice x4 y4 z4) (.bool false) (.slice none 0 0) (.slice none 0 0) _ rfl
  obtain ⟨hA, hB, hR, hbw⟩ := H3
  have HR := Lib.hid hR
  have HAP := Lib.hid (ha.below hbw)
  have HBQ := Lib.hid (hb.below hbw)
  obtain ⟨_, c0, c1, c2, _, _, _⟩ := id hA
  obtain ⟨_, d0, d1, d2, _, _, _⟩ := id hB
  clear hA hB hR ha hb
  go_enter Tryz.func36, Tryz.ntmps36
  go_wp2_with (go_at_call 59; (with_reducible refine (r2add_can _ _ p q _ HAP.out HBQ.out HX.out HY.out HF.out).mono ?_); rintro e6 w6 ⟨v6, rfl, hv6, hb6⟩
               obtain ⟨t9, x9, y9, rfl, ⟨a91, l91, k91, rfl, _⟩, ⟨a92, l92, k92, rfl, _⟩⟩ := hv6.isF
               have hv6 := hv6.below (below_alloc w6 (.cells #[.bool t9, .slice a91 l91 k91, .slice a92 l92 k92] 25))
               have HR6 := Lib.hid ((HR.out.belowS hb6).belowS (below_alloc w6 (.cells #[.bool t9, .slice a91 l91 k91, .slice a92 l92 k92] 25)))
               obtain ⟨_, g0, g1, g2, g3, g4, g5⟩ := HR6.out)
  refine bodyPost_c1 rfl rfl Tryz.aggF Tryz.sizeF (HR6.out.set _ _ _) rfl ?_
  exact ⟨_, rfl, hv6.set3 HR6.out (fun z => by simp) (fun z => by simp) _ _ _, below_set3 (below_then (below_then hbw hb6) (below_alloc _ _)) (Nat.le_trans (Nat.le_succ _) (Nat.le_succ _)) _ _ _⟩
end Go.Proofs.YtbhkibilnmoljaaGreat
