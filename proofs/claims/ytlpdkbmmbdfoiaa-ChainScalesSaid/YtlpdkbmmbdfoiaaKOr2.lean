/-
  Regions that draw their order: the condition on the world is asked until one named operation, a store, is taken; other operations may still come behind it. No program is named here.
-/
import Derived.Test.YtlpdkbmmbdfoiaaKRb5
import Derived.Test.YtlpdkbmmbdfoiaaKGn
import Derived.Test.YtlpdkbmmbdfoiaaKRm
import Derived.Test.YtlpdkbmmbdfoiaaKDt3
import Derived.Test.YtlpdkbmmbdfoiaaKRa1
import Derived.Test.YtlpdkbmmbdfoiaaKStep
import Derived.Test.YtlpdkbmmbdfoiaaKOrd
import Derived.Deep.CutRange
import Derived.Deep.DeepCutAuto
import Derived.Deep.LoopGhost
import Derived.Deep.RegionHeld3
set_option linter.unusedVariables false
set_option linter.unusedSimpArgs false
namespace Go.Proofs.Ytlpdkbmmbdfoiaa
open Go.RowKit
theorem cmpN_swap (a b : Nat) : zik b a = -zik a b := by
 unfold zik
 rcases Nat.lt_trichotomy a b with h | h | h
 ·rw [if_neg (by omega), if_pos h, if_pos h]; rfl
 ·subst h; rw [if_neg (by omega), if_neg (by omega)]; rfl
 ·rw [if_pos h, if_neg (by omega), if_pos h]
theorem nlen_prod {n e : Nat} (he : e ≠ 0) : (n = 0 → zaa (n * e) = 0) ∧ (n ≠ 0 → 0 < zaa (n * e)) :=
 ⟨fun h => zha.2 (by rw [h, Nat.zero_mul]), fun h => zze.2 (Nat.mul_ne_zero h he)⟩
set_option maxRecDepth 100000 in
set_option maxHeartbeats 1600000 in
theorem r2order_any (va vb : Value) (s t : Bool) (n d m e : Nat) (w : World) (ha : FracN w va s n d) (hb : FracN w vb t m e) (h1 : okN n d) (h2 : okN m e) :
 Calls Try.prog 34 #[va, vb] w fun en w' => en = .returned (.int .i64 (cmpR (fq s n d) (fq t m e))) ∧ Below w.heap.size w w' := by
 obtain ⟨xn, xd, rfl, hxn, hxd⟩ := ha
 obtain ⟨yn, yd, rfl, hyn, hyd⟩ := hb
 obtain ⟨an, ln, kn, rfl, _⟩ := hxn.slen.1
 obtain ⟨ad, ld, kd, rfl, _⟩ := hxd.slen.1
 obtain ⟨am, lm, km, rfl, _⟩ := hyn.slen.1
 obtain ⟨ae, le, ke, rfl, _⟩ := hyd.slen.1
 have l1 := zH (zob h1)
 have l2 := zH (zob h2)
 have z1 := nlen_prod (n := n) h2.1
 have z2 := nlen_prod (n := m) h1.1
 have HR := zH (cmpR_eq s t n d m e h1.1 h2.1)
 have HSW := zH (cmpN_swap (n * e) (m * d))
 clear h1 h2
 obtain ⟨L1, hL1⟩ : ∃ L, zaa (n * e) = L := ⟨_, rfl⟩
 obtain ⟨L2, hL2⟩ : ∃ L, zaa (m * d) = L := ⟨_, rfl⟩
 rw [hL1] at z1
 rw [hL2] at z2
 have HL1 := zH hL1
 have HL2 := zH hL2
 have hX : (s = false) ∨ (s = true ∧ n = 0 ∧ L1 = 0) ∨ (s = true ∧ n ≠ 0 ∧ 0 < L1) := by
  cases s
  ·exact Or.inl rfl
  ·by_cases h : n = 0
   ·exact Or.inr (Or.inl ⟨rfl, h, z1.1 h⟩)
   ·exact Or.inr (Or.inr ⟨rfl, h, z1.2 h⟩)
 have hY : (t = false) ∨ (t = true ∧ m = 0 ∧ L2 = 0) ∨ (t = true ∧ m ≠ 0 ∧ 0 < L2) := by
  cases t
  ·exact Or.inl rfl
  ·by_cases h : m = 0
   ·exact Or.inr (Or.inl ⟨rfl, h, z2.1 h⟩)
   ·exact Or.inr (Or.inr ⟨rfl, h, z2.2 h⟩)
 have HX0 := zH hX
 have HY0 := zH hY
 clear hL1 hL2 z1 z2 hX hY
 go_enter Try.func34, Try.ntmps34
 go_wp2_with fail
 obtain ⟨W, hW⟩ : ∃ W, W = ((w.alloc (.cells #[.bool s, .slice an ln kn, .slice ad ld kd] 32)).alloc (.cells #[.bool t, .slice am lm km, .slice ae le ke] 32)) := ⟨_, rfl⟩
 obtain ⟨bx, byy, hbw⟩ := zzd w 32 _ _ _ _ _ _ W hW
 rw [← hW]
 clear hW
 have hd2 := below_drew (B := W.heap.size) W
 have hD := below_then hbw hd2
 have hbx3 := bx.belowS hd2
 have hby3 := byy.belowS hd2
 have HX3 := zH hbx3
 have HY3 := zH hby3
 obtain ⟨_, q1, q2, q3, q4, q5, q6⟩ := hbx3
 obtain ⟨_, r1, r2, r3, r4, r5, r6⟩ := hby3
 have g1 := hxn.below hD
 have g2 := hxd.below hD
 have g3 := hyn.below hD
 have g4 := hyd.below hD
 clear bx byy hd2
 have tok1 : True := trivial
 go_region_held3 (fun w' => w'.cell? ⟨w.heap.size, 1, none⟩ = some (.slice an ln kn) ∧ w'.cell? ⟨w.heap.size, 2, none⟩ = some (.slice ad ld kd) ∧ w'.cell? ⟨w.heap.size + 1, 1, none⟩ = some (.slice am lm km) ∧ w'.cell? ⟨w.heap.size + 1, 2, none⟩ = some (.slice ae le ke)) (exact ⟨q2, q3, r2, r3⟩) (first
  |(go_at_call 33; have _t := tok1; clear tok1 _t; (with_reducible refine (zje _ _ n e _ g1 g4 l1.out.1 l2.out.2).mono ?_); rintro e9 w3 ⟨p1, rfl, hp1, hp2⟩
    have X4 := HX3.out.belowS hp2
    have Y4 := HY3.out.belowS hp2
    have HX4 := zH X4
    have HY4 := zH Y4
    obtain ⟨_, q1, q2, q3, q4, q5, q6⟩ := X4
    obtain ⟨_, r1, r2, r3, r4, r5, r6⟩ := Y4)
  |(go_at_call 33; (with_reducible refine (zje _ _ m d _ (g3.below hp2) (g2.below hp2) l2.out.1 l1.out.2).mono ?_); rintro e9 w4 ⟨p3, rfl, hp3, hp4⟩
    have hp24 := below_then hp2 hp4
    have hp14 := hp1.below hp4
    have X5 := HX4.out.belowS hp4
    have Y5 := HY4.out.belowS hp4
    have HX5 := zH X5
    have HY5 := zH Y5
    obtain ⟨_, q1, q2, q3, q4, q5, q6⟩ := X5
    obtain ⟨_, r1, r2, r3, r4, r5, r6⟩ := Y5))
 have hdw : Below w.heap.size w w4 := hD.trans (hp24.mono hD.size)
 have HP1 := zH hp14
 have HP3 := zH hp3
 have sp1 := hp14.v.sl
 have lp1 : slen p1 = L1 := hp14.v.len.trans HL1.out
 have sp3 := hp3.v.sl
 have lp3 : slen p3 = L2 := hp3.v.len.trans HL2.out
 have k1 := HX5.out.c0
 have k2 := HY5.out.c0
 clear hp24 hp14 hp1 hp3 hp2 hp4 hD g1 g2 g3 g4 HX3 HY3 HX4 HY4 q1 q2 q3 q4 q5 q6 r1 r2 r3 r4 r5 r6 hbw
 rcases HX0.out with rfl | ⟨rfl, hn0, hl0⟩ | ⟨rfl, hn0, hl0⟩ <;> rcases HY0.out with rfl | ⟨rfl, hm0, hk0⟩ | ⟨rfl, hm0, hk0⟩ <;> (
  try subst hl0
  try subst hk0
  clear HX0 HY0
  go_wp2_with (go_at_call 71; first
   |((with_reducible refine (zqd p1 p3 (n * e) (m * d) _ HP1.out.nat HP3.out.nat).mono ?_); rintro e9 w9 ⟨rfl, hb9⟩; have hdw := below_then hdw hb9)
   |((with_reducible refine (zqd p3 p1 (m * d) (n * e) _ HP3.out.nat HP1.out.nat).mono ?_); rintro e9 w9 ⟨rfl, hb9⟩; rw [HSW.out]; have hdw := below_then hdw hb9))
  all_goals
   go_ret
   exact ⟨by rw [HR.out]; simp [*], hdw⟩)
theorem cmpR_beq (p q : Rat) : (cmpR p q == 0) = decide (p = q) := by
 have := cmpR_self_iff p q
 by_cases h : p = q
 ·rw [decide_eq_true h, this.2 h]; rfl
 ·rw [decide_eq_false h]
  have h2 : cmpR p q ≠ 0 := fun e => h (this.1 e)
  simpa using h2
set_option maxHeartbeats 800000 in
theorem r2same_any (va vb : Value) (s t : Bool) (n d m e : Nat) (w : World) (ha : FracN w va s n d) (hb : FracN w vb t m e) (h1 : okN n d) (h2 : okN m e) :
 Calls Try.prog 11 #[va, vb] w fun en w' => en = .returned (.bool (decide (fq s n d = fq t m e))) ∧ Below w.heap.size w w' := by
 have hA := ha
 have hB := hb
 obtain ⟨xn, xd, rfl, hxn, hxd⟩ := ha
 obtain ⟨yn, yd, rfl, hyn, hyd⟩ := hb
 obtain ⟨an, ln, kn, rfl, _⟩ := hxn.slen.1
 obtain ⟨ad, ld, kd, rfl, _⟩ := hxd.slen.1
 obtain ⟨am, lm, km, rfl, _⟩ := hyn.slen.1
 obtain ⟨ae, le, ke, rfl, _⟩ := hyd.slen.1
 have K1 := zH h1
 have K2 := zH h2
 have HE := zH (cmpR_beq (fq s n d) (fq t m e))
 clear h1 h2
 go_enter Try.func11, Try.ntmps11
 go_wp2_with fail
 obtain ⟨W, hW⟩ : ∃ W, W = ((w.alloc (.cells #[.bool s, .slice an ln kn, .slice ad ld kd] 32)).alloc (.cells #[.bool t, .slice am lm km, .slice ae le ke] 32)) := ⟨_, rfl⟩
 obtain ⟨bx, byy, hbw⟩ := zzd w 32 _ _ _ _ _ _ W hW
 rw [← hW]
 clear hW
 obtain ⟨_, q1, q2, q3, q4, q5, q6⟩ := bx
 obtain ⟨_, r1, r2, r3, r4, r5, r6⟩ := byy
 go_wp2_with (go_at_call 34; (with_reducible refine (r2order_any _ _ s t n d m e _ (hA.below hbw) (hB.below hbw) K1.out K2.out).mono ?_); rintro e9 w9 ⟨rfl, hb9⟩)
 go_ret
 exact ⟨by rw [← HE.out]; rfl, below_then hbw hb9⟩
theorem keep6w {w0 X Y : World} {a1 a2 a3 a4 a5 a6 : Addr} {x1 x2 x3 x4 x5 x6 : Value} (h : X.cell? a1 = some x1 ∧ X.cell? a2 = some x2 ∧ X.cell? a3 = some x3 ∧ X.cell? a4 = some x4 ∧ X.cell? a5 = some x5 ∧ X.cell? a6 = some x6 ∧ Below w0.heap.size w0 X) (hb : Below X.heap.size X Y) :
 Y.cell? a1 = some x1 ∧ Y.cell? a2 = some x2 ∧ Y.cell? a3 = some x3 ∧ Y.cell? a4 = some x4 ∧ Y.cell? a5 = some x5 ∧ Y.cell? a6 = some x6 ∧ Below w0.heap.size w0 Y := by
 obtain ⟨k1, k2, k3, k4, k5, k6, k7⟩ := h
 exact ⟨cell_below hb k1, cell_below hb k2, cell_below hb k3, cell_below hb k4, cell_below hb k5, cell_below hb k6, below_then k7 hb⟩
theorem keep6a {w0 X : World} {a1 a2 a3 a4 a5 a6 : Addr} {x1 x2 x3 x4 x5 x6 : Value} (h : w0.cell? a1 = some x1 ∧ w0.cell? a2 = some x2 ∧ w0.cell? a3 = some x3 ∧ w0.cell? a4 = some x4 ∧ w0.cell? a5 = some x5 ∧ w0.cell? a6 = some x6) (hb : Below w0.heap.size w0 X) :
 X.cell? a1 = some x1 ∧ X.cell? a2 = some x2 ∧ X.cell? a3 = some x3 ∧ X.cell? a4 = some x4 ∧ X.cell? a5 = some x5 ∧ X.cell? a6 = some x6 ∧ Below w0.heap.size w0 X := by
 obtain ⟨k1, k2, k3, k4, k5, k6⟩ := h
 exact ⟨cell_below hb k1, cell_below hb k2, cell_below hb k3, cell_below hb k4, cell_below hb k5, cell_below hb k6, hb⟩
theorem keep6c {w0 X : World} {a1 a2 a3 a4 a5 a6 : Addr} {x1 x2 x3 x4 x5 x6 : Value} (h : X.cell? a1 = some x1 ∧ X.cell? a2 = some x2 ∧ X.cell? a3 = some x3 ∧ X.cell? a4 = some x4 ∧ X.cell? a5 = some x5 ∧ X.cell? a6 = some x6 ∧ Below w0.heap.size w0 X) : Below w0.heap.size w0 X := h.2.2.2.2.2.2
theorem zgl {w0 X : World} {a1 a2 a3 a4 a5 a6 : Addr} {x1 x2 x3 x4 x5 x6 : Value} (h : w0.cell? a1 = some x1 ∧ w0.cell? a2 = some x2 ∧ w0.cell? a3 = some x3 ∧ w0.cell? a4 = some x4 ∧ w0.cell? a5 = some x5 ∧ w0.cell? a6 = some x6) (hb : Below w0.heap.size w0 X) {b : Nat} (hB : w0.heap.size ≤ b) (x y z : Value) :
 (((X.setCell ⟨b, 0, none⟩ x).setCell ⟨b, 1, none⟩ y).setCell ⟨b, 2, none⟩ z).cell? a1 = some x1 ∧ (((X.setCell ⟨b, 0, none⟩ x).setCell ⟨b, 1, none⟩ y).setCell ⟨b, 2, none⟩ z).cell? a2 = some x2 ∧ (((X.setCell ⟨b, 0, none⟩ x).setCell ⟨b, 1, none⟩ y).setCell ⟨b, 2, none⟩ z).cell? a3 = some x3 ∧
 (((X.setCell ⟨b, 0, none⟩ x).setCell ⟨b, 1, none⟩ y).setCell ⟨b, 2, none⟩ z).cell? a4 = some x4 ∧ (((X.setCell ⟨b, 0, none⟩ x).setCell ⟨b, 1, none⟩ y).setCell ⟨b, 2, none⟩ z).cell? a5 = some x5 ∧ (((X.setCell ⟨b, 0, none⟩ x).setCell ⟨b, 1, none⟩ y).setCell ⟨b, 2, none⟩ z).cell? a6 = some x6 ∧ Below w0.heap.size w0 (((X.setCell ⟨b, 0, none⟩ x).setCell ⟨b, 1, none⟩ y).setCell ⟨b, 2, none⟩ z) :=
 keep6a h (below_set3 hb hB x y z)
def RSame (w0 : World) (p : Prop) (e : Ending) (w : World) : Prop := (∃ b, e = .returned (.bool b) ∧ (b = true ↔ p)) ∧ Below w0.heap.size w0 w
theorem zvj {α : Type _} {a b : List α} (hl : a.length = b.length) (h : ∀ (j : Nat) (h1 : j < a.length) (h2 : j < b.length), a[j] = b[j]) : a = b := List.ext_getElem hl h
theorem NatV.at' {w : World} {v : Value} {l : List Nat} (h : NatV w v l) (j : Nat) (hj : j < l.length) : w.cell? (ptr v j) = some (.int .u32 (l[j] : Nat)) := h.cell j hj
set_option maxHeartbeats 1600000 in
theorem zkg (va vb : Value) (a b : List Nat) (w : World) (ha : NatV w va a) (hb : NatV w vb b) :
 Calls Try.prog 46 #[va, vb] w (RSame w (a = b)) := by
 have sa := ha.sl
 have la := ha.len
 have sb := hb.sl
 have lb := hb.len
 have hle := sa.le
 have hle2 := sb.le
 rw [la] at hle
 rw [lb] at hle2
 have hlb : a.length ≤ 9223372036854775807 := by omega
 have hlb2 : b.length ≤ 9223372036854775807 := by omega
 clear hle hle2
 have hw : w.heap.size ≤ w.heap.size := Nat.le_refl _
 by_cases hlen : a.length = b.length
 ·skip
  have hL := zH hlen
  rw [← hlen] at lb
  clear hlen
  go_enter Try.func46, Try.ntmps46
  go_wp2_with fail
  go_loopw [5] (fun u5 wr => ∃ (k : Nat), k ≤ a.length ∧ u5 = .int .i64 k ∧ (∀ (j : Nat) (h1 : j < a.length) (h2 : j < b.length), j < k → a[j] = b[j]) ∧ Below w.heap.size w wr) (fun u5 _ => a.length - (intOf u5).toNat)
  case atStart => exact ⟨0, Nat.zero_le _, rfl, fun j _ _ h => by omega, Below.refl _ _⟩
  case round =>
   obtain ⟨k, hk, rfl, hst, hbr⟩ := hrel
   have HST := zH hst
   clear hst
   by_cases hkl : k < a.length
   ·have hkb : k < b.length := by rw [← hL.out]; exact hkl
    have hc := (ha.below hbr).at' k hkl
    have hd := (hb.below hbr).at' k hkb
    have HX : Hid (∀ (h1 : k < a.length) (h2 : k < b.length), a[k] = b[k] ↔ a[k]'hkl = b[k]'hkb) := zH (fun _ _ => Iff.rfl)
    have i1 : (0 : Int) ≤ (k : Int) := by omega
    have i2 : (k : Int) < (a.length : Nat) := by omega
    generalize ha' : a[k]'hkl = x at *
    generalize hb' : b[k]'hkb = y at *
    have HA := zH ha'
    have HB := zH hb'
    clear ha' hb'
    by_cases hxy : x = y
    ·subst hxy
     have HST2 : Hid (∀ (j : Nat) (h1 : j < a.length) (h2 : j < b.length), j < k + 1 → a[j] = b[j]) := zH (fun j h1 h2 h3 => by
      rcases Nat.lt_or_ge j k with h4 | h4
      ·exact HST.out j h1 h2 h4
      ·obtain rfl : j = k := by omega
       rw [HA.out, HB.out])
     go_wp2_with fail
     go_quiet (fail)
     have hbd := below_then hbr (below_drewN (B := wr.heap.size) wr nq)
     go_wp2_with fail
     go_roundw
     case rel => exact ⟨k + 1, by omega, by go_num, HST2.out, hbd⟩
     case measure => simp [intOf]; omega
    ·skip
     have hxy2 : ((x : Int) == (y : Int)) = false := by first | (simp; omega) | simpa using hxy
     go_wp2_with fail
     go_quiet (fail)
     have hbd := below_then hbr (below_drewN (B := wr.heap.size) wr nq)
     go_wp2_with fail
     go_ret
     exact ⟨⟨false, rfl, by simp; intro h; subst h; exact hxy (HA.out.symm.trans HB.out)⟩, hbd⟩
   ·go_wp2_with fail
    go_ret
    refine ⟨⟨true, rfl, by simp; exact zvj hL.out (fun j h1 h2 => HST.out j h1 h2 (by omega))⟩, hbr⟩
 ·have hne : ((a.length : Int) == (b.length : Int)) = false := by simp; omega
  go_enter Try.func46, Try.ntmps46
  go_wp2_with fail
  go_ret
  exact ⟨⟨false, rfl, by simp; intro h; exact hlen (by rw [h])⟩, Below.refl _ _⟩
@[go_sem] theorem slen_lit2 (a : Option Addr) (n c : Nat) : slen (.slice a n c) = n := rfl
end Go.Proofs.Ytlpdkbmmbdfoiaa
namespace Go.Proofs.Ytlpdkbmmbdfoiaa
theorem wts_zero : ∀ {l : List Rat}, wts l = 0 → ∀ q ∈ l, q = 0 := by
 intro l
 induction l with
 | nil => intro _ q hq; simp at hq
 | cons x l ih =>
   intro h q hq
   rw [zhc] at h
   rcases List.mem_cons.1 hq with rfl | hq
   ·have h1 : wt q = 0 := by omega
    have h2 : q.num = 0 := by
     unfold Go.Proofs.Ytlpdkbmmbdfoiaa.wt at h1
     by_cases h3 : q.num = 0
     ·exact h3
     ·rw [if_neg h3] at h1
      have h4 : zka q.num.natAbs ≤ 0 := by omega
      have := nbits_le.1 h4
      omega
    exact Rat.num_eq_zero.1 h2
   ·exact ih (by omega) q hq
end Go.Proofs.Ytlpdkbmmbdfoiaa
namespace Go.Proofs.Ytlpdkbmmbdfoiaa
open Go.RowKit
def zoa (c : RC) (i : Nat) : List Rat := qs (c.rates.getD i [])
theorem zla.row {c : RC} (h : zla c) {i : Nat} (hi : i < c.lost.length) : ∃ h2 : i < c.rates.length, (c.rates[i]).length = c.lost.length ∧ zii c.rates[i] (c.rates[i]).length ∧ zoa c i = qs c.rates[i] := by
 obtain ⟨h1, h2, h3, h4, h5, h6, h7⟩ := h
 have hi2 : i < c.rates.length := by omega
 obtain ⟨r1, _⟩ := h6 i _ (List.getElem?_eq_getElem hi2)
 have hl : (c.rates[i]).length = c.start.length := r1.2.1
 refine ⟨hi2, by rw [hl, h3], by rw [hl]; exact r1, ?_⟩
 unfold zoa
 simp only [List.getD, List.getElem?_eq_getElem hi2, Option.getD_some]
set_option maxRecDepth 100000 in
set_option maxHeartbeats 3200000 in
theorem zbm (va : Value) (c : RC) (i : Nat) (w : World) (ha : ChainN w va c) (hi : i < c.rates.length) (hrow : zii c.rates[i] (c.rates[i]).length) :
 Calls Try.prog 82 #[va, .int .i64 i] w (RF1 w (zsb (qs c.rates[i]))) := by
 obtain ⟨rv, sv, lv, rfl, hr, hs, hl⟩ := id ha
 obtain ⟨ra, rn, rk, rfl, _⟩ := id hr.sl
 obtain ⟨sa, sn, sk, rfl, _⟩ := id hs.sl
 obtain ⟨la, ln, lk, rfl, _⟩ := id (CellsV.sl hl)
 have hrn : rn = c.rates.length := hr.len
 subst hrn
 have sr := hr.sl
 obtain ⟨rw', hrw, hrf⟩ := hr.at' i hi
 obtain ⟨ea, en, ek, rfl, _⟩ := id hrf.sl
 have HOK : Hid (∀ x ∈ c.rates[i], x.ok) := zH hrow.ok
 have HFT : Hid (∀ k, k ≤ (c.rates[i]).length → fits (zsb (qs ((c.rates[i]).take k)))) := zH fun k _ => hrow.fits k
 generalize c.rates[i]'hi = row at *
 have hbx := below_alloc w (.cells #[.slice ra c.rates.length rk, .slice sa sn sk, .slice la ln lk] 45)
 have hb2 := below_alloc (w.alloc (.cells #[.slice ra c.rates.length rk, .slice sa sn sk, .slice la ln lk] 45)) (.cells #[.bool false, .slice none 0 0, .slice none 0 0] 32)
 have hC := (C3.new w 45 (.slice ra c.rates.length rk) (.slice sa sn sk) (.slice la ln lk)).belowS hb2
 have hR := C3.newB (b := w.heap.size + 1) (w.alloc (.cells #[.slice ra c.rates.length rk, .slice sa sn sk, .slice la ln lk] 45)) 32 (.bool false) (.slice none 0 0) (.slice none 0 0) (by simp)
 have hbw := below_then hbx hb2
 have hrw2 := cell_below hbw hrw
 have HF := zH (hrf.below hbw)
 have HR := zH hR
 have HBW := zH hbw
 have i1 : (0 : Int) ≤ (i : Int) := by omega
 have i2 : (i : Int) < (c.rates.length : Nat) := by omega
 clear hR hr hs hl hrf hrw ha hrow hbx hb2 hbw
 go_enter Try.func82, Try.ntmps82
 go_upto_region 1 with fail
 generalize (w.alloc (.cells #[.slice ra c.rates.length rk, .slice sa sn sk, .slice la ln lk] 45)).alloc (.cells #[.bool false, .slice none 0 0, .slice none 0 0] 32) = W2 at *
 obtain ⟨_, c0, c1, c2, _, _, _⟩ := hC
 go_wp2_with (go_at_call 55; (with_reducible refine (sum_frac _ row _ HF.out HOK.out HFT.out).mono ?_); rintro e3 w3 ⟨v3, rfl, hv3, hb3⟩
              obtain ⟨t3, x3, y3, rfl, ⟨a31, l31, k31, rfl, _⟩, ⟨a32, l32, k32, rfl, _⟩⟩ := hv3.isF
              have hba := below_alloc w3 (.cells #[.bool t3, .slice a31 l31 k31, .slice a32 l32 k32] 32)
              have HV3 := zH (hv3.below hba)
              have HB3 := zH (below_then HBW.out (below_then hb3 hba))
              have HR3 := zH (HR.out.belowS (below_then hb3 hba))
              obtain ⟨_, d0, d1, d2, f0, f1, f2⟩ := HR3.out
              obtain ⟨_, g0, g1, g2, _, _, _⟩ := C3.new w3 32 (.bool t3) (.slice a31 l31 k31) (.slice a32 l32 k32)
              clear hv3 hba hb3)
 refine bodyPost_c1 rfl rfl Try.aggF Try.sizeF (HR3.out.set _ _ _) rfl ?_
 exact ⟨_, rfl, HV3.out.set3 HR3.out (fun z => by simp) (fun z => by simp) _ _ _, below_set3 HB3.out (by omega) _ _ _⟩
def oth (y : Int) (n : Nat) : Int := if n % 2 = 0 then y + ((n / 2 + 1 : Nat) : Int) else y - ((n / 2 + 1 : Nat) : Int)
theorem oth_ne (y : Int) (n : Nat) : oth y n ≠ y := by unfold oth; split <;> omega
@[go_sem] theorem oth_beq (y : Int) (n : Nat) : (oth y n == y) = false := by simpa using oth_ne y n
@[go_sem] theorem beq_oth (y : Int) (n : Nat) : (y == oth y n) = false := by simpa using fun h => oth_ne y n h.symm
@[go_sem] theorem oth_bne (y : Int) (n : Nat) : (oth y n != y) = true := by simpa using oth_ne y n
@[go_sem] theorem bne_oth (y : Int) (n : Nat) : (y != oth y n) = true := by simpa using fun h => oth_ne y n h.symm
@[go_sem] theorem int_beq_self (y : Int) : (y == y) = true := by simp
@[go_sem] theorem int_bne_self (y : Int) : (y != y) = false := by simp
def leaveTo (c : RC) : Nat → Rat
 | 0 => 0
 | k + 1 => if leaveTo c k < zsb (zoa c k) then zsb (zoa c k) else leaveTo c k
theorem C3.far {w : World} {b b' : Nat} {v0 v1 v2 : Value} (h : C3 w b v0 v1 v2) (hb : b' ≠ b) (x y z : Value) : C3 (((w.setCell ⟨b', 0, none⟩ x).setCell ⟨b', 1, none⟩ y).setCell ⟨b', 2, none⟩ z) b v0 v1 v2 :=
 ((h.other ⟨b', 0, none⟩ x hb).other ⟨b', 1, none⟩ y hb).other ⟨b', 2, none⟩ z hb
theorem cmpR_gt (p q : Rat) : 0 < cmpR p q ↔ q < p := by
 unfold cmpR
 by_cases h1 : p < q
 ·rw [if_pos h1]
  exact ⟨fun h => absurd h (by decide), fun h => absurd h1 (Rat.not_lt.2 (Rat.le_of_lt h))⟩
 ·rw [if_neg h1]
  by_cases h2 : q < p
  ·rw [if_pos h2]; exact ⟨fun _ => h2, fun _ => by decide⟩
  ·rw [if_neg h2]; exact ⟨fun h => absurd h (by decide), fun h => absurd h h2⟩
theorem cmpR_lt (p q : Rat) : cmpR p q < 0 ↔ p < q := by
 unfold cmpR
 by_cases h1 : p < q
 ·rw [if_pos h1]; exact ⟨fun _ => h1, fun _ => by decide⟩
 ·rw [if_neg h1]
  by_cases h2 : q < p
  ·rw [if_pos h2]; exact ⟨fun h => absurd h (by decide), fun h => absurd h h1⟩
  ·rw [if_neg h2]; exact ⟨fun h => absurd h (by decide), fun h => absurd h h1⟩
theorem zxj {c : RC} (hv : zla c) {k : Nat} (hk : k < c.rates.length) : zii c.rates[k] (c.rates[k]).length ∧ zoa c k = qs c.rates[k] := by
 obtain ⟨h2, h3, h4, h5⟩ := hv.row (i := k) (by have := hv.2.2.1; have := hv.2.2.2.1; omega)
 exact ⟨h4, h5⟩
theorem leave_fits {c : RC} (hv : zla c) : ∀ k, k ≤ c.rates.length → fits (leaveTo c k)
 | 0, _ => by unfold leaveTo; exact zcf
 | k + 1, hk => by
   unfold leaveTo
   split
   ·obtain ⟨h4, h5⟩ := zxj hv (show k < c.rates.length by omega)
    rw [h5]
    have h := h4.fits (c.rates[k]).length
    rwa [List.take_length] at h
   ·exact leave_fits hv k (by omega)
set_option maxRecDepth 100000 in
set_option maxHeartbeats 6400000 in
theorem leaving_any (va : Value) (c : RC) (w : World) (ha : ChainN w va c) (hv : zla c) : Calls Try.prog 115 #[va] w (RF1 w (leaveTo c c.rates.length)) := by
 obtain ⟨rv, sv, lv, rfl, hr, hs, hl⟩ := id ha
 obtain ⟨ra, rn, rk, rfl, _⟩ := id hr.sl
 obtain ⟨sa, sn, sk, rfl, _⟩ := id hs.sl
 obtain ⟨la, ln, lk, rfl, _⟩ := id (CellsV.sl hl)
 have hrn : rn = c.rates.length := hr.len
 subst hrn
 have hsn : sn = c.start.length := hs.len
 have hlen : c.rates.length = c.start.length := hv.2.2.2.1
 rw [← hlen] at hsn
 subst hsn
 have HV := zH hv
 have hn : c.rates.length ≤ 128 := by have := hv.2.1; omega
 have hbx := below_alloc w (.cells #[.slice ra c.rates.length rk, .slice sa c.rates.length sk, .slice la ln lk] 45)
 have hb2 := below_alloc (w.alloc (.cells #[.slice ra c.rates.length rk, .slice sa c.rates.length sk, .slice la ln lk] 45)) (.cells #[.bool false, .slice none 0 0, .slice none 0 0] 32)
 have HC := zH ((C3.new w 45 (.slice ra c.rates.length rk) (.slice sa c.rates.length sk) (.slice la ln lk)).belowS hb2)
 have HR := zH (C3.newB (b := w.heap.size + 1) (w.alloc (.cells #[.slice ra c.rates.length rk, .slice sa c.rates.length sk, .slice la ln lk] 45)) 32 (.bool false) (.slice none 0 0) (.slice none 0 0) (by simp))
 have HBW := zH (below_then hbx hb2)
 have HA0 := zH ha
 clear hr hs hl ha hv hbx hb2 hlen
 go_enter Try.func115, Try.ntmps115
 go_upto_region 1 with fail
 generalize (w.alloc (.cells #[.slice ra c.rates.length rk, .slice sa c.rates.length sk, .slice la ln lk] 45)).alloc (.cells #[.bool false, .slice none 0 0, .slice none 0 0] 32) = W2 at *
 obtain ⟨n, hnl⟩ : ∃ n, c.rates.length = n := ⟨_, rfl⟩
 have HNL := zH hnl
 rw [hnl] at HC HA0 hn ⊢
 clear hnl
 go_wp2_with (go_at_call 41; (with_reducible refine (zld _).mono ?_); rintro e3 w3 ⟨v3, rfl, hv3, hb3⟩
              obtain ⟨t3, x3, y3, rfl, ⟨a31, l31, k31, rfl, _⟩, ⟨a32, l32, k32, rfl, _⟩⟩ := hv3.isF
              have hba := below_then hb3 (below_alloc w3 (.cells #[.bool t3, .slice a31 l31 k31, .slice a32 l32 k32] 32))
              have HV3 := zH (hv3.below (below_alloc w3 (.cells #[.bool t3, .slice a31 l31 k31, .slice a32 l32 k32] 32)))
              have HB3 := zH (below_then HBW.out hba)
              have HR3 := zH (HR.out.belowS hba)
              have HC3 := zH (HC.out.belowS hba)
              have HM3 := zH (C3.new w3 32 (.bool t3) (.slice a31 l31 k31) (.slice a32 l32 k32))
              have HSZ : Hid (w.heap.size + 1 < w3.heap.size) := zH (by have := HR.out.lt; have := hb3.size; omega)
              obtain ⟨_, c0, c1, c2, _, _, _⟩ := HC3.out
              clear hv3 hb3 hba HC HR HBW)
 obtain ⟨b3, hb3⟩ : ∃ b, w3.heap.size = b := ⟨_, rfl⟩
 rw [hb3] at HM3 HSZ
 rw [hb3]
 clear hb3 c0 c1 c2
 go_loopg [12] (n) (fun g u12 wr => ∃ (k : Nat) (t' : Bool) (a1 a2 : Option Addr) (l1 k1 l2 k2 : Nat), k ≤ n ∧ g = n - k ∧ u12 = .int .i64 k ∧ C3 wr b3 (.bool t') (.slice a1 l1 k1) (.slice a2 l2 k2) ∧ FracC wr (.agg #[.bool t', .slice a1 l1 k1, .slice a2 l2 k2]) (leaveTo c k) ∧ C3 wr w.heap.size (.slice ra n rk) (.slice sa n sk) (.slice la ln lk) ∧ C3 wr (w.heap.size + 1) (.bool false) (.slice none 0 0) (.slice none 0 0) ∧ Below w.heap.size w wr)
 case atStart => exact ⟨0, _, _, _, _, _, _, _, Nat.zero_le _, rfl, rfl, HM3.out, HV3.out, HC3.out, HR3.out, HB3.out⟩
 case round =>
  obtain ⟨k, t', a1, a2, l1, k1, l2, k2, hk, hg, rfl, hM, hV, hC, hR, hbr⟩ := hrel
  obtain ⟨w4, hw4⟩ : ∃ w4, w4 = wr := ⟨_, rfl⟩
  subst hw4
  have HG := zH hg
  have HM := zH hM
  have HV4 := zH hV
  have HC := zH hC
  have HR := zH hR
  have HA := zH (HA0.out.below hbr)
  have HBR := zH hbr
  clear hg hV hR hbr HM3 HV3 HC3 HR3 HB3
  by_cases hkn : k < n
  ·have hk2 : k < c.rates.length := by rw [HNL.out]; exact hkn
   obtain ⟨hr1, hr2⟩ := zxj HV.out hk2
   have HROW := zH hr1
   have HQ : Hid (qs (c.rates[k]'hk2) = zoa c k) := zH hr2.symm
   have HFX : Hid (fits (zsb (zoa c k))) := zH (by
    have h := hr1.fits (c.rates[k]'hk2).length
    rw [List.take_length] at h
    rw [hr2]; exact h)
   have HFM := zH (leave_fits HV.out k (by omega))
   have HSTEP : Hid (leaveTo c (k + 1) = if leaveTo c k < zsb (zoa c k) then zsb (zoa c k) else leaveTo c k) := zH rfl
   have HCMP : Hid (0 < cmpR (zsb (zoa c k)) (leaveTo c k) ↔ leaveTo c k < zsb (zoa c k)) := zH (cmpR_gt _ _)
   obtain ⟨X, hX⟩ : ∃ X, zsb (zoa c k) = X := ⟨_, rfl⟩
   obtain ⟨M, hM2⟩ : ∃ M, leaveTo c k = M := ⟨_, rfl⟩
   obtain ⟨z, hz⟩ : ∃ z, cmpR X M = z := ⟨_, rfl⟩
   have HXE := zH hX
   have HZ := zH hz
   rw [hX] at HFX HSTEP HCMP
   rw [hM2] at HFM HSTEP HCMP HV4
   rw [hz] at HCMP
   obtain ⟨_, c0, c1, c2, _, _, _⟩ := hC
   obtain ⟨_, m0, m1, m2, _, _, _⟩ := hM
   clear hr1 hr2 hX hM2 hz
   have i1 : (0 : Int) ≤ (k : Int) := by omega
   have i2 : (k : Int) < (n : Nat) := by omega
   by_cases hzp : 0 < z
   ·go_wp2_with (first
     |(go_at_call 82; (with_reducible refine (zbm _ c k _ HA.out hk2 HROW.out).mono ?_); rw [HQ.out, HXE.out]; rintro e5 w5 ⟨v5, rfl, hv5, hb5⟩
       obtain ⟨t5, x5, y5, rfl, ⟨a51, l51, k51, rfl, _⟩, ⟨a52, l52, k52, rfl, _⟩⟩ := hv5.isF
       have hba := below_then hb5 (below_alloc w5 (.cells #[.bool t5, .slice a51 l51 k51, .slice a52 l52 k52] 32))
       have HX5 := zH (hv5.below (below_alloc w5 (.cells #[.bool t5, .slice a51 l51 k51, .slice a52 l52 k52] 32)))
       have HN5 := zH (C3.new w5 32 (.bool t5) (.slice a51 l51 k51) (.slice a52 l52 k52))
       have HM5 := zH (HM.out.belowS hba)
       have HV5 := zH (HV4.out.below hba)
       have HC5 := zH (HC.out.belowS hba)
       have HR5 := zH (HR.out.belowS hba)
       have HB5 := zH (below_then2 HBR.out hba HBR.out.size)
       obtain ⟨_, n0, n1, n2, _, _, _⟩ := HN5.out
       obtain ⟨_, m0, m1, m2, _, _, _⟩ := HM5.out
       clear hv5 hb5 hba HM HV4 HC HR HA c0 c1 c2)
     |(go_at_call 57; (with_reducible refine (cmp_can _ _ X M _ HX5.out HV5.out HFX.out HFM.out).mono ?_); rw [HZ.out]; rintro e6 w6 ⟨rfl, hb6⟩
       have HX6 := zH (HX5.out.below hb6)
       have HN6 := zH (HN5.out.belowS hb6)
       have HM6 := zH (HM5.out.belowS hb6)
       have HV6 := zH (HV5.out.below hb6)
       have HC6 := zH (HC5.out.belowS hb6)
       have HR6 := zH (HR5.out.belowS hb6)
       have HB6 := zH (below_then2 HB5.out hb6 HB5.out.size)
       clear HX5 HN5 HM5 HV5 HC5 HR5 HB5 hb6 n0 n1 n2 m0 m1 m2
       obtain ⟨_, n0, n1, n2, _, _, _⟩ := HN6.out
       obtain ⟨_, m0, m1, m2, f0, f1, f2⟩ := HM6.out))
    go_roundg (n - (k + 1))
    case measure => (have := HG.out; omega)
    case rel =>
     refine ⟨k + 1, t5, a51, a52, l51, k51, l52, k52, by omega, rfl, by go_num, HM6.out.set _ _ _, ?_, HC6.out.far (by have := HSZ.out; omega) _ _ _, HR6.out.far (by have := HSZ.out; omega) _ _ _, below_set3 HB6.out (by have := HSZ.out; omega) _ _ _⟩
     rw [HSTEP.out, if_pos (HCMP.out.1 hzp)]
     exact HX6.out.set3 HM6.out (fun z => by simp) (fun z => by simp) _ _ _
   ·go_wp2_with (first
     |(go_at_call 82; (with_reducible refine (zbm _ c k _ HA.out hk2 HROW.out).mono ?_); rw [HQ.out, HXE.out]; rintro e5 w5 ⟨v5, rfl, hv5, hb5⟩
       obtain ⟨t5, x5, y5, rfl, ⟨a51, l51, k51, rfl, _⟩, ⟨a52, l52, k52, rfl, _⟩⟩ := hv5.isF
       have hba := below_then hb5 (below_alloc w5 (.cells #[.bool t5, .slice a51 l51 k51, .slice a52 l52 k52] 32))
       have HX5 := zH (hv5.below (below_alloc w5 (.cells #[.bool t5, .slice a51 l51 k51, .slice a52 l52 k52] 32)))
       have HN5 := zH (C3.new w5 32 (.bool t5) (.slice a51 l51 k51) (.slice a52 l52 k52))
       have HM5 := zH (HM.out.belowS hba)
       have HV5 := zH (HV4.out.below hba)
       have HC5 := zH (HC.out.belowS hba)
       have HR5 := zH (HR.out.belowS hba)
       have HB5 := zH (below_then2 HBR.out hba HBR.out.size)
       obtain ⟨_, n0, n1, n2, _, _, _⟩ := HN5.out
       obtain ⟨_, m0, m1, m2, _, _, _⟩ := HM5.out
       clear hv5 hb5 hba HM HV4 HC HR HA c0 c1 c2)
     |(go_at_call 57; (with_reducible refine (cmp_can _ _ X M _ HX5.out HV5.out HFX.out HFM.out).mono ?_); rw [HZ.out]; rintro e6 w6 ⟨rfl, hb6⟩
       have HX6 := zH (HX5.out.below hb6)
       have HN6 := zH (HN5.out.belowS hb6)
       have HM6 := zH (HM5.out.belowS hb6)
       have HV6 := zH (HV5.out.below hb6)
       have HC6 := zH (HC5.out.belowS hb6)
       have HR6 := zH (HR5.out.belowS hb6)
       have HB6 := zH (below_then2 HB5.out hb6 HB5.out.size)
       clear HX5 HN5 HM5 HV5 HC5 HR5 HB5 hb6 n0 n1 n2 m0 m1 m2
       obtain ⟨_, n0, n1, n2, _, _, _⟩ := HN6.out
       obtain ⟨_, m0, m1, m2, f0, f1, f2⟩ := HM6.out))
    go_roundg (n - (k + 1))
    case measure => (have := HG.out; omega)
    case rel =>
     refine ⟨k + 1, t', a1, a2, l1, k1, l2, k2, by omega, rfl, by go_num, HM6.out, ?_, HC6.out, HR6.out, HB6.out⟩
     rw [HSTEP.out, if_neg (fun h => absurd (HCMP.out.2 h) (by omega))]
     exact HV6.out
  ·obtain rfl : k = n := by omega
   obtain ⟨_, m0, m1, m2, _, _, _⟩ := hM
   obtain ⟨_, f0, f1, f2, f3, f4, f5⟩ := HR.out
   clear hC
   go_wp2_with fail
   refine bodyPost_c1 rfl rfl Try.aggF Try.sizeF (HR.out.set _ _ _) rfl ?_
   refine ⟨_, rfl, ?_, below_set3 HBR.out (by omega) _ _ _⟩
   rw [HNL.out]
   exact HV4.out.set3 HR.out (fun z => by simp) (fun z => by simp) _ _ _
end Go.Proofs.Ytlpdkbmmbdfoiaa
namespace Go.Proofs.Ytlpdkbmmbdfoiaa
def ztc (c : RC) (ρ : Rat) : Nat → Nat → Rat := fun i j => if i = j then 1 - zsb (zoa c i) / ρ else (zoa c i).getD j 0 / ρ
theorem over.div {D R N : Nat} (hD : D ≠ 0) (hR : R ≠ 0) {q : Rat} (h : over D N q) : over R N (q / mkRat ((R : Nat) : Int) D) := by
 obtain ⟨z, rfl, hz⟩ := h
 refine ⟨z, ?_, hz⟩
 rw [Rat.div_def, inv_mk hR hD, Rat.mkRat_mul_mkRat, Nat.mul_comm D R]
 exact Rat.mkRat_mul_right hD
section
variable {c : RC} {n N S R : Nat}
theorem stepE_over (hR : R ≠ 0) (hr : ∀ i j, i < n → j < n → over 144 N ((zoa c i).getD j 0)) (hs : ∀ i, i < n → over 144 S (zsb (zoa c i))) {i j : Nat} (hi : i < n) (hj : j < n) :
 over R (R + S + N) (ztc c (mkRat ((R : Nat) : Int) 144) i j) := by
 unfold ztc
 split
 ·rw [Rat.sub_eq_add_neg]
  exact (over.add hR (over.one hR) (over.neg (over.div (by decide) hR (hs i hi)))).mono (by omega)
 ·exact (over.div (by decide) hR (hr i j hi hj)).mono (by omega)
theorem step_fits1 (hR : R ≠ 0) (hRb : R ≤ 30000) (hNb : N ≤ 30000) (hr : ∀ i j, i < n → j < n → over 144 N ((zoa c i).getD j 0)) : ∀ i j, i < n → j < n → fits ((zoa c i).getD j 0 / mkRat ((R : Nat) : Int) 144) :=
 fun i j hi hj => (over.div (by decide) hR (hr i j hi hj)).fits hR (Nat.lt_of_le_of_lt hNb (by decide +kernel)) (Nat.lt_of_le_of_lt hRb (by decide +kernel))
theorem step_fits2 (hR : R ≠ 0) (hRb : R ≤ 30000) (hSb : S ≤ 30000) (hs : ∀ i, i < n → over 144 S (zsb (zoa c i))) : ∀ i, i < n → fits (zsb (zoa c i) / mkRat ((R : Nat) : Int) 144) ∧ fits (1 - zsb (zoa c i) / mkRat ((R : Nat) : Int) 144) :=
 fun i hi => by
  have h1 := over.div (by decide) hR (hs i hi)
  refine ⟨h1.fits hR (Nat.lt_of_le_of_lt hSb (by decide +kernel)) (Nat.lt_of_le_of_lt hRb (by decide +kernel)), ?_⟩
  rw [Rat.sub_eq_add_neg]
  exact (over.add hR (over.one hR) (over.neg h1)).fits hR (Nat.lt_of_le_of_lt (show R + S ≤ 60000 by omega) (by decide +kernel)) (Nat.lt_of_le_of_lt hRb (by decide +kernel))
end
theorem stepE_stepM (c : RC) (n : Nat) (ρ : Rat) {i : Nat} (hl : (zoa c i).length = n) (j : Nat) : ztc c ρ i j = stepM n (fun i j => (zoa c i).getD j 0) ρ⁻¹ i j := by
 unfold ztc stepM
 rw [lsum_sg, hl]
 simp only [Rat.div_def]
end Go.Proofs.Ytlpdkbmmbdfoiaa
namespace Go.Proofs.Ytlpdkbmmbdfoiaa
open Go.RowKit
section
variable {P : Program} {md : Region.Mode} {ops : Array Oper} {Q : Exit → Act → World → Prop} {S : World → Prop} {z : Nat}
def wpL (P : Program) (md : Region.Mode) (ops : Array Oper) (Q : Exit → Act → World → Prop) (S : World → Prop) (z : Nat) : Nat → Array Bool → Act → World → Prop
 | 0, l, a, w => Region.ready md ops l = [] ∧ Q .normal a w
 | k + 1, l, a, w => (Region.ready md ops l = [] → Q .normal a w) ∧ ∀ i ∈ Region.ready md ops l, wpOp P ops Q i (fun b v => ((l.setIfInBounds i true).getD z false = false → S v) ∧ wpL P md ops Q S z k (l.setIfInBounds i true) b v) a w
theorem wpL.any : ∀ (k : Nat) (l : Array Bool) (a : Act) (w : World), wpL P md ops Q S z k l a w → wpAny P md ops Q k l a w
 | 0, _, _, _, h => h
 | k + 1, _, _, _, h => ⟨h.1, fun i hi => wpOp_mono (fun b v g => wpL.any k _ b v g.2) (h.2 i hi)⟩
theorem wpL.first {i : Nat} {o : Oper} {v : Value} (hi : ops[i]? = some o) (hs : Region.noSelect ops = true) (hw : waitT md ops i 14 z = true) (hQ : ∀ c a w, Q (.panic c) (a.put o.dst v) w → Q (.panic c) a w) :
 ∀ (k : Nat) (l : Array Bool) (a : Act) (w : World), Shut md ops l → l.getD z false = false → (∀ j p, ops[j]? = some p → j ≠ i → l.getD j true = false → (∀ e ∈ p.after, Region.binds md e = true → e.on ≠ i) → o.apart ops p = true) →
  i ∈ Region.ready md ops l → YieldsIf P ops S o v a → S w → wpL P md ops Q S z k (l.setIfInBounds i true) (a.put o.dst v) w → wpL P md ops Q S z (k + 1) l a w
 | 0, l, a, w, _, _, _, hr, hy, hS, H => by
   refine ⟨(fun h => by rw [h] at hr; cases hr), fun j hj => ?_⟩
   by_cases e : j = i
   ·subst e; exact hy.wpOp hi hS ⟨fun _ => hS, H⟩
   ·have h1 := ready_mono hj e
    rw [H.1] at h1
    cases h1
 | k + 1, l, a, w, hsh, hlz, hfr, hr, hy, hS, H => by
   refine ⟨(fun h => by rw [h] at hr; cases hr), fun j hj => ?_⟩
   by_cases e : j = i
   ·subst e; exact hy.wpOp hi hS ⟨fun _ => hS, H⟩
   ·obtain ⟨hun, p, hp, _⟩ := mem_ready.1 hj
    have hno := zuf hj hr hp
    have hjz : j ≠ z := by
     intro hjz
     subst hjz
     obtain ⟨_, p', hp', hall⟩ := mem_ready.1 hj
     exact zid (zef hsh 14 j p' hw hp' hall) (mem_ready.1 hr).1
    have hiz : i ≠ z := by
     intro hiz
     subst hiz
     obtain ⟨_, p', hp', hall⟩ := mem_ready.1 hr
     exact zid (zef hsh 14 i p' hw hp' hall) (mem_ready.1 hr).1
    have hz1 : (l.setIfInBounds j true).getD z false = false := by rw [getD_set_ne false hjz]; exact hlz
    have hz2 : ((l.setIfInBounds i true).setIfInBounds j true).getD z false = false := by rw [getD_set_ne false hjz, getD_set_ne false hiz]; exact hlz
    have hsel := fun (j : Nat) (o : Oper) cs b (h : ops[j]? = some o) => Region.noSelect_spec hs j o cs b h
    have h2 := wpOp_putIf hp (hfr j p hp e hun hno) (fun cs b => hsel i o cs b hi) (fun cs b => hsel j p cs b hp) hQ hy (H.2 j (ready_mono hj e))
    refine wpOp_mono (fun b u g => ⟨fun _ => g.2.1 hz2, wpL.first hi hs hw hQ k (l.setIfInBounds j true) b u (hsh.set hj) hz1 ?_ (ready_mono hr (Ne.symm e)) g.1 (g.2.1 hz2) ?_⟩) h2
    ·intro x q hq hxi hxl hxw
     refine hfr x q hq hxi ?_ hxw
     by_cases hjx : j = x
     ·subst hjx; exact hun
     ·rwa [getD_set_ne true hjx] at hxl
    ·rw [Array.setIfInBounds_comm _ _ e]
     exact g.2.2
theorem wpL.firstU {i : Nat} {o : Oper} {v : Value} (hi : ops[i]? = some o) (hs : Region.noSelect ops = true) (hiz : i ≠ z) (hQ : ∀ c a w, Q (.panic c) (a.put o.dst v) w → Q (.panic c) a w) :
 ∀ (k : Nat) (l : Array Bool) (a : Act) (w : World), Shut md ops l → (∀ j p, ops[j]? = some p → j ≠ i → l.getD j true = false → (∀ e ∈ p.after, Region.binds md e = true → e.on ≠ i) → o.apart ops p = true) →
  i ∈ Region.ready md ops l → YieldsIf P ops (fun _ => True) o v a → (l.getD z false = false → S w) → wpL P md ops Q S z k (l.setIfInBounds i true) (a.put o.dst v) w → wpL P md ops Q S z (k + 1) l a w
 | 0, l, a, w, _, _, hr, hy, hS, H => by
   refine ⟨(fun h => by rw [h] at hr; cases hr), fun j hj => ?_⟩
   by_cases e : j = i
   ·subst e; exact hy.wpOp hi trivial ⟨fun h => hS (by rwa [getD_set_ne false hiz] at h), H⟩
   ·have h1 := ready_mono hj e
    rw [H.1] at h1
    cases h1
 | k + 1, l, a, w, hsh, hfr, hr, hy, hS, H => by
   refine ⟨(fun h => by rw [h] at hr; cases hr), fun j hj => ?_⟩
   by_cases e : j = i
   ·subst e; exact hy.wpOp hi trivial ⟨fun h => hS (by rwa [getD_set_ne false hiz] at h), H⟩
   ·obtain ⟨hun, p, hp, _⟩ := mem_ready.1 hj
    have hno := zuf hj hr hp
    have hsel := fun (j : Nat) (o : Oper) cs b (h : ops[j]? = some o) => Region.noSelect_spec hs j o cs b h
    have h2 := wpOp_putIf hp (hfr j p hp e hun hno) (fun cs b => hsel i o cs b hi) (fun cs b => hsel j p cs b hp) hQ hy (H.2 j (ready_mono hj e))
    have hzz : (l.setIfInBounds j true).getD z false = false → ((l.setIfInBounds i true).setIfInBounds j true).getD z false = false := fun h => by
     rw [← Array.setIfInBounds_comm _ _ e, getD_set_ne false hiz]; exact h
    refine wpOp_mono (fun b u g => ⟨fun h => g.2.1 (hzz h), wpL.firstU hi hs hiz hQ k (l.setIfInBounds j true) b u (hsh.set hj) ?_ (ready_mono hr (Ne.symm e)) g.1 (fun h => g.2.1 (hzz h)) ?_⟩) h2
    ·intro x q hq hxi hxl hxw
     refine hfr x q hq hxi ?_ hxw
     by_cases hjx : j = x
     ·subst hjx; exact hun
     ·rwa [getD_set_ne true hjx] at hxl
    ·rw [Array.setIfInBounds_comm _ _ e]
     exact g.2.2
theorem wpL.take (i : Nat) {fuel : Nat} {l : Array Bool} {a : Act} {w : World} (hs : Region.noSelect ops = true) (hw : waitT md ops i 14 z = true) (hz : l.getD z false = false) (hc : shutB md ops l = true) (hf : Region.free md ops l i = true) (hr : (Region.ready md ops l).contains i = true) (hS : S w) (hi : (ops[i]?).isSome = true)
 (h : ∀ o, ops[i]? = some o → ∃ v, (∀ c a w, Q (.panic c) (a.put o.dst v) w → Q (.panic c) a w) ∧ YieldsIf P ops S o v a ∧ wpL P md ops Q S z fuel (l.setIfInBounds i true) (a.put o.dst v) w) : wpL P md ops Q S z (fuel + 1) l a w := by
 obtain ⟨o, ho⟩ := Option.isSome_iff_exists.1 hi
 obtain ⟨v, h1, h2, h3⟩ := h o ho
 exact wpL.first ho hs hw h1 fuel l a w (zih hc) hz (Region.free_spec ho hf) (by simpa using hr) h2 hS h3
theorem wpL.takeU (i : Nat) {fuel : Nat} {l : Array Bool} {a : Act} {w : World} (hs : Region.noSelect ops = true) (hiz : Nat.beq i z = false) (hc : shutB md ops l = true) (hf : Region.free md ops l i = true) (hr : (Region.ready md ops l).contains i = true) (hS : S w) (hi : (ops[i]?).isSome = true)
 (h : ∀ o, ops[i]? = some o → ∃ v, (∀ c a w, Q (.panic c) (a.put o.dst v) w → Q (.panic c) a w) ∧ YieldsIf P ops (fun _ => True) o v a ∧ wpL P md ops Q S z fuel (l.setIfInBounds i true) (a.put o.dst v) w) : wpL P md ops Q S z (fuel + 1) l a w := by
 obtain ⟨o, ho⟩ := Option.isSome_iff_exists.1 hi
 obtain ⟨v, h1, h2, h3⟩ := h o ho
 exact wpL.firstU ho hs (fun e => by subst e; rw [Nat.beq_refl] at hiz; cases hiz) h1 fuel l a w (zih hc) (Region.free_spec ho hf) (by simpa using hr) h2 (fun _ => hS) h3
theorem wpL.one (k : Nat) {fuel : Nat} {l : Array Bool} {a : Act} {w : World} (hr : Region.ready md ops l = [k]) (hi : (ops[k]?).isSome = true)
 (h : ∀ o, ops[k]? = some o → ∀ K : Act → World → Prop, Hid (∀ b v, ((l.setIfInBounds k true).getD z false = false → S v) → wpL P md ops Q S z fuel (l.setIfInBounds k true) b v → K b v) → if Region.wanted o (yielded ops a.tmps) = true then o.wp P a w K Q else K (a.put o.dst undef) w) : wpL P md ops Q S z (fuel + 1) l a w := by
 obtain ⟨o, ho⟩ := Option.isSome_iff_exists.1 hi
 refine ⟨(fun h0 => by rw [hr] at h0; cases h0), fun j hj => ?_⟩
 rw [hr] at hj
 obtain rfl : j = k := by simpa using hj
 have h1 := h o ho _ (zH fun b v h2 h3 => (⟨h2, h3⟩ : ((l.setIfInBounds j true).getD z false = false → S v) ∧ _))
 unfold wpOp
 simp only [ho]
 by_cases hw : Region.wanted o (yielded ops a.tmps) = true
 ·rw [if_pos hw] at h1 ⊢
  exact Or.inl h1
 ·rw [if_neg hw] at h1 ⊢
  exact h1
theorem wpL.done {l : Array Bool} {a : Act} {w : World} (hr : Region.ready md ops l = []) (h : Q .normal a w) : ∀ fuel, wpL P md ops Q S z fuel l a w
 | 0 => ⟨hr, h⟩
 | _ + 1 => ⟨fun _ => h, by rw [hr]; simp⟩
theorem wpL.start {id : Nat} {a : Act} {w : World} (z : Nat) (S : World → Prop) (hm : P.follows .mixedOrders = true) (hS : S w.drew) (h : S w.drew → wpL P .any ops Q S z ops.size (Array.replicate ops.size false) a w.drew) : (Code.region id ops true).wp P Q a w :=
 wp_region_any hm (wpL.any _ _ _ _ (h hS))
end
end Go.Proofs.Ytlpdkbmmbdfoiaa
