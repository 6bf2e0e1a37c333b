/-
  package phase: rate, of any fraction.
-/
import Derived.Test.YtlpdkbmmbdfoiaaGreatSTa6
set_option linter.unusedVariables false
set_option linter.unusedSimpArgs false
namespace Go.Proofs.YtlpdkbmmbdfoiaaGreat
open Go.RowKit
instance (s : Bool) (n d : Nat) : Decidable (zkd s n d) := inferInstanceAs (Decidable (_ ∧ _ ∧ _ ∧ _))
set_option maxRecDepth 100000 in
set_option maxHeartbeats 3200000 in
theorem rate_any (va : Value) (s : Bool) (n d : Nat) (w : World) (ha : zlb w va s n d) : Calls Tryz.prog 86 #[va] w (fun e w' => e = .returned (.bool (decide (zkd s n d))) ∧ Below w.heap.size w w') := by
 obtain ⟨x0, y0, rfl, h1, h2⟩ := id ha
 obtain ⟨a11, l11, k11, rfl, _⟩ := h1.slen.1
 obtain ⟨a12, l12, k12, rfl, _⟩ := h2.slen.1
 have hba := zca w (.cells #[.bool s, .slice a11 l11 k11, .slice a12 l12 k12] 38)
 have HC := zH (C3.new w 38 (.bool s) (.slice a11 l11 k11) (.slice a12 l12 k12))
 have HA := zH (ha.below hba)
 have HB := zH hba
 obtain ⟨_, c0, c1, c2, _, _, _⟩ := HC.out
 clear ha hba h1 h2
 by_cases hk : okN n d
 ·have HK := zH hk
  obtain ⟨q, hq⟩ : ∃ q, fq s n d = q := ⟨_, rfl⟩
  have HRED : Hid (∀ w0 vx, zlb w0 vx s n d → Calls Tryz.prog 89 #[vx] w0 (RF0 w0 q)) := zH (fun w0 vx h => by
   refine (zxe vx _ _ _ w0 h).mono ?_
   rintro e w' ⟨v, er, rfl, hb, h1, _⟩
   obtain ⟨rfl, h2⟩ := h1 HK.out
   rw [hq] at h2
   exact ⟨v, rfl, h2, hb⟩)
  have HPQ : Hid (zkd s n d ↔ 0 < q ∧ zta q.num.natAbs ≤ 32 ∧ zta q.den ≤ 32) := zH (by
   unfold zkd
   rw [hq]
   exact ⟨fun h => h.2, fun h => ⟨HK.out, h⟩⟩)
  clear hk
  go_enter Tryz.func86, Tryz.ntmps86
  go_upto_region 2 with (first
   |(go_at_call 89; (with_reducible refine (HRED.out _ _ HA.out).mono ?_); rintro e3 w3 ⟨v3, rfl, hv3, hb3⟩
     obtain ⟨x3, y3, rfl, n1, n2⟩ := id hv3
     obtain ⟨a31, l31, k31, rfl, _⟩ := id n1.v.sl
     obtain ⟨a32, l32, k32, rfl, _⟩ := id n2.v.sl
     have hba := zca w3 (.cells #[.bool (decide (q < 0)), .slice a31 l31 k31, .slice a32 l32 k32] 38)
     have HC3 := zH (C3.new w3 38 (.bool (decide (q < 0))) (.slice a31 l31 k31) (.slice a32 l32 k32))
     have HN1 := zH (n1.below hba).nat
     have HN2 := zH (n2.below hba).nat
     have HB3 := zH (zaa HB.out (zaa hb3 hba))
     clear c0 c1 c2 hv3 hb3 hba n1 n2))
  obtain ⟨b3, hb3⟩ : ∃ b, w3.heap.size = b := ⟨_, rfl⟩
  rw [hb3] at HC3 ⊢
  clear hb3
  generalize w3.alloc (.cells #[.bool (decide (q < 0)), .slice a31 l31 k31, .slice a32 l32 k32] 38) = W3 at *
  obtain ⟨_, c0, c1, c2, _, _, _⟩ := HC3.out
  obtain ⟨m1, hm1⟩ : ∃ m, zta q.num.natAbs = m := ⟨_, rfl⟩
  obtain ⟨m2, hm2⟩ : ∃ m, zta q.den = m := ⟨_, rfl⟩
  have HM1 := zH hm1
  have HM2 := zH hm2
  have HZ : Hid (m1 = 0 → ¬ 0 < q) := zH (fun h0 hq0 => by
   rw [← hm1] at h0
   have h3 : q.num.natAbs < 2 ^ 0 := zub.1 (Nat.le_of_eq h0)
   have h4 : q.num.natAbs = 0 := by simpa using h3
   rw [Rat.num_eq_zero.1 (Int.natAbs_eq_zero.1 h4)] at hq0
   exact absurd hq0 (by decide))
  have HNZ : Hid (¬ q < 0 → m1 ≠ 0 → 0 < q) := zH (fun h0 h3 => by
   have h4 : q ≠ 0 := fun e => by
    rw [e] at hm1
    exact h3 (by rw [← hm1]; decide)
   grind)
  rw [hm1, hm2] at HPQ
  clear hm1 hm2
  have HEND : Hid (∀ b : Bool, (b = true ↔ (0 < q ∧ m1 ≤ 32 ∧ m2 ≤ 32)) → decide (zkd s n d) = b) := zH (fun b hb => by
   cases b with
   | true => exact decide_eq_true (HPQ.out.2 (hb.1 rfl))
   | false => exact decide_eq_false (fun h => by have := hb.2 (HPQ.out.1 h); cases this))
  by_cases h1 : q < 0
  ·have e1 : decide (q < 0) = true := decide_eq_true h1
   go_wp2_with (first
    |(go_at_call 156; (with_reducible refine (zwa _ q.num.natAbs _ HN1.out).mono ?_); rw [HM1.out]; rintro e4 w4 ⟨rfl, rfl⟩)
    |(go_at_call 156; (with_reducible refine (zwa _ q.den _ HN2.out).mono ?_); rw [HM2.out]; rintro e5 w5 ⟨rfl, rfl⟩))
   go_ret
   exact ⟨by rw [HEND.out false (by simp; intro h; exact absurd (Rat.le_of_lt h) (Rat.not_le.2 h1))]; rfl, HB3.out⟩
  ·have e1 : decide (q < 0) = false := decide_eq_false h1
   by_cases h2 : m1 = 0
   ·have e2 : decide ((0 : Int) < (m1 : Nat)) = false := decide_eq_false (by omega)
    go_wp2_with (first
     |(go_at_call 156; (with_reducible refine (zwa _ q.num.natAbs _ HN1.out).mono ?_); rw [HM1.out]; rintro e4 w4 ⟨rfl, rfl⟩)
     |(go_at_call 156; (with_reducible refine (zwa _ q.den _ HN2.out).mono ?_); rw [HM2.out]; rintro e5 w5 ⟨rfl, rfl⟩))
    go_ret
    exact ⟨by rw [HEND.out false (by simp; intro h; exact absurd h (HZ.out h2))]; rfl, HB3.out⟩
   ·have e2 : decide ((0 : Int) < (m1 : Nat)) = true := decide_eq_true (by omega)
    by_cases h3 : m1 ≤ 32
    ·have e3 : decide (((m1 : Nat) : Int) ≤ 32) = true := decide_eq_true (by omega)
     by_cases h4 : m2 ≤ 32
     ·have e4 : decide (((m2 : Nat) : Int) ≤ 32) = true := decide_eq_true (by omega)
      go_wp2_with (first
       |(go_at_call 156; (with_reducible refine (zwa _ q.num.natAbs _ HN1.out).mono ?_); rw [HM1.out]; rintro e4 w4 ⟨rfl, rfl⟩)
       |(go_at_call 156; (with_reducible refine (zwa _ q.den _ HN2.out).mono ?_); rw [HM2.out]; rintro e5 w5 ⟨rfl, rfl⟩))
      go_ret
      exact ⟨by rw [HEND.out true ⟨fun _ => ⟨HNZ.out h1 h2, h3, h4⟩, fun _ => rfl⟩]; rfl, HB3.out⟩
     ·have e4 : decide (((m2 : Nat) : Int) ≤ 32) = false := decide_eq_false (by omega)
      go_wp2_with (first
       |(go_at_call 156; (with_reducible refine (zwa _ q.num.natAbs _ HN1.out).mono ?_); rw [HM1.out]; rintro e4 w4 ⟨rfl, rfl⟩)
       |(go_at_call 156; (with_reducible refine (zwa _ q.den _ HN2.out).mono ?_); rw [HM2.out]; rintro e5 w5 ⟨rfl, rfl⟩))
      go_ret
      exact ⟨by rw [HEND.out false (by simp; intro _ _; omega)]; rfl, HB3.out⟩
    ·have e3 : decide (((m1 : Nat) : Int) ≤ 32) = false := decide_eq_false (by omega)
     go_wp2_with (first
      |(go_at_call 156; (with_reducible refine (zwa _ q.num.natAbs _ HN1.out).mono ?_); rw [HM1.out]; rintro e4 w4 ⟨rfl, rfl⟩)
      |(go_at_call 156; (with_reducible refine (zwa _ q.den _ HN2.out).mono ?_); rw [HM2.out]; rintro e5 w5 ⟨rfl, rfl⟩))
     go_ret
     exact ⟨by rw [HEND.out false (by simp; intro _ _; omega)]; rfl, HB3.out⟩
 ·have HRED : Hid (∀ w0 vx, zlb w0 vx s n d → Calls Tryz.prog 89 #[vx] w0 (fun e w' => e = .returned (.tuple #[.agg #[.bool false, .slice none 0 0, .slice none 0 0], .int .i64 1]) ∧ Below w0.heap.size w0 w')) := zH (fun w0 vx h => by
   refine (zxe vx _ _ _ w0 h).mono ?_
   rintro e w' ⟨v, er, rfl, hb, _, h1⟩
   obtain ⟨rfl, rfl⟩ := h1 hk
   exact ⟨rfl, hb⟩)
  have HF : Hid (decide (zkd s n d) = false) := zH (decide_eq_false (fun h => hk h.1))
  clear hk
  go_enter Tryz.func86, Tryz.ntmps86
  go_wp2_with (first
   |(go_at_call 89; (with_reducible refine (HRED.out _ _ HA.out).mono ?_); rintro e3 w3 ⟨rfl, hb3⟩
     have HB3 := zH (zaa HB.out (zaa hb3 (zca w3 (.cells #[.bool false, .slice none 0 0, .slice none 0 0] 38))))))
  go_ret
  exact ⟨by rw [HF.out]; rfl, HB3.out⟩
end Go.Proofs.YtlpdkbmmbdfoiaaGreat
