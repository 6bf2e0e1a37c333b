/-
  Raw data as lists of limbs of any length.
-/
import Derived.Test.YtlpdkbmmbdfoiaaGreatSPh14
import Derived.Test.YtlpdkbmmbdfoiaaGreatSEl2
import Derived.Test.YtlpdkbmmbdfoiaaGreatSPp2
import Derived.Test.YtlpdkbmmbdfoiaaGreatSSm4
import Derived.Test.YtlpdkbmmbdfoiaaGreatSPh11
import Derived.Test.YtlpdkbmmbdfoiaaGreatSPh15
import Derived.Test.YtlpdkbmmbdfoiaaGreatSRa2
import Derived.Test.YtlpdkbmmbdfoiaaGreatSFr3a
set_option linter.unusedVariables false
set_option linter.unusedSimpArgs false
namespace Go.Proofs.YtlpdkbmmbdfoiaaGreat
open Go.RowKit
set_option maxRecDepth 100000 in
set_option maxHeartbeats 3200000 in
theorem pmean_any (va : Value) (l : LQ) (w : World) (ha : zxl w va l) (hl : zkc l) (hp : MomP l 1 1) : Calls Tryz.prog 36 #[va] w (RF0 w (momQ l 1)) := by
 obtain ⟨nm, sv, rv, ev, rfl, hs, hr, he⟩ := id ha
 obtain ⟨ra, rn, rk, rfl, _⟩ := id hr.sl
 obtain ⟨sa, sn, sk, rfl, _⟩ := id hs.sl
 obtain ⟨ea, en, ek, rfl, _⟩ := id he.sl
 have hba := zca w (.cells #[nm, .slice sa sn sk, .slice ra rn rk, .slice ea en ek] 52)
 have hbb := zca (w.alloc (.cells #[nm, .slice sa sn sk, .slice ra rn rk, .slice ea en ek] 52)) (.cells #[.bool false, .slice none 0 0, .slice none 0 0] 38)
 have HC := zH ((C4.new w 52 nm (.slice sa sn sk) (.slice ra rn rk) (.slice ea en ek)).belowS hbb)
 have HT := zH (C3.newB (b := w.heap.size + 1) (w.alloc (.cells #[nm, .slice sa sn sk, .slice ra rn rk, .slice ea en ek] 52)) 38 (.bool false) (.slice none 0 0) (.slice none 0 0) (by show (w.heap.push _).size = _; rw [Array.size_push]))
 have HBW := zH (zaa hba hbb)
 have HA := zH (ha.below HBW.out)
 have HM1 : Hid (∀ w0, zxl w0 (.agg #[nm, .slice sa sn sk, .slice ra rn rk, .slice ea en ek]) l → Calls Tryz.prog 37 #[.agg #[nm, .slice sa sn sk, .slice ra rn rk, .slice ea en ek], .int .i64 1] w0 (RF0 w0 (momQ l 1))) := zH (fun w0 h => pmoment_any _ l 1 w0 h hl (Nat.le_refl _) (by decide) hp)
 clear ha hl hp hs hr he hba hbb
 go_enter Tryz.func36, Tryz.ntmps36
 go_upto_region 1 with fail
 generalize (w.alloc (.cells #[nm, .slice sa sn sk, .slice ra rn rk, .slice ea en ek] 52)).alloc (.cells #[.bool false, .slice none 0 0, .slice none 0 0] 38) = W2 at *
 obtain ⟨_, c0, c1, c2, c3, _⟩ := HC.out
 go_wp2_with (first
  |(go_at_call 37; (with_reducible refine (HM1.out _ HA.out).mono ?_); rintro e4 w4 ⟨v4, rfl, hv4, hb4⟩
    obtain ⟨t9, x9, y9, rfl, ⟨a91, l91, k91, rfl, _⟩, ⟨a92, l92, k92, rfl, _⟩⟩ := hv4.isF
    have HT9 := zH (HT.out.belowS hb4)
    have HB9 := zH (zaa HBW.out hb4)
    have HV9 := zH hv4
    obtain ⟨_, d0, d1, d2, f0, f1, f2⟩ := HT9.out
    clear hv4 hb4 c0 c1 c2 c3))
 refine zoa rfl rfl Tryz.aggF Tryz.sizeF (HT9.out.set _ _ _) rfl ?_
 exact ⟨_, rfl, HV9.out.set3 HT9.out (fun z => by simp) (fun z => by simp) _ _ _, zha HB9.out (Nat.le_succ _) _ _ _⟩
set_option maxRecDepth 100000 in
set_option maxHeartbeats 3200000 in
/-- The zero value of a law has no mean. -/
theorem pmoment_zero (n : Nat) (w : World) : Calls Tryz.prog 37 #[zdf, .int .i64 (n : Nat)] w (fun e w' => e = .returned (.tuple #[.agg #[.bool false, .slice none 0 0, .slice none 0 0], .int .i64 1]) ∧ Below w.heap.size w w') := by
 unfold zdf
 have hba := zca w (.cells #[.string { data := #[] }, .slice none 0 0, .slice none 0 0, .slice none 0 0] 52)
 have hbb := zca (w.alloc (.cells #[.string { data := #[] }, .slice none 0 0, .slice none 0 0, .slice none 0 0] 52)) (.cells #[.bool false, .slice none 0 0, .slice none 0 0] 38)
 have HC := zH ((C4.new w 52 (.string { data := #[] }) (.slice none 0 0) (.slice none 0 0) (.slice none 0 0)).belowS hbb)
 have HT := zH (C3.newB (b := w.heap.size + 1) (w.alloc (.cells #[.string { data := #[] }, .slice none 0 0, .slice none 0 0, .slice none 0 0] 52)) 38 (.bool false) (.slice none 0 0) (.slice none 0 0) (by show (w.heap.push _).size = _; rw [Array.size_push]))
 have HBW := zH (zaa hba hbb)
 clear hba hbb
 go_enter Tryz.func37, Tryz.ntmps37
 go_upto_region 1 with fail
 generalize (w.alloc (.cells #[.string { data := #[] }, .slice none 0 0, .slice none 0 0, .slice none 0 0] 52)).alloc (.cells #[.bool false, .slice none 0 0, .slice none 0 0] 38) = W2 at *
 obtain ⟨_, c0, c1, c2, c3, _⟩ := HC.out
 go_wp2_with (first
  |(go_at_call 58; (with_reducible refine (zrm _ _).mono ?_); rintro e4 w4 ⟨rfl, hb4⟩
    have HT9 := zH (HT.out.belowS hb4)
    have HB9 := zH (zaa HBW.out hb4)
    obtain ⟨_, d0, d1, d2, f0, f1, f2⟩ := HT9.out
    clear hb4 c0 c1 c2 c3))
 refine zoa rfl rfl Tryz.aggF Tryz.sizeF (HT9.out.set _ _ _) rfl ?_
 exact ⟨rfl, zha HB9.out (Nat.le_succ _) _ _ _⟩
set_option maxRecDepth 100000 in
set_option maxHeartbeats 3200000 in
theorem pmean_zero (w : World) : Calls Tryz.prog 36 #[zdf] w (fun e w' => e = .returned (.tuple #[.agg #[.bool false, .slice none 0 0, .slice none 0 0], .int .i64 1]) ∧ Below w.heap.size w w') := by
 unfold zdf
 have hba := zca w (.cells #[.string { data := #[] }, .slice none 0 0, .slice none 0 0, .slice none 0 0] 52)
 have hbb := zca (w.alloc (.cells #[.string { data := #[] }, .slice none 0 0, .slice none 0 0, .slice none 0 0] 52)) (.cells #[.bool false, .slice none 0 0, .slice none 0 0] 38)
 have HC := zH ((C4.new w 52 (.string { data := #[] }) (.slice none 0 0) (.slice none 0 0) (.slice none 0 0)).belowS hbb)
 have HT := zH (C3.newB (b := w.heap.size + 1) (w.alloc (.cells #[.string { data := #[] }, .slice none 0 0, .slice none 0 0, .slice none 0 0] 52)) 38 (.bool false) (.slice none 0 0) (.slice none 0 0) (by show (w.heap.push _).size = _; rw [Array.size_push]))
 have HBW := zH (zaa hba hbb)
 have HZ : Hid (∀ w0, Calls Tryz.prog 37 #[.agg #[.string { data := #[] }, .slice none 0 0, .slice none 0 0, .slice none 0 0], .int .i64 1] w0 (fun e w' => e = .returned (.tuple #[.agg #[.bool false, .slice none 0 0, .slice none 0 0], .int .i64 1]) ∧ Below w0.heap.size w0 w')) := zH (fun w0 => pmoment_zero 1 w0)
 clear hba hbb
 go_enter Tryz.func36, Tryz.ntmps36
 go_upto_region 1 with fail
 generalize (w.alloc (.cells #[.string { data := #[] }, .slice none 0 0, .slice none 0 0, .slice none 0 0] 52)).alloc (.cells #[.bool false, .slice none 0 0, .slice none 0 0] 38) = W2 at *
 obtain ⟨_, c0, c1, c2, c3, _⟩ := HC.out
 go_wp2_with (first
  |(go_at_call 37; (with_reducible refine (HZ.out _).mono ?_); rintro e4 w4 ⟨rfl, hb4⟩
    have HT9 := zH (HT.out.belowS hb4)
    have HB9 := zH (zaa HBW.out hb4)
    obtain ⟨_, d0, d1, d2, f0, f1, f2⟩ := HT9.out
    clear hb4 c0 c1 c2 c3))
 refine zoa rfl rfl Tryz.aggF Tryz.sizeF (HT9.out.set _ _ _) rfl ?_
 exact ⟨rfl, zha HB9.out (Nat.le_succ _) _ _ _⟩
end Go.Proofs.YtlpdkbmmbdfoiaaGreat
namespace Go.Proofs.YtlpdkbmmbdfoiaaGreat
theorem zil {A B : Nat} (h : A ≤ B) : ∀ n, dtB n A ≤ dtB n B
 | 0 => Nat.le_refl _
 | n + 1 => Nat.mul_le_mul_left _ (Nat.mul_le_mul h (zil h n))
theorem bD_mono {D E β : Nat} (h : D ≤ E) : bD D β ≤ bD E β := by
 unfold bD
 exact Nat.mul_le_mul (Nat.mul_le_mul (Nat.mul_le_mul_right _ h) h) (Nat.mul_le_mul_left _ h)
theorem bW_mono {n D E B C β : Nat} (h : D ≤ E) (h2 : B ≤ C) : bW n D B β ≤ bW n E C β := by
 unfold bW
 exact Nat.add_le_add (Nat.mul_le_mul h2 (Nat.mul_le_mul_left _ h)) (Nat.mul_le_mul_left _ (Nat.mul_le_mul (Nat.mul_le_mul_left _ (Nat.mul_le_mul_right _ h2)) h2))
theorem bN_mono {n D E B C β : Nat} (h : D ≤ E) (h2 : B ≤ C) : bN n D B β ≤ bN n E C β := by
 unfold bN
 exact Nat.add_le_add (bW_mono h h2) (Nat.mul_le_mul_left _ (Nat.mul_le_mul (Nat.mul_le_mul_right _ (bW_mono h h2)) h2))
theorem slimR.mono2 {n D0 B0 β F0 K0 D B F K : Nat} (h : slimR n D0 B0 β F0 K0) (d1 : D ≠ 0) (d2 : D ≤ D0) (b1 : D ≤ B) (b2 : B ≤ B0) (f1 : 1 ≤ F) (f2 : F ≤ F0) (k1 : 1 ≤ K) (k2 : K ≤ K0) : slimR n D B β F K := by
 obtain ⟨a1, a2, a3, a4, a5, a6, a7, a8, a9⟩ := h
 have hD : bD D β ≤ bD D0 β := bD_mono d2
 have hW : bW n D B β ≤ bW n D0 B0 β := bW_mono d2 b2
 have hN : bN n D B β ≤ bN n D0 B0 β := bN_mono d2 b2
 have hx : bD D β * bN n D B β * (bD D β * F) ≤ bD D0 β * bN n D0 B0 β * (bD D0 β * F0) := Nat.mul_le_mul (Nat.mul_le_mul hD hN) (Nat.mul_le_mul hD f2)
 refine ⟨Nat.le_trans (zil b2 n) a1, d1, b1, f1, k1, Nat.lt_of_le_of_lt ?_ a6, Nat.lt_of_le_of_lt ?_ a7, Nat.lt_of_le_of_lt ?_ a8, Nat.lt_of_le_of_lt ?_ a9⟩
 ·exact Nat.mul_le_mul (Nat.mul_le_mul hD f2) hx
 ·exact Nat.add_le_add (Nat.mul_le_mul (Nat.mul_le_mul hN k2) hx) (Nat.mul_le_mul (Nat.mul_le_mul (Nat.mul_le_mul hN hD) (Nat.mul_le_mul hN k2)) (Nat.mul_le_mul hD f2))
 ·exact Nat.pow_le_pow_left (Nat.mul_le_mul (Nat.mul_le_mul_right _ d2) d2) n
 ·exact Nat.pow_le_pow_left hW n
theorem slim4R : ∀ n, n < 5 → slimR n 6720 1814400 (dtB n 1814400) (2 ^ 90) (2 ^ 92) := by
 intro n hn
 have h : ∀ n, n < 5 → (bD 6720 (dtB n 1814400) * 2 ^ 90 * (bD 6720 (dtB n 1814400) * bN n 6720 1814400 (dtB n 1814400) * (bD 6720 (dtB n 1814400) * 2 ^ 90)) < 2 ^ 4096 ∧
  bN n 6720 1814400 (dtB n 1814400) * 2 ^ 92 * (bD 6720 (dtB n 1814400) * bN n 6720 1814400 (dtB n 1814400) * (bD 6720 (dtB n 1814400) * 2 ^ 90)) + bN n 6720 1814400 (dtB n 1814400) * bD 6720 (dtB n 1814400) * (bN n 6720 1814400 (dtB n 1814400) * 2 ^ 92) * (bD 6720 (dtB n 1814400) * 2 ^ 90) < 2 ^ 4096 ∧
  (6720 * dtB n 1814400 * 6720) ^ n < 2 ^ 4096 ∧ (bW n 6720 1814400 (dtB n 1814400)) ^ n < 2 ^ 4096) := by decide +kernel
 obtain ⟨h1, h2, h3, h4⟩ := h n hn
 exact ⟨Nat.le_refl _, by decide, by decide, by decide +kernel, by decide +kernel, h1, h2, h3, h4⟩
theorem dtB4 : ∀ n, n < 5 → dtB n 1814400 < 2 ^ 89 := by decide +kernel
section
variable {n D B : Nat} {A : Mx}
structure SmS (n D B : Nat) (A : Mx) : Prop where
 n1 : 1 ≤ n
 n4 : n ≤ 4
 d0 : D ≠ 0
 d1 : D ≤ 6720
 b0 : D ≤ B
 b1 : B ≤ 1814400
 a : overT n n D B A
 reg : dt n A ≠ 0
theorem ztc {a x : Nat} (h : x < 2 ^ a) (ha : a ≤ 4096) : x < 2 ^ 4096 := by
 generalize 4096 = m at *
 exact Nat.lt_of_lt_of_le h (Nat.pow_le_pow_right (by decide) ha)
theorem SmS.fitA (h : SmS n D B A) : fitM n n A := fun i j hi hj => (h.a i j hi hj).fits h.d0 (ztc (a := 21) (Nat.lt_of_le_of_lt h.b1 (by decide)) (by decide)) (ztc (a := 13) (Nat.lt_of_le_of_lt h.d1 (by decide)) (by decide))
theorem SmS.wtA (h : SmS n D B A) : wtF n n A ≤ 544 := by
 have h1 := wtF_le (K := 34) (n := n) (m := n) (A := A) fun i j hi hj => (h.a i j hi hj).wt (a := 21) (b := 13) h.d0 (Nat.lt_of_le_of_lt h.b1 (by decide)) (Nat.lt_of_le_of_lt h.d1 (by decide))
 have h2 : n * (n * 34) ≤ 4 * (4 * 34) := Nat.mul_le_mul h.n4 (Nat.mul_le_mul_right _ h.n4)
 omega
theorem SmS.sol (h : SmS n D B A) {F K : Nat} {b x : Nat → Rat} (hF : F ≠ 0) (hb : ∀ i, i < n → over F K (b i)) (hx : ∀ i, i < n → sg n (fun j => A i j * x j) = b i) :
 ∃ E, E ≠ 0 ∧ E < 2 ^ 89 ∧ ∀ i, i < n → over (E * F) (2 ^ 91 * K) (x i) := by
 obtain ⟨E, h1, h2, h3⟩ := sol_gen h.d0 h.b0 h.a h.reg hF hb hx
 have h4 := dtB4 n (by have := h.n4; omega)
 have h5 := Nat.lt_of_le_of_lt (zil h.b1 n) h4
 refine ⟨E, h1, Nat.lt_of_le_of_lt h2 h5, fun i hi => (h3 i hi).mono ?_⟩
 have h6 : n * (dtB n B * K) ≤ 4 * (2 ^ 89 * K) := Nat.mul_le_mul h.n4 (Nat.mul_le_mul_right _ (Nat.le_of_lt h5))
 refine Nat.le_trans h6 (Nat.le_of_eq ?_)
 rw [← Nat.mul_assoc]
theorem SmS.slim (h : SmS n D B A) {F K : Nat} {b : Nat → Rat} (hF : F ≠ 0) (hF2 : F ≤ 2 ^ 90) (hK1 : 1 ≤ K) (hK : K ≤ 2 ^ 92) (hb : ∀ i, i < n → over F K (b i)) : slimE false n (n + 1) n (zpa n A (fun i _ => b i)) := by
 have hx := (slim4R n (by have := h.n4; omega)).mono2 h.d0 h.d1 h.b0 h.b1 (Nat.pos_of_ne_zero hF) hF2 hK1 hK
 refine slimE_right hx (by have := h.n1; omega) (Nat.le_succ n) (fun i j hi hj => ?_) (fun i j hi hj1 hj2 => ?_) (zye (B := fun i _ => b i) h.reg)
 ·rw [zwd hj]; exact h.a i j hi hj
 ·have e : zpa n A (fun i _ => b i) i j = b i := by unfold zpa; rw [if_neg (Nat.not_lt.2 hj1)]
  rw [e]
  have h1 := over.scale (m := D) h.d0 (hb i hi)
  rw [Nat.mul_comm F D] at h1
  refine h1.mono ?_
  rw [Nat.mul_comm B K]
  exact Nat.mul_le_mul_left _ h.b0
theorem SmS.sys (h : SmS n D B A) {F K : Nat} {b x : Nat → Rat} (hF : F ≠ 0) (hF2 : F < 2 ^ 90) (hK1 : 1 ≤ K) (hK : K < 2 ^ 92) (hb : ∀ i, i < n → over F K (b i)) (hx : ∀ i, i < n → sg n (fun j => A i j * x j) = b i) : SysOk n A b x := by
 obtain ⟨E, e1, e2, e3⟩ := h.sol hF hb hx
 refine ⟨h.n1, by have := h.n4; omega, h.fitA, fun i hi => (hb i hi).fits hF (ztc (a := 92) hK (by decide)) (ztc (a := 90) hF2 (by decide)), fun i hi => (e3 i hi).fits (Nat.mul_ne_zero e1 hF) (ztc (a := 183) ?_ (by decide)) (ztc (a := 179) ?_ (by decide)), ?_, h.reg, h.slim hF (Nat.le_of_lt hF2) hK1 (Nat.le_of_lt hK) hb, hx⟩
 ·have : 2 ^ 91 * K < 2 ^ 91 * 2 ^ 92 := Nat.mul_lt_mul_of_pos_left hK (by decide +kernel)
  exact Nat.lt_of_lt_of_le this (by decide +kernel)
 ·have : E * F ≤ 2 ^ 89 * F := Nat.mul_le_mul_right _ (Nat.le_of_lt e2)
  have h2 : 2 ^ 89 * F < 2 ^ 89 * 2 ^ 90 := Nat.mul_lt_mul_of_pos_left hF2 (by decide +kernel)
  exact Nat.lt_of_lt_of_le (Nat.lt_of_le_of_lt this h2) (by decide +kernel)
 ·have h1 := h.wtA
  have h2 := wts_all3 (l := zfb n b) (K := 182) fun q hq => by
   unfold zfb at hq
   obtain ⟨i, hi, rfl⟩ := List.mem_map.1 hq
   exact (hb i (List.mem_range.1 hi)).wt (a := 92) (b := 90) hF hK hF2
  rw [zfa] at h2
  have := h.n4
  omega
end
theorem zwf : over 1 1 1 := over.one (by decide)
section
variable {l : LQ} {D B : Nat}
theorem zkc.sms (h : zkc l) (hs : SmL D B l) (hD : D ≠ 0) (hD1 : D ≤ 6720) (hB : D ≤ 5 * B) (hB1 : 5 * B ≤ 1814400) : SmS l.start.length D (5 * B) (phA l) :=
 ⟨h.n1, h.n4, hD, hD1, hB, hB1, hs.phA h hD, h.reg⟩
theorem zvj {N : Nat} {s x : Nat → Rat} {f DS E K : Nat} (hN : N ≤ 1000) (hN4 : N ≤ 16) (hf : f < 100) (hDS : DS ≠ 0) (hDS2 : DS ≤ 2 ^ 13) (hs : ∀ i, i < N → over DS (2 ^ 13) (s i)) (hE : E ≠ 0) (hE2 : E < 2 ^ 200) (hK : K < 2 ^ 200) (hx : ∀ i, i < N → over E K (x i)) :
 ScaP (zfb N s) (zfb N x) f := by
 have hlen : (zfb N s).length = N := zfa N s
 have g1 : ∀ t, t < N → (zfb N s).getD t 0 = s t := fun t ht => by rw [List.getD_eq_getElem?_getD, List.getElem?_eq_getElem (by rw [zfa]; exact ht), Option.getD_some, ztb]
 have g2 : ∀ t, t < N → (zfb N x).getD t 0 = x t := fun t ht => by rw [List.getD_eq_getElem?_getD, List.getElem?_eq_getElem (by rw [zfa]; exact ht), Option.getD_some, ztb]
 have hP : ∀ t, t < N → over (DS * E) (2 ^ 13 * K) (s t * x t) := fun t ht => over.mul (hs t ht) (hx t ht)
 have hDE : DS * E ≠ 0 := Nat.mul_ne_zero hDS hE
 have b1 : DS * E < 2 ^ 213 := by
  have h1 : DS * E ≤ 2 ^ 13 * E := Nat.mul_le_mul_right _ hDS2
  have h2 : 2 ^ 13 * E < 2 ^ 13 * 2 ^ 200 := Nat.mul_lt_mul_of_pos_left hE2 (by decide +kernel)
  exact Nat.lt_of_lt_of_le (Nat.lt_of_le_of_lt h1 h2) (by decide +kernel)
 have b2 : 2 ^ 13 * K < 2 ^ 213 := Nat.lt_of_lt_of_le (Nat.mul_lt_mul_of_pos_left hK (by decide +kernel)) (by decide +kernel)
 have hS : ∀ k, k ≤ N → over (DS * E) (16 * (2 ^ 13 * K)) (dotL (zfb N s) (zfb N x) k) := fun k hk => by
  unfold dotL
  rw [Rat.zero_add]
  have h1 : sg k (fun t => (zfb N s).getD t 0 * (zfb N x).getD t 0) = sg k fun t => s t * x t := zma fun t ht => by rw [g1 t (by omega), g2 t (by omega)]
  rw [h1]
  exact (over.sg hDE fun t ht => hP t (by omega)).mono (Nat.mul_le_mul_right _ (by omega))
 have b3 : 16 * (2 ^ 13 * K) < 2 ^ 217 := Nat.lt_of_lt_of_le (Nat.mul_lt_mul_of_pos_left b2 (by decide)) (by decide +kernel)
 refine ⟨by rw [zfa, zfa], by rw [hlen]; exact hN, hf, fun t ht => ?_, fun k hk => ?_, ?_⟩
 ·rw [hlen] at ht
  rw [g1 t ht, g2 t ht]
  refine ⟨(hs t ht).fits hDS (ztc (a := 14) (by decide) (by decide)) (ztc (a := 14) (Nat.lt_of_le_of_lt hDS2 (by decide)) (by decide)), (hx t ht).fits hE (ztc hK (by decide)) (ztc hE2 (by decide)), (hP t ht).fits hDE (ztc b2 (by decide)) (ztc b1 (by decide))⟩
 ·rw [hlen] at hk
  exact (hS k hk).fits hDE (ztc b3 (by decide)) (ztc b1 (by decide))
 ·rw [hlen]
  have hfo : over 1 100 (fq false f 1) := by
   refine ⟨(f : Int), ?_, by simp; omega⟩
   unfold fq sgn
   simp
  have h1 := over.mul (hS N (Nat.le_refl _)) hfo
  rw [Nat.mul_one] at h1
  refine h1.fits hDE (ztc (a := 224) ?_ (by decide)) (ztc b1 (by decide))
  exact Nat.lt_of_lt_of_le (Nat.mul_lt_mul_of_pos_right b3 (by decide)) (by decide +kernel)
theorem start_row (l : LQ) : zfb l.start.length (stQ l) = l.start := rowL_of l.start
theorem mom_small (h : zkc l) (hs : SmL D B l) (hD : D ≠ 0) (hD1 : D ≤ 6720) (hB : D ≤ 5 * B) (hB1 : 5 * B ≤ 1814400) {DS : Nat} (hDS : DS ≠ 0) (hDS2 : DS ≤ 2 ^ 13) (hst : ∀ i, i < l.start.length → over DS (2 ^ 13) (stQ l i)) : MomP l 1 1 ∧ MomP l 2 2 := by
 have hS := h.sms hs hD hD1 hB hB1
 have x1 := h.mom_eq 0
 have x2 := h.mom_eq 1
 obtain ⟨E1, a1, a2, a3⟩ := hS.sol (F := 1) (K := 1) (by decide) (fun i _ => zwf) x1
 rw [Nat.mul_one] at a3
 have e91 : 2 ^ 91 * 1 = 2 ^ 91 := Nat.mul_one _
 rw [e91] at a3
 obtain ⟨E2, c1, c2, c3⟩ := hS.sol (F := E1) (K := 2 ^ 91) a1 a3 x2
 have s1 : SysOk l.start.length (phA l) (zhm l 0) (zhm l 1) := hS.sys (F := 1) (K := 1) (by decide) (by decide +kernel) (by decide) (by decide +kernel) (fun i _ => zwf) x1
 have s2 : SysOk l.start.length (phA l) (zhm l 1) (zhm l 2) := hS.sys (F := E1) (K := 2 ^ 91) a1 (Nat.lt_trans a2 (by decide +kernel)) (by decide +kernel) (by decide +kernel) a3 x2
 have n4 := h.n4
 refine ⟨⟨fun m hm => ?_, ?_⟩, ⟨fun m hm => ?_, ?_⟩⟩
 ·obtain rfl : m = 0 := by omega
  exact s1
 ·have h1 := zvj (N := l.start.length) (f := 1) (by omega) (by omega) (by decide) hDS hDS2 hst a1 (Nat.lt_trans a2 (by decide +kernel)) (by decide +kernel) a3
  rwa [start_row] at h1
 ·rcases (show m = 0 ∨ m = 1 by omega) with rfl | rfl
  ·exact s1
  ·exact s2
 ·have hE : E2 * E1 < 2 ^ 178 := Nat.lt_of_lt_of_le (Nat.mul_lt_mul'' c2 a2) (by decide +kernel)
  have h1 := zvj (N := l.start.length) (f := 2) (by omega) (by omega) (by decide) hDS hDS2 hst (Nat.mul_ne_zero c1 a1) (Nat.lt_trans hE (by decide +kernel)) (by decide +kernel) c3
  rwa [start_row] at h1
end
theorem zyk {l : List Rat} {k i : Nat} {x : Rat} (hk : k < l.length) : (l.set k x).getD i 0 = if i = k then x else l.getD i 0 := by
 rw [List.getD_eq_getElem?_getD, List.getD_eq_getElem?_getD, List.getElem?_set]
 by_cases h : k = i
 ·subst h; rw [if_pos rfl, if_pos rfl, if_pos hk]; rfl
 ·rw [if_neg h, if_neg (fun e => h e.symm)]
theorem zng (n i : Nat) : (zua n).getD i 0 = 0 := by
 rw [List.getD_eq_getElem?_getD]
 unfold zua
 by_cases h : i < n
 ·rw [List.getElem?_replicate, if_pos h]; rfl
 ·rw [List.getElem?_replicate, if_neg h]; rfl
section
variable {n : Nat} {q : Rat}
theorem zzf (n : Nat) (q : Rat) : (erlQ n q).start.length = n := by
 show ((zua n).set 0 1).length = n
 rw [List.length_set, zna]
theorem erl_st (hn : 1 ≤ n) (i : Nat) : stQ (erlQ n q) i = if i = 0 then 1 else 0 := by
 show ((zua n).set 0 1).getD i 0 = _
 rw [zyk (by rw [zna]; exact hn), zng]
theorem erl_ex (hn : 1 ≤ n) (i : Nat) : exQ (erlQ n q) i = if i = n - 1 then q else 0 := by
 show ((zua n).set (n - 1) q).getD i 0 = _
 rw [zyk (by rw [zna]; omega), zng]
theorem erl_rt {i j : Nat} (hi : i < n) (hj : j < n) : rtQ (erlQ n q) i j = if j = i + 1 then q else 0 := by
 have h1 : i < (zzh n q (n - 1)).length := by rw [zob]; exact hi
 show ((zzh n q (n - 1)).getD i []).getD j 0 = _
 have e1 : (zzh n q (n - 1)).getD i [] = (zzh n q (n - 1))[i] := by rw [List.getD_eq_getElem?_getD, List.getElem?_eq_getElem h1]; rfl
 rw [e1, zle]
 by_cases h : i < n - 1
 ·rw [if_pos h, zyk (by rw [zna]; omega), zng]
 ·rw [if_neg h, zng, if_neg (by omega)]
theorem limQ_zero : zqg 0 := ⟨Rat.le_refl, by decide, by decide⟩
theorem limQ_one : zqg 1 := ⟨by decide +kernel, by decide +kernel, by decide +kernel⟩
theorem mem_zeros {x : Rat} (h : x ∈ zua n) : x = 0 := (List.mem_replicate.1 h).2
theorem lim_set {k : Nat} {x : Rat} (hx : zqg x) : ∀ y ∈ (zua n).set k x, zqg y := fun y hy => by
 rcases List.mem_or_eq_of_mem_set hy with h | h
 ·rw [mem_zeros h]; exact limQ_zero
 ·rw [h]; exact hx
theorem erl_law (hn : 1 ≤ n) (hn4 : n ≤ 4) (hq : zqg q) (h0 : 0 < q) : zkc (erlQ n q) where
 n1 := by rw [zzf]; exact hn
 n4 := by rw [zzf]; exact hn4
 el := by rw [zzf]; show ((zua n).set (n - 1) q).length = n; rw [List.length_set, zna]
 rl := by rw [zzf]; exact zob n q (n - 1)
 st := lim_set limQ_one
 ex := lim_set hq
 row := fun i h => by
  have h' : i < (zzh n q (n - 1)).length := h
  have hi : i < n := by rwa [zob] at h'
  refine ⟨by rw [zzf]; exact zmf n q (n - 1) i h, fun y hy => ?_, ?_⟩
  ·replace hy : y ∈ (zzh n q (n - 1))[i]'h' := hy
   rw [zle] at hy
   split at hy
   ·exact lim_set hq y hy
   ·rw [mem_zeros hy]; exact limQ_zero
  ·have h3 := erl_rt (q := q) hi hi
   rw [if_neg (by omega)] at h3
   unfold rtQ at h3
   have e1 : (erlQ n q).rates.getD i [] = (erlQ n q).rates[i] := by rw [List.getD_eq_getElem?_getD, List.getElem?_eq_getElem h]; rfl
   rw [e1] at h3
   exact h3
 sum := by
  rw [lsum_sg, zzf]
  have e : (fun j => (erlQ n q).start.getD j 0) = fun j => if 0 = j then (1 : Rat) else 0 := by
   funext j
   have := erl_st (q := q) hn j
   unfold stQ at this
   rw [this]
   by_cases h : j = 0
   ·subst h; rfl
   ·rw [if_neg h, if_neg (fun e => h e.symm)]
  rw [e]
  exact zed (f := fun _ => (1 : Rat)) (show 0 < n by omega)
 ends := ⟨fun i => n - 1 - i, fun i hi => by
  rw [zzf] at hi ⊢
  refine ⟨show n - 1 - i ≤ n by omega, ?_⟩
  by_cases h : i = n - 1
  ·refine Or.inl ?_
   have := erl_ex (q := q) hn i
   unfold exQ at this
   rw [this, if_pos h]
   exact h0
  ·refine Or.inr ⟨i + 1, by omega, ?_, show n - 1 - (i + 1) < n - 1 - i by omega⟩
   have := erl_rt (q := q) hi (show i + 1 < n by omega)
   unfold rtQ at this
   rw [this, if_pos rfl]
   exact h0⟩
theorem erl_sm {D B : Nat} (hn : 1 ≤ n) (hq : over D B q) : SmL D B (erlQ n q) where
 r := fun i j hi hj => by
  rw [zzf] at hi hj
  rw [erl_rt hi hj]
  split
  ·exact hq
  ·exact over.zero _ _
 e := fun i hi => by
  rw [erl_ex hn]
  split
  ·exact hq
  ·exact over.zero _ _
theorem zdl (hn : 1 ≤ n) (i : Nat) : over 1 (2 ^ 13) (stQ (erlQ n q) i) := by
 rw [erl_st hn]
 split
 ·exact zwf.mono (by decide)
 ·exact over.zero _ _
end
theorem sg_pairs (m n : Nat) (f : Nat → Rat) : sg (m * n) f = sg m fun i => sg n fun j => f (i * n + j) := by
 induction m with
 | zero => rw [Nat.zero_mul]; rfl
 | succ m ih =>
   rw [Nat.succ_mul, zvm, ih]
   rfl
section
variable (a b : LQ)
def bfr : Mx := fun r c => if c = r then 0 else if c % b.start.length = r % b.start.length then rtQ a (r / b.start.length) (c / b.start.length) else if c / b.start.length = r / b.start.length then rtQ b (r % b.start.length) (c % b.start.length) else 0
def bfo (r : Nat) : Rat := zpf a (r / b.start.length) + zpf b (r % b.start.length)
end
section
variable {a b : LQ}
theorem zon (hb : zkc b) {r : Nat} (hr : r < bfN a b) : r / b.start.length < a.start.length ∧ r % b.start.length < b.start.length :=
 ⟨Nat.div_lt_of_lt_mul (by rw [Nat.mul_comm]; exact hr), Nat.mod_lt _ (by have := hb.n1; omega)⟩
theorem bfA_mm (ha : zkc a) (hb : zkc b) {r c : Nat} (hr : r < bfN a b) (hc : c < bfN a b) : bfA a b r c = mmA (bfr a b) (bfo a b) r c := by
 obtain ⟨c1, c2⟩ := zon hb hc
 unfold bfA bf2 mmA bfr bfo
 rw [at_eq]
 by_cases h : c = r
 ·rw [if_pos h, if_pos h.symm]
 ·have h' : ¬ r = c := fun e => h e.symm
  simp only [if_neg h, if_neg h']
  by_cases h1 : c % b.start.length = r % b.start.length
  ·simp only [if_pos h1]; grind
  ·simp only [if_neg h1]
   by_cases h2 : c / b.start.length = r / b.start.length
   ·simp only [if_pos h2, if_pos (And.intro h2 c2)]; grind
   ·simp only [if_neg h2, if_neg (fun e : c / b.start.length = r / b.start.length ∧ c % b.start.length < b.start.length => h2 e.1)]; grind
theorem bfr_diag (r : Nat) : bfr a b r r = 0 := by unfold bfr; rw [if_pos rfl]
theorem bfr_nn (ha : zkc a) (hb : zkc b) {r c : Nat} (hr : r < bfN a b) (hc : c < bfN a b) : 0 ≤ bfr a b r c := by
 obtain ⟨c1, c2⟩ := zon hb hc
 obtain ⟨r1, r2⟩ := zon hb hr
 unfold bfr
 split
 ·exact Rat.le_refl
 ·split
  ·exact (ha.rt_lim r1 c1).1
  ·split
   ·exact (hb.rt_lim r2 c2).1
   ·exact Rat.le_refl
theorem bfr_row (ha : zkc a) (hb : zkc b) {i j : Nat} (hi : i < a.start.length) (hj : j < b.start.length) (x : Nat → Rat) :
 sg (bfN a b) (fun c => bfr a b (i * b.start.length + j) c * x c) = sg a.start.length (fun k => rtQ a i k * x (k * b.start.length + j)) + sg b.start.length fun k => rtQ b j k * x (i * b.start.length + k) := by
 unfold bfN
 rw [sg_pairs]
 have e : ∀ k, k < a.start.length → (sg b.start.length fun t => bfr a b (i * b.start.length + j) (k * b.start.length + t) * x (k * b.start.length + t)) =
  rtQ a i k * x (k * b.start.length + j) + if i = k then sg b.start.length (fun t => rtQ b j t * x (i * b.start.length + t)) else 0 := fun k hk => by
  have e1 : (sg b.start.length fun t => bfr a b (i * b.start.length + j) (k * b.start.length + t) * x (k * b.start.length + t)) =
   sg b.start.length fun t => (if j = t then rtQ a i k * x (k * b.start.length + t) else 0) + (if i = k then rtQ b j t * x (i * b.start.length + t) else 0) := zma fun t ht => by
   unfold bfr
   rw [zag ht, zcj ht, zag hj, zcj hj]
   by_cases h1 : i = k
   ·subst h1
    by_cases h2 : j = t
    ·subst h2
     rw [if_pos rfl, if_pos rfl, if_pos rfl, ha.rt_diag hi, hb.rt_diag hj]; grind
    ·have h3 : ¬ i * b.start.length + t = i * b.start.length + j := fun e => h2 (by omega)
     rw [if_neg h3, if_neg (fun e => h2 e.symm), if_pos rfl, if_neg h2, if_pos rfl]; grind
   ·have h3 : ¬ k * b.start.length + t = i * b.start.length + j := fun e => by
     have h4 := congrArg (· / b.start.length) e
     simp only [zag ht, zag hj] at h4
     exact h1 h4.symm
    by_cases h2 : j = t
    ·subst h2
     rw [if_neg h3, if_pos rfl, if_pos rfl, if_neg h1]; grind
    ·rw [if_neg h3, if_neg (fun e => h2 e.symm), if_neg (fun e => h1 e.symm), if_neg h2, if_neg h1]; grind
  rw [e1, zue, zed (f := fun t => rtQ a i k * x (k * b.start.length + t)) hj]
  by_cases h1 : i = k
  ·simp only [if_pos h1]
  ·simp only [if_neg h1]; rw [zgi]
 rw [zma e, zue, zed (f := fun _ => sg b.start.length (fun t => rtQ b j t * x (i * b.start.length + t))) hi]
theorem bfr_sum (ha : zkc a) (hb : zkc b) {r : Nat} (hr : r < bfN a b) : sg (bfN a b) (bfr a b r) = sg a.start.length (rtQ a (r / b.start.length)) + sg b.start.length (rtQ b (r % b.start.length)) := by
 obtain ⟨r1, r2⟩ := zon hb hr
 have h := bfr_row ha hb r1 r2 (fun _ => 1)
 rw [at_eq] at h
 have e : ∀ (n : Nat) (f : Nat → Rat), sg n (fun c => f c * 1) = sg n f := fun n f => zma fun i _ => Rat.mul_one _
 rw [e, e, e] at h
 exact h
theorem bfr_le (ha : zkc a) (hb : zkc b) {r : Nat} (hr : r < bfN a b) : sg (bfN a b) (bfr a b r) ≤ bfo a b r := by
 obtain ⟨r1, r2⟩ := zon hb hr
 rw [bfr_sum ha hb hr]
 unfold bfo
 have h1 := ha.le_out r1
 have h2 := hb.le_out r2
 grind
theorem bf_esc (ha : zkc a) (hb : zkc b) : ∀ k i, i < a.start.length → esc a.start.length (rtQ a) (zpf a) k i → ∀ j, j < b.start.length → esc (bfN a b) (bfr a b) (bfo a b) k (i * b.start.length + j)
 | 0, i, hi, h, j, hj => by
   have h1 : sg a.start.length (rtQ a i) < zpf a i := h
   show sg _ _ < _
   rw [bfr_sum ha hb (at_lt hi hj)]
   unfold bfo
   rw [zag hj, zcj hj]
   have h2 := hb.le_out hj
   grind
 | k + 1, i, hi, h, j, hj => by
   rcases h with h | ⟨t, ht, hr, h⟩
   ·exact Or.inl (bf_esc ha hb k i hi h j hj)
   ·refine Or.inr ⟨t * b.start.length + j, at_lt ht hj, ?_, bf_esc ha hb k t ht h j hj⟩
    unfold bfr
    rw [zag hj, zcj hj, zag hj, zcj hj]
    have h3 : ¬ t * b.start.length + j = i * b.start.length + j := fun e => by
     have h4 := congrArg (· / b.start.length) e
     simp only [zag hj] at h4
     subst h4
     rw [ha.rt_diag hi] at hr
     exact absurd hr (by decide +kernel)
    rw [if_neg h3, if_pos rfl]
    exact hr
theorem bf_escP (ha : zkc a) (hb : zkc b) : ∀ r, r < bfN a b → ∃ k, esc (bfN a b) (bfr a b) (bfo a b) k r := fun r hr => by
 obtain ⟨r1, r2⟩ := zon hb hr
 obtain ⟨k, hk⟩ := ha.escP _ r1
 have h := bf_esc ha hb k _ r1 hk _ r2
 rw [at_eq] at h
 exact ⟨k, h⟩
theorem bf_reg (ha : zkc a) (hb : zkc b) : dt (bfN a b) (bfA a b) ≠ 0 := by
 rw [zad fun i j hi hj => bfA_mm ha hb hi hj]
 exact mm_dt (fun i hi => bfr_diag i) (fun i j hi hj => bfr_nn ha hb hi hj) (fun i hi => bfr_le ha hb hi) (bf_escP ha hb)
theorem bf_eq (ha : zkc a) (hb : zkc b) : ∀ r, r < bfN a b → sg (bfN a b) (fun c => bfA a b r c * befX a b c) = bfR a b r :=
 sol_eq (zye (B := fun i _ => bfR a b i) (bf_reg ha hb))
variable {D B : Nat}
theorem bf_sms (ha : zkc a) (hb : zkc b) (hsa : SmL D B a) (hsb : SmL D B b) (hD : D ≠ 0) (hD1 : D ≤ 6720) (hB : D ≤ 10 * B) (hB1 : 10 * B ≤ 1814400) (hN : bfN a b ≤ 4) : SmS (bfN a b) D (10 * B) (bfA a b) where
 n1 := Nat.mul_pos (by have := ha.n1; omega) (by have := hb.n1; omega)
 n4 := hN
 d0 := hD
 d1 := hD1
 b0 := hB
 b1 := hB1
 a := fun r c hr hc => by
  obtain ⟨c1, c2⟩ := zon hb hc
  obtain ⟨r1, r2⟩ := zon hb hr
  unfold bfA bf2
  split
  ·exact (over.add hD (hsa.out ha hD r1) (hsb.out hb hD r2)).mono (by omega)
  ·split
   ·exact (over.sub hD (over.zero D 0) (hsa.r _ _ r1 c1)).mono (by omega)
   ·split
    ·exact (over.sub hD (over.zero D 0) (hsb.r _ _ r2 c2)).mono (by omega)
    ·exact over.zero _ _
 reg := bf_reg ha hb
theorem bef_small (ha : zkc a) (hb : zkc b) (hsa : SmL D B a) (hsb : SmL D B b) (hD : D ≠ 0) (hD1 : D ≤ 6720) (hB : D ≤ 10 * B) (hB1 : 10 * B ≤ 1814400) (hN : bfN a b ≤ 4) {DS : Nat} (hDS : DS ≠ 0) (hDS2 : DS ≤ 2 ^ 13) (hst : ∀ r, r < bfN a b → over DS (2 ^ 13) (bfS a b r)) : BefP a b := by
 have hS := bf_sms ha hb hsa hsb hD hD1 hB hB1 hN
 have hr : ∀ r, r < bfN a b → over D B (bfR a b r) := fun r hr => hsa.e _ (zon hb hr).1
 have hB2 : B < 2 ^ 21 := Nat.lt_of_le_of_lt (show B ≤ 1814400 by omega) (by decide)
 have hB0 : 1 ≤ B := by omega
 have hD2 : D < 2 ^ 13 := Nat.lt_of_le_of_lt hD1 (by decide)
 obtain ⟨E, e1, e2, e3⟩ := hS.sol hD hr (bf_eq ha hb)
 refine ⟨hS.sys hD (Nat.lt_trans hD2 (by decide +kernel)) hB0 (Nat.lt_trans hB2 (by decide +kernel)) hr (bf_eq ha hb), ?_⟩
 refine zvj (by omega) (by omega) (by decide) hDS hDS2 hst (Nat.mul_ne_zero e1 hD) ?_ ?_ e3
 ·exact Nat.lt_of_lt_of_le (Nat.mul_lt_mul'' e2 hD2) (by decide +kernel)
 ·exact Nat.lt_of_lt_of_le (Nat.mul_lt_mul_of_pos_left hB2 (by decide +kernel)) (by decide +kernel)
end
end Go.Proofs.YtlpdkbmmbdfoiaaGreat
namespace Go.Proofs.YtlpdkbmmbdfoiaaGreat
open Go.RowKit
def law1 : LQ := erlQ 1 1
def zxk : LQ := erlQ 1 2
theorem lim2 : zqg 2 := ⟨by decide +kernel, by decide +kernel, by decide +kernel⟩
theorem law1_p : zkc law1 := erl_law (by decide) (by decide) limQ_one (by decide +kernel)
theorem law2_p : zkc zxk := erl_law (by decide) (by decide) lim2 (by decide +kernel)
theorem over12 : over 1 2 2 := ⟨2, by decide +kernel, by decide⟩
theorem law1_s : SmL 1 2 law1 := erl_sm (by decide) (zwf.mono (by decide))
theorem law2_s : SmL 1 2 zxk := erl_sm (by decide) over12
theorem law2_m : MomP zxk 1 1 := (mom_small law2_p law2_s (by decide) (by decide) (by decide) (by decide) (DS := 1) (by decide) (by decide) (fun i _ => zdl (by decide) i)).1
theorem law12_n : bfN law1 zxk = 1 := by decide
theorem law12_b : BefP law1 zxk := bef_small law1_p law2_p law1_s law2_s (by decide) (by decide) (by decide) (by decide) (by rw [law12_n]; decide) (DS := 1) (by decide) (by decide) (fun r _ => by
 unfold bfS
 have h := over.mul (zdl (q := 1) (n := 1) (by decide) (r / zxk.start.length)) (zdl (q := 2) (n := 1) (by decide) (r % zxk.start.length))
 have e1 : stQ law1 (r / zxk.start.length) = 0 ∨ stQ law1 (r / zxk.start.length) = 1 := by
  have := erl_st (q := 1) (n := 1) (by decide) (r / zxk.start.length)
  unfold law1
  rw [this]
  split
  ·exact Or.inr rfl
  ·exact Or.inl rfl
 have e2 : stQ zxk (r % zxk.start.length) = 0 ∨ stQ zxk (r % zxk.start.length) = 1 := by
  have := erl_st (q := 2) (n := 1) (by decide) (r % zxk.start.length)
  rw [show stQ zxk = stQ (erlQ 1 2) from rfl, this]
  split
  ·exact Or.inr rfl
  ·exact Or.inl rfl
 rcases e1 with e1 | e1 <;> rcases e2 with e2 | e2 <;> rw [e1, e2]
 ·rw [Rat.zero_mul]; exact over.zero _ _
 ·rw [Rat.zero_mul]; exact over.zero _ _
 ·rw [Rat.mul_zero]; exact over.zero _ _
 ·rw [Rat.mul_one]; exact zwf.mono (by decide))
theorem law2_q : momQ zxk 1 = mkRat 1 2 := by decide +kernel
theorem law12_q : befQ law1 zxk = mkRat 1 3 := by decide +kernel
theorem pexp_one (va : Value) (w : World) (ha : zya w va 1) : Calls Tryz.prog 26 #[va] w (fun e w' => ∃ v, e = .returned (.tuple #[v, .int .i64 0]) ∧ zqm w' v law1 ∧ Below w.heap.size w w') := by
 refine (zde va _ _ _ w ha.raw).mono ?_
 rintro e w' ⟨v, er, rfl, hb, _, _, h⟩
 obtain ⟨rfl, h2⟩ := h (by decide) (by decide +kernel)
 have h3 := h2.lawE
 rw [zdc] at h3
 exact ⟨v, rfl, h3, hb⟩
theorem pexp_two (va : Value) (w : World) (ha : zya w va 2) : Calls Tryz.prog 26 #[va] w (fun e w' => ∃ v, e = .returned (.tuple #[v, .int .i64 0]) ∧ zqm w' v zxk ∧ Below w.heap.size w w') := by
 refine (zde va _ _ _ w ha.raw).mono ?_
 rintro e w' ⟨v, er, rfl, hb, _, _, h⟩
 obtain ⟨rfl, h2⟩ := h (by decide) (by decide +kernel)
 have h3 := h2.lawE
 rw [zdc] at h3
 exact ⟨v, rfl, h3, hb⟩
theorem pmean_two (va : Value) (w : World) (ha : zxl w va zxk) : Calls Tryz.prog 36 #[va] w (RF0 w (mkRat 1 2)) := by
 rw [← law2_q]
 exact pmean_any va zxk w ha law2_p law2_m
theorem pbefore_12 (va vb : Value) (w : World) (ha : zxl w va law1) (hb : zxl w vb zxk) : Calls Tryz.prog 32 #[va, vb] w (RF0 w (mkRat 1 3)) := by
 rw [← law12_q]
 exact pbefore_any va vb law1 zxk w ha hb law1_p law2_p law12_b
theorem r2int_2a (w : World) : Calls Tryz.prog 20 #[.int .i64 2] w (RF1 w 2) := by
 have h := r2int_nat 2 w (by decide)
 have e : fq false 2 1 = 2 := by decide +kernel
 rw [e] at h
 exact h
theorem p2make_zz (a b : Nat) (y z : Int) (w : World) (hy : y = (a : Int)) (hz : z = (b : Int)) (ha : a < 4294967296) (hb : b < 4294967296) (hb0 : b ≠ 0) :
 Calls Tryz.prog 18 #[.int .i64 y, .int .i64 z] w (RF0 w (fq false a b)) := by subst hy; subst hz; exact zhg a b w ha hb hb0
theorem r2make_12a (w : World) : Calls Tryz.prog 18 #[.int .i64 1, .int .i64 2] w (RF0 w (mkRat 1 2)) := p2make_zz 1 2 1 2 w rfl rfl (by decide) (by decide) (by decide)
theorem r2make_13a (w : World) : Calls Tryz.prog 18 #[.int .i64 1, .int .i64 3] w (RF0 w (mkRat 1 3)) := p2make_zz 1 3 1 3 w rfl rfl (by decide) (by decide) (by decide)
theorem zqm.parts2 {w : World} {v : Value} {q : Rat} (h : zqm w v (erlQ 1 q)) : ∃ sa sk ra rk ea ek, v = .agg #[.string { data := #[] }, .slice sa 1 sk, .slice ra 1 rk, .slice ea 1 ek] ∧ True := by
 obtain ⟨sv, rv, ev, rfl, hs, hr, he⟩ := h
 obtain ⟨ra, rn, rk, rfl, _⟩ := id hr.sl
 obtain ⟨sa, sn, sk, rfl, _⟩ := id hs.sl
 obtain ⟨ea, en, ek, rfl, _⟩ := id he.sl
 have hsn : sn = 1 := hs.len
 have hrn : rn = 1 := hr.len
 have hen : en = 1 := he.len
 subst hsn hrn hen
 exact ⟨sa, sk, ra, rk, ea, ek, rfl, trivial⟩
set_option maxRecDepth 100000 in
set_option maxHeartbeats 6400000 in
theorem zah (w : World) : Calls Tryz.prog 25 #[] w (fun e w' => e = .returned (.bool true) ∧ Below w.heap.size w w') := by
 have HB := zH (Below.refl w.heap.size w)
 have HZM : Hid (∀ w0, Calls Tryz.prog 36 #[.agg #[.string { data := #[] }, .slice none 0 0, .slice none 0 0, .slice none 0 0]] w0 (fun e w' => e = .returned (.tuple #[.agg #[.bool false, .slice none 0 0, .slice none 0 0], .int .i64 1]) ∧ Below w0.heap.size w0 w')) := zH (fun w0 => pmean_zero w0)
 go_enter Tryz.func25, Tryz.ntmps25
 go_upto_region 2 with (first
  |(go_at_call 20; (with_reducible refine (r2int_one _).mono ?_); rintro e9 w9 ⟨v9, rfl, hv9, hb9⟩
    obtain ⟨t9, x9, y9, rfl, ⟨a91, l91, k91, rfl, _⟩, ⟨a92, l92, k92, rfl, _⟩⟩ := hv9.isF
    replace HB := zH (zaa HB.out hb9))
  |(go_at_call 26; (with_reducible refine (pexp_one _ _ hv9).mono ?_); rintro e1 w1 ⟨v1, rfl, hv1, hb1⟩
    clear hv9 hb9
    obtain ⟨sa1, sk1, ra1, rk1, ea1, ek1, rfl, _⟩ := hv1.parts2
    have hba := zca w1 (.cells #[.string { data := #[] }, .slice sa1 1 sk1, .slice ra1 1 rk1, .slice ea1 1 ek1] 52)
    have hbb := zaa hb1 hba
    have HC1 := zH (C4.new w1 52 (.string { data := #[] }) (.slice sa1 1 sk1) (.slice ra1 1 rk1) (.slice ea1 1 ek1))
    have HF1 := zH (hv1.below hba)
    replace HB := zH (zaa HB.out hbb)
    clear hv1 hb1 hba hbb))
 obtain ⟨b1, hb1⟩ : ∃ b, w1.heap.size = b := ⟨_, rfl⟩
 rw [hb1] at HC1 ⊢
 clear hb1
 generalize w1.alloc (.cells #[.string { data := #[] }, .slice sa1 1 sk1, .slice ra1 1 rk1, .slice ea1 1 ek1] 52) = W1 at *
 go_upto_region 3 with (first
  |(go_at_call 20; (with_reducible refine (r2int_2a _).mono ?_); rintro e9 w9 ⟨v9, rfl, hv9, hb9⟩
    obtain ⟨t9, x9, y9, rfl, ⟨a91, l91, k91, rfl, _⟩, ⟨a92, l92, k92, rfl, _⟩⟩ := hv9.isF
    replace HB := zH (zaa HB.out hb9); replace HC1 := zH (HC1.out.belowS hb9); replace HF1 := zH (HF1.out.below hb9))
  |(go_at_call 26; (with_reducible refine (pexp_two _ _ hv9).mono ?_); rintro e2 w2 ⟨v2, rfl, hv2, hb2⟩
    clear hv9 hb9
    obtain ⟨sa2, sk2, ra2, rk2, ea2, ek2, rfl, _⟩ := hv2.parts2
    have hba := zca w2 (.cells #[.string { data := #[] }, .slice sa2 1 sk2, .slice ra2 1 rk2, .slice ea2 1 ek2] 52)
    have hbb := zaa hb2 hba
    have HC2 := zH (C4.new w2 52 (.string { data := #[] }) (.slice sa2 1 sk2) (.slice ra2 1 rk2) (.slice ea2 1 ek2))
    have HF2 := zH (hv2.below hba)
    replace HB := zH (zaa HB.out hbb); replace HC1 := zH (HC1.out.belowS hbb); replace HF1 := zH (HF1.out.below hbb)
    clear hv2 hb2 hba hbb))
 obtain ⟨b2, hb2⟩ : ∃ b, w2.heap.size = b := ⟨_, rfl⟩
 rw [hb2] at HC2 ⊢
 clear hb2
 generalize w2.alloc (.cells #[.string { data := #[] }, .slice sa2 1 sk2, .slice ra2 1 rk2, .slice ea2 1 ek2] 52) = W2 at *
 obtain ⟨-, c0, c1, c2, c3, -, -, -, -⟩ := HC2.out
 go_upto_region 4 with (first
  |(go_at_call 36; (with_reducible refine (pmean_two _ _ HF2.out.lawC).mono ?_); rintro e3 w3 ⟨v3, rfl, hv3, hb3⟩
    clear c0 c1 c2 c3
    obtain ⟨t3, x3, y3, rfl, ⟨a31, l31, k31, rfl, _⟩, ⟨a32, l32, k32, rfl, _⟩⟩ := hv3.isF
    have hba := zca w3 (.cells #[.bool t3, .slice a31 l31 k31, .slice a32 l32 k32] 38)
    have hbb := zaa hb3 hba
    have HC3 := zH (C3.new w3 38 (.bool t3) (.slice a31 l31 k31) (.slice a32 l32 k32))
    have HF3 := zH (hv3.below hba)
    replace HB := zH (zaa HB.out hbb); replace HC1 := zH (HC1.out.belowS hbb); replace HF1 := zH (HF1.out.below hbb); replace HC2 := zH (HC2.out.belowS hbb); replace HF2 := zH (HF2.out.below hbb)
    clear hv3 hb3 hba hbb))
 obtain ⟨b3, hb3⟩ : ∃ b, w3.heap.size = b := ⟨_, rfl⟩
 rw [hb3] at HC3 ⊢
 clear hb3
 generalize w3.alloc (.cells #[.bool t3, .slice a31 l31 k31, .slice a32 l32 k32] 38) = W3 at *
 obtain ⟨-, c0, c1, c2, c3, -, -, -, -⟩ := HC1.out
 obtain ⟨-, d0, d1, d2, d3, -, -, -, -⟩ := HC2.out
 go_upto_region 5 with (first
  |(go_at_call 32; (with_reducible refine (pbefore_12 _ _ _ HF1.out.lawC HF2.out.lawC).mono ?_); rintro e4 w4 ⟨v4, rfl, hv4, hb4⟩
    clear c0 c1 c2 c3 d0 d1 d2 d3
    obtain ⟨t4, x4, y4, rfl, ⟨a41, l41, k41, rfl, _⟩, ⟨a42, l42, k42, rfl, _⟩⟩ := hv4.isF
    have hba := zca w4 (.cells #[.bool t4, .slice a41 l41 k41, .slice a42 l42 k42] 38)
    have hbb := zaa hb4 hba
    have HC4 := zH (C3.new w4 38 (.bool t4) (.slice a41 l41 k41) (.slice a42 l42 k42))
    have HF4 := zH (hv4.below hba)
    replace HB := zH (zaa HB.out hbb); replace HC3 := zH (HC3.out.belowS hbb); replace HF3 := zH (HF3.out.below hbb)
    clear hv4 hb4 hba hbb))
 obtain ⟨b4, hb4⟩ : ∃ b, w4.heap.size = b := ⟨_, rfl⟩
 rw [hb4] at HC4 ⊢
 clear hb4
 generalize w4.alloc (.cells #[.bool t4, .slice a41 l41 k41, .slice a42 l42 k42] 38) = W4 at *
 clear HC1 HF1 HC2 HF2
 go_upto_region 6 with (first
  |(go_at_call 36; (with_reducible refine (HZM.out _).mono ?_); rintro e6 w6 ⟨rfl, hb6⟩
    have hba := zca w6 (.cells #[.bool false, .slice none 0 0, .slice none 0 0] 38)
    have hbb := zaa hb6 hba
    replace HB := zH (zaa HB.out hbb); replace HC3 := zH (HC3.out.belowS hbb); replace HF3 := zH (HF3.out.below hbb); replace HC4 := zH (HC4.out.belowS hbb); replace HF4 := zH (HF4.out.below hbb)
    clear hb6 hba hbb))
 generalize w6.alloc (.cells #[.bool false, .slice none 0 0, .slice none 0 0] 38) = W6 at *
 go_upto_region 7 with (first
  |(go_at_call 18; (with_reducible refine (r2make_12a _).mono ?_); rintro e5 w5 ⟨v5, rfl, hv5, hb5⟩
    obtain ⟨t5, x5, y5, rfl, ⟨a51, l51, k51, rfl, _⟩, ⟨a52, l52, k52, rfl, _⟩⟩ := hv5.isF
    have hba := zca w5 (.cells #[.bool t5, .slice a51 l51 k51, .slice a52 l52 k52] 38)
    have hbb := zaa hb5 hba
    have HC5 := zH (C3.new w5 38 (.bool t5) (.slice a51 l51 k51) (.slice a52 l52 k52))
    have HF5 := zH (hv5.below hba)
    replace HB := zH (zaa HB.out hbb); replace HC3 := zH (HC3.out.belowS hbb); replace HF3 := zH (HF3.out.below hbb); replace HC4 := zH (HC4.out.belowS hbb); replace HF4 := zH (HF4.out.below hbb)
    clear hv5 hb5 hba hbb))
 obtain ⟨b5, hb5⟩ : ∃ b, w5.heap.size = b := ⟨_, rfl⟩
 rw [hb5] at HC5 ⊢
 clear hb5
 generalize w5.alloc (.cells #[.bool t5, .slice a51 l51 k51, .slice a52 l52 k52] 38) = W5 at *
 go_upto_region 8 with (first
  |(go_at_call 18; (with_reducible refine (r2make_13a _).mono ?_); rintro e7 w7 ⟨v7, rfl, hv7, hb7⟩
    obtain ⟨t7, x7, y7, rfl, ⟨a71, l71, k71, rfl, _⟩, ⟨a72, l72, k72, rfl, _⟩⟩ := hv7.isF
    have hba := zca w7 (.cells #[.bool t7, .slice a71 l71 k71, .slice a72 l72 k72] 38)
    have hbb := zaa hb7 hba
    have HC7 := zH (C3.new w7 38 (.bool t7) (.slice a71 l71 k71) (.slice a72 l72 k72))
    have HF7 := zH (hv7.below hba)
    replace HB := zH (zaa HB.out hbb); replace HC3 := zH (HC3.out.belowS hbb); replace HF3 := zH (HF3.out.below hbb); replace HC4 := zH (HC4.out.belowS hbb); replace HF4 := zH (HF4.out.below hbb); replace HC5 := zH (HC5.out.belowS hbb); replace HF5 := zH (HF5.out.below hbb)
    clear hv7 hb7 hba hbb))
 obtain ⟨b7, hb7⟩ : ∃ b, w7.heap.size = b := ⟨_, rfl⟩
 rw [hb7] at HC7 ⊢
 clear hb7
 generalize w7.alloc (.cells #[.bool t7, .slice a71 l71 k71, .slice a72 l72 k72] 38) = W7 at *
 obtain ⟨-, c0, c1, c2, -, -, -⟩ := HC3.out
 obtain ⟨-, d0, d1, d2, -, -, -⟩ := HC5.out
 obtain ⟨-, p0, p1, p2, -, -, -⟩ := HC4.out
 obtain ⟨-, q0, q1, q2, -, -, -⟩ := HC7.out
 go_wp2_with (first
  |(go_at_call 61; (with_reducible refine (zwj _ _ (mkRat 1 2) (mkRat 1 2) _ HF3.out HF5.out).mono ?_); rintro e10 w10 ⟨⟨z10, rfl, hz10⟩, hb10⟩; obtain rfl : z10 = true := hz10.2 rfl
    clear hz10 c0 c1 c2 d0 d1 d2 p0 p1 p2 q0 q1 q2
    replace HB := zH (zaa HB.out hb10); replace HC4 := zH (HC4.out.belowS hb10); replace HF4 := zH (HF4.out.below hb10); replace HC7 := zH (HC7.out.belowS hb10); replace HF7 := zH (HF7.out.below hb10)
    obtain ⟨-, p0, p1, p2, -, -, -⟩ := HC4.out
    obtain ⟨-, q0, q1, q2, -, -, -⟩ := HC7.out
    clear hb10)
  |(go_at_call 61; (with_reducible refine (zwj _ _ (mkRat 1 3) (mkRat 1 3) _ HF4.out HF7.out).mono ?_); rintro e11 w11 ⟨⟨z11, rfl, hz11⟩, hb11⟩; obtain rfl : z11 = true := hz11.2 rfl
    clear hz11 p0 p1 p2 q0 q1 q2
    replace HB := zH (zaa HB.out hb11)
    clear hb11))
 go_ret
 exact ⟨rfl, HB.out⟩
structure RFL where
 neg : Bool
 a : List Nat
 b : List Nat
theorem zxb.belowS {w w' : World} {v : Value} {l : List Nat} (h : zxb w v l) (hb : Below w.heap.size w w') : zxb w' v l := ⟨h.sl, h.len, fun j hj => zba hb (h.cell j hj), h.lm⟩
end Go.Proofs.YtlpdkbmmbdfoiaaGreat
