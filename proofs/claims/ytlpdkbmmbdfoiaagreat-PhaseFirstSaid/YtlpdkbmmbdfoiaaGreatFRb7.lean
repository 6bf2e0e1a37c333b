/-
  package drydockref02: Opposite of a fraction in lowest terms.
-/
import Derived.Test.YtlpdkbmmbdfoiaaGreatFPh11
import Derived.Test.YtlpdkbmmbdfoiaaGreatFPh14
import Derived.Test.YtlpdkbmmbdfoiaaGreatFPh15
import Derived.Test.YtlpdkbmmbdfoiaaGreatFPp4
import Derived.Test.YtlpdkbmmbdfoiaaGreatFPp6
import Derived.Test.YtlpdkbmmbdfoiaaGreatFTa4
import Derived.Test.YtlpdkbmmbdfoiaaGreatFTk
set_option linter.unusedVariables false
set_option linter.unusedSimpArgs false
namespace Go.Proofs.YtlpdkbmmbdfoiaaGreat
open Go.RowKit
theorem zqn : zgc (.slice none 0 0) := ⟨none, 0, 0, rfl, Nat.le_refl _, by simp [maxLen], fun _ => rfl⟩
set_option maxRecDepth 100000 in
set_option maxHeartbeats 3200000 in
theorem zig (va : Value) (s : Bool) (a d : Nat) (w : World) (ha : zdc w va s a d) : Calls Tryz.prog 26 #[va] w (RErl w 1 s a d) := by
 obtain ⟨x0, y0, rfl, h1, h2⟩ := id ha
 obtain ⟨a11, l11, k11, rfl, _⟩ := h1.slen.1
 obtain ⟨a12, l12, k12, rfl, _⟩ := h2.slen.1
 have hb1 := zca w (.cells #[.bool s, .slice a11 l11 k11, .slice a12 l12 k12] 38)
 have hb2 := zca (w.alloc (.cells #[.bool s, .slice a11 l11 k11, .slice a12 l12 k12] 38)) (.cells #[.string { data := #[] }, .slice none 0 0, .slice none 0 0, .slice none 0 0] 52)
 have HB := zH (zaa hb1 hb2)
 have HC := zH ((C3.new w 38 (.bool s) (.slice a11 l11 k11) (.slice a12 l12 k12)).belowS hb2)
 have HT := zH (C4.new (w.alloc (.cells #[.bool s, .slice a11 l11 k11, .slice a12 l12 k12] 38)) 52 (.string { data := #[] }) (.slice none 0 0) (.slice none 0 0) (.slice none 0 0))
 have HA := zH ((ha.below hb1).below hb2)
 have htb : (w.alloc (.cells #[.bool s, .slice a11 l11 k11, .slice a12 l12 k12] 38)).heap.size = w.heap.size + 1 := by show (w.heap.push _).size = _; rw [Array.size_push]
 rw [htb] at HT
 clear ha h1 h2 hb1 hb2 htb
 go_enter Tryz.func26, Tryz.ntmps26
 go_upto_region 1 with fail
 generalize (w.alloc (.cells #[.bool s, .slice a11 l11 k11, .slice a12 l12 k12] 38)).alloc (.cells #[.string { data := #[] }, .slice none 0 0, .slice none 0 0, .slice none 0 0] 52) = W2 at *
 obtain ⟨_, c0, c1, c2, _, _, _⟩ := HC.out
 go_wp2_with (go_at_call 28; (with_reducible refine (erlang_any 1 _ s a d _ HA.out).mono ?_); rintro e3 w3 ⟨v, er, rfl, hb3, k1, k2, k3⟩
              have hv : ∃ x1 x2 x3 x4, v = .agg #[x1, x2, x3, x4] := (by
               by_cases hr : zuh s a d
               ·obtain ⟨_, h5⟩ := k3 ⟨by omega, by omega⟩ hr
                obtain ⟨y1, y2, y3, e, _⟩ := h5.lawE
                exact ⟨_, _, _, _, e⟩
               ·exact ⟨_, _, _, _, (k2 ⟨by omega, by omega⟩ hr).2⟩)
              obtain ⟨x1, x2, x3, x4, rfl⟩ := hv
              have hs : zgc x2 ∧ zgc x3 ∧ zgc x4 ∧ x1 = .string { data := #[] } := (by
               by_cases hr : zuh s a d
               ·obtain ⟨_, h5⟩ := k3 ⟨by omega, by omega⟩ hr
                obtain ⟨y1, y2, y3, e, e1, e2, e3⟩ := h5.lawE
                injection e with e
                injection e with e
                simp only [List.cons.injEq, and_true] at e
                obtain ⟨rfl, rfl, rfl, rfl⟩ := e
                exact ⟨e1.sl, e2.sl, e3.sl, rfl⟩
               ·have e := (k2 ⟨by omega, by omega⟩ hr).2
                unfold zah at e
                injection e with e
                injection e with e
                simp only [List.cons.injEq, and_true] at e
                obtain ⟨rfl, rfl, rfl, rfl⟩ := e
                exact ⟨zqn, zqn, zqn, rfl⟩)
              obtain ⟨⟨p1, p2, p3, rfl, _⟩, ⟨q1, q2, q3, rfl, _⟩, ⟨r1, r2, r3, rfl, _⟩, rfl⟩ := hs
              have HK2 := zH k2
              have HK3 := zH k3
              have HT3 := zH (HT.out.belowS hb3)
              have HB3 := zH (zqd (zaa HB.out hb3) (Nat.le_succ w.heap.size) (.string { data := #[] }) (.slice p1 p2 p3) (.slice q1 q2 q3) (.slice r1 r2 r3))
              obtain ⟨_, d0, d1, d2, d3, f0, f1, f2, f3⟩ := HT3.out
              clear hb3 k1 k2 k3 c0 c1 c2)
 refine zzd rfl rfl Tryz.aggL Tryz.sizeL (HT3.out.set _ _ _ _) rfl ?_
 refine ⟨_, er, rfl, HB3.out, fun h => absurd (by omega) h, HK2.out, fun h hr => ?_⟩
 obtain ⟨h0, h5⟩ := HK3.out h hr
 exact ⟨h0, (h5.set4 HT3.out (fun z => by simp) (fun z => by simp) (fun z => by simp) _ _ _ _).mono HB.out.size⟩
set_option maxRecDepth 100000 in
set_option maxHeartbeats 3200000 in
theorem pmean_any (va : Value) (l : LQ) (w : World) (ha : zhm w va l) (hl : zxb l) (hp : MomP l 1 1) : Calls Tryz.prog 36 #[va] w (RF0 w (momQ l 1)) := by
 obtain ⟨nm, sv, rv, ev, rfl, hs, hr, he⟩ := id ha
 obtain ⟨ra, rn, rk, rfl, _⟩ := id hr.sl
 obtain ⟨sa, sn, sk, rfl, _⟩ := id hs.sl
 obtain ⟨ea, en, ek, rfl, _⟩ := id he.sl
 have hba := zca w (.cells #[nm, .slice sa sn sk, .slice ra rn rk, .slice ea en ek] 52)
 have hbb := zca (w.alloc (.cells #[nm, .slice sa sn sk, .slice ra rn rk, .slice ea en ek] 52)) (.cells #[.bool false, .slice none 0 0, .slice none 0 0] 38)
 have HC := zH ((C4.new w 52 nm (.slice sa sn sk) (.slice ra rn rk) (.slice ea en ek)).belowS hbb)
 have HT := zH (C3.newB (b := w.heap.size + 1) (w.alloc (.cells #[nm, .slice sa sn sk, .slice ra rn rk, .slice ea en ek] 52)) 38 (.bool false) (.slice none 0 0) (.slice none 0 0) (by show (w.heap.push _).size = _; rw [Array.size_push]))
 have HBW := zH (zaa hba hbb)
 have HA := zH (ha.below HBW.out)
 have HM1 : Hid (∀ w0, zhm w0 (.agg #[nm, .slice sa sn sk, .slice ra rn rk, .slice ea en ek]) l → Calls Tryz.prog 37 #[.agg #[nm, .slice sa sn sk, .slice ra rn rk, .slice ea en ek], .int .i64 1] w0 (RF0 w0 (momQ l 1))) := zH (fun w0 h => pmoment_any _ l 1 w0 h hl (Nat.le_refl _) (by decide) hp)
 clear ha hl hp hs hr he hba hbb
 go_enter Tryz.func36, Tryz.ntmps36
 go_upto_region 1 with fail
 generalize (w.alloc (.cells #[nm, .slice sa sn sk, .slice ra rn rk, .slice ea en ek] 52)).alloc (.cells #[.bool false, .slice none 0 0, .slice none 0 0] 38) = W2 at *
 obtain ⟨_, c0, c1, c2, c3, _⟩ := HC.out
 go_wp2_with (first
  |(go_at_call 37; (with_reducible refine (HM1.out _ HA.out).mono ?_); rintro e4 w4 ⟨v4, rfl, hv4, hb4⟩
    obtain ⟨t9, x9, y9, rfl, ⟨a91, l91, k91, rfl, _⟩, ⟨a92, l92, k92, rfl, _⟩⟩ := hv4.isF
    have HT9 := zH (HT.out.belowS hb4)
    have HB9 := zH (zaa HBW.out hb4)
    have HV9 := zH hv4
    obtain ⟨_, d0, d1, d2, f0, f1, f2⟩ := HT9.out
    clear hv4 hb4 c0 c1 c2 c3))
 refine zoa rfl rfl Tryz.aggF Tryz.sizeF (HT9.out.set _ _ _) rfl ?_
 exact ⟨_, rfl, HV9.out.set3 HT9.out (fun z => by simp) (fun z => by simp) _ _ _, zga HB9.out (Nat.le_succ _) _ _ _⟩
set_option maxRecDepth 100000 in
set_option maxHeartbeats 3200000 in
/-- The zero value of a law has no mean. -/
theorem pmoment_zero (n : Nat) (w : World) : Calls Tryz.prog 37 #[zah, .int .i64 (n : Nat)] w (fun e w' => e = .returned (.tuple #[.agg #[.bool false, .slice none 0 0, .slice none 0 0], .int .i64 1]) ∧ Below w.heap.size w w') := by
 unfold zah
 have hba := zca w (.cells #[.string { data := #[] }, .slice none 0 0, .slice none 0 0, .slice none 0 0] 52)
 have hbb := zca (w.alloc (.cells #[.string { data := #[] }, .slice none 0 0, .slice none 0 0, .slice none 0 0] 52)) (.cells #[.bool false, .slice none 0 0, .slice none 0 0] 38)
 have HC := zH ((C4.new w 52 (.string { data := #[] }) (.slice none 0 0) (.slice none 0 0) (.slice none 0 0)).belowS hbb)
 have HT := zH (C3.newB (b := w.heap.size + 1) (w.alloc (.cells #[.string { data := #[] }, .slice none 0 0, .slice none 0 0, .slice none 0 0] 52)) 38 (.bool false) (.slice none 0 0) (.slice none 0 0) (by show (w.heap.push _).size = _; rw [Array.size_push]))
 have HBW := zH (zaa hba hbb)
 clear hba hbb
 go_enter Tryz.func37, Tryz.ntmps37
 go_upto_region 1 with fail
 generalize (w.alloc (.cells #[.string { data := #[] }, .slice none 0 0, .slice none 0 0, .slice none 0 0] 52)).alloc (.cells #[.bool false, .slice none 0 0, .slice none 0 0] 38) = W2 at *
 obtain ⟨_, c0, c1, c2, c3, _⟩ := HC.out
 go_wp2_with (first
  |(go_at_call 58; (with_reducible refine (zym _ _).mono ?_); rintro e4 w4 ⟨rfl, hb4⟩
    have HT9 := zH (HT.out.belowS hb4)
    have HB9 := zH (zaa HBW.out hb4)
    obtain ⟨_, d0, d1, d2, f0, f1, f2⟩ := HT9.out
    clear hb4 c0 c1 c2 c3))
 refine zoa rfl rfl Tryz.aggF Tryz.sizeF (HT9.out.set _ _ _) rfl ?_
 exact ⟨rfl, zga HB9.out (Nat.le_succ _) _ _ _⟩
set_option maxRecDepth 100000 in
set_option maxHeartbeats 3200000 in
theorem pmean_zero (w : World) : Calls Tryz.prog 36 #[zah] w (fun e w' => e = .returned (.tuple #[.agg #[.bool false, .slice none 0 0, .slice none 0 0], .int .i64 1]) ∧ Below w.heap.size w w') := by
 unfold zah
 have hba := zca w (.cells #[.string { data := #[] }, .slice none 0 0, .slice none 0 0, .slice none 0 0] 52)
 have hbb := zca (w.alloc (.cells #[.string { data := #[] }, .slice none 0 0, .slice none 0 0, .slice none 0 0] 52)) (.cells #[.bool false, .slice none 0 0, .slice none 0 0] 38)
 have HC := zH ((C4.new w 52 (.string { data := #[] }) (.slice none 0 0) (.slice none 0 0) (.slice none 0 0)).belowS hbb)
 have HT := zH (C3.newB (b := w.heap.size + 1) (w.alloc (.cells #[.string { data := #[] }, .slice none 0 0, .slice none 0 0, .slice none 0 0] 52)) 38 (.bool false) (.slice none 0 0) (.slice none 0 0) (by show (w.heap.push _).size = _; rw [Array.size_push]))
 have HBW := zH (zaa hba hbb)
 have HZ : Hid (∀ w0, Calls Tryz.prog 37 #[.agg #[.string { data := #[] }, .slice none 0 0, .slice none 0 0, .slice none 0 0], .int .i64 1] w0 (fun e w' => e = .returned (.tuple #[.agg #[.bool false, .slice none 0 0, .slice none 0 0], .int .i64 1]) ∧ Below w0.heap.size w0 w')) := zH (fun w0 => pmoment_zero 1 w0)
 clear hba hbb
 go_enter Tryz.func36, Tryz.ntmps36
 go_upto_region 1 with fail
 generalize (w.alloc (.cells #[.string { data := #[] }, .slice none 0 0, .slice none 0 0, .slice none 0 0] 52)).alloc (.cells #[.bool false, .slice none 0 0, .slice none 0 0] 38) = W2 at *
 obtain ⟨_, c0, c1, c2, c3, _⟩ := HC.out
 go_wp2_with (first
  |(go_at_call 37; (with_reducible refine (HZ.out _).mono ?_); rintro e4 w4 ⟨rfl, hb4⟩
    have HT9 := zH (HT.out.belowS hb4)
    have HB9 := zH (zaa HBW.out hb4)
    obtain ⟨_, d0, d1, d2, f0, f1, f2⟩ := HT9.out
    clear hb4 c0 c1 c2 c3))
 refine zoa rfl rfl Tryz.aggF Tryz.sizeF (HT9.out.set _ _ _) rfl ?_
 exact ⟨rfl, zga HB9.out (Nat.le_succ _) _ _ _⟩
def law1 : LQ := erlQ 1 1
def zil : LQ := erlQ 1 2
theorem lim2 : zvg 2 := ⟨by decide +kernel, by decide +kernel, by decide +kernel⟩
theorem law1_p : zxb law1 := erl_law (by decide) (by decide) limQ_one (by decide +kernel)
theorem law2_p : zxb zil := erl_law (by decide) (by decide) lim2 (by decide +kernel)
theorem over12 : over 1 2 2 := ⟨2, by decide +kernel, by decide⟩
theorem law1_s : SmL 1 2 law1 := erl_sm (by decide) (zeg.mono (by decide))
theorem law2_s : SmL 1 2 zil := erl_sm (by decide) over12
theorem law2_m : MomP zil 1 1 := (mom_small law2_p law2_s (by decide) (by decide) (by decide) (by decide) (DS := 1) (by decide) (by decide) (fun i _ => zml (by decide) i)).1
theorem law12_n : bfN law1 zil = 1 := by decide
theorem law12_b : BefP law1 zil := bef_small law1_p law2_p law1_s law2_s (by decide) (by decide) (by decide) (by decide) (by rw [law12_n]; decide) (DS := 1) (by decide) (by decide) (fun r _ => by
 unfold bfS
 have h := over.mul (zml (q := 1) (n := 1) (by decide) (r / zil.start.length)) (zml (q := 2) (n := 1) (by decide) (r % zil.start.length))
 have e1 : stQ law1 (r / zil.start.length) = 0 ∨ stQ law1 (r / zil.start.length) = 1 := by
  have := erl_st (q := 1) (n := 1) (by decide) (r / zil.start.length)
  unfold law1
  rw [this]
  split
  ·exact Or.inr rfl
  ·exact Or.inl rfl
 have e2 : stQ zil (r % zil.start.length) = 0 ∨ stQ zil (r % zil.start.length) = 1 := by
  have := erl_st (q := 2) (n := 1) (by decide) (r % zil.start.length)
  rw [show stQ zil = stQ (erlQ 1 2) from rfl, this]
  split
  ·exact Or.inr rfl
  ·exact Or.inl rfl
 rcases e1 with e1 | e1 <;> rcases e2 with e2 | e2 <;> rw [e1, e2]
 ·rw [Rat.zero_mul]; exact over.zero _ _
 ·rw [Rat.zero_mul]; exact over.zero _ _
 ·rw [Rat.mul_zero]; exact over.zero _ _
 ·rw [Rat.mul_one]; exact zeg.mono (by decide))
theorem law2_q : momQ zil 1 = mkRat 1 2 := by decide +kernel
theorem law12_q : befQ law1 zil = mkRat 1 3 := by decide +kernel
theorem pexp_one (va : Value) (w : World) (ha : zqa w va 1) : Calls Tryz.prog 26 #[va] w (fun e w' => ∃ v, e = .returned (.tuple #[v, .int .i64 0]) ∧ zgm w' v law1 ∧ Below w.heap.size w w') := by
 refine (zig va _ _ _ w ha.raw).mono ?_
 rintro e w' ⟨v, er, rfl, hb, _, _, h⟩
 obtain ⟨rfl, h2⟩ := h (by decide) (by decide +kernel)
 have h3 := h2.lawE
 rw [zvb] at h3
 exact ⟨v, rfl, h3, hb⟩
theorem pexp_two (va : Value) (w : World) (ha : zqa w va 2) : Calls Tryz.prog 26 #[va] w (fun e w' => ∃ v, e = .returned (.tuple #[v, .int .i64 0]) ∧ zgm w' v zil ∧ Below w.heap.size w w') := by
 refine (zig va _ _ _ w ha.raw).mono ?_
 rintro e w' ⟨v, er, rfl, hb, _, _, h⟩
 obtain ⟨rfl, h2⟩ := h (by decide) (by decide +kernel)
 have h3 := h2.lawE
 rw [zvb] at h3
 exact ⟨v, rfl, h3, hb⟩
theorem pmean_two (va : Value) (w : World) (ha : zhm w va zil) : Calls Tryz.prog 36 #[va] w (RF0 w (mkRat 1 2)) := by
 rw [← law2_q]
 exact pmean_any va zil w ha law2_p law2_m
theorem pbefore_12 (va vb : Value) (w : World) (ha : zhm w va law1) (hb : zhm w vb zil) : Calls Tryz.prog 32 #[va, vb] w (RF0 w (mkRat 1 3)) := by
 rw [← law12_q]
 exact zof va vb law1 zil w ha hb law1_p law2_p law12_b
theorem r2int_2a (w : World) : Calls Tryz.prog 20 #[.int .i64 2] w (RF1 w 2) := by
 have h := r2int_nat 2 w (by decide)
 have e : fq false 2 1 = 2 := by decide +kernel
 rw [e] at h
 exact h
theorem p2make_zz (a b : Nat) (y z : Int) (w : World) (hy : y = (a : Int)) (hz : z = (b : Int)) (ha : a < 4294967296) (hb : b < 4294967296) (hb0 : b ≠ 0) :
 Calls Tryz.prog 18 #[.int .i64 y, .int .i64 z] w (RF0 w (fq false a b)) := by subst hy; subst hz; exact zgf a b w ha hb hb0
theorem zmm (w : World) : Calls Tryz.prog 18 #[.int .i64 1, .int .i64 2] w (RF0 w (mkRat 1 2)) := p2make_zz 1 2 1 2 w rfl rfl (by decide) (by decide) (by decide)
theorem r2make_13a (w : World) : Calls Tryz.prog 18 #[.int .i64 1, .int .i64 3] w (RF0 w (mkRat 1 3)) := p2make_zz 1 3 1 3 w rfl rfl (by decide) (by decide) (by decide)
theorem zgm.parts2 {w : World} {v : Value} {q : Rat} (h : zgm w v (erlQ 1 q)) : ∃ sa sk ra rk ea ek, v = .agg #[.string { data := #[] }, .slice sa 1 sk, .slice ra 1 rk, .slice ea 1 ek] ∧ True := by
 obtain ⟨sv, rv, ev, rfl, hs, hr, he⟩ := h
 obtain ⟨ra, rn, rk, rfl, _⟩ := id hr.sl
 obtain ⟨sa, sn, sk, rfl, _⟩ := id hs.sl
 obtain ⟨ea, en, ek, rfl, _⟩ := id he.sl
 have hsn : sn = 1 := hs.len
 have hrn : rn = 1 := hr.len
 have hen : en = 1 := he.len
 subst hsn hrn hen
 exact ⟨sa, sk, ra, rk, ea, ek, rfl, trivial⟩
set_option maxRecDepth 100000 in
set_option maxHeartbeats 6400000 in
theorem awake20_any (w : World) : Calls Tryz.prog 25 #[] w (fun e w' => e = .returned (.bool true) ∧ Below w.heap.size w w') := by
 have HB := zH (Below.refl w.heap.size w)
 have HZM : Hid (∀ w0, Calls Tryz.prog 36 #[.agg #[.string { data := #[] }, .slice none 0 0, .slice none 0 0, .slice none 0 0]] w0 (fun e w' => e = .returned (.tuple #[.agg #[.bool false, .slice none 0 0, .slice none 0 0], .int .i64 1]) ∧ Below w0.heap.size w0 w')) := zH (fun w0 => pmean_zero w0)
 go_enter Tryz.func25, Tryz.ntmps25
 go_upto_region 2 with (first
  |(go_at_call 20; (with_reducible refine (r2int_one _).mono ?_); rintro e9 w9 ⟨v9, rfl, hv9, hb9⟩
    obtain ⟨t9, x9, y9, rfl, ⟨a91, l91, k91, rfl, _⟩, ⟨a92, l92, k92, rfl, _⟩⟩ := hv9.isF
    replace HB := zH (zaa HB.out hb9))
  |(go_at_call 26; (with_reducible refine (pexp_one _ _ hv9).mono ?_); rintro e1 w1 ⟨v1, rfl, hv1, hb1⟩
    clear hv9 hb9
    obtain ⟨sa1, sk1, ra1, rk1, ea1, ek1, rfl, _⟩ := hv1.parts2
    have hba := zca w1 (.cells #[.string { data := #[] }, .slice sa1 1 sk1, .slice ra1 1 rk1, .slice ea1 1 ek1] 52)
    have hbb := zaa hb1 hba
    have HC1 := zH (C4.new w1 52 (.string { data := #[] }) (.slice sa1 1 sk1) (.slice ra1 1 rk1) (.slice ea1 1 ek1))
    have HF1 := zH (hv1.below hba)
    replace HB := zH (zaa HB.out hbb)
    clear hv1 hb1 hba hbb))
 obtain ⟨b1, hb1⟩ : ∃ b, w1.heap.size = b := ⟨_, rfl⟩
 rw [hb1] at HC1 ⊢
 clear hb1
 generalize w1.alloc (.cells #[.string { data := #[] }, .slice sa1 1 sk1, .slice ra1 1 rk1, .slice ea1 1 ek1] 52) = W1 at *
 go_upto_region 3 with (first
  |(go_at_call 20; (with_reducible refine (r2int_2a _).mono ?_); rintro e9 w9 ⟨v9, rfl, hv9, hb9⟩
    obtain ⟨t9, x9, y9, rfl, ⟨a91, l91, k91, rfl, _⟩, ⟨a92, l92, k92, rfl, _⟩⟩ := hv9.isF
    replace HB := zH (zaa HB.out hb9); replace HC1 := zH (HC1.out.belowS hb9); replace HF1 := zH (HF1.out.below hb9))
  |(go_at_call 26; (with_reducible refine (pexp_two _ _ hv9).mono ?_); rintro e2 w2 ⟨v2, rfl, hv2, hb2⟩
    clear hv9 hb9
    obtain ⟨sa2, sk2, ra2, rk2, ea2, ek2, rfl, _⟩ := hv2.parts2
    have hba := zca w2 (.cells #[.string { data := #[] }, .slice sa2 1 sk2, .slice ra2 1 rk2, .slice ea2 1 ek2] 52)
    have hbb := zaa hb2 hba
    have HC2 := zH (C4.new w2 52 (.string { data := #[] }) (.slice sa2 1 sk2) (.slice ra2 1 rk2) (.slice ea2 1 ek2))
    have HF2 := zH (hv2.below hba)
    replace HB := zH (zaa HB.out hbb); replace HC1 := zH (HC1.out.belowS hbb); replace HF1 := zH (HF1.out.below hbb)
    clear hv2 hb2 hba hbb))
 obtain ⟨b2, hb2⟩ : ∃ b, w2.heap.size = b := ⟨_, rfl⟩
 rw [hb2] at HC2 ⊢
 clear hb2
 generalize w2.alloc (.cells #[.string { data := #[] }, .slice sa2 1 sk2, .slice ra2 1 rk2, .slice ea2 1 ek2] 52) = W2 at *
 obtain ⟨-, c0, c1, c2, c3, -, -, -, -⟩ := HC2.out
 go_upto_region 4 with (first
  |(go_at_call 36; (with_reducible refine (pmean_two _ _ HF2.out.lawC).mono ?_); rintro e3 w3 ⟨v3, rfl, hv3, hb3⟩
    clear c0 c1 c2 c3
    obtain ⟨t3, x3, y3, rfl, ⟨a31, l31, k31, rfl, _⟩, ⟨a32, l32, k32, rfl, _⟩⟩ := hv3.isF
    have hba := zca w3 (.cells #[.bool t3, .slice a31 l31 k31, .slice a32 l32 k32] 38)
    have hbb := zaa hb3 hba
    have HC3 := zH (C3.new w3 38 (.bool t3) (.slice a31 l31 k31) (.slice a32 l32 k32))
    have HF3 := zH (hv3.below hba)
    replace HB := zH (zaa HB.out hbb); replace HC1 := zH (HC1.out.belowS hbb); replace HF1 := zH (HF1.out.below hbb); replace HC2 := zH (HC2.out.belowS hbb); replace HF2 := zH (HF2.out.below hbb)
    clear hv3 hb3 hba hbb))
 obtain ⟨b3, hb3⟩ : ∃ b, w3.heap.size = b := ⟨_, rfl⟩
 rw [hb3] at HC3 ⊢
 clear hb3
 generalize w3.alloc (.cells #[.bool t3, .slice a31 l31 k31, .slice a32 l32 k32] 38) = W3 at *
 obtain ⟨-, c0, c1, c2, c3, -, -, -, -⟩ := HC1.out
 obtain ⟨-, d0, d1, d2, d3, -, -, -, -⟩ := HC2.out
 go_upto_region 5 with (first
  |(go_at_call 32; (with_reducible refine (pbefore_12 _ _ _ HF1.out.lawC HF2.out.lawC).mono ?_); rintro e4 w4 ⟨v4, rfl, hv4, hb4⟩
    clear c0 c1 c2 c3 d0 d1 d2 d3
    obtain ⟨t4, x4, y4, rfl, ⟨a41, l41, k41, rfl, _⟩, ⟨a42, l42, k42, rfl, _⟩⟩ := hv4.isF
    have hba := zca w4 (.cells #[.bool t4, .slice a41 l41 k41, .slice a42 l42 k42] 38)
    have hbb := zaa hb4 hba
    have HC4 := zH (C3.new w4 38 (.bool t4) (.slice a41 l41 k41) (.slice a42 l42 k42))
    have HF4 := zH (hv4.below hba)
    replace HB := zH (zaa HB.out hbb); replace HC3 := zH (HC3.out.belowS hbb); replace HF3 := zH (HF3.out.below hbb)
    clear hv4 hb4 hba hbb))
 obtain ⟨b4, hb4⟩ : ∃ b, w4.heap.size = b := ⟨_, rfl⟩
 rw [hb4] at HC4 ⊢
 clear hb4
 generalize w4.alloc (.cells #[.bool t4, .slice a41 l41 k41, .slice a42 l42 k42] 38) = W4 at *
 clear HC1 HF1 HC2 HF2
 go_upto_region 6 with (first
  |(go_at_call 36; (with_reducible refine (HZM.out _).mono ?_); rintro e6 w6 ⟨rfl, hb6⟩
    have hba := zca w6 (.cells #[.bool false, .slice none 0 0, .slice none 0 0] 38)
    have hbb := zaa hb6 hba
    replace HB := zH (zaa HB.out hbb); replace HC3 := zH (HC3.out.belowS hbb); replace HF3 := zH (HF3.out.below hbb); replace HC4 := zH (HC4.out.belowS hbb); replace HF4 := zH (HF4.out.below hbb)
    clear hb6 hba hbb))
 generalize w6.alloc (.cells #[.bool false, .slice none 0 0, .slice none 0 0] 38) = W6 at *
 go_upto_region 7 with (first
  |(go_at_call 18; (with_reducible refine (zmm _).mono ?_); rintro e5 w5 ⟨v5, rfl, hv5, hb5⟩
    obtain ⟨t5, x5, y5, rfl, ⟨a51, l51, k51, rfl, _⟩, ⟨a52, l52, k52, rfl, _⟩⟩ := hv5.isF
    have hba := zca w5 (.cells #[.bool t5, .slice a51 l51 k51, .slice a52 l52 k52] 38)
    have hbb := zaa hb5 hba
    have HC5 := zH (C3.new w5 38 (.bool t5) (.slice a51 l51 k51) (.slice a52 l52 k52))
    have HF5 := zH (hv5.below hba)
    replace HB := zH (zaa HB.out hbb); replace HC3 := zH (HC3.out.belowS hbb); replace HF3 := zH (HF3.out.below hbb); replace HC4 := zH (HC4.out.belowS hbb); replace HF4 := zH (HF4.out.below hbb)
    clear hv5 hb5 hba hbb))
 obtain ⟨b5, hb5⟩ : ∃ b, w5.heap.size = b := ⟨_, rfl⟩
 rw [hb5] at HC5 ⊢
 clear hb5
 generalize w5.alloc (.cells #[.bool t5, .slice a51 l51 k51, .slice a52 l52 k52] 38) = W5 at *
 go_upto_region 8 with (first
  |(go_at_call 18; (with_reducible refine (r2make_13a _).mono ?_); rintro e7 w7 ⟨v7, rfl, hv7, hb7⟩
    obtain ⟨t7, x7, y7, rfl, ⟨a71, l71, k71, rfl, _⟩, ⟨a72, l72, k72, rfl, _⟩⟩ := hv7.isF
    have hba := zca w7 (.cells #[.bool t7, .slice a71 l71 k71, .slice a72 l72 k72] 38)
    have hbb := zaa hb7 hba
    have HC7 := zH (C3.new w7 38 (.bool t7) (.slice a71 l71 k71) (.slice a72 l72 k72))
    have HF7 := zH (hv7.below hba)
    replace HB := zH (zaa HB.out hbb); replace HC3 := zH (HC3.out.belowS hbb); replace HF3 := zH (HF3.out.below hbb); replace HC4 := zH (HC4.out.belowS hbb); replace HF4 := zH (HF4.out.below hbb); replace HC5 := zH (HC5.out.belowS hbb); replace HF5 := zH (HF5.out.below hbb)
    clear hv7 hb7 hba hbb))
 obtain ⟨b7, hb7⟩ : ∃ b, w7.heap.size = b := ⟨_, rfl⟩
 rw [hb7] at HC7 ⊢
 clear hb7
 generalize w7.alloc (.cells #[.bool t7, .slice a71 l71 k71, .slice a72 l72 k72] 38) = W7 at *
 obtain ⟨-, c0, c1, c2, -, -, -⟩ := HC3.out
 obtain ⟨-, d0, d1, d2, -, -, -⟩ := HC5.out
 obtain ⟨-, p0, p1, p2, -, -, -⟩ := HC4.out
 obtain ⟨-, q0, q1, q2, -, -, -⟩ := HC7.out
 go_wp2_with (first
  |(go_at_call 61; (with_reducible refine (same_frac _ _ (mkRat 1 2) (mkRat 1 2) _ HF3.out HF5.out).mono ?_); rintro e10 w10 ⟨⟨z10, rfl, hz10⟩, hb10⟩; obtain rfl : z10 = true := hz10.2 rfl
    clear hz10 c0 c1 c2 d0 d1 d2 p0 p1 p2 q0 q1 q2
    replace HB := zH (zaa HB.out hb10); replace HC4 := zH (HC4.out.belowS hb10); replace HF4 := zH (HF4.out.below hb10); replace HC7 := zH (HC7.out.belowS hb10); replace HF7 := zH (HF7.out.below hb10)
    obtain ⟨-, p0, p1, p2, -, -, -⟩ := HC4.out
    obtain ⟨-, q0, q1, q2, -, -, -⟩ := HC7.out
    clear hb10)
  |(go_at_call 61; (with_reducible refine (same_frac _ _ (mkRat 1 3) (mkRat 1 3) _ HF4.out HF7.out).mono ?_); rintro e11 w11 ⟨⟨z11, rfl, hz11⟩, hb11⟩; obtain rfl : z11 = true := hz11.2 rfl
    clear hz11 p0 p1 p2 q0 q1 q2
    replace HB := zH (zaa HB.out hb11)
    clear hb11))
 go_ret
 exact ⟨rfl, HB.out⟩
theorem r2same_can (va vb : Value) (p q : Rat) (w : World) (ha : zqa w va p) (hb : zqa w vb q) (hp : fits p) (hq : fits q) : Calls Tryz.prog 33 #[va, vb] w fun en w' => en = .returned (.bool (decide (p = q))) ∧ Below w.heap.size w w' := by
 have h := r2same_any va vb _ _ _ _ _ _ w ha.raw hb.raw ⟨p.den_nz, hp.2, hp.1⟩ ⟨q.den_nz, hq.2, hq.1⟩
 rw [zvb, zvb] at h
 exact h
end Go.Proofs.YtlpdkbmmbdfoiaaGreat
