/-
  package drydockref02: fits, Reduce, Add of any fractions.
-/
import Derived.Test.YtlpdkbmmbdfoiaaGreatFFr3
import Derived.Test.YtlpdkbmmbdfoiaaGreatFRb2
set_option linter.unusedVariables false
set_option linter.unusedSimpArgs false
namespace Go.Proofs.YtlpdkbmmbdfoiaaGreat
open Go.RowKit
set_option maxHeartbeats 800000 in
theorem zqe (w : World) : Calls Tryz.prog 88 #[.int .i64 0] w (RF1 w 0) := by
 go_enter Tryz.func88, Tryz.ntmps88
 go_wp2_with (go_at_call 67; (with_reducible refine (make_01 _).mono ?_); rintro e w1 ⟨v, rfl, hv, hb1⟩
              obtain ⟨t9, x9, y9, rfl, ⟨a1, l91, k1, rfl, _⟩, ⟨a2, l92, k2, rfl, _⟩⟩ := hv.isF
              have hr := ((C3.new w 38 (.bool false) (.slice none 0 0) (.slice none 0 0)).belowS hb1).allocS (.cells #[.bool t9, .slice a1 l91 k1, .slice a2 l92 k2] 38)
              have hv2 := hv.below (zca w1 (.cells #[.bool t9, .slice a1 l91 k1, .slice a2 l92 k2] 38))
              have hb2 := zaa (zaa (zca w (.cells #[.bool false, .slice none 0 0, .slice none 0 0] 38)) hb1) (zca w1 (.cells #[.bool t9, .slice a1 l91 k1, .slice a2 l92 k2] 38))
              have HR := zH hr
              obtain ⟨_, d1, d2, d3, d4, d5, d6⟩ := hr)
 refine zab rfl rfl Tryz.aggF Tryz.sizeF (HR.out.set _ _ _) rfl ?_
 exact ⟨_, rfl, hv2.set3 HR.out (fun z => by simp) (fun z => by simp) _ _ _, zga hb2 (Nat.le_refl _) _ _ _⟩
set_option maxHeartbeats 800000 in
theorem zxk (w : World) : Calls Tryz.prog 88 #[.int .i64 1] w (RF1 w 1) := by
 go_enter Tryz.func88, Tryz.ntmps88
 go_wp2_with (go_at_call 67; (with_reducible refine (make_11 _).mono ?_); rintro e w1 ⟨v, rfl, hv, hb1⟩
              obtain ⟨t9, x9, y9, rfl, ⟨a1, l91, k1, rfl, _⟩, ⟨a2, l92, k2, rfl, _⟩⟩ := hv.isF
              have hr := ((C3.new w 38 (.bool false) (.slice none 0 0) (.slice none 0 0)).belowS hb1).allocS (.cells #[.bool t9, .slice a1 l91 k1, .slice a2 l92 k2] 38)
              have hv2 := hv.below (zca w1 (.cells #[.bool t9, .slice a1 l91 k1, .slice a2 l92 k2] 38))
              have hb2 := zaa (zaa (zca w (.cells #[.bool false, .slice none 0 0, .slice none 0 0] 38)) hb1) (zca w1 (.cells #[.bool t9, .slice a1 l91 k1, .slice a2 l92 k2] 38))
              have HR := zH hr
              obtain ⟨_, d1, d2, d3, d4, d5, d6⟩ := hr)
 refine zab rfl rfl Tryz.aggF Tryz.sizeF (HR.out.set _ _ _) rfl ?_
 exact ⟨_, rfl, hv2.set3 HR.out (fun z => by simp) (fun z => by simp) _ _ _, zga hb2 (Nat.le_refl _) _ _ _⟩
set_option maxHeartbeats 1600000 in
theorem pplus_can (va vb : Value) (p q : Rat) (w : World) (ha : zqa w va p) (hb : zqa w vb q) (hp : fits p) (hq : fits q) (hr : fits (p + q)) : Calls Tryz.prog 94 #[va, vb] w (RF1 w (p + q)) := by
 obtain ⟨t1, x1, y1, rfl, ⟨a11, l11, k11, rfl, _⟩, ⟨a12, l12, k12, rfl, _⟩⟩ := ha.isF
 obtain ⟨t2, x2, y2, rfl, ⟨a21, l21, k21, rfl, _⟩, ⟨a22, l22, k22, rfl, _⟩⟩ := hb.isF
 obtain ⟨hA, hB, hR, hbw⟩ := zmc w 38 (.bool t1) (.slice a11 l11 k11) (.slice a12 l12 k12) (.bool t2) (.slice a21 l21 k21) (.slice a22 l22 k22) (.bool false) (.slice none 0 0) (.slice none 0 0) _ rfl
 have HR := zH hR
 have HBW := zH hbw
 have HA := zH (ha.below hbw)
 have HB := zH (hb.below hbw)
 have HF := zH (And.intro hp (And.intro hq hr))
 obtain ⟨_, c0, c1, c2, _, _, _⟩ := id hA
 obtain ⟨_, d0, d1, d2, _, _, _⟩ := id hB
 clear hA hB hR ha hb hp hq hr hbw
 go_enter Tryz.func94, Tryz.ntmps94
 go_wp2_with (first
  |(go_at_call 80; (with_reducible refine (add_can _ _ p q _ HA.out HB.out HF.out.1 HF.out.2.1 HF.out.2.2).mono ?_); rintro e3 w3 ⟨v3, rfl, hv3, hb3⟩
    obtain ⟨t3, x3, y3, rfl, ⟨a31, l31, k31, rfl, _⟩, ⟨a32, l32, k32, rfl, _⟩⟩ := hv3.isF
    have hba := zca w3 (.cells #[.bool t3, .slice a31 l31 k31, .slice a32 l32 k32] 38)
    have HR3 := zH (HR.out.belowS (zaa hb3 hba))
    have HV3 := zH (hv3.below hba)
    have HB3 := zH (zaa HBW.out (zaa hb3 hba))
    obtain ⟨_, g0, g1, g2, g3, g4, g5⟩ := HR3.out
    clear hv3 hb3 hba))
 refine zab rfl rfl Tryz.aggF Tryz.sizeF (HR3.out.set _ _ _) rfl ?_
 exact ⟨_, rfl, HV3.out.set3 HR3.out (fun z => by simp) (fun z => by simp) _ _ _, zga HB3.out (Nat.le_trans (Nat.le_succ _) (Nat.le_succ _)) _ _ _⟩
set_option maxHeartbeats 1600000 in
theorem zyi (va vb : Value) (p q : Rat) (w : World) (ha : zqa w va p) (hb : zqa w vb q) (hp : fits p) (hq : fits q) (hr : fits (p - q)) : Calls Tryz.prog 96 #[va, vb] w (RF1 w (p - q)) := by
 obtain ⟨t1, x1, y1, rfl, ⟨a11, l11, k11, rfl, _⟩, ⟨a12, l12, k12, rfl, _⟩⟩ := ha.isF
 obtain ⟨t2, x2, y2, rfl, ⟨a21, l21, k21, rfl, _⟩, ⟨a22, l22, k22, rfl, _⟩⟩ := hb.isF
 obtain ⟨hA, hB, hR, hbw⟩ := zmc w 38 (.bool t1) (.slice a11 l11 k11) (.slice a12 l12 k12) (.bool t2) (.slice a21 l21 k21) (.slice a22 l22 k22) (.bool false) (.slice none 0 0) (.slice none 0 0) _ rfl
 have HR := zH hR
 have HBW := zH hbw
 have HA := zH (ha.below hbw)
 have HB := zH (hb.below hbw)
 have HF := zH (And.intro hp (And.intro hq hr))
 obtain ⟨_, c0, c1, c2, _, _, _⟩ := id hA
 obtain ⟨_, d0, d1, d2, _, _, _⟩ := id hB
 clear hA hB hR ha hb hp hq hr hbw
 go_enter Tryz.func96, Tryz.ntmps96
 go_wp2_with (first
  |(go_at_call 163; (with_reducible refine (sub_can _ _ p q _ HA.out HB.out HF.out.1 HF.out.2.1 HF.out.2.2).mono ?_); rintro e3 w3 ⟨v3, rfl, hv3, hb3⟩
    obtain ⟨t3, x3, y3, rfl, ⟨a31, l31, k31, rfl, _⟩, ⟨a32, l32, k32, rfl, _⟩⟩ := hv3.isF
    have hba := zca w3 (.cells #[.bool t3, .slice a31 l31 k31, .slice a32 l32 k32] 38)
    have HR3 := zH (HR.out.belowS (zaa hb3 hba))
    have HV3 := zH (hv3.below hba)
    have HB3 := zH (zaa HBW.out (zaa hb3 hba))
    obtain ⟨_, g0, g1, g2, g3, g4, g5⟩ := HR3.out
    clear hv3 hb3 hba))
 refine zab rfl rfl Tryz.aggF Tryz.sizeF (HR3.out.set _ _ _) rfl ?_
 exact ⟨_, rfl, HV3.out.set3 HR3.out (fun z => by simp) (fun z => by simp) _ _ _, zga HB3.out (Nat.le_trans (Nat.le_succ _) (Nat.le_succ _)) _ _ _⟩
set_option maxHeartbeats 1600000 in
theorem zmp (va vb : Value) (p q : Rat) (w : World) (ha : zqa w va p) (hb : zqa w vb q) (hp : fits p) (hq : fits q) (hr : fits (p * q)) : Calls Tryz.prog 97 #[va, vb] w (RF1 w (p * q)) := by
 obtain ⟨t1, x1, y1, rfl, ⟨a11, l11, k11, rfl, _⟩, ⟨a12, l12, k12, rfl, _⟩⟩ := ha.isF
 obtain ⟨t2, x2, y2, rfl, ⟨a21, l21, k21, rfl, _⟩, ⟨a22, l22, k22, rfl, _⟩⟩ := hb.isF
 obtain ⟨hA, hB, hR, hbw⟩ := zmc w 38 (.bool t1) (.slice a11 l11 k11) (.slice a12 l12 k12) (.bool t2) (.slice a21 l21 k21) (.slice a22 l22 k22) (.bool false) (.slice none 0 0) (.slice none 0 0) _ rfl
 have HR := zH hR
 have HBW := zH hbw
 have HA := zH (ha.below hbw)
 have HB := zH (hb.below hbw)
 have HF := zH (And.intro hp (And.intro hq hr))
 obtain ⟨_, c0, c1, c2, _, _, _⟩ := id hA
 obtain ⟨_, d0, d1, d2, _, _, _⟩ := id hB
 clear hA hB hR ha hb hp hq hr hbw
 go_enter Tryz.func97, Tryz.ntmps97
 go_wp2_with (first
  |(go_at_call 131; (with_reducible refine (zbl _ _ p q _ HA.out HB.out HF.out.1 HF.out.2.1 HF.out.2.2).mono ?_); rintro e3 w3 ⟨v3, rfl, hv3, hb3⟩
    obtain ⟨t3, x3, y3, rfl, ⟨a31, l31, k31, rfl, _⟩, ⟨a32, l32, k32, rfl, _⟩⟩ := hv3.isF
    have hba := zca w3 (.cells #[.bool t3, .slice a31 l31 k31, .slice a32 l32 k32] 38)
    have HR3 := zH (HR.out.belowS (zaa hb3 hba))
    have HV3 := zH (hv3.below hba)
    have HB3 := zH (zaa HBW.out (zaa hb3 hba))
    obtain ⟨_, g0, g1, g2, g3, g4, g5⟩ := HR3.out
    clear hv3 hb3 hba))
 refine zab rfl rfl Tryz.aggF Tryz.sizeF (HR3.out.set _ _ _) rfl ?_
 exact ⟨_, rfl, HV3.out.set3 HR3.out (fun z => by simp) (fun z => by simp) _ _ _, zga HB3.out (Nat.le_trans (Nat.le_succ _) (Nat.le_succ _)) _ _ _⟩
theorem fin_any (n lo hi : Int) (w : World) : Calls Tryz.prog 133 #[.int .i64 n, .int .i64 lo, .int .i64 hi] w (fun e w' => e = .returned (.bool (decide (lo ≤ n) && decide (n ≤ hi))) ∧ w' = w) := by
 go_enter Tryz.func133, Tryz.ntmps133
 by_cases h1 : lo ≤ n
 ·have h2 : decide (lo ≤ n) = true := decide_eq_true h1
  go_wp2_with fail
  go_ret
  exact ⟨by simp [h1], rfl⟩
 ·have h2 : decide (lo ≤ n) = false := decide_eq_false h1
  go_wp2_with fail
  go_ret
  exact ⟨by simp [h1], rfl⟩
theorem zvp {w : World} {a1 a2 a3 a4 a5 a6 : Addr} {x1 x2 x3 x4 x5 x6 : Value} (h : w.cell? a1 = some x1 ∧ w.cell? a2 = some x2 ∧ w.cell? a3 = some x3 ∧ w.cell? a4 = some x4 ∧ w.cell? a5 = some x5 ∧ w.cell? a6 = some x6) {p : Addr}
 (h1 : p.block ≠ a1.block) (h2 : p.block ≠ a2.block) (h3 : p.block ≠ a3.block) (h4 : p.block ≠ a4.block) (h5 : p.block ≠ a5.block) (h6 : p.block ≠ a6.block) (u : Value) :
 (w.setCell p u).cell? a1 = some x1 ∧ (w.setCell p u).cell? a2 = some x2 ∧ (w.setCell p u).cell? a3 = some x3 ∧ (w.setCell p u).cell? a4 = some x4 ∧ (w.setCell p u).cell? a5 = some x5 ∧ (w.setCell p u).cell? a6 = some x6 := by
 have key : ∀ a x, w.cell? a = some x → p.block ≠ a.block → (w.setCell p u).cell? a = some x := fun a x ha hp => by
  rw [World.cell?_setCell_other _ _ _ _ (fun e => hp (by rw [e]))]; exact ha
 obtain ⟨k1, k2, k3, k4, k5, k6⟩ := h
 exact ⟨key _ _ k1 h1, key _ _ k2 h2, key _ _ k3 h3, key _ _ k4 h4, key _ _ k5 h5, key _ _ k6 h6⟩
theorem zji (p q : Rat) : cmpR p q = 0 ↔ p = q := by
 unfold cmpR
 constructor
 ·intro h
  split at h
  ·omega
  ·split at h
   ·omega
   ·next h1 h2 => exact Rat.le_antisymm (Rat.not_lt.1 h2) (Rat.not_lt.1 h1)
 ·rintro rfl
  rw [if_neg (Rat.lt_irrefl), if_neg (Rat.lt_irrefl)]
set_option maxHeartbeats 800000 in
theorem zke (va vb : Value) (m n : Nat) (w : World) (ha : zob w va m) (hb : zob w vb n) (hm : zda m ≤ 128) (hn : zda n ≤ 128) :
 Calls Tryz.prog 74 #[va, vb] w (RNat w (m * n)) := by
 have HM := zH (show zda m ≤ 512 by omega)
 have HN := zH (show zda n ≤ 512 by omega)
 have HMN : Hid (zda (m * n) ≤ 512) := zH (by
  have h1 := zzb.1 hm
  have h2 := zzb.1 hn
  refine zzb.2 ?_
  have h3 : m * n ≤ pw 128 * pw 128 := Nat.mul_le_mul (by omega) (by omega)
  have h4 : pw 128 * pw 128 < pw 512 := by decide +kernel
  omega)
 clear hm hn
 go_enter Tryz.func74, Tryz.ntmps74
 go_wp2_with (go_at_call 151; (with_reducible refine (rmul_any _ _ m n _ ha hb HM.out HN.out).mono ?_); rintro e1 w1 ⟨r, er, rfl, hr, hb1⟩)
 go_ret
 exact ⟨r, rfl, (hr.1 HMN.out).2, hb1⟩
set_option maxHeartbeats 800000 in
theorem zlo (v : Value) (q : Rat) (w : World) (h : zqa w v q) (hf : fits q) :
 Calls Tryz.prog 49 #[v] w fun e w' => e = .returned (.bool true) ∧ Below w.heap.size w w' := by
 obtain ⟨a, b, rfl, ha, hb⟩ := h
 obtain ⟨n1, n2⟩ := zrc (zuc hf)
 have hd0 : 0 < zda q.den := by
  rcases Nat.eq_zero_or_pos (zda q.den) with h | h
  ·have h1 := zzb.1 (Nat.le_of_eq h)
   have h2 := q.den_nz
   simp [pw] at h1
   omega
  ·exact h
 have hd1 : decide ((0 : Int) < (zda q.den : Nat)) = true := decide_eq_true (by omega)
 have hd2 : decide (((zda q.den : Nat) : Int) ≤ 128) = true := decide_eq_true (by omega)
 have hd3 : decide (((zda q.num.natAbs : Nat) : Int) ≤ 128) = true := decide_eq_true (by omega)
 obtain ⟨aa, al, ak, rfl, _⟩ := id ha.v.sl
 obtain ⟨ba, bl, bk, rfl, _⟩ := id hb.v.sl
 have hbx := zca w (.cells #[.bool (decide (q < 0)), .slice aa al ak, .slice ba bl bk] 38)
 have hC := C3.new w 38 (.bool (decide (q < 0))) (.slice aa al ak) (.slice ba bl bk)
 have HC := zH hC
 have HA := zH (ha.below hbx)
 have HB := zH (hb.below hbx)
 obtain ⟨_, c0, c1, c2, _, _, _⟩ := id hC
 clear hC hf hd1 hd2 hd3
 go_enter Tryz.func49, Tryz.ntmps49
 go_wp2_with (first
  |(go_at_call 106; (with_reducible refine (zra _ q.den _ HB.out.nat).mono ?_); rintro e1 w1 ⟨r1, rfl, hr1, hb1⟩
    have s1 := hr1.v.sl
    have l1 : slen r1 = zda q.den := hr1.v.len
    obtain ⟨_, c0, c1, c2, _, _, _⟩ := HC.out.belowS hb1)
  |(go_at_call 106; (with_reducible refine (zra _ q.den _ (HB.out.below hb1).nat).mono ?_); rintro e2 w2 ⟨r2, rfl, hr2, hb2⟩
    have s2 := hr2.v.sl
    have l2 : slen r2 = zda q.den := hr2.v.len
    obtain ⟨_, c0, c1, c2, _, _, _⟩ := HC.out.belowS (zaa hb1 hb2))
  |(go_at_call 106; (with_reducible refine (zra _ q.num.natAbs _ ((HA.out.below hb1).below hb2).nat).mono ?_); rintro e3 w3 ⟨r3, rfl, hr3, hb3⟩
    have s3 := hr3.v.sl
    have l3 : slen r3 = zda q.num.natAbs := hr3.v.len))
 go_ret
 refine ⟨?_, zaa (zaa (zaa hbx hb1) hb2) hb3⟩
 congr 2
 simp
 omega
set_option maxHeartbeats 800000 in
theorem r2large_can (v : Value) (q : Rat) (w : World) (h : zqa w v q) (hf : fits q) :
 Calls Tryz.prog 154 #[v] w fun e w' => e = .returned (.bool false) ∧ Below w.heap.size w w' := by
 obtain ⟨a, b, rfl, ha, hb⟩ := h
 obtain ⟨n1, n2⟩ := zrc (zuc hf)
 obtain ⟨aa, al, ak, rfl, _⟩ := id ha.v.sl
 obtain ⟨ba, bl, bk, rfl, _⟩ := id hb.v.sl
 have e1 : al = zda q.num.natAbs := ha.v.len
 have e2 : bl = zda q.den := hb.v.len
 have n1' : al ≤ 128 := by omega
 have n2' : bl ≤ 128 := by omega
 have h1 : ¬ (128 < al) := by omega
 have h2 : ¬ (128 < bl) := by omega
 have hbx := zca w (.cells #[.bool (decide (q < 0)), .slice aa al ak, .slice ba bl bk] 38)
 have hC := C3.new w 38 (.bool (decide (q < 0))) (.slice aa al ak) (.slice ba bl bk)
 obtain ⟨_, c0, c1, c2, _, _, _⟩ := id hC
 clear hC hf n1 n2 e1 e2
 go_enter Tryz.func154, Tryz.ntmps154
 go_wp2_with fail
 go_ret
 refine ⟨?_, hbx⟩
 congr 2
 simp
 omega
set_option maxHeartbeats 800000 in
theorem zuo (v : Value) (q : Rat) (w : World) (h : zqa w v q) (hf : fits q) : Calls Tryz.prog 76 #[v] w (RF0 w q) := by
 obtain ⟨a, b, rfl, ha, hb⟩ := id h
 obtain ⟨aa, al, ak, rfl, _⟩ := id ha.v.sl
 obtain ⟨ba, bl, bk, rfl, _⟩ := id hb.v.sl
 have hbx := zca w (.cells #[.bool (decide (q < 0)), .slice aa al ak, .slice ba bl bk] 38)
 have hb2 := zca (w.alloc (.cells #[.bool (decide (q < 0)), .slice aa al ak, .slice ba bl bk] 38)) (.cells #[.bool false, .slice none 0 0, .slice none 0 0] 38)
 have hC := (C3.new w 38 (.bool (decide (q < 0))) (.slice aa al ak) (.slice ba bl bk)).belowS hb2
 have hR := C3.newB (b := w.heap.size + 1) (w.alloc (.cells #[.bool (decide (q < 0)), .slice aa al ak, .slice ba bl bk] 38)) 38 (.bool false) (.slice none 0 0) (.slice none 0 0) (by simp)
 have HC := zH hC
 have HR := zH hR
 have HF := zH hf
 have HQ := zH ((h.below hbx).below hb2)
 have hbb := zaa hbx hb2
 obtain ⟨_, c0, c1, c2, _, _, _⟩ := id hC
 clear hC hR hf h ha hb
 go_enter Tryz.func76, Tryz.ntmps76
 go_wp2_with (go_at_call 154; (with_reducible refine (r2large_can _ q _ HQ.out HF.out).mono ?_); rintro e1 w1 ⟨rfl, hb1⟩
              obtain ⟨_, c0, c1, c2, _, _, _⟩ := HC.out.belowS hb1
              have HR1 := zH (HR.out.belowS hb1)
              obtain ⟨_, d0, d1, d2, d3, d4, d5⟩ := HR1.out)
 refine zoa rfl rfl Tryz.aggF Tryz.sizeF (HR1.out.set _ _ _) rfl ?_
 exact ⟨_, rfl, (HQ.out.below hb1).set3 HR1.out (fun z => by simp) (fun z => by simp) _ _ _, zga (zaa hbb hb1) (Nat.le_succ _) _ _ _⟩
theorem fq_mul_self (p q : Rat) : fq (decide (p < 0) != decide (q < 0)) (p.num.natAbs * q.num.natAbs) (p.den * q.den) = p * q := by rw [← fq_mul, zvb, zvb]
theorem fq_mul_self' (p q : Rat) : fq (!(decide (p < 0) == decide (q < 0))) (p.num.natAbs * q.num.natAbs) (p.den * q.den) = p * q := fq_mul_self p q
theorem keep6b {X Y : World} {a1 a2 a3 a4 a5 a6 : Addr} {x1 x2 x3 x4 x5 x6 : Value} (h : X.cell? a1 = some x1 ∧ X.cell? a2 = some x2 ∧ X.cell? a3 = some x3 ∧ X.cell? a4 = some x4 ∧ X.cell? a5 = some x5 ∧ X.cell? a6 = some x6) (hb : Below X.heap.size X Y) :
 Y.cell? a1 = some x1 ∧ Y.cell? a2 = some x2 ∧ Y.cell? a3 = some x3 ∧ Y.cell? a4 = some x4 ∧ Y.cell? a5 = some x5 ∧ Y.cell? a6 = some x6 := by
 obtain ⟨k1, k2, k3, k4, k5, k6⟩ := h
 exact ⟨zba hb k1, zba hb k2, zba hb k3, zba hb k4, zba hb k5, zba hb k6⟩
set_option maxRecDepth 100000 in
set_option maxHeartbeats 1600000 in
theorem r2mul_can (va vb : Value) (p q : Rat) (w : World) (ha : zqa w va p) (hb : zqa w vb q) (hp : fits p) (hq : fits q) (hf : fits (p * q)) : Calls Tryz.prog 38 #[va, vb] w (RF0 w (p * q)) := by
 obtain ⟨a1, a2, rfl, n1, n2⟩ := id ha
 obtain ⟨b1, b2, rfl, m1, m2⟩ := id hb
 obtain ⟨x1, y1, z1, rfl, _⟩ := id n1.v.sl
 obtain ⟨x2, y2, z2, rfl, _⟩ := id n2.v.sl
 obtain ⟨x3, y3, z3, rfl, _⟩ := id m1.v.sl
 obtain ⟨x4, y4, z4, rfl, _⟩ := id m2.v.sl
 have k1 := zca w (.cells #[.bool (decide (p < 0)), .slice x1 y1 z1, .slice x2 y2 z2] 38)
 have k2 := zca (w.alloc (.cells #[.bool (decide (p < 0)), .slice x1 y1 z1, .slice x2 y2 z2] 38)) (.cells #[.bool (decide (q < 0)), .slice x3 y3 z3, .slice x4 y4 z4] 38)
 have k3 := zca ((w.alloc (.cells #[.bool (decide (p < 0)), .slice x1 y1 z1, .slice x2 y2 z2] 38)).alloc (.cells #[.bool (decide (q < 0)), .slice x3 y3 z3, .slice x4 y4 z4] 38)) (.cells #[.bool false, .slice none 0 0, .slice none 0 0] 38)
 have H3 := zmc w 38 (.bool (decide (p < 0))) (.slice x1 y1 z1) (.slice x2 y2 z2) (.bool (decide (q < 0))) (.slice x3 y3 z3) (.slice x4 y4 z4) (.bool false) (.slice none 0 0) (.slice none 0 0) _ rfl
 obtain ⟨hA, hB, hR, hbw⟩ := H3
 have HA := zH hA
 have HB := zH hB
 have HR := zH hR
 have HAP := zH (ha.below hbw)
 have HBQ := zH (hb.below hbw)
 have HP := zH hp
 have HQ := zH hq
 have HPQ := zH hf
 have HL := zH (And.intro (zrc (zuc hp)) (zrc (zuc hq)))
 obtain ⟨_, c0, c1, c2, _, _, _⟩ := id hA
 obtain ⟨_, d0, d1, d2, _, _, _⟩ := id hB
 clear hA hB hR ha hb n1 n2 m1 m2 hp hq hf k1 k2 k3
 go_enter Tryz.func38, Tryz.ntmps38
 go_upto_region 3 with (first
  |(go_at_call 49; (with_reducible refine (zlo _ p _ HAP.out HP.out).mono ?_); rintro e1 w1 ⟨rfl, hb1⟩
    obtain ⟨_, c0, c1, c2, _, _, _⟩ := HA.out.belowS hb1
    obtain ⟨_, d0, d1, d2, _, _, _⟩ := HB.out.belowS hb1)
  |(go_at_call 49; (with_reducible refine (zlo _ q _ (HBQ.out.below hb1) HQ.out).mono ?_); rintro e2 w2 ⟨rfl, hb2⟩))
 have b12 := zaa hb1 hb2
 have hD := zja (B := w2.heap.size) w2
 have b1D := zaa b12 hD
 obtain ⟨_, q1, q2, q3, _, _, _⟩ := HA.out.belowS b1D
 obtain ⟨_, r1, r2, r3, _, _, _⟩ := HB.out.belowS b1D
 have HRD := zH (HR.out.belowS b1D)
 have HAD := zH (HAP.out.below b1D)
 have HBD := zH (HBQ.out.below b1D)
 have hbwD := zaa hbw b1D
 obtain ⟨u1, u2, hu, nA, nB⟩ := HAD.out
 injection hu with hu
 injection hu with hu
 simp only [List.cons.injEq, and_true, true_and] at hu
 obtain ⟨rfl, rfl⟩ := hu
 obtain ⟨u1, u2, hu, mA, mB⟩ := HBD.out
 injection hu with hu
 injection hu with hu
 simp only [List.cons.injEq, and_true, true_and] at hu
 obtain ⟨rfl, rfl⟩ := hu
 have kA : w.heap.size + 1 + 1 ≠ w.heap.size := by omega
 have kB : w.heap.size + 1 + 1 ≠ w.heap.size + 1 := by omega
 have HNN := zH (And.intro nA (And.intro nB (And.intro mA mB)))
 have HDZ : Hid (p.den * q.den ≠ 0) := zH (Nat.mul_ne_zero p.den_nz q.den_nz)
 have HN5 : Hid (zda (p.num.natAbs * q.num.natAbs) ≤ 512) := zH (Nat.le_trans (zsd HL.out.1.1 HL.out.2.1) (by decide))
 have HD5 : Hid (zda (p.den * q.den) ≤ 512) := zH (Nat.le_trans (zsd HL.out.1.2 HL.out.2.2) (by decide))
 clear nA nB mA mB c0 c1 c2 d0 d1 d2
 go_region_held3 (fun w' => w'.cell? ⟨w.heap.size, 0, none⟩ = some (.bool (decide (p < 0))) ∧ w'.cell? ⟨w.heap.size, 1, none⟩ = some (.slice x1 y1 z1) ∧ w'.cell? ⟨w.heap.size, 2, none⟩ = some (.slice x2 y2 z2) ∧ w'.cell? ⟨w.heap.size + 1, 0, none⟩ = some (.bool (decide (q < 0))) ∧ w'.cell? ⟨w.heap.size + 1, 1, none⟩ = some (.slice x3 y3 z3) ∧ w'.cell? ⟨w.heap.size + 1, 2, none⟩ = some (.slice x4 y4 z4)) (first
  | with_reducible exact ⟨q1, q2, q3, r1, r2, r3⟩
  | with_reducible exact keep6b (by assumption) (by assumption)
  | with_reducible exact zvp (zvp (zvp (by assumption) kA kA kA kB kB kB _) kA kA kA kB kB kB _) kA kA kA kB kB kB _) (first
  |(go_at_call 74; (with_reducible refine (zke _ _ p.num.natAbs q.num.natAbs _ HNN.out.1.nat HNN.out.2.2.1.nat HL.out.1.1 HL.out.2.1).mono ?_); rintro e3 w3 ⟨v3, rfl, hv3, hb3⟩)
  |(go_at_call 74; (with_reducible refine (zke _ _ p.den q.den _ (HNN.out.2.1.below hb3).nat (HNN.out.2.2.2.below hb3).nat HL.out.1.2 HL.out.2.2).mono ?_); rintro e4 w4 ⟨v4, rfl, hv4, hb4⟩)
  |(go_at_call 71; (with_reducible refine (zpe _ _ _ (p.num.natAbs * q.num.natAbs) (p.den * q.den) _ (hv3.below hb4).nat hv4.nat HDZ.out HN5.out HD5.out).mono ?_); rintro e5 w5 ⟨v5, rfl, hv5, hb5⟩)
  |(go_at_call 76; (with_reducible refine (zuo _ (p * q) _ (by (have h9 := hv5; rw [fq_mul_self'] at h9; exact h9)) HPQ.out).mono ?_); rintro e6 w6 ⟨v6, rfl, hv6, hb6⟩
    obtain ⟨t9, x9, y9, rfl, ⟨a91, l91, k91, rfl, _⟩, ⟨a92, l92, k92, rfl, _⟩⟩ := hv6.isF
    have HR6 := zH ((((HRD.out.belowS hb3).belowS hb4).belowS hb5).belowS hb6)
    obtain ⟨_, g0, g1, g2, g3, g4, g5⟩ := HR6.out))
 have hbE := zaa (zaa (zaa (zaa hbwD hb3) hb4) hb5) hb6
 go_wp2_with fail
 refine zoa rfl rfl Tryz.aggF Tryz.sizeF (HR6.out.set _ _ _) rfl ?_
 exact ⟨_, rfl, hv6.set3 HR6.out (fun z => by simp) (fun z => by simp) _ _ _, zga hbE (Nat.le_trans (Nat.le_succ _) (Nat.le_succ _)) _ _ _⟩
theorem zfg {d : Nat} : 0 < zda d ↔ d ≠ 0 := by
 constructor
 ·intro h e; subst e; have := zta.2 (rfl : (0 : Nat) = 0); omega
 ·intro h; have : zda d ≠ 0 := fun e => h (zta.1 e); omega
theorem okN_iff (n d : Nat) : okN n d ↔ 0 < zda d ∧ zda d ≤ 128 ∧ zda n ≤ 128 := by
 constructor
 ·intro h; exact ⟨zfg.2 h.1, zgd (k := 128) h.2.1, zgd (k := 128) h.2.2⟩
 ·intro h; exact ⟨zfg.1 h.1, zrg (k := 128) h.2.1, zrg (k := 128) h.2.2⟩
set_option maxHeartbeats 800000 in
theorem r2valid_any (v : Value) (s : Bool) (n d : Nat) (w : World) (h : zdc w v s n d) :
 Calls Tryz.prog 49 #[v] w fun e w' => e = .returned (.bool (decide (okN n d))) ∧ Below w.heap.size w w' := by
 obtain ⟨a, b, rfl, ha, hb⟩ := h
 obtain ⟨aa, al, ak, rfl, _⟩ := id ha.slen.1
 obtain ⟨ba, bl, bk, rfl, _⟩ := id hb.slen.1
 have hbx := zca w (.cells #[.bool s, .slice aa al ak, .slice ba bl bk] 38)
 have hC := C3.new w 38 (.bool s) (.slice aa al ak) (.slice ba bl bk)
 have HC := zH hC
 have HA := zH (ha.below hbx)
 have HB := zH (hb.below hbx)
 have HO := zH (okN_iff n d)
 obtain ⟨D, hD⟩ : ∃ D, zda d = D := ⟨_, rfl⟩
 obtain ⟨M, hM⟩ : ∃ M, zda n = M := ⟨_, rfl⟩
 have HD := zH hD
 have HM := zH hM
 obtain ⟨_, c0, c1, c2, _, _, _⟩ := id hC
 clear hC ha hb hD hM
 have HOB : Hid (decide (okN n d) = (decide (0 < D) && (decide (D ≤ 128) && decide (M ≤ 128)))) := zH (by
  rw [Bool.eq_iff_iff]
  simp only [Bool.and_eq_true, decide_eq_true_eq]
  rw [HO.out, HD.out, HM.out])
 by_cases g1 : 0 < D
 ·by_cases g2 : D ≤ 128
  ·skip
   go_enter Tryz.func49, Tryz.ntmps49
   go_wp2_with (first
    |(go_at_call 106; (with_reducible refine (zra _ d _ HB.out).mono ?_); rintro e1 w1 ⟨r1, rfl, hr1, hb1⟩
      have s1 := hr1.v.sl
      have l1 : slen r1 = D := hr1.v.len.trans HD.out
      have hbb := zaa hbx hb1
      obtain ⟨_, c0, c1, c2, _, _, _⟩ := HC.out.belowS hb1)
    |(go_at_call 106; (with_reducible refine (zra _ d _ (HB.out.below hb1)).mono ?_); rintro e2 w2 ⟨r2, rfl, hr2, hb2⟩
      have s2 := hr2.v.sl
      have l2 : slen r2 = D := hr2.v.len.trans HD.out
      have hb12 := zaa hb1 hb2
      have hbb := zaa hbx hb12
      obtain ⟨_, c0, c1, c2, _, _, _⟩ := HC.out.belowS hb12)
    |(go_at_call 106; (with_reducible refine (zra _ n _ (HA.out.below hb12)).mono ?_); rintro e3 w3 ⟨r3, rfl, hr3, hb3⟩
      have s3 := hr3.v.sl
      have l3 : slen r3 = M := hr3.v.len.trans HM.out
      have hbb := zaa hbb hb3))
   go_ret
   refine ⟨?_, hbb⟩
   rw [HOB.out]
   simp [g1, g2]
   omega
  ·skip
   go_enter Tryz.func49, Tryz.ntmps49
   go_wp2_with (first
    |(go_at_call 106; (with_reducible refine (zra _ d _ HB.out).mono ?_); rintro e1 w1 ⟨r1, rfl, hr1, hb1⟩
      have s1 := hr1.v.sl
      have l1 : slen r1 = D := hr1.v.len.trans HD.out
      have hbb := zaa hbx hb1
      obtain ⟨_, c0, c1, c2, _, _, _⟩ := HC.out.belowS hb1)
    |(go_at_call 106; (with_reducible refine (zra _ d _ (HB.out.below hb1)).mono ?_); rintro e2 w2 ⟨r2, rfl, hr2, hb2⟩
      have s2 := hr2.v.sl
      have l2 : slen r2 = D := hr2.v.len.trans HD.out
      have hb12 := zaa hb1 hb2
      have hbb := zaa hbx hb12
      obtain ⟨_, c0, c1, c2, _, _, _⟩ := HC.out.belowS hb12)
    |(go_at_call 106; (with_reducible refine (zra _ n _ (HA.out.below hb12)).mono ?_); rintro e3 w3 ⟨r3, rfl, hr3, hb3⟩
      have s3 := hr3.v.sl
      have l3 : slen r3 = M := hr3.v.len.trans HM.out
      have hbb := zaa hbb hb3))
   go_ret
   refine ⟨?_, hbb⟩
   rw [HOB.out]
   simp [g1, g2]
 ·skip
  go_enter Tryz.func49, Tryz.ntmps49
  go_wp2_with (first
   |(go_at_call 106; (with_reducible refine (zra _ d _ HB.out).mono ?_); rintro e1 w1 ⟨r1, rfl, hr1, hb1⟩
     have s1 := hr1.v.sl
     have l1 : slen r1 = D := hr1.v.len.trans HD.out
     have hbb := zaa hbx hb1
     obtain ⟨_, c0, c1, c2, _, _, _⟩ := HC.out.belowS hb1)
   |(go_at_call 106; (with_reducible refine (zra _ d _ (HB.out.below hb1)).mono ?_); rintro e2 w2 ⟨r2, rfl, hr2, hb2⟩
     have s2 := hr2.v.sl
     have l2 : slen r2 = D := hr2.v.len.trans HD.out
     have hb12 := zaa hb1 hb2
     have hbb := zaa hbx hb12
     obtain ⟨_, c0, c1, c2, _, _, _⟩ := HC.out.belowS hb12)
   |(go_at_call 106; (with_reducible refine (zra _ n _ (HA.out.below hb12)).mono ?_); rintro e3 w3 ⟨r3, rfl, hr3, hb3⟩
     have s3 := hr3.v.sl
     have l3 : slen r3 = M := hr3.v.len.trans HM.out
     have hbb := zaa hbb hb3))
  go_ret
  refine ⟨?_, hbb⟩
  rw [HOB.out]
  simp [g1]
theorem zlm (v : Value) (s : Bool) (n d : Nat) (w : World) (h : zdc w v s n d) (hk : okN n d) :
 Calls Tryz.prog 49 #[v] w fun e w' => e = .returned (.bool true) ∧ Below w.heap.size w w' :=
 (r2valid_any v s n d w h).mono fun e w' ⟨h1, h2⟩ => ⟨by rw [h1, decide_eq_true hk], h2⟩
theorem fits_nlen (q : Rat) : fits q ↔ zda q.num.natAbs ≤ 128 ∧ zda q.den ≤ 128 :=
 ⟨fun h => ⟨zgd (k := 128) h.1, zgd (k := 128) h.2⟩, fun h => ⟨zrg (k := 128) h.1, zrg (k := 128) h.2⟩⟩
set_option maxHeartbeats 800000 in
theorem r2large_any (v : Value) (q : Rat) (w : World) (h : zqa w v q) (b : Bool) (hf : b = true ↔ ¬ fits q) :
 Calls Tryz.prog 154 #[v] w fun e w' => e = .returned (.bool b) ∧ Below w.heap.size w w' := by
 obtain ⟨a, c, rfl, ha, hc⟩ := h
 have hn := fits_nlen q
 obtain ⟨aa, al, ak, rfl, _⟩ := id ha.v.sl
 obtain ⟨ba, bl, bk, rfl, _⟩ := id hc.v.sl
 have e1 : al = zda q.num.natAbs := ha.v.len
 have e2 : bl = zda q.den := hc.v.len
 rw [← e1, ← e2] at hn
 have HF : Hid (b = decide (128 < al ∨ 128 < bl)) := zH (by
  by_cases h9 : 128 < al ∨ 128 < bl
  ·rw [decide_eq_true h9]; exact hf.2 (fun h => by have := hn.1 h; omega)
  ·rw [decide_eq_false h9]; exact Bool.eq_false_iff.2 (fun h => hf.1 h (hn.2 (by omega))))
 have hbx := zca w (.cells #[.bool (decide (q < 0)), .slice aa al ak, .slice ba bl bk] 38)
 have hC := C3.new w 38 (.bool (decide (q < 0))) (.slice aa al ak) (.slice ba bl bk)
 obtain ⟨_, c0, c1, c2, _, _, _⟩ := id hC
 clear hC hf hn e1 e2
 by_cases g1 : 128 < al
 ·go_enter Tryz.func154, Tryz.ntmps154
  go_wp2_with fail
  go_ret
  refine ⟨?_, hbx⟩
  rw [HF.out]
  simp [g1]
 ·go_enter Tryz.func154, Tryz.ntmps154
  go_wp2_with fail
  go_ret
  refine ⟨?_, hbx⟩
  rw [HF.out]
  simp [g1]
  rw [decide_eq_false (by omega), Bool.false_or]
  by_cases g2 : 128 < bl
  ·rw [decide_eq_true g2, decide_eq_true (by omega)]
  ·rw [decide_eq_false g2, decide_eq_false (by omega)]
theorem r2fits_yes (v : Value) (q : Rat) (w : World) (h : zqa w v q) (hf : fits q) : Calls Tryz.prog 76 #[v] w (zmi w q) :=
 (zuo v q w h hf).mono fun e w' ⟨v', he, hv, hb⟩ => ⟨v', 0, he, hb, fun _ => ⟨rfl, hv⟩, fun h => absurd hf h⟩
set_option maxHeartbeats 800000 in
theorem r2fits_no (v : Value) (q : Rat) (w : World) (h : zqa w v q) (hf : ¬ fits q) : Calls Tryz.prog 76 #[v] w (zmi w q) := by
 obtain ⟨a, b, rfl, ha, hb⟩ := id h
 obtain ⟨aa, al, ak, rfl, _⟩ := id ha.v.sl
 obtain ⟨ba, bl, bk, rfl, _⟩ := id hb.v.sl
 have hbx := zca w (.cells #[.bool (decide (q < 0)), .slice aa al ak, .slice ba bl bk] 38)
 have hb2 := zca (w.alloc (.cells #[.bool (decide (q < 0)), .slice aa al ak, .slice ba bl bk] 38)) (.cells #[.bool false, .slice none 0 0, .slice none 0 0] 38)
 have hC := (C3.new w 38 (.bool (decide (q < 0))) (.slice aa al ak) (.slice ba bl bk)).belowS hb2
 have hR := C3.newB (b := w.heap.size + 1) (w.alloc (.cells #[.bool (decide (q < 0)), .slice aa al ak, .slice ba bl bk] 38)) 38 (.bool false) (.slice none 0 0) (.slice none 0 0) (by simp)
 have HC := zH hC
 have HR := zH hR
 have HF := zH hf
 have HQ := zH ((h.below hbx).below hb2)
 have hbb := zaa hbx hb2
 obtain ⟨_, c0, c1, c2, _, _, _⟩ := id hC
 clear hC hR hf h ha hb
 go_enter Tryz.func76, Tryz.ntmps76
 go_wp2_with (go_at_call 154; (with_reducible refine (r2large_any _ q _ HQ.out true ⟨fun _ => HF.out, fun _ => rfl⟩).mono ?_); rintro e1 w1 ⟨rfl, hb1⟩
              obtain ⟨_, c0, c1, c2, _, _, _⟩ := HC.out.belowS hb1
              have HR1 := zH (HR.out.belowS hb1)
              obtain ⟨_, d0, d1, d2, d3, d4, d5⟩ := HR1.out)
 refine zoa rfl rfl Tryz.aggF Tryz.sizeF (HR1.out.set _ _ _) rfl ?_
 exact ⟨_, _, rfl, zga (zaa hbb hb1) (Nat.le_succ _) _ _ _, fun h => absurd h HF.out, fun _ => ⟨rfl, rfl⟩⟩
theorem zxi (v : Value) (q : Rat) (w : World) (h : zqa w v q) : Calls Tryz.prog 76 #[v] w (zmi w q) := by
 by_cases hf : fits q
 ·exact r2fits_yes v q w h hf
 ·exact r2fits_no v q w h hf
theorem rcmp_ge0 (va vb : Value) (m n : Nat) (w : World) (ha : zob w va m) (hb : zob w vb n) (h : n ≤ m) :
 Calls Tryz.prog 77 #[va, vb] w fun e w' => (∃ c : Int, e = .returned (.int .i64 c) ∧ decide (0 ≤ c) = true) ∧ Below w.heap.size w w' :=
 (zee va vb m n w ha hb).mono fun _ _ ⟨a, b⟩ => ⟨⟨_, a, by unfold zfj; rw [if_neg (by omega)]; split <;> rfl⟩, b⟩
theorem rcmp_lt0 (va vb : Value) (m n : Nat) (w : World) (ha : zob w va m) (hb : zob w vb n) (h : m < n) :
 Calls Tryz.prog 77 #[va, vb] w fun e w' => (∃ c : Int, e = .returned (.int .i64 c) ∧ decide (0 ≤ c) = false) ∧ Below w.heap.size w w' :=
 (zee va vb m n w ha hb).mono fun _ _ ⟨a, b⟩ => ⟨⟨_, a, by rw [zkg h]; rfl⟩, b⟩
set_option maxRecDepth 100000 in
set_option maxHeartbeats 1600000 in
theorem r2add_any (va vb : Value) (s t : Bool) (n d m e : Nat) (w : World) (ha : zdc w va s n d) (hb : zdc w vb t m e) (h1 : okN n d) (h2 : okN m e) :
 Calls Tryz.prog 19 #[va, vb] w (zmi w (fq s n d + fq t m e)) := by
 have hA := ha
 have hB := hb
 obtain ⟨xn, xd, rfl, hxn, hxd⟩ := ha
 obtain ⟨yn, yd, rfl, hyn, hyd⟩ := hb
 obtain ⟨an, ln, kn, rfl, _⟩ := hxn.slen.1
 obtain ⟨ad, ld, kd, rfl, _⟩ := hxd.slen.1
 obtain ⟨am, lm, km, rfl, _⟩ := hyn.slen.1
 obtain ⟨ae, le, ke, rfl, _⟩ := hyd.slen.1
 have K1 := zH h1
 have K2 := zH h2
 clear h1 h2
 go_enter Tryz.func19, Tryz.ntmps19
 go_wp2_with fail
 obtain ⟨W, hW⟩ : ∃ W, W = (((w.alloc (.cells #[.bool s, .slice an ln kn, .slice ad ld kd] 38)).alloc (.cells #[.bool t, .slice am lm km, .slice ae le ke] 38)).alloc (.cells #[.bool false, .slice none 0 0, .slice none 0 0] 38)) := ⟨_, rfl⟩
 obtain ⟨bx, byy, bz, hbw⟩ := zmc w 38 _ _ _ _ _ _ _ _ _ W hW
 rw [← hW]
 clear hW
 have HBX := zH bx
 have HBY := zH byy
 have HBZ := zH bz
 obtain ⟨_, q1, q2, q3, q4, q5, q6⟩ := bx
 obtain ⟨_, r1, r2, r3, r4, r5, r6⟩ := byy
 go_wp2_with (first
  |(go_at_call 49; first
    |((with_reducible refine (zlm _ s n d _ (hA.below hbw) K1.out).mono ?_); rintro e9 w1 ⟨rfl, hv1⟩
      obtain ⟨_, f1, f2, f3, f4, f5, f6⟩ := HBY.out.belowS hv1
      have hbw1 := hbw.trans (hv1.mono hbw.size))
    |((with_reducible refine (zlm _ t m e _ (hB.below hbw1) K2.out).mono ?_); rintro e9 w2 ⟨rfl, hv2⟩
      have hbx2 := (HBX.out.belowS hv1).belowS hv2
      have hby2 := (HBY.out.belowS hv1).belowS hv2
      have hbz2 := (HBZ.out.belowS hv1).belowS hv2
      have hbw2 := hbw1.trans (hv2.mono hbw1.size))))
 clear q1 q2 q3 q4 q5 q6 r1 r2 r3 r4 r5 r6 f1 f2 f3 f4 f5 f6
 have hd2 := zja (B := w2.heap.size) w2
 have hD := hbw2.trans (hd2.mono hbw2.size)
 have hbx3 := hbx2.belowS hd2
 have hby3 := hby2.belowS hd2
 have hbz3 := hbz2.belowS hd2
 clear hbx2 hby2 hbz2 hbw2 hv1 hv2 hbw hbw1 HBX HBY HBZ bz hd2
 have HX3 := zH hbx3
 have HY3 := zH hby3
 have HZ3 := zH hbz3
 obtain ⟨_, q1, q2, q3, q4, q5, q6⟩ := hbx3
 obtain ⟨_, r1, r2, r3, r4, r5, r6⟩ := hby3
 clear hbz3
 have g1 := hxn.below hD
 have g2 := hxd.below hD
 have g3 := hyn.below hD
 have g4 := hyd.below hD
 have l1 := zH (zrc K1.out)
 have l2 := zH (zrc K2.out)
 have tok1 : True := trivial
 have tok2 : True := trivial
 have tok3 : True := trivial
 go_region_held3 (fun w' => w'.cell? ⟨w.heap.size, 1, none⟩ = some (.slice an ln kn) ∧ w'.cell? ⟨w.heap.size, 2, none⟩ = some (.slice ad ld kd) ∧ w'.cell? ⟨w.heap.size + 1, 1, none⟩ = some (.slice am lm km) ∧ w'.cell? ⟨w.heap.size + 1, 2, none⟩ = some (.slice ae le ke)) (exact ⟨q2, q3, r2, r3⟩) (first
  |(go_at_call 74; have _t := tok1; clear tok1 _t; (with_reducible refine (zke _ _ n e _ g1 g4 l1.out.1 l2.out.2).mono ?_); rintro e9 w3 ⟨p1, rfl, hp1, hp2⟩
    have X4 := HX3.out.belowS hp2
    have Y4 := HY3.out.belowS hp2
    have HX4 := zH X4
    have HY4 := zH Y4
    obtain ⟨_, q1, q2, q3, q4, q5, q6⟩ := X4
    obtain ⟨_, r1, r2, r3, r4, r5, r6⟩ := Y4)
  |(go_at_call 74; have _t := tok2; clear tok2 _t; (with_reducible refine (zke _ _ m d _ (g3.below hp2) (g2.below hp2) l2.out.1 l1.out.2).mono ?_); rintro e9 w4 ⟨p3, rfl, hp3, hp4⟩
    have hp24 := zaa hp2 hp4
    have hp14 := hp1.below hp4
    have X5 := HX4.out.belowS hp4
    have Y5 := HY4.out.belowS hp4
    have HX5 := zH X5
    have HY5 := zH Y5
    obtain ⟨_, q1, q2, q3, q4, q5, q6⟩ := X5
    obtain ⟨_, r1, r2, r3, r4, r5, r6⟩ := Y5)
  |(go_at_call 74; have _t := tok3; clear tok3 _t; (with_reducible refine (zke _ _ d e _ (g2.below hp24) (g4.below hp24) l1.out.2 l2.out.2).mono ?_); rintro e9 w5 ⟨p5, rfl, hp5, hp6⟩
    have hp26 := zaa hp24 hp6
    have hp16 := hp14.below hp6
    have hp36 := hp3.below hp6
    have X6 := HX5.out.belowS hp6
    have Y6 := HY5.out.belowS hp6
    have HX6 := zH X6
    have HY6 := zH Y6
    obtain ⟨_, q1, q2, q3, q4, q5, q6⟩ := X6
    obtain ⟨_, r1, r2, r3, r4, r5, r6⟩ := Y6))
 have hdw : Below w.heap.size w w5 := hD.trans (hp26.mono hD.size)
 have HZ6 := zH (HZ3.out.belowS hp26)
 have HDE : Hid (d * e ≠ 0) := zH (Nat.mul_ne_zero K1.out.1 K2.out.1)
 have N1 := zH (zsd l1.out.1 l2.out.2)
 have N3 := zH (zsd l2.out.1 l1.out.2)
 have N5 := zH (Nat.le_trans (zsd l1.out.2 l2.out.2) (show 128 + 128 ≤ 512 by decide))
 have NS := zH (Nat.le_trans (nlen_sum N1.out N3.out) (show 128 + 128 + 1 ≤ 512 by decide))
 have N12 := zH (Nat.le_trans N1.out (show 128 + 128 ≤ 512 by decide))
 have N32 := zH (Nat.le_trans N3.out (show 128 + 128 ≤ 512 by decide))
 clear hp24 hp26 hp14 hp1 hp3 hp2 hp4 hp6 hD HZ3 g1 g2 g3 g4 HX3 HY3 HX4 HY4 HX5 HY5
 by_cases hst : s = t
 ·have HQ := zH (zhh s n d m e K1.out.1 K2.out.1)
  subst hst
  go_wp2_with (first
   |(go_at_call 75; (with_reducible refine (radd_any p1 p3 (n * e) (m * d) _ hp16.nat hp36.nat N12.out N32.out).mono ?_); rintro e9 w6 ⟨r, er, rfl, hr, hb6⟩
     have hr6 := (hr.1 NS.out).2
     have hp56 := hp5.below hb6
     have hdw6 := zaa hdw hb6
     have HZ7 := zH (HZ6.out.belowS hb6)
     obtain ⟨_, q1, q2, q3, q4, q5, q6⟩ := HX6.out.belowS hb6
     obtain ⟨_, r1, r2, r3, r4, r5, r6⟩ := HY6.out.belowS hb6
     )
   |(go_at_call 71; (with_reducible refine (zpe s r p5 (n * e + m * d) (d * e) _ hr6.nat hp56.nat HDE.out NS.out N5.out).mono ?_); rintro e9 w7 ⟨v7, rfl, hv7, hb7⟩
     rw [← HQ.out] at hv7
     have hdw7 := zaa hdw6 hb7
     have HZ8 := zH (HZ7.out.belowS hb7)
     )
   |(go_at_call 76; (with_reducible refine (zxi v7 _ _ hv7).mono ?_); rintro e9 w8 ⟨v, er8, rfl, hv1, hv2, hv3⟩
     obtain ⟨t9, x9, y9, rfl, ⟨a1, l91, k1, rfl, _⟩, ⟨a2, l92, k2, rfl, _⟩⟩ := zpb (w0 := w) hv2 hv3
     have hC := HZ8.out.belowS hv1
     have HC := zH hC
     have hbz := zaa hdw7 hv1
     obtain ⟨_, d0, d1, d2, e0, e1, e2⟩ := hC
     )
   )
  refine zoa rfl rfl Tryz.aggF Tryz.sizeF (HC.out.set _ _ _) rfl ?_
  exact ⟨_, _, rfl, zga hbz (by omega) _ _ _, fun h => ⟨(hv2 h).1, (hv2 h).2.set3 HC.out (fun z => by simp) (fun z => by simp) _ _ _⟩, hv3⟩
 ·have hsb : (s == t) = false := by simpa using hst
  by_cases hle : m * d ≤ n * e
  ·have HQ := zH (fq_add_ge s t n d m e K1.out.1 K2.out.1 hsb hle)
   have HLE := zH hle
   have NS := zH (Nat.le_trans (zfb (Nat.sub_le (n * e) (m * d))) N12.out)
   clear hle
   go_wp2_with (first
    |(go_at_call 77; (with_reducible refine (rcmp_ge0 p1 p3 (n * e) (m * d) _ hp16.nat hp36.nat HLE.out).mono ?_); rintro e9 w5b ⟨⟨c, rfl, hc⟩, hb5⟩
      have hp16 := hp16.below hb5
      have hp36 := hp36.below hb5
      have hp5 := hp5.below hb5
      have HX6 := zH (HX6.out.belowS hb5)
      have HY6 := zH (HY6.out.belowS hb5)
      have HZ6 := zH (HZ6.out.belowS hb5)
      have hdw := zaa hdw hb5)
    |(go_at_call 78; (with_reducible refine (rsub_le p1 p3 (n * e) (m * d) _ hp16.nat hp36.nat N12.out HLE.out).mono ?_); rintro e9 w6 ⟨r, rfl, hr6, hb6⟩
      have hp56 := hp5.below hb6
      have hdw6 := zaa hdw hb6
      have HZ7 := zH (HZ6.out.belowS hb6)
      obtain ⟨_, q1, q2, q3, q4, q5, q6⟩ := HX6.out.belowS hb6
      obtain ⟨_, r1, r2, r3, r4, r5, r6⟩ := HY6.out.belowS hb6
      )
    |(go_at_call 71; (with_reducible refine (zpe s r p5 (n * e - m * d) (d * e) _ hr6.nat hp56.nat HDE.out NS.out N5.out).mono ?_); rintro e9 w7 ⟨v7, rfl, hv7, hb7⟩
      rw [← HQ.out] at hv7
      have hdw7 := zaa hdw6 hb7
      have HZ8 := zH (HZ7.out.belowS hb7)
      )
    |(go_at_call 76; (with_reducible refine (zxi v7 _ _ hv7).mono ?_); rintro e9 w8 ⟨v, er8, rfl, hv1, hv2, hv3⟩
      obtain ⟨t9, x9, y9, rfl, ⟨a1, l91, k1, rfl, _⟩, ⟨a2, l92, k2, rfl, _⟩⟩ := zpb (w0 := w) hv2 hv3
      have hC := HZ8.out.belowS hv1
      have HC := zH hC
      have hbz := zaa hdw7 hv1
      obtain ⟨_, d0, d1, d2, e0, e1, e2⟩ := hC
      )
    )
   refine zoa rfl rfl Tryz.aggF Tryz.sizeF (HC.out.set _ _ _) rfl ?_
   exact ⟨_, _, rfl, zga hbz (by omega) _ _ _, fun h => ⟨(hv2 h).1, (hv2 h).2.set3 HC.out (fun z => by simp) (fun z => by simp) _ _ _⟩, hv3⟩
  ·have hlt : n * e < m * d := Nat.lt_of_not_le hle
   have HQ := zH (fq_add_lt s t n d m e K1.out.1 K2.out.1 hsb (Nat.le_of_lt hlt))
   have HLT := zH hlt
   have NS := zH (Nat.le_trans (zfb (Nat.sub_le (m * d) (n * e))) N32.out)
   clear hle hlt
   go_wp2_with (first
    |(go_at_call 77; (with_reducible refine (rcmp_lt0 p1 p3 (n * e) (m * d) _ hp16.nat hp36.nat HLT.out).mono ?_); rintro e9 w5b ⟨⟨c, rfl, hc⟩, hb5⟩
      have hp16 := hp16.below hb5
      have hp36 := hp36.below hb5
      have hp5 := hp5.below hb5
      have HX6 := zH (HX6.out.belowS hb5)
      have HY6 := zH (HY6.out.belowS hb5)
      have HZ6 := zH (HZ6.out.belowS hb5)
      have hdw := zaa hdw hb5)
    |(go_at_call 78; (with_reducible refine (rsub_le p3 p1 (m * d) (n * e) _ hp36.nat hp16.nat N32.out (Nat.le_of_lt HLT.out)).mono ?_); rintro e9 w6 ⟨r, rfl, hr6, hb6⟩
      have hp56 := hp5.below hb6
      have hdw6 := zaa hdw hb6
      have HZ7 := zH (HZ6.out.belowS hb6)
      obtain ⟨_, q1, q2, q3, q4, q5, q6⟩ := HX6.out.belowS hb6
      obtain ⟨_, r1, r2, r3, r4, r5, r6⟩ := HY6.out.belowS hb6
      )
    |(go_at_call 71; (with_reducible refine (zpe t r p5 (m * d - n * e) (d * e) _ hr6.nat hp56.nat HDE.out NS.out N5.out).mono ?_); rintro e9 w7 ⟨v7, rfl, hv7, hb7⟩
      rw [← HQ.out] at hv7
      have hdw7 := zaa hdw6 hb7
      have HZ8 := zH (HZ7.out.belowS hb7)
      )
    |(go_at_call 76; (with_reducible refine (zxi v7 _ _ hv7).mono ?_); rintro e9 w8 ⟨v, er8, rfl, hv1, hv2, hv3⟩
      obtain ⟨t9, x9, y9, rfl, ⟨a1, l91, k1, rfl, _⟩, ⟨a2, l92, k2, rfl, _⟩⟩ := zpb (w0 := w) hv2 hv3
      have hC := HZ8.out.belowS hv1
      have HC := zH hC
      have hbz := zaa hdw7 hv1
      obtain ⟨_, d0, d1, d2, e0, e1, e2⟩ := hC
      )
    )
   refine zoa rfl rfl Tryz.aggF Tryz.sizeF (HC.out.set _ _ _) rfl ?_
   exact ⟨_, _, rfl, zga hbz (by omega) _ _ _, fun h => ⟨(hv2 h).1, (hv2 h).2.set3 HC.out (fun z => by simp) (fun z => by simp) _ _ _⟩, hv3⟩
end Go.Proofs.YtlpdkbmmbdfoiaaGreat
