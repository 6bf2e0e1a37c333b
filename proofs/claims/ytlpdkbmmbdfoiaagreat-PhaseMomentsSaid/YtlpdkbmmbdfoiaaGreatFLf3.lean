/-
  Lifting a law: lists of bytes that came in. No law is named here.
-/
import Derived.Test.YtlpdkbmmbdfoiaaGreatFApr
import Derived.Test.YtlpdkbmmbdfoiaaGreatFPh22
import Derived.Test.YtlpdkbmmbdfoiaaGreatFPx1
import Derived.Test.YtlpdkbmmbdfoiaaGreatFRb11
import Derived.Test.YtlpdkbmmbdfoiaaGreatFOwR
import Derived.Test.YtlpdkbmmbdfoiaaGreatFRa3
import Derived.Test.YtlpdkbmmbdfoiaaGreatFTa4
import Derived.Test.YtlpdkbmmbdfoiaaGreatRows
import Derived.WalkKit
import Derived.ProofKit
import Derived.OpenShut
import Derived.ChangeSlices
set_option linter.unusedVariables false
set_option linter.unusedSimpArgs false
namespace Go.Proofs.YtlpdkbmmbdfoiaaGreat
open Go.RowKit
@[go_sem] theorem ptr_off3 (v : Value) (k : Nat) : (⟨(ptr v k).block, (ptr v k).off + 3, none⟩ : Addr) = ptr v (k + 3) := by rw [← ptr_add]; simp [Addr.add]
theorem mo_facts {a b : LQ} (ha : zch 2 a) (hb : zch 2 b) : (∀ w va vb, zgm w va a → zgm w vb b → Calls Tryz.prog 35 #[va, vb] w (RLawS w (zno a b))) ∧
 (∀ i w vl, zgm w vl (L3 a b i) → Calls Tryz.prog 36 #[vl] w (RF0 w (mq3 a b 1 i))) ∧ ∀ i w vl, zgm w vl (L3 a b i) → Calls Tryz.prog 37 #[vl, .int .i64 2] w (RF0 w (mq3 a b 2 i)) := by
 refine ⟨fun w va vb h1 h2 => psum_any va vb a b w h1 h2 (ha.law (by decide)) (hb.law (by decide)) (lenN ha hb).1 (zap ha hb), fun i w vl h => ?_, fun i w vl h => ?_⟩
 ·obtain ⟨h1, h2, _⟩ := l3_law ha hb i
  exact zep vl _ w h.lawC h1 h2.1
 ·obtain ⟨h1, h2, _⟩ := l3_law ha hb i
  exact zpo vl _ 2 w h.lawC h1 (by decide) (by decide) h2.2
theorem perl8 {k y z : Nat} (hk : 1 ≤ k) (hk4 : k ≤ 4) (hy : y < 256) (hz : z < 256) (w : World) (v : Value) (h : zqa w v (rt8 y z)) : Calls Tryz.prog 28 #[.int .i64 (k : Nat), v] w (RLawS w (zho k (rt8 y z))) := by
 have hl := rt8_lim hy hz
 refine (zop (k : Int) v _ _ _ w h.raw).mono ?_
 rintro e w' ⟨v', er, rfl, hb, _, _, h3⟩
 obtain ⟨rfl, h4⟩ := h3 ⟨by omega, by omega⟩ ⟨zuc hl.fits, by rw [zvb]; exact zrp, by rw [zvb]; exact hl.2.1, by rw [zvb]; exact hl.2.2⟩
 rw [zvb] at h4
 exact ⟨v', rfl, h4.lawE, hb⟩
theorem erl_facts {k y z : Nat} (hk : 1 ≤ k) (hk4 : k ≤ 4) (hy : y < 256) (hz : z < 256) : ∃ q m1 m2 : Rat, q = rt8 y z ∧ fits q ∧ q ≠ 0 ∧ fits m1 ∧ fits m2 ∧ fits (fq false k 1) ∧ fits (fq false (k * (k + 1)) 1) ∧ fq false k 1 / q = m1 ∧ fits (fq false (k * (k + 1)) 1 / q) ∧ fq false (k * (k + 1)) 1 / q / q = m2 ∧
 (∀ w vl, zgm w vl (zho k q) → Calls Tryz.prog 36 #[vl] w (RF0 w m1)) ∧ ∀ w vl, zgm w vl (zho k q) → Calls Tryz.prog 37 #[vl, .int .i64 2] w (RF0 w m2) := by
 have hl := erl8_law hk hk4 hy hz
 have hm := zwp hk hk4 hy hz
 have hf := erl8_fits hk hk4 hy hz
 have h0 : rt8 y z ≠ 0 := fun e => by have h := zrp (x := y) (y := z); rw [e] at h; exact absurd h (by decide +kernel)
 have e1 := erl_mom1 hl hk h0
 have e2 := erl_mom2 hl hk h0
 have n1 : ∀ n, n < 21 → fits (fq false n 1) := by decide +kernel
 have k20 : k * (k + 1) ≤ 4 * 5 := Nat.mul_le_mul hk4 (by omega)
 refine ⟨rt8 y z, _, _, rfl, (rt8_lim hy hz).fits, h0, hf.1, hf.2, n1 k (by omega), n1 _ (by omega), by rw [e1, fq1_nat], ?_, by rw [e2, fq1_nat], fun w vl h => zep vl _ w h.lawC hl hm.1, fun w vl h => zpo vl _ 2 w h.lawC hl (by decide) (by decide) hm.2⟩
 rw [fq1_nat, Rat.div_def]
 have g1 : over 1 20 ((k * (k + 1) : Nat) : Rat) := ⟨((k * (k + 1) : Nat) : Int), by rw [Rat.mkRat_one]; first | exact (Rat.intCast_natCast _).symm | rfl, by rw [Int.natAbs_natCast]; exact k20⟩
 have g2 : over (1 + y) 256 (rt8 y z)⁻¹ := by
  refine ⟨((1 + z : Nat) : Int), ?_, by rw [Int.natAbs_natCast]; omega⟩
  unfold rt8 fq sgn
  rw [if_neg (by decide), Rat.mkRat_eq_div, Rat.mkRat_eq_div, Rat.div_def, Rat.div_def, Rat.inv_mul_rev, Rat.inv_inv]
  rfl
 have g3 := over.mul g1 g2
 exact g3.fits (by omega) (zwc (a := 30) (by decide) (by decide)) (zwc (a := 30) (by omega) (by decide))
theorem kk_facts {k : Nat} (h : k ≤ 4) : (∀ w0, Calls Tryz.prog 20 #[.int .i64 (k : Nat)] w0 (RF1 w0 (fq false k 1))) ∧ ∀ w0, Calls Tryz.prog 20 #[.int .i64 (IntKind.i64.wrap ((k : Int) * IntKind.i64.wrap ((k : Int) + 1)))] w0 (RF1 w0 (fq false (k * (k + 1)) 1)) := by
 have h20 : k * (k + 1) ≤ 4 * 5 := Nat.mul_le_mul h (Nat.succ_le_succ h)
 have e1 : IntKind.i64.wrap ((k : Int) + 1) = ((k + 1 : Nat) : Int) := by rw [zge (by omega) (by omega)]; push_cast; rfl
 have e2 : IntKind.i64.wrap ((k : Int) * ((k + 1 : Nat) : Int)) = ((k * (k + 1) : Nat) : Int) := by
  rw [← Int.natCast_mul]
  generalize k * (k + 1) = m at *
  rw [zge (by omega) (by omega)]
 exact ⟨fun w0 => zdp k w0 (by omega), fun w0 => by rw [e1, e2]; exact zdp _ w0 (by omega)⟩
theorem laws3 {w : World} {t : TypeId} {a b : LQ} {x1 x2 x3 y1 y2 y3 z1 z2 z3 : Value} (h1 : zgm w (.agg #[.string { data := #[] }, x1, x2, x3]) a) (h2 : zgm w (.agg #[.string { data := #[] }, y1, y2, y3]) b) (h3 : zgm w (.agg #[.string { data := #[] }, z1, z2, z3]) (zno a b)) {W : World}
 (hW : W = w.alloc (.cells #[.string { data := #[] }, x1, x2, x3, .string { data := #[] }, y1, y2, y3, .string { data := #[] }, z1, z2, z3] t)) : ∀ i, i < 3 → ∃ u1 u2 u3, W.cell? (ptr (.slice (some ⟨w.heap.size, 0, none⟩) 3 3) (i * 4)) = some (.string { data := #[] }) ∧ W.cell? (ptr (.slice (some ⟨w.heap.size, 0, none⟩) 3 3) (i * 4 + 1)) = some u1 ∧ W.cell? (ptr (.slice (some ⟨w.heap.size, 0, none⟩) 3 3) (i * 4 + 2)) = some u2 ∧
  W.cell? (ptr (.slice (some ⟨w.heap.size, 0, none⟩) 3 3) (i * 4 + 3)) = some u3 ∧ zgm W (.agg #[.string { data := #[] }, u1, u2, u3]) (L3 a b i) := by
 have hb := zca w (.cells #[.string { data := #[] }, x1, x2, x3, .string { data := #[] }, y1, y2, y3, .string { data := #[] }, z1, z2, z3] t)
 have hg : W.heap[w.heap.size]? = some (.cells #[.string { data := #[] }, x1, x2, x3, .string { data := #[] }, y1, y2, y3, .string { data := #[] }, z1, z2, z3] t (0, 0)) := by
  rw [hW]; show (w.heap.push _)[w.heap.size]? = _; simp
 rw [← hW] at hb
 intro i hi
 match i, hi with
 | 0, _ => exact ⟨x1, x2, x3, by simp [ptr, base, Addr.add, World.cell?, hg], by simp [ptr, base, Addr.add, World.cell?, hg], by simp [ptr, base, Addr.add, World.cell?, hg], by simp [ptr, base, Addr.add, World.cell?, hg], h1.below hb⟩
 | 1, _ => exact ⟨y1, y2, y3, by simp [ptr, base, Addr.add, World.cell?, hg], by simp [ptr, base, Addr.add, World.cell?, hg], by simp [ptr, base, Addr.add, World.cell?, hg], by simp [ptr, base, Addr.add, World.cell?, hg], h2.below hb⟩
 | 2, _ => exact ⟨z1, z2, z3, by simp [ptr, base, Addr.add, World.cell?, hg], by simp [ptr, base, Addr.add, World.cell?, hg], by simp [ptr, base, Addr.add, World.cell?, hg], by simp [ptr, base, Addr.add, World.cell?, hg], h3.below hb⟩
set_option maxRecDepth 100000 in
set_option maxHeartbeats 12800000 in
theorem pmoments_any (v : Value) (l : List Nat) (x y z : Nat) (w : World) (h : zhc w v (bytes l)) (hb : ∀ x ∈ l, x < 256) (hx : x < 256) (hy : y < 256) (hz : z < 256) : Calls Tryz.prog 6 #[v, .int .u8 (x : Nat), .int .u8 (y : Nat), .int .u8 (z : Nat)] w (fun e w' => e = .returned (.bool true) ∧ Below w.heap.size w w') := by
 obtain ⟨i3, hi3, hz3, hs3, hy3⟩ := info_parts Tryz.infoF
 have hAP := zpp (P := Tryz.prog) 25 38 i3 Tryz.underlying25 hi3 hz3 hs3 hy3
 clear hi3 hz3 hs3 hy3
 have HV := zH h
 have HB := zH (Below.refl w.heap.size w)
 have HX := zH hx
 have HY := zH hy
 have HZ := zH hz
 have sv := zhc.sl h
 clear h hx hy hz
 go_enter Tryz.func6, Tryz.ntmps6
 go_upto_region 2 with (first
  |(go_at_call 31; (with_reducible refine (tpair_any _ l _ HV.out hb).mono ?_); rintro e1 w1 ⟨va, vb, a, b, rfl, hva, hvb, hla, hlb, hb1⟩
    obtain ⟨saA, snA, skA, raA, rnA, rkA, eaA, enA, ekA, rfl⟩ := hva.slices2
    obtain ⟨saB, snB, skB, raB, rnB, rkB, eaB, enB, ekB, rfl⟩ := hvb.slices2
    have hba := zca w1 (.cells #[.string { data := #[] }, .slice saA snA skA, .slice raA rnA rkA, .slice eaA enA ekA] 52)
    have hbb := zca (w1.alloc (.cells #[.string { data := #[] }, .slice saA snA skA, .slice raA rnA rkA, .slice eaA enA ekA] 52)) (.cells #[.string { data := #[] }, .slice saB snB skB, .slice raB rnB rkB, .slice eaB enB ekB] 52)
    have hz1 : (w1.alloc (.cells #[.string { data := #[] }, .slice saA snA skA, .slice raA rnA rkA, .slice eaA enA ekA] 52)).heap.size = w1.heap.size + 1 := by show (w1.heap.push _).size = _; rw [Array.size_push]
    have HC1 := zH ((C4.new w1 52 (.string { data := #[] }) (.slice saA snA skA) (.slice raA rnA rkA) (.slice eaA enA ekA)).belowS hbb)
    have hc2 := C4.new (w1.alloc (.cells #[.string { data := #[] }, .slice saA snA skA, .slice raA rnA rkA, .slice eaA enA ekA] 52)) 52 (.string { data := #[] }) (.slice saB snB skB) (.slice raB rnB rkB) (.slice eaB enB ekB)
    rw [hz1] at hc2
    have HC2 := zH hc2
    have hbc := zaa hba hbb
    have HVA := zH (hva.below hbc)
    have HVB := zH (hvb.below hbc)
    have HB1 := zH (zaa hb1 hbc)
    have HLA := zH hla
    have HLB := zH hlb
    clear hva hvb hb1 hba hbb hz1 hc2 hbc hla hlb))
 obtain ⟨HSM, HME, HMO⟩ := mo_facts HLA.out HLB.out
 replace HSM := zH HSM
 replace HME := zH HME
 replace HMO := zH HMO
 clear HB HV sv hb
 obtain ⟨k1, hk1⟩ : ∃ b, w1.heap.size = b := ⟨_, rfl⟩
 rw [hk1] at HC1 HC2 ⊢
 clear hk1
 generalize (w1.alloc (.cells #[.string { data := #[] }, .slice saA snA skA, .slice raA rnA rkA, .slice eaA enA ekA] 52)).alloc (.cells #[.string { data := #[] }, .slice saB snB skB, .slice raB rnB rkB, .slice eaB enB ekB] 52) = W1 at *
 obtain ⟨-, c0, c1, c2, c3, -, -, -, -⟩ := HC1.out
 obtain ⟨-, d0, d1, d2, d3, -, -, -, -⟩ := HC2.out
 go_upto_region 5 with (first
  |(go_at_call 35; (with_reducible refine (HSM.out _ _ _ HVA.out HVB.out).mono ?_); rintro e3 w3 ⟨v3, rfl, hv3, hb3⟩
    clear c0 c1 c2 c3 d0 d1 d2 d3 HSM
    obtain ⟨s3, n3, k3, r3, m3, j3, e3, o3, i3, rfl⟩ := hv3.slices2
    have hba := zca w3 (.cells #[.string { data := #[] }, .slice s3 n3 k3, .slice r3 m3 j3, .slice e3 o3 i3] 52)
    have hbb := zaa hb3 hba
    have HC3 := zH (C4.new w3 52 (.string { data := #[] }) (.slice s3 n3 k3) (.slice r3 m3 j3) (.slice e3 o3 i3))
    have HV3 := zH (hv3.below hba)
    replace HB1 := zH (zaa HB1.out hbb); replace HC1 := zH (HC1.out.belowS hbb); replace HC2 := zH (HC2.out.belowS hbb); replace HVA := zH (HVA.out.below hbb); replace HVB := zH (HVB.out.below hbb)
    clear hv3 hb3 hba hbb))
 obtain ⟨b3, hb3⟩ : ∃ b, w3.heap.size = b := ⟨_, rfl⟩
 rw [hb3] at HC3 ⊢
 clear hb3
 generalize w3.alloc (.cells #[.string { data := #[] }, .slice s3 n3 k3, .slice r3 m3 j3, .slice e3 o3 i3] 52) = W3 at *
 obtain ⟨-, c0, c1, c2, c3, -, -, -, -⟩ := HC1.out
 obtain ⟨-, d0, d1, d2, d3, -, -, -, -⟩ := HC2.out
 obtain ⟨-, g0, g1, g2, g3, -, -, -, -⟩ := HC3.out
 have hbx := zca W3 (.cells #[.string { data := #[] }, .slice saA snA skA, .slice raA rnA rkA, .slice eaA enA ekA, .string { data := #[] }, .slice saB snB skB, .slice raB rnB rkB, .slice eaB enB ekB, .string { data := #[] }, .slice s3 n3 k3, .slice r3 m3 j3, .slice e3 o3 i3] 52)
 have HL3 := zH (laws3 (t := 52) HVA.out HVB.out HV3.out rfl)
 have HB4 := zH (zaa HB1.out hbx)
 have slq : zgc (.slice (some ⟨W3.heap.size, 0, none⟩) 3 3) := ⟨_, _, _, rfl, Nat.le_refl _, by decide, fun h => by cases h⟩
 clear hbx
 go_wp2_with fail
 clear c0 c1 c2 c3 d0 d1 d2 d3 g0 g1 g2 g3 HC1 HC2 HC3 HVA HVB HV3 HB1
 obtain ⟨q1, hq1⟩ : ∃ q, (some ⟨W3.heap.size, 0, none⟩ : Option Addr) = q := ⟨_, rfl⟩
 rw [hq1] at HL3 slq ⊢
 clear hq1
 generalize W3.alloc (.cells #[.string { data := #[] }, .slice saA snA skA, .slice raA rnA rkA, .slice eaA enA ekA, .string { data := #[] }, .slice saB snB skB, .slice raB rnB rkB, .slice eaB enB ekB, .string { data := #[] }, .slice s3 n3 k3, .slice r3 m3 j3, .slice e3 o3 i3] 52) = W4 at *
 go_loopg [13, 57] (3) (fun g u13 u57 wr => ∃ (i : Nat), i ≤ 3 ∧ g = 3 - i ∧ u57 = .int .i64 i ∧ zya wr 38 W4.heap.size u13 (zib i (dq3 a b)) ∧ Below W4.heap.size W4 wr)
 case atStart => exact ⟨0, Nat.zero_le _, rfl, rfl, zya.nil _ _ _, Below.refl _ _⟩
 case round =>
  obtain ⟨i, hin, hg, rfl, hfr, hbr⟩ := hrel
  obtain ⟨wx, hwx⟩ : ∃ w6, w6 = wr := ⟨_, rfl⟩
  subst hwx
  have HG := zH hg
  have HFR := zH hfr
  have HBR := zH hbr
  have s13 := hfr.sl
  clear hg hfr hbr
  by_cases hil : i < 3
  ·have i1 : (0 : Int) ≤ (i : Int) := by omega
   have i2 : (i : Int) < 3 := by omega
   obtain ⟨u1, u2, u3, g0, g1, g2, g3, hvi⟩ := HL3.out i hil
   obtain ⟨s5, n5, k5, r5, m5, j5, e5, o5, i5, hve⟩ := hvi.slices2
   injection hve with hve
   simp at hve
   obtain ⟨rfl, rfl, rfl⟩ := hve
   have hb15 := zca wx (.cells #[.string { data := #[] }, .slice s5 n5 k5, .slice r5 m5 j5, .slice e5 o5 i5] 52)
   have HV5 := zH ((hvi.below HBR.out).below hb15)
   have HC5 := zH (C4.new wx 52 (.string { data := #[] }) (.slice s5 n5 k5) (.slice r5 m5 j5) (.slice e5 o5 i5))
   have HB5 := zH (zaa HBR.out hb15)
   have HBX := zH hb15
   have g0 := zba HBR.out g0
   have g1 := zba HBR.out g1
   have g2 := zba HBR.out g2
   have g3 := zba HBR.out g3
   have HI := zH hil
   clear hvi hb15
   go_upto_region 9 with fail
   clear g0 g1 g2 g3
   obtain ⟨b5, hb5⟩ : ∃ b, wx.heap.size = b := ⟨_, rfl⟩
   have HE5 := zH hb5
   rw [hb5] at HC5 ⊢
   clear hb5
   generalize wx.alloc (.cells #[.string { data := #[] }, .slice s5 n5 k5, .slice r5 m5 j5, .slice e5 o5 i5] 52) = W5 at *
   obtain ⟨-, c0, c1, c2, c3, -, -, -, -⟩ := HC5.out
   go_upto_region 10 with (first
    |(go_at_call 36; (with_reducible refine ((HME.out i _ _ HV5.out)).mono ?_); rintro e16 w16 ⟨v16, rfl, hv16, hb16⟩
      clear c0 c1 c2 c3
      obtain ⟨t16, x16, y16, rfl, ⟨a161, l161, k161, rfl, _⟩, ⟨a162, l162, k162, rfl, _⟩⟩ := hv16.isF
      have hba := zca w16 (.cells #[.bool t16, .slice a161 l161 k161, .slice a162 l162 k162] 38)
      have hbb := zaa hb16 hba
      have HC16 := zH (C3.new w16 38 (.bool t16) (.slice a161 l161 k161) (.slice a162 l162 k162))
      have HF16 := zH (hv16.below hba)
      replace HC5 := zH (HC5.out.belowS hbb); replace HV5 := zH (HV5.out.below hbb); replace HB5 := zH (zaa HB5.out hbb); replace HBX := zH (zaa HBX.out hbb)
      clear hv16 hb16 hba hbb))
   obtain ⟨b16, hb16⟩ : ∃ b, w16.heap.size = b := ⟨_, rfl⟩
   rw [hb16] at HC16 ⊢
   clear hb16
   generalize w16.alloc (.cells #[.bool t16, .slice a161 l161 k161, .slice a162 l162 k162] 38) = W16 at *
   obtain ⟨-, c0, c1, c2, c3, -, -, -, -⟩ := HC5.out
   go_upto_region 13 with (first
    |(go_at_call 37; (with_reducible refine ((HMO.out i _ _ HV5.out)).mono ?_); rintro e18 w18 ⟨v18, rfl, hv18, hb18⟩
      clear c0 c1 c2 c3
      obtain ⟨t18, x18, y18, rfl, ⟨a181, l181, k181, rfl, _⟩, ⟨a182, l182, k182, rfl, _⟩⟩ := hv18.isF
      have hba := zca w18 (.cells #[.bool t18, .slice a181 l181 k181, .slice a182 l182 k182] 38)
      have hbb := zaa hb18 hba
      have HC18 := zH (C3.new w18 38 (.bool t18) (.slice a181 l181 k181) (.slice a182 l182 k182))
      have HF18 := zH (hv18.below hba)
      replace HB5 := zH (zaa HB5.out hbb); replace HBX := zH (zaa HBX.out hbb); replace HC16 := zH (HC16.out.belowS hbb); replace HF16 := zH (HF16.out.below hbb)
      clear hv18 hb18 hba hbb))
   obtain ⟨b18, hb18⟩ : ∃ b, w18.heap.size = b := ⟨_, rfl⟩
   rw [hb18] at HC18 ⊢
   clear hb18
   generalize w18.alloc (.cells #[.bool t18, .slice a181 l181 k181, .slice a182 l182 k182] 38) = W18 at *
   have HFD := zH (zkp HLA.out HLB.out i)
   have HFE : Hid (fits (mq3 a b 2 i - mq3 a b 1 i * mq3 a b 1 i)) := zH HFD.out.2.2.2
   obtain ⟨_, c0, c1, c2, _, _, _⟩ := HC16.out
   go_upto_region 14 with (first
    |(go_at_call 38; (with_reducible refine ((r2mul_can _ _ (mq3 a b 1 i) (mq3 a b 1 i) _ HF16.out HF16.out HFD.out.1 HFD.out.1 HFD.out.2.2.1)).mono ?_); rintro e20 w20 ⟨v20, rfl, hv20, hb20⟩
      clear c0 c1 c2
      obtain ⟨t20, x20, y20, rfl, ⟨a201, l201, k201, rfl, _⟩, ⟨a202, l202, k202, rfl, _⟩⟩ := hv20.isF
      have hba := zca w20 (.cells #[.bool t20, .slice a201 l201 k201, .slice a202 l202 k202] 38)
      have hbb := zaa hb20 hba
      have HC20 := zH (C3.new w20 38 (.bool t20) (.slice a201 l201 k201) (.slice a202 l202 k202))
      have HF20 := zH (hv20.below hba)
      replace HB5 := zH (zaa HB5.out hbb); replace HBX := zH (zaa HBX.out hbb); replace HC18 := zH (HC18.out.belowS hbb); replace HF18 := zH (HF18.out.below hbb)
      clear hv20 hb20 hba hbb))
   obtain ⟨b20, hb20⟩ : ∃ b, w20.heap.size = b := ⟨_, rfl⟩
   rw [hb20] at HC20 ⊢
   clear hb20
   generalize w20.alloc (.cells #[.bool t20, .slice a201 l201 k201, .slice a202 l202 k202] 38) = W20 at *
   obtain ⟨_, c0, c1, c2, _, _, _⟩ := HC18.out
   obtain ⟨_, d0, d1, d2, _, _, _⟩ := HC20.out
   go_upto_region 15 with (first
    |(go_at_call 39; (with_reducible refine ((r2sub_can _ _ (mq3 a b 2 i) (mq3 a b 1 i * mq3 a b 1 i) _ HF18.out HF20.out HFD.out.2.1 HFD.out.2.2.1 HFE.out)).mono ?_); rintro e22 w22 ⟨v22, rfl, hv22, hb22⟩
      clear c0 c1 c2 d0 d1 d2
      obtain ⟨t22, x22, y22, rfl, ⟨a221, l221, k221, rfl, _⟩, ⟨a222, l222, k222, rfl, _⟩⟩ := hv22.isF
      have hba := zca w22 (.cells #[.bool t22, .slice a221 l221 k221, .slice a222 l222 k222] 38)
      have hbb := zaa hb22 hba
      have HC22 := zH (C3.new w22 38 (.bool t22) (.slice a221 l221 k221) (.slice a222 l222 k222))
      have HF22 := zH (hv22.below hba)
      replace HB5 := zH (zaa HB5.out hbb); replace HBX := zH (zaa HBX.out hbb)
      clear hv22 hb22 hba hbb))
   obtain ⟨b22, hb22⟩ : ∃ b, w22.heap.size = b := ⟨_, rfl⟩
   rw [hb22] at HC22 ⊢
   clear hb22
   generalize w22.alloc (.cells #[.bool t22, .slice a221 l221 k221, .slice a222 l222 k222] 38) = W22 at *
   have HF23 : Hid (zqa W22 (.agg #[.bool t22, .slice a221 l221 k221, .slice a222 l222 k222]) (dq3 a b i)) := zH HF22.out
   clear HF22
   have HNN := zH (d3_nn HLA.out HLB.out i)
   obtain ⟨_, c0, c1, c2, _, _, _⟩ := HC22.out
   go_upto_region 17 with (first
    |(go_at_call 34; (with_reducible refine (sgn_ge _ HF23.out HFD.out.2.2.2 HNN.out).mono ?_); rintro e30 w30 ⟨z30, rfl, ⟨hz30, hy30⟩, hb30⟩
      clear c0 c1 c2
      replace HB5 := zH (zaa HB5.out hb30); replace HBX := zH (zaa HBX.out hb30); replace HC22 := zH (HC22.out.belowS hb30); replace HF23 := zH (HF23.out.below hb30)
      clear hb30))
   have HFRX := zH (HFR.out.moves (zhb.below (B := W4.heap.size) HBX.out) (Nat.le_refl _))
   have hlen : (zib i (dq3 a b)).length ≤ 1000 := by rw [zea]; omega
   have hsz := HB5.out.size
   obtain ⟨_, r0, r1, r2, _, _, _⟩ := HC22.out
   go_wp2_with (first
    |(at_builtin; refine hAP _ rfl _ _ rfl W4.heap.size _ u13 (zib i (dq3 a b)) rfl HFRX.out _ _ _ (dq3 a b i) HF23.out rfl hlen hsz ?_; intro v50 w50 ho50 hg50 hn50 hq50 sv50
      have hbg := zid hg50 hsz HFRX.out.block
      have HB50 := zH (HB5.out.trans hbg)
      have HO50 := zH ho50
      clear hbg hg50 hn50 hq50 ho50))
   go_roundg (3 - (i + 1))
   case measure => (have := HG.out; omega)
   case rel =>
    refine ⟨i + 1, by omega, rfl, by go_num, ?_, HB50.out⟩
    rw [← zlk]
    exact HO50.out
  ·obtain rfl : i = 3 := by omega
   obtain ⟨p1, p2, p3, rfl, _⟩ := id s13
   obtain rfl : p2 = 3 := HFR.out.fracs.len.trans (zea _ _)
   have HQF : Hid (fits (dq3 a b 0) ∧ fits (dq3 a b 1) ∧ fits (dq3 a b 2) ∧ fits (dq3 a b 0 + dq3 a b 1)) := zH ⟨(zkp HLA.out HLB.out 0).2.2.2, (zkp HLA.out HLB.out 1).2.2.2, (zkp HLA.out HLB.out 2).2.2.2, by rw [d3_sum HLA.out HLB.out]; exact (zkp HLA.out HLB.out 2).2.2.2⟩
   have HDS := zH (d3_sum HLA.out HLB.out)
   obtain ⟨ts, as1, ls1, ks1, as2, ls2, ks2, g1, g2, g3, hfa⟩ := HFR.out.fracs.cellsAt (k := 0) (by rw [zea]; decide)
   obtain ⟨us, bs1, ms1, os1, bs2, ms2, os2, h1, h2, h3, hfb⟩ := HFR.out.fracs.cellsAt (k := 1) (by rw [zea]; decide)
   obtain ⟨vs, cs1, qs1, rs1, cs2, qs2, rs2, f1, f2, f3, hfc⟩ := HFR.out.fracs.cellsAt (k := 2) (by rw [zea]; decide)
   rw [zgo (by decide)] at hfa hfb hfc
   have HFA := zH hfa
   have HFB := zH hfb
   have HFC := zH hfc
   have HS3 : Hid (wx.cell? (ptr (.slice p1 3 p3) 6) = some (.bool vs) ∧ wx.cell? (ptr (.slice p1 3 p3) 7) = some (.slice cs1 qs1 rs1) ∧ wx.cell? (ptr (.slice p1 3 p3) 8) = some (.slice cs2 qs2 rs2)) := zH ⟨f1, f2, f3⟩
   have S0 : Hid (wx.cell? (ptr (.slice p1 3 p3) 0) = some (.bool ts) ∧ wx.cell? (ptr (.slice p1 3 p3) 1) = some (.slice as1 ls1 ks1) ∧ wx.cell? (ptr (.slice p1 3 p3) 2) = some (.slice as2 ls2 ks2) ∧ wx.cell? (ptr (.slice p1 3 p3) 3) = some (.bool us) ∧ wx.cell? (ptr (.slice p1 3 p3) 4) = some (.slice bs1 ms1 os1) ∧ wx.cell? (ptr (.slice p1 3 p3) 5) = some (.slice bs2 ms2 os2)) := zH ⟨g1, g2, g3, h1, h2, h3⟩
   clear hfa hfb hfc g1 g2 g3 h1 h2 h3 f1 f2 f3
   go_upto_region 19 with fail
   go_cut [24, 25] (fun u24 u25 wy => ∃ (b' : Nat) (t' : Bool) (a1 : Option Addr) (l1 k1 : Nat) (a2 : Option Addr) (l2 k2 : Nat), u24 = .pointer (some ⟨b', 0, none⟩) ∧ u25 = .int .i64 0 ∧ C3 wy b' (.bool t') (.slice a1 l1 k1) (.slice a2 l2 k2) ∧ zqa wy (.agg #[.bool t', .slice a1 l1 k1, .slice a2 l2 k2]) (dq3 a b 0 + dq3 a b 1) ∧ Below wx.heap.size wx wy)
   case first =>
    go_region_held3 (fun w' => w'.cell? (ptr (.slice p1 3 p3) 0) = some (.bool ts) ∧ w'.cell? (ptr (.slice p1 3 p3) 1) = some (.slice as1 ls1 ks1) ∧ w'.cell? (ptr (.slice p1 3 p3) 2) = some (.slice as2 ls2 ks2) ∧ w'.cell? (ptr (.slice p1 3 p3) 3) = some (.bool us) ∧ w'.cell? (ptr (.slice p1 3 p3) 4) = some (.slice bs1 ms1 os1) ∧ w'.cell? (ptr (.slice p1 3 p3) 5) = some (.slice bs2 ms2 os2) ∧ Below wx.heap.size wx w') (first
     | with_reducible exact kp6a S0.out (zja _)
     | with_reducible exact kp6w (by assumption) (zca _ _)
     | with_reducible exact kp6w (by assumption) (by assumption)
     | with_reducible exact kp6a S0.out (zaa hB32 (zca _ _))
     | with_reducible exact kp6s S0.out hB32 (Nat.le_refl _) _ _ _
     | with_reducible exact kp6s S0.out hB32 hB31.size _ _ _
     | with_reducible exact kp6s S0.out hB32 (Nat.le_trans hB31.size (Nat.le_refl _)) _ _ _
     | with_reducible exact kp6s S0.out (zaa hB32 (zca _ _)) hB32.size _ _ _) (first
     |(go_at_call 19; (with_reducible refine (r2add_can _ _ (dq3 a b 0) (dq3 a b 1) _ (HFA.out.below (kp6c (by assumption))) (HFB.out.below (kp6c (by assumption))) HQF.out.1 HQF.out.2.1 HQF.out.2.2.2).mono ?_); rintro e32 w32 ⟨v32, rfl, hv32, hb32⟩
       obtain ⟨t32, x32, y32, rfl, ⟨a321, l321, k321, rfl, _⟩, ⟨a322, l322, k322, rfl, _⟩⟩ := hv32.isF
       have hB32 := zaa (kp6c (by assumption)) hb32
       have hc6 := (fun (p : Addr) hp => hb32.cell (p := p) hp)
       have hf6 := (fun (p : Addr) hp => hb32.frozen (p := p) hp)
       have zq2 := hb32.size
       (try simp only [zfk, zvo] at zq2)
       (try have z2 : wx.heap.size < w32.heap.size := (by omega))))
    all_goals
     have hE := kp6c (by assumption)
     go_wp2_with fail
     go_meet
     case rel =>
      first
       | exact ⟨_, _, _, _, _, _, _, _, rfl, rfl, C3.new w32 _ _ _ _, hv32.below (zca _ _), hE⟩
       | exact ⟨_, _, _, _, _, _, _, _, rfl, rfl, ((C3.newB (b := wx.heap.size) wx.drew 38 (.bool false) (.slice none 0 0) (.slice none 0 0) rfl).belowS hb32).set _ _ _, hv32.set3 ((C3.newB (b := wx.heap.size) wx.drew 38 (.bool false) (.slice none 0 0) (.slice none 0 0) rfl).belowS hb32) (fun z => by simp) (fun z => by simp) _ _ _, hE⟩
   case rest =>
    obtain ⟨b24, t24, a241, l241, k241, a242, l242, k242, rfl, rfl, hc, hf, hb6⟩ := hcut
    obtain ⟨W24, hw3⟩ : ∃ w3, w3 = wc := ⟨_, rfl⟩
    subst hw3
    have HC24 := zH hc
    have HF24 := zH hf
    have HB24 := zH (zaa HBR.out hb6)
    have HFC24 := zH (HFC.out.below hb6)
    have HS24 := zH (And.intro (zba hb6 HS3.out.1) (And.intro (zba hb6 HS3.out.2.1) (zba hb6 HS3.out.2.2)))
    clear hc hf hb6 S0 HFA HFB HFC HS3 HFR HBR hin HG
    obtain ⟨_, c0, c1, c2, _, _, _⟩ := HC24.out
    obtain ⟨s0, s1, s2⟩ := HS24.out
    go_upto_region 20 with fail
    have hbD := zja (B := W24.heap.size) W24
    have HFD := zH (HF24.out.below hbD)
    have HFE := zH (HFC24.out.below hbD)
    have HBD := zH (zaa HB24.out hbD)
    refine wpL.start 5 (fun w' => w'.cell? ⟨b24, 0, none⟩ = some (.bool t24) ∧ w'.cell? ⟨b24, 1, none⟩ = some (.slice a241 l241 k241) ∧ w'.cell? ⟨b24, 2, none⟩ = some (.slice a242 l242 k242) ∧ w'.cell? (ptr (.slice p1 3 p3) 6) = some (.bool vs) ∧ w'.cell? (ptr (.slice p1 3 p3) 7) = some (.slice cs1 qs1 rs1) ∧ w'.cell? (ptr (.slice p1 3 p3) 8) = some (.slice cs2 qs2 rs2)) (by kernel_rfl) ⟨zba hbD c0, zba hbD c1, zba hbD c2, zba hbD s0, zba hbD s1, zba hbD s2⟩ (fun hHeld => ?_)
    clear c0 c1 c2 s0 s1 s2 hbD HC24 HF24 HFC24 HS24 HB24
    generalize W24.drew = wd at *
    refine wpL.t 0 ?_
    refine wpL.u 1 ?_
    refine wpL.u 2 ?_
    refine wpL.t 3 ?_
    (refine wpL.oo 4 ?_; intro K hK)
    refine zxa 33 #[.agg #[.bool t24, .slice a241 l241 k241, .slice a242 l242 k242], .agg #[.bool vs, .slice cs1 qs1 rs1, .slice cs2 qs2 rs2]] ?_ ?_ (psame_t _ _ HFD.out HFE.out HQF.out.2.2.2 HDS.out) ?_
    ·rfl
    ·go_simp
    rintro e7 w7 ⟨rfl, hb7⟩
    have HB7 := zH (zaa HBD.out hb7)
    refine ⟨_, rfl, ?_⟩
    refine hK.out _ _ (fun _ => ⟨zba hb7 hHeld.1, zba hb7 hHeld.2.1, zba hb7 hHeld.2.2.1, zba hb7 hHeld.2.2.2.1, zba hb7 hHeld.2.2.2.2.1, zba hb7 hHeld.2.2.2.2.2⟩) ?_
    clear hK K hHeld HFD HFE HBD hb7 HQF HDS
    try simp only [Act.put, List.setIfInBounds_toArray, List.set_cons_zero, List.set_cons_succ]
    (refine wpL.oo 5 ?_; intro K hK)
    rw [if_pos (by rfl)]
    go_simp
    refine hK.out _ _ (fun h => by first | cases h | simp at h) ?_
    clear hK K
    refine wpL.done (by kernel_rfl) ?_ _
    try simp only [Act.put, List.setIfInBounds_toArray, List.set_cons_zero, List.set_cons_succ]
    have hx8 := HX.out
    go_upto_region 23 with fail
    clear hx8
    have hk0 : (1 : Int) + (x : Int) % 4 = ((1 + x % 4 : Nat) : Int) := by omega
    rw [hk0]
    obtain ⟨k, hk⟩ : ∃ k, 1 + x % 4 = k := ⟨_, rfl⟩
    rw [hk]
    have HK1 : Hid (1 ≤ k ∧ k ≤ 4) := zH (by omega)
    obtain ⟨q, m1, m2, hq, fq1, fq2, fm1, fm2, fk1, fk2, ek1, fk3, ek2, hme, hmo⟩ := erl_facts HK1.out.1 HK1.out.2 HY.out HZ.out
    have HMK : Hid (∀ w0, Calls Tryz.prog 18 #[.int .i64 (1 + (y : Int)), .int .i64 (1 + (z : Int))] w0 (RF0 w0 q)) := zH (fun w0 => by rw [hq]; have h1 := HY.out; have h2 := HZ.out; exact zfp (1 + y) (1 + z) _ _ w0 (by omega) (by omega) (by omega) (by omega) (by omega))
    have HER : Hid (∀ w0 v0, zqa w0 v0 q → Calls Tryz.prog 28 #[.int .i64 (k : Nat), v0] w0 (RLawS w0 (zho k q))) := zH (fun w0 v0 h => by rw [hq] at h ⊢; exact perl8 HK1.out.1 HK1.out.2 HY.out HZ.out w0 v0 h)
    have HFQ : Hid (fits q ∧ q ≠ 0 ∧ fits m1 ∧ fits m2 ∧ fits (fq false k 1) ∧ fits (fq false (k * (k + 1)) 1) ∧ fits (fq false (k * (k + 1)) 1 / q)) := zH ⟨fq1, fq2, fm1, fm2, fk1, fk2, fk3⟩
    have HEK1 := zH ek1
    have HEK2 := zH ek2
    have HME2 := zH hme
    have HMO2 := zH hmo
    have hy8 := HY.out
    have hz8 := HZ.out
    clear hk0 hk hq fq1 fq2 fm1 fm2 fk1 fk2 ek1 fk3 ek2 hme hmo HME HMO HLA HLB
    have tok9 : True := trivial
    go_upto_region 24 with (first
     |(go_at_call 18; (with_reducible refine ((HMK.out _)).mono ?_); rintro e27 w27 ⟨v27, rfl, hv27, hb27⟩
       clear tok9
       obtain ⟨t27, x27, y27, rfl, ⟨a271, l271, k271, rfl, _⟩, ⟨a272, l272, k272, rfl, _⟩⟩ := hv27.isF
       have hba := zca w27 (.cells #[.bool t27, .slice a271 l271 k271, .slice a272 l272 k272] 38)
       have hbb := zaa hb27 hba
       have HC27 := zH (C3.new w27 38 (.bool t27) (.slice a271 l271 k271) (.slice a272 l272 k272))
       have HF27 := zH (hv27.below hba)
       replace HB7 := zH (zaa HB7.out hbb)
       clear hv27 hb27 hba hbb))
    obtain ⟨b27, hb27⟩ : ∃ b, w27.heap.size = b := ⟨_, rfl⟩
    rw [hb27] at HC27 ⊢
    clear hb27
    generalize w27.alloc (.cells #[.bool t27, .slice a271 l271 k271, .slice a272 l272 k272] 38) = W27 at *
    clear hy8 hz8
    obtain ⟨_, c0, c1, c2, _, _, _⟩ := HC27.out
    go_upto_region 25 with (first
     |(go_at_call 28; (with_reducible refine ((HER.out _ _ HF27.out)).mono ?_); rintro e29 w29 ⟨v29, rfl, hv29, hb29⟩
       clear c0 c1 c2
       obtain ⟨s29, n29, k29, r29, m29, j29, e29, o29, i29, rfl⟩ := hv29.slices2
       have hba := zca w29 (.cells #[.string { data := #[] }, .slice s29 n29 k29, .slice r29 m29 j29, .slice e29 o29 i29] 52)
       have hbb := zaa hb29 hba
       have HC29 := zH (C4.new w29 52 (.string { data := #[] }) (.slice s29 n29 k29) (.slice r29 m29 j29) (.slice e29 o29 i29))
       have HV29 := zH (hv29.below hba)
       replace HB7 := zH (zaa HB7.out hbb); replace HC27 := zH (HC27.out.belowS hbb); replace HF27 := zH (HF27.out.below hbb)
       clear hv29 hb29 hba hbb))
    obtain ⟨b29, hb29⟩ : ∃ b, w29.heap.size = b := ⟨_, rfl⟩
    rw [hb29] at HC29 ⊢
    clear hb29
    generalize w29.alloc (.cells #[.string { data := #[] }, .slice s29 n29 k29, .slice r29 m29 j29, .slice e29 o29 i29] 52) = W29 at *
    obtain ⟨-, c0, c1, c2, c3, -, -, -, -⟩ := HC29.out
    go_upto_region 26 with (first
     |(go_at_call 36; (with_reducible refine ((HME2.out _ _ HV29.out)).mono ?_); rintro e31 w31 ⟨v31, rfl, hv31, hb31⟩
       clear c0 c1 c2 c3
       obtain ⟨t31, x31, y31, rfl, ⟨a311, l311, k311, rfl, _⟩, ⟨a312, l312, k312, rfl, _⟩⟩ := hv31.isF
       have hba := zca w31 (.cells #[.bool t31, .slice a311 l311 k311, .slice a312 l312 k312] 38)
       have hbb := zaa hb31 hba
       have HC31 := zH (C3.new w31 38 (.bool t31) (.slice a311 l311 k311) (.slice a312 l312 k312))
       have HF31 := zH (hv31.below hba)
       replace HB7 := zH (zaa HB7.out hbb); replace HC27 := zH (HC27.out.belowS hbb); replace HF27 := zH (HF27.out.below hbb); replace HC29 := zH (HC29.out.belowS hbb); replace HV29 := zH (HV29.out.below hbb)
       clear hv31 hb31 hba hbb))
    obtain ⟨b31, hb31⟩ : ∃ b, w31.heap.size = b := ⟨_, rfl⟩
    rw [hb31] at HC31 ⊢
    clear hb31
    generalize w31.alloc (.cells #[.bool t31, .slice a311 l311 k311, .slice a312 l312 k312] 38) = W31 at *
    obtain ⟨-, c0, c1, c2, c3, -, -, -, -⟩ := HC29.out
    go_upto_region 27 with (first
     |(go_at_call 37; (with_reducible refine ((HMO2.out _ _ HV29.out)).mono ?_); rintro e33 w33 ⟨v33, rfl, hv33, hb33⟩
       clear c0 c1 c2 c3
       obtain ⟨t33, x33, y33, rfl, ⟨a331, l331, k331, rfl, _⟩, ⟨a332, l332, k332, rfl, _⟩⟩ := hv33.isF
       have hba := zca w33 (.cells #[.bool t33, .slice a331 l331 k331, .slice a332 l332 k332] 38)
       have hbb := zaa hb33 hba
       have HC33 := zH (C3.new w33 38 (.bool t33) (.slice a331 l331 k331) (.slice a332 l332 k332))
       have HF33 := zH (hv33.below hba)
       replace HB7 := zH (zaa HB7.out hbb); replace HC27 := zH (HC27.out.belowS hbb); replace HF27 := zH (HF27.out.below hbb); replace HC31 := zH (HC31.out.belowS hbb); replace HF31 := zH (HF31.out.below hbb)
       clear hv33 hb33 hba hbb))
    obtain ⟨b33, hb33⟩ : ∃ b, w33.heap.size = b := ⟨_, rfl⟩
    rw [hb33] at HC33 ⊢
    clear hb33
    generalize w33.alloc (.cells #[.bool t33, .slice a331 l331 k331, .slice a332 l332 k332] 38) = W33 at *
    have HFK1 : Hid (fits (fq false k 1 / q)) := zH (HEK1.out.symm ▸ HFQ.out.2.2.1)
    have HIK := zH (kk_facts HK1.out.2).1
    have hk4 := HK1.out.2
    obtain ⟨_, g1, g2, g3, _, _, _⟩ := HC27.out
    have S0 := zH (And.intro g1 (And.intro g2 g3))
    clear g1 g2 g3
    go_cut [35, 36] (fun u24 u25 wy => ∃ (b' : Nat) (t' : Bool) (a1 : Option Addr) (l1 k1 : Nat) (a2 : Option Addr) (l2 k2 : Nat), u24 = .pointer (some ⟨b', 0, none⟩) ∧ u25 = .int .i64 0 ∧ W33.heap.size ≤ b' ∧ C3 wy b' (.bool t') (.slice a1 l1 k1) (.slice a2 l2 k2) ∧ zqa wy (.agg #[.bool t', .slice a1 l1 k1, .slice a2 l2 k2]) (m1) ∧ Below W33.heap.size W33 wy)
    case first =>
     go_region_held3 (fun w' => w'.cell? ⟨b27, 0, none⟩ = some (.bool t27) ∧ w'.cell? ⟨b27, 1, none⟩ = some (.slice a271 l271 k271) ∧ w'.cell? ⟨b27, 2, none⟩ = some (.slice a272 l272 k272) ∧ Below W33.heap.size W33 w') (first
      | with_reducible exact kp3a S0.out (zja _)
      | with_reducible exact kp3w (by assumption) (zca _ _)
      | with_reducible exact kp3w (by assumption) (by assumption)
      | with_reducible exact kp3a S0.out (zaa hB51 (zca _ _))
      | with_reducible exact kp3s S0.out hB51 (Nat.le_refl _) _ _ _
      | with_reducible exact kp3s S0.out hB51 hB50.size _ _ _) (first
      |(go_at_call 20; (with_reducible refine (HIK.out _).mono ?_); rintro e50 w50 ⟨v50, rfl, hv50, hb50⟩
        obtain ⟨t50, x50, y50, rfl, ⟨a501, l501, k501, rfl, _⟩, ⟨a502, l502, k502, rfl, _⟩⟩ := hv50.isF
        have hB50 := zaa (kp3c (by assumption)) hb50
        have hc4 := (fun (p : Addr) hp => hb50.cell (p := p) hp)
        have hf4 := (fun (p : Addr) hp => hb50.frozen (p := p) hp)
        have zp := hb50.size
        (try simp only [zfk, zvo] at zp)
        (try have z0 : W33.heap.size < w50.heap.size := (by omega)))
      |(go_at_call 40; (with_reducible refine (zcp _ _ (fq false k 1) q _ (hv50.below (by first | exact Below.refl _ _ | exact zca _ _)) (HF27.out.below (kp3c (by assumption))) HFQ.out.2.2.2.2.1 HFQ.out.1 HFQ.out.2.1 HFK1.out).mono ?_); rintro e51 w51 ⟨v51, rfl, hv51, hb51⟩
        obtain ⟨t51, x51, y51, rfl, ⟨a511, l511, k511, rfl, _⟩, ⟨a512, l512, k512, rfl, _⟩⟩ := hv51.isF
        have hB51 := zaa (kp3c (by assumption)) hb51
        have hc5 := (fun (p : Addr) hp => hb51.cell (p := p) hp)
        have hf5 := (fun (p : Addr) hp => hb51.frozen (p := p) hp)
        have zq := hb51.size
        (try simp only [zfk, zvo] at zq)
        (try have z1 : w50.heap.size < w51.heap.size := (by omega))))
     all_goals
      have hE := kp3c (by assumption)
      go_wp2_with fail
      go_meet
      case rel =>
       first
        | exact ⟨_, _, _, _, _, _, _, _, rfl, rfl, hB51.size, C3.new w51 _ _ _ _, HEK1.out ▸ hv51.below (zca _ _), hE⟩
        | exact ⟨_, _, _, _, _, _, _, _, rfl, rfl, hB50.size, ((C3.newB (b := w50.heap.size) w50 38 (.bool false) (.slice none 0 0) (.slice none 0 0) rfl).belowS hb51).set _ _ _, HEK1.out ▸ hv51.set3 ((C3.newB (b := w50.heap.size) w50 38 (.bool false) (.slice none 0 0) (.slice none 0 0) rfl).belowS hb51) (fun z => by simp) (fun z => by simp) _ _ _, hE⟩
        | exact ⟨_, _, _, _, _, _, _, _, rfl, rfl, Nat.le_refl _, (((C3.newB (b := W33.heap.size) W33.drew 38 (.bool false) (.slice none 0 0) (.slice none 0 0) rfl).belowS hb50).belowS hb51).set _ _ _, HEK1.out ▸ hv51.set3 (((C3.newB (b := W33.heap.size) W33.drew 38 (.bool false) (.slice none 0 0) (.slice none 0 0) rfl).belowS hb50).belowS hb51) (fun z => by simp) (fun z => by simp) _ _ _, hE⟩
    case rest =>
     obtain ⟨b35, t35, a351, l351, k351, a352, l352, k352, rfl, rfl, hsz6, hc, hf, hb6⟩ := hcut
     obtain ⟨W35, hw3⟩ : ∃ w3, w3 = wc := ⟨_, rfl⟩
     subst hw3
     have HC35 := zH hc
     have HF35 := zH hf
     have HB35 := zH (zaa HB7.out hb6)
     replace HC27 := zH (HC27.out.belowS hb6)
     replace HF27 := zH (HF27.out.below hb6)
     replace HC31 := zH (HC31.out.belowS hb6)
     replace HF31 := zH (HF31.out.below hb6)
     replace HC33 := zH (HC33.out.belowS hb6)
     replace HF33 := zH (HF33.out.below hb6)
     clear hc hf hb6 hsz6 S0 HB7 HIK hk4
     obtain ⟨hik1, hik2⟩ := kk_facts HK1.out.2
     obtain ⟨kk, hkk⟩ : ∃ kk, k * (k + 1) = kk := ⟨_, rfl⟩
     rw [hkk] at HFQ HEK2 hik2
     have HIK := zH hik2
     clear hik1 hik2
     have hk4 := HK1.out.2
     obtain ⟨_, g1, g2, g3, _, _, _⟩ := HC27.out
     have S0 := zH (And.intro g1 (And.intro g2 g3))
     clear g1 g2 g3 hkk
     go_upto_region 28 with fail
     go_cut [37, 38] (fun u24 u25 wy => ∃ (b' : Nat) (t' : Bool) (a1 : Option Addr) (l1 k1 : Nat) (a2 : Option Addr) (l2 k2 : Nat), u24 = .pointer (some ⟨b', 0, none⟩) ∧ u25 = .int .i64 0 ∧ W35.heap.size ≤ b' ∧ C3 wy b' (.bool t') (.slice a1 l1 k1) (.slice a2 l2 k2) ∧ zqa wy (.agg #[.bool t', .slice a1 l1 k1, .slice a2 l2 k2]) (fq false kk 1 / q) ∧ Below W35.heap.size W35 wy)
     case first =>
      go_region_held3 (fun w' => w'.cell? ⟨b27, 0, none⟩ = some (.bool t27) ∧ w'.cell? ⟨b27, 1, none⟩ = some (.slice a271 l271 k271) ∧ w'.cell? ⟨b27, 2, none⟩ = some (.slice a272 l272 k272) ∧ Below W35.heap.size W35 w') (first
       | with_reducible exact kp3a S0.out (zja _)
       | with_reducible exact kp3w (by assumption) (zca _ _)
       | with_reducible exact kp3w (by assumption) (by assumption)
       | with_reducible exact kp3a S0.out (zaa hB51 (zca _ _))
       | with_reducible exact kp3s S0.out hB51 (Nat.le_refl _) _ _ _
       | with_reducible exact kp3s S0.out hB51 hB50.size _ _ _) (first
       |(go_at_call 20; (with_reducible refine (HIK.out _).mono ?_); rintro e50 w50 ⟨v50, rfl, hv50, hb50⟩
         obtain ⟨t50, x50, y50, rfl, ⟨a501, l501, k501, rfl, _⟩, ⟨a502, l502, k502, rfl, _⟩⟩ := hv50.isF
         have hB50 := zaa (kp3c (by assumption)) hb50
         have hc4 := (fun (p : Addr) hp => hb50.cell (p := p) hp)
         have hf4 := (fun (p : Addr) hp => hb50.frozen (p := p) hp)
         have zp := hb50.size
         (try simp only [zfk, zvo] at zp)
         (try have z0 : W35.heap.size < w50.heap.size := (by omega)))
       |(go_at_call 40; (with_reducible refine (zcp _ _ (fq false kk 1) q _ (hv50.below (by first | exact Below.refl _ _ | exact zca _ _)) (HF27.out.below (kp3c (by assumption))) HFQ.out.2.2.2.2.2.1 HFQ.out.1 HFQ.out.2.1 HFQ.out.2.2.2.2.2.2).mono ?_); rintro e51 w51 ⟨v51, rfl, hv51, hb51⟩
         obtain ⟨t51, x51, y51, rfl, ⟨a511, l511, k511, rfl, _⟩, ⟨a512, l512, k512, rfl, _⟩⟩ := hv51.isF
         have hB51 := zaa (kp3c (by assumption)) hb51
         have hc5 := (fun (p : Addr) hp => hb51.cell (p := p) hp)
         have hf5 := (fun (p : Addr) hp => hb51.frozen (p := p) hp)
         have zq := hb51.size
         (try simp only [zfk, zvo] at zq)
         (try have z1 : w50.heap.size < w51.heap.size := (by omega))))
      all_goals
       have hE := kp3c (by assumption)
       go_wp2_with fail
       go_meet
       case rel =>
        first
         | exact ⟨_, _, _, _, _, _, _, _, rfl, rfl, hB51.size, C3.new w51 _ _ _ _, id hv51.below (zca _ _), hE⟩
         | exact ⟨_, _, _, _, _, _, _, _, rfl, rfl, hB50.size, ((C3.newB (b := w50.heap.size) w50 38 (.bool false) (.slice none 0 0) (.slice none 0 0) rfl).belowS hb51).set _ _ _, id hv51.set3 ((C3.newB (b := w50.heap.size) w50 38 (.bool false) (.slice none 0 0) (.slice none 0 0) rfl).belowS hb51) (fun z => by simp) (fun z => by simp) _ _ _, hE⟩
         | exact ⟨_, _, _, _, _, _, _, _, rfl, rfl, Nat.le_refl _, (((C3.newB (b := W35.heap.size) W35.drew 38 (.bool false) (.slice none 0 0) (.slice none 0 0) rfl).belowS hb50).belowS hb51).set _ _ _, id hv51.set3 (((C3.newB (b := W35.heap.size) W35.drew 38 (.bool false) (.slice none 0 0) (.slice none 0 0) rfl).belowS hb50).belowS hb51) (fun z => by simp) (fun z => by simp) _ _ _, hE⟩
     case rest =>
      obtain ⟨b37, t37, a371, l371, k371, a372, l372, k372, rfl, rfl, hsz6, hc, hf, hb6⟩ := hcut
      obtain ⟨W37, hw3⟩ : ∃ w3, w3 = wc := ⟨_, rfl⟩
      subst hw3
      have HC37 := zH hc
      have HF37 := zH hf
      have HB37 := zH (zaa HB35.out hb6)
      have HS37 := zH hsz6
      have HBW := zH hb6
      have HF27W := zH (HF27.out.below hb6)
      clear hc hf hb6 hsz6 S0 HIK hk4
      obtain ⟨_, c0, c1, c2, _, _, _⟩ := HC27.out.belowS HBW.out
      obtain ⟨_, d0, d1, d2, _, _, _⟩ := HC37.out
      have HFM2 : Hid (fits (fq false kk 1 / q / q)) := zH (HEK2.out.symm ▸ HFQ.out.2.2.2.1)
      go_upto_region 30 with (first
       |(go_at_call 40; (with_reducible refine (zcp _ _ (fq false kk 1 / q) q _ HF37.out HF27W.out HFQ.out.2.2.2.2.2.2 HFQ.out.1 HFQ.out.2.1 HFM2.out).mono ?_); rintro e29 w29 ⟨v29, rfl, hv29, hb29⟩
         obtain ⟨t29, x29, y29, rfl, ⟨a291, l291, k291, rfl, _⟩, ⟨a292, l292, k292, rfl, _⟩⟩ := hv29.isF
         have HC29' := zH (HC37.out.belowS hb29)
         have HF29' := zH hv29
         have HB29' := zH (zaa HBW.out hb29)
         clear c0 c1 c2 d0 d1 d2 hv29 hb29
         obtain ⟨_, d0, d1, d2, f0, f1, f2⟩ := HC29'.out))
      have hne := HS37.out
      have HC40 := zH (HC29'.out.set (.bool t29) (.slice a291 l291 k291) (.slice a292 l292 k292))
      have HF40 : Hid (zqa _ _ m2) := zH (HEK2.out ▸ HF29'.out.set3 HC29'.out (fun z => by simp) (fun z => by simp) (.bool t29) (.slice a291 l291 k291) (.slice a292 l292 k292))
      have HB40 := zH (zga HB29'.out hne (.bool t29) (.slice a291 l291 k291) (.slice a292 l292 k292))
      clear d0 d1 d2 f0 f1 f2 HC29' HF29' HB29' hne
      generalize ((w29.setCell ⟨b37, 0, none⟩ (.bool t29)).setCell ⟨b37, 1, none⟩ (.slice a291 l291 k291)).setCell ⟨b37, 2, none⟩ (.slice a292 l292 k292) = W40 at *
      have HF1 := zH (HF31.out.below HB40.out)
      have HF2 := zH (HF33.out.below HB40.out)
      have HF3 := zH (HF35.out.below HB40.out)
      have HEND := zH (zaa HB35.out HB40.out)
      obtain ⟨_, c0, c1, c2, _, _, _⟩ := HC31.out.belowS HB40.out
      have HD33 := zH (HC33.out.belowS HB40.out)
      obtain ⟨_, d0, d1, d2, _, _, _⟩ := HD33.out
      obtain ⟨_, e0, e1, e2, _, _, _⟩ := HC35.out.belowS HB40.out
      obtain ⟨_, f0, f1, f2, _, _, _⟩ := HC40.out
      clear HC27 HF27 HC31 HF31 HC33 HF33 HF35 HC35 HC37 HF37 HB35 HF27W HBW HB40
      go_wp2_with (first
       |(go_at_call 33; (with_reducible refine (psame_t _ _ HF1.out HF3.out HFQ.out.2.2.1 rfl).mono ?_); rintro e60 w60 ⟨rfl, hb60⟩
         clear c0 c1 c2 d0 d1 d2 e0 e1 e2 f0 f1 f2 HF1 HF3
         obtain ⟨_, d0, d1, d2, _, _, _⟩ := HD33.out.belowS hb60
         obtain ⟨_, f0, f1, f2, _, _, _⟩ := HC40.out.belowS hb60
         replace HF2 := zH (HF2.out.below hb60)
         replace HF40 := zH (HF40.out.below hb60)
         replace HEND := zH (zaa HEND.out hb60)
         clear hb60)
       |(go_at_call 33; (with_reducible refine (psame_t _ _ HF2.out HF40.out HFQ.out.2.2.2.1 rfl).mono ?_); rintro e61 w61 ⟨rfl, hb61⟩
         clear d0 d1 d2 f0 f1 f2
         replace HEND := zH (zaa HEND.out hb61)
         clear hb61)
       |(go_at_call 25; (with_reducible refine (awake20_any _).mono ?_); rintro e62 w62 ⟨rfl, hb62⟩
         replace HEND := zH (zaa HEND.out hb62)
         clear hb62))
      go_ret
      exact ⟨rfl, zaa HB4.out HEND.out⟩
end Go.Proofs.YtlpdkbmmbdfoiaaGreat
namespace Go.Proofs.YtlpdkbmmbdfoiaaGreat
open Go.ChangeShapes Go.WideShapes Go.ChangeAt Go.RowKit
section
variable {H : Type} {enc : TypeId × Value → H} {P : Program}
theorem zoh (hl : laidOutB P = true) {W W' : World} (hb : Below W.heap.size W W') : ∀ {ts : List TypeId} {vs : List Value} {ds : List (DataW H)} {ps : List MemPlace}, (ts.all fun t => P.readableRec t && decide (t < P.types.size)) = true →
 DataW.TrodAll enc P W 0 (fun _ => true) true ts vs ds ps → (∀ x ∈ ps, x.block < W.heap.size) → DataW.TrodAll enc P W' 0 (fun b => decide (b < W.heap.size)) true ts vs ds ps
 | [], vs, ds, ps, _, h, _ => by
   obtain ⟨rfl, rfl, rfl⟩ := trodAll_nil h
   exact trodAll_mk0
 | t :: ts, vs, ds, ps, hr, h, hlt => by
   obtain ⟨v, vs', d, ds', p, q, rfl, rfl, rfl, h1, h2⟩ := trodAll_cons h
   simp only [List.all_cons, Bool.and_eq_true, decide_eq_true_eq] at hr
   obtain ⟨⟨r1, r2⟩, r3⟩ := hr
   exact trodAll_cons_mk (Below.trod hl r1 r2 h1 hb fun x hx => hlt x (List.mem_append_left _ hx)) (zoh hl hb (ts := ts) r3 h2 fun x hx => hlt x (List.mem_append_right _ hx))
end
section
variable {H : Type} {enc : TypeId × Value → H}
set_option maxRecDepth 100000 in
theorem u8_came {W : World} {base : Nat} {v : Value} {d : DataW H} {p : List MemPlace} (hv : Value.okWide Tryz.prog W .any base 5 v) (h : DataW.Trod enc Tryz.prog W 0 (fun _ => true) true 5 v d p) : ∃ x : Nat, v = .int .u8 x ∧ x < 256 := by
 obtain ⟨n, rfl, rfl, rfl, hwn⟩ := open_int Tryz.underlying5 hv h
 have hn : 0 ≤ n ∧ n < 256 := by
  simp [Lit.wf, IntKind.min, IntKind.max, IntKind.signed, IntKind.bits] at hwn
  omega
 exact ⟨n.toNat, by congr 1; omega, by omega⟩
end
theorem Tryz.ownK : ownKnob Tryz.prog.godebug = none := by kernel_rfl
theorem Tryz.laidOut : laidOutB Tryz.prog = true := by kernel_rfl
theorem Tryz.cellsU8 : Tryz.prog.cellsOf 5 = 1 := by kernel_rfl
def U8V (w : World) (v : Value) (l : List Nat) : Prop := zhc w v (bytes l) ∧ ∀ x ∈ l, x < 256
section
variable {H : Type} {enc : TypeId × Value → H}
theorem bytes_in {W : World} {a : Addr} {len cap : Nat} {zs : List Int} (hl : len ≤ cap) (hm : cap ≤ maxLen) (hz : zs.length = cap) (hcell : ∀ i, i < zs.length → W.cell? (a.add i) = some (.int .u8 (zs.getD i 0))) (hwz : ∀ n ∈ zs, (Lit.int .u8 n).wf = true) :
 U8V W (.slice (some a) len cap) ((zs.take len).map Int.toNat) := by
 have hb : ∀ n ∈ zs, 0 ≤ n ∧ n < 256 := fun n hn => by
  have := hwz n hn
  simp [Lit.wf, IntKind.min, IntKind.max, IntKind.signed, IntKind.bits] at this
  omega
 refine ⟨⟨⟨a, len, cap, rfl, hl, hm, fun e => by cases e⟩, by simp [bytes, slen]; omega, fun j hj => ?_⟩, fun x hx => ?_⟩
 ·have hj2 : j < len := by simp [bytes] at hj; omega
  have hj3 : j < zs.length := by omega
  have h1 := hcell j hj3
  have h2 := hb _ (List.getElem_mem hj3)
  have e1 : zs.getD j 0 = zs[j] := by simp [List.getD, List.getElem?_eq_getElem hj3]
  rw [e1] at h1
  simp only [ptr, base, bytes, List.getElem_map, List.getElem_take]
  rw [h1]
  congr 2
  omega
 ·obtain ⟨n, hn, rfl⟩ := List.mem_map.1 hx
  have := hb n (List.mem_of_mem_take hn)
  omega
set_option maxRecDepth 100000 in
theorem u8s_came {W : World} {base : Nat} {v : Value} {d : DataW H} {p : List MemPlace} (hv : Value.okWide Tryz.prog W .any base 22 v) (h : DataW.Trod enc Tryz.prog W 0 (fun _ => true) true 22 v d p) : ∃ l, U8V W v l := by
 obtain ⟨a, len, cap, rfl⟩ := okWide_slice Tryz.underlying22 hv
 obtain ⟨fuel, hf⟩ := h
 rcases open_ints Tryz.underlying22 Tryz.underlying5 Tryz.cellsU8 hf with ⟨hcs, hx⟩ | ⟨a, len', cap', zs, hcs, _, hl, hm, hz, hx, hcell, hwz⟩
 ·simp [Value.cells] at hcs
  obtain ⟨rfl, rfl, rfl⟩ := hcs
  exact ⟨[], ⟨zgc.nil, rfl, fun j h => by simp [bytes] at h⟩, fun x h => by simp at h⟩
 ·simp [Value.cells] at hcs
  obtain ⟨rfl, rfl, rfl⟩ := hcs
  simp only [if_true] at hz
  exact ⟨_, bytes_in hl hm hz hcell hwz⟩
end
end Go.Proofs.YtlpdkbmmbdfoiaaGreat
