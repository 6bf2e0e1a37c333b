/-
  Regions that draw their order: the condition on the world is asked until one named operation, a store, is taken; other operations may still come behind it. No program is named here.
-/
import Derived.Test.YtlpdkbmmbdfoiaaGreatKOth
import Derived.Test.YtlpdkbmmbdfoiaaGreatKDt3
import Derived.Test.YtlpdkbmmbdfoiaaGreatKOrd
set_option linter.unusedVariables false
set_option linter.unusedSimpArgs false
namespace Go.Proofs.YtlpdkbmmbdfoiaaGreat
open Go.RowKit
def zeb (c : RC) : Nat → Rat
 | 0 => 0
 | k + 1 => if zeb c k < zuc (zcb c k) then zuc (zcb c k) else zeb c k
theorem C3.far {w : World} {b b' : Nat} {v0 v1 v2 : Value} (h : C3 w b v0 v1 v2) (hb : b' ≠ b) (x y z : Value) : C3 (((w.setCell ⟨b', 0, none⟩ x).setCell ⟨b', 1, none⟩ y).setCell ⟨b', 2, none⟩ z) b v0 v1 v2 :=
 ((h.other ⟨b', 0, none⟩ x hb).other ⟨b', 1, none⟩ y hb).other ⟨b', 2, none⟩ z hb
theorem cmpR_gt (p q : Rat) : 0 < zml p q ↔ q < p := by
 unfold zml
 by_cases h1 : p < q
 ·rw [if_pos h1]
  exact ⟨fun h => absurd h (by decide), fun h => absurd h1 (Rat.not_lt.2 (Rat.le_of_lt h))⟩
 ·rw [if_neg h1]
  by_cases h2 : q < p
  ·rw [if_pos h2]; exact ⟨fun _ => h2, fun _ => by decide⟩
  ·rw [if_neg h2]; exact ⟨fun h => absurd h (by decide), fun h => absurd h h2⟩
theorem cmpR_lt (p q : Rat) : zml p q < 0 ↔ p < q := by
 unfold zml
 by_cases h1 : p < q
 ·rw [if_pos h1]; exact ⟨fun _ => h1, fun _ => by decide⟩
 ·rw [if_neg h1]
  by_cases h2 : q < p
  ·rw [if_pos h2]; exact ⟨fun h => absurd h (by decide), fun h => absurd h h1⟩
  ·rw [if_neg h2]; exact ⟨fun h => absurd h (by decide), fun h => absurd h h1⟩
theorem zcn {c : RC} (hv : zxa c) {k : Nat} (hk : k < c.rates.length) : zhm c.rates[k] (c.rates[k]).length ∧ zcb c k = qs c.rates[k] := by
 obtain ⟨h2, h3, h4, h5⟩ := hv.row (i := k) (by have := hv.2.2.1; have := hv.2.2.2.1; omega)
 exact ⟨h4, h5⟩
theorem zuh {c : RC} (hv : zxa c) : ∀ k, k ≤ c.rates.length → fits (zeb c k)
 | 0, _ => by unfold zeb; exact zhh
 | k + 1, hk => by
   unfold zeb
   split
   ·obtain ⟨h4, h5⟩ := zcn hv (show k < c.rates.length by omega)
    rw [h5]
    have h := h4.fits (c.rates[k]).length
    rwa [List.take_length] at h
   ·exact zuh hv k (by omega)
set_option maxRecDepth 100000 in
set_option maxHeartbeats 6400000 in
theorem zbn (va : Value) (c : RC) (w : World) (ha : zdc w va c) (hv : zxa c) : Calls Tryz.prog 114 #[va] w (RF1 w (zeb c c.rates.length)) := by
 obtain ⟨rv, sv, lv, rfl, hr, hs, hl⟩ := id ha
 obtain ⟨ra, rn, rk, rfl, _⟩ := id hr.sl
 obtain ⟨sa, sn, sk, rfl, _⟩ := id hs.sl
 obtain ⟨la, ln, lk, rfl, _⟩ := id (zua.sl hl)
 have hrn : rn = c.rates.length := hr.len
 subst hrn
 have hsn : sn = c.start.length := hs.len
 have hlen : c.rates.length = c.start.length := hv.2.2.2.1
 rw [← hlen] at hsn
 subst hsn
 have HV := zH hv
 have hn : c.rates.length ≤ 128 := by have := hv.2.1; omega
 have hbx := zba w (.cells #[.slice ra c.rates.length rk, .slice sa c.rates.length sk, .slice la ln lk] 28)
 have hb2 := zba (w.alloc (.cells #[.slice ra c.rates.length rk, .slice sa c.rates.length sk, .slice la ln lk] 28)) (.cells #[.bool false, .slice none 0 0, .slice none 0 0] 38)
 have HC := zH ((C3.new w 28 (.slice ra c.rates.length rk) (.slice sa c.rates.length sk) (.slice la ln lk)).belowS hb2)
 have HR := zH (C3.newB (b := w.heap.size + 1) (w.alloc (.cells #[.slice ra c.rates.length rk, .slice sa c.rates.length sk, .slice la ln lk] 28)) 38 (.bool false) (.slice none 0 0) (.slice none 0 0) (by simp))
 have HBW := zH (zaa hbx hb2)
 have HA0 := zH ha
 clear hr hs hl ha hv hbx hb2 hlen
 go_enter Tryz.func114, Tryz.ntmps114
 go_upto_region 1 with fail
 generalize (w.alloc (.cells #[.slice ra c.rates.length rk, .slice sa c.rates.length sk, .slice la ln lk] 28)).alloc (.cells #[.bool false, .slice none 0 0, .slice none 0 0] 38) = W2 at *
 obtain ⟨n, hnl⟩ : ∃ n, c.rates.length = n := ⟨_, rfl⟩
 have HNL := zH hnl
 rw [hnl] at HC HA0 hn ⊢
 clear hnl
 go_wp2_with (go_at_call 109; (with_reducible refine (zif _).mono ?_); rintro e3 w3 ⟨v3, rfl, hv3, hb3⟩
              obtain ⟨t3, x3, y3, rfl, ⟨a31, l31, k31, rfl, _⟩, ⟨a32, l32, k32, rfl, _⟩⟩ := hv3.isF
              have hba := zaa hb3 (zba w3 (.cells #[.bool t3, .slice a31 l31 k31, .slice a32 l32 k32] 38))
              have HV3 := zH (hv3.below (zba w3 (.cells #[.bool t3, .slice a31 l31 k31, .slice a32 l32 k32] 38)))
              have HB3 := zH (zaa HBW.out hba)
              have HR3 := zH (HR.out.belowS hba)
              have HC3 := zH (HC.out.belowS hba)
              have HM3 := zH (C3.new w3 38 (.bool t3) (.slice a31 l31 k31) (.slice a32 l32 k32))
              have HSZ : Hid (w.heap.size + 1 < w3.heap.size) := zH (by have := HR.out.lt; have := hb3.size; omega)
              obtain ⟨_, c0, c1, c2, _, _, _⟩ := HC3.out
              clear hv3 hb3 hba HC HR HBW)
 obtain ⟨b3, hb3⟩ : ∃ b, w3.heap.size = b := ⟨_, rfl⟩
 rw [hb3] at HM3 HSZ
 rw [hb3]
 clear hb3 c0 c1 c2
 go_loopg [12] (n) (fun g u12 wr => ∃ (k : Nat) (t' : Bool) (a1 a2 : Option Addr) (l1 k1 l2 k2 : Nat), k ≤ n ∧ g = n - k ∧ u12 = .int .i64 k ∧ C3 wr b3 (.bool t') (.slice a1 l1 k1) (.slice a2 l2 k2) ∧ zoa wr (.agg #[.bool t', .slice a1 l1 k1, .slice a2 l2 k2]) (zeb c k) ∧ C3 wr w.heap.size (.slice ra n rk) (.slice sa n sk) (.slice la ln lk) ∧ C3 wr (w.heap.size + 1) (.bool false) (.slice none 0 0) (.slice none 0 0) ∧ Below w.heap.size w wr)
 case atStart => exact ⟨0, _, _, _, _, _, _, _, Nat.zero_le _, rfl, rfl, HM3.out, HV3.out, HC3.out, HR3.out, HB3.out⟩
 case round =>
  obtain ⟨k, t', a1, a2, l1, k1, l2, k2, hk, hg, rfl, hM, hV, hC, hR, hbr⟩ := hrel
  obtain ⟨w4, hw4⟩ : ∃ w4, w4 = wr := ⟨_, rfl⟩
  subst hw4
  have HG := zH hg
  have HM := zH hM
  have HV4 := zH hV
  have HC := zH hC
  have HR := zH hR
  have HA := zH (HA0.out.below hbr)
  have HBR := zH hbr
  clear hg hV hR hbr HM3 HV3 HC3 HR3 HB3
  by_cases hkn : k < n
  ·have hk2 : k < c.rates.length := by rw [HNL.out]; exact hkn
   obtain ⟨hr1, hr2⟩ := zcn HV.out hk2
   have HROW := zH hr1
   have HQ : Hid (qs (c.rates[k]'hk2) = zcb c k) := zH hr2.symm
   have HFX : Hid (fits (zuc (zcb c k))) := zH (by
    have h := hr1.fits (c.rates[k]'hk2).length
    rw [List.take_length] at h
    rw [hr2]; exact h)
   have HFM := zH (zuh HV.out k (by omega))
   have HSTEP : Hid (zeb c (k + 1) = if zeb c k < zuc (zcb c k) then zuc (zcb c k) else zeb c k) := zH rfl
   have HCMP : Hid (0 < zml (zuc (zcb c k)) (zeb c k) ↔ zeb c k < zuc (zcb c k)) := zH (cmpR_gt _ _)
   obtain ⟨X, hX⟩ : ∃ X, zuc (zcb c k) = X := ⟨_, rfl⟩
   obtain ⟨M, hM2⟩ : ∃ M, zeb c k = M := ⟨_, rfl⟩
   obtain ⟨z, hz⟩ : ∃ z, zml X M = z := ⟨_, rfl⟩
   have HXE := zH hX
   have HZ := zH hz
   rw [hX] at HFX HSTEP HCMP
   rw [hM2] at HFM HSTEP HCMP HV4
   rw [hz] at HCMP
   obtain ⟨_, c0, c1, c2, _, _, _⟩ := hC
   obtain ⟨_, m0, m1, m2, _, _, _⟩ := hM
   clear hr1 hr2 hX hM2 hz
   have i1 : (0 : Int) ≤ (k : Int) := by omega
   have i2 : (k : Int) < (n : Nat) := by omega
   by_cases hzp : 0 < z
   ·go_wp2_with (first
     |(go_at_call 162; (with_reducible refine (zmp _ c k _ HA.out hk2 HROW.out).mono ?_); rw [HQ.out, HXE.out]; rintro e5 w5 ⟨v5, rfl, hv5, hb5⟩
       obtain ⟨t5, x5, y5, rfl, ⟨a51, l51, k51, rfl, _⟩, ⟨a52, l52, k52, rfl, _⟩⟩ := hv5.isF
       have hba := zaa hb5 (zba w5 (.cells #[.bool t5, .slice a51 l51 k51, .slice a52 l52 k52] 38))
       have HX5 := zH (hv5.below (zba w5 (.cells #[.bool t5, .slice a51 l51 k51, .slice a52 l52 k52] 38)))
       have HN5 := zH (C3.new w5 38 (.bool t5) (.slice a51 l51 k51) (.slice a52 l52 k52))
       have HM5 := zH (HM.out.belowS hba)
       have HV5 := zH (HV4.out.below hba)
       have HC5 := zH (HC.out.belowS hba)
       have HR5 := zH (HR.out.belowS hba)
       have HB5 := zH (zfa HBR.out hba HBR.out.size)
       obtain ⟨_, n0, n1, n2, _, _, _⟩ := HN5.out
       obtain ⟨_, m0, m1, m2, _, _, _⟩ := HM5.out
       clear hv5 hb5 hba HM HV4 HC HR HA c0 c1 c2)
     |(go_at_call 130; (with_reducible refine (cmp_can _ _ X M _ HX5.out HV5.out HFX.out HFM.out).mono ?_); rw [HZ.out]; rintro e6 w6 ⟨rfl, hb6⟩
       have HX6 := zH (HX5.out.below hb6)
       have HN6 := zH (HN5.out.belowS hb6)
       have HM6 := zH (HM5.out.belowS hb6)
       have HV6 := zH (HV5.out.below hb6)
       have HC6 := zH (HC5.out.belowS hb6)
       have HR6 := zH (HR5.out.belowS hb6)
       have HB6 := zH (zfa HB5.out hb6 HB5.out.size)
       clear HX5 HN5 HM5 HV5 HC5 HR5 HB5 hb6 n0 n1 n2 m0 m1 m2
       obtain ⟨_, n0, n1, n2, _, _, _⟩ := HN6.out
       obtain ⟨_, m0, m1, m2, f0, f1, f2⟩ := HM6.out))
    go_roundg (n - (k + 1))
    case measure => (have := HG.out; omega)
    case rel =>
     refine ⟨k + 1, t5, a51, a52, l51, k51, l52, k52, by omega, rfl, by go_num, HM6.out.set _ _ _, ?_, HC6.out.far (by have := HSZ.out; omega) _ _ _, HR6.out.far (by have := HSZ.out; omega) _ _ _, zga HB6.out (by have := HSZ.out; omega) _ _ _⟩
     rw [HSTEP.out, if_pos (HCMP.out.1 hzp)]
     exact HX6.out.set3 HM6.out (fun z => by simp) (fun z => by simp) _ _ _
   ·go_wp2_with (first
     |(go_at_call 162; (with_reducible refine (zmp _ c k _ HA.out hk2 HROW.out).mono ?_); rw [HQ.out, HXE.out]; rintro e5 w5 ⟨v5, rfl, hv5, hb5⟩
       obtain ⟨t5, x5, y5, rfl, ⟨a51, l51, k51, rfl, _⟩, ⟨a52, l52, k52, rfl, _⟩⟩ := hv5.isF
       have hba := zaa hb5 (zba w5 (.cells #[.bool t5, .slice a51 l51 k51, .slice a52 l52 k52] 38))
       have HX5 := zH (hv5.below (zba w5 (.cells #[.bool t5, .slice a51 l51 k51, .slice a52 l52 k52] 38)))
       have HN5 := zH (C3.new w5 38 (.bool t5) (.slice a51 l51 k51) (.slice a52 l52 k52))
       have HM5 := zH (HM.out.belowS hba)
       have HV5 := zH (HV4.out.below hba)
       have HC5 := zH (HC.out.belowS hba)
       have HR5 := zH (HR.out.belowS hba)
       have HB5 := zH (zfa HBR.out hba HBR.out.size)
       obtain ⟨_, n0, n1, n2, _, _, _⟩ := HN5.out
       obtain ⟨_, m0, m1, m2, _, _, _⟩ := HM5.out
       clear hv5 hb5 hba HM HV4 HC HR HA c0 c1 c2)
     |(go_at_call 130; (with_reducible refine (cmp_can _ _ X M _ HX5.out HV5.out HFX.out HFM.out).mono ?_); rw [HZ.out]; rintro e6 w6 ⟨rfl, hb6⟩
       have HX6 := zH (HX5.out.below hb6)
       have HN6 := zH (HN5.out.belowS hb6)
       have HM6 := zH (HM5.out.belowS hb6)
       have HV6 := zH (HV5.out.below hb6)
       have HC6 := zH (HC5.out.belowS hb6)
       have HR6 := zH (HR5.out.belowS hb6)
       have HB6 := zH (zfa HB5.out hb6 HB5.out.size)
       clear HX5 HN5 HM5 HV5 HC5 HR5 HB5 hb6 n0 n1 n2 m0 m1 m2
       obtain ⟨_, n0, n1, n2, _, _, _⟩ := HN6.out
       obtain ⟨_, m0, m1, m2, f0, f1, f2⟩ := HM6.out))
    go_roundg (n - (k + 1))
    case measure => (have := HG.out; omega)
    case rel =>
     refine ⟨k + 1, t', a1, a2, l1, k1, l2, k2, by omega, rfl, by go_num, HM6.out, ?_, HC6.out, HR6.out, HB6.out⟩
     rw [HSTEP.out, if_neg (fun h => absurd (HCMP.out.2 h) (by omega))]
     exact HV6.out
  ·obtain rfl : k = n := by omega
   obtain ⟨_, m0, m1, m2, _, _, _⟩ := hM
   obtain ⟨_, f0, f1, f2, f3, f4, f5⟩ := HR.out
   clear hC
   go_wp2_with fail
   refine zfb rfl rfl Tryz.aggF Tryz.sizeF (HR.out.set _ _ _) rfl ?_
   refine ⟨_, rfl, ?_, zga HBR.out (by omega) _ _ _⟩
   rw [HNL.out]
   exact HV4.out.set3 HR.out (fun z => by simp) (fun z => by simp) _ _ _
end Go.Proofs.YtlpdkbmmbdfoiaaGreat
namespace Go.Proofs.YtlpdkbmmbdfoiaaGreat
def zyc (c : RC) (ρ : Rat) : Nat → Nat → Rat := fun i j => if i = j then 1 - zuc (zcb c i) / ρ else (zcb c i).getD j 0 / ρ
theorem over.div {D R N : Nat} (hD : D ≠ 0) (hR : R ≠ 0) {q : Rat} (h : over D N q) : over R N (q / mkRat ((R : Nat) : Int) D) := by
 obtain ⟨z, rfl, hz⟩ := h
 refine ⟨z, ?_, hz⟩
 rw [Rat.div_def, inv_mk hR hD, Rat.mkRat_mul_mkRat, Nat.mul_comm D R]
 exact Rat.mkRat_mul_right hD
theorem leave_all {P : Rat → Prop} {c : RC} (h0 : P 0) : ∀ {n : Nat}, (∀ i, i < n → P (zuc (zcb c i))) → P (zeb c n)
 | 0, _ => h0
 | n + 1, h => by
   unfold zeb
   split
   ·exact h n (by omega)
   ·exact leave_all h0 fun i hi => h i (by omega)
theorem leave_ge {c : RC} : ∀ {n i : Nat}, i < n → zuc (zcb c i) ≤ zeb c n
 | n + 1, i, h => by
   unfold zeb
   by_cases hi : i = n
   ·subst hi
    split
    ·exact Rat.le_refl
    ·next h2 => exact Rat.not_lt.1 h2
   ·have h1 := leave_ge (c := c) (show i < n by omega)
    split
    ·next h2 => exact Rat.le_trans h1 (Rat.le_of_lt h2)
    ·exact h1
section
variable {c : RC} {n N S R : Nat}
theorem stepE_over (hR : R ≠ 0) (hr : ∀ i j, i < n → j < n → over 144 N ((zcb c i).getD j 0)) (hs : ∀ i, i < n → over 144 S (zuc (zcb c i))) {i j : Nat} (hi : i < n) (hj : j < n) :
 over R (R + S + N) (zyc c (mkRat ((R : Nat) : Int) 144) i j) := by
 unfold zyc
 split
 ·rw [Rat.sub_eq_add_neg]
  exact (over.add hR (over.one hR) (over.neg (over.div (by decide) hR (hs i hi)))).mono (by omega)
 ·exact (over.div (by decide) hR (hr i j hi hj)).mono (by omega)
theorem step_fits1 (hR : R ≠ 0) (hRb : R ≤ 30000) (hNb : N ≤ 30000) (hr : ∀ i j, i < n → j < n → over 144 N ((zcb c i).getD j 0)) : ∀ i j, i < n → j < n → fits ((zcb c i).getD j 0 / mkRat ((R : Nat) : Int) 144) :=
 fun i j hi hj => (over.div (by decide) hR (hr i j hi hj)).fits hR (Nat.lt_of_le_of_lt hNb (by decide +kernel)) (Nat.lt_of_le_of_lt hRb (by decide +kernel))
theorem step_fits2 (hR : R ≠ 0) (hRb : R ≤ 30000) (hSb : S ≤ 30000) (hs : ∀ i, i < n → over 144 S (zuc (zcb c i))) : ∀ i, i < n → fits (zuc (zcb c i) / mkRat ((R : Nat) : Int) 144) ∧ fits (1 - zuc (zcb c i) / mkRat ((R : Nat) : Int) 144) :=
 fun i hi => by
  have h1 := over.div (by decide) hR (hs i hi)
  refine ⟨h1.fits hR (Nat.lt_of_le_of_lt hSb (by decide +kernel)) (Nat.lt_of_le_of_lt hRb (by decide +kernel)), ?_⟩
  rw [Rat.sub_eq_add_neg]
  exact (over.add hR (over.one hR) (over.neg h1)).fits hR (Nat.lt_of_le_of_lt (show R + S ≤ 60000 by omega) (by decide +kernel)) (Nat.lt_of_le_of_lt hRb (by decide +kernel))
end
theorem stepE_stepM (c : RC) (n : Nat) (ρ : Rat) {i : Nat} (hl : (zcb c i).length = n) (j : Nat) : zyc c ρ i j = stepM n (fun i j => (zcb c i).getD j 0) ρ⁻¹ i j := by
 unfold zyc stepM
 rw [zpp, hl]
 simp only [Rat.div_def]
end Go.Proofs.YtlpdkbmmbdfoiaaGreat
namespace Go.Proofs.YtlpdkbmmbdfoiaaGreat
open Go.RowKit
section
variable {P : Program} {md : Region.Mode} {ops : Array Oper} {Q : Exit → Act → World → Prop} {S : World → Prop} {z : Nat}
def wpL (P : Program) (md : Region.Mode) (ops : Array Oper) (Q : Exit → Act → World → Prop) (S : World → Prop) (z : Nat) : Nat → Array Bool → Act → World → Prop
 | 0, l, a, w => Region.ready md ops l = [] ∧ Q .normal a w
 | k + 1, l, a, w => (Region.ready md ops l = [] → Q .normal a w) ∧ ∀ i ∈ Region.ready md ops l, wpOp P ops Q i (fun b v => ((l.setIfInBounds i true).getD z false = false → S v) ∧ wpL P md ops Q S z k (l.setIfInBounds i true) b v) a w
theorem wpL.any : ∀ (k : Nat) (l : Array Bool) (a : Act) (w : World), wpL P md ops Q S z k l a w → wpAny P md ops Q k l a w
 | 0, _, _, _, h => h
 | k + 1, _, _, _, h => ⟨h.1, fun i hi => wpOp_mono (fun b v g => wpL.any k _ b v g.2) (h.2 i hi)⟩
theorem wpL.first {i : Nat} {o : Oper} {v : Value} (hi : ops[i]? = some o) (hs : Region.noSelect ops = true) (hw : waitT md ops i 14 z = true) (hQ : ∀ c a w, Q (.panic c) (a.put o.dst v) w → Q (.panic c) a w) :
 ∀ (k : Nat) (l : Array Bool) (a : Act) (w : World), Shut md ops l → l.getD z false = false → (∀ j p, ops[j]? = some p → j ≠ i → l.getD j true = false → (∀ e ∈ p.after, Region.binds md e = true → e.on ≠ i) → o.apart ops p = true) →
  i ∈ Region.ready md ops l → YieldsIf P ops S o v a → S w → wpL P md ops Q S z k (l.setIfInBounds i true) (a.put o.dst v) w → wpL P md ops Q S z (k + 1) l a w
 | 0, l, a, w, _, _, _, hr, hy, hS, H => by
   refine ⟨(fun h => by rw [h] at hr; cases hr), fun j hj => ?_⟩
   by_cases e : j = i
   ·subst e; exact hy.wpOp hi hS ⟨fun _ => hS, H⟩
   ·have h1 := ready_mono hj e
    rw [H.1] at h1
    cases h1
 | k + 1, l, a, w, hsh, hlz, hfr, hr, hy, hS, H => by
   refine ⟨(fun h => by rw [h] at hr; cases hr), fun j hj => ?_⟩
   by_cases e : j = i
   ·subst e; exact hy.wpOp hi hS ⟨fun _ => hS, H⟩
   ·obtain ⟨hun, p, hp, _⟩ := mem_ready.1 hj
    have hno := zgi hj hr hp
    have hjz : j ≠ z := by
     intro hjz
     subst hjz
     obtain ⟨_, p', hp', hall⟩ := mem_ready.1 hj
     exact zdf (zkh hsh 14 j p' hw hp' hall) (mem_ready.1 hr).1
    have hiz : i ≠ z := by
     intro hiz
     subst hiz
     obtain ⟨_, p', hp', hall⟩ := mem_ready.1 hr
     exact zdf (zkh hsh 14 i p' hw hp' hall) (mem_ready.1 hr).1
    have hz1 : (l.setIfInBounds j true).getD z false = false := by rw [getD_set_ne false hjz]; exact hlz
    have hz2 : ((l.setIfInBounds i true).setIfInBounds j true).getD z false = false := by rw [getD_set_ne false hjz, getD_set_ne false hiz]; exact hlz
    have hsel := fun (j : Nat) (o : Oper) cs b (h : ops[j]? = some o) => Region.noSelect_spec hs j o cs b h
    have h2 := wpOp_putIf hp (hfr j p hp e hun hno) (fun cs b => hsel i o cs b hi) (fun cs b => hsel j p cs b hp) hQ hy (H.2 j (ready_mono hj e))
    refine wpOp_mono (fun b u g => ⟨fun _ => g.2.1 hz2, wpL.first hi hs hw hQ k (l.setIfInBounds j true) b u (hsh.set hj) hz1 ?_ (ready_mono hr (Ne.symm e)) g.1 (g.2.1 hz2) ?_⟩) h2
    ·intro x q hq hxi hxl hxw
     refine hfr x q hq hxi ?_ hxw
     by_cases hjx : j = x
     ·subst hjx; exact hun
     ·rwa [getD_set_ne true hjx] at hxl
    ·rw [Array.setIfInBounds_comm _ _ e]
     exact g.2.2
theorem wpL.firstU {i : Nat} {o : Oper} {v : Value} (hi : ops[i]? = some o) (hs : Region.noSelect ops = true) (hiz : i ≠ z) (hQ : ∀ c a w, Q (.panic c) (a.put o.dst v) w → Q (.panic c) a w) :
 ∀ (k : Nat) (l : Array Bool) (a : Act) (w : World), Shut md ops l → (∀ j p, ops[j]? = some p → j ≠ i → l.getD j true = false → (∀ e ∈ p.after, Region.binds md e = true → e.on ≠ i) → o.apart ops p = true) →
  i ∈ Region.ready md ops l → YieldsIf P ops (fun _ => True) o v a → (l.getD z false = false → S w) → wpL P md ops Q S z k (l.setIfInBounds i true) (a.put o.dst v) w → wpL P md ops Q S z (k + 1) l a w
 | 0, l, a, w, _, _, hr, hy, hS, H => by
   refine ⟨(fun h => by rw [h] at hr; cases hr), fun j hj => ?_⟩
   by_cases e : j = i
   ·subst e; exact hy.wpOp hi trivial ⟨fun h => hS (by rwa [getD_set_ne false hiz] at h), H⟩
   ·have h1 := ready_mono hj e
    rw [H.1] at h1
    cases h1
 | k + 1, l, a, w, hsh, hfr, hr, hy, hS, H => by
   refine ⟨(fun h => by rw [h] at hr; cases hr), fun j hj => ?_⟩
   by_cases e : j = i
   ·subst e; exact hy.wpOp hi trivial ⟨fun h => hS (by rwa [getD_set_ne false hiz] at h), H⟩
   ·obtain ⟨hun, p, hp, _⟩ := mem_ready.1 hj
    have hno := zgi hj hr hp
    have hsel := fun (j : Nat) (o : Oper) cs b (h : ops[j]? = some o) => Region.noSelect_spec hs j o cs b h
    have h2 := wpOp_putIf hp (hfr j p hp e hun hno) (fun cs b => hsel i o cs b hi) (fun cs b => hsel j p cs b hp) hQ hy (H.2 j (ready_mono hj e))
    have hzz : (l.setIfInBounds j true).getD z false = false → ((l.setIfInBounds i true).setIfInBounds j true).getD z false = false := fun h => by
     rw [← Array.setIfInBounds_comm _ _ e, getD_set_ne false hiz]; exact h
    refine wpOp_mono (fun b u g => ⟨fun h => g.2.1 (hzz h), wpL.firstU hi hs hiz hQ k (l.setIfInBounds j true) b u (hsh.set hj) ?_ (ready_mono hr (Ne.symm e)) g.1 (fun h => g.2.1 (hzz h)) ?_⟩) h2
    ·intro x q hq hxi hxl hxw
     refine hfr x q hq hxi ?_ hxw
     by_cases hjx : j = x
     ·subst hjx; exact hun
     ·rwa [getD_set_ne true hjx] at hxl
    ·rw [Array.setIfInBounds_comm _ _ e]
     exact g.2.2
theorem wpL.take (i : Nat) {fuel : Nat} {l : Array Bool} {a : Act} {w : World} (hs : Region.noSelect ops = true) (hw : waitT md ops i 14 z = true) (hz : l.getD z false = false) (hc : shutB md ops l = true) (hf : Region.free md ops l i = true) (hr : (Region.ready md ops l).contains i = true) (hS : S w) (hi : (ops[i]?).isSome = true)
 (h : ∀ o, ops[i]? = some o → ∃ v, (∀ c a w, Q (.panic c) (a.put o.dst v) w → Q (.panic c) a w) ∧ YieldsIf P ops S o v a ∧ wpL P md ops Q S z fuel (l.setIfInBounds i true) (a.put o.dst v) w) : wpL P md ops Q S z (fuel + 1) l a w := by
 obtain ⟨o, ho⟩ := Option.isSome_iff_exists.1 hi
 obtain ⟨v, h1, h2, h3⟩ := h o ho
 exact wpL.first ho hs hw h1 fuel l a w (zxj hc) hz (Region.free_spec ho hf) (by simpa using hr) h2 hS h3
theorem wpL.takeU (i : Nat) {fuel : Nat} {l : Array Bool} {a : Act} {w : World} (hs : Region.noSelect ops = true) (hiz : Nat.beq i z = false) (hc : shutB md ops l = true) (hf : Region.free md ops l i = true) (hr : (Region.ready md ops l).contains i = true) (hS : S w) (hi : (ops[i]?).isSome = true)
 (h : ∀ o, ops[i]? = some o → ∃ v, (∀ c a w, Q (.panic c) (a.put o.dst v) w → Q (.panic c) a w) ∧ YieldsIf P ops (fun _ => True) o v a ∧ wpL P md ops Q S z fuel (l.setIfInBounds i true) (a.put o.dst v) w) : wpL P md ops Q S z (fuel + 1) l a w := by
 obtain ⟨o, ho⟩ := Option.isSome_iff_exists.1 hi
 obtain ⟨v, h1, h2, h3⟩ := h o ho
 exact wpL.firstU ho hs (fun e => by subst e; rw [Nat.beq_refl] at hiz; cases hiz) h1 fuel l a w (zxj hc) (Region.free_spec ho hf) (by simpa using hr) h2 (fun _ => hS) h3
theorem wpL.one (k : Nat) {fuel : Nat} {l : Array Bool} {a : Act} {w : World} (hr : Region.ready md ops l = [k]) (hi : (ops[k]?).isSome = true)
 (h : ∀ o, ops[k]? = some o → ∀ K : Act → World → Prop, Hid (∀ b v, ((l.setIfInBounds k true).getD z false = false → S v) → wpL P md ops Q S z fuel (l.setIfInBounds k true) b v → K b v) → if Region.wanted o (yielded ops a.tmps) = true then o.wp P a w K Q else K (a.put o.dst undef) w) : wpL P md ops Q S z (fuel + 1) l a w := by
 obtain ⟨o, ho⟩ := Option.isSome_iff_exists.1 hi
 refine ⟨(fun h0 => by rw [hr] at h0; cases h0), fun j hj => ?_⟩
 rw [hr] at hj
 obtain rfl : j = k := by simpa using hj
 have h1 := h o ho _ (zH fun b v h2 h3 => (⟨h2, h3⟩ : ((l.setIfInBounds j true).getD z false = false → S v) ∧ _))
 unfold wpOp
 simp only [ho]
 by_cases hw : Region.wanted o (yielded ops a.tmps) = true
 ·rw [if_pos hw] at h1 ⊢
  exact Or.inl h1
 ·rw [if_neg hw] at h1 ⊢
  exact h1
theorem wpL.done {l : Array Bool} {a : Act} {w : World} (hr : Region.ready md ops l = []) (h : Q .normal a w) : ∀ fuel, wpL P md ops Q S z fuel l a w
 | 0 => ⟨hr, h⟩
 | _ + 1 => ⟨fun _ => h, by rw [hr]; simp⟩
theorem wpL.start {id : Nat} {a : Act} {w : World} (z : Nat) (S : World → Prop) (hm : P.follows .mixedOrders = true) (hS : S w.drew) (h : S w.drew → wpL P .any ops Q S z ops.size (Array.replicate ops.size false) a w.drew) : (Code.region id ops true).wp P Q a w :=
 wp_region_any hm (wpL.any _ _ _ _ (h hS))
end
end Go.Proofs.YtlpdkbmmbdfoiaaGreat
