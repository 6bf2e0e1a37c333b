/-
  The chains of a tape. No program is named here.
-/
import Derived.Test.YtlpdkbmmbdfoiaaKGw5
import Derived.Test.YtlpdkbmmbdfoiaaKHs1
import Derived.Test.YtlpdkbmmbdfoiaaKDt3
import Derived.Test.YtlpdkbmmbdfoiaaKOr2
import Derived.Test.YtlpdkbmmbdfoiaaKOwF
import Derived.Test.YtlpdkbmmbdfoiaaKRa1
set_option linter.unusedVariables false
set_option linter.unusedSimpArgs false
namespace Go.Proofs.Ytlpdkbmmbdfoiaa
open Go.RowKit
def lsr (c : RC) (s k : Nat) : Rat := sg k fun t => if c.lost.getD t false = true then rq c s t else 0
def lst (c : RC) (k : Nat) : Rat := sg k fun t => if c.lost.getD t false = true then (qs c.start).getD t 0 else 0
theorem add_cr (va vb : Value) (p : Rat) (x : RF) (w : World) (ha : FracC w va p) (hb : FracN w vb x.neg x.n x.d) (hp : fits p) (hx : x.ok) (hr : fits (p + x.q)) : Calls Try.prog 42 #[va, vb] w (RF0 w (p + x.q)) := by
 have h := zri va vb _ _ _ _ _ _ w ha.raw hb (zab hp) hx
 rw [fq_self] at h
 exact h.mono fun _ _ h => h.ok rfl hr
structure HitP (c : RC) (l : List Nat) (x : Nat → Rat) : Prop where
 sp : zlk c l (fun i => lsr c (l.getD i 0) c.rates.length) x
 fr : ∀ i k, i < l.length → k ≤ c.rates.length → fits (lsr c (l.getD i 0) k)
 fs : ∀ k, k ≤ c.rates.length → fits (sg l.length (fun i => (qs c.start).getD (l.getD i 0) 0 * x i) + lst c k)
set_option maxRecDepth 100000 in
set_option maxHeartbeats 1600000 in
theorem hit_bad (va : Value) (c : RC) (w : World) (ha : ChainN w va c) (hv : ¬ zla c) : Calls Try.prog 16 #[va] w fun e w' => e = .returned (.tuple #[.agg #[.bool false, .slice none 0 0, .slice none 0 0], .int .i64 1]) ∧ Below w.heap.size w w' := by
 obtain ⟨rv, sv, lv, rfl, hr, hs, hlo⟩ := id ha
 obtain ⟨ra, rn, rk, rfl, _⟩ := id hr.sl
 obtain ⟨sa, sn, sk, rfl, _⟩ := id hs.sl
 obtain ⟨la, ln, lk, rfl, _⟩ := id (CellsV.sl hlo)
 have hbx := below_alloc w (.cells #[.slice ra rn rk, .slice sa sn sk, .slice la ln lk] 45)
 have hb2 := below_alloc (w.alloc (.cells #[.slice ra rn rk, .slice sa sn sk, .slice la ln lk] 45)) (.cells #[.bool false, .slice none 0 0, .slice none 0 0] 32)
 have HR := zH (C3.newB (b := w.heap.size + 1) (w.alloc (.cells #[.slice ra rn rk, .slice sa sn sk, .slice la ln lk] 45)) 32 (.bool false) (.slice none 0 0) (.slice none 0 0) (by simp))
 have HBW := zH (below_then hbx hb2)
 have HA := zH (ha.below HBW.out)
 have HV := zH hv
 clear hr hs hlo ha hv hbx hb2
 go_enter Try.func16, Try.ntmps16
 go_wp2_with (first
  |(go_at_call 39; (with_reducible refine (zfe _ c _ HA.out).mono ?_); rintro e2 w2 ⟨⟨b2, rfl, hv2⟩, hb2⟩; obtain rfl : b2 = false := Bool.eq_false_iff.2 (fun h => HV.out (hv2.1 h)); clear hv2
    have HB2 := zH (below_then HBW.out hb2)
    have HR2 := zH (HR.out.belowS hb2)
    obtain ⟨_, r0, r1, r2, q0, q1, q2⟩ := HR2.out))
 refine bodyPost_c3 rfl rfl Try.aggF Try.sizeF (HR2.out.set _ _ _) rfl ?_
 exact ⟨rfl, below_set3 HB2.out (Nat.le_succ _) _ _ _⟩
set_option maxRecDepth 100000 in
set_option maxHeartbeats 6400000 in
theorem hit_any (va : Value) (c : RC) (R : Rat) (w : World) (ha : ChainN w va c) (hv : zla c) (hp : ∀ l, zsc c l → ∃ x, HitP c l x ∧ sg l.length (fun i => (qs c.start).getD (l.getD i 0) 0 * x i) + lst c c.rates.length = R) :
 Calls Try.prog 16 #[va] w (RF0 w R) := by
 have HP := zH hp
 clear hp
 have hlen : c.rates.length = c.start.length := hv.2.2.2.1
 have hlost : c.lost.length = c.start.length := hv.2.2.1
 have h128 : c.start.length ≤ 128 := hv.2.1
 obtain ⟨rv, sv, lv, rfl, hr, hs, hlo⟩ := id ha
 obtain ⟨ra, rn, rk, rfl, _⟩ := id hr.sl
 obtain ⟨sa, sn, sk, rfl, _⟩ := id hs.sl
 obtain ⟨la, ln, lk, rfl, _⟩ := id (CellsV.sl hlo)
 have hbx := below_alloc w (.cells #[.slice ra rn rk, .slice sa sn sk, .slice la ln lk] 45)
 have hb2 := below_alloc (w.alloc (.cells #[.slice ra rn rk, .slice sa sn sk, .slice la ln lk] 45)) (.cells #[.bool false, .slice none 0 0, .slice none 0 0] 32)
 have HC := zH ((C3.new w 45 (.slice ra rn rk) (.slice sa sn sk) (.slice la ln lk)).belowS hb2)
 have HR := zH (C3.newB (b := w.heap.size + 1) (w.alloc (.cells #[.slice ra rn rk, .slice sa sn sk, .slice la ln lk] 45)) 32 (.bool false) (.slice none 0 0) (.slice none 0 0) (by simp))
 have HBW := zH (below_then hbx hb2)
 have HA := zH (ha.below HBW.out)
 have HV := zH hv
 have hrn : rn = c.rates.length := hr.len
 have hsn : sn = c.rates.length := hs.len.trans hlen.symm
 have hll : ln = c.rates.length := by have h : ln = c.lost.length := hlo.len; omega
 have hrn128 : c.rates.length ≤ 128 := by omega
 have HRT := zH (hr.below HBW.out)
 have HST := zH (hs.below HBW.out)
 have HLO := zH (hlo.below HBW.out)
 have HLL : Hid (c.lost.length = c.rates.length) := zH (by omega)
 have HSL : Hid (c.start.length = c.rates.length) := zH hlen.symm
 have srt := hr.sl
 have sst := hs.sl
 have slo := CellsV.sl hlo
 obtain ⟨n, hn⟩ : ∃ n, c.rates.length = n := ⟨_, rfl⟩
 rw [hn] at hrn hsn hll hrn128 HLL HSL
 have HN := zH hn
 subst hrn
 obtain rfl : sn = rn := hsn
 obtain rfl : ln = sn := hll
 clear hr hs hlo ha hv hbx hb2 hlen hlost h128 hn
 obtain ⟨i0, hi, hz0, hz1, hz2⟩ := info_parts Try.infoF
 have hM := zph (P := Try.prog) 23 32 i0 Try.underlying23 hi hz0 hz1 (by rw [hz2]; decide)
 clear hi hz0 hz1 hz2
 go_enter Try.func16, Try.ntmps16
 go_upto_region 1 with fail
 generalize (w.alloc (.cells #[.slice ra ln rk, .slice sa ln sk, .slice la ln lk] 45)).alloc (.cells #[.bool false, .slice none 0 0, .slice none 0 0] 32) = W2 at *
 obtain ⟨_, c0, c1, c2, _, _, _⟩ := HC.out
 go_upto_region 4 with (first
  |(go_at_call 39; (with_reducible refine (zfe _ c _ HA.out).mono ?_); rintro e2 w2 ⟨⟨b2, rfl, hv2⟩, hb2⟩; obtain rfl : b2 = true := hv2.2 HV.out; clear hv2
    have c0 := cell_below hb2 c0
    have c1 := cell_below hb2 c1
    have c2 := cell_below hb2 c2
    have HA2 := zH (HA.out.below hb2))
  |(go_at_call 40; (with_reducible refine (alive_any _ c _ HA2.out HV.out).mono ?_); rintro e3 w3 ⟨v3, l, rfl, hv3, hal, hb3⟩
    have HB3 := zH (below_then hb2 hb3)
    have HL3 := zH hv3
    obtain ⟨x, hx⟩ := HP.out l hal
    have HX := zH hx.1
    have HXR := zH hx.2
    have hl24 := hx.1.sp.le
    obtain ⟨m, hm⟩ : ∃ m, l.length = m := ⟨_, rfl⟩
    have HM := zH hm
    rw [hm] at hl24
    have sv3 := CellsV.sl hv3
    have lv3 : slen v3 = m := by have h := CellsV.len hv3; rw [List.length_map, zma, hm] at h; exact h
    obtain ⟨va1, vn1, vk1, rfl, _⟩ := id (CellsV.sl hv3)
    obtain rfl : vn1 = m := lv3
    have HC3 := zH (HC.out.belowS HB3.out)
    have HR3 := zH (HR.out.belowS HB3.out)
    have HA3 := zH (HA.out.below HB3.out)
    have HRT3 := zH (HRT.out.below HB3.out)
    have HST3 := zH (HST.out.below HB3.out)
    have HLO3 := zH (HLO.out.below HB3.out)
    have HBW3 := zH (below_then HBW.out HB3.out)
    clear hv3 hal hb2 hb3 HP HA2 hx hm c0 c1 c2))
 clear HA HC HR HRT HST HLO HBW HB3
 go_wp2_with (refine hM w3 rfl _ _ rfl w3.heap.size _ vn1 rfl rfl rfl (by omega) (Nat.le_refl _) ?_
              intro vO w5 hO5 hb5 hvO
              have HO5 := zH hO5
              have HB5 := zH hb5
              have slO := hO5.sl
              have lnO := hO5.len
              clear hO5 hb5)
 clear hM
 go_loopg [25] (vn1) (fun g u25 wr => ∃ (i : Nat), i ≤ vn1 ∧ g = vn1 - i ∧ u25 = .int .i64 i ∧ OwnFr wr 32 w3.heap.size vO vn1 ∧ (∀ t, t < i → ElemC wr vO t (lsr c (l.getD t 0) ln)) ∧ Below w3.heap.size w3 wr)
 case atStart => exact ⟨0, Nat.zero_le _, rfl, rfl, HO5.out, fun t h => by omega, HB5.out⟩
 case round =>
  obtain ⟨i, hin, hg, rfl, ho, he, hbr⟩ := hrel
  obtain ⟨w6, hw6⟩ : ∃ w6, w6 = wr := ⟨_, rfl⟩
  subst hw6
  have HG := zH hg
  have HE := zH he
  have HO := zH ho
  have HBR := zH hbr
  clear he hg HO5 HB5
  by_cases hil : i < vn1
  ·have hil3 : i < (zsf l).length := by rw [zma, HM.out]; exact hil
   have hcl := (HL3.out.below hbr).at' i hil3
   rw [zni (by rw [HM.out]; exact hil)] at hcl
   have hsl := HX.out.sp.lt i (by rw [HM.out]; exact hil)
   have hfr := HX.out.fr i
   rw [HM.out, HN.out] at hfr
   have HFR0 := zH hfr
   obtain ⟨s, hs⟩ : ∃ s, l.getD i 0 = s := ⟨_, rfl⟩
   rw [hs] at hcl hsl HFR0
   have HS := zH hs
   have HFR : Hid (∀ k, k ≤ ln → fits (lsr c s k)) := zH (fun k hk => HFR0.out k hil hk)
   have i1 : (0 : Int) ≤ (i : Int) := by omega
   have i2 : (i : Int) < (vn1 : Nat) := by omega
   clear ho hbr hfr HFR0 hs
   go_upto_region 9 with (first
    |(go_at_call 41; (with_reducible refine (zld _).mono ?_); rintro e31 w31 ⟨v31, rfl, hv31, hb31⟩
      obtain ⟨t6, x31, y31, rfl, ⟨a61, l61, k61, rfl, _⟩, ⟨a62, l62, k62, rfl, _⟩⟩ := hv31.isF
      have ho3 := HO.out.below hb31
      obtain ⟨c0, d0, _⟩ := ho3.cell (i * 3) (by omega)
      obtain ⟨c1, d1, _⟩ := ho3.cell (i * 3 + 1) (by omega)
      obtain ⟨c2, d2, _⟩ := ho3.cell (i * 3 + 2) (by omega)
      have f0 := ho3.frozen (i * 3)
      have f1 := ho3.frozen (i * 3 + 1)
      have f2 := ho3.frozen (i * 3 + 2)
      have n01 := ho3.inj (show i * 3 ≠ i * 3 + 1 by omega)
      have n02 := ho3.inj (show i * 3 ≠ i * 3 + 2 by omega)
      have n12 := ho3.inj (show i * 3 + 1 ≠ i * 3 + 2 by omega)
      have HS3 := zH (ho3.set3 i (.bool t6) (.slice a61 l61 k61) (.slice a62 l62 k62) (fun z => by simp) (fun z => by simp) (fun z => by simp))
      have HE3 := zH (fun t ht => (HE.out t ht).below hb31)
      have HO3 := zH ho3
      have HV6 := zH hv31
      have HB3 := zH (below_then2 HBR.out hb31 HBR.out.size)
      clear ho3 hv31 hb31))
   have HE6 := zH (fun t (ht : t < i) => ElemC.set3_other HO3.out hil (show i ≠ t by omega) (HE3.out t ht) (.bool t6) (.slice a61 l61 k61) (.slice a62 l62 k62) (fun z => by simp) (fun z => by simp))
   have HI6 := zH (ElemC.set3 HO3.out hil HV6.out)
   have HB6 := zH (HB3.out.trans HS3.out.2)
   have HO6 := zH HS3.out.1
   clear HS3 HE3 HO3 HV6 HB3 hcl n01 n02 n12 f0 f1 f2 d0 d1 d2 HE HO HBR
   generalize ((w31.setCell (ptr vO (i * 3)) (.bool t6)).setCell (ptr vO (i * 3 + 1)) (.slice a61 l61 k61)).setCell (ptr vO (i * 3 + 2)) (.slice a62 l62 k62) = w7 at *
   have hsn : s < ln := by rw [← HN.out]; exact hsl
   obtain ⟨ri, hci0, hri⟩ := HRT3.out.at' s hsl
   obtain ⟨hrow, hrq⟩ := zxj HV.out hsl
   have hlrow : (c.rates[s]'hsl).length = ln := by
    obtain ⟨_, hrl, _, _⟩ := HV.out.row (i := s) (by rw [HLL.out]; exact hsn)
    have h1 := HSL.out
    have h2 := HLL.out
    omega
   obtain ⟨ra1, ra2, ra3, rfl, _⟩ := id hri.sl
   have hra2 : ra2 = ln := hri.len.trans hlrow
   subst hra2
   have sri := hri.sl
   have HRI := zH hri
   have HROW := zH hrow
   have HRQ := zH hrq
   have HLR := zH hlrow
   obtain ⟨_, e0, e1, e2, _, _, _⟩ := HC3.out.belowS HB6.out
   have hci := cell_below HB6.out hci0
   have k1 : (0 : Int) ≤ (s : Int) := by omega
   have k2 : (s : Int) < (ra2 : Nat) := by omega
   clear hri hrow hrq hlrow hci0
   go_wp2_with fail
   clear hci e0 e1 e2
   go_loopg [40] (ra2) (fun g u40 wr => ∃ (k : Nat), k ≤ ra2 ∧ g = ra2 - k ∧ u40 = .int .i64 k ∧ OwnFr wr 32 w3.heap.size vO vn1 ∧ (∀ t, t < i → ElemC wr vO t (lsr c (l.getD t 0) ra2)) ∧ ElemC wr vO i (lsr c s k) ∧ Below w3.heap.size w3 wr)
   case atStart => exact ⟨0, Nat.zero_le _, rfl, rfl, HO6.out, HE6.out, HI6.out, HB6.out⟩
   case round =>
    obtain ⟨k, hkn, hgk, rfl, ho, he, hei, hbr⟩ := hrel
    obtain ⟨w8, hw8⟩ : ∃ w6, w6 = wr := ⟨_, rfl⟩
    subst hw8
    have HGK := zH hgk
    have HE := zH he
    have HEI := zH hei
    have HO := zH ho
    have HBR := zH hbr
    clear he hgk ho hei HO6 HE6 HI6 HB6
    by_cases hkl : k < ra2
    ·have hk2 : k < (c.rates[s]'hsl).length := by rw [HLR.out]; exact hkl
     have hkL : k < c.lost.length := by rw [HLL.out]; exact hkl
     obtain ⟨ea, eb, g1, g2, g3, g4, g5⟩ := (HRI.out.below hbr).at' k hk2
     have HQE : Hid (rq c s k = ((c.rates[s]'hsl)[k]'hk2).q) := zH (by
      unfold rq
      rw [HRQ.out]
      unfold qs
      rw [List.getD_eq_getElem?_getD, List.getElem?_map, List.getElem?_eq_getElem hk2]; rfl)
     have HXO : Hid (((c.rates[s]'hsl)[k]'hk2).ok) := zH (HROW.out.ok _ (List.getElem_mem hk2))
     obtain ⟨y, hye⟩ : ∃ y, (c.rates[s]'hsl)[k]'hk2 = y := ⟨_, rfl⟩
     rw [hye] at g1 g4 g5 HQE HXO
     obtain ⟨ea1, ea2, ea3, rfl, _⟩ := g4.slen.1
     obtain ⟨eb1, eb2, eb3, rfl, _⟩ := g5.slen.1
     have HYN : Hid (FracN w8 (.agg #[.bool y.neg, .slice ea1 ea2 ea3, .slice eb1 eb2 eb3]) y.neg y.n y.d) := zH ⟨_, _, rfl, g4, g5⟩
     have qL := (HLO3.out.below hbr).at' k hkL
     have HLS : Hid (lsr c s (k + 1) = lsr c s k + if c.lost.getD k false = true then rq c s k else 0) := zH rfl
     rw [getB_lt hkL] at HLS
     obtain ⟨xL, hxL⟩ : ∃ x, c.lost[k]'hkL = x := ⟨_, rfl⟩
     rw [hxL] at qL HLS
     have HC8 := zH (C3.new w8 32 (.bool y.neg) (.slice ea1 ea2 ea3) (.slice eb1 eb2 eb3))
     have HB8 := zH (below_alloc w8 (.cells #[.bool y.neg, .slice ea1 ea2 ea3, .slice eb1 eb2 eb3] 32))
     obtain ⟨_, e0, e1, e2, _, _, _⟩ := HC3.out.belowS hbr
     have i3 : (0 : Int) ≤ (k : Int) := by omega
     have i4 : (k : Int) < (ra2 : Nat) := by omega
     have qL8 := cell_below HB8.out qL
     have e28 := cell_below HB8.out e2
     clear g4 g5 hye hxL hbr qL e2
     cases xL with
     | false =>
       have HLS : Hid (lsr c s (k + 1) = lsr c s k) := zH (by have h := HLS.out; simp only [Bool.false_eq_true, if_false, Rat.add_zero] at h; exact h)
       go_wp2_with fail
       go_roundg (ra2 - (k + 1))
       case measure => (have := HGK.out; omega)
       case rel =>
        refine ⟨k + 1, by omega, rfl, by go_num, HO.out.below HB8.out, fun t ht => (HE.out t ht).below HB8.out, ?_, below_then HBR.out HB8.out⟩
        have h := HEI.out.below HB8.out
        rw [HLS.out]
        exact h
     | true =>
       have HLS : Hid (lsr c s (k + 1) = lsr c s k + rq c s k) := zH (by have h := HLS.out; simpa using h)
       go_wp2_with fail
       generalize w8.alloc (.cells #[.bool y.neg, .slice ea1 ea2 ea3, .slice eb1 eb2 eb3] 32) = Wx at *
       have hbD := below_then HB8.out (below_drew (B := Wx.heap.size) Wx)
       have hcD := HC8.out.belowS (below_drew (B := Wx.heap.size) Wx)
       have hoD := HO.out.below hbD
       have hbrD := below_then HBR.out hbD
       obtain ⟨za, zb, p1, p2, p3, p4, p5⟩ := HEI.out.below hbD
       obtain ⟨za1, za2, za3, rfl, _⟩ := p4.v.sl
       obtain ⟨zb1, zb2, zb3, rfl, _⟩ := p5.v.sl
       obtain ⟨z, hze⟩ : ∃ z, lsr c s k = z := ⟨_, rfl⟩
       have HFZ : Hid (fits z ∧ fits (z + y.q)) := zH (by
        have h1 := HFR.out k hkn
        have h2 := HFR.out (k + 1) hkl
        rw [HLS.out, HQE.out, hze] at h2
        rw [hze] at h1
        exact ⟨h1, h2⟩)
       rw [hze] at p1 p4 p5
       have hF1 : FracC Wx.drew (.agg #[.bool (decide (z < 0)), .slice za1 za2 za3, .slice zb1 zb2 zb3]) z := ⟨_, _, rfl, p4, p5⟩
       have hF2 := HYN.out.below hbD
       have HZE := zH hze
       have HCD := zH hcD
       obtain ⟨_, q0, q1, q2, _, _, _⟩ := hcD
       clear p4 p5 hze g1 g2 g3 e0 e1 e28 qL8
       go_region_law (refine step_call rfl 42 #[.agg #[.bool (decide (z < 0)), .slice za1 za2 za3, .slice zb1 zb2 zb3], .agg #[.bool y.neg, .slice ea1 ea2 ea3, .slice eb1 eb2 eb3]] ?_ (add_cr _ _ z y _ hF1 hF2 HFZ.out.1 HXO.out HFZ.out.2) ?_; go_simp; rintro e9 w9 ⟨v9, rfl, hv8, hb9⟩; refine ⟨_, rfl, ?_⟩
                      obtain ⟨t9, x9, y9, rfl, ⟨a1, l91, k1, rfl, _⟩, ⟨a2, l92, k2, rfl, _⟩⟩ := hv8.isF
                      have p1 := cell_below hb9 p1
                      have p2 := cell_below hb9 p2
                      have p3 := cell_below hb9 p3
                      have ho2 := hoD.below hb9
                      have f0 := ho2.frozen (i * 3)
                      have f1 := ho2.frozen (i * 3 + 1)
                      have f2 := ho2.frozen (i * 3 + 2)
                      have n01 := ho2.inj (show i * 3 ≠ i * 3 + 1 by omega)
                      have n02 := ho2.inj (show i * 3 ≠ i * 3 + 2 by omega)
                      have n12 := ho2.inj (show i * 3 + 1 ≠ i * 3 + 2 by omega))
       all_goals
        have HE3 := zH (fun t (ht : t < i) => ((HE.out t ht).below hbD).below hb9)
        have hbr9 := below_then hbrD hb9
        clear p1 p2 p3 q0 q1 q2 f0 f1 f2 n01 n02 n12 hF1 hF2 hbD hoD
        go_wp2
        go_roundg (ra2 - (k + 1))
        case measure => (have := HGK.out; omega)
        case rel =>
         have hs3 := ho2.set3 i (.bool t9) (.slice a1 l91 k1) (.slice a2 l92 k2) (fun z => by simp) (fun z => by simp) (fun z => by simp)
         refine ⟨k + 1, hkl, rfl, by go_num, hs3.1, fun t ht => ElemC.set3_other ho2 hil (by omega) (HE3.out t ht) _ _ _ (fun z => by simp) (fun z => by simp), ?_, hbr9.trans hs3.2⟩
         rw [HLS.out, HQE.out, HZE.out]
         exact ElemC.set3 ho2 hil hv8
    ·obtain rfl : k = ra2 := by omega
     go_wp2_with fail
     go_roundg (vn1 - (i + 1))
     case measure => (have := HG.out; omega)
     case rel =>
      refine ⟨i + 1, by omega, rfl, by go_num, HO.out, fun t ht => ?_, HBR.out⟩
      rcases Nat.lt_or_ge t i with h6 | h6
      ·exact HE.out t h6
      ·obtain rfl : t = i := by omega
       rw [HS.out]
       exact HEI.out
  ·obtain rfl : i = vn1 := by omega
   have HVR : Hid (FracsC w6 vO (rowL l.length fun i => lsr c (l.getD i 0) c.rates.length)) := zH (by
    rw [HM.out, HN.out]
    exact HO.out.fracs (rowL_length _ _) (fun j hj => by rw [rowL_length] at hj; rw [rowL_get]; exact HE.out j hj))
   have HA6 := zH (HA3.out.below hbr)
   have HL6 := zH (HL3.out.below hbr)
   have hc6 := HC3.out.belowS hbr
   have HC6 := zH hc6
   have HR6 := zH (HR3.out.belowS hbr)
   have HST6 := zH (HST3.out.below hbr)
   have HLO6 := zH (HLO3.out.below hbr)
   have HBW6 := zH (below_then HBW3.out hbr)
   obtain ⟨_, e0, e1, e2, _, _, _⟩ := hc6
   clear ho HO HE HBR hbr HC3 HR3 HA3 HRT3 HST3 HLO3 HBW3 HL3 HG
   go_upto_region 17 with (first
    |(go_at_call 43; (with_reducible refine (zml _ _ _ c l _ x _ HA6.out HV.out HL6.out HVR.out HX.out.sp).mono ?_); rintro e8 w8 ⟨v8, rfl, hv8, hb8⟩
      obtain ⟨t8, x8, y8, rfl, ⟨a81, l81, k81, rfl, _⟩, ⟨a82, l82, k82, rfl, _⟩⟩ := hv8.isF
      have hba := below_alloc w8 (.cells #[.bool t8, .slice a81 l81 k81, .slice a82 l82 k82] 32)
      have hbb := below_then hb8 hba
      have HCT := zH (C3.new w8 32 (.bool t8) (.slice a81 l81 k81) (.slice a82 l82 k82))
      have HVT := zH (hv8.below hba)
      have HC8 := zH (HC6.out.belowS hb8)
      have HR8 := zH (HR6.out.belowS hb8)
      have HST8 := zH (HST6.out.below hb8)
      have HLO8 := zH (HLO6.out.below hb8)
      have HBW8 := zH (below_then HBW6.out hb8)
      have HBA := zH (below_alloc w8 (.cells #[.bool t8, .slice a81 l81 k81, .slice a82 l82 k82] 32))
      have hbs := hb8.size
      clear hv8 hb8 hba hbb))
   clear HA6 HL6 HC6 HR6 HST6 HLO6 HBW6 HVR e0 e1 e2
   have HFS := zH HX.out.fs
   rw [HN.out] at HFS HXR
   obtain ⟨S, hS⟩ : ∃ S, sg l.length (fun i => (qs c.start).getD (l.getD i 0) 0 * x i) = S := ⟨_, rfl⟩
   rw [hS] at HVT HFS HXR
   obtain ⟨b10, hb10⟩ : ∃ b, w8.heap.size = b := ⟨_, rfl⟩
   have HBS := zH hb10
   rw [hb10] at HCT ⊢
   clear hS hb10
   generalize w8.alloc (.cells #[.bool t8, .slice a81 l81 k81, .slice a82 l82 k82] 32) = W8 at *
   obtain ⟨_, e0, e1, e2, _, _, _⟩ := HC8.out.belowS HBA.out
   go_wp2_with fail
   go_loopg [78] (ln) (fun g u78 wr => ∃ (k : Nat) (t' : Bool) (x' y' : Value), k ≤ ln ∧ g = ln - k ∧ u78 = .int .i64 k ∧ C3 wr b10 (.bool t') x' y' ∧ FracC wr (.agg #[.bool t', x', y']) (S + lst c k) ∧ Below w8.heap.size w8 wr)
   case atStart => exact ⟨0, _, _, _, Nat.zero_le _, rfl, rfl, HCT.out, by show FracC _ _ (S + 0); rw [Rat.add_zero]; exact HVT.out, HBA.out⟩
   case round =>
    obtain ⟨k, t', x', y', hkn, hg, rfl, hcr, hfr, hbr⟩ := hrel
    obtain ⟨wq, hwq⟩ : ∃ w6, w6 = wr := ⟨_, rfl⟩
    subst hwq
    obtain ⟨_, _, _, hF6, ⟨c81, m81, n81, rfl, _⟩, ⟨c82, m82, n82, rfl, _⟩⟩ := hfr.isF
    injection hF6 with hF6
    injection hF6 with hF6
    simp only [List.cons.injEq, and_true, Value.bool.injEq] at hF6
    obtain ⟨rfl, rfl, rfl⟩ := hF6
    have HG := zH hg
    have HCR := zH hcr
    have HFR := zH hfr
    have HBR := zH hbr
    clear HCT HVT HBA hg hcr hfr e0 e1 e2
    by_cases hkl : k < ln
    ·have hk2 : k < c.start.length := by rw [HSL.out]; exact hkl
     have hkL : k < c.lost.length := by rw [HLL.out]; exact hkl
     obtain ⟨ea, eb, g1, g2, g3, g4, g5⟩ := (HST8.out.below hbr).at' k hk2
     have HQE : Hid ((qs c.start).getD k 0 = (c.start[k]'hk2).q) := zH (by
      unfold qs
      rw [List.getD_eq_getElem?_getD, List.getElem?_map, List.getElem?_eq_getElem hk2]; rfl)
     have HXO : Hid ((c.start[k]'hk2).ok) := zH (HV.out.2.2.2.2.1.ok _ (List.getElem_mem hk2))
     obtain ⟨y, hye⟩ : ∃ y, c.start[k]'hk2 = y := ⟨_, rfl⟩
     rw [hye] at g1 g4 g5 HQE HXO
     obtain ⟨ea1, ea2, ea3, rfl, _⟩ := g4.slen.1
     obtain ⟨eb1, eb2, eb3, rfl, _⟩ := g5.slen.1
     have qL := (HLO8.out.below hbr).at' k hkL
     have HLS : Hid (lst c (k + 1) = lst c k + if c.lost.getD k false = true then (qs c.start).getD k 0 else 0) := zH rfl
     rw [getB_lt hkL] at HLS
     obtain ⟨xL, hxL⟩ : ∃ x, c.lost[k]'hkL = x := ⟨_, rfl⟩
     rw [hxL] at qL HLS
     have hba := below_alloc wq (.cells #[.bool y.neg, .slice ea1 ea2 ea3, .slice eb1 eb2 eb3] 32)
     have HYN : Hid (FracN (wq.alloc (.cells #[.bool y.neg, .slice ea1 ea2 ea3, .slice eb1 eb2 eb3] 32)) (.agg #[.bool y.neg, .slice ea1 ea2 ea3, .slice eb1 eb2 eb3]) y.neg y.n y.d) := zH (FracN.below ⟨_, _, rfl, g4, g5⟩ hba)
     have HC13 := zH (C3.new wq 32 (.bool y.neg) (.slice ea1 ea2 ea3) (.slice eb1 eb2 eb3))
     have HCR8 := zH (HCR.out.belowS hba)
     have HFR8 := zH (HFR.out.below hba)
     have HB8 := zH (below_then HBR.out hba)
     obtain ⟨_, _, _, e2, _, _, _⟩ := HC8.out.belowS hbr
     have qL8 := cell_below hba qL
     have e28 := cell_below hba e2
     have i3 : (0 : Int) ≤ (k : Int) := by omega
     have i4 : (k : Int) < (ln : Nat) := by omega
     clear g4 g5 hye hxL hbr qL e2 hba HCR HFR HBR
     cases xL with
     | false =>
       have HLS : Hid (lst c (k + 1) = lst c k) := zH (by have h := HLS.out; simp only [Bool.false_eq_true, if_false, Rat.add_zero] at h; exact h)
       go_wp2_with fail
       go_roundg (ln - (k + 1))
       case measure => (have := HG.out; omega)
       case rel => exact ⟨k + 1, _, _, _, by omega, rfl, by go_num, HCR8.out, by rw [HLS.out]; exact HFR8.out, HB8.out⟩
     | true =>
       have HLS : Hid (S + lst c (k + 1) = S + lst c k + y.q) := zH (by have h := HLS.out; simp only [if_true] at h; rw [h, HQE.out, Rat.add_assoc])
       have HFF : Hid (fits (S + lst c k) ∧ fits (S + lst c k + y.q)) := zH ⟨HFS.out k hkn, by rw [← HLS.out]; exact HFS.out (k + 1) hkl⟩
       go_upto_region 23 with fail
       obtain ⟨b13, hb13⟩ : ∃ b, wq.heap.size = b := ⟨_, rfl⟩
       rw [hb13] at HC13 ⊢
       clear hb13
       generalize wq.alloc (.cells #[.bool y.neg, .slice ea1 ea2 ea3, .slice eb1 eb2 eb3] 32) = Wx at *
       obtain ⟨_, d0, d1, d2, _, _, _⟩ := HCR8.out
       obtain ⟨_, p0, p1, p2, _, _, _⟩ := HC13.out
       clear g1 g2 g3 qL8 e28
       go_wp2_with (first
        |(go_at_call 42; (with_reducible refine (add_cr _ _ _ y _ HFR8.out HYN.out HFF.out.1 HXO.out HFF.out.2).mono ?_); rw [← HLS.out]; rintro e9 w9 ⟨v9, rfl, hv9, hb9⟩
          obtain ⟨t9, x9, y9, rfl, ⟨a91, l91, k91, rfl, _⟩, ⟨a92, l92, k92, rfl, _⟩⟩ := hv9.isF
          have hCR9 := HCR8.out.belowS hb9
          have HCR9 := zH hCR9
          have HB9 := zH (below_then HB8.out hb9)
          have HV9 := zH hv9
          obtain ⟨_, r0, r1, r2, q0, q1, q2⟩ := hCR9
          clear hv9 hb9))
       go_roundg (ln - (k + 1))
       case measure => (have := HG.out; omega)
       case rel => exact ⟨k + 1, _, _, _, by omega, rfl, by go_num, HCR9.out.set _ _ _, HV9.out.set3 HCR9.out (fun z => by simp) (fun z => by simp) _ _ _, below_set3 HB9.out (by rw [HBS.out]; exact Nat.le_refl _) _ _ _⟩
    ·obtain rfl : k = ln := by omega
     obtain ⟨_, d0, d1, d2, _, _, _⟩ := HCR.out
     have HR9 := zH (HR8.out.belowS hbr)
     obtain ⟨_, r0, r1, r2, q0, q1, q2⟩ := HR9.out
     go_wp2_with fail
     refine bodyPost_c3 rfl rfl Try.aggF Try.sizeF (HR9.out.set _ _ _) rfl ?_
     refine ⟨_, rfl, ?_, below_set3 (below_then HBW8.out hbr) (Nat.le_succ _) _ _ _⟩
     rw [← HXR.out]
     exact HFR.out.set3 HR9.out (fun z => by simp) (fun z => by simp) _ _ _
end Go.Proofs.Ytlpdkbmmbdfoiaa
namespace Go.Proofs.Ytlpdkbmmbdfoiaa
theorem zxc {c : RC} {l : List Nat} (h : zsc c l) : LK c.rates.length (rq c) (zxa c) l where
 so := h.sorted
 lt := fun s hs => ((h.mem s).1 hs).1
 nl := fun s hs e => by have h1 := ((h.mem s).1 hs).2.2.2; unfold zxa at e; rw [h1] at e; cases e
 ft := fun s hs => ((h.mem s).1 hs).2.2.1
 cl := fun s t hs ht hp => by
  have h0 := (h.mem s).1 hs
  by_cases h1 : zxa c t
  ·exact Or.inr (Or.inl h1)
  ·by_cases h2 : Ftl c t
   ·exact Or.inl ((h.mem t).2 ⟨ht, Clo.step h0.2.1 ht hp, h2, by unfold zxa at h1; simpa using h1⟩)
   ·exact Or.inr (Or.inr h2)
theorem sysA_mm {c : RC} {l : List Nat} (hv : zla c) (h : zsc c l) {i j : Nat} (hi : i < l.length) : zgh c l i j = mmA (fun i j => rq c (l.getD i 0) (l.getD j 0)) (fun i => sg c.rates.length (rq c (l.getD i 0))) i j := by
 unfold zgh mmA
 split
 ·exact out_sg hv ((zxc h).lt _ (zna hi))
 ·grind
theorem alive_hit {c : RC} {l : List Nat} {H : Nat → Rat} (hv : zla c) (h : zsc c l) (hH : HitF c.rates.length (rq c) (zxa c) H) {i : Nat} (hi : i < l.length) :
 sg l.length (fun j => zgh c l i j * H (l.getD j 0)) = lsr c (l.getD i 0) c.rates.length := by
 have hk := zxc h
 have hs := zna hi
 have h1 := hk.eq (zfm hv) (X := H) (b := fun _ => 0) hi (by rw [Rat.zero_add]; exact hH.eq _ (hk.lt _ hs) (hk.nl _ hs))
 rw [Rat.zero_add] at h1
 rw [zea fun j hj => by rw [sysA_mm hv h hi], h1]
 unfold lsr
 refine zea fun t ht => ?_
 by_cases hl : zxa c t
 ·have hm : t ∉ l := fun e => hk.nl t e hl
  rw [if_neg hm, if_pos (show c.lost.getD t false = true from hl), hH.one t ht hl, Rat.mul_one]
 ·rw [if_neg (show ¬ c.lost.getD t false = true from hl)]
  by_cases hm : t ∈ l
  ·rw [if_pos hm]
  ·rw [if_neg hm]
   by_cases hp : 0 < rq c (l.getD i 0) t
   ·rcases hk.cl _ t hs ht hp with h2 | h2 | h2
    ·exact absurd h2 hm
    ·exact absurd h2 hl
    ·rw [hH.no t ht h2, Rat.mul_zero]
   ·have h2 := rq_nn hv (hk.lt _ hs) ht
    have h3 : rq c (l.getD i 0) t = 0 := by grind
    rw [h3, Rat.zero_mul]
theorem start_nn {c : RC} (hv : zla c) {t : Nat} (ht : t < c.rates.length) : 0 ≤ (qs c.start).getD t 0 := by
 have h2 : t < c.start.length := by have := hv.2.2.2.1; omega
 have h3 : (qs c.start).getD t 0 = (c.start[t]).q := by
  unfold qs
  rw [List.getD_eq_getElem?_getD, List.getElem?_map, List.getElem?_eq_getElem h2]; rfl
 rw [h3]
 exact Rat.not_lt.1 (hv.2.2.2.2.1.1 _ (List.getElem_mem h2)).2.1
theorem hit_sum {c : RC} {l : List Nat} {H : Nat → Rat} (hv : zla c) (h : zsc c l) (hH : HitF c.rates.length (rq c) (zxa c) H) :
 sg l.length (fun i => (qs c.start).getD (l.getD i 0) 0 * H (l.getD i 0)) + lst c c.rates.length = sg c.rates.length fun t => (qs c.start).getD t 0 * H t := by
 have hk := zxc h
 rw [zsl (l := l) hk.so hk.lt (f := fun t => (qs c.start).getD t 0 * H t)]
 congr 1
 unfold lst
 refine (zea fun t ht => ?_)
 by_cases hl : zxa c t
 ·rw [if_pos (show c.lost.getD t false = true from hl), if_neg (fun e => hk.nl t e hl), hH.one t ht hl, Rat.mul_one]
 ·rw [if_neg (show ¬ c.lost.getD t false = true from hl)]
  by_cases hm : t ∈ l
  ·rw [if_pos hm]
  ·rw [if_neg hm]
   by_cases hp : 0 < (qs c.start).getD t 0
   ·have h2 : ¬ Ftl c t := fun hf => hm ((h.mem t).2 ⟨ht, Clo.base ht hp, hf, by unfold zxa at hl; simpa using hl⟩)
    rw [hH.no t ht h2, Rat.mul_zero]
   ·have h2 := start_nn hv ht
    have h3 : (qs c.start).getD t 0 = 0 := by grind
    rw [h3, Rat.zero_mul]
theorem rch_more {c : RC} {s t : Nat} (h : Rch c s) (ht : RC1 c.rates.length (rq c) (fun j => j = s) t) : Rch c t := by
 induction ht with
 | base hi hS => subst hS; exact h
 | step hc hj hL ih => exact Clo.step ih hj hL
theorem rch_sure {c : RC} (hall : ∀ j, j < c.rates.length → Rch c j → Ftl c j) {s : Nat} (h : Rch c s) : znl c.rates.length (rq c) (zxa c) s := fun t ht => hall t (Clo.lt ht) (rch_more h ht)
theorem alive_time {c : RC} {l : List Nat} {T : Nat → Rat} (hv : zla c) (h : zsc c l) (hall : ∀ j, j < c.rates.length → Rch c j → Ftl c j) (hT : TimeF c.rates.length (rq c) (zxa c) (znl c.rates.length (rq c) (zxa c)) T) {i : Nat} (hi : i < l.length) :
 sg l.length (fun j => zgh c l i j * T (l.getD j 0)) = 1 := by
 have hk := zxc h
 have hs := zna hi
 have hr := ((h.mem _).1 hs).2.1
 have h1 := hk.eq (zfm hv) (X := T) (b := fun _ => 1) hi (hT.eq _ (hk.lt _ hs) (hk.nl _ hs) (rch_sure hall hr))
 rw [zea fun j hj => by rw [sysA_mm hv h hi], h1, sg_zero' fun t ht => ?_, Rat.add_zero]
 by_cases hm : t ∈ l
 ·rw [if_pos hm]
 ·rw [if_neg hm]
  by_cases hl : zxa c t
  ·rw [hT.zero t ht hl, Rat.mul_zero]
  ·by_cases hp : 0 < rq c (l.getD i 0) t
   ·exact absurd ((h.mem t).2 ⟨ht, Clo.step hr ht hp, hall t ht (Clo.step hr ht hp), by unfold zxa at hl; simpa using hl⟩) hm
   ·have h2 := rq_nn hv (hk.lt _ hs) ht
    have h3 : rq c (l.getD i 0) t = 0 := by grind
    rw [h3, Rat.zero_mul]
theorem time_sum {c : RC} {l : List Nat} {T : Nat → Rat} (hv : zla c) (h : zsc c l) (hall : ∀ j, j < c.rates.length → Rch c j → Ftl c j) (hT : TimeF c.rates.length (rq c) (zxa c) (znl c.rates.length (rq c) (zxa c)) T) :
 sg l.length (fun i => (qs c.start).getD (l.getD i 0) 0 * T (l.getD i 0)) = sg c.rates.length fun t => (qs c.start).getD t 0 * T t := by
 have hk := zxc h
 rw [zsl (l := l) hk.so hk.lt (f := fun t => (qs c.start).getD t 0 * T t)]
 have hz : (sg c.rates.length fun t => if t ∈ l then 0 else (qs c.start).getD t 0 * T t) = 0 := ?_
 ·rw [hz, Rat.add_zero]
 refine sg_zero' fun t ht => ?_
 by_cases hm : t ∈ l
 ·rw [if_pos hm]
 ·rw [if_neg hm]
  by_cases hl : zxa c t
  ·rw [hT.zero t ht hl, Rat.mul_zero]
  ·by_cases hp : 0 < (qs c.start).getD t 0
   ·exact absurd ((h.mem t).2 ⟨ht, Clo.base ht hp, hall t ht (Clo.base ht hp), by unfold zxa at hl; simpa using hl⟩) hm
   ·have h2 := start_nn hv ht
    have h3 : (qs c.start).getD t 0 = 0 := by grind
    rw [h3, Rat.zero_mul]
def alikeQ (own : Int) (p q : List Rat) : Prop := ∀ (i : Nat) (x y : Rat), (i : Int) ≠ own → p[i]? = some x → q[i]? = some y → x = y
def agree (bl : List Int) (f : Nat → List Rat) (g : Nat → Bool) (i j : Nat) : Prop := ∀ b, bl[i]? = some b → bl[j]? = some b → g i = g j ∧ alikeQ b (f i) (f j)
end Go.Proofs.Ytlpdkbmmbdfoiaa
namespace Go.Proofs.Ytlpdkbmmbdfoiaa
open Go.RowKit
theorem rat_parts {p q : Rat} : p = q ↔ decide (p < 0) = decide (q < 0) ∧ limbs p.num.natAbs = limbs q.num.natAbs ∧ limbs p.den = limbs q.den := by
 constructor
 ·rintro rfl; exact ⟨rfl, rfl, rfl⟩
 ·rintro ⟨h1, h2, h3⟩
  have e2 := zaf h2
  have e3 := zaf h3
  rw [← fq_self p, ← fq_self q, h1, e2, e3]
set_option maxRecDepth 100000 in
set_option maxHeartbeats 1600000 in
theorem same_frac (va vb : Value) (p q : Rat) (w : World) (ha : FracC w va p) (hb : FracC w vb q) :
 Calls Try.prog 18 #[va, vb] w (RSame w (p = q)) := by
 obtain ⟨a1, a2, rfl, n1, n2⟩ := ha
 obtain ⟨b1, b2, rfl, m1, m2⟩ := hb
 have HP := zH (@rat_parts p q)
 have n1 := n1.1
 have n2 := n2.1
 have m1 := m1.1
 have m2 := m2.1
 obtain ⟨a1a, a1n, a1c, rfl, _⟩ := n1.sl
 obtain ⟨a2a, a2n, a2c, rfl, _⟩ := n2.sl
 obtain ⟨b1a, b1n, b1c, rfl, _⟩ := m1.sl
 obtain ⟨b2a, b2n, b2c, rfl, _⟩ := m2.sl
 generalize decide (p < 0) = s at *
 generalize decide (q < 0) = t at *
 generalize limbs p.num.natAbs = x at *
 generalize limbs q.num.natAbs = y at *
 generalize limbs p.den = z at *
 generalize limbs q.den = u at *
 have hbx := below_alloc w (.cells #[.bool s, .slice a1a a1n a1c, .slice a2a a2n a2c] 32)
 have hbx := (hbx.alloc hbx.size (.cells #[.bool t, .slice b1a b1n b1c, .slice b2a b2n b2c] 32))
 have n1 := n1.below hbx
 have n2 := n2.below hbx
 have m1 := m1.below hbx
 have m2 := m2.below hbx
 have hC := (C3.new w 32 (.bool s) (.slice a1a a1n a1c) (.slice a2a a2n a2c)).allocS (.cells #[.bool t, .slice b1a b1n b1c, .slice b2a b2n b2c] 32)
 have hD := C3.new (w.alloc (.cells #[.bool s, .slice a1a a1n a1c, .slice a2a a2n a2c] 32)) 32 (.bool t) (.slice b1a b1n b1c) (.slice b2a b2n b2c)
 rw [show (w.alloc (.cells #[.bool s, .slice a1a a1n a1c, .slice a2a a2n a2c] 32)).heap.size = w.heap.size + 1 from by simp] at hD
 by_cases h1 : s = t
 ·subst h1
  by_cases hxy : x = y
  ·by_cases hzu : z = u
   ·have tok : True := trivial
    go_enter Try.func18, Try.ntmps18
    go_wp2_with (first
     |(go_at_call 46; have _t := tok; (with_reducible refine (zkg _ _ x y _ n1 m1).mono ?_); rintro e1 w1 ⟨⟨r1, rfl, h1⟩, hbel1⟩; obtain rfl : r1 = true := h1.2 hxy; clear h1 tok _t
       have n3 := n2.below hbel1
       have m3 := m2.below hbel1
       obtain ⟨_, c0, c1, c2, _, _, _⟩ := hC.belowS hbel1
       obtain ⟨_, d0, d1, d2, _, _, _⟩ := hD.belowS hbel1)
     |(go_at_call 46; (with_reducible refine (zkg _ _ z u _ n3 m3).mono ?_); rintro e2 w2 ⟨⟨r2, rfl, h2⟩, hbel2⟩; obtain rfl : r2 = true := h2.2 hzu; clear h2))
    go_ret
    exact ⟨⟨true, rfl, by simp; exact HP.out.2 ⟨by first | rfl | trivial, hxy, hzu⟩⟩, (hbx.trans (hbel1.mono hbx.size)).trans (hbel2.mono (hbx.trans (hbel1.mono hbx.size)).size)⟩
   ·have tok : True := trivial
    go_enter Try.func18, Try.ntmps18
    go_wp2_with (first
     |(go_at_call 46; have _t := tok; (with_reducible refine (zkg _ _ x y _ n1 m1).mono ?_); rintro e1 w1 ⟨⟨r1, rfl, h1⟩, hbel1⟩; obtain rfl : r1 = true := h1.2 hxy; clear h1 tok _t
       have n3 := n2.below hbel1
       have m3 := m2.below hbel1
       obtain ⟨_, c0, c1, c2, _, _, _⟩ := hC.belowS hbel1
       obtain ⟨_, d0, d1, d2, _, _, _⟩ := hD.belowS hbel1)
     |(go_at_call 46; (with_reducible refine (zkg _ _ z u _ n3 m3).mono ?_); rintro e2 w2 ⟨⟨r2, rfl, h2⟩, hbel2⟩; obtain rfl : r2 = false := Bool.eq_false_iff.2 (fun h => hzu (h2.1 h)); clear h2))
    go_ret
    exact ⟨⟨false, rfl, by simp; exact fun h => hzu (HP.out.1 h).2.2⟩, (hbx.trans (hbel1.mono hbx.size)).trans (hbel2.mono (hbx.trans (hbel1.mono hbx.size)).size)⟩
  ·go_enter Try.func18, Try.ntmps18
   go_wp2_with (go_at_call 46; (with_reducible refine (zkg _ _ x y _ n1 m1).mono ?_); rintro e1 w1 ⟨⟨r1, rfl, h1⟩, hbel1⟩; obtain rfl : r1 = false := Bool.eq_false_iff.2 (fun h => hxy (h1.1 h)); clear h1)
   go_ret
   exact ⟨⟨false, rfl, by simp; exact fun h => hxy (HP.out.1 h).2.1⟩, hbx.trans (hbel1.mono hbx.size)⟩
 ·have h2 : (s == t) = false := by simpa using h1
  go_enter Try.func18, Try.ntmps18
  go_wp2_with fail
  go_ret
  exact ⟨⟨false, rfl, by simp; exact fun h => h1 (HP.out.1 h).1⟩, hbx⟩
set_option maxRecDepth 100000 in
set_option maxHeartbeats 1600000 in
theorem same_fracs (va vb : Value) (a b : List Rat) (w : World) (ha : FracsC w va a) (hb : FracsC w vb b) :
 Calls Try.prog 49 #[va, vb] w (RSame w (a = b)) := by
 have sa := ha.sl
 have la := ha.len
 have sb := hb.sl
 have lb := hb.len
 have hle := sa.le
 have hle2 := sb.le
 rw [la] at hle
 rw [lb] at hle2
 have hlb : a.length ≤ 9223372036854775807 := by omega
 have hlb2 : b.length ≤ 9223372036854775807 := by omega
 clear hle hle2
 by_cases hlen : a.length = b.length
 ·skip
  have hL := zH hlen
  rw [← hlen] at lb
  clear hlen
  go_enter Try.func49, Try.ntmps49
  go_wp2_with fail
  go_loopw [5] (fun u5 wr => ∃ (k : Nat), k ≤ a.length ∧ u5 = .int .i64 k ∧ (∀ (j : Nat) (h1 : j < a.length) (h2 : j < b.length), j < k → a[j] = b[j]) ∧ Below w.heap.size w wr) (fun u5 _ => a.length - (intOf u5).toNat)
  case atStart => exact ⟨0, Nat.zero_le _, rfl, fun j _ _ h => by omega, Below.refl _ _⟩
  case round =>
   obtain ⟨k, hk, rfl, hst, hbr⟩ := hrel
   have HST := zH hst
   clear hst
   by_cases hkl : k < a.length
   ·have hkb : k < b.length := by rw [← hL.out]; exact hkl
    have hdr := below_drew (B := wr.heap.size) wr
    have hbd := below_then hbr hdr
    obtain ⟨a1, a2, c1, c2, c3, n1, n2⟩ := (ha.below hbd).at' k hkl
    obtain ⟨b1, b2, d1, d2, d3, m1, m2⟩ := (hb.below hbd).at' k hkb
    have i1 : (0 : Int) ≤ (k : Int) := by omega
    have i2 : (k : Int) < (a.length : Nat) := by omega
    generalize ha' : a[k]'hkl = x at *
    generalize hb' : b[k]'hkb = y at *
    have HA := zH ha'
    have HB := zH hb'
    clear ha' hb'
    have hX : FracC wr.drew (.agg #[.bool (decide (x < 0)), a1, a2]) x := ⟨_, _, rfl, n1, n2⟩
    have hY : FracC wr.drew (.agg #[.bool (decide (y < 0)), b1, b2]) y := ⟨_, _, rfl, m1, m2⟩
    clear n1 n2 m1 m2
    go_wp2_with fail
    go_region_held3 (fun w' => w'.cell? (ptr va (k * 3)) = some (.bool (decide (x < 0))) ∧ w'.cell? (ptr va (k * 3 + 1)) = some a1 ∧ w'.cell? (ptr va (k * 3 + 2)) = some a2 ∧ w'.cell? (ptr vb (k * 3)) = some (.bool (decide (y < 0))) ∧ w'.cell? (ptr vb (k * 3 + 1)) = some b1 ∧ w'.cell? (ptr vb (k * 3 + 2)) = some b2) (exact ⟨c1, c2, c3, d1, d2, d3⟩) (first
     |(go_at_call 18; (with_reducible refine (same_frac _ _ x y _ hX hY).mono ?_); rintro e9 w9 ⟨⟨r9, rfl, h9⟩, hb9⟩
       have c1 := cell_below hb9 c1
       have c2 := cell_below hb9 c2
       have c3 := cell_below hb9 c3
       have d1 := cell_below hb9 d1
       have d2 := cell_below hb9 d2
       have d3 := cell_below hb9 d3))
    clear c1 c2 c3 d1 d2 d3 hX hY
    have hbr2 := below_then hbd hb9
    by_cases hxy : x = y
    ·obtain rfl : r9 = true := h9.2 hxy
     have HST2 : Hid (∀ (j : Nat) (h1 : j < a.length) (h2 : j < b.length), j < k + 1 → a[j] = b[j]) := zH (fun j h1 h2 h3 => by
      rcases Nat.lt_or_ge j k with h4 | h4
      ·exact HST.out j h1 h2 h4
      ·obtain rfl : j = k := by omega
       rw [HA.out, HB.out, hxy])
     clear hxy h9
     go_wp2
     go_roundw
     case rel => exact ⟨k + 1, by omega, by go_num, HST2.out, hbr2⟩
     case measure => simp [intOf]; omega
    ·obtain rfl : r9 = false := Bool.eq_false_iff.2 (fun h => hxy (h9.1 h))
     have HXY := zH hxy
     clear hxy h9
     go_wp2
     go_ret
     exact ⟨⟨false, rfl, by simp; intro h; subst h; exact HXY.out (HA.out.symm.trans HB.out)⟩, hbr2⟩
   ·go_wp2_with fail
    go_ret
    refine ⟨⟨true, rfl, by simp; exact zvj hL.out (fun j h1 h2 => HST.out j h1 h2 (by omega))⟩, hbr⟩
 ·skip
  have hne : ((a.length : Int) == (b.length : Int)) = false := by simp; omega
  go_enter Try.func49, Try.ntmps49
  go_wp2_with fail
  go_ret
  exact ⟨⟨false, rfl, by simp; intro h; exact hlen (by rw [h])⟩, Below.refl _ _⟩
structure MatC (w : World) (v : Value) (m : List (List Rat)) : Prop where
 sl : IsSl v
 len : slen v = m.length
 at' : ∀ (j : Nat) (h : j < m.length), ∃ r, w.cell? (ptr v j) = some r ∧ FracsC w r m[j]
theorem MatC.below {w w' : World} {v : Value} {m : List (List Rat)} (h : MatC w v m) (hb : Below w.heap.size w w') : MatC w' v m :=
 ⟨h.sl, h.len, fun j hj => by obtain ⟨r, h1, h2⟩ := h.at' j hj; exact ⟨r, cell_below hb h1, h2.below hb⟩⟩
structure CQ where
 rates : List (List Rat)
 start : List Rat
 lost : List Bool
def ChainC (w : World) (v : Value) (c : CQ) : Prop := ∃ r s l, v = .agg #[r, s, l] ∧ MatC w r c.rates ∧ FracsC w s c.start ∧ zcd w l c.lost
theorem ChainC.below {w w' : World} {v : Value} {c : CQ} (h : ChainC w v c) (hb : Below w.heap.size w w') : ChainC w' v c := by
 obtain ⟨r, s, l, rfl, h1, h2, h3⟩ := h; exact ⟨r, s, l, rfl, h1.below hb, h2.below hb, h3.below hb⟩
def CQ.raw (c : CQ) : RC := ⟨c.rates.map fun r => r.map RF.of, c.start.map RF.of, c.lost⟩
theorem MatC.raw {w : World} {v : Value} {m : List (List Rat)} (h : MatC w v m) : MatN w v (m.map fun r => r.map RF.of) :=
 ⟨h.sl, by rw [h.len, List.length_map], fun j hj => by
  obtain ⟨r, h1, h2⟩ := h.at' j (by simpa using hj)
  rw [List.getElem_map]
  exact ⟨r, h1, h2.raw⟩⟩
theorem ChainC.raw {w : World} {v : Value} {c : CQ} (h : ChainC w v c) : ChainN w v c.raw := by
 obtain ⟨r, s, l, rfl, h1, h2, h3⟩ := h; exact ⟨r, s, l, rfl, h1.raw, h2.raw, h3⟩
end Go.Proofs.Ytlpdkbmmbdfoiaa
namespace Go.Proofs.Ytlpdkbmmbdfoiaa
def zra (q : Rat) : Prop := ∃ a b : Nat, a ≤ 4 ∧ 1 ≤ b ∧ b ≤ 4 ∧ q = fq false a b
theorem zra.zero : zra 0 := ⟨0, 1, by decide, by decide, by decide, by decide⟩
theorem zra.cases (P : Rat → Prop) [DecidablePred P] (h : ∀ a, a < 5 → ∀ b, b < 5 → b ≠ 0 → P (fq false a b)) {q : Rat} (hq : zra q) : P q := by
 obtain ⟨a, b, h1, h2, h3, rfl⟩ := hq
 exact h a (by omega) b (by omega) (by omega)
theorem zra.nonneg {q : Rat} (h : zra q) : ¬ q < 0 := zra.cases (fun q => ¬ q < 0) (by decide) h
theorem zra.wt {q : Rat} (h : zra q) : wt q ≤ 6 := zra.cases (fun q => Go.Proofs.Ytlpdkbmmbdfoiaa.wt q ≤ 6) (by decide) h
theorem zra.num {q : Rat} (h : zra q) : q.num.natAbs ≤ 4 := zra.cases (fun q => q.num.natAbs ≤ 4) (by decide) h
theorem zra.den {q : Rat} (h : zra q) : q.den ≤ 4 := zra.cases (fun q => q.den ≤ 4) (by decide) h
theorem znj {n : Nat} (h : n ≤ 4) : zka n ≤ 3 := nbits_le.2 (by omega)
theorem zdl {n : Nat} (h : n ≤ 4) : zaa n ≤ 4 := zcb.2 (by simp [pw]; omega)
theorem zra.fits {q : Rat} (h : zra q) : fits q := ⟨Nat.le_trans (znj h.num) (by decide), Nat.le_trans (znj h.den) (by decide)⟩
structure tapeP (c : CQ) : Prop where
 n2 : 2 ≤ c.start.length
 n5 : c.start.length ≤ 5
 ll : c.lost.length = c.start.length
 rl : c.rates.length = c.start.length
 st : ∀ q ∈ c.start, zra q
 sum : zsb c.start = 1
 rows : ∀ (i : Nat) (r : List Rat), c.rates[i]? = some r → r.length = c.start.length ∧ (∀ q ∈ r, zra q) ∧ (∀ x : Rat, r[i]? = some x → x = 0) ∧ (c.lost[i]? = some true → ∀ q ∈ r, q = 0)
theorem wts_small {l : List Rat} (h : ∀ q ∈ l, zra q) : wts l ≤ 6 * l.length := by
 induction l with
 | nil => simp [wts]
 | cons x l ih =>
   have h1 := (h x (by simp)).wt
   have h2 := ih (fun q hq => h q (by simp [hq]))
   rw [zhc, List.length_cons]
   omega
theorem zwf (l : List Rat) : qs (l.map RF.of) = l := by
 unfold qs
 rw [List.map_map]
 conv => rhs; rw [← List.map_id l]
 exact List.map_congr_left (fun q _ => RF.of_q q)
theorem zxk {l : List Rat} {n : Nat} (hn : l.length = n) (hn5 : n ≤ 5) (h : ∀ q ∈ l, zra q) : zii (l.map RF.of) n := by
 refine ⟨fun x hx => ?_, by rw [List.length_map]; exact hn, by rw [zwf]; have := wts_small h; omega⟩
 obtain ⟨q, hq, rfl⟩ := List.mem_map.1 hx
 have hs := h q hq
 refine ⟨RF.of_ok hs.fits, ?_⟩
 rw [RF.of_q]
 exact ⟨hs.nonneg, zdl hs.num, zdl hs.den⟩
theorem tapeP.valid {c : CQ} (h : tapeP c) : zla c.raw := by
 obtain ⟨n2, n5, ll, rl, st, sum, rows⟩ := h
 refine ⟨by simp [CQ.raw]; omega, by simp [CQ.raw]; omega, by simp [CQ.raw]; exact ll, by simp [CQ.raw]; exact rl, ?_, fun i r hr => ?_, ?_⟩
 ·have := zxk (n := c.start.length) rfl n5 st
  simpa [CQ.raw] using this
 ·simp only [CQ.raw, List.getElem?_map, Option.map_eq_some_iff] at hr
  obtain ⟨r', hr', rfl⟩ := hr
  obtain ⟨k1, k2, k3, k4⟩ := rows i r' hr'
  refine ⟨?_, fun x hx => ?_, fun hl => ?_⟩
  ·have := zxk k1 n5 k2
   simpa [CQ.raw] using this
  ·rw [List.getElem?_map, Option.map_eq_some_iff] at hx
   obtain ⟨q, hq, rfl⟩ := hx
   rw [RF.of_q, k3 q hq]
   rfl
  ·rw [zwf]
   have h0 := k4 hl
   have : ∀ l : List Rat, (∀ q ∈ l, q = 0) → wts l = 0 := fun l => by
    induction l with
    | nil => intro _; rfl
    | cons x l ih =>
      intro h
      rw [zhc, ih (fun q hq => h q (by simp [hq])), h x (by simp)]
      decide
   exact this r' h0
 ·have : qs c.raw.start = c.start := zwf _
  rw [this]; exact sum
end Go.Proofs.Ytlpdkbmmbdfoiaa
