/-
  Sign of a canonical fraction; a fraction at a place of a row.
-/
import Derived.Test.YtlpdkbmmbdfoiaaGreatSRa7
import Derived.Test.YtlpdkbmmbdfoiaaGreatSFr6
set_option linter.unusedVariables false
set_option linter.unusedSimpArgs false
namespace Go.Proofs.YtlpdkbmmbdfoiaaGreat
open Go.RowKit
set_option maxHeartbeats 800000 in
theorem zkj (va vb : Value) (m n : Nat) (w : World) (ha : zpb w va m) (hb : zpb w vb n) (h : n ≠ 0) (hm : zea m ≤ 512) (hn : zea n ≤ 512) :
 Calls Tryz.prog 150 #[va, vb] w (RDiv2 w m n) := by
 have HM := zH hm
 have HN := zH hn
 have H0 := zH h
 have hnz : zea n ≠ 0 := fun h' => h (zsa.1 h')
 have hnz2 : (((zea n : Nat) : Int) == 0) = false := by simpa using hnz
 clear hm hn hnz h
 have tok1 : True := trivial
 go_enter Tryz.func150, Tryz.ntmps150
 go_wp2_with (first
  |(go_at_call 152; first
    |((with_reducible refine (zwe va m _ ha HM.out).mono ?_); rintro e wa ⟨rfl, hba⟩)
    |((with_reducible refine (zwe vb n _ (hb.below hba) HN.out).mono ?_); rintro e wb ⟨rfl, hbb⟩; have hbw := zaa hba hbb))
  |(go_at_call 106; have _t := tok1; (with_reducible refine (zxa vb n _ (hb.below hbw)).mono ?_); rintro e wc ⟨r0, rfl, hr0, hb0⟩; clear tok1 _t; have sl0 := hr0.v.sl; have ln0 : slen r0 = zea n := hr0.v.len; have hbw0 := zaa hbw hb0)
  |(go_at_call 106; first
     |((with_reducible refine (zxa va m _ (ha.below hbw0)).mono ?_); rintro e w1 ⟨ra, rfl, hra, hb1⟩; have hbw1 := zaa hbw0 hb1)
     |((with_reducible refine (zxa vb n _ (hb.below hbw1)).mono ?_); rintro e w2 ⟨rb, rfl, hrb, hb2⟩; have hbw2 := zaa hbw1 hb2; have hra2 := hra.below hb2))
  |(go_at_call 196; (with_reducible refine (zfk ra rb m n _ hra2 hrb H0.out HM.out).mono ?_); rintro e w3 ⟨q, r, rfl, hq, hr, hb3⟩; have hbw3 := zaa hbw2 hb3))
 go_ret3
 exact ⟨q, r, rfl, hq, hr, hbw3⟩
set_option maxHeartbeats 800000 in
theorem zwm (va vb : Value) (m n : Nat) (w : World) (ha : zpb w va m) (hb : zpb w vb n) (hm : zea m ≤ 512) (hn : zea n ≤ 512) :
 Calls Tryz.prog 149 #[va, vb] w (RNat0 w (Nat.gcd m n)) := by
 have HM := zH hm
 have HN := zH hn
 clear hm hn
 go_enter Tryz.func149, Tryz.ntmps149
 go_wp2_with (first
  |(go_at_call 152; first
    |((with_reducible refine (zwe va m _ ha HM.out).mono ?_); rintro e wa ⟨rfl, hba⟩)
    |((with_reducible refine (zwe vb n _ (hb.below hba) HN.out).mono ?_); rintro e wb ⟨rfl, hbb⟩; have hbw0 := zaa hba hbb))
  |(go_at_call 106; first
     |((with_reducible refine (zxa va m _ (ha.below hbw0)).mono ?_); rintro e w1 ⟨ra, rfl, hra, hb1⟩; have hbw1 := zaa hbw0 hb1)
     |((with_reducible refine (zxa vb n _ (hb.below hbw1)).mono ?_); rintro e w2 ⟨rb, rfl, hrb, hb2⟩; have hbw := zaa hbw1 hb2; have hra2 := hra.below hb2)))
 go_loopw [6, 7] (fun u0 u1 wr => ∃ (x y : Nat), zgb wr u0 x ∧ zgb wr u1 y ∧ zea x ≤ 512 ∧ zea y ≤ 512 ∧ Nat.gcd x y = Nat.gcd m n ∧ Below w.heap.size w wr) (fun _ u1 wr => natOf wr u1)
 case atStart => exact ⟨m, n, hra2, hrb, HM.out, HN.out, rfl, hbw⟩
 case round =>
  obtain ⟨x, y, hx, hy, hx5, hy5, hg, hbr⟩ := hrel
  clear ha hb hra hrb hra2 hb1 hb2 hbw hbw0 hbw1 hba hbb
  obtain ⟨sx, lx⟩ : zlc u6 ∧ slen u6 = zea x := ⟨hx.v.sl, hx.v.len⟩
  obtain ⟨sy, ly⟩ : zlc u7 ∧ slen u7 = zea y := ⟨hy.v.sl, hy.v.len⟩
  have HX := zH hx5
  have HY := zH hy5
  have HG := zH hg
  have hxb : zea x ≤ 4294967296 := by omega
  have hyb : zea y ≤ 4294967296 := by omega
  clear hx5 hy5 hg
  by_cases hy0 : y = 0
  ·have hyz : zea y = 0 := zsa.2 hy0
   have hfin : x = Nat.gcd m n := by rw [← HG.out, hy0, Nat.gcd_zero_right]
   have HF := zH hfin
   clear hfin hy0
   go_wp2
   go_ret2
   exact ⟨_, rfl, HF.out ▸ hx, hbr⟩
  ·have hyz : 0 < zea y := by have : zea y ≠ 0 := fun h' => hy0 (zsa.1 h'); omega
   have HY0 := zH hy0
   clear hy0
   go_wp2_with (go_at_call 196; (with_reducible refine (zfk _ _ x y _ hx hy HY0.out HX.out).mono ?_); rintro e w3 ⟨q, r, rfl, hq, hr, hbl⟩)
   have hy3 := hy.below hbl
   have hbr3 := hbr.trans (hbl.mono hbr.size)
   go_wp2
   go_roundw
   case rel => exact ⟨y, x % y, hy3, hr, HY.out, Nat.le_trans (zib (Nat.le_of_lt (Nat.mod_lt _ (Nat.pos_of_ne_zero HY0.out)))) HY.out, by rw [← HG.out, Nat.gcd_comm y, ← Nat.gcd_rec, Nat.gcd_comm], hbr3⟩
   case measure => rw [zmj hr, zmj hy]; exact Nat.mod_lt _ (Nat.pos_of_ne_zero HY0.out)
theorem zwh : zka 1 = [1] := by rw [zud (by decide)]; simp [zac]
theorem fq_zero (s : Bool) (d : Nat) (hd : d ≠ 0) : fq s 0 d = 0 := by
 unfold fq; rw [sgn_zero]; simp
set_option maxRecDepth 100000 in
set_option maxHeartbeats 1600000 in
theorem zan (s : Bool) (va vb : Value) (d : Nat) (w : World) (ha : zpb w va 0) (hb : zpb w vb d) (hd : d ≠ 0) :
 Calls Tryz.prog 71 #[.bool s, va, vb] w (RF1 w (fq s 0 d)) := by
 rw [fq_zero s d hd]
 obtain ⟨n, hn⟩ : ∃ n, n = 0 := ⟨0, rfl⟩
 rw [← hn] at ha
 have hz : zea n = 0 := zsa.2 hn
 have HN := zH hn
 clear hn
 go_enter Tryz.func71, Tryz.ntmps71
 go_wp2_with (first
  |(go_at_call 106; first
   |((with_reducible refine (zxa va n _ (ha.below (zca _ _))).mono ?_); rintro e w1 ⟨x1, rfl, hx1, hb1⟩; have s1 := hx1.v.sl; have l1 : slen x1 = zea n := hx1.v.len)
   |((with_reducible refine (zxa vb d _ ((hb.below (zca _ _)).below hb1)).mono ?_); rintro e w2 ⟨x2, rfl, hx2, hb2⟩
     have hC2 := (((C3.new w 38 (.bool false) (.slice none 0 0) (.slice none 0 0)).belowS hb1).belowS hb2).allocS (.cells #[.int .u32 1] 142)
     have hbw2 := zaa (zaa (zaa (zca w (.cells #[.bool false, .slice none 0 0, .slice none 0 0] 38)) hb1) hb2) (zca w2 (.cells #[.int .u32 1] 142))
     have HC2 := zH hC2
     obtain ⟨_, c0, c1, c2, f0, f1, f2⟩ := hC2)))
 have hF : zya (w2.alloc (.cells #[.int .u32 1] 142)) (.agg #[.bool false, .slice none 0 0, .slice (some ⟨w2.heap.size, 0, none⟩) 1 1]) 0 := by
  refine ⟨_, _, rfl, zgb.nil _, ?_⟩
  have h1 : zxb (w2.alloc (.cells #[.int .u32 1] 142)) (.slice (some ⟨w2.heap.size, 0, none⟩) 1 1) [1] := by
   refine ⟨⟨_, 1, 1, rfl, Nat.le_refl _, by simp [maxLen], fun e => by cases e⟩, rfl, fun j hj => ?_, fun x hx => by simp at hx; omega⟩
   have hj0 : j = 0 := by simp at hj; omega
   subst hj0
   simp [ptr, base, Addr.add]
  show zgb _ _ 1
  unfold zgb
  rw [zwh]
  exact ⟨h1, by unfold zea; rw [zwh]; decide⟩
 refine zab rfl rfl Tryz.aggF Tryz.sizeF (HC2.out.set _ _ _) rfl ?_
 exact ⟨_, rfl, hF.set3 HC2.out (fun z => by simp) (fun z => by simp) _ _ _, zha hbw2 (Nat.le_refl _) _ _ _⟩
set_option maxRecDepth 100000 in
set_option maxHeartbeats 1600000 in
theorem r2lowest_one (s : Bool) (va vb : Value) (n d : Nat) (w : World) (ha : zpb w va n) (hb : zpb w vb d) (hd : d ≠ 0) (hn0 : n ≠ 0) (hn5 : zea n ≤ 512) (hd5 : zea d ≤ 512) (hg : Nat.gcd n d = 1) :
 Calls Tryz.prog 71 #[.bool s, va, vb] w (RF1 w (fq s n d)) := by
 have HN5 := zH hn5
 have HD5 := zH hd5
 have HF : Hid (∀ (wx : World) (xa xb : Value), zgb wx xa n → zgb wx xb d → zya wx (.agg #[.bool s, xa, xb]) (fq s n d)) := zH (fun wx xa xb h1 h2 => by
  refine zog hd (by rw [hg, Nat.div_one]; exact h1) (by rw [hg, Nat.div_one]; exact h2) ?_
  rw [hg, Nat.div_one, decide_eq_true (Nat.pos_of_ne_zero hn0), Bool.and_true])
 have hnz : 0 < zea n := by have : zea n ≠ 0 := fun h => hn0 (zsa.1 h); omega
 have hnzb : (((zea n : Nat) : Int) == 0) = false := by simp; omega
 have hg1 : zea (Nat.gcd n d) = 1 := by rw [hg]; unfold zea; rw [zwh]; rfl
 have HGC : Hid (∀ (wx : World) (g : Value), zgb wx g (Nat.gcd n d) → wx.cell? (ptr g 0) = some (.int .u32 1)) := zH (fun wx g h => by
  rw [hg] at h
  have h1 := h.v
  rw [zwh] at h1
  exact h1.cell 0 (by simp))
 have HG1 := zH hg1
 clear hn5 hd5 hg hg1 hn0
 go_enter Tryz.func71, Tryz.ntmps71
 go_wp2_with (first
  |(go_at_call 106; first
   |((with_reducible refine (zxa va n _ (ha.below (zca _ _))).mono ?_); rintro e w1 ⟨x1, rfl, hx1, hb1⟩; have s1 := hx1.v.sl; have l1 : slen x1 = zea n := hx1.v.len)
   |((with_reducible refine (zxa vb d _ ((hb.below (zca _ _)).below hb1)).mono ?_); rintro e w2 ⟨x2, rfl, hx2, hb2⟩
     have hx12 := hx1.below hb2
     have hC2 := ((C3.new w 38 (.bool false) (.slice none 0 0) (.slice none 0 0)).belowS hb1).belowS hb2
     have hbw2 := zaa (zaa (zca w (.cells #[.bool false, .slice none 0 0, .slice none 0 0] 38)) hb1) hb2))
  |(go_at_call 149; (with_reducible refine (zwm x1 x2 n d _ hx12.nat hx2.nat HN5.out HD5.out).mono ?_); rintro e w3 ⟨g, rfl, hg, hb3⟩
    have sg := hg.v.sl
    have lg : slen g = 1 := hg.v.len.trans HG1.out
    have hgc := HGC.out _ _ hg
    have hx13 := hx12.below hb3
    have hx23 := hx2.below hb3
    have hC3 := hC2.belowS hb3
    have hbw3 := zaa hbw2 hb3
    clear hx1 hx2 hx12 hC2 s1 l1
    obtain ⟨a1, m1, k1, rfl, _⟩ := hx13.v.sl
    obtain ⟨a2, m2, k2, rfl, _⟩ := hx23.v.sl
    have HC3 := zH hC3
    obtain ⟨_, c0, c1, c2, f0, f1, f2⟩ := hC3))
 have hF := HF.out _ _ _ hx13 hx23
 refine zab rfl rfl Tryz.aggF Tryz.sizeF (HC3.out.set _ _ _) rfl ?_
 exact ⟨_, rfl, hF.set3 HC3.out (fun z => by simp) (fun z => by simp) _ _ _, zha hbw3 (Nat.le_refl _) _ _ _⟩
set_option maxRecDepth 100000 in
set_option maxHeartbeats 3200000 in
theorem zbn (s : Bool) (va vb : Value) (n d : Nat) (w : World) (ha : zpb w va n) (hb : zpb w vb d) (hd : d ≠ 0) (hn0 : n ≠ 0) (hn5 : zea n ≤ 512) (hd5 : zea d ≤ 512) (hg1 : 1 < Nat.gcd n d) :
 Calls Tryz.prog 71 #[.bool s, va, vb] w (RF1 w (fq s n d)) := by
 have HN5 := zH hn5
 have HD5 := zH hd5
 obtain ⟨G, hG⟩ : ∃ G, Nat.gcd n d = G := ⟨_, rfl⟩
 have hGn : G ∣ n := hG ▸ Nat.gcd_dvd_left n d
 have HF : Hid (∀ (wx : World) (xa xb : Value), zgb wx xa (n / G) → zgb wx xb (d / G) → zya wx (.agg #[.bool s, xa, xb]) (fq s n d)) := zH (fun wx xa xb h1 h2 => by
  refine zog hd (by rw [hG]; exact h1) (by rw [hG]; exact h2) ?_
  rw [hG, decide_eq_true (Nat.div_pos (Nat.le_of_dvd (Nat.pos_of_ne_zero hn0) hGn) (by omega)), Bool.and_true])
 have hnz : 0 < zea n := by have : zea n ≠ 0 := fun h => hn0 (zsa.1 h); omega
 have hnzb : (((zea n : Nat) : Int) == 0) = false := by simp; omega
 rw [hG] at hg1
 have HGE := zH hG
 have HG0 : Hid (G ≠ 0) := zH (by omega)
 have HG5 : Hid (zea G ≤ 512) := zH (Nat.le_trans (zib (Nat.le_of_dvd (Nat.pos_of_ne_zero hn0) hGn)) hn5)
 have HG1 := zH hg1
 obtain ⟨L, hL⟩ : ∃ L, zea G = L := ⟨_, rfl⟩
 have HLE := zH hL
 have hL1 : 1 ≤ L := by have : zea G ≠ 0 := fun h => HG0.out (zsa.1 h); omega
 have hL5 : L ≤ 512 := by have := HG5.out; omega
 clear hn5 hd5 hG hg1 hn0 hGn hL
 by_cases h1 : 1 < L
 ·skip
  go_enter Tryz.func71, Tryz.ntmps71
  go_wp2_with (first
   |(go_at_call 106; first
    |((with_reducible refine (zxa va n _ (ha.below (zca _ _))).mono ?_); rintro e w1 ⟨x1, rfl, hx1, hb1⟩; have s1 := hx1.v.sl; have l1 : slen x1 = zea n := hx1.v.len)
    |((with_reducible refine (zxa vb d _ ((hb.below (zca _ _)).below hb1)).mono ?_); rintro e w2 ⟨x2, rfl, hx2, hb2⟩
      have hx12 := hx1.below hb2
      have hC2 := ((C3.new w 38 (.bool false) (.slice none 0 0) (.slice none 0 0)).belowS hb1).belowS hb2
      have hbw2 := zaa (zaa (zca w (.cells #[.bool false, .slice none 0 0, .slice none 0 0] 38)) hb1) hb2))
   |(go_at_call 149; (with_reducible refine (zwm x1 x2 n d _ hx12.nat hx2.nat HN5.out HD5.out).mono ?_); rintro e w3 ⟨g, rfl, hg, hb3⟩; rw [HGE.out] at hg
     have sg := hg.v.sl
     have lg := (show slen g = zea G from hg.v.len).trans HLE.out
     skip
     have hx13 := hx12.below hb3
     have hx23 := hx2.below hb3
     have hC3 := hC2.belowS hb3
     have hbw3 := zaa hbw2 hb3
     clear hx1 hx2 hx12 hC2 s1 l1)
   |(go_at_call 150; first
     |((with_reducible refine (zkj x1 g n G _ hx13.nat hg.nat HG0.out HN5.out HG5.out).mono ?_); rintro e w4 ⟨q1, r1, rfl, hq1, _, hb4⟩
       have hg4 := hg.below hb4
       have hx24 := hx23.below hb4)
     |((with_reducible refine (zkj x2 g d G _ hx24.nat hg4.nat HG0.out HD5.out HG5.out).mono ?_); rintro e w5 ⟨q2, r2, rfl, hq2, _, hb5⟩
       have hq15 := hq1.below hb5
       have hC5 := (hC3.belowS hb4).belowS hb5
       have hbw5 := zaa (zaa hbw3 hb4) hb5
       clear hg hg4 hx13 hx23 hx24 hC3 hq1
       obtain ⟨a1, m1, k1, rfl, _⟩ := hq15.v.sl
       obtain ⟨a2, m2, k2, rfl, _⟩ := hq2.v.sl
       have HC5 := zH hC5
       obtain ⟨_, c0, c1, c2, f0, f1, f2⟩ := hC5)))
  have hF := HF.out _ _ _ hq15 hq2
  refine zab rfl rfl Tryz.aggF Tryz.sizeF (HC5.out.set _ _ _) rfl ?_
  exact ⟨_, rfl, hF.set3 HC5.out (fun z => by simp) (fun z => by simp) _ _ _, zha hbw5 (Nat.le_refl _) _ _ _⟩
 ·obtain rfl : L = 1 := by omega
  have hGb : G < 4294967296 := by have := zyb.1 (Nat.le_of_eq HLE.out); simpa [pw] using this
  have HGC : Hid (∀ (wx : World) (g : Value), zgb wx g G → wx.cell? (ptr g 0) = some (.int .u32 G)) := zH (fun wx g h => by
   have h1 := h.v
   have e : zka G = [G] := by rw [zud HG0.out, Nat.mod_eq_of_lt hGb, Nat.div_eq_of_lt hGb, zac]
   rw [e] at h1
   exact h1.cell 0 (by simp))
  have hG2 : 1 < G := HG1.out
  go_enter Tryz.func71, Tryz.ntmps71
  go_wp2_with (first
   |(go_at_call 106; first
    |((with_reducible refine (zxa va n _ (ha.below (zca _ _))).mono ?_); rintro e w1 ⟨x1, rfl, hx1, hb1⟩; have s1 := hx1.v.sl; have l1 : slen x1 = zea n := hx1.v.len)
    |((with_reducible refine (zxa vb d _ ((hb.below (zca _ _)).below hb1)).mono ?_); rintro e w2 ⟨x2, rfl, hx2, hb2⟩
      have hx12 := hx1.below hb2
      have hC2 := ((C3.new w 38 (.bool false) (.slice none 0 0) (.slice none 0 0)).belowS hb1).belowS hb2
      have hbw2 := zaa (zaa (zca w (.cells #[.bool false, .slice none 0 0, .slice none 0 0] 38)) hb1) hb2))
   |(go_at_call 149; (with_reducible refine (zwm x1 x2 n d _ hx12.nat hx2.nat HN5.out HD5.out).mono ?_); rintro e w3 ⟨g, rfl, hg, hb3⟩; rw [HGE.out] at hg
     have sg := hg.v.sl
     have lg := (show slen g = zea G from hg.v.len).trans HLE.out
     have hgc := HGC.out _ _ hg
     have hx13 := hx12.below hb3
     have hx23 := hx2.below hb3
     have hC3 := hC2.belowS hb3
     have hbw3 := zaa hbw2 hb3
     clear hx1 hx2 hx12 hC2 s1 l1)
   |(go_at_call 150; first
     |((with_reducible refine (zkj x1 g n G _ hx13.nat hg.nat HG0.out HN5.out HG5.out).mono ?_); rintro e w4 ⟨q1, r1, rfl, hq1, _, hb4⟩
       have hg4 := hg.below hb4
       have hx24 := hx23.below hb4)
     |((with_reducible refine (zkj x2 g d G _ hx24.nat hg4.nat HG0.out HD5.out HG5.out).mono ?_); rintro e w5 ⟨q2, r2, rfl, hq2, _, hb5⟩
       have hq15 := hq1.below hb5
       have hC5 := (hC3.belowS hb4).belowS hb5
       have hbw5 := zaa (zaa hbw3 hb4) hb5
       clear hg hg4 hx13 hx23 hx24 hC3 hq1
       obtain ⟨a1, m1, k1, rfl, _⟩ := hq15.v.sl
       obtain ⟨a2, m2, k2, rfl, _⟩ := hq2.v.sl
       have HC5 := zH hC5
       obtain ⟨_, c0, c1, c2, f0, f1, f2⟩ := hC5)))
  have hF := HF.out _ _ _ hq15 hq2
  refine zab rfl rfl Tryz.aggF Tryz.sizeF (HC5.out.set _ _ _) rfl ?_
  exact ⟨_, rfl, hF.set3 HC5.out (fun z => by simp) (fun z => by simp) _ _ _, zha hbw5 (Nat.le_refl _) _ _ _⟩
theorem zzi (s : Bool) (va vb : Value) (n d : Nat) (w : World) (ha : zpb w va n) (hb : zpb w vb d) (hd : d ≠ 0) (hn5 : zea n ≤ 512) (hd5 : zea d ≤ 512) :
 Calls Tryz.prog 71 #[.bool s, va, vb] w (RF1 w (fq s n d)) := by
 have h0 : Nat.gcd n d ≠ 0 := fun h => hd (Nat.gcd_eq_zero_iff.1 h).2
 rcases Nat.eq_zero_or_pos n with hn | hn
 ·subst hn; exact zan s va vb d w ha hb hd
 ·rcases Nat.lt_or_ge 1 (Nat.gcd n d) with h | h
  ·exact zbn s va vb n d w ha hb hd (by omega) hn5 hd5 h
  ·exact r2lowest_one s va vb n d w ha hb hd (by omega) hn5 hd5 (by omega)
theorem ret_u64 {a b : Int} (h : a = b) : Ending.returned (.int .u64 a) = Ending.returned (.int .u64 b) := by rw [h]
theorem size_any (z : Int) (w : World) (h1 : -9223372036854775808 ≤ z) (h2 : z < 9223372036854775808) :
 Calls Tryz.prog 73 #[.int .i64 z] w fun e w' => e = .returned (.int .u64 (z.natAbs : Nat)) ∧ w = w' := by
 rcases Int.lt_or_le z 0 with h | h
 ·obtain ⟨m, hm⟩ : ∃ m : Nat, z = -((m : Int) + 1) := ⟨(-(z + 1)).toNat, by omega⟩
  have e : z.natAbs = m + 1 := by omega
  have hmb : m ≤ 9223372036854775807 := by omega
  rw [e]
  subst hm
  clear e h h2
  go_enter Tryz.func73, Tryz.ntmps73
  go_wp2_with fail
  go_ret
  exact ⟨ret_u64 (by omega), rfl⟩
 ·obtain ⟨m, rfl⟩ : ∃ m : Nat, z = (m : Int) := ⟨z.natAbs, by omega⟩
  have e : (m : Int).natAbs = m := by omega
  rw [e]
  have hmb : m ≤ 9223372036854775807 := by omega
  clear e h h1 h2
  go_enter Tryz.func73, Tryz.ntmps73
  go_wp2_with fail
  go_ret
  exact ⟨ret_u64 (by omega), rfl⟩
set_option maxHeartbeats 800000 in
theorem r2make_any (a b : Int) (w : World) (ha1 : -9223372036854775808 ≤ a) (ha2 : a < 9223372036854775808) (hb1 : -9223372036854775808 ≤ b) (hb2 : b < 9223372036854775808) (hb : b ≠ 0) :
 Calls Tryz.prog 18 #[.int .i64 a, .int .i64 b] w (RF0 w (fq (!decide (a < 0) == decide (b < 0)) a.natAbs b.natAbs)) := by
 have HA := zH (And.intro ha1 ha2)
 have HB := zH (And.intro hb1 hb2)
 have hbn : b.natAbs ≠ 0 := by omega
 have HBN := zH hbn
 have h1 : ∀ z : Int, -9223372036854775808 ≤ z → z < 9223372036854775808 → zea z.natAbs ≤ 512 := fun z _ _ => zyb.2 (Nat.lt_of_lt_of_le (show z.natAbs < pw 2 by have : pw 2 = 18446744073709551616 := rfl; omega) (pw_le (by omega)))
 have H1 := zH (h1 a ha1 ha2)
 have H2 := zH (h1 b hb1 hb2)
 have HA6 : Hid (a.natAbs < 18446744073709551616) := zH (by omega)
 have HB6 : Hid (b.natAbs < 18446744073709551616) := zH (by omega)
 have h9 : (b == 0) = false := by simpa using hb
 clear ha1 ha2 hb1 hb2 hbn h1 hb
 go_enter Tryz.func18, Tryz.ntmps18
 go_wp2_with (first
  |(go_at_call 73; first
   |((with_reducible refine (size_any a _ HA.out.1 HA.out.2).mono ?_); rintro e w' ⟨rfl, rfl⟩)
   |((with_reducible refine (size_any b _ HB.out.1 HB.out.2).mono ?_); rintro e w' ⟨rfl, rfl⟩))
  |(go_at_call 72; first
   |((with_reducible refine (zhd a.natAbs HA6.out _).mono ?_); rintro e w1 ⟨x, rfl, hx, hx1⟩)
   |((with_reducible refine (zhd b.natAbs HB6.out _).mono ?_); rintro e w2 ⟨y, rfl, hy, hy1⟩; have hx2 := hx.below hy1))
  |(go_at_call 71; (with_reducible refine (zzi _ x y a.natAbs b.natAbs _ hx2.nat hy.nat HBN.out H1.out H2.out).mono ?_); rintro e w3 ⟨v, rfl, hv, hv1⟩
    obtain ⟨t, x1, y1, rfl, ⟨a1, l1, k1, rfl, _⟩, ⟨a2, l2, k2, rfl, _⟩⟩ := hv.isF
    have hC := (((C3.new w 38 (.bool false) (.slice none 0 0) (.slice none 0 0)).belowS hx1).belowS hy1).belowS hv1
    have HC := zH hC
    have hbz := zaa (zaa (zaa (zca w (.cells #[.bool false, .slice none 0 0, .slice none 0 0] 38)) hx1) hy1) hv1
    obtain ⟨_, d0, d1, d2, e0, e1, e2⟩ := hC))
 refine zoa rfl rfl Tryz.aggF Tryz.sizeF (HC.out.set _ _ _) rfl ?_
 exact ⟨_, rfl, hv.set3 HC.out (fun z => by simp) (fun z => by simp) _ _ _, zha hbz (Nat.le_refl _) _ _ _⟩
theorem RF0.eq {w0 : World} {q q' : Rat} {e : Ending} {w : World} (h : RF0 w0 q e w) (hq : q = q') : RF0 w0 q' e w := hq ▸ h
theorem zhg (a b : Nat) (w : World) (ha : a < 4294967296) (hb : b < 4294967296) (hb0 : b ≠ 0) :
 Calls Tryz.prog 18 #[.int .i64 a, .int .i64 b] w (RF0 w (fq false a b)) :=
 (r2make_any a b w (by omega) (by omega) (by omega) (by omega) (by omega)).mono fun _ _ h => h.eq (by
  rw [decide_eq_false (show ¬ ((a : Nat) : Int) < 0 by omega), decide_eq_false (show ¬ ((b : Nat) : Int) < 0 by omega)]; rfl)
theorem r2make_01 (w : World) : Calls Tryz.prog 18 #[.int .i64 0, .int .i64 1] w (RF0 w 0) :=
 (zhg 0 1 w (by decide) (by decide) (by decide)).mono fun _ _ h => h.eq (by decide)
theorem r2make_11 (w : World) : Calls Tryz.prog 18 #[.int .i64 1, .int .i64 1] w (RF0 w 1) :=
 (zhg 1 1 w (by decide) (by decide) (by decide)).mono fun _ _ h => h.eq (by decide)
theorem r2make_n1 (n : Nat) (w : World) (hn : n < 4294967296) : Calls Tryz.prog 18 #[.int .i64 n, .int .i64 1] w (RF0 w (fq false n 1)) :=
 zhg n 1 w hn (by decide) (by decide)
set_option maxHeartbeats 800000 in
theorem zdm (w : World) : Calls Tryz.prog 20 #[.int .i64 0] w (RF1 w 0) := by
 go_enter Tryz.func20, Tryz.ntmps20
 go_wp2_with (go_at_call 18; (with_reducible refine (r2make_01 _).mono ?_); rintro e w1 ⟨v, rfl, hv, hb1⟩
              obtain ⟨t9, x9, y9, rfl, ⟨a1, l91, k1, rfl, _⟩, ⟨a2, l92, k2, rfl, _⟩⟩ := hv.isF
              have hr := ((C3.new w 38 (.bool false) (.slice none 0 0) (.slice none 0 0)).belowS hb1).allocS (.cells #[.bool t9, .slice a1 l91 k1, .slice a2 l92 k2] 38)
              have hv2 := hv.below (zca w1 (.cells #[.bool t9, .slice a1 l91 k1, .slice a2 l92 k2] 38))
              have hb2 := zaa (zaa (zca w (.cells #[.bool false, .slice none 0 0, .slice none 0 0] 38)) hb1) (zca w1 (.cells #[.bool t9, .slice a1 l91 k1, .slice a2 l92 k2] 38))
              have HR := zH hr
              obtain ⟨_, d1, d2, d3, d4, d5, d6⟩ := hr)
 refine zab rfl rfl Tryz.aggF Tryz.sizeF (HR.out.set _ _ _) rfl ?_
 exact ⟨_, rfl, hv2.set3 HR.out (fun z => by simp) (fun z => by simp) _ _ _, zha hb2 (Nat.le_refl _) _ _ _⟩
set_option maxHeartbeats 800000 in
theorem r2int_one (w : World) : Calls Tryz.prog 20 #[.int .i64 1] w (RF1 w 1) := by
 go_enter Tryz.func20, Tryz.ntmps20
 go_wp2_with (go_at_call 18; (with_reducible refine (r2make_11 _).mono ?_); rintro e w1 ⟨v, rfl, hv, hb1⟩
              obtain ⟨t9, x9, y9, rfl, ⟨a1, l91, k1, rfl, _⟩, ⟨a2, l92, k2, rfl, _⟩⟩ := hv.isF
              have hr := ((C3.new w 38 (.bool false) (.slice none 0 0) (.slice none 0 0)).belowS hb1).allocS (.cells #[.bool t9, .slice a1 l91 k1, .slice a2 l92 k2] 38)
              have hv2 := hv.below (zca w1 (.cells #[.bool t9, .slice a1 l91 k1, .slice a2 l92 k2] 38))
              have hb2 := zaa (zaa (zca w (.cells #[.bool false, .slice none 0 0, .slice none 0 0] 38)) hb1) (zca w1 (.cells #[.bool t9, .slice a1 l91 k1, .slice a2 l92 k2] 38))
              have HR := zH hr
              obtain ⟨_, d1, d2, d3, d4, d5, d6⟩ := hr)
 refine zab rfl rfl Tryz.aggF Tryz.sizeF (HR.out.set _ _ _) rfl ?_
 exact ⟨_, rfl, hv2.set3 HR.out (fun z => by simp) (fun z => by simp) _ _ _, zha hb2 (Nat.le_refl _) _ _ _⟩
set_option maxHeartbeats 800000 in
theorem r2int_nat (n : Nat) (w : World) (hn : n < 4294967296) : Calls Tryz.prog 20 #[.int .i64 n] w (RF1 w (fq false n 1)) := by
 have HN := zH hn
 clear hn
 go_enter Tryz.func20, Tryz.ntmps20
 go_wp2_with (go_at_call 18; (with_reducible refine (r2make_n1 n _ HN.out).mono ?_); rintro e w1 ⟨v, rfl, hv, hb1⟩
              obtain ⟨t9, x9, y9, rfl, ⟨a1, l91, k1, rfl, _⟩, ⟨a2, l92, k2, rfl, _⟩⟩ := hv.isF
              have hr := ((C3.new w 38 (.bool false) (.slice none 0 0) (.slice none 0 0)).belowS hb1).allocS (.cells #[.bool t9, .slice a1 l91 k1, .slice a2 l92 k2] 38)
              have hv2 := hv.below (zca w1 (.cells #[.bool t9, .slice a1 l91 k1, .slice a2 l92 k2] 38))
              have hb2 := zaa (zaa (zca w (.cells #[.bool false, .slice none 0 0, .slice none 0 0] 38)) hb1) (zca w1 (.cells #[.bool t9, .slice a1 l91 k1, .slice a2 l92 k2] 38))
              have HR := zH hr
              obtain ⟨_, d1, d2, d3, d4, d5, d6⟩ := hr)
 refine zab rfl rfl Tryz.aggF Tryz.sizeF (HR.out.set _ _ _) rfl ?_
 exact ⟨_, rfl, hv2.set3 HR.out (fun z => by simp) (fun z => by simp) _ _ _, zha hb2 (Nat.le_refl _) _ _ _⟩
theorem keep6 {w : World} {a1 a2 a3 a4 a5 a6 : Addr} {x1 x2 x3 x4 x5 x6 : Value} (h : w.cell? a1 = some x1 ∧ w.cell? a2 = some x2 ∧ w.cell? a3 = some x3 ∧ w.cell? a4 = some x4 ∧ w.cell? a5 = some x5 ∧ w.cell? a6 = some x6) {p : Addr}
 (h1 : p.block ≠ a1.block) (h2 : p.block ≠ a2.block) (h3 : p.block ≠ a3.block) (h4 : p.block ≠ a4.block) (h5 : p.block ≠ a5.block) (h6 : p.block ≠ a6.block) (u : Value) :
 (w.setCell p u).cell? a1 = some x1 ∧ (w.setCell p u).cell? a2 = some x2 ∧ (w.setCell p u).cell? a3 = some x3 ∧ (w.setCell p u).cell? a4 = some x4 ∧ (w.setCell p u).cell? a5 = some x5 ∧ (w.setCell p u).cell? a6 = some x6 := by
 have key : ∀ a x, w.cell? a = some x → p.block ≠ a.block → (w.setCell p u).cell? a = some x := fun a x ha hp => by
  rw [World.cell?_setCell_other _ _ _ _ (fun e => hp (by rw [e]))]; exact ha
 obtain ⟨k1, k2, k3, k4, k5, k6⟩ := h
 exact ⟨key _ _ k1 h1, key _ _ k2 h2, key _ _ k3 h3, key _ _ k4 h4, key _ _ k5 h5, key _ _ k6 h6⟩
theorem zmn (p q : Rat) : cmpR p q = 0 ↔ p = q := by
 unfold cmpR
 constructor
 ·intro h
  split at h
  ·omega
  ·split at h
   ·omega
   ·next h1 h2 => exact Rat.le_antisymm (Rat.not_lt.1 h2) (Rat.not_lt.1 h1)
 ·rintro rfl
  rw [if_neg (Rat.lt_irrefl), if_neg (Rat.lt_irrefl)]
set_option maxHeartbeats 800000 in
theorem zjk (va vb : Value) (m n : Nat) (w : World) (ha : zpb w va m) (hb : zpb w vb n) (hm : zea m ≤ 128) (hn : zea n ≤ 128) :
 Calls Tryz.prog 74 #[va, vb] w (RNat w (m * n)) := by
 have HM := zH (show zea m ≤ 512 by omega)
 have HN := zH (show zea n ≤ 512 by omega)
 have HMN : Hid (zea (m * n) ≤ 512) := zH (by
  have h1 := zyb.1 hm
  have h2 := zyb.1 hn
  refine zyb.2 ?_
  have h3 : m * n ≤ pw 128 * pw 128 := Nat.mul_le_mul (by omega) (by omega)
  have h4 : pw 128 * pw 128 < pw 512 := by decide +kernel
  omega)
 clear hm hn
 go_enter Tryz.func74, Tryz.ntmps74
 go_wp2_with (go_at_call 151; (with_reducible refine (rmul_any _ _ m n _ ha hb HM.out HN.out).mono ?_); rintro e1 w1 ⟨r, er, rfl, hr, hb1⟩)
 go_ret
 exact ⟨r, rfl, (hr.1 HMN.out).2, hb1⟩
theorem keep6b {X Y : World} {a1 a2 a3 a4 a5 a6 : Addr} {x1 x2 x3 x4 x5 x6 : Value} (h : X.cell? a1 = some x1 ∧ X.cell? a2 = some x2 ∧ X.cell? a3 = some x3 ∧ X.cell? a4 = some x4 ∧ X.cell? a5 = some x5 ∧ X.cell? a6 = some x6) (hb : Below X.heap.size X Y) :
 Y.cell? a1 = some x1 ∧ Y.cell? a2 = some x2 ∧ Y.cell? a3 = some x3 ∧ Y.cell? a4 = some x4 ∧ Y.cell? a5 = some x5 ∧ Y.cell? a6 = some x6 := by
 obtain ⟨k1, k2, k3, k4, k5, k6⟩ := h
 exact ⟨zba hb k1, zba hb k2, zba hb k3, zba hb k4, zba hb k5, zba hb k6⟩
theorem zxf {d : Nat} : 0 < zea d ↔ d ≠ 0 := by
 constructor
 ·intro h e; subst e; have := zsa.2 (rfl : (0 : Nat) = 0); omega
 ·intro h; have : zea d ≠ 0 := fun e => h (zsa.1 e); omega
theorem okN_iff (n d : Nat) : okN n d ↔ 0 < zea d ∧ zea d ≤ 128 ∧ zea n ≤ 128 := by
 constructor
 ·intro h; exact ⟨zxf.2 h.1, zpc (k := 128) h.2.1, zpc (k := 128) h.2.2⟩
 ·intro h; exact ⟨zxf.1 h.1, zni (k := 128) h.2.1, zni (k := 128) h.2.2⟩
set_option maxHeartbeats 800000 in
theorem zik (v : Value) (s : Bool) (n d : Nat) (w : World) (h : zlb w v s n d) :
 Calls Tryz.prog 49 #[v] w fun e w' => e = .returned (.bool (decide (okN n d))) ∧ Below w.heap.size w w' := by
 obtain ⟨a, b, rfl, ha, hb⟩ := h
 obtain ⟨aa, al, ak, rfl, _⟩ := id ha.slen.1
 obtain ⟨ba, bl, bk, rfl, _⟩ := id hb.slen.1
 have hbx := zca w (.cells #[.bool s, .slice aa al ak, .slice ba bl bk] 38)
 have hC := C3.new w 38 (.bool s) (.slice aa al ak) (.slice ba bl bk)
 have HC := zH hC
 have HA := zH (ha.below hbx)
 have HB := zH (hb.below hbx)
 have HO := zH (okN_iff n d)
 obtain ⟨D, hD⟩ : ∃ D, zea d = D := ⟨_, rfl⟩
 obtain ⟨M, hM⟩ : ∃ M, zea n = M := ⟨_, rfl⟩
 have HD := zH hD
 have HM := zH hM
 obtain ⟨_, c0, c1, c2, _, _, _⟩ := id hC
 clear hC ha hb hD hM
 have HOB : Hid (decide (okN n d) = (decide (0 < D) && (decide (D ≤ 128) && decide (M ≤ 128)))) := zH (by
  rw [Bool.eq_iff_iff]
  simp only [Bool.and_eq_true, decide_eq_true_eq]
  rw [HO.out, HD.out, HM.out])
 by_cases g1 : 0 < D
 ·by_cases g2 : D ≤ 128
  ·skip
   go_enter Tryz.func49, Tryz.ntmps49
   go_wp2_with (first
    |(go_at_call 106; (with_reducible refine (zxa _ d _ HB.out).mono ?_); rintro e1 w1 ⟨r1, rfl, hr1, hb1⟩
      have s1 := hr1.v.sl
      have l1 : slen r1 = D := hr1.v.len.trans HD.out
      have hbb := zaa hbx hb1
      obtain ⟨_, c0, c1, c2, _, _, _⟩ := HC.out.belowS hb1)
    |(go_at_call 106; (with_reducible refine (zxa _ d _ (HB.out.below hb1)).mono ?_); rintro e2 w2 ⟨r2, rfl, hr2, hb2⟩
      have s2 := hr2.v.sl
      have l2 : slen r2 = D := hr2.v.len.trans HD.out
      have hb12 := zaa hb1 hb2
      have hbb := zaa hbx hb12
      obtain ⟨_, c0, c1, c2, _, _, _⟩ := HC.out.belowS hb12)
    |(go_at_call 106; (with_reducible refine (zxa _ n _ (HA.out.below hb12)).mono ?_); rintro e3 w3 ⟨r3, rfl, hr3, hb3⟩
      have s3 := hr3.v.sl
      have l3 : slen r3 = M := hr3.v.len.trans HM.out
      have hbb := zaa hbb hb3))
   go_ret
   refine ⟨?_, hbb⟩
   rw [HOB.out]
   simp [g1, g2]
   omega
  ·skip
   go_enter Tryz.func49, Tryz.ntmps49
   go_wp2_with (first
    |(go_at_call 106; (with_reducible refine (zxa _ d _ HB.out).mono ?_); rintro e1 w1 ⟨r1, rfl, hr1, hb1⟩
      have s1 := hr1.v.sl
      have l1 : slen r1 = D := hr1.v.len.trans HD.out
      have hbb := zaa hbx hb1
      obtain ⟨_, c0, c1, c2, _, _, _⟩ := HC.out.belowS hb1)
    |(go_at_call 106; (with_reducible refine (zxa _ d _ (HB.out.below hb1)).mono ?_); rintro e2 w2 ⟨r2, rfl, hr2, hb2⟩
      have s2 := hr2.v.sl
      have l2 : slen r2 = D := hr2.v.len.trans HD.out
      have hb12 := zaa hb1 hb2
      have hbb := zaa hbx hb12
      obtain ⟨_, c0, c1, c2, _, _, _⟩ := HC.out.belowS hb12)
    |(go_at_call 106; (with_reducible refine (zxa _ n _ (HA.out.below hb12)).mono ?_); rintro e3 w3 ⟨r3, rfl, hr3, hb3⟩
      have s3 := hr3.v.sl
      have l3 : slen r3 = M := hr3.v.len.trans HM.out
      have hbb := zaa hbb hb3))
   go_ret
   refine ⟨?_, hbb⟩
   rw [HOB.out]
   simp [g1, g2]
 ·skip
  go_enter Tryz.func49, Tryz.ntmps49
  go_wp2_with (first
   |(go_at_call 106; (with_reducible refine (zxa _ d _ HB.out).mono ?_); rintro e1 w1 ⟨r1, rfl, hr1, hb1⟩
     have s1 := hr1.v.sl
     have l1 : slen r1 = D := hr1.v.len.trans HD.out
     have hbb := zaa hbx hb1
     obtain ⟨_, c0, c1, c2, _, _, _⟩ := HC.out.belowS hb1)
   |(go_at_call 106; (with_reducible refine (zxa _ d _ (HB.out.below hb1)).mono ?_); rintro e2 w2 ⟨r2, rfl, hr2, hb2⟩
     have s2 := hr2.v.sl
     have l2 : slen r2 = D := hr2.v.len.trans HD.out
     have hb12 := zaa hb1 hb2
     have hbb := zaa hbx hb12
     obtain ⟨_, c0, c1, c2, _, _, _⟩ := HC.out.belowS hb12)
   |(go_at_call 106; (with_reducible refine (zxa _ n _ (HA.out.below hb12)).mono ?_); rintro e3 w3 ⟨r3, rfl, hr3, hb3⟩
     have s3 := hr3.v.sl
     have l3 : slen r3 = M := hr3.v.len.trans HM.out
     have hbb := zaa hbb hb3))
  go_ret
  refine ⟨?_, hbb⟩
  rw [HOB.out]
  simp [g1]
theorem r2valid_ok (v : Value) (s : Bool) (n d : Nat) (w : World) (h : zlb w v s n d) (hk : okN n d) :
 Calls Tryz.prog 49 #[v] w fun e w' => e = .returned (.bool true) ∧ Below w.heap.size w w' :=
 (zik v s n d w h).mono fun e w' ⟨h1, h2⟩ => ⟨by rw [h1, decide_eq_true hk], h2⟩
theorem r2valid_no (v : Value) (s : Bool) (n d : Nat) (w : World) (h : zlb w v s n d) (hk : ¬ okN n d) :
 Calls Tryz.prog 49 #[v] w fun e w' => e = .returned (.bool false) ∧ Below w.heap.size w w' :=
 (zik v s n d w h).mono fun e w' ⟨h1, h2⟩ => ⟨by rw [h1, decide_eq_false hk], h2⟩
set_option maxHeartbeats 1600000 in
theorem zvf (va : Value) (s : Bool) (n d : Nat) (w : World) (ha : zlb w va s n d) :
 Calls Tryz.prog 116 #[va] w (RRed w s n d) := by
 have hA := ha
 obtain ⟨xn, xd, rfl, hxn, hxd⟩ := ha
 obtain ⟨an, ln, kn, rfl, _⟩ := hxn.slen.1
 obtain ⟨ad, ld, kd, rfl, _⟩ := hxd.slen.1
 go_enter Tryz.func116, Tryz.ntmps116
 go_wp2_with fail
 obtain ⟨W, hW⟩ : ∃ W, W = ((w.alloc (.cells #[.bool s, .slice an ln kn, .slice ad ld kd] 38)).alloc (.cells #[.bool false, .slice none 0 0, .slice none 0 0] 38)) := ⟨_, rfl⟩
 obtain ⟨bx, bz, hbw⟩ := zte w 38 _ _ _ _ _ _ W hW
 rw [← hW]
 clear hW
 have HBX := zH bx
 have HBZ := zH bz
 obtain ⟨_, q1, q2, q3, q4, q5, q6⟩ := bx
 clear bz
 by_cases hk : okN n d
 ·have K := zH hk
  have NN := zH (Nat.le_trans (zpc (n := n) (k := 128) hk.2.2) (show 128 ≤ 512 by decide))
  have ND := zH (Nat.le_trans (zpc (n := d) (k := 128) hk.2.1) (show 128 ≤ 512 by decide))
  have D0 := zH hk.1
  clear hk
  go_wp2_with (first
   |(go_at_call 49; (with_reducible refine (r2valid_ok _ s n d _ (hA.below hbw) K.out).mono ?_); rintro e9 w1 ⟨rfl, hv1⟩
     obtain ⟨_, f1, f2, f3, f4, f5, f6⟩ := HBX.out.belowS hv1
     have hbw1 := zaa hbw hv1)
   |(go_at_call 71; (with_reducible refine (zzi s _ _ n d _ (hxn.below hbw1) (hxd.below hbw1) D0.out NN.out ND.out).mono ?_); rintro e9 w7 ⟨v, rfl, hv4, hv5⟩
     obtain ⟨t9, x9, y9, rfl, ⟨a1, l91, k1, rfl, _⟩, ⟨a2, l92, k2, rfl, _⟩⟩ := hv4.isF
     have hC := (HBZ.out.belowS hv1).belowS hv5
     have HC := zH hC
     have hbz := zaa hbw1 hv5
     obtain ⟨_, d0, d1, d2, e0, e1, e2⟩ := hC))
  refine zoa rfl rfl Tryz.aggF Tryz.sizeF (HC.out.set _ _ _) rfl ?_
  exact ⟨_, _, rfl, zha hbz (by omega) _ _ _, fun h => ⟨rfl, hv4.set3 HC.out (fun z => by simp) (fun z => by simp) _ _ _⟩, fun h => absurd K.out h⟩
 ·have K := zH hk
  clear hk
  go_wp2_with (first
   |(go_at_call 49; (with_reducible refine (r2valid_no _ s n d _ (hA.below hbw) K.out).mono ?_); rintro e9 w1 ⟨rfl, hv1⟩
     have hC := HBZ.out.belowS hv1
     have HC := zH hC
     have hbz := zaa hbw hv1
     obtain ⟨_, d0, d1, d2, e0, e1, e2⟩ := hC))
  refine zoa rfl rfl Tryz.aggF Tryz.sizeF (HC.out.set _ _ _) rfl ?_
  exact ⟨_, _, rfl, zha hbz (by omega) _ _ _, fun h => absurd h K.out, fun _ => ⟨rfl, rfl⟩⟩
theorem cmpN_swap (a b : Nat) : zsl b a = -zsl a b := by
 unfold zsl
 rcases Nat.lt_trichotomy a b with h | h | h
 ·rw [if_neg (by omega), if_pos h, if_pos h]; rfl
 ·subst h; rw [if_neg (by omega), if_neg (by omega)]; rfl
 ·rw [if_pos h, if_neg (by omega), if_pos h]
theorem nlen_prod {n e : Nat} (he : e ≠ 0) : (n = 0 → zea (n * e) = 0) ∧ (n ≠ 0 → 0 < zea (n * e)) :=
 ⟨fun h => zsa.2 (by rw [h, Nat.zero_mul]), fun h => zxf.2 (Nat.mul_ne_zero h he)⟩
set_option maxRecDepth 100000 in
set_option maxHeartbeats 1600000 in
theorem r2order_any (va vb : Value) (s t : Bool) (n d m e : Nat) (w : World) (ha : zlb w va s n d) (hb : zlb w vb t m e) (h1 : okN n d) (h2 : okN m e) :
 Calls Tryz.prog 100 #[va, vb] w fun en w' => en = .returned (.int .i64 (cmpR (fq s n d) (fq t m e))) ∧ Below w.heap.size w w' := by
 obtain ⟨xn, xd, rfl, hxn, hxd⟩ := ha
 obtain ⟨yn, yd, rfl, hyn, hyd⟩ := hb
 obtain ⟨an, ln, kn, rfl, _⟩ := hxn.slen.1
 obtain ⟨ad, ld, kd, rfl, _⟩ := hxd.slen.1
 obtain ⟨am, lm, km, rfl, _⟩ := hyn.slen.1
 obtain ⟨ae, le, ke, rfl, _⟩ := hyd.slen.1
 have l1 := zH (zpd h1)
 have l2 := zH (zpd h2)
 have z1 := nlen_prod (n := n) h2.1
 have z2 := nlen_prod (n := m) h1.1
 have HR := zH (cmpR_eq s t n d m e h1.1 h2.1)
 have HSW := zH (cmpN_swap (n * e) (m * d))
 clear h1 h2
 obtain ⟨L1, hL1⟩ : ∃ L, zea (n * e) = L := ⟨_, rfl⟩
 obtain ⟨L2, hL2⟩ : ∃ L, zea (m * d) = L := ⟨_, rfl⟩
 rw [hL1] at z1
 rw [hL2] at z2
 have HL1 := zH hL1
 have HL2 := zH hL2
 have hX : (s = false) ∨ (s = true ∧ n = 0 ∧ L1 = 0) ∨ (s = true ∧ n ≠ 0 ∧ 0 < L1) := by
  cases s
  ·exact Or.inl rfl
  ·by_cases h : n = 0
   ·exact Or.inr (Or.inl ⟨rfl, h, z1.1 h⟩)
   ·exact Or.inr (Or.inr ⟨rfl, h, z1.2 h⟩)
 have hY : (t = false) ∨ (t = true ∧ m = 0 ∧ L2 = 0) ∨ (t = true ∧ m ≠ 0 ∧ 0 < L2) := by
  cases t
  ·exact Or.inl rfl
  ·by_cases h : m = 0
   ·exact Or.inr (Or.inl ⟨rfl, h, z2.1 h⟩)
   ·exact Or.inr (Or.inr ⟨rfl, h, z2.2 h⟩)
 have HX0 := zH hX
 have HY0 := zH hY
 clear hL1 hL2 z1 z2 hX hY
 go_enter Tryz.func100, Tryz.ntmps100
 go_wp2_with fail
 obtain ⟨W, hW⟩ : ∃ W, W = ((w.alloc (.cells #[.bool s, .slice an ln kn, .slice ad ld kd] 38)).alloc (.cells #[.bool t, .slice am lm km, .slice ae le ke] 38)) := ⟨_, rfl⟩
 obtain ⟨bx, byy, hbw⟩ := zte w 38 _ _ _ _ _ _ W hW
 rw [← hW]
 clear hW
 have hd2 := zga (B := W.heap.size) W
 have hD := zaa hbw hd2
 have hbx3 := bx.belowS hd2
 have hby3 := byy.belowS hd2
 have HX3 := zH hbx3
 have HY3 := zH hby3
 obtain ⟨_, q1, q2, q3, q4, q5, q6⟩ := hbx3
 obtain ⟨_, r1, r2, r3, r4, r5, r6⟩ := hby3
 have g1 := hxn.below hD
 have g2 := hxd.below hD
 have g3 := hyn.below hD
 have g4 := hyd.below hD
 clear bx byy hd2
 have tok1 : True := trivial
 go_region_held3 (fun w' => w'.cell? ⟨w.heap.size, 1, none⟩ = some (.slice an ln kn) ∧ w'.cell? ⟨w.heap.size, 2, none⟩ = some (.slice ad ld kd) ∧ w'.cell? ⟨w.heap.size + 1, 1, none⟩ = some (.slice am lm km) ∧ w'.cell? ⟨w.heap.size + 1, 2, none⟩ = some (.slice ae le ke)) (exact ⟨q2, q3, r2, r3⟩) (first
  |(go_at_call 74; have _t := tok1; clear tok1 _t; (with_reducible refine (zjk _ _ n e _ g1 g4 l1.out.1 l2.out.2).mono ?_); rintro e9 w3 ⟨p1, rfl, hp1, hp2⟩
    have X4 := HX3.out.belowS hp2
    have Y4 := HY3.out.belowS hp2
    have HX4 := zH X4
    have HY4 := zH Y4
    obtain ⟨_, q1, q2, q3, q4, q5, q6⟩ := X4
    obtain ⟨_, r1, r2, r3, r4, r5, r6⟩ := Y4)
  |(go_at_call 74; (with_reducible refine (zjk _ _ m d _ (g3.below hp2) (g2.below hp2) l2.out.1 l1.out.2).mono ?_); rintro e9 w4 ⟨p3, rfl, hp3, hp4⟩
    have hp24 := zaa hp2 hp4
    have hp14 := hp1.below hp4
    have X5 := HX4.out.belowS hp4
    have Y5 := HY4.out.belowS hp4
    have HX5 := zH X5
    have HY5 := zH Y5
    obtain ⟨_, q1, q2, q3, q4, q5, q6⟩ := X5
    obtain ⟨_, r1, r2, r3, r4, r5, r6⟩ := Y5))
 have hdw : Below w.heap.size w w4 := hD.trans (hp24.mono hD.size)
 have HP1 := zH hp14
 have HP3 := zH hp3
 have sp1 := hp14.v.sl
 have lp1 : slen p1 = L1 := hp14.v.len.trans HL1.out
 have sp3 := hp3.v.sl
 have lp3 : slen p3 = L2 := hp3.v.len.trans HL2.out
 have k1 := HX5.out.c0
 have k2 := HY5.out.c0
 clear hp24 hp14 hp1 hp3 hp2 hp4 hD g1 g2 g3 g4 HX3 HY3 HX4 HY4 q1 q2 q3 q4 q5 q6 r1 r2 r3 r4 r5 r6 hbw
 rcases HX0.out with rfl | ⟨rfl, hn0, hl0⟩ | ⟨rfl, hn0, hl0⟩ <;> rcases HY0.out with rfl | ⟨rfl, hm0, hk0⟩ | ⟨rfl, hm0, hk0⟩ <;> (
  try subst hl0
  try subst hk0
  clear HX0 HY0
  go_wp2_with (go_at_call 77; first
   |((with_reducible refine (zgg p1 p3 (n * e) (m * d) _ HP1.out.nat HP3.out.nat).mono ?_); rintro e9 w9 ⟨rfl, hb9⟩; have hdw := zaa hdw hb9)
   |((with_reducible refine (zgg p3 p1 (m * d) (n * e) _ HP3.out.nat HP1.out.nat).mono ?_); rintro e9 w9 ⟨rfl, hb9⟩; rw [HSW.out]; have hdw := zaa hdw hb9))
  all_goals
   go_ret
   exact ⟨by rw [HR.out]; simp [*], hdw⟩)
set_option maxHeartbeats 800000 in
theorem r2sign_any (va : Value) (s : Bool) (n d : Nat) (w : World) (ha : zlb w va s n d) (h1 : okN n d) :
 Calls Tryz.prog 34 #[va] w fun en w' => en = .returned (.int .i64 (cmpR (fq s n d) 0)) ∧ Below w.heap.size w w' := by
 have hA := ha
 obtain ⟨xn, xd, rfl, hxn, hxd⟩ := ha
 obtain ⟨an, ln, kn, rfl, _⟩ := hxn.slen.1
 obtain ⟨ad, ld, kd, rfl, _⟩ := hxd.slen.1
 have K1 := zH h1
 have K0 : Hid (okN (0 : Rat).num.natAbs (0 : Rat).den) := zH (by decide +kernel)
 have HE : Hid (cmpR (fq s n d) (fq false 0 1) = cmpR (fq s n d) 0) := zH (by rw [show fq false 0 1 = 0 from fq_zero false 1 (by decide)])
 clear h1
 go_enter Tryz.func34, Tryz.ntmps34
 go_wp2_with fail
 have bx := C3.new w 38 (.bool s) (.slice an ln kn) (.slice ad ld kd)
 have hbx := zca w (.cells #[.bool s, .slice an ln kn, .slice ad ld kd] 38)
 generalize hW : w.alloc (.cells #[.bool s, .slice an ln kn, .slice ad ld kd] 38) = W at *
 clear hW
 have hd2 := zga (B := W.heap.size) W
 have hD := zaa hbx hd2
 have hbx3 := bx.belowS hd2
 have HX3 := zH hbx3
 obtain ⟨_, q1, q2, q3, q4, q5, q6⟩ := hbx3
 clear bx hd2
 go_region_held3 (fun w' => w'.cell? ⟨w.heap.size, 0, none⟩ = some (.bool s) ∧ w'.cell? ⟨w.heap.size, 1, none⟩ = some (.slice an ln kn) ∧ w'.cell? ⟨w.heap.size, 2, none⟩ = some (.slice ad ld kd)) (exact ⟨q1, q2, q3⟩) (first
  |(go_at_call 20; (with_reducible refine (zdm _).mono ?_); rintro e9 w3 ⟨v3, rfl, hv3, hb3⟩
    obtain ⟨_, q1, q2, q3, q4, q5, q6⟩ := HX3.out.belowS hb3)
  |(go_at_call 100; (with_reducible refine (r2order_any _ _ s _ n d _ _ _ ((hA.below hD).below hb3) hv3.raw K1.out K0.out).mono ?_); rintro e9 w4 ⟨rfl, hb4⟩
    obtain ⟨_, q1, q2, q3, q4, q5, q6⟩ := HX3.out.belowS (zaa hb3 hb4)))
 go_wp2
 go_ret
 exact ⟨by rw [← HE.out]; rfl, zaa (zaa hD hb3) hb4⟩
theorem zum (va : Value) {w : World} {q : Rat} (ha : zya w va q) (hf : fits q) : Calls Tryz.prog 34 #[va] w fun en w' => en = .returned (.int .i64 (cmpR q 0)) ∧ Below w.heap.size w w' := by
 have h := r2sign_any va _ _ _ w ha.raw ⟨q.den_nz, hf.2, hf.1⟩
 rw [zdc] at h
 exact h
theorem zza.cellsAt {w : World} {v : Value} {l : List Rat} (h : zza w v l) {k : Nat} (hk : k < l.length) :
 ∃ t a1 l1 k1 a2 l2 k2, w.cell? (ptr v (k * 3)) = some (.bool t) ∧ w.cell? (ptr v (k * 3 + 1)) = some (.slice a1 l1 k1) ∧ w.cell? (ptr v (k * 3 + 2)) = some (.slice a2 l2 k2) ∧ zya w (.agg #[.bool t, .slice a1 l1 k1, .slice a2 l2 k2]) (l.getD k 0) := by
 obtain ⟨za, zb, p1, p2, p3, p4, p5⟩ := h.at' k hk
 obtain ⟨za1, za2, za3, rfl, _⟩ := p4.v.sl
 obtain ⟨zb1, zb2, zb3, rfl, _⟩ := p5.v.sl
 refine ⟨_, _, _, _, _, _, _, p1, p2, p3, ?_⟩
 rw [List.getD_eq_getElem?_getD, List.getElem?_eq_getElem hk]
 exact ⟨_, _, rfl, p4, p5⟩
end Go.Proofs.YtlpdkbmmbdfoiaaGreat
