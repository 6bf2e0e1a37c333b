/-
  package drydockref02: fits, Reduce, Add of any fractions.
-/
import Derived.Test.YtlpdkbmmbdfoiaaKRa7
import Derived.Test.YtlpdkbmmbdfoiaaKGn
import Derived.Test.YtlpdkbmmbdfoiaaKRa1
set_option linter.unusedVariables false
set_option linter.unusedSimpArgs false
namespace Go.Proofs.Ytlpdkbmmbdfoiaa
open Go.RowKit
set_option maxHeartbeats 800000 in
theorem zki (va vb : Value) (m n : Nat) (w : World) (ha : zya w va m) (hb : zya w vb n) (h : n ≠ 0) (hm : zaa m ≤ 512) (hn : zaa n ≤ 512) :
 Calls Try.prog 69 #[va, vb] w (RDiv2 w m n) := by
 have HM := zH hm
 have HN := zH hn
 have H0 := zH h
 have hnz : zaa n ≠ 0 := fun h' => h (zha.1 h')
 have hnz2 : (((zaa n : Nat) : Int) == 0) = false := by simpa using hnz
 clear hm hn hnz h
 have tok1 : True := trivial
 go_enter Try.func69, Try.ntmps69
 go_wp2_with (first
  |(go_at_call 103; first
    |((with_reducible refine (zae va m _ ha HM.out).mono ?_); rintro e wa ⟨rfl, hba⟩)
    |((with_reducible refine (zae vb n _ (hb.below hba) HN.out).mono ?_); rintro e wb ⟨rfl, hbb⟩; have hbw := below_then hba hbb))
  |(go_at_call 66; have _t := tok1; (with_reducible refine (zia vb n _ (hb.below hbw)).mono ?_); rintro e wc ⟨r0, rfl, hr0, hb0⟩; clear tok1 _t; have sl0 := hr0.v.sl; have ln0 : slen r0 = zaa n := hr0.v.len; have hbw0 := below_then hbw hb0)
  |(go_at_call 66; first
     |((with_reducible refine (zia va m _ (ha.below hbw0)).mono ?_); rintro e w1 ⟨ra, rfl, hra, hb1⟩; have hbw1 := below_then hbw0 hb1)
     |((with_reducible refine (zia vb n _ (hb.below hbw1)).mono ?_); rintro e w2 ⟨rb, rfl, hrb, hb2⟩; have hbw2 := below_then hbw1 hb2; have hra2 := hra.below hb2))
  |(go_at_call 104; (with_reducible refine (zgj ra rb m n _ hra2 hrb H0.out HM.out).mono ?_); rintro e w3 ⟨q, r, rfl, hq, hr, hb3⟩; have hbw3 := below_then hbw2 hb3))
 go_ret3
 exact ⟨q, r, rfl, hq, hr, hbw3⟩
set_option maxHeartbeats 800000 in
theorem ztl (va vb : Value) (m n : Nat) (w : World) (ha : zya w va m) (hb : zya w vb n) (hm : zaa m ≤ 512) (hn : zaa n ≤ 512) :
 Calls Try.prog 68 #[va, vb] w (RNat0 w (Nat.gcd m n)) := by
 have HM := zH hm
 have HN := zH hn
 clear hm hn
 go_enter Try.func68, Try.ntmps68
 go_wp2_with (first
  |(go_at_call 103; first
    |((with_reducible refine (zae va m _ ha HM.out).mono ?_); rintro e wa ⟨rfl, hba⟩)
    |((with_reducible refine (zae vb n _ (hb.below hba) HN.out).mono ?_); rintro e wb ⟨rfl, hbb⟩; have hbw0 := below_then hba hbb))
  |(go_at_call 66; first
     |((with_reducible refine (zia va m _ (ha.below hbw0)).mono ?_); rintro e w1 ⟨ra, rfl, hra, hb1⟩; have hbw1 := below_then hbw0 hb1)
     |((with_reducible refine (zia vb n _ (hb.below hbw1)).mono ?_); rintro e w2 ⟨rb, rfl, hrb, hb2⟩; have hbw := below_then hbw1 hb2; have hra2 := hra.below hb2)))
 go_loopw [6, 7] (fun u0 u1 wr => ∃ (x y : Nat), NatC wr u0 x ∧ NatC wr u1 y ∧ zaa x ≤ 512 ∧ zaa y ≤ 512 ∧ Nat.gcd x y = Nat.gcd m n ∧ Below w.heap.size w wr) (fun _ u1 wr => natOf wr u1)
 case atStart => exact ⟨m, n, hra2, hrb, HM.out, HN.out, rfl, hbw⟩
 case round =>
  obtain ⟨x, y, hx, hy, hx5, hy5, hg, hbr⟩ := hrel
  clear ha hb hra hrb hra2 hb1 hb2 hbw hbw0 hbw1 hba hbb
  obtain ⟨sx, lx⟩ : IsSl u6 ∧ slen u6 = zaa x := ⟨hx.v.sl, hx.v.len⟩
  obtain ⟨sy, ly⟩ : IsSl u7 ∧ slen u7 = zaa y := ⟨hy.v.sl, hy.v.len⟩
  have HX := zH hx5
  have HY := zH hy5
  have HG := zH hg
  have hxb : zaa x ≤ 4294967296 := by omega
  have hyb : zaa y ≤ 4294967296 := by omega
  clear hx5 hy5 hg
  by_cases hy0 : y = 0
  ·have hyz : zaa y = 0 := zha.2 hy0
   have hfin : x = Nat.gcd m n := by rw [← HG.out, hy0, Nat.gcd_zero_right]
   have HF := zH hfin
   clear hfin hy0
   go_wp2
   go_ret2
   exact ⟨_, rfl, HF.out ▸ hx, hbr⟩
  ·have hyz : 0 < zaa y := by have : zaa y ≠ 0 := fun h' => hy0 (zha.1 h'); omega
   have HY0 := zH hy0
   clear hy0
   go_wp2_with (go_at_call 104; (with_reducible refine (zgj _ _ x y _ hx hy HY0.out HX.out).mono ?_); rintro e w3 ⟨q, r, rfl, hq, hr, hbl⟩)
   have hy3 := hy.below hbl
   have hbr3 := hbr.trans (hbl.mono hbr.size)
   go_wp2
   go_roundw
   case rel => exact ⟨y, x % y, hy3, hr, HY.out, Nat.le_trans (zwa (Nat.le_of_lt (Nat.mod_lt _ (Nat.pos_of_ne_zero HY0.out)))) HY.out, by rw [← HG.out, Nat.gcd_comm y, ← Nat.gcd_rec, Nat.gcd_comm], hbr3⟩
   case measure => rw [zli hr, zli hy]; exact Nat.mod_lt _ (Nat.pos_of_ne_zero HY0.out)
theorem zzg : limbs 1 = [1] := by rw [zzc (by decide)]; simp [zlb]
theorem fq_zero (s : Bool) (d : Nat) (hd : d ≠ 0) : fq s 0 d = 0 := by
 unfold fq; rw [sgn_zero]; simp
set_option maxRecDepth 100000 in
set_option maxHeartbeats 1600000 in
theorem zxl (s : Bool) (va vb : Value) (d : Nat) (w : World) (ha : zya w va 0) (hb : zya w vb d) (hd : d ≠ 0) :
 Calls Try.prog 32 #[.bool s, va, vb] w (RF1 w (fq s 0 d)) := by
 rw [fq_zero s d hd]
 obtain ⟨n, hn⟩ : ∃ n, n = 0 := ⟨0, rfl⟩
 rw [← hn] at ha
 have hz : zaa n = 0 := zha.2 hn
 have HN := zH hn
 clear hn
 go_enter Try.func32, Try.ntmps32
 go_wp2_with (first
  |(go_at_call 66; first
   |((with_reducible refine (zia va n _ (ha.below (below_alloc _ _))).mono ?_); rintro e w1 ⟨x1, rfl, hx1, hb1⟩; have s1 := hx1.v.sl; have l1 : slen x1 = zaa n := hx1.v.len)
   |((with_reducible refine (zia vb d _ ((hb.below (below_alloc _ _)).below hb1)).mono ?_); rintro e w2 ⟨x2, rfl, hx2, hb2⟩
     have hC2 := (((C3.new w 32 (.bool false) (.slice none 0 0) (.slice none 0 0)).belowS hb1).belowS hb2).allocS (.cells #[.int .u32 1] 94)
     have hbw2 := below_then (below_then (below_then (below_alloc w (.cells #[.bool false, .slice none 0 0, .slice none 0 0] 32)) hb1) hb2) (below_alloc w2 (.cells #[.int .u32 1] 94))
     have HC2 := zH hC2
     obtain ⟨_, c0, c1, c2, f0, f1, f2⟩ := hC2)))
 have hF : FracC (w2.alloc (.cells #[.int .u32 1] 94)) (.agg #[.bool false, .slice none 0 0, .slice (some ⟨w2.heap.size, 0, none⟩) 1 1]) 0 := by
  refine ⟨_, _, rfl, NatC.nil _, ?_⟩
  have h1 : NatV (w2.alloc (.cells #[.int .u32 1] 94)) (.slice (some ⟨w2.heap.size, 0, none⟩) 1 1) [1] := by
   refine ⟨⟨_, 1, 1, rfl, Nat.le_refl _, by simp [maxLen], fun e => by cases e⟩, rfl, fun j hj => ?_, fun x hx => by simp at hx; omega⟩
   have hj0 : j = 0 := by simp at hj; omega
   subst hj0
   simp [ptr, base, Addr.add]
  show NatC _ _ 1
  unfold NatC
  rw [zzg]
  exact ⟨h1, by unfold zaa; rw [zzg]; decide⟩
 refine bodyPost_c1 rfl rfl Try.aggF Try.sizeF (HC2.out.set _ _ _) rfl ?_
 exact ⟨_, rfl, hF.set3 HC2.out (fun z => by simp) (fun z => by simp) _ _ _, below_set3 hbw2 (Nat.le_refl _) _ _ _⟩
set_option maxRecDepth 100000 in
set_option maxHeartbeats 1600000 in
theorem r2lowest_one (s : Bool) (va vb : Value) (n d : Nat) (w : World) (ha : zya w va n) (hb : zya w vb d) (hd : d ≠ 0) (hn0 : n ≠ 0) (hn5 : zaa n ≤ 512) (hd5 : zaa d ≤ 512) (hg : Nat.gcd n d = 1) :
 Calls Try.prog 32 #[.bool s, va, vb] w (RF1 w (fq s n d)) := by
 have HN5 := zH hn5
 have HD5 := zH hd5
 have HF : Hid (∀ (wx : World) (xa xb : Value), NatC wx xa n → NatC wx xb d → FracC wx (.agg #[.bool s, xa, xb]) (fq s n d)) := zH (fun wx xa xb h1 h2 => by
  refine zof hd (by rw [hg, Nat.div_one]; exact h1) (by rw [hg, Nat.div_one]; exact h2) ?_
  rw [hg, Nat.div_one, decide_eq_true (Nat.pos_of_ne_zero hn0), Bool.and_true])
 have hnz : 0 < zaa n := by have : zaa n ≠ 0 := fun h => hn0 (zha.1 h); omega
 have hnzb : (((zaa n : Nat) : Int) == 0) = false := by simp; omega
 have hg1 : zaa (Nat.gcd n d) = 1 := by rw [hg]; unfold zaa; rw [zzg]; rfl
 have HGC : Hid (∀ (wx : World) (g : Value), NatC wx g (Nat.gcd n d) → wx.cell? (ptr g 0) = some (.int .u32 1)) := zH (fun wx g h => by
  rw [hg] at h
  have h1 := h.v
  rw [zzg] at h1
  exact h1.cell 0 (by simp))
 have HG1 := zH hg1
 clear hn5 hd5 hg hg1 hn0
 go_enter Try.func32, Try.ntmps32
 go_wp2_with (first
  |(go_at_call 66; first
   |((with_reducible refine (zia va n _ (ha.below (below_alloc _ _))).mono ?_); rintro e w1 ⟨x1, rfl, hx1, hb1⟩; have s1 := hx1.v.sl; have l1 : slen x1 = zaa n := hx1.v.len)
   |((with_reducible refine (zia vb d _ ((hb.below (below_alloc _ _)).below hb1)).mono ?_); rintro e w2 ⟨x2, rfl, hx2, hb2⟩
     have hx12 := hx1.below hb2
     have hC2 := ((C3.new w 32 (.bool false) (.slice none 0 0) (.slice none 0 0)).belowS hb1).belowS hb2
     have hbw2 := below_then (below_then (below_alloc w (.cells #[.bool false, .slice none 0 0, .slice none 0 0] 32)) hb1) hb2))
  |(go_at_call 68; (with_reducible refine (ztl x1 x2 n d _ hx12.nat hx2.nat HN5.out HD5.out).mono ?_); rintro e w3 ⟨g, rfl, hg, hb3⟩
    have sg := hg.v.sl
    have lg : slen g = 1 := hg.v.len.trans HG1.out
    have hgc := HGC.out _ _ hg
    have hx13 := hx12.below hb3
    have hx23 := hx2.below hb3
    have hC3 := hC2.belowS hb3
    have hbw3 := below_then hbw2 hb3
    clear hx1 hx2 hx12 hC2 s1 l1
    obtain ⟨a1, m1, k1, rfl, _⟩ := hx13.v.sl
    obtain ⟨a2, m2, k2, rfl, _⟩ := hx23.v.sl
    have HC3 := zH hC3
    obtain ⟨_, c0, c1, c2, f0, f1, f2⟩ := hC3))
 have hF := HF.out _ _ _ hx13 hx23
 refine bodyPost_c1 rfl rfl Try.aggF Try.sizeF (HC3.out.set _ _ _) rfl ?_
 exact ⟨_, rfl, hF.set3 HC3.out (fun z => by simp) (fun z => by simp) _ _ _, below_set3 hbw3 (Nat.le_refl _) _ _ _⟩
set_option maxRecDepth 100000 in
set_option maxHeartbeats 3200000 in
theorem zyl (s : Bool) (va vb : Value) (n d : Nat) (w : World) (ha : zya w va n) (hb : zya w vb d) (hd : d ≠ 0) (hn0 : n ≠ 0) (hn5 : zaa n ≤ 512) (hd5 : zaa d ≤ 512) (hg1 : 1 < Nat.gcd n d) :
 Calls Try.prog 32 #[.bool s, va, vb] w (RF1 w (fq s n d)) := by
 have HN5 := zH hn5
 have HD5 := zH hd5
 obtain ⟨G, hG⟩ : ∃ G, Nat.gcd n d = G := ⟨_, rfl⟩
 have hGn : G ∣ n := hG ▸ Nat.gcd_dvd_left n d
 have HF : Hid (∀ (wx : World) (xa xb : Value), NatC wx xa (n / G) → NatC wx xb (d / G) → FracC wx (.agg #[.bool s, xa, xb]) (fq s n d)) := zH (fun wx xa xb h1 h2 => by
  refine zof hd (by rw [hG]; exact h1) (by rw [hG]; exact h2) ?_
  rw [hG, decide_eq_true (Nat.div_pos (Nat.le_of_dvd (Nat.pos_of_ne_zero hn0) hGn) (by omega)), Bool.and_true])
 have hnz : 0 < zaa n := by have : zaa n ≠ 0 := fun h => hn0 (zha.1 h); omega
 have hnzb : (((zaa n : Nat) : Int) == 0) = false := by simp; omega
 rw [hG] at hg1
 have HGE := zH hG
 have HG0 : Hid (G ≠ 0) := zH (by omega)
 have HG5 : Hid (zaa G ≤ 512) := zH (Nat.le_trans (zwa (Nat.le_of_dvd (Nat.pos_of_ne_zero hn0) hGn)) hn5)
 have HG1 := zH hg1
 obtain ⟨L, hL⟩ : ∃ L, zaa G = L := ⟨_, rfl⟩
 have HLE := zH hL
 have hL1 : 1 ≤ L := by have : zaa G ≠ 0 := fun h => HG0.out (zha.1 h); omega
 have hL5 : L ≤ 512 := by have := HG5.out; omega
 clear hn5 hd5 hG hg1 hn0 hGn hL
 by_cases h1 : 1 < L
 ·skip
  go_enter Try.func32, Try.ntmps32
  go_wp2_with (first
   |(go_at_call 66; first
    |((with_reducible refine (zia va n _ (ha.below (below_alloc _ _))).mono ?_); rintro e w1 ⟨x1, rfl, hx1, hb1⟩; have s1 := hx1.v.sl; have l1 : slen x1 = zaa n := hx1.v.len)
    |((with_reducible refine (zia vb d _ ((hb.below (below_alloc _ _)).below hb1)).mono ?_); rintro e w2 ⟨x2, rfl, hx2, hb2⟩
      have hx12 := hx1.below hb2
      have hC2 := ((C3.new w 32 (.bool false) (.slice none 0 0) (.slice none 0 0)).belowS hb1).belowS hb2
      have hbw2 := below_then (below_then (below_alloc w (.cells #[.bool false, .slice none 0 0, .slice none 0 0] 32)) hb1) hb2))
   |(go_at_call 68; (with_reducible refine (ztl x1 x2 n d _ hx12.nat hx2.nat HN5.out HD5.out).mono ?_); rintro e w3 ⟨g, rfl, hg, hb3⟩; rw [HGE.out] at hg
     have sg := hg.v.sl
     have lg := (show slen g = zaa G from hg.v.len).trans HLE.out
     skip
     have hx13 := hx12.below hb3
     have hx23 := hx2.below hb3
     have hC3 := hC2.belowS hb3
     have hbw3 := below_then hbw2 hb3
     clear hx1 hx2 hx12 hC2 s1 l1)
   |(go_at_call 69; first
     |((with_reducible refine (zki x1 g n G _ hx13.nat hg.nat HG0.out HN5.out HG5.out).mono ?_); rintro e w4 ⟨q1, r1, rfl, hq1, _, hb4⟩
       have hg4 := hg.below hb4
       have hx24 := hx23.below hb4)
     |((with_reducible refine (zki x2 g d G _ hx24.nat hg4.nat HG0.out HD5.out HG5.out).mono ?_); rintro e w5 ⟨q2, r2, rfl, hq2, _, hb5⟩
       have hq15 := hq1.below hb5
       have hC5 := (hC3.belowS hb4).belowS hb5
       have hbw5 := below_then (below_then hbw3 hb4) hb5
       clear hg hg4 hx13 hx23 hx24 hC3 hq1
       obtain ⟨a1, m1, k1, rfl, _⟩ := hq15.v.sl
       obtain ⟨a2, m2, k2, rfl, _⟩ := hq2.v.sl
       have HC5 := zH hC5
       obtain ⟨_, c0, c1, c2, f0, f1, f2⟩ := hC5)))
  have hF := HF.out _ _ _ hq15 hq2
  refine bodyPost_c1 rfl rfl Try.aggF Try.sizeF (HC5.out.set _ _ _) rfl ?_
  exact ⟨_, rfl, hF.set3 HC5.out (fun z => by simp) (fun z => by simp) _ _ _, below_set3 hbw5 (Nat.le_refl _) _ _ _⟩
 ·obtain rfl : L = 1 := by omega
  have hGb : G < 4294967296 := by have := zcb.1 (Nat.le_of_eq HLE.out); simpa [pw] using this
  have HGC : Hid (∀ (wx : World) (g : Value), NatC wx g G → wx.cell? (ptr g 0) = some (.int .u32 G)) := zH (fun wx g h => by
   have h1 := h.v
   have e : limbs G = [G] := by rw [zzc HG0.out, Nat.mod_eq_of_lt hGb, Nat.div_eq_of_lt hGb, zlb]
   rw [e] at h1
   exact h1.cell 0 (by simp))
  have hG2 : 1 < G := HG1.out
  go_enter Try.func32, Try.ntmps32
  go_wp2_with (first
   |(go_at_call 66; first
    |((with_reducible refine (zia va n _ (ha.below (below_alloc _ _))).mono ?_); rintro e w1 ⟨x1, rfl, hx1, hb1⟩; have s1 := hx1.v.sl; have l1 : slen x1 = zaa n := hx1.v.len)
    |((with_reducible refine (zia vb d _ ((hb.below (below_alloc _ _)).below hb1)).mono ?_); rintro e w2 ⟨x2, rfl, hx2, hb2⟩
      have hx12 := hx1.below hb2
      have hC2 := ((C3.new w 32 (.bool false) (.slice none 0 0) (.slice none 0 0)).belowS hb1).belowS hb2
      have hbw2 := below_then (below_then (below_alloc w (.cells #[.bool false, .slice none 0 0, .slice none 0 0] 32)) hb1) hb2))
   |(go_at_call 68; (with_reducible refine (ztl x1 x2 n d _ hx12.nat hx2.nat HN5.out HD5.out).mono ?_); rintro e w3 ⟨g, rfl, hg, hb3⟩; rw [HGE.out] at hg
     have sg := hg.v.sl
     have lg := (show slen g = zaa G from hg.v.len).trans HLE.out
     have hgc := HGC.out _ _ hg
     have hx13 := hx12.below hb3
     have hx23 := hx2.below hb3
     have hC3 := hC2.belowS hb3
     have hbw3 := below_then hbw2 hb3
     clear hx1 hx2 hx12 hC2 s1 l1)
   |(go_at_call 69; first
     |((with_reducible refine (zki x1 g n G _ hx13.nat hg.nat HG0.out HN5.out HG5.out).mono ?_); rintro e w4 ⟨q1, r1, rfl, hq1, _, hb4⟩
       have hg4 := hg.below hb4
       have hx24 := hx23.below hb4)
     |((with_reducible refine (zki x2 g d G _ hx24.nat hg4.nat HG0.out HD5.out HG5.out).mono ?_); rintro e w5 ⟨q2, r2, rfl, hq2, _, hb5⟩
       have hq15 := hq1.below hb5
       have hC5 := (hC3.belowS hb4).belowS hb5
       have hbw5 := below_then (below_then hbw3 hb4) hb5
       clear hg hg4 hx13 hx23 hx24 hC3 hq1
       obtain ⟨a1, m1, k1, rfl, _⟩ := hq15.v.sl
       obtain ⟨a2, m2, k2, rfl, _⟩ := hq2.v.sl
       have HC5 := zH hC5
       obtain ⟨_, c0, c1, c2, f0, f1, f2⟩ := hC5)))
  have hF := HF.out _ _ _ hq15 hq2
  refine bodyPost_c1 rfl rfl Try.aggF Try.sizeF (HC5.out.set _ _ _) rfl ?_
  exact ⟨_, rfl, hF.set3 HC5.out (fun z => by simp) (fun z => by simp) _ _ _, below_set3 hbw5 (Nat.le_refl _) _ _ _⟩
theorem zzh (s : Bool) (va vb : Value) (n d : Nat) (w : World) (ha : zya w va n) (hb : zya w vb d) (hd : d ≠ 0) (hn5 : zaa n ≤ 512) (hd5 : zaa d ≤ 512) :
 Calls Try.prog 32 #[.bool s, va, vb] w (RF1 w (fq s n d)) := by
 have h0 : Nat.gcd n d ≠ 0 := fun h => hd (Nat.gcd_eq_zero_iff.1 h).2
 rcases Nat.eq_zero_or_pos n with hn | hn
 ·subst hn; exact zxl s va vb d w ha hb hd
 ·rcases Nat.lt_or_ge 1 (Nat.gcd n d) with h | h
  ·exact zyl s va vb n d w ha hb hd (by omega) hn5 hd5 h
  ·exact r2lowest_one s va vb n d w ha hb hd (by omega) hn5 hd5 (by omega)
theorem ret_u64 {a b : Int} (h : a = b) : Ending.returned (.int .u64 a) = Ending.returned (.int .u64 b) := by rw [h]
theorem size_any (z : Int) (w : World) (h1 : -9223372036854775808 ≤ z) (h2 : z < 9223372036854775808) :
 Calls Try.prog 38 #[.int .i64 z] w fun e w' => e = .returned (.int .u64 (z.natAbs : Nat)) ∧ w = w' := by
 rcases Int.lt_or_le z 0 with h | h
 ·obtain ⟨m, hm⟩ : ∃ m : Nat, z = -((m : Int) + 1) := ⟨(-(z + 1)).toNat, by omega⟩
  have e : z.natAbs = m + 1 := by omega
  have hmb : m ≤ 9223372036854775807 := by omega
  rw [e]
  subst hm
  clear e h h2
  go_enter Try.func38, Try.ntmps38
  go_wp2_with fail
  go_ret
  exact ⟨ret_u64 (by omega), rfl⟩
 ·obtain ⟨m, rfl⟩ : ∃ m : Nat, z = (m : Int) := ⟨z.natAbs, by omega⟩
  have e : (m : Int).natAbs = m := by omega
  rw [e]
  have hmb : m ≤ 9223372036854775807 := by omega
  clear e h h1 h2
  go_enter Try.func38, Try.ntmps38
  go_wp2_with fail
  go_ret
  exact ⟨ret_u64 (by omega), rfl⟩
set_option maxHeartbeats 800000 in
theorem r2make_any (a b : Int) (w : World) (ha1 : -9223372036854775808 ≤ a) (ha2 : a < 9223372036854775808) (hb1 : -9223372036854775808 ≤ b) (hb2 : b < 9223372036854775808) (hb : b ≠ 0) :
 Calls Try.prog 15 #[.int .i64 a, .int .i64 b] w (RF0 w (fq (!decide (a < 0) == decide (b < 0)) a.natAbs b.natAbs)) := by
 have HA := zH (And.intro ha1 ha2)
 have HB := zH (And.intro hb1 hb2)
 have hbn : b.natAbs ≠ 0 := by omega
 have HBN := zH hbn
 have h1 : ∀ z : Int, -9223372036854775808 ≤ z → z < 9223372036854775808 → zaa z.natAbs ≤ 512 := fun z _ _ => zcb.2 (Nat.lt_of_lt_of_le (show z.natAbs < pw 2 by have : pw 2 = 18446744073709551616 := rfl; omega) (pw_le (by omega)))
 have H1 := zH (h1 a ha1 ha2)
 have H2 := zH (h1 b hb1 hb2)
 have HA6 : Hid (a.natAbs < 18446744073709551616) := zH (by omega)
 have HB6 : Hid (b.natAbs < 18446744073709551616) := zH (by omega)
 have h9 : (b == 0) = false := by simpa using hb
 clear ha1 ha2 hb1 hb2 hbn h1 hb
 go_enter Try.func15, Try.ntmps15
 go_wp2_with (first
  |(go_at_call 38; first
   |((with_reducible refine (size_any a _ HA.out.1 HA.out.2).mono ?_); rintro e w' ⟨rfl, rfl⟩)
   |((with_reducible refine (size_any b _ HB.out.1 HB.out.2).mono ?_); rintro e w' ⟨rfl, rfl⟩))
  |(go_at_call 37; first
   |((with_reducible refine (zlc a.natAbs HA6.out _).mono ?_); rintro e w1 ⟨x, rfl, hx, hx1⟩)
   |((with_reducible refine (zlc b.natAbs HB6.out _).mono ?_); rintro e w2 ⟨y, rfl, hy, hy1⟩; have hx2 := hx.below hy1))
  |(go_at_call 32; (with_reducible refine (zzh _ x y a.natAbs b.natAbs _ hx2.nat hy.nat HBN.out H1.out H2.out).mono ?_); rintro e w3 ⟨v, rfl, hv, hv1⟩
    obtain ⟨t, x1, y1, rfl, ⟨a1, l1, k1, rfl, _⟩, ⟨a2, l2, k2, rfl, _⟩⟩ := hv.isF
    have hC := (((C3.new w 32 (.bool false) (.slice none 0 0) (.slice none 0 0)).belowS hx1).belowS hy1).belowS hv1
    have HC := zH hC
    have hbz := below_then (below_then (below_then (below_alloc w (.cells #[.bool false, .slice none 0 0, .slice none 0 0] 32)) hx1) hy1) hv1
    obtain ⟨_, d0, d1, d2, e0, e1, e2⟩ := hC))
 refine bodyPost_c3 rfl rfl Try.aggF Try.sizeF (HC.out.set _ _ _) rfl ?_
 exact ⟨_, rfl, hv.set3 HC.out (fun z => by simp) (fun z => by simp) _ _ _, below_set3 hbz (Nat.le_refl _) _ _ _⟩
theorem RF0.eq {w0 : World} {q q' : Rat} {e : Ending} {w : World} (h : RF0 w0 q e w) (hq : q = q') : RF0 w0 q' e w := hq ▸ h
theorem zbe (a b : Nat) (w : World) (ha : a < 4294967296) (hb : b < 4294967296) (hb0 : b ≠ 0) :
 Calls Try.prog 15 #[.int .i64 a, .int .i64 b] w (RF0 w (fq false a b)) :=
 (r2make_any a b w (by omega) (by omega) (by omega) (by omega) (by omega)).mono fun _ _ h => h.eq (by
  rw [decide_eq_false (show ¬ ((a : Nat) : Int) < 0 by omega), decide_eq_false (show ¬ ((b : Nat) : Int) < 0 by omega)]; rfl)
theorem r2make_01 (w : World) : Calls Try.prog 15 #[.int .i64 0, .int .i64 1] w (RF0 w 0) :=
 (zbe 0 1 w (by decide) (by decide) (by decide)).mono fun _ _ h => h.eq (by decide)
theorem r2make_11 (w : World) : Calls Try.prog 15 #[.int .i64 1, .int .i64 1] w (RF0 w 1) :=
 (zbe 1 1 w (by decide) (by decide) (by decide)).mono fun _ _ h => h.eq (by decide)
theorem r2make_n1 (n : Nat) (w : World) (hn : n < 4294967296) : Calls Try.prog 15 #[.int .i64 n, .int .i64 1] w (RF0 w (fq false n 1)) :=
 zbe n 1 w hn (by decide) (by decide)
set_option maxHeartbeats 800000 in
theorem r2int_zero (w : World) : Calls Try.prog 6 #[.int .i64 0] w (RF1 w 0) := by
 go_enter Try.func6, Try.ntmps6
 go_wp2_with (go_at_call 15; (with_reducible refine (r2make_01 _).mono ?_); rintro e w1 ⟨v, rfl, hv, hb1⟩
              obtain ⟨t9, x9, y9, rfl, ⟨a1, l91, k1, rfl, _⟩, ⟨a2, l92, k2, rfl, _⟩⟩ := hv.isF
              have hr := ((C3.new w 32 (.bool false) (.slice none 0 0) (.slice none 0 0)).belowS hb1).allocS (.cells #[.bool t9, .slice a1 l91 k1, .slice a2 l92 k2] 32)
              have hv2 := hv.below (below_alloc w1 (.cells #[.bool t9, .slice a1 l91 k1, .slice a2 l92 k2] 32))
              have hb2 := below_then (below_then (below_alloc w (.cells #[.bool false, .slice none 0 0, .slice none 0 0] 32)) hb1) (below_alloc w1 (.cells #[.bool t9, .slice a1 l91 k1, .slice a2 l92 k2] 32))
              have HR := zH hr
              obtain ⟨_, d1, d2, d3, d4, d5, d6⟩ := hr)
 refine bodyPost_c1 rfl rfl Try.aggF Try.sizeF (HR.out.set _ _ _) rfl ?_
 exact ⟨_, rfl, hv2.set3 HR.out (fun z => by simp) (fun z => by simp) _ _ _, below_set3 hb2 (Nat.le_refl _) _ _ _⟩
set_option maxHeartbeats 800000 in
theorem r2int_one (w : World) : Calls Try.prog 6 #[.int .i64 1] w (RF1 w 1) := by
 go_enter Try.func6, Try.ntmps6
 go_wp2_with (go_at_call 15; (with_reducible refine (r2make_11 _).mono ?_); rintro e w1 ⟨v, rfl, hv, hb1⟩
              obtain ⟨t9, x9, y9, rfl, ⟨a1, l91, k1, rfl, _⟩, ⟨a2, l92, k2, rfl, _⟩⟩ := hv.isF
              have hr := ((C3.new w 32 (.bool false) (.slice none 0 0) (.slice none 0 0)).belowS hb1).allocS (.cells #[.bool t9, .slice a1 l91 k1, .slice a2 l92 k2] 32)
              have hv2 := hv.below (below_alloc w1 (.cells #[.bool t9, .slice a1 l91 k1, .slice a2 l92 k2] 32))
              have hb2 := below_then (below_then (below_alloc w (.cells #[.bool false, .slice none 0 0, .slice none 0 0] 32)) hb1) (below_alloc w1 (.cells #[.bool t9, .slice a1 l91 k1, .slice a2 l92 k2] 32))
              have HR := zH hr
              obtain ⟨_, d1, d2, d3, d4, d5, d6⟩ := hr)
 refine bodyPost_c1 rfl rfl Try.aggF Try.sizeF (HR.out.set _ _ _) rfl ?_
 exact ⟨_, rfl, hv2.set3 HR.out (fun z => by simp) (fun z => by simp) _ _ _, below_set3 hb2 (Nat.le_refl _) _ _ _⟩
set_option maxHeartbeats 800000 in
theorem r2int_nat (n : Nat) (w : World) (hn : n < 4294967296) : Calls Try.prog 6 #[.int .i64 n] w (RF1 w (fq false n 1)) := by
 have HN := zH hn
 clear hn
 go_enter Try.func6, Try.ntmps6
 go_wp2_with (go_at_call 15; (with_reducible refine (r2make_n1 n _ HN.out).mono ?_); rintro e w1 ⟨v, rfl, hv, hb1⟩
              obtain ⟨t9, x9, y9, rfl, ⟨a1, l91, k1, rfl, _⟩, ⟨a2, l92, k2, rfl, _⟩⟩ := hv.isF
              have hr := ((C3.new w 32 (.bool false) (.slice none 0 0) (.slice none 0 0)).belowS hb1).allocS (.cells #[.bool t9, .slice a1 l91 k1, .slice a2 l92 k2] 32)
              have hv2 := hv.below (below_alloc w1 (.cells #[.bool t9, .slice a1 l91 k1, .slice a2 l92 k2] 32))
              have hb2 := below_then (below_then (below_alloc w (.cells #[.bool false, .slice none 0 0, .slice none 0 0] 32)) hb1) (below_alloc w1 (.cells #[.bool t9, .slice a1 l91 k1, .slice a2 l92 k2] 32))
              have HR := zH hr
              obtain ⟨_, d1, d2, d3, d4, d5, d6⟩ := hr)
 refine bodyPost_c1 rfl rfl Try.aggF Try.sizeF (HR.out.set _ _ _) rfl ?_
 exact ⟨_, rfl, hv2.set3 HR.out (fun z => by simp) (fun z => by simp) _ _ _, below_set3 hb2 (Nat.le_refl _) _ _ _⟩
set_option maxHeartbeats 800000 in
theorem zje (va vb : Value) (m n : Nat) (w : World) (ha : zya w va m) (hb : zya w vb n) (hm : zaa m ≤ 128) (hn : zaa n ≤ 128) :
 Calls Try.prog 33 #[va, vb] w (RNat w (m * n)) := by
 have HM := zH (show zaa m ≤ 512 by omega)
 have HN := zH (show zaa n ≤ 512 by omega)
 have HMN : Hid (zaa (m * n) ≤ 512) := zH (by
  have h1 := zcb.1 hm
  have h2 := zcb.1 hn
  refine zcb.2 ?_
  have h3 : m * n ≤ pw 128 * pw 128 := Nat.mul_le_mul (by omega) (by omega)
  have h4 : pw 128 * pw 128 < pw 512 := by decide +kernel
  omega)
 clear hm hn
 go_enter Try.func33, Try.ntmps33
 go_wp2_with (go_at_call 70; (with_reducible refine (rmul_any _ _ m n _ ha hb HM.out HN.out).mono ?_); rintro e1 w1 ⟨r, er, rfl, hr, hb1⟩)
 go_ret
 exact ⟨r, rfl, (hr.1 HMN.out).2, hb1⟩
set_option maxHeartbeats 800000 in
theorem r2valid_can (v : Value) (q : Rat) (w : World) (h : FracC w v q) (hf : fits q) :
 Calls Try.prog 30 #[v] w fun e w' => e = .returned (.bool true) ∧ Below w.heap.size w w' := by
 obtain ⟨a, b, rfl, ha, hb⟩ := h
 obtain ⟨n1, n2⟩ := zob (zab hf)
 have hd0 : 0 < zaa q.den := by
  rcases Nat.eq_zero_or_pos (zaa q.den) with h | h
  ·have h1 := zcb.1 (Nat.le_of_eq h)
   have h2 := q.den_nz
   simp [pw] at h1
   omega
  ·exact h
 have hd1 : decide ((0 : Int) < (zaa q.den : Nat)) = true := decide_eq_true (by omega)
 have hd2 : decide (((zaa q.den : Nat) : Int) ≤ 128) = true := decide_eq_true (by omega)
 have hd3 : decide (((zaa q.num.natAbs : Nat) : Int) ≤ 128) = true := decide_eq_true (by omega)
 obtain ⟨aa, al, ak, rfl, _⟩ := id ha.v.sl
 obtain ⟨ba, bl, bk, rfl, _⟩ := id hb.v.sl
 have hbx := below_alloc w (.cells #[.bool (decide (q < 0)), .slice aa al ak, .slice ba bl bk] 32)
 have hC := C3.new w 32 (.bool (decide (q < 0))) (.slice aa al ak) (.slice ba bl bk)
 have HC := zH hC
 have HA := zH (ha.below hbx)
 have HB := zH (hb.below hbx)
 obtain ⟨_, c0, c1, c2, _, _, _⟩ := id hC
 clear hC hf hd1 hd2 hd3
 go_enter Try.func30, Try.ntmps30
 go_wp2_with (first
  |(go_at_call 66; (with_reducible refine (zia _ q.den _ HB.out.nat).mono ?_); rintro e1 w1 ⟨r1, rfl, hr1, hb1⟩
    have s1 := hr1.v.sl
    have l1 : slen r1 = zaa q.den := hr1.v.len
    obtain ⟨_, c0, c1, c2, _, _, _⟩ := HC.out.belowS hb1)
  |(go_at_call 66; (with_reducible refine (zia _ q.den _ (HB.out.below hb1).nat).mono ?_); rintro e2 w2 ⟨r2, rfl, hr2, hb2⟩
    have s2 := hr2.v.sl
    have l2 : slen r2 = zaa q.den := hr2.v.len
    obtain ⟨_, c0, c1, c2, _, _, _⟩ := HC.out.belowS (below_then hb1 hb2))
  |(go_at_call 66; (with_reducible refine (zia _ q.num.natAbs _ ((HA.out.below hb1).below hb2).nat).mono ?_); rintro e3 w3 ⟨r3, rfl, hr3, hb3⟩
    have s3 := hr3.v.sl
    have l3 : slen r3 = zaa q.num.natAbs := hr3.v.len))
 go_ret
 refine ⟨?_, below_then (below_then (below_then hbx hb1) hb2) hb3⟩
 congr 2
 simp
 omega
set_option maxHeartbeats 800000 in
theorem r2large_can (v : Value) (q : Rat) (w : World) (h : FracC w v q) (hf : fits q) :
 Calls Try.prog 67 #[v] w fun e w' => e = .returned (.bool false) ∧ Below w.heap.size w w' := by
 obtain ⟨a, b, rfl, ha, hb⟩ := h
 obtain ⟨n1, n2⟩ := zob (zab hf)
 obtain ⟨aa, al, ak, rfl, _⟩ := id ha.v.sl
 obtain ⟨ba, bl, bk, rfl, _⟩ := id hb.v.sl
 have e1 : al = zaa q.num.natAbs := ha.v.len
 have e2 : bl = zaa q.den := hb.v.len
 have n1' : al ≤ 128 := by omega
 have n2' : bl ≤ 128 := by omega
 have h1 : ¬ (128 < al) := by omega
 have h2 : ¬ (128 < bl) := by omega
 have hbx := below_alloc w (.cells #[.bool (decide (q < 0)), .slice aa al ak, .slice ba bl bk] 32)
 have hC := C3.new w 32 (.bool (decide (q < 0))) (.slice aa al ak) (.slice ba bl bk)
 obtain ⟨_, c0, c1, c2, _, _, _⟩ := id hC
 clear hC hf n1 n2 e1 e2
 go_enter Try.func67, Try.ntmps67
 go_wp2_with fail
 go_ret
 refine ⟨?_, hbx⟩
 congr 2
 simp
 omega
set_option maxHeartbeats 800000 in
theorem zbl (v : Value) (q : Rat) (w : World) (h : FracC w v q) (hf : fits q) : Calls Try.prog 31 #[v] w (RF0 w q) := by
 obtain ⟨a, b, rfl, ha, hb⟩ := id h
 obtain ⟨aa, al, ak, rfl, _⟩ := id ha.v.sl
 obtain ⟨ba, bl, bk, rfl, _⟩ := id hb.v.sl
 have hbx := below_alloc w (.cells #[.bool (decide (q < 0)), .slice aa al ak, .slice ba bl bk] 32)
 have hb2 := below_alloc (w.alloc (.cells #[.bool (decide (q < 0)), .slice aa al ak, .slice ba bl bk] 32)) (.cells #[.bool false, .slice none 0 0, .slice none 0 0] 32)
 have hC := (C3.new w 32 (.bool (decide (q < 0))) (.slice aa al ak) (.slice ba bl bk)).belowS hb2
 have hR := C3.newB (b := w.heap.size + 1) (w.alloc (.cells #[.bool (decide (q < 0)), .slice aa al ak, .slice ba bl bk] 32)) 32 (.bool false) (.slice none 0 0) (.slice none 0 0) (by simp)
 have HC := zH hC
 have HR := zH hR
 have HF := zH hf
 have HQ := zH ((h.below hbx).below hb2)
 have hbb := below_then hbx hb2
 obtain ⟨_, c0, c1, c2, _, _, _⟩ := id hC
 clear hC hR hf h ha hb
 go_enter Try.func31, Try.ntmps31
 go_wp2_with (go_at_call 67; (with_reducible refine (r2large_can _ q _ HQ.out HF.out).mono ?_); rintro e1 w1 ⟨rfl, hb1⟩
              obtain ⟨_, c0, c1, c2, _, _, _⟩ := HC.out.belowS hb1
              have HR1 := zH (HR.out.belowS hb1)
              obtain ⟨_, d0, d1, d2, d3, d4, d5⟩ := HR1.out)
 refine bodyPost_c3 rfl rfl Try.aggF Try.sizeF (HR1.out.set _ _ _) rfl ?_
 exact ⟨_, rfl, (HQ.out.below hb1).set3 HR1.out (fun z => by simp) (fun z => by simp) _ _ _, below_set3 (below_then hbb hb1) (Nat.le_succ _) _ _ _⟩
theorem fq_mul_self (p q : Rat) : fq (decide (p < 0) != decide (q < 0)) (p.num.natAbs * q.num.natAbs) (p.den * q.den) = p * q := by rw [← fq_mul, fq_self, fq_self]
theorem fq_mul_self' (p q : Rat) : fq (!(decide (p < 0) == decide (q < 0))) (p.num.natAbs * q.num.natAbs) (p.den * q.den) = p * q := fq_mul_self p q
theorem keep6b {X Y : World} {a1 a2 a3 a4 a5 a6 : Addr} {x1 x2 x3 x4 x5 x6 : Value} (h : X.cell? a1 = some x1 ∧ X.cell? a2 = some x2 ∧ X.cell? a3 = some x3 ∧ X.cell? a4 = some x4 ∧ X.cell? a5 = some x5 ∧ X.cell? a6 = some x6) (hb : Below X.heap.size X Y) :
 Y.cell? a1 = some x1 ∧ Y.cell? a2 = some x2 ∧ Y.cell? a3 = some x3 ∧ Y.cell? a4 = some x4 ∧ Y.cell? a5 = some x5 ∧ Y.cell? a6 = some x6 := by
 obtain ⟨k1, k2, k3, k4, k5, k6⟩ := h
 exact ⟨cell_below hb k1, cell_below hb k2, cell_below hb k3, cell_below hb k4, cell_below hb k5, cell_below hb k6⟩
set_option maxRecDepth 100000 in
set_option maxHeartbeats 1600000 in
theorem r2mul_can (va vb : Value) (p q : Rat) (w : World) (ha : FracC w va p) (hb : FracC w vb q) (hp : fits p) (hq : fits q) (hf : fits (p * q)) : Calls Try.prog 10 #[va, vb] w (RF0 w (p * q)) := by
 obtain ⟨a1, a2, rfl, n1, n2⟩ := id ha
 obtain ⟨b1, b2, rfl, m1, m2⟩ := id hb
 obtain ⟨x1, y1, z1, rfl, _⟩ := id n1.v.sl
 obtain ⟨x2, y2, z2, rfl, _⟩ := id n2.v.sl
 obtain ⟨x3, y3, z3, rfl, _⟩ := id m1.v.sl
 obtain ⟨x4, y4, z4, rfl, _⟩ := id m2.v.sl
 have k1 := below_alloc w (.cells #[.bool (decide (p < 0)), .slice x1 y1 z1, .slice x2 y2 z2] 32)
 have k2 := below_alloc (w.alloc (.cells #[.bool (decide (p < 0)), .slice x1 y1 z1, .slice x2 y2 z2] 32)) (.cells #[.bool (decide (q < 0)), .slice x3 y3 z3, .slice x4 y4 z4] 32)
 have k3 := below_alloc ((w.alloc (.cells #[.bool (decide (p < 0)), .slice x1 y1 z1, .slice x2 y2 z2] 32)).alloc (.cells #[.bool (decide (q < 0)), .slice x3 y3 z3, .slice x4 y4 z4] 32)) (.cells #[.bool false, .slice none 0 0, .slice none 0 0] 32)
 have H3 := three_boxes w 32 (.bool (decide (p < 0))) (.slice x1 y1 z1) (.slice x2 y2 z2) (.bool (decide (q < 0))) (.slice x3 y3 z3) (.slice x4 y4 z4) (.bool false) (.slice none 0 0) (.slice none 0 0) _ rfl
 obtain ⟨hA, hB, hR, hbw⟩ := H3
 have HA := zH hA
 have HB := zH hB
 have HR := zH hR
 have HAP := zH (ha.below hbw)
 have HBQ := zH (hb.below hbw)
 have HP := zH hp
 have HQ := zH hq
 have HPQ := zH hf
 have HL := zH (And.intro (zob (zab hp)) (zob (zab hq)))
 obtain ⟨_, c0, c1, c2, _, _, _⟩ := id hA
 obtain ⟨_, d0, d1, d2, _, _, _⟩ := id hB
 clear hA hB hR ha hb n1 n2 m1 m2 hp hq hf k1 k2 k3
 go_enter Try.func10, Try.ntmps10
 go_upto_region 3 with (first
  |(go_at_call 30; (with_reducible refine (r2valid_can _ p _ HAP.out HP.out).mono ?_); rintro e1 w1 ⟨rfl, hb1⟩
    obtain ⟨_, c0, c1, c2, _, _, _⟩ := HA.out.belowS hb1
    obtain ⟨_, d0, d1, d2, _, _, _⟩ := HB.out.belowS hb1)
  |(go_at_call 30; (with_reducible refine (r2valid_can _ q _ (HBQ.out.below hb1) HQ.out).mono ?_); rintro e2 w2 ⟨rfl, hb2⟩))
 have b12 := below_then hb1 hb2
 have hD := below_drew (B := w2.heap.size) w2
 have b1D := below_then b12 hD
 obtain ⟨_, q1, q2, q3, _, _, _⟩ := HA.out.belowS b1D
 obtain ⟨_, r1, r2, r3, _, _, _⟩ := HB.out.belowS b1D
 have HRD := zH (HR.out.belowS b1D)
 have HAD := zH (HAP.out.below b1D)
 have HBD := zH (HBQ.out.below b1D)
 have hbwD := below_then hbw b1D
 obtain ⟨u1, u2, hu, nA, nB⟩ := HAD.out
 injection hu with hu
 injection hu with hu
 simp only [List.cons.injEq, and_true, true_and] at hu
 obtain ⟨rfl, rfl⟩ := hu
 obtain ⟨u1, u2, hu, mA, mB⟩ := HBD.out
 injection hu with hu
 injection hu with hu
 simp only [List.cons.injEq, and_true, true_and] at hu
 obtain ⟨rfl, rfl⟩ := hu
 have kA : w.heap.size + 1 + 1 ≠ w.heap.size := by omega
 have kB : w.heap.size + 1 + 1 ≠ w.heap.size + 1 := by omega
 have HNN := zH (And.intro nA (And.intro nB (And.intro mA mB)))
 have HDZ : Hid (p.den * q.den ≠ 0) := zH (Nat.mul_ne_zero p.den_nz q.den_nz)
 have HN5 : Hid (zaa (p.num.natAbs * q.num.natAbs) ≤ 512) := zH (Nat.le_trans (zfd HL.out.1.1 HL.out.2.1) (by decide))
 have HD5 : Hid (zaa (p.den * q.den) ≤ 512) := zH (Nat.le_trans (zfd HL.out.1.2 HL.out.2.2) (by decide))
 clear nA nB mA mB c0 c1 c2 d0 d1 d2
 go_region_held3 (fun w' => w'.cell? ⟨w.heap.size, 0, none⟩ = some (.bool (decide (p < 0))) ∧ w'.cell? ⟨w.heap.size, 1, none⟩ = some (.slice x1 y1 z1) ∧ w'.cell? ⟨w.heap.size, 2, none⟩ = some (.slice x2 y2 z2) ∧ w'.cell? ⟨w.heap.size + 1, 0, none⟩ = some (.bool (decide (q < 0))) ∧ w'.cell? ⟨w.heap.size + 1, 1, none⟩ = some (.slice x3 y3 z3) ∧ w'.cell? ⟨w.heap.size + 1, 2, none⟩ = some (.slice x4 y4 z4)) (first
  | with_reducible exact ⟨q1, q2, q3, r1, r2, r3⟩
  | with_reducible exact keep6b (by assumption) (by assumption)
  | with_reducible exact keep6 (keep6 (keep6 (by assumption) kA kA kA kB kB kB _) kA kA kA kB kB kB _) kA kA kA kB kB kB _) (first
  |(go_at_call 33; (with_reducible refine (zje _ _ p.num.natAbs q.num.natAbs _ HNN.out.1.nat HNN.out.2.2.1.nat HL.out.1.1 HL.out.2.1).mono ?_); rintro e3 w3 ⟨v3, rfl, hv3, hb3⟩)
  |(go_at_call 33; (with_reducible refine (zje _ _ p.den q.den _ (HNN.out.2.1.below hb3).nat (HNN.out.2.2.2.below hb3).nat HL.out.1.2 HL.out.2.2).mono ?_); rintro e4 w4 ⟨v4, rfl, hv4, hb4⟩)
  |(go_at_call 32; (with_reducible refine (zzh _ _ _ (p.num.natAbs * q.num.natAbs) (p.den * q.den) _ (hv3.below hb4).nat hv4.nat HDZ.out HN5.out HD5.out).mono ?_); rintro e5 w5 ⟨v5, rfl, hv5, hb5⟩)
  |(go_at_call 31; (with_reducible refine (zbl _ (p * q) _ (by (have h9 := hv5; rw [fq_mul_self'] at h9; exact h9)) HPQ.out).mono ?_); rintro e6 w6 ⟨v6, rfl, hv6, hb6⟩
    obtain ⟨t9, x9, y9, rfl, ⟨a91, l91, k91, rfl, _⟩, ⟨a92, l92, k92, rfl, _⟩⟩ := hv6.isF
    have HR6 := zH ((((HRD.out.belowS hb3).belowS hb4).belowS hb5).belowS hb6)
    obtain ⟨_, g0, g1, g2, g3, g4, g5⟩ := HR6.out))
 have hbE := below_then (below_then (below_then (below_then hbwD hb3) hb4) hb5) hb6
 go_wp2_with fail
 refine bodyPost_c3 rfl rfl Try.aggF Try.sizeF (HR6.out.set _ _ _) rfl ?_
 exact ⟨_, rfl, hv6.set3 HR6.out (fun z => by simp) (fun z => by simp) _ _ _, below_set3 hbE (Nat.le_trans (Nat.le_succ _) (Nat.le_succ _)) _ _ _⟩
theorem zze {d : Nat} : 0 < zaa d ↔ d ≠ 0 := by
 constructor
 ·intro h e; subst e; have := zha.2 (rfl : (0 : Nat) = 0); omega
 ·intro h; have : zaa d ≠ 0 := fun e => h (zha.1 e); omega
theorem okN_iff (n d : Nat) : okN n d ↔ 0 < zaa d ∧ zaa d ≤ 128 ∧ zaa n ≤ 128 := by
 constructor
 ·intro h; exact ⟨zze.2 h.1, zec (k := 128) h.2.1, zec (k := 128) h.2.2⟩
 ·intro h; exact ⟨zze.1 h.1, zif (k := 128) h.2.1, zif (k := 128) h.2.2⟩
set_option maxHeartbeats 800000 in
theorem zij (v : Value) (s : Bool) (n d : Nat) (w : World) (h : FracN w v s n d) :
 Calls Try.prog 30 #[v] w fun e w' => e = .returned (.bool (decide (okN n d))) ∧ Below w.heap.size w w' := by
 obtain ⟨a, b, rfl, ha, hb⟩ := h
 obtain ⟨aa, al, ak, rfl, _⟩ := id ha.slen.1
 obtain ⟨ba, bl, bk, rfl, _⟩ := id hb.slen.1
 have hbx := below_alloc w (.cells #[.bool s, .slice aa al ak, .slice ba bl bk] 32)
 have hC := C3.new w 32 (.bool s) (.slice aa al ak) (.slice ba bl bk)
 have HC := zH hC
 have HA := zH (ha.below hbx)
 have HB := zH (hb.below hbx)
 have HO := zH (okN_iff n d)
 obtain ⟨D, hD⟩ : ∃ D, zaa d = D := ⟨_, rfl⟩
 obtain ⟨M, hM⟩ : ∃ M, zaa n = M := ⟨_, rfl⟩
 have HD := zH hD
 have HM := zH hM
 obtain ⟨_, c0, c1, c2, _, _, _⟩ := id hC
 clear hC ha hb hD hM
 have HOB : Hid (decide (okN n d) = (decide (0 < D) && (decide (D ≤ 128) && decide (M ≤ 128)))) := zH (by
  rw [Bool.eq_iff_iff]
  simp only [Bool.and_eq_true, decide_eq_true_eq]
  rw [HO.out, HD.out, HM.out])
 by_cases g1 : 0 < D
 ·by_cases g2 : D ≤ 128
  ·skip
   go_enter Try.func30, Try.ntmps30
   go_wp2_with (first
    |(go_at_call 66; (with_reducible refine (zia _ d _ HB.out).mono ?_); rintro e1 w1 ⟨r1, rfl, hr1, hb1⟩
      have s1 := hr1.v.sl
      have l1 : slen r1 = D := hr1.v.len.trans HD.out
      have hbb := below_then hbx hb1
      obtain ⟨_, c0, c1, c2, _, _, _⟩ := HC.out.belowS hb1)
    |(go_at_call 66; (with_reducible refine (zia _ d _ (HB.out.below hb1)).mono ?_); rintro e2 w2 ⟨r2, rfl, hr2, hb2⟩
      have s2 := hr2.v.sl
      have l2 : slen r2 = D := hr2.v.len.trans HD.out
      have hb12 := below_then hb1 hb2
      have hbb := below_then hbx hb12
      obtain ⟨_, c0, c1, c2, _, _, _⟩ := HC.out.belowS hb12)
    |(go_at_call 66; (with_reducible refine (zia _ n _ (HA.out.below hb12)).mono ?_); rintro e3 w3 ⟨r3, rfl, hr3, hb3⟩
      have s3 := hr3.v.sl
      have l3 : slen r3 = M := hr3.v.len.trans HM.out
      have hbb := below_then hbb hb3))
   go_ret
   refine ⟨?_, hbb⟩
   rw [HOB.out]
   simp [g1, g2]
   omega
  ·skip
   go_enter Try.func30, Try.ntmps30
   go_wp2_with (first
    |(go_at_call 66; (with_reducible refine (zia _ d _ HB.out).mono ?_); rintro e1 w1 ⟨r1, rfl, hr1, hb1⟩
      have s1 := hr1.v.sl
      have l1 : slen r1 = D := hr1.v.len.trans HD.out
      have hbb := below_then hbx hb1
      obtain ⟨_, c0, c1, c2, _, _, _⟩ := HC.out.belowS hb1)
    |(go_at_call 66; (with_reducible refine (zia _ d _ (HB.out.below hb1)).mono ?_); rintro e2 w2 ⟨r2, rfl, hr2, hb2⟩
      have s2 := hr2.v.sl
      have l2 : slen r2 = D := hr2.v.len.trans HD.out
      have hb12 := below_then hb1 hb2
      have hbb := below_then hbx hb12
      obtain ⟨_, c0, c1, c2, _, _, _⟩ := HC.out.belowS hb12)
    |(go_at_call 66; (with_reducible refine (zia _ n _ (HA.out.below hb12)).mono ?_); rintro e3 w3 ⟨r3, rfl, hr3, hb3⟩
      have s3 := hr3.v.sl
      have l3 : slen r3 = M := hr3.v.len.trans HM.out
      have hbb := below_then hbb hb3))
   go_ret
   refine ⟨?_, hbb⟩
   rw [HOB.out]
   simp [g1, g2]
 ·skip
  go_enter Try.func30, Try.ntmps30
  go_wp2_with (first
   |(go_at_call 66; (with_reducible refine (zia _ d _ HB.out).mono ?_); rintro e1 w1 ⟨r1, rfl, hr1, hb1⟩
     have s1 := hr1.v.sl
     have l1 : slen r1 = D := hr1.v.len.trans HD.out
     have hbb := below_then hbx hb1
     obtain ⟨_, c0, c1, c2, _, _, _⟩ := HC.out.belowS hb1)
   |(go_at_call 66; (with_reducible refine (zia _ d _ (HB.out.below hb1)).mono ?_); rintro e2 w2 ⟨r2, rfl, hr2, hb2⟩
     have s2 := hr2.v.sl
     have l2 : slen r2 = D := hr2.v.len.trans HD.out
     have hb12 := below_then hb1 hb2
     have hbb := below_then hbx hb12
     obtain ⟨_, c0, c1, c2, _, _, _⟩ := HC.out.belowS hb12)
   |(go_at_call 66; (with_reducible refine (zia _ n _ (HA.out.below hb12)).mono ?_); rintro e3 w3 ⟨r3, rfl, hr3, hb3⟩
     have s3 := hr3.v.sl
     have l3 : slen r3 = M := hr3.v.len.trans HM.out
     have hbb := below_then hbb hb3))
  go_ret
  refine ⟨?_, hbb⟩
  rw [HOB.out]
  simp [g1]
theorem r2valid_ok (v : Value) (s : Bool) (n d : Nat) (w : World) (h : FracN w v s n d) (hk : okN n d) :
 Calls Try.prog 30 #[v] w fun e w' => e = .returned (.bool true) ∧ Below w.heap.size w w' :=
 (zij v s n d w h).mono fun e w' ⟨h1, h2⟩ => ⟨by rw [h1, decide_eq_true hk], h2⟩
theorem r2valid_no (v : Value) (s : Bool) (n d : Nat) (w : World) (h : FracN w v s n d) (hk : ¬ okN n d) :
 Calls Try.prog 30 #[v] w fun e w' => e = .returned (.bool false) ∧ Below w.heap.size w w' :=
 (zij v s n d w h).mono fun e w' ⟨h1, h2⟩ => ⟨by rw [h1, decide_eq_false hk], h2⟩
theorem fits_nlen (q : Rat) : fits q ↔ zaa q.num.natAbs ≤ 128 ∧ zaa q.den ≤ 128 :=
 ⟨fun h => ⟨zec (k := 128) h.1, zec (k := 128) h.2⟩, fun h => ⟨zif (k := 128) h.1, zif (k := 128) h.2⟩⟩
set_option maxHeartbeats 800000 in
theorem r2large_any (v : Value) (q : Rat) (w : World) (h : FracC w v q) (b : Bool) (hf : b = true ↔ ¬ fits q) :
 Calls Try.prog 67 #[v] w fun e w' => e = .returned (.bool b) ∧ Below w.heap.size w w' := by
 obtain ⟨a, c, rfl, ha, hc⟩ := h
 have hn := fits_nlen q
 obtain ⟨aa, al, ak, rfl, _⟩ := id ha.v.sl
 obtain ⟨ba, bl, bk, rfl, _⟩ := id hc.v.sl
 have e1 : al = zaa q.num.natAbs := ha.v.len
 have e2 : bl = zaa q.den := hc.v.len
 rw [← e1, ← e2] at hn
 have HF : Hid (b = decide (128 < al ∨ 128 < bl)) := zH (by
  by_cases h9 : 128 < al ∨ 128 < bl
  ·rw [decide_eq_true h9]; exact hf.2 (fun h => by have := hn.1 h; omega)
  ·rw [decide_eq_false h9]; exact Bool.eq_false_iff.2 (fun h => hf.1 h (hn.2 (by omega))))
 have hbx := below_alloc w (.cells #[.bool (decide (q < 0)), .slice aa al ak, .slice ba bl bk] 32)
 have hC := C3.new w 32 (.bool (decide (q < 0))) (.slice aa al ak) (.slice ba bl bk)
 obtain ⟨_, c0, c1, c2, _, _, _⟩ := id hC
 clear hC hf hn e1 e2
 by_cases g1 : 128 < al
 ·go_enter Try.func67, Try.ntmps67
  go_wp2_with fail
  go_ret
  refine ⟨?_, hbx⟩
  rw [HF.out]
  simp [g1]
 ·go_enter Try.func67, Try.ntmps67
  go_wp2_with fail
  go_ret
  refine ⟨?_, hbx⟩
  rw [HF.out]
  simp [g1]
  rw [decide_eq_false (by omega), Bool.false_or]
  by_cases g2 : 128 < bl
  ·rw [decide_eq_true g2, decide_eq_true (by omega)]
  ·rw [decide_eq_false g2, decide_eq_false (by omega)]
theorem r2fits_yes (v : Value) (q : Rat) (w : World) (h : FracC w v q) (hf : fits q) : Calls Try.prog 31 #[v] w (zvh w q) :=
 (zbl v q w h hf).mono fun e w' ⟨v', he, hv, hb⟩ => ⟨v', 0, he, hb, fun _ => ⟨rfl, hv⟩, fun h => absurd hf h⟩
set_option maxHeartbeats 800000 in
theorem r2fits_no (v : Value) (q : Rat) (w : World) (h : FracC w v q) (hf : ¬ fits q) : Calls Try.prog 31 #[v] w (zvh w q) := by
 obtain ⟨a, b, rfl, ha, hb⟩ := id h
 obtain ⟨aa, al, ak, rfl, _⟩ := id ha.v.sl
 obtain ⟨ba, bl, bk, rfl, _⟩ := id hb.v.sl
 have hbx := below_alloc w (.cells #[.bool (decide (q < 0)), .slice aa al ak, .slice ba bl bk] 32)
 have hb2 := below_alloc (w.alloc (.cells #[.bool (decide (q < 0)), .slice aa al ak, .slice ba bl bk] 32)) (.cells #[.bool false, .slice none 0 0, .slice none 0 0] 32)
 have hC := (C3.new w 32 (.bool (decide (q < 0))) (.slice aa al ak) (.slice ba bl bk)).belowS hb2
 have hR := C3.newB (b := w.heap.size + 1) (w.alloc (.cells #[.bool (decide (q < 0)), .slice aa al ak, .slice ba bl bk] 32)) 32 (.bool false) (.slice none 0 0) (.slice none 0 0) (by simp)
 have HC := zH hC
 have HR := zH hR
 have HF := zH hf
 have HQ := zH ((h.below hbx).below hb2)
 have hbb := below_then hbx hb2
 obtain ⟨_, c0, c1, c2, _, _, _⟩ := id hC
 clear hC hR hf h ha hb
 go_enter Try.func31, Try.ntmps31
 go_wp2_with (go_at_call 67; (with_reducible refine (r2large_any _ q _ HQ.out true ⟨fun _ => HF.out, fun _ => rfl⟩).mono ?_); rintro e1 w1 ⟨rfl, hb1⟩
              obtain ⟨_, c0, c1, c2, _, _, _⟩ := HC.out.belowS hb1
              have HR1 := zH (HR.out.belowS hb1)
              obtain ⟨_, d0, d1, d2, d3, d4, d5⟩ := HR1.out)
 refine bodyPost_c3 rfl rfl Try.aggF Try.sizeF (HR1.out.set _ _ _) rfl ?_
 exact ⟨_, _, rfl, below_set3 (below_then hbb hb1) (Nat.le_succ _) _ _ _, fun h => absurd h HF.out, fun _ => ⟨rfl, rfl⟩⟩
theorem r2fits_any (v : Value) (q : Rat) (w : World) (h : FracC w v q) : Calls Try.prog 31 #[v] w (zvh w q) := by
 by_cases hf : fits q
 ·exact r2fits_yes v q w h hf
 ·exact r2fits_no v q w h hf
theorem rcmp_ge0 (va vb : Value) (m n : Nat) (w : World) (ha : zya w va m) (hb : zya w vb n) (h : n ≤ m) :
 Calls Try.prog 71 #[va, vb] w fun e w' => (∃ c : Int, e = .returned (.int .i64 c) ∧ decide (0 ≤ c) = true) ∧ Below w.heap.size w w' :=
 (zqd va vb m n w ha hb).mono fun _ _ ⟨a, b⟩ => ⟨⟨_, a, by unfold zik; rw [if_neg (by omega)]; split <;> rfl⟩, b⟩
theorem rcmp_lt0 (va vb : Value) (m n : Nat) (w : World) (ha : zya w va m) (hb : zya w vb n) (h : m < n) :
 Calls Try.prog 71 #[va, vb] w fun e w' => (∃ c : Int, e = .returned (.int .i64 c) ∧ decide (0 ≤ c) = false) ∧ Below w.heap.size w w' :=
 (zqd va vb m n w ha hb).mono fun _ _ ⟨a, b⟩ => ⟨⟨_, a, by rw [zdf h]; rfl⟩, b⟩
end Go.Proofs.Ytlpdkbmmbdfoiaa
