/-
  package drydocklaw21: ChainMixes.
-/
import Derived.Test.YtlpdkbmmbdfoiaaGreatKHq5
import Derived.Test.YtlpdkbmmbdfoiaaGreatKTk
import Derived.Test.YtlpdkbmmbdfoiaaGreatKGwa
import Derived.Test.YtlpdkbmmbdfoiaaGreatKOuw
set_option linter.unusedVariables false
set_option linter.unusedSimpArgs false
namespace Go.Proofs.YtlpdkbmmbdfoiaaGreat
open Go.RowKit
set_option maxRecDepth 100000 in
set_option maxHeartbeats 6400000 in
theorem mixes_any (v : Value) (l : List Nat) (w : World) (h : zua w v (bytes l)) (hb : ∀ x ∈ l, x < 256) :
 Calls Tryz.prog 8 #[v] w (fun e w' => e = .returned (.bool true) ∧ Below w.heap.size w w') := by
 go_enter Tryz.func8, Tryz.ntmps8
 go_upto_region 2 with (first
  |(go_at_call 41; (with_reducible refine (new_any _ l _ h hb).mono ?_); rintro e1 w1 ⟨bt, rfl, hbt, hT1, hbel1⟩)
  |(go_at_call 42; (with_reducible refine (znn bt 0 _ _ hT1).mono ?_); rintro e2 w2 ⟨v2, c, a2, rfl, hC2, hTP, hT2, hsz2, hfr2⟩
    obtain ⟨vr, vs, vl, rfl, m1, m2, m3⟩ := id hC2
    obtain ⟨ar, nr, kr, rfl, _⟩ := id m1.sl
    obtain ⟨as', ns, ks, rfl, _⟩ := id m2.sl
    obtain ⟨al, nl, kl, rfl, _⟩ := id (zua.sl m3)
    have hb12 := hbel1.trans (hfr2 _ hbt hbel1.size)
    have ba3 := zba w2 (.cells #[.slice ar nr kr, .slice as' ns ks, .slice al nl kl] 28)
    have HTP := zH hTP
    have HNS : Hid (ns = c.start.length) := zH m2.len
    have HNR : Hid (nr = c.rates.length) := zH m1.len
    have HC3 := zH (C3.new w2 28 (.slice ar nr kr) (.slice as' ns ks) (.slice al nl kl))
    have HCH := zH (hC2.below ba3)
    have HST := zH (m2.below ba3)
    have HRT := zH (m1.below ba3)
    have HLO := zH (m3.below ba3)
    have HB := zH (hb12.trans (ba3.mono hb12.size))
    have hn5 : ns ≤ 5 := by rw [HNS.out]; exact HTP.out.n5
    have sst := m2.sl
    have srt := m1.sl
    have slo := zua.sl m3
    clear hC2 m1 m2 m3 hTP hfr2 hT1 hT2 hbel1 hsz2 hb12 ba3 hbt))
 obtain ⟨b3, hb3⟩ : ∃ b, w2.heap.size = b := ⟨_, rfl⟩
 rw [hb3] at HC3 ⊢
 clear hb3
 generalize w2.alloc (.cells #[.slice ar nr kr, .slice as' ns ks, .slice al nl kl] 28) = W3 at *
 obtain ⟨H, T, htc⟩ := zsl HTP.out
 have HTC := zH htc
 clear htc
 obtain ⟨_, c0, c1, c2, _, _, _⟩ := HC3.out
 go_upto_region 3 with (first
  |(go_at_call 43; (with_reducible refine (HTC.out.hit_c HCH.out.raw).mono ?_); rintro e4 w4 ⟨v4, rfl, hv4, hb4⟩
    clear c0 c1 c2
    obtain ⟨t4, x4, y4, rfl, ⟨a41, l41, k41, rfl, _⟩, ⟨a42, l42, k42, rfl, _⟩⟩ := hv4.isF
    have hba := zba w4 (.cells #[.bool t4, .slice a41 l41 k41, .slice a42 l42 k42] 38)
    have hbb := zaa hb4 hba
    have HC4 := zH (C3.new w4 38 (.bool t4) (.slice a41 l41 k41) (.slice a42 l42 k42))
    have HF4 := zH (hv4.below hba)
    replace HB := zH (zaa HB.out hbb); replace HC3 := zH (HC3.out.belowS hbb); replace HCH := zH (HCH.out.below hbb); replace HST := zH (HST.out.below hbb)
    clear hv4 hb4 hba hbb))
 obtain ⟨b4, hb4⟩ : ∃ b, w4.heap.size = b := ⟨_, rfl⟩
 rw [hb4] at HC4 ⊢
 clear hb4
 generalize w4.alloc (.cells #[.bool t4, .slice a41 l41 k41, .slice a42 l42 k42] 38) = W4 at *
 obtain ⟨_, c0, c1, c2, _, _, _⟩ := HC3.out
 go_upto_region 4 with (first
  |(go_at_call 45; (with_reducible refine (HTC.out.mean_cx HCH.out).mono ?_); rintro e6 w6 ⟨t6, a61, l61, k61, a62, l62, k62, z6, rfl, hz6, hb6⟩
    clear c0 c1 c2
    have hba := zba w6 (.cells #[.bool t6, .slice a61 l61 k61, .slice a62 l62 k62] 38)
    have hbb := zaa hb6 hba
    have HC6 := zH (C3.new w6 38 (.bool t6) (.slice a61 l61 k61) (.slice a62 l62 k62))
    have HZ6 : Hid (AllS c.raw ∧ z6 = 0 ∧ zoa (w6.alloc (.cells #[.bool t6, .slice a61 l61 k61, .slice a62 l62 k62] 38)) (.agg #[.bool t6, .slice a61 l61 k61, .slice a62 l62 k62]) (stS c.raw T) ∨ ¬ AllS c.raw ∧ z6 = 14) := zH (hz6.imp (fun h => ⟨h.1, h.2.1, h.2.2.below hba⟩) id)
    replace HB := zH (zaa HB.out hbb); replace HC3 := zH (HC3.out.belowS hbb); replace HCH := zH (HCH.out.below hbb); replace HST := zH (HST.out.below hbb); replace HC4 := zH (HC4.out.belowS hbb); replace HF4 := zH (HF4.out.below hbb)
    clear hz6 hb6 hba hbb))
 obtain ⟨b6, hb6⟩ : ∃ b, w6.heap.size = b := ⟨_, rfl⟩
 rw [hb6] at HC6 ⊢
 clear hb6
 generalize w6.alloc (.cells #[.bool t6, .slice a61 l61 k61, .slice a62 l62 k62] 38) = W6 at *
 have HFH : Hid (∀ k, k ≤ c.start.length → fits (0 + sg k fun t => c.start.getD t 0 * H t)) := zH (fun k hk => HTC.out.fsH (over.zero _ _) (fun t ht => HTC.out.st ht) hk)
 have HFT : Hid (∀ k, k ≤ c.start.length → fits (0 + sg k fun t => c.start.getD t 0 * T t)) := zH (fun k hk => HTC.out.fsT (over.zero _ _) (fun t ht => HTC.out.st ht) hk)
 rcases HZ6.out with ⟨hall, rfl, hm6⟩ | ⟨hnall, rfl⟩
 ·go_upto_region 7 with (first
   |(go_at_call 20; (with_reducible refine (zob W6).mono ?_); rintro e7 w7 ⟨v7, rfl, hv7, hb7⟩
     obtain ⟨t7, x7, y7, rfl, ⟨a71, l71, k71, rfl, _⟩, ⟨a72, l72, k72, rfl, _⟩⟩ := hv7.isF)
   |(go_at_call 20; (with_reducible refine (zob w7).mono ?_); rintro e8 w8 ⟨v8, rfl, hv8, hb8⟩
     obtain ⟨t8, x8, y8, rfl, ⟨a81, l81, k81, rfl, _⟩, ⟨a82, l82, k82, rfl, _⟩⟩ := hv8.isF
     have ba1 := zba w8 (.cells #[.bool t7, .slice a71 l71 k71, .slice a72 l72 k72] 38)
     have ba2 := zba (w8.alloc (.cells #[.bool t7, .slice a71 l71 k71, .slice a72 l72 k72] 38)) (.cells #[.bool t8, .slice a81 l81 k81, .slice a82 l82 k82] 38)
     have HBR := zH (zaa (zaa hb7 hb8) (zaa ba1 ba2))
     have HC8 := zH ((C3.new w8 38 (.bool t7) (.slice a71 l71 k71) (.slice a72 l72 k72)).belowS ba2)
     have HC9 := zH (C3.newB (b := w8.heap.size + 1) (w8.alloc (.cells #[.bool t7, .slice a71 l71 k71, .slice a72 l72 k72] 38)) 38 (.bool t8) (.slice a81 l81 k81) (.slice a82 l82 k82) (by simp))
     have HF8 := zH (((hv7.below hb8).below ba1).below ba2)
     have HF9 := zH ((hv8.below ba1).below ba2)
     have HL8 : Hid (W6.heap.size ≤ w8.heap.size) := zH (Nat.le_trans hb7.size hb8.size)
     clear hv7 hv8 hb7 hb8 ba1 ba2))
  obtain ⟨b8, hb8⟩ : ∃ b, w8.heap.size = b := ⟨_, rfl⟩
  rw [hb8] at HC8 HC9 HL8 ⊢
  clear hb8
  generalize (w8.alloc (.cells #[.bool t7, .slice a71 l71 k71, .slice a72 l72 k72] 38)).alloc (.cells #[.bool t8, .slice a81 l81 k81, .slice a82 l82 k82] 38) = W8 at *
  obtain ⟨b9, hb9⟩ : ∃ b, b8 + 1 = b := ⟨_, rfl⟩
  have HL9 : Hid (W6.heap.size ≤ b9) := zH (by have := HL8.out; omega)
  have H98 : Hid (b9 ≠ b8) := zH (by omega)
  have H89 : Hid (b8 ≠ b9) := zH (by omega)
  rw [hb9] at HC9 ⊢
  clear hb9
  go_wp2_with fail
  go_loopg [10] (ns) (fun g u10 wr => ∃ (k : Nat) (t8 : Bool) (a81 : Option Addr) (l81 k81 : Nat) (a82 : Option Addr) (l82 k82 : Nat) (t9 : Bool) (a91 : Option Addr) (l91 k91 : Nat) (a92 : Option Addr) (l92 k92 : Nat), k ≤ ns ∧ g = ns - k ∧ u10 = .int .i64 k ∧ C3 wr b8 (.bool t8) (.slice a81 l81 k81) (.slice a82 l82 k82) ∧ zoa wr (.agg #[.bool t8, .slice a81 l81 k81, .slice a82 l82 k82]) (0 + sg k fun t => c.start.getD t 0 * H t) ∧ C3 wr b9 (.bool t9) (.slice a91 l91 k91) (.slice a92 l92 k92) ∧ zoa wr (.agg #[.bool t9, .slice a91 l91 k91, .slice a92 l92 k92]) (0 + sg k fun t => c.start.getD t 0 * T t) ∧ Below W6.heap.size W6 wr)
  case atStart =>
   refine ⟨0, _, _, _, _, _, _, _, _, _, _, _, _, _, _, Nat.zero_le _, rfl, rfl, HC8.out, ?_, HC9.out, ?_, HBR.out⟩
   ·show zoa _ _ (0 + 0); rw [Rat.add_zero]; exact HF8.out
   ·show zoa _ _ (0 + 0); rw [Rat.add_zero]; exact HF9.out
  case round =>
   obtain ⟨k, t8, a81, l81, k81, a82, l82, k82, t9, a91, l91, k91, a92, l92, k92, hkn, hg, rfl, hc8, hf8, hc9, hf9, hbr⟩ := hrel
   obtain ⟨W9, hw9⟩ : ∃ w6, w6 = wr := ⟨_, rfl⟩
   subst hw9
   have HG := zH hg
   have HC8 := zH hc8
   have HF8 := zH hf8
   have HC9 := zH hc9
   have HF9 := zH hf9
   have HBR := zH hbr
   obtain ⟨_, c0, c1, c2, _, _, _⟩ := HC3.out.belowS HBR.out
   clear hg hc8 hf8 hc9 hf9 hbr
   by_cases hkl : k < ns
   ·have hkc : k < c.start.length := by rw [← HNS.out]; exact hkl
    obtain ⟨ts, as1, ls1, ks1, as2, ls2, ks2, g1, g2, g3, hfs⟩ := (HST.out.below HBR.out).cellsAt (k := k) hkc
    obtain ⟨s, hs⟩ : ∃ s, c.start.getD k 0 = s := ⟨_, rfl⟩
    have HS := zH hs
    have HKC := zH hkc
    rw [hs] at hfs
    have HFS := zH hfs
    have HFI : Hid (fits s) := zH (by rw [← hs]; exact zej (HTC.out.st hkc) (by decide +kernel))
    have i1 : (0 : Int) ≤ (k : Int) := by omega
    have i2 : (k : Int) < (ns : Nat) := by omega
    clear hfs hs hkc
    by_cases hs0 : s = 0
    ·go_wp2_with (first
      |(go_at_call 34; (with_reducible refine (sgn_z _ HFS.out HFI.out hs0).mono ?_); rintro e10 w10 ⟨rfl, hb10⟩
        clear c0 c1 c2 g1 g2 g3
        replace HBR := zH (zaa HBR.out hb10); replace HC8 := zH (HC8.out.belowS hb10); replace HF8 := zH (HF8.out.below hb10); replace HC9 := zH (HC9.out.belowS hb10); replace HF9 := zH (HF9.out.below hb10)))
     go_roundg (ns - (k + 1))
     case measure => (have := HG.out; omega)
     case rel =>
      refine ⟨k + 1, _, _, _, _, _, _, _, _, _, _, _, _, _, _, by omega, rfl, by go_num, HC8.out, ?_, HC9.out, ?_, HBR.out⟩
      ·have e : (0 + sg (k + 1) fun t => c.start.getD t 0 * H t) = 0 + sg k fun t => c.start.getD t 0 * H t := by
        show 0 + (_ + c.start.getD k 0 * H k) = _
        rw [HS.out, hs0, Rat.zero_mul, Rat.add_zero]
       rw [e]
       exact HF8.out
      ·have e : (0 + sg (k + 1) fun t => c.start.getD t 0 * T t) = 0 + sg k fun t => c.start.getD t 0 * T t := by
        show 0 + (_ + c.start.getD k 0 * T k) = _
        rw [HS.out, hs0, Rat.zero_mul, Rat.add_zero]
       rw [e]
       exact HF9.out
    ·go_upto_region 11 with (first
      |(go_at_call 34; (with_reducible refine (sgn_nz _ HFS.out HFI.out hs0).mono ?_); rintro e10 w10 ⟨z10, rfl, hz10, hb10⟩
        clear c0 c1 c2 g1 g2 g3
        replace HBR := zH (zaa HBR.out hb10); replace HC8 := zH (HC8.out.belowS hb10); replace HF8 := zH (HF8.out.below hb10); replace HC9 := zH (HC9.out.belowS hb10); replace HF9 := zH (HF9.out.below hb10)))
     have hsu : AllS c.raw → zzf c k := fun h => HTC.out.alls.1 h k HKC.out (by
      have h1 := HTC.out.st_nn HKC.out
      rw [HS.out] at h1 ⊢
      grind)
     have HSU := zH hsu
     have HPH : Hid (fits (H k) ∧ fits (s * H k)) := zH ⟨HTC.out.fH HKC.out, by rw [← HS.out]; exact HTC.out.fpH ((HTC.out.st HKC.out).mono (by decide)) HKC.out⟩
     have HPT : Hid (fits (T k) ∧ fits (s * T k)) := zH ⟨HTC.out.fT HKC.out, by rw [← HS.out]; exact HTC.out.fpT ((HTC.out.st HKC.out).mono (by decide)) HKC.out⟩
     clear hsu HFS
     obtain ⟨_, c0, c1, c2, _, _, _⟩ := HC3.out.belowS HBR.out
     go_upto_region 12 with (first
      |(go_at_call 44; (with_reducible refine (zpe _ c k _ (HCH.out.below HBR.out) (by have := HTP.out.n5; omega) HKC.out).mono ?_); rintro e11 w11 ⟨v11, rfl, hv11, hb11⟩
        have HV11 : Hid (zwc w11 v11 (frm c k)) := zH hv11
        clear c0 c1 c2
        replace HBR := zH (zaa HBR.out hb11); replace HC8 := zH (HC8.out.belowS hb11); replace HF8 := zH (HF8.out.below hb11); replace HC9 := zH (HC9.out.belowS hb11); replace HF9 := zH (HF9.out.below hb11)
        clear hv11 hb11)
      |(go_at_call 43; (with_reducible refine (HTC.out.hit_f HKC.out HV11.out.raw).mono ?_); rintro e12 w12 ⟨v12, rfl, hv12, hb12⟩
        obtain ⟨t12, x12, y12, rfl, ⟨a121, l121, k121, rfl, _⟩, ⟨a122, l122, k122, rfl, _⟩⟩ := hv12.isF
        have hba := zba w12 (.cells #[.bool t12, .slice a121 l121 k121, .slice a122 l122 k122] 38)
        have hbb := zaa hb12 hba
        have HC12 := zH (C3.new w12 38 (.bool t12) (.slice a121 l121 k121) (.slice a122 l122 k122))
        have HF12 := zH (hv12.below hba)
        replace HBR := zH (zaa HBR.out hbb); replace HC8 := zH (HC8.out.belowS hbb); replace HF8 := zH (HF8.out.below hbb); replace HC9 := zH (HC9.out.belowS hbb); replace HF9 := zH (HF9.out.below hbb)
        clear hv12 hb12 hba hbb))
     obtain ⟨b12, hb12⟩ : ∃ b, w12.heap.size = b := ⟨_, rfl⟩
     rw [hb12] at HC12 ⊢
     clear hb12
     generalize w12.alloc (.cells #[.bool t12, .slice a121 l121 k121, .slice a122 l122 k122] 38) = W12 at *
     clear HV11
     obtain ⟨_, c0, c1, c2, _, _, _⟩ := HC3.out.belowS HBR.out
     go_upto_region 13 with (first
      |(go_at_call 44; (with_reducible refine (zpe _ c k _ (HCH.out.below HBR.out) (by have := HTP.out.n5; omega) HKC.out).mono ?_); rintro e13 w13 ⟨v13, rfl, hv13, hb13⟩
        have HV13 : Hid (zwc w13 v13 (frm c k)) := zH hv13
        clear c0 c1 c2
        replace HBR := zH (zaa HBR.out hb13); replace HC8 := zH (HC8.out.belowS hb13); replace HF8 := zH (HF8.out.below hb13); replace HC9 := zH (HC9.out.belowS hb13); replace HF9 := zH (HF9.out.below hb13); replace HC12 := zH (HC12.out.belowS hb13); replace HF12 := zH (HF12.out.below hb13)
        clear hv13 hb13)
      |(go_at_call 45; (with_reducible refine (HTC.out.mean_fx HKC.out HV13.out).mono ?_); rintro e14 w14 ⟨t14, a141, l141, k141, a142, l142, k142, z14, rfl, hz14, hb14⟩
        have hba := zba w14 (.cells #[.bool t14, .slice a141 l141 k141, .slice a142 l142 k142] 38)
        have hbb := zaa hb14 hba
        have HC14 := zH (C3.new w14 38 (.bool t14) (.slice a141 l141 k141) (.slice a142 l142 k142))
        have HZ14 : Hid (zzf c k ∧ z14 = 0 ∧ zoa (w14.alloc (.cells #[.bool t14, .slice a141 l141 k141, .slice a142 l142 k142] 38)) (.agg #[.bool t14, .slice a141 l141 k141, .slice a142 l142 k142]) (T k) ∨ ¬ zzf c k ∧ z14 = 14) := zH (hz14.imp (fun h => ⟨h.1, h.2.1, h.2.2.below hba⟩) id)
        have HLT14 := zH (Nat.lt_of_lt_of_le HC8.out.lt hb14.size)
        replace HBR := zH (zaa HBR.out hbb); replace HC8 := zH (HC8.out.belowS hbb); replace HF8 := zH (HF8.out.below hbb); replace HC9 := zH (HC9.out.belowS hbb); replace HF9 := zH (HF9.out.below hbb); replace HC12 := zH (HC12.out.belowS hbb); replace HF12 := zH (HF12.out.below hbb)
        clear hz14 hb14 hba hbb))
     obtain ⟨b14, hb14⟩ : ∃ b, w14.heap.size = b := ⟨_, rfl⟩
     rw [hb14] at HC14 HLT14 ⊢
     clear hb14
     generalize w14.alloc (.cells #[.bool t14, .slice a141 l141 k141, .slice a142 l142 k142] 38) = W14 at *
     clear HV13
     obtain ⟨_, rfl, hm14⟩ := HZ14.out.resolve_right (fun h => h.1 (HSU.out hall))
     have HF14 := zH hm14
     clear hm14
     obtain ⟨_, c0, c1, c2, _, _, _⟩ := HC3.out.belowS HBR.out
     go_upto_region 15 with fail
     clear c0 c1 c2
     obtain ⟨_, c0, c1, c2, _, _, _⟩ := HC3.out.belowS HBR.out
     obtain ⟨ts, as1, ls1, ks1, as2, ls2, ks2, g1, g2, g3, hfs⟩ := (HST.out.below HBR.out).cellsAt (k := k) (by rw [← HNS.out]; exact hkl)
     rw [HS.out] at hfs
     have HFS := zH hfs
     obtain ⟨_, p1, p2, p3, _, _, _⟩ := HC12.out
     have S0 := zH (And.intro c1 (And.intro g1 (And.intro g2 (And.intro g3 (And.intro p1 (And.intro p2 (And.intro p3 p3)))))))
     clear c0 c1 c2 g1 g2 g3 hfs p1 p2 p3
     go_cut [15] (fun u15 wy => ∃ (b15 : Nat) (t' : Bool) (a1 : Option Addr) (l1 k1 : Nat) (a2 : Option Addr) (l2 k2 : Nat), u15 = .pointer (some ⟨b15, 0, none⟩) ∧ C3 wy b15 (.bool t') (.slice a1 l1 k1) (.slice a2 l2 k2) ∧ zoa wy (.agg #[.bool t', .slice a1 l1 k1, .slice a2 l2 k2]) (s * H k) ∧ Below W14.heap.size W14 wy)
     case first =>
      go_region_held3 (fun w' => w'.cell? ⟨b3, 1, none⟩ = some (.slice as' ns ks) ∧ w'.cell? (ptr (.slice as' ns ks) (k * 3)) = some (.bool ts) ∧ w'.cell? (ptr (.slice as' ns ks) (k * 3 + 1)) = some (.slice as1 ls1 ks1) ∧ w'.cell? (ptr (.slice as' ns ks) (k * 3 + 2)) = some (.slice as2 ls2 ks2) ∧ w'.cell? ⟨b12, 0, none⟩ = some (.bool t12) ∧ w'.cell? ⟨b12, 1, none⟩ = some (.slice a121 l121 k121) ∧ w'.cell? ⟨b12, 2, none⟩ = some (.slice a122 l122 k122) ∧ w'.cell? ⟨b12, 2, none⟩ = some (.slice a122 l122 k122) ∧ Below W14.heap.size W14 w') (first
       | with_reducible exact kp8a S0.out (zha _)
       | with_reducible exact kp8w (by assumption) (zba _ _)
       | with_reducible exact kp8w (by assumption) (by assumption)
       | with_reducible exact kp8a S0.out (zaa hB32 (zba _ _))
       | with_reducible exact kp8s S0.out hB32 (Nat.le_refl _) _ _ _
       | with_reducible exact kp8s S0.out hB32 hB31.size _ _ _
       | with_reducible exact kp8s S0.out (zaa hB32 (zba _ _)) hB32.size _ _ _) (first
       |(go_at_call 38; (with_reducible refine (zae _ _ s _ _ (HFS.out.below (zlo (by assumption))) (HF12.out.below (zlo (by assumption))) HFI.out HPH.out.1 HPH.out.2).mono ?_); rintro e32 w32 ⟨v32, rfl, hv32, hb32⟩
         obtain ⟨t32, x32, y32, rfl, ⟨a321, l321, k321, rfl, _⟩, ⟨a322, l322, k322, rfl, _⟩⟩ := hv32.isF
         have hB32 := zaa (zlo (by assumption)) hb32
         have hc6 := (fun (p : Addr) hp => hb32.cell (p := p) hp)
         have hf6 := (fun (p : Addr) hp => hb32.frozen (p := p) hp)
         have zq2 := hb32.size
         (try simp only [zei, zdi] at zq2)
         (try have z2 : W14.heap.size < w32.heap.size := (by omega))))
      all_goals
       have hE := zlo (by assumption)
       go_wp2_with fail
       go_meet
       case rel =>
        first
         | exact ⟨_, _, _, _, _, _, _, _, rfl, C3.new w32 _ _ _ _, hv32.below (zba _ _), hE⟩
         | exact ⟨_, _, _, _, _, _, _, _, rfl, ((C3.newB (b := W14.heap.size) W14.drew 38 (.bool false) (.slice none 0 0) (.slice none 0 0) rfl).belowS hb32).set _ _ _, hv32.set3 ((C3.newB (b := W14.heap.size) W14.drew 38 (.bool false) (.slice none 0 0) (.slice none 0 0) rfl).belowS hb32) (fun z => by simp) (fun z => by simp) _ _ _, hE⟩
     case rest =>
      obtain ⟨b15, t15, a151, l151, k151, a152, l152, k152, rfl, hc, hf, hb6⟩ := hcut
      obtain ⟨W15, hw3⟩ : ∃ w3, w3 = wc := ⟨_, rfl⟩
      subst hw3
      have HC15 := zH hc
      have HF15 := zH hf
      clear hc hf HFS S0
      have HP15 : Hid (fits (H k) ∧ fits (s * H k)) := HPH
      have HE15 : Hid ((0 + sg k fun t => c.start.getD t 0 * H t) + s * H k = 0 + sg (k + 1) fun t => c.start.getD t 0 * H t) := zH (by
       show _ = 0 + (_ + c.start.getD k 0 * H k)
       rw [HS.out, Rat.add_assoc])
      replace HBR := zH (zaa HBR.out hb6); replace HC8 := zH (HC8.out.belowS hb6); replace HF8 := zH (HF8.out.below hb6); replace HC9 := zH (HC9.out.belowS hb6); replace HF9 := zH (HF9.out.below hb6); replace HC14 := zH (HC14.out.belowS hb6); replace HF14 := zH (HF14.out.below hb6)
      clear hb6
      have H148 : Hid (b14 ≠ b8) := zH (by have h1 := HLT14.out; omega)
      obtain ⟨_, d0, d1, d2, f0, f1, f2⟩ := HC8.out
      obtain ⟨_, p0, p1, p2, _, _, _⟩ := HC15.out
      go_upto_region 17 with (first
       |(go_at_call 19; (with_reducible refine (zdd _ _ _ _ _ HF8.out HF15.out (HFH.out k (by rw [← HNS.out]; omega)) HP15.out.2 (by rw [HE15.out]; exact HFH.out (k + 1) (by rw [← HNS.out]; omega))).mono ?_); rw [HE15.out]; rintro e16 w16 ⟨v16, rfl, hv16, hb16⟩
         obtain ⟨t16, x16, y16, rfl, ⟨a161, l161, k161, rfl, _⟩, ⟨a162, l162, k162, rfl, _⟩⟩ := hv16.isF
         have HV16 := zH hv16
         clear d0 d1 d2 f0 f1 f2 p0 p1 p2
         replace HBR := zH (zaa HBR.out hb16); replace HC8 := zH (HC8.out.belowS hb16); replace HF8 := zH (HF8.out.below hb16); replace HC9 := zH (HC9.out.belowS hb16); replace HF9 := zH (HF9.out.below hb16); replace HC14 := zH (HC14.out.belowS hb16); replace HF14 := zH (HF14.out.below hb16)
         obtain ⟨_, d0, d1, d2, f0, f1, f2⟩ := HC8.out
         clear hv16 hb16))
      clear d0 d1 d2 f0 f1 f2
      have HF8 := zH (HV16.out.set3 HC8.out (fun z => by simp) (fun z => by simp) (.bool t16) (.slice a161 l161 k161) (.slice a162 l162 k162))
      have HF9 := zH (HF9.out.set3 HC8.out (fun z => by simp) (fun z => by simp) (.bool t16) (.slice a161 l161 k161) (.slice a162 l162 k162))
      have HC9 := zH (HC9.out.set_other H98.out (.bool t16) (.slice a161 l161 k161) (.slice a162 l162 k162))
      have HF14 := zH (HF14.out.set3 HC8.out (fun z => by simp) (fun z => by simp) (.bool t16) (.slice a161 l161 k161) (.slice a162 l162 k162))
      have HC14 := zH (HC14.out.set_other H148.out (.bool t16) (.slice a161 l161 k161) (.slice a162 l162 k162))
      have HBR := zH (zga HBR.out HL8.out (.bool t16) (.slice a161 l161 k161) (.slice a162 l162 k162))
      have HC8 := zH (HC8.out.set (.bool t16) (.slice a161 l161 k161) (.slice a162 l162 k162))
      generalize (((w16.setCell ⟨b8, 0, none⟩ (.bool t16)).setCell ⟨b8, 1, none⟩ (.slice a161 l161 k161)).setCell ⟨b8, 2, none⟩ (.slice a162 l162 k162)) = X16 at *
      go_upto_region 18 with fail
      obtain ⟨_, c0, c1, c2, _, _, _⟩ := HC3.out.belowS HBR.out
      obtain ⟨ts, as1, ls1, ks1, as2, ls2, ks2, g1, g2, g3, hfs⟩ := (HST.out.below HBR.out).cellsAt (k := k) (by rw [← HNS.out]; exact hkl)
      rw [HS.out] at hfs
      have HFS := zH hfs
      obtain ⟨_, p1, p2, p3, _, _, _⟩ := HC14.out
      have S0 := zH (And.intro c1 (And.intro g1 (And.intro g2 (And.intro g3 (And.intro p1 (And.intro p2 (And.intro p3 p3)))))))
      clear c0 c1 c2 g1 g2 g3 hfs p1 p2 p3
      go_cut [17] (fun u17 wy => ∃ (b17 : Nat) (t' : Bool) (a1 : Option Addr) (l1 k1 : Nat) (a2 : Option Addr) (l2 k2 : Nat), u17 = .pointer (some ⟨b17, 0, none⟩) ∧ C3 wy b17 (.bool t') (.slice a1 l1 k1) (.slice a2 l2 k2) ∧ zoa wy (.agg #[.bool t', .slice a1 l1 k1, .slice a2 l2 k2]) (s * T k) ∧ Below X16.heap.size X16 wy)
      case first =>
       go_region_held3 (fun w' => w'.cell? ⟨b3, 1, none⟩ = some (.slice as' ns ks) ∧ w'.cell? (ptr (.slice as' ns ks) (k * 3)) = some (.bool ts) ∧ w'.cell? (ptr (.slice as' ns ks) (k * 3 + 1)) = some (.slice as1 ls1 ks1) ∧ w'.cell? (ptr (.slice as' ns ks) (k * 3 + 2)) = some (.slice as2 ls2 ks2) ∧ w'.cell? ⟨b14, 0, none⟩ = some (.bool t14) ∧ w'.cell? ⟨b14, 1, none⟩ = some (.slice a141 l141 k141) ∧ w'.cell? ⟨b14, 2, none⟩ = some (.slice a142 l142 k142) ∧ w'.cell? ⟨b14, 2, none⟩ = some (.slice a142 l142 k142) ∧ Below X16.heap.size X16 w') (first
        | with_reducible exact kp8a S0.out (zha _)
        | with_reducible exact kp8w (by assumption) (zba _ _)
        | with_reducible exact kp8w (by assumption) (by assumption)
        | with_reducible exact kp8a S0.out (zaa hB32 (zba _ _))
        | with_reducible exact kp8s S0.out hB32 (Nat.le_refl _) _ _ _
        | with_reducible exact kp8s S0.out hB32 hB31.size _ _ _
        | with_reducible exact kp8s S0.out (zaa hB32 (zba _ _)) hB32.size _ _ _) (first
        |(go_at_call 38; (with_reducible refine (zae _ _ s _ _ (HFS.out.below (zlo (by assumption))) (HF14.out.below (zlo (by assumption))) HFI.out HPT.out.1 HPT.out.2).mono ?_); rintro e32 w32 ⟨v32, rfl, hv32, hb32⟩
          obtain ⟨t32, x32, y32, rfl, ⟨a321, l321, k321, rfl, _⟩, ⟨a322, l322, k322, rfl, _⟩⟩ := hv32.isF
          have hB32 := zaa (zlo (by assumption)) hb32
          have hc6 := (fun (p : Addr) hp => hb32.cell (p := p) hp)
          have hf6 := (fun (p : Addr) hp => hb32.frozen (p := p) hp)
          have zq2 := hb32.size
          (try simp only [zei, zdi] at zq2)
          (try have z2 : X16.heap.size < w32.heap.size := (by omega))))
       all_goals
        have hE := zlo (by assumption)
        go_wp2_with fail
        go_meet
        case rel =>
         first
          | exact ⟨_, _, _, _, _, _, _, _, rfl, C3.new w32 _ _ _ _, hv32.below (zba _ _), hE⟩
          | exact ⟨_, _, _, _, _, _, _, _, rfl, ((C3.newB (b := X16.heap.size) X16.drew 38 (.bool false) (.slice none 0 0) (.slice none 0 0) rfl).belowS hb32).set _ _ _, hv32.set3 ((C3.newB (b := X16.heap.size) X16.drew 38 (.bool false) (.slice none 0 0) (.slice none 0 0) rfl).belowS hb32) (fun z => by simp) (fun z => by simp) _ _ _, hE⟩
      case rest =>
       obtain ⟨b17, t17, a171, l171, k171, a172, l172, k172, rfl, hc, hf, hb6⟩ := hcut
       obtain ⟨W17, hw3⟩ : ∃ w3, w3 = wc := ⟨_, rfl⟩
       subst hw3
       have HC17 := zH hc
       have HF17 := zH hf
       clear hc hf HFS S0
       have HP17 : Hid (fits (T k) ∧ fits (s * T k)) := HPT
       have HE17 : Hid ((0 + sg k fun t => c.start.getD t 0 * T t) + s * T k = 0 + sg (k + 1) fun t => c.start.getD t 0 * T t) := zH (by
        show _ = 0 + (_ + c.start.getD k 0 * T k)
        rw [HS.out, Rat.add_assoc])
       replace HBR := zH (zaa HBR.out hb6); replace HC8 := zH (HC8.out.belowS hb6); replace HF8 := zH (HF8.out.below hb6); replace HC9 := zH (HC9.out.belowS hb6); replace HF9 := zH (HF9.out.below hb6)
       clear hb6
       obtain ⟨_, d0, d1, d2, f0, f1, f2⟩ := HC9.out
       obtain ⟨_, p0, p1, p2, _, _, _⟩ := HC17.out
       go_wp2_with (first
        |(go_at_call 19; (with_reducible refine (zdd _ _ _ _ _ HF9.out HF17.out (HFT.out k (by rw [← HNS.out]; omega)) HP17.out.2 (by rw [HE17.out]; exact HFT.out (k + 1) (by rw [← HNS.out]; omega))).mono ?_); rw [HE17.out]; rintro e18 w18 ⟨v18, rfl, hv18, hb18⟩
          obtain ⟨t18, x18, y18, rfl, ⟨a181, l181, k181, rfl, _⟩, ⟨a182, l182, k182, rfl, _⟩⟩ := hv18.isF
          have HV18 := zH hv18
          clear d0 d1 d2 f0 f1 f2 p0 p1 p2
          replace HBR := zH (zaa HBR.out hb18); replace HC8 := zH (HC8.out.belowS hb18); replace HF8 := zH (HF8.out.below hb18); replace HC9 := zH (HC9.out.belowS hb18)
          obtain ⟨_, d0, d1, d2, f0, f1, f2⟩ := HC9.out
          clear hv18 hb18))
       go_roundg (ns - (k + 1))
       case measure => (have := HG.out; omega)
       case rel =>
        exact ⟨k + 1, _, _, _, _, _, _, _, _, _, _, _, _, _, _, by omega, rfl, by go_num, HC8.out.set_other H89.out _ _ _, HF8.out.set3 HC9.out (fun z => by simp) (fun z => by simp) _ _ _, HC9.out.set _ _ _, HV18.out.set3 HC9.out (fun z => by simp) (fun z => by simp) _ _ _, zga HBR.out HL9.out _ _ _⟩
   ·have HQH : Hid (stS c.raw H = 0 + sg ns fun t => c.start.getD t 0 * H t) := zH (by rw [HTC.out.sH, HNS.out, Rat.zero_add])
    have HFQ : Hid (fits (stS c.raw H)) := zH (by rw [HQH.out]; exact HFH.out ns (by rw [← HNS.out]; exact Nat.le_refl _))
    have HQT : Hid (stS c.raw T = 0 + sg ns fun t => c.start.getD t 0 * T t) := zH (by rw [HTC.out.sT, HNS.out, Rat.zero_add])
    have HFR : Hid (fits (stS c.raw T)) := zH (by rw [HQT.out]; exact HFT.out ns (by rw [← HNS.out]; exact Nat.le_refl _))
    obtain rfl : k = ns := by omega
    have HF4 := zH (HF4.out.below HBR.out)
    have HF6 := zH (hm6.below HBR.out)
    obtain ⟨_, d0, d1, d2, _, _, _⟩ := HC4.out.belowS HBR.out
    obtain ⟨_, e0, e1, e2, _, _, _⟩ := HC8.out
    obtain ⟨_, p0, p1, p2, _, _, _⟩ := HC6.out.belowS HBR.out
    obtain ⟨_, q0, q1, q2, _, _, _⟩ := HC9.out
    go_wp2_with (first
     |(go_at_call 33; (with_reducible refine (zwi _ _ HF4.out HF8.out HFQ.out HQH.out).mono ?_); rintro e20 w20 ⟨rfl, hb20⟩
       clear c0 c1 c2 d0 d1 d2 e0 e1 e2 p0 p1 p2 q0 q1 q2
       replace HBR := zH (zaa HBR.out hb20); replace HF6 := zH (HF6.out.below hb20); replace HF9 := zH (HF9.out.below hb20); replace HC9 := zH (HC9.out.belowS hb20)
       obtain ⟨_, p0, p1, p2, _, _, _⟩ := HC6.out.belowS HBR.out
       obtain ⟨_, q0, q1, q2, _, _, _⟩ := HC9.out
       clear hb20)
     |(go_at_call 33; (with_reducible refine (zwi _ _ HF6.out HF9.out HFR.out HQT.out).mono ?_); rintro e21 w21 ⟨rfl, hb21⟩
       clear p0 p1 p2 q0 q1 q2
       replace HBR := zH (zaa HBR.out hb21)
       clear hb21)
     |(go_at_call 46; (with_reducible refine (zme _).mono ?_); rintro e22 w22 ⟨rfl, hb22⟩
       replace HBR := zH (zaa HBR.out hb22)
       clear hb22))
    go_ret
    exact ⟨rfl, HB.out.trans (HBR.out.mono HB.out.size)⟩
 ·go_upto_region 7 with (first
   |(go_at_call 20; (with_reducible refine (zob W6).mono ?_); rintro e7 w7 ⟨v7, rfl, hv7, hb7⟩
     obtain ⟨t7, x7, y7, rfl, ⟨a71, l71, k71, rfl, _⟩, ⟨a72, l72, k72, rfl, _⟩⟩ := hv7.isF)
   |(go_at_call 20; (with_reducible refine (zob w7).mono ?_); rintro e8 w8 ⟨v8, rfl, hv8, hb8⟩
     obtain ⟨t8, x8, y8, rfl, ⟨a81, l81, k81, rfl, _⟩, ⟨a82, l82, k82, rfl, _⟩⟩ := hv8.isF
     have ba1 := zba w8 (.cells #[.bool t7, .slice a71 l71 k71, .slice a72 l72 k72] 38)
     have ba2 := zba (w8.alloc (.cells #[.bool t7, .slice a71 l71 k71, .slice a72 l72 k72] 38)) (.cells #[.bool t8, .slice a81 l81 k81, .slice a82 l82 k82] 38)
     have HBR := zH (zaa (zaa hb7 hb8) (zaa ba1 ba2))
     have HC8 := zH ((C3.new w8 38 (.bool t7) (.slice a71 l71 k71) (.slice a72 l72 k72)).belowS ba2)
     have HC9 := zH (C3.newB (b := w8.heap.size + 1) (w8.alloc (.cells #[.bool t7, .slice a71 l71 k71, .slice a72 l72 k72] 38)) 38 (.bool t8) (.slice a81 l81 k81) (.slice a82 l82 k82) (by simp))
     have HF8 := zH (((hv7.below hb8).below ba1).below ba2)
     have HF9 := zH ((hv8.below ba1).below ba2)
     have HL8 : Hid (W6.heap.size ≤ w8.heap.size) := zH (Nat.le_trans hb7.size hb8.size)
     clear hv7 hv8 hb7 hb8 ba1 ba2))
  obtain ⟨b8, hb8⟩ : ∃ b, w8.heap.size = b := ⟨_, rfl⟩
  rw [hb8] at HC8 HC9 HL8 ⊢
  clear hb8
  generalize (w8.alloc (.cells #[.bool t7, .slice a71 l71 k71, .slice a72 l72 k72] 38)).alloc (.cells #[.bool t8, .slice a81 l81 k81, .slice a82 l82 k82] 38) = W8 at *
  obtain ⟨b9, hb9⟩ : ∃ b, b8 + 1 = b := ⟨_, rfl⟩
  have HL9 : Hid (W6.heap.size ≤ b9) := zH (by have := HL8.out; omega)
  have H98 : Hid (b9 ≠ b8) := zH (by omega)
  have H89 : Hid (b8 ≠ b9) := zH (by omega)
  rw [hb9] at HC9 ⊢
  clear hb9
  go_wp2_with fail
  go_loopg [10] (ns) (fun g u10 wr => ∃ (k : Nat) (t8 : Bool) (a81 : Option Addr) (l81 k81 : Nat) (a82 : Option Addr) (l82 k82 : Nat) (t9 : Bool) (a91 : Option Addr) (l91 k91 : Nat) (a92 : Option Addr) (l92 k92 : Nat), k ≤ ns ∧ g = ns - k ∧ u10 = .int .i64 k ∧ C3 wr b8 (.bool t8) (.slice a81 l81 k81) (.slice a82 l82 k82) ∧ zoa wr (.agg #[.bool t8, .slice a81 l81 k81, .slice a82 l82 k82]) (0 + sg k fun t => c.start.getD t 0 * H t) ∧ C3 wr b9 (.bool t9) (.slice a91 l91 k91) (.slice a92 l92 k92) ∧ zoa wr (.agg #[.bool t9, .slice a91 l91 k91, .slice a92 l92 k92]) (0) ∧ Below W6.heap.size W6 wr)
  case atStart =>
   refine ⟨0, _, _, _, _, _, _, _, _, _, _, _, _, _, _, Nat.zero_le _, rfl, rfl, HC8.out, ?_, HC9.out, ?_, HBR.out⟩
   ·show zoa _ _ (0 + 0); rw [Rat.add_zero]; exact HF8.out
   ·exact HF9.out
  case round =>
   obtain ⟨k, t8, a81, l81, k81, a82, l82, k82, t9, a91, l91, k91, a92, l92, k92, hkn, hg, rfl, hc8, hf8, hc9, hf9, hbr⟩ := hrel
   obtain ⟨W9, hw9⟩ : ∃ w6, w6 = wr := ⟨_, rfl⟩
   subst hw9
   have HG := zH hg
   have HC8 := zH hc8
   have HF8 := zH hf8
   have HC9 := zH hc9
   have HF9 := zH hf9
   have HBR := zH hbr
   obtain ⟨_, c0, c1, c2, _, _, _⟩ := HC3.out.belowS HBR.out
   clear hg hc8 hf8 hc9 hf9 hbr
   by_cases hkl : k < ns
   ·have hkc : k < c.start.length := by rw [← HNS.out]; exact hkl
    obtain ⟨ts, as1, ls1, ks1, as2, ls2, ks2, g1, g2, g3, hfs⟩ := (HST.out.below HBR.out).cellsAt (k := k) hkc
    obtain ⟨s, hs⟩ : ∃ s, c.start.getD k 0 = s := ⟨_, rfl⟩
    have HS := zH hs
    have HKC := zH hkc
    rw [hs] at hfs
    have HFS := zH hfs
    have HFI : Hid (fits s) := zH (by rw [← hs]; exact zej (HTC.out.st hkc) (by decide +kernel))
    have i1 : (0 : Int) ≤ (k : Int) := by omega
    have i2 : (k : Int) < (ns : Nat) := by omega
    clear hfs hs hkc
    by_cases hs0 : s = 0
    ·go_wp2_with (first
      |(go_at_call 34; (with_reducible refine (sgn_z _ HFS.out HFI.out hs0).mono ?_); rintro e10 w10 ⟨rfl, hb10⟩
        clear c0 c1 c2 g1 g2 g3
        replace HBR := zH (zaa HBR.out hb10); replace HC8 := zH (HC8.out.belowS hb10); replace HF8 := zH (HF8.out.below hb10); replace HC9 := zH (HC9.out.belowS hb10); replace HF9 := zH (HF9.out.below hb10)))
     go_roundg (ns - (k + 1))
     case measure => (have := HG.out; omega)
     case rel =>
      refine ⟨k + 1, _, _, _, _, _, _, _, _, _, _, _, _, _, _, by omega, rfl, by go_num, HC8.out, ?_, HC9.out, ?_, HBR.out⟩
      ·have e : (0 + sg (k + 1) fun t => c.start.getD t 0 * H t) = 0 + sg k fun t => c.start.getD t 0 * H t := by
        show 0 + (_ + c.start.getD k 0 * H k) = _
        rw [HS.out, hs0, Rat.zero_mul, Rat.add_zero]
       rw [e]
       exact HF8.out
      ·exact HF9.out
    ·go_upto_region 11 with (first
      |(go_at_call 34; (with_reducible refine (sgn_nz _ HFS.out HFI.out hs0).mono ?_); rintro e10 w10 ⟨z10, rfl, hz10, hb10⟩
        clear c0 c1 c2 g1 g2 g3
        replace HBR := zH (zaa HBR.out hb10); replace HC8 := zH (HC8.out.belowS hb10); replace HF8 := zH (HF8.out.below hb10); replace HC9 := zH (HC9.out.belowS hb10); replace HF9 := zH (HF9.out.below hb10)))
     have hsu : AllS c.raw → zzf c k := fun h => HTC.out.alls.1 h k HKC.out (by
      have h1 := HTC.out.st_nn HKC.out
      rw [HS.out] at h1 ⊢
      grind)
     have HSU := zH hsu
     have HPH : Hid (fits (H k) ∧ fits (s * H k)) := zH ⟨HTC.out.fH HKC.out, by rw [← HS.out]; exact HTC.out.fpH ((HTC.out.st HKC.out).mono (by decide)) HKC.out⟩
     have HPT : Hid (fits (T k) ∧ fits (s * T k)) := zH ⟨HTC.out.fT HKC.out, by rw [← HS.out]; exact HTC.out.fpT ((HTC.out.st HKC.out).mono (by decide)) HKC.out⟩
     clear hsu HFS
     obtain ⟨_, c0, c1, c2, _, _, _⟩ := HC3.out.belowS HBR.out
     go_upto_region 12 with (first
      |(go_at_call 44; (with_reducible refine (zpe _ c k _ (HCH.out.below HBR.out) (by have := HTP.out.n5; omega) HKC.out).mono ?_); rintro e11 w11 ⟨v11, rfl, hv11, hb11⟩
        have HV11 : Hid (zwc w11 v11 (frm c k)) := zH hv11
        clear c0 c1 c2
        replace HBR := zH (zaa HBR.out hb11); replace HC8 := zH (HC8.out.belowS hb11); replace HF8 := zH (HF8.out.below hb11); replace HC9 := zH (HC9.out.belowS hb11); replace HF9 := zH (HF9.out.below hb11)
        clear hv11 hb11)
      |(go_at_call 43; (with_reducible refine (HTC.out.hit_f HKC.out HV11.out.raw).mono ?_); rintro e12 w12 ⟨v12, rfl, hv12, hb12⟩
        obtain ⟨t12, x12, y12, rfl, ⟨a121, l121, k121, rfl, _⟩, ⟨a122, l122, k122, rfl, _⟩⟩ := hv12.isF
        have hba := zba w12 (.cells #[.bool t12, .slice a121 l121 k121, .slice a122 l122 k122] 38)
        have hbb := zaa hb12 hba
        have HC12 := zH (C3.new w12 38 (.bool t12) (.slice a121 l121 k121) (.slice a122 l122 k122))
        have HF12 := zH (hv12.below hba)
        replace HBR := zH (zaa HBR.out hbb); replace HC8 := zH (HC8.out.belowS hbb); replace HF8 := zH (HF8.out.below hbb); replace HC9 := zH (HC9.out.belowS hbb); replace HF9 := zH (HF9.out.below hbb)
        clear hv12 hb12 hba hbb))
     obtain ⟨b12, hb12⟩ : ∃ b, w12.heap.size = b := ⟨_, rfl⟩
     rw [hb12] at HC12 ⊢
     clear hb12
     generalize w12.alloc (.cells #[.bool t12, .slice a121 l121 k121, .slice a122 l122 k122] 38) = W12 at *
     clear HV11
     obtain ⟨_, c0, c1, c2, _, _, _⟩ := HC3.out.belowS HBR.out
     go_upto_region 13 with (first
      |(go_at_call 44; (with_reducible refine (zpe _ c k _ (HCH.out.below HBR.out) (by have := HTP.out.n5; omega) HKC.out).mono ?_); rintro e13 w13 ⟨v13, rfl, hv13, hb13⟩
        have HV13 : Hid (zwc w13 v13 (frm c k)) := zH hv13
        clear c0 c1 c2
        replace HBR := zH (zaa HBR.out hb13); replace HC8 := zH (HC8.out.belowS hb13); replace HF8 := zH (HF8.out.below hb13); replace HC9 := zH (HC9.out.belowS hb13); replace HF9 := zH (HF9.out.below hb13); replace HC12 := zH (HC12.out.belowS hb13); replace HF12 := zH (HF12.out.below hb13)
        clear hv13 hb13)
      |(go_at_call 45; (with_reducible refine (HTC.out.mean_fx HKC.out HV13.out).mono ?_); rintro e14 w14 ⟨t14, a141, l141, k141, a142, l142, k142, z14, rfl, hz14, hb14⟩
        have hba := zba w14 (.cells #[.bool t14, .slice a141 l141 k141, .slice a142 l142 k142] 38)
        have hbb := zaa hb14 hba
        have HC14 := zH (C3.new w14 38 (.bool t14) (.slice a141 l141 k141) (.slice a142 l142 k142))
        have HZ14 : Hid (zzf c k ∧ z14 = 0 ∧ zoa (w14.alloc (.cells #[.bool t14, .slice a141 l141 k141, .slice a142 l142 k142] 38)) (.agg #[.bool t14, .slice a141 l141 k141, .slice a142 l142 k142]) (T k) ∨ ¬ zzf c k ∧ z14 = 14) := zH (hz14.imp (fun h => ⟨h.1, h.2.1, h.2.2.below hba⟩) id)
        have HLT14 := zH (Nat.lt_of_lt_of_le HC8.out.lt hb14.size)
        replace HBR := zH (zaa HBR.out hbb); replace HC8 := zH (HC8.out.belowS hbb); replace HF8 := zH (HF8.out.below hbb); replace HC9 := zH (HC9.out.belowS hbb); replace HF9 := zH (HF9.out.below hbb); replace HC12 := zH (HC12.out.belowS hbb); replace HF12 := zH (HF12.out.below hbb)
        clear hz14 hb14 hba hbb))
     obtain ⟨b14, hb14⟩ : ∃ b, w14.heap.size = b := ⟨_, rfl⟩
     rw [hb14] at HC14 HLT14 ⊢
     clear hb14
     generalize w14.alloc (.cells #[.bool t14, .slice a141 l141 k141, .slice a142 l142 k142] 38) = W14 at *
     clear HV13
     obtain ⟨_, c0, c1, c2, _, _, _⟩ := HC3.out.belowS HBR.out
     go_upto_region 15 with fail
     clear c0 c1 c2
     obtain ⟨_, c0, c1, c2, _, _, _⟩ := HC3.out.belowS HBR.out
     obtain ⟨ts, as1, ls1, ks1, as2, ls2, ks2, g1, g2, g3, hfs⟩ := (HST.out.below HBR.out).cellsAt (k := k) (by rw [← HNS.out]; exact hkl)
     rw [HS.out] at hfs
     have HFS := zH hfs
     obtain ⟨_, p1, p2, p3, _, _, _⟩ := HC12.out
     have S0 := zH (And.intro c1 (And.intro g1 (And.intro g2 (And.intro g3 (And.intro p1 (And.intro p2 (And.intro p3 p3)))))))
     clear c0 c1 c2 g1 g2 g3 hfs p1 p2 p3
     go_cut [15] (fun u15 wy => ∃ (b15 : Nat) (t' : Bool) (a1 : Option Addr) (l1 k1 : Nat) (a2 : Option Addr) (l2 k2 : Nat), u15 = .pointer (some ⟨b15, 0, none⟩) ∧ C3 wy b15 (.bool t') (.slice a1 l1 k1) (.slice a2 l2 k2) ∧ zoa wy (.agg #[.bool t', .slice a1 l1 k1, .slice a2 l2 k2]) (s * H k) ∧ Below W14.heap.size W14 wy)
     case first =>
      go_region_held3 (fun w' => w'.cell? ⟨b3, 1, none⟩ = some (.slice as' ns ks) ∧ w'.cell? (ptr (.slice as' ns ks) (k * 3)) = some (.bool ts) ∧ w'.cell? (ptr (.slice as' ns ks) (k * 3 + 1)) = some (.slice as1 ls1 ks1) ∧ w'.cell? (ptr (.slice as' ns ks) (k * 3 + 2)) = some (.slice as2 ls2 ks2) ∧ w'.cell? ⟨b12, 0, none⟩ = some (.bool t12) ∧ w'.cell? ⟨b12, 1, none⟩ = some (.slice a121 l121 k121) ∧ w'.cell? ⟨b12, 2, none⟩ = some (.slice a122 l122 k122) ∧ w'.cell? ⟨b12, 2, none⟩ = some (.slice a122 l122 k122) ∧ Below W14.heap.size W14 w') (first
       | with_reducible exact kp8a S0.out (zha _)
       | with_reducible exact kp8w (by assumption) (zba _ _)
       | with_reducible exact kp8w (by assumption) (by assumption)
       | with_reducible exact kp8a S0.out (zaa hB32 (zba _ _))
       | with_reducible exact kp8s S0.out hB32 (Nat.le_refl _) _ _ _
       | with_reducible exact kp8s S0.out hB32 hB31.size _ _ _
       | with_reducible exact kp8s S0.out (zaa hB32 (zba _ _)) hB32.size _ _ _) (first
       |(go_at_call 38; (with_reducible refine (zae _ _ s _ _ (HFS.out.below (zlo (by assumption))) (HF12.out.below (zlo (by assumption))) HFI.out HPH.out.1 HPH.out.2).mono ?_); rintro e32 w32 ⟨v32, rfl, hv32, hb32⟩
         obtain ⟨t32, x32, y32, rfl, ⟨a321, l321, k321, rfl, _⟩, ⟨a322, l322, k322, rfl, _⟩⟩ := hv32.isF
         have hB32 := zaa (zlo (by assumption)) hb32
         have hc6 := (fun (p : Addr) hp => hb32.cell (p := p) hp)
         have hf6 := (fun (p : Addr) hp => hb32.frozen (p := p) hp)
         have zq2 := hb32.size
         (try simp only [zei, zdi] at zq2)
         (try have z2 : W14.heap.size < w32.heap.size := (by omega))))
      all_goals
       have hE := zlo (by assumption)
       go_wp2_with fail
       go_meet
       case rel =>
        first
         | exact ⟨_, _, _, _, _, _, _, _, rfl, C3.new w32 _ _ _ _, hv32.below (zba _ _), hE⟩
         | exact ⟨_, _, _, _, _, _, _, _, rfl, ((C3.newB (b := W14.heap.size) W14.drew 38 (.bool false) (.slice none 0 0) (.slice none 0 0) rfl).belowS hb32).set _ _ _, hv32.set3 ((C3.newB (b := W14.heap.size) W14.drew 38 (.bool false) (.slice none 0 0) (.slice none 0 0) rfl).belowS hb32) (fun z => by simp) (fun z => by simp) _ _ _, hE⟩
     case rest =>
      obtain ⟨b15, t15, a151, l151, k151, a152, l152, k152, rfl, hc, hf, hb6⟩ := hcut
      obtain ⟨W15, hw3⟩ : ∃ w3, w3 = wc := ⟨_, rfl⟩
      subst hw3
      have HC15 := zH hc
      have HF15 := zH hf
      clear hc hf HFS S0
      have HP15 : Hid (fits (H k) ∧ fits (s * H k)) := HPH
      have HE15 : Hid ((0 + sg k fun t => c.start.getD t 0 * H t) + s * H k = 0 + sg (k + 1) fun t => c.start.getD t 0 * H t) := zH (by
       show _ = 0 + (_ + c.start.getD k 0 * H k)
       rw [HS.out, Rat.add_assoc])
      replace HBR := zH (zaa HBR.out hb6); replace HC8 := zH (HC8.out.belowS hb6); replace HF8 := zH (HF8.out.below hb6); replace HC9 := zH (HC9.out.belowS hb6); replace HF9 := zH (HF9.out.below hb6)
      clear hb6
      obtain ⟨_, d0, d1, d2, f0, f1, f2⟩ := HC8.out
      obtain ⟨_, p0, p1, p2, _, _, _⟩ := HC15.out
      go_upto_region 17 with (first
       |(go_at_call 19; (with_reducible refine (zdd _ _ _ _ _ HF8.out HF15.out (HFH.out k (by rw [← HNS.out]; omega)) HP15.out.2 (by rw [HE15.out]; exact HFH.out (k + 1) (by rw [← HNS.out]; omega))).mono ?_); rw [HE15.out]; rintro e16 w16 ⟨v16, rfl, hv16, hb16⟩
         obtain ⟨t16, x16, y16, rfl, ⟨a161, l161, k161, rfl, _⟩, ⟨a162, l162, k162, rfl, _⟩⟩ := hv16.isF
         have HV16 := zH hv16
         clear d0 d1 d2 f0 f1 f2 p0 p1 p2
         replace HBR := zH (zaa HBR.out hb16); replace HC8 := zH (HC8.out.belowS hb16); replace HF8 := zH (HF8.out.below hb16); replace HC9 := zH (HC9.out.belowS hb16); replace HF9 := zH (HF9.out.below hb16) 
         obtain ⟨_, d0, d1, d2, f0, f1, f2⟩ := HC8.out
         clear hv16 hb16))
      clear d0 d1 d2 f0 f1 f2
      have HF8 := zH (HV16.out.set3 HC8.out (fun z => by simp) (fun z => by simp) (.bool t16) (.slice a161 l161 k161) (.slice a162 l162 k162))
      have HF9 := zH (HF9.out.set3 HC8.out (fun z => by simp) (fun z => by simp) (.bool t16) (.slice a161 l161 k161) (.slice a162 l162 k162))
      have HC9 := zH (HC9.out.set_other H98.out (.bool t16) (.slice a161 l161 k161) (.slice a162 l162 k162))
      skip
      have HBR := zH (zga HBR.out HL8.out (.bool t16) (.slice a161 l161 k161) (.slice a162 l162 k162))
      have HC8 := zH (HC8.out.set (.bool t16) (.slice a161 l161 k161) (.slice a162 l162 k162))
      generalize (((w16.setCell ⟨b8, 0, none⟩ (.bool t16)).setCell ⟨b8, 1, none⟩ (.slice a161 l161 k161)).setCell ⟨b8, 2, none⟩ (.slice a162 l162 k162)) = X16 at *
      go_wp2_with fail
      go_roundg (ns - (k + 1))
      case measure => (have := HG.out; omega)
      case rel =>
       exact ⟨k + 1, _, _, _, _, _, _, _, _, _, _, _, _, _, _, by omega, rfl, by go_num, HC8.out, HF8.out, HC9.out, HF9.out, HBR.out⟩
   ·have HQH : Hid (stS c.raw H = 0 + sg ns fun t => c.start.getD t 0 * H t) := zH (by rw [HTC.out.sH, HNS.out, Rat.zero_add])
    have HFQ : Hid (fits (stS c.raw H)) := zH (by rw [HQH.out]; exact HFH.out ns (by rw [← HNS.out]; exact Nat.le_refl _))
    obtain rfl : k = ns := by omega
    have HF4 := zH (HF4.out.below HBR.out)
    obtain ⟨_, d0, d1, d2, _, _, _⟩ := HC4.out.belowS HBR.out
    obtain ⟨_, e0, e1, e2, _, _, _⟩ := HC8.out
    go_wp2_with (first
     |(go_at_call 33; (with_reducible refine (zwi _ _ HF4.out HF8.out HFQ.out HQH.out).mono ?_); rintro e20 w20 ⟨rfl, hb20⟩
       clear c0 c1 c2 d0 d1 d2 e0 e1 e2
       replace HBR := zH (zaa HBR.out hb20)
       clear hb20)
     |(go_at_call 46; (with_reducible refine (zme _).mono ?_); rintro e22 w22 ⟨rfl, hb22⟩
       replace HBR := zH (zaa HBR.out hb22)
       clear hb22))
    go_ret
    exact ⟨rfl, HB.out.trans (HBR.out.mono HB.out.size)⟩
end Go.Proofs.YtlpdkbmmbdfoiaaGreat
