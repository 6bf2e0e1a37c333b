/-
  package drydocklaw21: ChainFirstStep.
-/
import Derived.Test.YtlpdkbmmbdfoiaaGreatKHq5
import Derived.Test.YtlpdkbmmbdfoiaaGreatKTk
import Derived.Test.YtlpdkbmmbdfoiaaGreatKGwa
import Derived.Test.YtlpdkbmmbdfoiaaGreatKOuw
set_option linter.unusedVariables false
set_option linter.unusedSimpArgs false
namespace Go.Proofs.YtlpdkbmmbdfoiaaGreat
open Go.RowKit
theorem wr64 : ∀ k : Fin 256, wrap64 ((k.val : Nat) : Int) = ((k.val : Nat) : Int) := by decide +kernel
set_option maxRecDepth 100000 in
set_option maxHeartbeats 12800000 in
theorem first_any (v : Value) (x : Nat) (l : List Nat) (w : World) (h : zua w v (bytes l)) (hb : ∀ x ∈ l, x < 256) (hx : x < 256) :
 Calls Tryz.prog 7 #[v, .int .u8 (x : Nat)] w (fun e w' => e = .returned (.bool true) ∧ Below w.heap.size w w') := by
 have HX := zH hx
 clear hx
 go_enter Tryz.func7, Tryz.ntmps7
 go_upto_region 2 with (first
  |(go_at_call 41; (with_reducible refine (new_any _ l _ h hb).mono ?_); rintro e1 w1 ⟨bt, rfl, hbt, hT1, hbel1⟩)
  |(go_at_call 42; (with_reducible refine (znn bt 0 _ _ hT1).mono ?_); rintro e2 w2 ⟨v2, c, a2, rfl, hC2, hTP, hT2, hsz2, hfr2⟩
    obtain ⟨vr, vs, vl, rfl, m1, m2, m3⟩ := id hC2
    obtain ⟨ar, nr, kr, rfl, _⟩ := id m1.sl
    obtain ⟨as', ns, ks, rfl, _⟩ := id m2.sl
    obtain ⟨al, nl, kl, rfl, _⟩ := id (zua.sl m3)
    have hb12 := hbel1.trans (hfr2 _ hbt hbel1.size)
    have ba3 := zba w2 (.cells #[.slice ar nr kr, .slice as' ns ks, .slice al nl kl] 28)
    have HTP := zH hTP
    have HNS : Hid (ns = c.start.length) := zH m2.len
    have HNR : Hid (nr = c.rates.length) := zH m1.len
    have HC3 := zH (C3.new w2 28 (.slice ar nr kr) (.slice as' ns ks) (.slice al nl kl))
    have HCH := zH (hC2.below ba3)
    have HST := zH (m2.below ba3)
    have HRT := zH (m1.below ba3)
    have HLO := zH (m3.below ba3)
    have HB := zH (hb12.trans (ba3.mono hb12.size))
    have hn5 : ns ≤ 5 := by rw [HNS.out]; exact HTP.out.n5
    have sst := m2.sl
    have srt := m1.sl
    have slo := zua.sl m3
    clear hC2 m1 m2 m3 hTP hfr2 hT1 hT2 hbel1 hsz2 hb12 ba3 hbt))
 obtain ⟨b3, hb3⟩ : ∃ b, w2.heap.size = b := ⟨_, rfl⟩
 rw [hb3] at HC3 ⊢
 clear hb3
 generalize w2.alloc (.cells #[.slice ar nr kr, .slice as' ns ks, .slice al nl kl] 28) = W3 at *
 obtain ⟨H, T, htc⟩ := zsl HTP.out
 have HTC := zH htc
 clear htc
 have hn2 : 2 ≤ ns := by rw [HNS.out]; exact HTP.out.n2
 obtain ⟨_, c0, c1, c2, _, _, _⟩ := HC3.out
 obtain ⟨i, hi⟩ : ∃ i, x % ns = i := ⟨_, rfl⟩
 have hin : i < ns := by rw [← hi]; exact Nat.mod_lt _ (by omega)
 have HIC : Hid (i < c.start.length) := zH (by rw [← HNS.out]; exact hin)
 have HXI : Hid ((wrap64 ((x : Nat) : Int)).tmod ((ns : Nat) : Int) = ((i : Nat) : Int)) := zH (by rw [← hi, wr64 ⟨x, HX.out⟩]; rfl)
 have hn0 : ((ns : Nat) : Int) ≠ 0 := by omega
 go_upto_region 3 with fail
 rw [HXI.out]
 clear c0 c1 c2
 obtain ⟨_, c0, c1, c2, _, _, _⟩ := HC3.out
 go_upto_region 4 with (first
  |(go_at_call 44; (with_reducible refine (zpe _ c i _ HCH.out (by have := HTP.out.n5; omega) HIC.out).mono ?_); rintro e99 w99 ⟨v99, rfl, hv99, hb99⟩
    have HV99 : Hid (zwc w99 v99 (frm c i)) := zH hv99
    clear c0 c1 c2
    replace HB := zH (zaa HB.out hb99); replace HC3 := zH (HC3.out.belowS hb99); replace HCH := zH (HCH.out.below hb99); replace HST := zH (HST.out.below hb99); replace HRT := zH (HRT.out.below hb99); replace HLO := zH (HLO.out.below hb99)
    clear hv99 hb99)
  |(go_at_call 43; (with_reducible refine (HTC.out.hit_f HIC.out HV99.out.raw).mono ?_); rintro e7 w7 ⟨v7, rfl, hv7, hb7⟩
    obtain ⟨t7, x7, y7, rfl, ⟨a71, l71, k71, rfl, _⟩, ⟨a72, l72, k72, rfl, _⟩⟩ := hv7.isF
    have hba := zba w7 (.cells #[.bool t7, .slice a71 l71 k71, .slice a72 l72 k72] 38)
    have hbb := zaa hb7 hba
    have HC7 := zH (C3.new w7 38 (.bool t7) (.slice a71 l71 k71) (.slice a72 l72 k72))
    have HF7 := zH (hv7.below hba)
    clear hv7
    replace HB := zH (zaa HB.out hbb); replace HC3 := zH (HC3.out.belowS hbb); replace HCH := zH (HCH.out.below hbb); replace HST := zH (HST.out.below hbb); replace HRT := zH (HRT.out.below hbb); replace HLO := zH (HLO.out.below hbb)
    clear hb7 hba hbb))
 obtain ⟨b7, hb7⟩ : ∃ b, w7.heap.size = b := ⟨_, rfl⟩
 rw [hb7] at HC7 ⊢
 clear hb7
 generalize w7.alloc (.cells #[.bool t7, .slice a71 l71 k71, .slice a72 l72 k72] 38) = W7 at *
 clear HV99
 obtain ⟨_, c0, c1, c2, _, _, _⟩ := HC3.out
 go_upto_region 5 with (first
  |(go_at_call 44; (with_reducible refine (zpe _ c i _ HCH.out (by have := HTP.out.n5; omega) HIC.out).mono ?_); rintro e99 w99 ⟨v99, rfl, hv99, hb99⟩
    have HV99 : Hid (zwc w99 v99 (frm c i)) := zH hv99
    clear c0 c1 c2
    replace HB := zH (zaa HB.out hb99); replace HC3 := zH (HC3.out.belowS hb99); replace HCH := zH (HCH.out.below hb99); replace HST := zH (HST.out.below hb99); replace HRT := zH (HRT.out.below hb99); replace HLO := zH (HLO.out.below hb99); replace HC7 := zH (HC7.out.belowS hb99); replace HF7 := zH (HF7.out.below hb99)
    clear hv99 hb99)
  |(go_at_call 45; (with_reducible refine (HTC.out.mean_fx HIC.out HV99.out).mono ?_); rintro e9 w9 ⟨t9, a91, l91, k91, a92, l92, k92, z9, rfl, hz9, hb9⟩
    have hba := zba w9 (.cells #[.bool t9, .slice a91 l91 k91, .slice a92 l92 k92] 38)
    have hbb := zaa hb9 hba
    have HC9 := zH (C3.new w9 38 (.bool t9) (.slice a91 l91 k91) (.slice a92 l92 k92))
    have HZ9 : Hid (zzf c i ∧ z9 = 0 ∧ zoa (w9.alloc (.cells #[.bool t9, .slice a91 l91 k91, .slice a92 l92 k92] 38)) (.agg #[.bool t9, .slice a91 l91 k91, .slice a92 l92 k92]) (T i) ∨ ¬ zzf c i ∧ z9 = 14) := zH (hz9.imp (fun h => ⟨h.1, h.2.1, h.2.2.below hba⟩) id)
    clear hz9
    replace HB := zH (zaa HB.out hbb); replace HC3 := zH (HC3.out.belowS hbb); replace HCH := zH (HCH.out.below hbb); replace HST := zH (HST.out.below hbb); replace HRT := zH (HRT.out.below hbb); replace HLO := zH (HLO.out.below hbb); replace HC7 := zH (HC7.out.belowS hbb); replace HF7 := zH (HF7.out.below hbb)
    clear hb9 hba hbb))
 obtain ⟨b9, hb9⟩ : ∃ b, w9.heap.size = b := ⟨_, rfl⟩
 rw [hb9] at HC9 ⊢
 clear hb9
 generalize w9.alloc (.cells #[.bool t9, .slice a91 l91 k91, .slice a92 l92 k92] 38) = W9 at *
 clear HV99
 have hil : i < c.lost.length := by rw [HTP.out.ll]; exact HIC.out
 have hir : i < c.rates.length := by rw [HTP.out.rl]; exact HIC.out
 have HIR := zH hir
 have qL := HLO.out.at' i hil
 have HXL : Hid (c.lost.getD i false = c.lost[i]'hil) := zH (zce hil)
 obtain ⟨xL, hxL⟩ : ∃ x, c.lost[i]'hil = x := ⟨_, rfl⟩
 rw [hxL] at qL HXL
 clear hxL hil
 have i1 : (0 : Int) ≤ (i : Int) := by omega
 have i2 : (i : Int) < (ns : Nat) := by omega
 have HFH : Hid (fits (H i)) := zH (HTC.out.fH HIC.out)
 have HFT : Hid (fits (T i)) := zH (HTC.out.fT HIC.out)
 obtain ⟨_, c0, c1, c2, _, _, _⟩ := HC3.out
 have HNL : Hid (nl = ns) := zH (by rw [HNS.out, ← HTP.out.ll]; exact HLO.out.len)
 have i3 : (i : Int) < (nl : Nat) := by have := HNL.out; omega
 cases xL with
 | true =>
   obtain ⟨l1, l2, l3⟩ := HTC.out.lost_h HIC.out HXL.out
   obtain ⟨_, rfl, hm9⟩ := HZ9.out.resolve_right (fun h => h.1 l3)
   rw [l2] at hm9
   rw [l1] at HF7
   have HF9 := zH hm9
   go_upto_region 8 with fail
   clear c0 c1 c2 qL
   obtain ⟨_, c0, c1, c2, _, _, _⟩ := HC7.out
   obtain ⟨_, d0, d1, d2, _, _, _⟩ := HC9.out
   have S0 := zH (And.intro c0 (And.intro c1 (And.intro c2 (And.intro d0 (And.intro d1 (And.intro d2 (Below.refl W9.heap.size W9)))))))
   clear c0 c1 c2 d0 d1 d2
   go_region_held3 (fun w' => w'.cell? ⟨b7, 0, none⟩ = some (.bool t7) ∧ w'.cell? ⟨b7, 1, none⟩ = some (.slice a71 l71 k71) ∧ w'.cell? ⟨b7, 2, none⟩ = some (.slice a72 l72 k72) ∧
    w'.cell? ⟨b9, 0, none⟩ = some (.bool t9) ∧ w'.cell? ⟨b9, 1, none⟩ = some (.slice a91 l91 k91) ∧ w'.cell? ⟨b9, 2, none⟩ = some (.slice a92 l92 k92) ∧ Below W9.heap.size W9 w') (first
    | with_reducible exact kept6 S0.out (zha _)
    | with_reducible exact kept6 (by assumption) (by assumption)) (first
    |(go_at_call 20; (with_reducible refine (zse _).mono ?_); rintro e21 w21 ⟨v21, rfl, hv21, hb21⟩)
    |(go_at_call 33; (with_reducible refine (zwi _ _ (HF7.out.below (zdn (by assumption))) hv21 (by decide) rfl).mono ?_); rintro e22 w22 ⟨rfl, hb22⟩)
    |(go_at_call 34; (with_reducible refine (sgn_z _ (HF9.out.below (zdn (by assumption))) (by decide) rfl).mono ?_); rintro e23 w23 ⟨rfl, hb23⟩)
    |(go_at_call 46; (with_reducible refine (zme _).mono ?_); rintro e24 w24 ⟨rfl, hb24⟩))
   all_goals
    have hEnd := zdn (by assumption)
    go_wp2_with fail
    go_ret
    exact ⟨rfl, zaa HB.out hEnd⟩
 | false =>
   go_upto_region 9 with fail
   clear c0 c1 c2 qL
   obtain ⟨rv, hrv, hrow⟩ := HRT.out.at' i HIR.out
   have HRV := zH hrv
   have HRE : Hid (c.rates.getD i [] = c.rates[i]'HIR.out) := zH (by rw [List.getD_eq_getElem?_getD, List.getElem?_eq_getElem HIR.out]; rfl)
   rw [← HRE.out] at hrow
   have HROW := zH hrow
   obtain ⟨ra, rn, rk, rfl, _⟩ := id hrow.sl
   have srow := hrow.sl
   have HRN : Hid ((c.rates.getD i []).length = ns) := zH (by rw [HNS.out, HRE.out]; exact (HTP.out.rows i _ (List.getElem?_eq_getElem HIR.out)).1)
   have hrn : rn = ns := by rw [← HRN.out]; exact hrow.len
   subst hrn
   clear hrv hrow
   have HNRN : Hid (nr = rn) := zH (by rw [HNR.out, HTP.out.rl, HNS.out])
   have HSR : Hid (∀ k, k ≤ c.start.length → fits (0 + sg k fun j => (c.rates.getD i []).getD j 0)) := zH (fun k hk => HTC.out.fsR HIC.out hk)
   have HSH : Hid (∀ k, k ≤ c.start.length → fits (0 + sg k fun j => (c.rates.getD i []).getD j 0 * H j)) := zH (fun k hk => HTC.out.fsH (over.zero _ _) (fun t ht => HTC.out.rt HIC.out ht) hk)
   have HST2 : Hid (∀ k, k ≤ c.start.length → fits (1 + sg k fun j => (c.rates.getD i []).getD j 0 * T j)) := zH (fun k hk => HTC.out.fsT ((over.one (D := 720) (by decide)).mono (by decide)) (fun t ht => HTC.out.rt HIC.out ht) hk)
   have HEH := zH (HTC.out.eq_h HIC.out HXL.out)
   rcases HZ9.out with ⟨hsu, rfl, hm9⟩ | ⟨hnsu, rfl⟩
   ·go_upto_region 10 with (first
     |(go_at_call 20; (with_reducible refine (zob W9).mono ?_); rintro e11 w11 ⟨v11, rfl, hv11, hb11⟩
       obtain ⟨t11, x11, y11, rfl, ⟨a111, l111, k111, rfl, _⟩, ⟨a112, l112, k112, rfl, _⟩⟩ := hv11.isF)
     |(go_at_call 20; (with_reducible refine (zob w11).mono ?_); rintro e12 w12 ⟨v12, rfl, hv12, hb12⟩
       obtain ⟨t12, x12, y12, rfl, ⟨a121, l121, k121, rfl, _⟩, ⟨a122, l122, k122, rfl, _⟩⟩ := hv12.isF)
     |(go_at_call 20; (with_reducible refine (zse w12).mono ?_); rintro e13 w13 ⟨v13, rfl, hv13, hb13⟩
       obtain ⟨t13, x13, y13, rfl, ⟨a131, l131, k131, rfl, _⟩, ⟨a132, l132, k132, rfl, _⟩⟩ := hv13.isF
       have ba1 := zba w13 (.cells #[.bool t11, .slice a111 l111 k111, .slice a112 l112 k112] 38)
       have ba2 := zba (w13.alloc (.cells #[.bool t11, .slice a111 l111 k111, .slice a112 l112 k112] 38)) (.cells #[.bool t12, .slice a121 l121 k121, .slice a122 l122 k122] 38)
       have ba3 := zba ((w13.alloc (.cells #[.bool t11, .slice a111 l111 k111, .slice a112 l112 k112] 38)).alloc (.cells #[.bool t12, .slice a121 l121 k121, .slice a122 l122 k122] 38)) (.cells #[.bool t13, .slice a131 l131 k131, .slice a132 l132 k132] 38)
       have HBR := zH (zaa (zaa hb11 (zaa hb12 hb13)) (zaa ba1 (zaa ba2 ba3)))
       have HC11 := zH (((C3.new w13 38 (.bool t11) (.slice a111 l111 k111) (.slice a112 l112 k112)).belowS ba2).belowS ba3)
       have HC12 := zH ((C3.newB (b := w13.heap.size + 1) (w13.alloc (.cells #[.bool t11, .slice a111 l111 k111, .slice a112 l112 k112] 38)) 38 (.bool t12) (.slice a121 l121 k121) (.slice a122 l122 k122) (by simp)).belowS ba3)
       have HC13 := zH (C3.newB (b := w13.heap.size + 1 + 1) ((w13.alloc (.cells #[.bool t11, .slice a111 l111 k111, .slice a112 l112 k112] 38)).alloc (.cells #[.bool t12, .slice a121 l121 k121, .slice a122 l122 k122] 38)) 38 (.bool t13) (.slice a131 l131 k131) (.slice a132 l132 k132) (by simp))
       have HF11 := zH (((((hv11.below hb12).below hb13).below ba1).below ba2).below ba3)
       have HF12 := zH ((((hv12.below hb13).below ba1).below ba2).below ba3)
       have HF13 := zH (((hv13.below ba1).below ba2).below ba3)
       have HL11 : Hid (W9.heap.size ≤ w13.heap.size) := zH (Nat.le_trans hb11.size (Nat.le_trans hb12.size hb13.size))
       clear hv11 hv12 hv13 hb11 hb12 hb13 ba1 ba2 ba3))
    obtain ⟨b11, hb11⟩ : ∃ b, w13.heap.size = b := ⟨_, rfl⟩
    rw [hb11] at HC11 HC12 HC13 HL11 ⊢
    clear hb11
    generalize ((w13.alloc (.cells #[.bool t11, .slice a111 l111 k111, .slice a112 l112 k112] 38)).alloc (.cells #[.bool t12, .slice a121 l121 k121, .slice a122 l122 k122] 38)).alloc (.cells #[.bool t13, .slice a131 l131 k131, .slice a132 l132 k132] 38) = W13 at *
    obtain ⟨b13, hb13⟩ : ∃ b, b11 + 1 + 1 = b := ⟨_, rfl⟩
    rw [hb13] at HC13 ⊢
    obtain ⟨b12, hb12⟩ : ∃ b, b11 + 1 = b := ⟨_, rfl⟩
    rw [hb12] at HC12 ⊢
    have HNE : Hid (b11 < b12 ∧ b12 < b13) := zH (by omega)
    have HL12 : Hid (W9.heap.size ≤ b12) := zH (by have := HL11.out; omega)
    have HL13 : Hid (W9.heap.size ≤ b13) := zH (by have := HL11.out; omega)
    clear hb12 hb13
    go_wp2_with fail
    go_loopg [14] (rn) (fun g u14 wr => ∃ (k : Nat) (t11 : Bool) (a111 : Option Addr) (l111 k111 : Nat) (a112 : Option Addr) (l112 k112 : Nat) (t12 : Bool) (a121 : Option Addr) (l121 k121 : Nat) (a122 : Option Addr) (l122 k122 : Nat) (t13 : Bool) (a131 : Option Addr) (l131 k131 : Nat) (a132 : Option Addr) (l132 k132 : Nat), k ≤ rn ∧ g = rn - k ∧ u14 = .int .i64 k ∧ C3 wr b11 (.bool t11) (.slice a111 l111 k111) (.slice a112 l112 k112) ∧ zoa wr (.agg #[.bool t11, .slice a111 l111 k111, .slice a112 l112 k112]) (0 + sg k fun j => (c.rates.getD i []).getD j 0) ∧ C3 wr b12 (.bool t12) (.slice a121 l121 k121) (.slice a122 l122 k122) ∧ zoa wr (.agg #[.bool t12, .slice a121 l121 k121, .slice a122 l122 k122]) (0 + sg k fun j => (c.rates.getD i []).getD j 0 * H j) ∧ C3 wr b13 (.bool t13) (.slice a131 l131 k131) (.slice a132 l132 k132) ∧ zoa wr (.agg #[.bool t13, .slice a131 l131 k131, .slice a132 l132 k132]) (1 + sg k fun j => (c.rates.getD i []).getD j 0 * T j) ∧ Below W9.heap.size W9 wr)
    case atStart =>
     refine ⟨0, _, _, _, _, _, _, _, _, _, _, _, _, _, _, _, _, _, _, _, _, _, Nat.zero_le _, rfl, rfl, HC11.out, ?_, HC12.out, ?_, HC13.out, ?_, HBR.out⟩
     ·show zoa _ _ (0 + 0); rw [Rat.add_zero]; exact HF11.out
     ·show zoa _ _ (0 + 0); rw [Rat.add_zero]; exact HF12.out
     ·show zoa _ _ (1 + 0); rw [Rat.add_zero]; exact HF13.out
    case round =>
     obtain ⟨k, t11, a111, l111, k111, a112, l112, k112, t12, a121, l121, k121, a122, l122, k122, t13, a131, l131, k131, a132, l132, k132, hkn, hg, rfl, hc11, hf11, hc12, hf12, hc13, hf13, hbr⟩ := hrel
     obtain ⟨W14, hw9⟩ : ∃ w6, w6 = wr := ⟨_, rfl⟩
     subst hw9
     have HG := zH hg
     have HC11 := zH hc11
     have HF11 := zH hf11
     have HC12 := zH hc12
     have HF12 := zH hf12
     have HC13 := zH hc13
     have HF13 := zH hf13
     have HBR := zH hbr
     obtain ⟨_, c0, c1, c2, _, _, _⟩ := HC3.out.belowS HBR.out
     clear hg hc11 hf11 hc12 hf12 hc13 hf13 hbr
     by_cases hkl : k < rn
     ·have hkc : k < c.start.length := by rw [← HNS.out]; exact hkl
      obtain ⟨t15, a151, l151, k151, a152, l152, k152, g1, g2, g3, hfs⟩ := (HROW.out.below HBR.out).cellsAt (k := k) (by rw [HRN.out]; exact hkl)
      obtain ⟨s, hs⟩ : ∃ s, (c.rates.getD i []).getD k 0 = s := ⟨_, rfl⟩
      have HS := zH hs
      have HKC := zH hkc
      rw [hs] at hfs
      have hri := zca HBR.out HRV.out
      have HFI : Hid (fits s) := zH (by rw [← hs]; exact zej (HTC.out.rt HIC.out hkc) (by decide +kernel))
      have j1 : (0 : Int) ≤ (k : Int) := by omega
      have j2 : (k : Int) < (rn : Nat) := by omega
      have i4 : (i : Int) < (nr : Nat) := by have := HNRN.out; omega
      have hba := zba W14 (.cells #[.bool t15, .slice a151 l151 k151, .slice a152 l152 k152] 38)
      have HFS := zH (hfs.below hba)
      have HC15 := zH (C3.new W14 38 (.bool t15) (.slice a151 l151 k151) (.slice a152 l152 k152))
      have HLT15 := zH HC13.out.lt
      clear hfs hs hkc
      go_upto_region 14 with fail
      replace HBR := zH (zaa HBR.out hba); replace HC11 := zH (HC11.out.belowS hba); replace HF11 := zH (HF11.out.below hba); replace HC12 := zH (HC12.out.belowS hba); replace HF12 := zH (HF12.out.below hba); replace HC13 := zH (HC13.out.belowS hba); replace HF13 := zH (HF13.out.below hba)
      clear c0 c1 c2 g1 g2 g3 hri hba
      obtain ⟨b15, hb15⟩ : ∃ b, W14.heap.size = b := ⟨_, rfl⟩
      rw [hb15] at HC15 HLT15 ⊢
      clear hb15
      generalize W14.alloc (.cells #[.bool t15, .slice a151 l151 k151, .slice a152 l152 k152] 38) = W15 at *
      have HF15 := HFS
      clear HFS
      obtain ⟨_, c0, c1, c2, _, _, _⟩ := HC15.out
      by_cases hs0 : s = 0
      ·go_wp2_with (first
        |(go_at_call 34; (with_reducible refine (sgn_z _ HF15.out HFI.out hs0).mono ?_); rintro e10 w10 ⟨rfl, hb10⟩
          clear c0 c1 c2
          replace HBR := zH (zaa HBR.out hb10); replace HC11 := zH (HC11.out.belowS hb10); replace HF11 := zH (HF11.out.below hb10); replace HC12 := zH (HC12.out.belowS hb10); replace HF12 := zH (HF12.out.below hb10); replace HC13 := zH (HC13.out.belowS hb10); replace HF13 := zH (HF13.out.below hb10)))
       go_roundg (rn - (k + 1))
       case measure => (have := HG.out; omega)
       case rel =>
        refine ⟨k + 1, _, _, _, _, _, _, _, _, _, _, _, _, _, _, _, _, _, _, _, _, _, by omega, rfl, by go_num, HC11.out, ?_, HC12.out, ?_, HC13.out, ?_, HBR.out⟩
        ·have e : (0 + sg (k + 1) fun j => (c.rates.getD i []).getD j 0) = 0 + sg k fun j => (c.rates.getD i []).getD j 0 := by
          show 0 + (_ + (c.rates.getD i []).getD k 0) = _
          rw [HS.out, hs0, Rat.add_zero]
         rw [e]
         exact HF11.out
        ·have e : (0 + sg (k + 1) fun j => (c.rates.getD i []).getD j 0 * H j) = 0 + sg k fun j => (c.rates.getD i []).getD j 0 * H j := by
          show 0 + (_ + (c.rates.getD i []).getD k 0 * H k) = _
          rw [HS.out, hs0, Rat.zero_mul, Rat.add_zero]
         rw [e]
         exact HF12.out
        ·have e : (1 + sg (k + 1) fun j => (c.rates.getD i []).getD j 0 * T j) = 1 + sg k fun j => (c.rates.getD i []).getD j 0 * T j := by
          show 1 + (_ + (c.rates.getD i []).getD k 0 * T k) = _
          rw [HS.out, hs0, Rat.zero_mul, Rat.add_zero]
         rw [e]
         exact HF13.out
      ·go_upto_region 15 with (first
        |(go_at_call 34; (with_reducible refine (sgn_nz _ HF15.out HFI.out hs0).mono ?_); rintro e10 w10 ⟨z10, rfl, hz10, hb10⟩
          clear c0 c1 c2
          replace HBR := zH (zaa HBR.out hb10); replace HC11 := zH (HC11.out.belowS hb10); replace HF11 := zH (HF11.out.below hb10); replace HC12 := zH (HC12.out.belowS hb10); replace HF12 := zH (HF12.out.below hb10); replace HC13 := zH (HC13.out.belowS hb10); replace HF13 := zH (HF13.out.below hb10); replace HC15 := zH (HC15.out.belowS hb10); replace HF15 := zH (HF15.out.below hb10)))
       have hsp : 0 < s := by
        have h1 := HTC.out.rt_nn HIC.out HKC.out
        rw [HS.out] at h1
        grind
       have HPH : Hid (fits (H k) ∧ fits (s * H k)) := zH ⟨HTC.out.fH HKC.out, by rw [← HS.out]; exact HTC.out.fpH ((HTC.out.rt HIC.out HKC.out).mono (by decide)) HKC.out⟩
       have HPT : Hid (fits (T k) ∧ fits (s * T k)) := zH ⟨HTC.out.fT HKC.out, by rw [← HS.out]; exact HTC.out.fpT ((HTC.out.rt HIC.out HKC.out).mono (by decide)) HKC.out⟩
       have HSP := zH hsp
       clear hsp
       obtain ⟨_, c0, c1, c2, _, _, _⟩ := HC3.out.belowS HBR.out
       go_upto_region 16 with (first
        |(go_at_call 44; (with_reducible refine (zpe _ c k _ (HCH.out.below HBR.out) (by have := HTP.out.n5; omega) HKC.out).mono ?_); rintro e99 w99 ⟨v99, rfl, hv99, hb99⟩
          have HV99 : Hid (zwc w99 v99 (frm c k)) := zH hv99
          clear c0 c1 c2
          replace HBR := zH (zaa HBR.out hb99); replace HC11 := zH (HC11.out.belowS hb99); replace HF11 := zH (HF11.out.below hb99); replace HC12 := zH (HC12.out.belowS hb99); replace HF12 := zH (HF12.out.below hb99); replace HC13 := zH (HC13.out.belowS hb99); replace HF13 := zH (HF13.out.below hb99); replace HC15 := zH (HC15.out.belowS hb99); replace HF15 := zH (HF15.out.below hb99)
          clear hv99 hb99)
        |(go_at_call 43; (with_reducible refine (HTC.out.hit_f HKC.out HV99.out.raw).mono ?_); rintro e16 w16 ⟨v16, rfl, hv16, hb16⟩
          obtain ⟨t16, x16, y16, rfl, ⟨a161, l161, k161, rfl, _⟩, ⟨a162, l162, k162, rfl, _⟩⟩ := hv16.isF
          have hba := zba w16 (.cells #[.bool t16, .slice a161 l161 k161, .slice a162 l162 k162] 38)
          have hbb := zaa hb16 hba
          have HC16 := zH (C3.new w16 38 (.bool t16) (.slice a161 l161 k161) (.slice a162 l162 k162))
          have HLT16 := zH (Nat.lt_of_lt_of_le HC13.out.lt hb16.size)
          have HF16 := zH (hv16.below hba)
          clear hv16
          replace HBR := zH (zaa HBR.out hbb); replace HC11 := zH (HC11.out.belowS hbb); replace HF11 := zH (HF11.out.below hbb); replace HC12 := zH (HC12.out.belowS hbb); replace HF12 := zH (HF12.out.below hbb); replace HC13 := zH (HC13.out.belowS hbb); replace HF13 := zH (HF13.out.below hbb); replace HC15 := zH (HC15.out.belowS hbb); replace HF15 := zH (HF15.out.below hbb)
          clear hb16 hba hbb))
       obtain ⟨b16, hb16⟩ : ∃ b, w16.heap.size = b := ⟨_, rfl⟩
       rw [hb16] at HC16 HLT16 ⊢
       clear hb16
       generalize w16.alloc (.cells #[.bool t16, .slice a161 l161 k161, .slice a162 l162 k162] 38) = W16 at *
       clear HV99
       obtain ⟨_, c0, c1, c2, _, _, _⟩ := HC3.out.belowS HBR.out
       go_upto_region 17 with (first
        |(go_at_call 44; (with_reducible refine (zpe _ c k _ (HCH.out.below HBR.out) (by have := HTP.out.n5; omega) HKC.out).mono ?_); rintro e99 w99 ⟨v99, rfl, hv99, hb99⟩
          have HV99 : Hid (zwc w99 v99 (frm c k)) := zH hv99
          clear c0 c1 c2
          replace HBR := zH (zaa HBR.out hb99); replace HC11 := zH (HC11.out.belowS hb99); replace HF11 := zH (HF11.out.below hb99); replace HC12 := zH (HC12.out.belowS hb99); replace HF12 := zH (HF12.out.below hb99); replace HC13 := zH (HC13.out.belowS hb99); replace HF13 := zH (HF13.out.below hb99); replace HC15 := zH (HC15.out.belowS hb99); replace HF15 := zH (HF15.out.below hb99); replace HC16 := zH (HC16.out.belowS hb99); replace HF16 := zH (HF16.out.below hb99)
          clear hv99 hb99)
        |(go_at_call 45; (with_reducible refine (HTC.out.mean_fx HKC.out HV99.out).mono ?_); rintro e18 w18 ⟨t18, a181, l181, k181, a182, l182, k182, z18, rfl, hz18, hb18⟩
          have hba := zba w18 (.cells #[.bool t18, .slice a181 l181 k181, .slice a182 l182 k182] 38)
          have hbb := zaa hb18 hba
          have HC18 := zH (C3.new w18 38 (.bool t18) (.slice a181 l181 k181) (.slice a182 l182 k182))
          have HLT18 := zH (Nat.lt_of_lt_of_le HC13.out.lt hb18.size)
          have HZ18 : Hid (zzf c k ∧ z18 = 0 ∧ zoa (w18.alloc (.cells #[.bool t18, .slice a181 l181 k181, .slice a182 l182 k182] 38)) (.agg #[.bool t18, .slice a181 l181 k181, .slice a182 l182 k182]) (T k) ∨ ¬ zzf c k ∧ z18 = 14) := zH (hz18.imp (fun h => ⟨h.1, h.2.1, h.2.2.below hba⟩) id)
          clear hz18
          replace HBR := zH (zaa HBR.out hbb); replace HC11 := zH (HC11.out.belowS hbb); replace HF11 := zH (HF11.out.below hbb); replace HC12 := zH (HC12.out.belowS hbb); replace HF12 := zH (HF12.out.below hbb); replace HC13 := zH (HC13.out.belowS hbb); replace HF13 := zH (HF13.out.below hbb); replace HC15 := zH (HC15.out.belowS hbb); replace HF15 := zH (HF15.out.below hbb); replace HC16 := zH (HC16.out.belowS hbb); replace HF16 := zH (HF16.out.below hbb)
          clear hb18 hba hbb))
       obtain ⟨b18, hb18⟩ : ∃ b, w18.heap.size = b := ⟨_, rfl⟩
       rw [hb18] at HC18 HLT18 ⊢
       clear hb18
       generalize w18.alloc (.cells #[.bool t18, .slice a181 l181 k181, .slice a182 l182 k182] 38) = W18 at *
       clear HV99
       obtain ⟨_, rfl, hm18⟩ := HZ18.out.resolve_right (fun h => h.1 (HTC.out.next HIC.out HKC.out (by rw [HS.out]; exact HSP.out) hsu))
       have HF18 := zH hm18
       clear hm18
       go_upto_region 19 with fail
       have HE19 : Hid ((0 + sg k fun j => (c.rates.getD i []).getD j 0) + s = 0 + sg (k + 1) fun j => (c.rates.getD i []).getD j 0) := zH (by
        show _ = 0 + (_ + (c.rates.getD i []).getD k 0)
        rw [HS.out, Rat.add_assoc])
       have HE21 : Hid ((0 + sg k fun j => (c.rates.getD i []).getD j 0 * H j) + s * H k = 0 + sg (k + 1) fun j => (c.rates.getD i []).getD j 0 * H j) := zH (by
        show _ = 0 + (_ + (c.rates.getD i []).getD k 0 * H k)
        rw [HS.out, Rat.add_assoc])
       have HKS : Hid (k ≤ c.start.length ∧ k + 1 ≤ c.start.length) := zH (by have := HKC.out; omega)
       have HE24 : Hid ((1 + sg k fun j => (c.rates.getD i []).getD j 0 * T j) + s * T k = 1 + sg (k + 1) fun j => (c.rates.getD i []).getD j 0 * T j) := zH (by
        show _ = 1 + (_ + (c.rates.getD i []).getD k 0 * T k)
        rw [HS.out, Rat.add_assoc])
       obtain ⟨_, d0, d1, d2, f0, f1, f2⟩ := HC11.out
       obtain ⟨_, p0, p1, p2, _, _, _⟩ := HC15.out
       go_upto_region 20 with (first
        |(go_at_call 19; (with_reducible refine (zdd _ _ _ _ _ HF11.out HF15.out (HSR.out k HKS.out.1) HFI.out (by rw [HE19.out]; exact HSR.out (k + 1) HKS.out.2)).mono ?_); rw [HE19.out]; rintro e19 w19 ⟨v19, rfl, hv19, hb19⟩
          obtain ⟨t19, x19, y19, rfl, ⟨a191, l191, k191, rfl, _⟩, ⟨a192, l192, k192, rfl, _⟩⟩ := hv19.isF
          have HV19 := zH hv19
          clear d0 d1 d2 f0 f1 f2 p0 p1 p2
          replace HBR := zH (zaa HBR.out hb19); replace HC11 := zH (HC11.out.belowS hb19); replace HF11 := zH (HF11.out.below hb19); replace HC12 := zH (HC12.out.belowS hb19); replace HF12 := zH (HF12.out.below hb19); replace HC13 := zH (HC13.out.belowS hb19); replace HF13 := zH (HF13.out.below hb19); replace HC15 := zH (HC15.out.belowS hb19); replace HF15 := zH (HF15.out.below hb19); replace HC16 := zH (HC16.out.belowS hb19); replace HF16 := zH (HF16.out.below hb19); replace HC18 := zH (HC18.out.belowS hb19); replace HF18 := zH (HF18.out.below hb19)
          obtain ⟨_, d0, d1, d2, f0, f1, f2⟩ := HC11.out
          clear hv19 hb19))
       clear d0 d1 d2 f0 f1 f2
       have HF11 := zH (HV19.out.set3 HC11.out (fun z => by simp) (fun z => by simp) (.bool t19) (.slice a191 l191 k191) (.slice a192 l192 k192))
       have HF12 := zH (HF12.out.set3 HC11.out (fun z => by simp) (fun z => by simp) (.bool t19) (.slice a191 l191 k191) (.slice a192 l192 k192))
       have HC12 := zH (HC12.out.set_other (show b12 ≠ b11 by have := HNE.out; omega) (.bool t19) (.slice a191 l191 k191) (.slice a192 l192 k192))
       have HF13 := zH (HF13.out.set3 HC11.out (fun z => by simp) (fun z => by simp) (.bool t19) (.slice a191 l191 k191) (.slice a192 l192 k192))
       have HC13 := zH (HC13.out.set_other (show b13 ≠ b11 by have := HNE.out; omega) (.bool t19) (.slice a191 l191 k191) (.slice a192 l192 k192))
       have HF15 := zH (HF15.out.set3 HC11.out (fun z => by simp) (fun z => by simp) (.bool t19) (.slice a191 l191 k191) (.slice a192 l192 k192))
       have HC15 := zH (HC15.out.set_other (show b15 ≠ b11 by have := HNE.out; have := HLT15.out; omega) (.bool t19) (.slice a191 l191 k191) (.slice a192 l192 k192))
       have HF16 := zH (HF16.out.set3 HC11.out (fun z => by simp) (fun z => by simp) (.bool t19) (.slice a191 l191 k191) (.slice a192 l192 k192))
       have HC16 := zH (HC16.out.set_other (show b16 ≠ b11 by have := HNE.out; have := HLT16.out; omega) (.bool t19) (.slice a191 l191 k191) (.slice a192 l192 k192))
       have HF18 := zH (HF18.out.set3 HC11.out (fun z => by simp) (fun z => by simp) (.bool t19) (.slice a191 l191 k191) (.slice a192 l192 k192))
       have HC18 := zH (HC18.out.set_other (show b18 ≠ b11 by have := HNE.out; have := HLT18.out; omega) (.bool t19) (.slice a191 l191 k191) (.slice a192 l192 k192))
       have HBR := zH (zga HBR.out HL11.out (.bool t19) (.slice a191 l191 k191) (.slice a192 l192 k192))
       have HC11 := zH (HC11.out.set (.bool t19) (.slice a191 l191 k191) (.slice a192 l192 k192))
       generalize (((w19.setCell ⟨b11, 0, none⟩ (.bool t19)).setCell ⟨b11, 1, none⟩ (.slice a191 l191 k191)).setCell ⟨b11, 2, none⟩ (.slice a192 l192 k192)) = X19 at *
       clear HV19
       obtain ⟨_, d0, d1, d2, f0, f1, f2⟩ := HC15.out
       obtain ⟨_, p0, p1, p2, _, _, _⟩ := HC16.out
       go_upto_region 21 with (first
        |(go_at_call 38; (with_reducible refine (zae _ _ _ _ _ HF15.out HF16.out HFI.out HPH.out.1 HPH.out.2).mono ?_); rintro e20 w20 ⟨v20, rfl, hv20, hb20⟩
          obtain ⟨t20, x20, y20, rfl, ⟨a201, l201, k201, rfl, _⟩, ⟨a202, l202, k202, rfl, _⟩⟩ := hv20.isF
          clear d0 d1 d2 f0 f1 f2 p0 p1 p2
          have hba := zba w20 (.cells #[.bool t20, .slice a201 l201 k201, .slice a202 l202 k202] 38)
          have hbb := zaa hb20 hba
          have HC20 := zH (C3.new w20 38 (.bool t20) (.slice a201 l201 k201) (.slice a202 l202 k202))
          have HLT20 := zH (Nat.lt_of_lt_of_le HC13.out.lt hb20.size)
          have HF20 := zH (hv20.below hba)
          clear hv20
          replace HBR := zH (zaa HBR.out hbb); replace HC11 := zH (HC11.out.belowS hbb); replace HF11 := zH (HF11.out.below hbb); replace HC12 := zH (HC12.out.belowS hbb); replace HF12 := zH (HF12.out.below hbb); replace HC13 := zH (HC13.out.belowS hbb); replace HF13 := zH (HF13.out.below hbb); replace HC15 := zH (HC15.out.belowS hbb); replace HF15 := zH (HF15.out.below hbb); replace HC16 := zH (HC16.out.belowS hbb); replace HF16 := zH (HF16.out.below hbb); replace HC18 := zH (HC18.out.belowS hbb); replace HF18 := zH (HF18.out.below hbb)
          clear hb20 hba hbb))
       obtain ⟨b20, hb20⟩ : ∃ b, w20.heap.size = b := ⟨_, rfl⟩
       rw [hb20] at HC20 HLT20 ⊢
       clear hb20
       generalize w20.alloc (.cells #[.bool t20, .slice a201 l201 k201, .slice a202 l202 k202] 38) = W20 at *
       obtain ⟨_, d0, d1, d2, f0, f1, f2⟩ := HC12.out
       obtain ⟨_, p0, p1, p2, _, _, _⟩ := HC20.out
       go_upto_region 22 with (first
        |(go_at_call 19; (with_reducible refine (zdd _ _ _ _ _ HF12.out HF20.out (HSH.out k HKS.out.1) HPH.out.2 (by rw [HE21.out]; exact HSH.out (k + 1) HKS.out.2)).mono ?_); rw [HE21.out]; rintro e21 w21 ⟨v21, rfl, hv21, hb21⟩
          obtain ⟨t21, x21, y21, rfl, ⟨a211, l211, k211, rfl, _⟩, ⟨a212, l212, k212, rfl, _⟩⟩ := hv21.isF
          have HV21 := zH hv21
          clear d0 d1 d2 f0 f1 f2 p0 p1 p2
          replace HBR := zH (zaa HBR.out hb21); replace HC12 := zH (HC12.out.belowS hb21); replace HF12 := zH (HF12.out.below hb21); replace HC11 := zH (HC11.out.belowS hb21); replace HF11 := zH (HF11.out.below hb21); replace HC13 := zH (HC13.out.belowS hb21); replace HF13 := zH (HF13.out.below hb21); replace HC15 := zH (HC15.out.belowS hb21); replace HF15 := zH (HF15.out.below hb21); replace HC18 := zH (HC18.out.belowS hb21); replace HF18 := zH (HF18.out.below hb21)
          obtain ⟨_, d0, d1, d2, f0, f1, f2⟩ := HC12.out
          clear hv21 hb21))
       clear d0 d1 d2 f0 f1 f2
       have HF12 := zH (HV21.out.set3 HC12.out (fun z => by simp) (fun z => by simp) (.bool t21) (.slice a211 l211 k211) (.slice a212 l212 k212))
       have HF11 := zH (HF11.out.set3 HC12.out (fun z => by simp) (fun z => by simp) (.bool t21) (.slice a211 l211 k211) (.slice a212 l212 k212))
       have HC11 := zH (HC11.out.set_other (show b11 ≠ b12 by have := HNE.out; omega) (.bool t21) (.slice a211 l211 k211) (.slice a212 l212 k212))
       have HF13 := zH (HF13.out.set3 HC12.out (fun z => by simp) (fun z => by simp) (.bool t21) (.slice a211 l211 k211) (.slice a212 l212 k212))
       have HC13 := zH (HC13.out.set_other (show b13 ≠ b12 by have := HNE.out; omega) (.bool t21) (.slice a211 l211 k211) (.slice a212 l212 k212))
       have HF15 := zH (HF15.out.set3 HC12.out (fun z => by simp) (fun z => by simp) (.bool t21) (.slice a211 l211 k211) (.slice a212 l212 k212))
       have HC15 := zH (HC15.out.set_other (show b15 ≠ b12 by have := HNE.out; have := HLT15.out; omega) (.bool t21) (.slice a211 l211 k211) (.slice a212 l212 k212))
       have HF18 := zH (HF18.out.set3 HC12.out (fun z => by simp) (fun z => by simp) (.bool t21) (.slice a211 l211 k211) (.slice a212 l212 k212))
       have HC18 := zH (HC18.out.set_other (show b18 ≠ b12 by have := HNE.out; have := HLT18.out; omega) (.bool t21) (.slice a211 l211 k211) (.slice a212 l212 k212))
       have HBR := zH (zga HBR.out HL12.out (.bool t21) (.slice a211 l211 k211) (.slice a212 l212 k212))
       have HC12 := zH (HC12.out.set (.bool t21) (.slice a211 l211 k211) (.slice a212 l212 k212))
       generalize (((w21.setCell ⟨b12, 0, none⟩ (.bool t21)).setCell ⟨b12, 1, none⟩ (.slice a211 l211 k211)).setCell ⟨b12, 2, none⟩ (.slice a212 l212 k212)) = X21 at *
       clear HV21
       go_upto_region 23 with fail
       obtain ⟨_, d0, d1, d2, f0, f1, f2⟩ := HC15.out
       obtain ⟨_, p0, p1, p2, _, _, _⟩ := HC18.out
       go_upto_region 24 with (first
        |(go_at_call 38; (with_reducible refine (zae _ _ _ _ _ HF15.out HF18.out HFI.out HPT.out.1 HPT.out.2).mono ?_); rintro e22 w22 ⟨v22, rfl, hv22, hb22⟩
          obtain ⟨t22, x22, y22, rfl, ⟨a221, l221, k221, rfl, _⟩, ⟨a222, l222, k222, rfl, _⟩⟩ := hv22.isF
          clear d0 d1 d2 f0 f1 f2 p0 p1 p2
          have hba := zba w22 (.cells #[.bool t22, .slice a221 l221 k221, .slice a222 l222 k222] 38)
          have hbb := zaa hb22 hba
          have HC22 := zH (C3.new w22 38 (.bool t22) (.slice a221 l221 k221) (.slice a222 l222 k222))
          have HLT22 := zH (Nat.lt_of_lt_of_le HC13.out.lt hb22.size)
          have HF22 := zH (hv22.below hba)
          clear hv22
          replace HBR := zH (zaa HBR.out hbb); replace HC12 := zH (HC12.out.belowS hbb); replace HF12 := zH (HF12.out.below hbb); replace HC11 := zH (HC11.out.belowS hbb); replace HF11 := zH (HF11.out.below hbb); replace HC13 := zH (HC13.out.belowS hbb); replace HF13 := zH (HF13.out.below hbb); replace HC15 := zH (HC15.out.belowS hbb); replace HF15 := zH (HF15.out.below hbb); replace HC18 := zH (HC18.out.belowS hbb); replace HF18 := zH (HF18.out.below hbb)
          clear hb22 hba hbb))
       obtain ⟨b22, hb22⟩ : ∃ b, w22.heap.size = b := ⟨_, rfl⟩
       rw [hb22] at HC22 HLT22 ⊢
       clear hb22
       generalize w22.alloc (.cells #[.bool t22, .slice a221 l221 k221, .slice a222 l222 k222] 38) = W22 at *
       obtain ⟨_, d0, d1, d2, f0, f1, f2⟩ := HC13.out
       obtain ⟨_, p0, p1, p2, _, _, _⟩ := HC22.out
       go_wp2_with (first
        |(go_at_call 19; (with_reducible refine (zdd _ _ _ _ _ HF13.out HF22.out (HST2.out k HKS.out.1) HPT.out.2 (by rw [HE24.out]; exact HST2.out (k + 1) HKS.out.2)).mono ?_); rw [HE24.out]; rintro e24 w24 ⟨v24, rfl, hv24, hb24⟩
          obtain ⟨t24, x24, y24, rfl, ⟨a241, l241, k241, rfl, _⟩, ⟨a242, l242, k242, rfl, _⟩⟩ := hv24.isF
          have HV24 := zH hv24
          clear d0 d1 d2 f0 f1 f2 p0 p1 p2
          replace HBR := zH (zaa HBR.out hb24); replace HC11 := zH (HC11.out.belowS hb24); replace HF11 := zH (HF11.out.below hb24); replace HC12 := zH (HC12.out.belowS hb24); replace HF12 := zH (HF12.out.below hb24); replace HC13 := zH (HC13.out.belowS hb24)
          obtain ⟨_, d0, d1, d2, f0, f1, f2⟩ := HC13.out
          clear hv24 hb24))
       go_roundg (rn - (k + 1))
       case measure => (have := HG.out; omega)
       case rel =>
        exact ⟨k + 1, _, _, _, _, _, _, _, _, _, _, _, _, _, _, _, _, _, _, _, _, _, by omega, rfl, by go_num, HC11.out.set_other (show b11 ≠ b13 by have := HNE.out; omega) _ _ _, HF11.out.set3 HC13.out (fun z => by simp) (fun z => by simp) _ _ _, HC12.out.set_other (show b12 ≠ b13 by have := HNE.out; omega) _ _ _, HF12.out.set3 HC13.out (fun z => by simp) (fun z => by simp) _ _ _, HC13.out.set _ _ _, HV24.out.set3 HC13.out (fun z => by simp) (fun z => by simp) _ _ _, zga HBR.out HL13.out _ _ _⟩
     ·have HQ0 : Hid (fits (0 + sg rn fun j => (c.rates.getD i []).getD j 0) ∧ fits ((0 + sg rn fun j => (c.rates.getD i []).getD j 0) * H i) ∧ fits ((0 + sg rn fun j => (c.rates.getD i []).getD j 0) * T i)) := zH ⟨HSR.out rn (by rw [← HNS.out]; exact Nat.le_refl _), HTC.out.fpH (HTC.out.ovR HIC.out (by rw [← HNS.out]; exact Nat.le_refl _)) HIC.out, HTC.out.fpT (HTC.out.ovR HIC.out (by rw [← HNS.out]; exact Nat.le_refl _)) HIC.out⟩
      have HQH : Hid ((0 + sg rn fun j => (c.rates.getD i []).getD j 0) * H i = 0 + sg rn fun j => (c.rates.getD i []).getD j 0 * H j) := zH (by rw [Rat.zero_add, Rat.zero_add, HNS.out]; exact HEH.out)
      have HQT : Hid ((0 + sg rn fun j => (c.rates.getD i []).getD j 0) * T i = 1 + sg rn fun j => (c.rates.getD i []).getD j 0 * T j) := zH (by rw [Rat.zero_add, HNS.out]; exact HTC.out.eq_t HIC.out HXL.out hsu)
      have HH1 := zH (HTC.out.hit1 HIC.out hsu)
      have HM9 := zH hm9
      obtain rfl : k = rn := by omega
      clear c0 c1 c2
      have HF7 := zH (HF7.out.below HBR.out)
      have HC7 := zH (HC7.out.belowS HBR.out)
      have HC9 := zH (HC9.out.belowS HBR.out)
      obtain ⟨_, c0, c1, c2, _, _, _⟩ := HC3.out.belowS HBR.out
      go_upto_region 25 with fail
      clear c0 c1 c2
      obtain ⟨_, d0, d1, d2, f0, f1, f2⟩ := HC11.out
      obtain ⟨_, p0, p1, p2, _, _, _⟩ := HC7.out
      go_upto_region 26 with (first
       |(go_at_call 38; (with_reducible refine (zae _ _ _ _ _ HF11.out HF7.out HQ0.out.1 HFH.out HQ0.out.2.1).mono ?_); rintro e25 w25 ⟨v25, rfl, hv25, hb25⟩
         obtain ⟨t25, x25, y25, rfl, ⟨a251, l251, k251, rfl, _⟩, ⟨a252, l252, k252, rfl, _⟩⟩ := hv25.isF
         clear d0 d1 d2 f0 f1 f2 p0 p1 p2
         have hba := zba w25 (.cells #[.bool t25, .slice a251 l251 k251, .slice a252 l252 k252] 38)
         have hbb := zaa hb25 hba
         have HC25 := zH (C3.new w25 38 (.bool t25) (.slice a251 l251 k251) (.slice a252 l252 k252))
         have HF25 := zH (hv25.below hba)
         clear hv25
         replace HBR := zH (zaa HBR.out hbb); replace HC11 := zH (HC11.out.belowS hbb); replace HF11 := zH (HF11.out.below hbb); replace HC12 := zH (HC12.out.belowS hbb); replace HF12 := zH (HF12.out.below hbb); replace HC13 := zH (HC13.out.belowS hbb); replace HF13 := zH (HF13.out.below hbb); replace HC7 := zH (HC7.out.belowS hbb); replace HF7 := zH (HF7.out.below hbb); replace HC9 := zH (HC9.out.belowS hbb)
         clear hb25 hba hbb))
      obtain ⟨b25, hb25⟩ : ∃ b, w25.heap.size = b := ⟨_, rfl⟩
      rw [hb25] at HC25 ⊢
      clear hb25
      generalize w25.alloc (.cells #[.bool t25, .slice a251 l251 k251, .slice a252 l252 k252] 38) = W25 at *
      obtain ⟨_, d0, d1, d2, f0, f1, f2⟩ := HC25.out
      obtain ⟨_, p0, p1, p2, _, _, _⟩ := HC12.out
      go_upto_region 30 with (first
       |(go_at_call 33; (with_reducible refine (zwi _ _ HF25.out HF12.out HQ0.out.2.1 HQH.out).mono ?_); rintro e26 w26 ⟨rfl, hb26⟩
         clear d0 d1 d2 f0 f1 f2 p0 p1 p2
         replace HBR := zH (zaa HBR.out hb26); replace HC11 := zH (HC11.out.belowS hb26); replace HF11 := zH (HF11.out.below hb26); replace HC12 := zH (HC12.out.belowS hb26); replace HF12 := zH (HF12.out.below hb26); replace HC13 := zH (HC13.out.belowS hb26); replace HF13 := zH (HF13.out.below hb26); replace HC7 := zH (HC7.out.belowS hb26); replace HF7 := zH (HF7.out.below hb26); replace HC9 := zH (HC9.out.belowS hb26)
         clear hb26))
      have HF9 := zH (HM9.out.below HBR.out)
      obtain ⟨_, d0, d1, d2, f0, f1, f2⟩ := HC11.out
      obtain ⟨_, p0, p1, p2, _, _, _⟩ := HC9.out
      go_upto_region 31 with (first
       |(go_at_call 38; (with_reducible refine (zae _ _ _ _ _ HF11.out HF9.out HQ0.out.1 HFT.out HQ0.out.2.2).mono ?_); rintro e26 w26 ⟨v26, rfl, hv26, hb26⟩
         obtain ⟨t26, x26, y26, rfl, ⟨a261, l261, k261, rfl, _⟩, ⟨a262, l262, k262, rfl, _⟩⟩ := hv26.isF
         clear d0 d1 d2 f0 f1 f2 p0 p1 p2
         have hba := zba w26 (.cells #[.bool t26, .slice a261 l261 k261, .slice a262 l262 k262] 38)
         have hbb := zaa hb26 hba
         have HC26 := zH (C3.new w26 38 (.bool t26) (.slice a261 l261 k261) (.slice a262 l262 k262))
         have HF26 := zH (hv26.below hba)
         clear hv26
         replace HBR := zH (zaa HBR.out hbb); replace HC13 := zH (HC13.out.belowS hbb); replace HF13 := zH (HF13.out.below hbb); replace HC7 := zH (HC7.out.belowS hbb); replace HF7 := zH (HF7.out.below hbb)
         clear hb26 hba hbb))
      obtain ⟨b26, hb26⟩ : ∃ b, w26.heap.size = b := ⟨_, rfl⟩
      rw [hb26] at HC26 ⊢
      clear hb26
      generalize w26.alloc (.cells #[.bool t26, .slice a261 l261 k261, .slice a262 l262 k262] 38) = W26 at *
      rw [HQT.out] at HF26
      rw [HH1.out] at HF7
      have HFW : Hid (fits (1 + sg k fun j => (c.rates.getD i []).getD j 0 * T j)) := zH (by rw [← HQT.out]; exact HQ0.out.2.2)
      obtain ⟨_, c0, c1, c2, _, _, _⟩ := HC26.out
      obtain ⟨_, d0, d1, d2, _, _, _⟩ := HC13.out
      obtain ⟨_, p0, p1, p2, _, _, _⟩ := HC7.out
      have S0 := zH (And.intro c0 (And.intro c1 (And.intro c2 (And.intro d0 (And.intro d1 (And.intro d2 (And.intro p0 (And.intro p1 (And.intro p2 (Below.refl W26.heap.size W26))))))))))
      clear c0 c1 c2 d0 d1 d2 p0 p1 p2
      go_region_held3 (fun w' => w'.cell? ⟨b26, 0, none⟩ = some (.bool t26) ∧ w'.cell? ⟨b26, 1, none⟩ = some (.slice a261 l261 k261) ∧ w'.cell? ⟨b26, 2, none⟩ = some (.slice a262 l262 k262) ∧
       w'.cell? ⟨b13, 0, none⟩ = some (.bool t13) ∧ w'.cell? ⟨b13, 1, none⟩ = some (.slice a131 l131 k131) ∧ w'.cell? ⟨b13, 2, none⟩ = some (.slice a132 l132 k132) ∧
       w'.cell? ⟨b7, 0, none⟩ = some (.bool t7) ∧ w'.cell? ⟨b7, 1, none⟩ = some (.slice a71 l71 k71) ∧ w'.cell? ⟨b7, 2, none⟩ = some (.slice a72 l72 k72) ∧ Below W26.heap.size W26 w') (first
       | with_reducible exact keep9 S0.out (zha _)
       | with_reducible exact keep9 (by assumption) (by assumption)) (first
       |(go_at_call 20; (with_reducible refine (zse _).mono ?_); rintro e31 w31 ⟨v31, rfl, hv31, hb31⟩)
       |(go_at_call 33; (with_reducible refine (zwi _ _ (HF26.out.below (keep9b (by assumption))) (HF13.out.below (keep9b (by assumption))) HFW.out rfl).mono ?_); rintro e32 w32 ⟨rfl, hb32⟩)
       |(go_at_call 33; (with_reducible refine (zwi _ _ (HF7.out.below (keep9b (by assumption))) hv31 (by decide) rfl).mono ?_); rintro e33 w33 ⟨rfl, hb33⟩)
       |(go_at_call 46; (with_reducible refine (zme _).mono ?_); rintro e34 w34 ⟨rfl, hb34⟩))
      all_goals
       have hEnd := keep9b (by assumption)
       go_wp2_with fail
       go_ret
       exact ⟨rfl, HB.out.trans ((zaa HBR.out hEnd).mono HB.out.size)⟩
   ·go_upto_region 10 with (first
     |(go_at_call 20; (with_reducible refine (zob W9).mono ?_); rintro e11 w11 ⟨v11, rfl, hv11, hb11⟩
       obtain ⟨t11, x11, y11, rfl, ⟨a111, l111, k111, rfl, _⟩, ⟨a112, l112, k112, rfl, _⟩⟩ := hv11.isF)
     |(go_at_call 20; (with_reducible refine (zob w11).mono ?_); rintro e12 w12 ⟨v12, rfl, hv12, hb12⟩
       obtain ⟨t12, x12, y12, rfl, ⟨a121, l121, k121, rfl, _⟩, ⟨a122, l122, k122, rfl, _⟩⟩ := hv12.isF)
     |(go_at_call 20; (with_reducible refine (zse w12).mono ?_); rintro e13 w13 ⟨v13, rfl, hv13, hb13⟩
       obtain ⟨t13, x13, y13, rfl, ⟨a131, l131, k131, rfl, _⟩, ⟨a132, l132, k132, rfl, _⟩⟩ := hv13.isF
       have ba1 := zba w13 (.cells #[.bool t11, .slice a111 l111 k111, .slice a112 l112 k112] 38)
       have ba2 := zba (w13.alloc (.cells #[.bool t11, .slice a111 l111 k111, .slice a112 l112 k112] 38)) (.cells #[.bool t12, .slice a121 l121 k121, .slice a122 l122 k122] 38)
       have ba3 := zba ((w13.alloc (.cells #[.bool t11, .slice a111 l111 k111, .slice a112 l112 k112] 38)).alloc (.cells #[.bool t12, .slice a121 l121 k121, .slice a122 l122 k122] 38)) (.cells #[.bool t13, .slice a131 l131 k131, .slice a132 l132 k132] 38)
       have HBR := zH (zaa (zaa hb11 (zaa hb12 hb13)) (zaa ba1 (zaa ba2 ba3)))
       have HC11 := zH (((C3.new w13 38 (.bool t11) (.slice a111 l111 k111) (.slice a112 l112 k112)).belowS ba2).belowS ba3)
       have HC12 := zH ((C3.newB (b := w13.heap.size + 1) (w13.alloc (.cells #[.bool t11, .slice a111 l111 k111, .slice a112 l112 k112] 38)) 38 (.bool t12) (.slice a121 l121 k121) (.slice a122 l122 k122) (by simp)).belowS ba3)
       have HC13 := zH (C3.newB (b := w13.heap.size + 1 + 1) ((w13.alloc (.cells #[.bool t11, .slice a111 l111 k111, .slice a112 l112 k112] 38)).alloc (.cells #[.bool t12, .slice a121 l121 k121, .slice a122 l122 k122] 38)) 38 (.bool t13) (.slice a131 l131 k131) (.slice a132 l132 k132) (by simp))
       have HF11 := zH (((((hv11.below hb12).below hb13).below ba1).below ba2).below ba3)
       have HF12 := zH ((((hv12.below hb13).below ba1).below ba2).below ba3)
       have HF13 := zH (((hv13.below ba1).below ba2).below ba3)
       have HL11 : Hid (W9.heap.size ≤ w13.heap.size) := zH (Nat.le_trans hb11.size (Nat.le_trans hb12.size hb13.size))
       clear hv11 hv12 hv13 hb11 hb12 hb13 ba1 ba2 ba3))
    obtain ⟨b11, hb11⟩ : ∃ b, w13.heap.size = b := ⟨_, rfl⟩
    rw [hb11] at HC11 HC12 HC13 HL11 ⊢
    clear hb11
    generalize ((w13.alloc (.cells #[.bool t11, .slice a111 l111 k111, .slice a112 l112 k112] 38)).alloc (.cells #[.bool t12, .slice a121 l121 k121, .slice a122 l122 k122] 38)).alloc (.cells #[.bool t13, .slice a131 l131 k131, .slice a132 l132 k132] 38) = W13 at *
    obtain ⟨b13, hb13⟩ : ∃ b, b11 + 1 + 1 = b := ⟨_, rfl⟩
    rw [hb13] at HC13 ⊢
    obtain ⟨b12, hb12⟩ : ∃ b, b11 + 1 = b := ⟨_, rfl⟩
    rw [hb12] at HC12 ⊢
    have HNE : Hid (b11 < b12 ∧ b12 < b13) := zH (by omega)
    have HL12 : Hid (W9.heap.size ≤ b12) := zH (by have := HL11.out; omega)
    have HL13 : Hid (W9.heap.size ≤ b13) := zH (by have := HL11.out; omega)
    clear hb12 hb13
    go_wp2_with fail
    go_loopg [14] (rn) (fun g u14 wr => ∃ (k : Nat) (t11 : Bool) (a111 : Option Addr) (l111 k111 : Nat) (a112 : Option Addr) (l112 k112 : Nat) (t12 : Bool) (a121 : Option Addr) (l121 k121 : Nat) (a122 : Option Addr) (l122 k122 : Nat) (t13 : Bool) (a131 : Option Addr) (l131 k131 : Nat) (a132 : Option Addr) (l132 k132 : Nat), k ≤ rn ∧ g = rn - k ∧ u14 = .int .i64 k ∧ C3 wr b11 (.bool t11) (.slice a111 l111 k111) (.slice a112 l112 k112) ∧ zoa wr (.agg #[.bool t11, .slice a111 l111 k111, .slice a112 l112 k112]) (0 + sg k fun j => (c.rates.getD i []).getD j 0) ∧ C3 wr b12 (.bool t12) (.slice a121 l121 k121) (.slice a122 l122 k122) ∧ zoa wr (.agg #[.bool t12, .slice a121 l121 k121, .slice a122 l122 k122]) (0 + sg k fun j => (c.rates.getD i []).getD j 0 * H j) ∧ C3 wr b13 (.bool t13) (.slice a131 l131 k131) (.slice a132 l132 k132) ∧ zoa wr (.agg #[.bool t13, .slice a131 l131 k131, .slice a132 l132 k132]) (1) ∧ Below W9.heap.size W9 wr)
    case atStart =>
     refine ⟨0, _, _, _, _, _, _, _, _, _, _, _, _, _, _, _, _, _, _, _, _, _, Nat.zero_le _, rfl, rfl, HC11.out, ?_, HC12.out, ?_, HC13.out, ?_, HBR.out⟩
     ·show zoa _ _ (0 + 0); rw [Rat.add_zero]; exact HF11.out
     ·show zoa _ _ (0 + 0); rw [Rat.add_zero]; exact HF12.out
     ·exact HF13.out
    case round =>
     obtain ⟨k, t11, a111, l111, k111, a112, l112, k112, t12, a121, l121, k121, a122, l122, k122, t13, a131, l131, k131, a132, l132, k132, hkn, hg, rfl, hc11, hf11, hc12, hf12, hc13, hf13, hbr⟩ := hrel
     obtain ⟨W14, hw9⟩ : ∃ w6, w6 = wr := ⟨_, rfl⟩
     subst hw9
     have HG := zH hg
     have HC11 := zH hc11
     have HF11 := zH hf11
     have HC12 := zH hc12
     have HF12 := zH hf12
     have HC13 := zH hc13
     have HF13 := zH hf13
     have HBR := zH hbr
     obtain ⟨_, c0, c1, c2, _, _, _⟩ := HC3.out.belowS HBR.out
     clear hg hc11 hf11 hc12 hf12 hc13 hf13 hbr
     by_cases hkl : k < rn
     ·have hkc : k < c.start.length := by rw [← HNS.out]; exact hkl
      obtain ⟨t15, a151, l151, k151, a152, l152, k152, g1, g2, g3, hfs⟩ := (HROW.out.below HBR.out).cellsAt (k := k) (by rw [HRN.out]; exact hkl)
      obtain ⟨s, hs⟩ : ∃ s, (c.rates.getD i []).getD k 0 = s := ⟨_, rfl⟩
      have HS := zH hs
      have HKC := zH hkc
      rw [hs] at hfs
      have hri := zca HBR.out HRV.out
      have HFI : Hid (fits s) := zH (by rw [← hs]; exact zej (HTC.out.rt HIC.out hkc) (by decide +kernel))
      have j1 : (0 : Int) ≤ (k : Int) := by omega
      have j2 : (k : Int) < (rn : Nat) := by omega
      have i4 : (i : Int) < (nr : Nat) := by have := HNRN.out; omega
      have hba := zba W14 (.cells #[.bool t15, .slice a151 l151 k151, .slice a152 l152 k152] 38)
      have HFS := zH (hfs.below hba)
      have HC15 := zH (C3.new W14 38 (.bool t15) (.slice a151 l151 k151) (.slice a152 l152 k152))
      have HLT15 := zH HC13.out.lt
      clear hfs hs hkc
      go_upto_region 14 with fail
      replace HBR := zH (zaa HBR.out hba); replace HC11 := zH (HC11.out.belowS hba); replace HF11 := zH (HF11.out.below hba); replace HC12 := zH (HC12.out.belowS hba); replace HF12 := zH (HF12.out.below hba); replace HC13 := zH (HC13.out.belowS hba); replace HF13 := zH (HF13.out.below hba)
      clear c0 c1 c2 g1 g2 g3 hri hba
      obtain ⟨b15, hb15⟩ : ∃ b, W14.heap.size = b := ⟨_, rfl⟩
      rw [hb15] at HC15 HLT15 ⊢
      clear hb15
      generalize W14.alloc (.cells #[.bool t15, .slice a151 l151 k151, .slice a152 l152 k152] 38) = W15 at *
      have HF15 := HFS
      clear HFS
      obtain ⟨_, c0, c1, c2, _, _, _⟩ := HC15.out
      by_cases hs0 : s = 0
      ·go_wp2_with (first
        |(go_at_call 34; (with_reducible refine (sgn_z _ HF15.out HFI.out hs0).mono ?_); rintro e10 w10 ⟨rfl, hb10⟩
          clear c0 c1 c2
          replace HBR := zH (zaa HBR.out hb10); replace HC11 := zH (HC11.out.belowS hb10); replace HF11 := zH (HF11.out.below hb10); replace HC12 := zH (HC12.out.belowS hb10); replace HF12 := zH (HF12.out.below hb10); replace HC13 := zH (HC13.out.belowS hb10); replace HF13 := zH (HF13.out.below hb10)))
       go_roundg (rn - (k + 1))
       case measure => (have := HG.out; omega)
       case rel =>
        refine ⟨k + 1, _, _, _, _, _, _, _, _, _, _, _, _, _, _, _, _, _, _, _, _, _, by omega, rfl, by go_num, HC11.out, ?_, HC12.out, ?_, HC13.out, ?_, HBR.out⟩
        ·have e : (0 + sg (k + 1) fun j => (c.rates.getD i []).getD j 0) = 0 + sg k fun j => (c.rates.getD i []).getD j 0 := by
          show 0 + (_ + (c.rates.getD i []).getD k 0) = _
          rw [HS.out, hs0, Rat.add_zero]
         rw [e]
         exact HF11.out
        ·have e : (0 + sg (k + 1) fun j => (c.rates.getD i []).getD j 0 * H j) = 0 + sg k fun j => (c.rates.getD i []).getD j 0 * H j := by
          show 0 + (_ + (c.rates.getD i []).getD k 0 * H k) = _
          rw [HS.out, hs0, Rat.zero_mul, Rat.add_zero]
         rw [e]
         exact HF12.out
        ·exact HF13.out
      ·go_upto_region 15 with (first
        |(go_at_call 34; (with_reducible refine (sgn_nz _ HF15.out HFI.out hs0).mono ?_); rintro e10 w10 ⟨z10, rfl, hz10, hb10⟩
          clear c0 c1 c2
          replace HBR := zH (zaa HBR.out hb10); replace HC11 := zH (HC11.out.belowS hb10); replace HF11 := zH (HF11.out.below hb10); replace HC12 := zH (HC12.out.belowS hb10); replace HF12 := zH (HF12.out.below hb10); replace HC13 := zH (HC13.out.belowS hb10); replace HF13 := zH (HF13.out.below hb10); replace HC15 := zH (HC15.out.belowS hb10); replace HF15 := zH (HF15.out.below hb10)))
       have hsp : 0 < s := by
        have h1 := HTC.out.rt_nn HIC.out HKC.out
        rw [HS.out] at h1
        grind
       have HPH : Hid (fits (H k) ∧ fits (s * H k)) := zH ⟨HTC.out.fH HKC.out, by rw [← HS.out]; exact HTC.out.fpH ((HTC.out.rt HIC.out HKC.out).mono (by decide)) HKC.out⟩
       have HPT : Hid (fits (T k) ∧ fits (s * T k)) := zH ⟨HTC.out.fT HKC.out, by rw [← HS.out]; exact HTC.out.fpT ((HTC.out.rt HIC.out HKC.out).mono (by decide)) HKC.out⟩
       have HSP := zH hsp
       clear hsp
       obtain ⟨_, c0, c1, c2, _, _, _⟩ := HC3.out.belowS HBR.out
       go_upto_region 16 with (first
        |(go_at_call 44; (with_reducible refine (zpe _ c k _ (HCH.out.below HBR.out) (by have := HTP.out.n5; omega) HKC.out).mono ?_); rintro e99 w99 ⟨v99, rfl, hv99, hb99⟩
          have HV99 : Hid (zwc w99 v99 (frm c k)) := zH hv99
          clear c0 c1 c2
          replace HBR := zH (zaa HBR.out hb99); replace HC11 := zH (HC11.out.belowS hb99); replace HF11 := zH (HF11.out.below hb99); replace HC12 := zH (HC12.out.belowS hb99); replace HF12 := zH (HF12.out.below hb99); replace HC13 := zH (HC13.out.belowS hb99); replace HF13 := zH (HF13.out.below hb99); replace HC15 := zH (HC15.out.belowS hb99); replace HF15 := zH (HF15.out.below hb99)
          clear hv99 hb99)
        |(go_at_call 43; (with_reducible refine (HTC.out.hit_f HKC.out HV99.out.raw).mono ?_); rintro e16 w16 ⟨v16, rfl, hv16, hb16⟩
          obtain ⟨t16, x16, y16, rfl, ⟨a161, l161, k161, rfl, _⟩, ⟨a162, l162, k162, rfl, _⟩⟩ := hv16.isF
          have hba := zba w16 (.cells #[.bool t16, .slice a161 l161 k161, .slice a162 l162 k162] 38)
          have hbb := zaa hb16 hba
          have HC16 := zH (C3.new w16 38 (.bool t16) (.slice a161 l161 k161) (.slice a162 l162 k162))
          have HLT16 := zH (Nat.lt_of_lt_of_le HC13.out.lt hb16.size)
          have HF16 := zH (hv16.below hba)
          clear hv16
          replace HBR := zH (zaa HBR.out hbb); replace HC11 := zH (HC11.out.belowS hbb); replace HF11 := zH (HF11.out.below hbb); replace HC12 := zH (HC12.out.belowS hbb); replace HF12 := zH (HF12.out.below hbb); replace HC13 := zH (HC13.out.belowS hbb); replace HF13 := zH (HF13.out.below hbb); replace HC15 := zH (HC15.out.belowS hbb); replace HF15 := zH (HF15.out.below hbb)
          clear hb16 hba hbb))
       obtain ⟨b16, hb16⟩ : ∃ b, w16.heap.size = b := ⟨_, rfl⟩
       rw [hb16] at HC16 HLT16 ⊢
       clear hb16
       generalize w16.alloc (.cells #[.bool t16, .slice a161 l161 k161, .slice a162 l162 k162] 38) = W16 at *
       clear HV99
       obtain ⟨_, c0, c1, c2, _, _, _⟩ := HC3.out.belowS HBR.out
       go_upto_region 17 with (first
        |(go_at_call 44; (with_reducible refine (zpe _ c k _ (HCH.out.below HBR.out) (by have := HTP.out.n5; omega) HKC.out).mono ?_); rintro e99 w99 ⟨v99, rfl, hv99, hb99⟩
          have HV99 : Hid (zwc w99 v99 (frm c k)) := zH hv99
          clear c0 c1 c2
          replace HBR := zH (zaa HBR.out hb99); replace HC11 := zH (HC11.out.belowS hb99); replace HF11 := zH (HF11.out.below hb99); replace HC12 := zH (HC12.out.belowS hb99); replace HF12 := zH (HF12.out.below hb99); replace HC13 := zH (HC13.out.belowS hb99); replace HF13 := zH (HF13.out.below hb99); replace HC15 := zH (HC15.out.belowS hb99); replace HF15 := zH (HF15.out.below hb99); replace HC16 := zH (HC16.out.belowS hb99); replace HF16 := zH (HF16.out.below hb99)
          clear hv99 hb99)
        |(go_at_call 45; (with_reducible refine (HTC.out.mean_fx HKC.out HV99.out).mono ?_); rintro e18 w18 ⟨t18, a181, l181, k181, a182, l182, k182, z18, rfl, hz18, hb18⟩
          have hba := zba w18 (.cells #[.bool t18, .slice a181 l181 k181, .slice a182 l182 k182] 38)
          have hbb := zaa hb18 hba
          have HC18 := zH (C3.new w18 38 (.bool t18) (.slice a181 l181 k181) (.slice a182 l182 k182))
          have HLT18 := zH (Nat.lt_of_lt_of_le HC13.out.lt hb18.size)
          have HZ18 : Hid (zzf c k ∧ z18 = 0 ∧ zoa (w18.alloc (.cells #[.bool t18, .slice a181 l181 k181, .slice a182 l182 k182] 38)) (.agg #[.bool t18, .slice a181 l181 k181, .slice a182 l182 k182]) (T k) ∨ ¬ zzf c k ∧ z18 = 14) := zH (hz18.imp (fun h => ⟨h.1, h.2.1, h.2.2.below hba⟩) id)
          clear hz18
          replace HBR := zH (zaa HBR.out hbb); replace HC11 := zH (HC11.out.belowS hbb); replace HF11 := zH (HF11.out.below hbb); replace HC12 := zH (HC12.out.belowS hbb); replace HF12 := zH (HF12.out.below hbb); replace HC13 := zH (HC13.out.belowS hbb); replace HF13 := zH (HF13.out.below hbb); replace HC15 := zH (HC15.out.belowS hbb); replace HF15 := zH (HF15.out.below hbb); replace HC16 := zH (HC16.out.belowS hbb); replace HF16 := zH (HF16.out.below hbb)
          clear hb18 hba hbb))
       obtain ⟨b18, hb18⟩ : ∃ b, w18.heap.size = b := ⟨_, rfl⟩
       rw [hb18] at HC18 HLT18 ⊢
       clear hb18
       generalize w18.alloc (.cells #[.bool t18, .slice a181 l181 k181, .slice a182 l182 k182] 38) = W18 at *
       clear HV99
       go_upto_region 19 with fail
       have HE19 : Hid ((0 + sg k fun j => (c.rates.getD i []).getD j 0) + s = 0 + sg (k + 1) fun j => (c.rates.getD i []).getD j 0) := zH (by
        show _ = 0 + (_ + (c.rates.getD i []).getD k 0)
        rw [HS.out, Rat.add_assoc])
       have HE21 : Hid ((0 + sg k fun j => (c.rates.getD i []).getD j 0 * H j) + s * H k = 0 + sg (k + 1) fun j => (c.rates.getD i []).getD j 0 * H j) := zH (by
        show _ = 0 + (_ + (c.rates.getD i []).getD k 0 * H k)
        rw [HS.out, Rat.add_assoc])
       have HKS : Hid (k ≤ c.start.length ∧ k + 1 ≤ c.start.length) := zH (by have := HKC.out; omega)
       obtain ⟨_, d0, d1, d2, f0, f1, f2⟩ := HC11.out
       obtain ⟨_, p0, p1, p2, _, _, _⟩ := HC15.out
       go_upto_region 20 with (first
        |(go_at_call 19; (with_reducible refine (zdd _ _ _ _ _ HF11.out HF15.out (HSR.out k HKS.out.1) HFI.out (by rw [HE19.out]; exact HSR.out (k + 1) HKS.out.2)).mono ?_); rw [HE19.out]; rintro e19 w19 ⟨v19, rfl, hv19, hb19⟩
          obtain ⟨t19, x19, y19, rfl, ⟨a191, l191, k191, rfl, _⟩, ⟨a192, l192, k192, rfl, _⟩⟩ := hv19.isF
          have HV19 := zH hv19
          clear d0 d1 d2 f0 f1 f2 p0 p1 p2
          replace HBR := zH (zaa HBR.out hb19); replace HC11 := zH (HC11.out.belowS hb19); replace HF11 := zH (HF11.out.below hb19); replace HC12 := zH (HC12.out.belowS hb19); replace HF12 := zH (HF12.out.below hb19); replace HC13 := zH (HC13.out.belowS hb19); replace HF13 := zH (HF13.out.below hb19); replace HC15 := zH (HC15.out.belowS hb19); replace HF15 := zH (HF15.out.below hb19); replace HC16 := zH (HC16.out.belowS hb19); replace HF16 := zH (HF16.out.below hb19)
          obtain ⟨_, d0, d1, d2, f0, f1, f2⟩ := HC11.out
          clear hv19 hb19))
       clear d0 d1 d2 f0 f1 f2
       have HF11 := zH (HV19.out.set3 HC11.out (fun z => by simp) (fun z => by simp) (.bool t19) (.slice a191 l191 k191) (.slice a192 l192 k192))
       have HF12 := zH (HF12.out.set3 HC11.out (fun z => by simp) (fun z => by simp) (.bool t19) (.slice a191 l191 k191) (.slice a192 l192 k192))
       have HC12 := zH (HC12.out.set_other (show b12 ≠ b11 by have := HNE.out; omega) (.bool t19) (.slice a191 l191 k191) (.slice a192 l192 k192))
       have HF13 := zH (HF13.out.set3 HC11.out (fun z => by simp) (fun z => by simp) (.bool t19) (.slice a191 l191 k191) (.slice a192 l192 k192))
       have HC13 := zH (HC13.out.set_other (show b13 ≠ b11 by have := HNE.out; omega) (.bool t19) (.slice a191 l191 k191) (.slice a192 l192 k192))
       have HF15 := zH (HF15.out.set3 HC11.out (fun z => by simp) (fun z => by simp) (.bool t19) (.slice a191 l191 k191) (.slice a192 l192 k192))
       have HC15 := zH (HC15.out.set_other (show b15 ≠ b11 by have := HNE.out; have := HLT15.out; omega) (.bool t19) (.slice a191 l191 k191) (.slice a192 l192 k192))
       have HF16 := zH (HF16.out.set3 HC11.out (fun z => by simp) (fun z => by simp) (.bool t19) (.slice a191 l191 k191) (.slice a192 l192 k192))
       have HC16 := zH (HC16.out.set_other (show b16 ≠ b11 by have := HNE.out; have := HLT16.out; omega) (.bool t19) (.slice a191 l191 k191) (.slice a192 l192 k192))
       have HBR := zH (zga HBR.out HL11.out (.bool t19) (.slice a191 l191 k191) (.slice a192 l192 k192))
       have HC11 := zH (HC11.out.set (.bool t19) (.slice a191 l191 k191) (.slice a192 l192 k192))
       generalize (((w19.setCell ⟨b11, 0, none⟩ (.bool t19)).setCell ⟨b11, 1, none⟩ (.slice a191 l191 k191)).setCell ⟨b11, 2, none⟩ (.slice a192 l192 k192)) = X19 at *
       clear HV19
       obtain ⟨_, d0, d1, d2, f0, f1, f2⟩ := HC15.out
       obtain ⟨_, p0, p1, p2, _, _, _⟩ := HC16.out
       go_upto_region 21 with (first
        |(go_at_call 38; (with_reducible refine (zae _ _ _ _ _ HF15.out HF16.out HFI.out HPH.out.1 HPH.out.2).mono ?_); rintro e20 w20 ⟨v20, rfl, hv20, hb20⟩
          obtain ⟨t20, x20, y20, rfl, ⟨a201, l201, k201, rfl, _⟩, ⟨a202, l202, k202, rfl, _⟩⟩ := hv20.isF
          clear d0 d1 d2 f0 f1 f2 p0 p1 p2
          have hba := zba w20 (.cells #[.bool t20, .slice a201 l201 k201, .slice a202 l202 k202] 38)
          have hbb := zaa hb20 hba
          have HC20 := zH (C3.new w20 38 (.bool t20) (.slice a201 l201 k201) (.slice a202 l202 k202))
          have HLT20 := zH (Nat.lt_of_lt_of_le HC13.out.lt hb20.size)
          have HF20 := zH (hv20.below hba)
          clear hv20
          replace HBR := zH (zaa HBR.out hbb); replace HC11 := zH (HC11.out.belowS hbb); replace HF11 := zH (HF11.out.below hbb); replace HC12 := zH (HC12.out.belowS hbb); replace HF12 := zH (HF12.out.below hbb); replace HC13 := zH (HC13.out.belowS hbb); replace HF13 := zH (HF13.out.below hbb); replace HC15 := zH (HC15.out.belowS hbb); replace HF15 := zH (HF15.out.below hbb); replace HC16 := zH (HC16.out.belowS hbb); replace HF16 := zH (HF16.out.below hbb)
          clear hb20 hba hbb))
       obtain ⟨b20, hb20⟩ : ∃ b, w20.heap.size = b := ⟨_, rfl⟩
       rw [hb20] at HC20 HLT20 ⊢
       clear hb20
       generalize w20.alloc (.cells #[.bool t20, .slice a201 l201 k201, .slice a202 l202 k202] 38) = W20 at *
       obtain ⟨_, d0, d1, d2, f0, f1, f2⟩ := HC12.out
       obtain ⟨_, p0, p1, p2, _, _, _⟩ := HC20.out
       go_upto_region 22 with (first
        |(go_at_call 19; (with_reducible refine (zdd _ _ _ _ _ HF12.out HF20.out (HSH.out k HKS.out.1) HPH.out.2 (by rw [HE21.out]; exact HSH.out (k + 1) HKS.out.2)).mono ?_); rw [HE21.out]; rintro e21 w21 ⟨v21, rfl, hv21, hb21⟩
          obtain ⟨t21, x21, y21, rfl, ⟨a211, l211, k211, rfl, _⟩, ⟨a212, l212, k212, rfl, _⟩⟩ := hv21.isF
          have HV21 := zH hv21
          clear d0 d1 d2 f0 f1 f2 p0 p1 p2
          replace HBR := zH (zaa HBR.out hb21); replace HC12 := zH (HC12.out.belowS hb21); replace HF12 := zH (HF12.out.below hb21); replace HC11 := zH (HC11.out.belowS hb21); replace HF11 := zH (HF11.out.below hb21); replace HC13 := zH (HC13.out.belowS hb21); replace HF13 := zH (HF13.out.below hb21); replace HC15 := zH (HC15.out.belowS hb21); replace HF15 := zH (HF15.out.below hb21)
          obtain ⟨_, d0, d1, d2, f0, f1, f2⟩ := HC12.out
          clear hv21 hb21))
       clear d0 d1 d2 f0 f1 f2
       have HF12 := zH (HV21.out.set3 HC12.out (fun z => by simp) (fun z => by simp) (.bool t21) (.slice a211 l211 k211) (.slice a212 l212 k212))
       have HF11 := zH (HF11.out.set3 HC12.out (fun z => by simp) (fun z => by simp) (.bool t21) (.slice a211 l211 k211) (.slice a212 l212 k212))
       have HC11 := zH (HC11.out.set_other (show b11 ≠ b12 by have := HNE.out; omega) (.bool t21) (.slice a211 l211 k211) (.slice a212 l212 k212))
       have HF13 := zH (HF13.out.set3 HC12.out (fun z => by simp) (fun z => by simp) (.bool t21) (.slice a211 l211 k211) (.slice a212 l212 k212))
       have HC13 := zH (HC13.out.set_other (show b13 ≠ b12 by have := HNE.out; omega) (.bool t21) (.slice a211 l211 k211) (.slice a212 l212 k212))
       have HF15 := zH (HF15.out.set3 HC12.out (fun z => by simp) (fun z => by simp) (.bool t21) (.slice a211 l211 k211) (.slice a212 l212 k212))
       have HC15 := zH (HC15.out.set_other (show b15 ≠ b12 by have := HNE.out; have := HLT15.out; omega) (.bool t21) (.slice a211 l211 k211) (.slice a212 l212 k212))
       have HBR := zH (zga HBR.out HL12.out (.bool t21) (.slice a211 l211 k211) (.slice a212 l212 k212))
       have HC12 := zH (HC12.out.set (.bool t21) (.slice a211 l211 k211) (.slice a212 l212 k212))
       generalize (((w21.setCell ⟨b12, 0, none⟩ (.bool t21)).setCell ⟨b12, 1, none⟩ (.slice a211 l211 k211)).setCell ⟨b12, 2, none⟩ (.slice a212 l212 k212)) = X21 at *
       clear HV21
       go_wp2_with fail
       go_roundg (rn - (k + 1))
       case measure => (have := HG.out; omega)
       case rel =>
        exact ⟨k + 1, _, _, _, _, _, _, _, _, _, _, _, _, _, _, _, _, _, _, _, _, _, by omega, rfl, by go_num, HC11.out, HF11.out, HC12.out, HF12.out, HC13.out, HF13.out, HBR.out⟩
     ·have HQ0 : Hid (fits (0 + sg rn fun j => (c.rates.getD i []).getD j 0) ∧ fits ((0 + sg rn fun j => (c.rates.getD i []).getD j 0) * H i) ∧ fits ((0 + sg rn fun j => (c.rates.getD i []).getD j 0) * T i)) := zH ⟨HSR.out rn (by rw [← HNS.out]; exact Nat.le_refl _), HTC.out.fpH (HTC.out.ovR HIC.out (by rw [← HNS.out]; exact Nat.le_refl _)) HIC.out, HTC.out.fpT (HTC.out.ovR HIC.out (by rw [← HNS.out]; exact Nat.le_refl _)) HIC.out⟩
      have HQH : Hid ((0 + sg rn fun j => (c.rates.getD i []).getD j 0) * H i = 0 + sg rn fun j => (c.rates.getD i []).getD j 0 * H j) := zH (by rw [Rat.zero_add, Rat.zero_add, HNS.out]; exact HEH.out)
      obtain rfl : k = rn := by omega
      clear c0 c1 c2
      have HF7 := zH (HF7.out.below HBR.out)
      have HC7 := zH (HC7.out.belowS HBR.out)
      have HC9 := zH (HC9.out.belowS HBR.out)
      obtain ⟨_, c0, c1, c2, _, _, _⟩ := HC3.out.belowS HBR.out
      go_upto_region 25 with fail
      clear c0 c1 c2
      obtain ⟨_, d0, d1, d2, f0, f1, f2⟩ := HC11.out
      obtain ⟨_, p0, p1, p2, _, _, _⟩ := HC7.out
      go_upto_region 26 with (first
       |(go_at_call 38; (with_reducible refine (zae _ _ _ _ _ HF11.out HF7.out HQ0.out.1 HFH.out HQ0.out.2.1).mono ?_); rintro e25 w25 ⟨v25, rfl, hv25, hb25⟩
         obtain ⟨t25, x25, y25, rfl, ⟨a251, l251, k251, rfl, _⟩, ⟨a252, l252, k252, rfl, _⟩⟩ := hv25.isF
         clear d0 d1 d2 f0 f1 f2 p0 p1 p2
         have hba := zba w25 (.cells #[.bool t25, .slice a251 l251 k251, .slice a252 l252 k252] 38)
         have hbb := zaa hb25 hba
         have HC25 := zH (C3.new w25 38 (.bool t25) (.slice a251 l251 k251) (.slice a252 l252 k252))
         have HF25 := zH (hv25.below hba)
         clear hv25
         replace HBR := zH (zaa HBR.out hbb); replace HC11 := zH (HC11.out.belowS hbb); replace HF11 := zH (HF11.out.below hbb); replace HC12 := zH (HC12.out.belowS hbb); replace HF12 := zH (HF12.out.below hbb); replace HC13 := zH (HC13.out.belowS hbb); replace HF13 := zH (HF13.out.below hbb); replace HC7 := zH (HC7.out.belowS hbb); replace HF7 := zH (HF7.out.below hbb); replace HC9 := zH (HC9.out.belowS hbb)
         clear hb25 hba hbb))
      obtain ⟨b25, hb25⟩ : ∃ b, w25.heap.size = b := ⟨_, rfl⟩
      rw [hb25] at HC25 ⊢
      clear hb25
      generalize w25.alloc (.cells #[.bool t25, .slice a251 l251 k251, .slice a252 l252 k252] 38) = W25 at *
      obtain ⟨_, d0, d1, d2, f0, f1, f2⟩ := HC25.out
      obtain ⟨_, p0, p1, p2, _, _, _⟩ := HC12.out
      go_upto_region 29 with (first
       |(go_at_call 33; (with_reducible refine (zwi _ _ HF25.out HF12.out HQ0.out.2.1 HQH.out).mono ?_); rintro e26 w26 ⟨rfl, hb26⟩
         clear d0 d1 d2 f0 f1 f2 p0 p1 p2
         replace HBR := zH (zaa HBR.out hb26); replace HC11 := zH (HC11.out.belowS hb26); replace HF11 := zH (HF11.out.below hb26); replace HC12 := zH (HC12.out.belowS hb26); replace HF12 := zH (HF12.out.below hb26); replace HC13 := zH (HC13.out.belowS hb26); replace HF13 := zH (HF13.out.below hb26); replace HC7 := zH (HC7.out.belowS hb26); replace HF7 := zH (HF7.out.below hb26); replace HC9 := zH (HC9.out.belowS hb26)
         clear hb26))
      go_wp2_with (first
       |(go_at_call 46; (with_reducible refine (zme _).mono ?_); rintro e29 w29 ⟨rfl, hb29⟩
         replace HBR := zH (zaa HBR.out hb29)
         clear hb29))
      go_ret
      exact ⟨rfl, HB.out.trans (HBR.out.mono HB.out.size)⟩
end Go.Proofs.YtlpdkbmmbdfoiaaGreat
