/-
  package drydocklaw21: ChainMass.
-/
import Derived.Test.YtlpdkbmmbdfoiaaGreatKGw9
set_option linter.unusedVariables false
set_option linter.unusedSimpArgs false
namespace Go.Proofs.YtlpdkbmmbdfoiaaGreat
open Go.RowKit
set_option maxRecDepth 100000 in
set_option maxHeartbeats 12800000 in
theorem mass_any (v : Value) (x : Nat) (l : List Nat) (w : World) (h : zua w v (bytes l)) (hb : ∀ x ∈ l, x < 256) (hx : x < 256) :
 Calls Tryz.prog 9 #[v, .int .u8 (x : Nat)] w (fun e w' => e = .returned (.bool true) ∧ Below w.heap.size w w') := by
 have HX : Hid (((1 + x % 4 : Nat) : Int) = 1 + ((x : Nat) : Int) % 4) := zH (by omega)
 clear hx
 go_enter Tryz.func9, Tryz.ntmps9
 go_upto_region 2 with (first
  |(go_at_call 41; (with_reducible refine (new_any _ l _ h hb).mono ?_); rintro e1 w1 ⟨bt, rfl, hbt, hT1, hbel1⟩)
  |(go_at_call 42; (with_reducible refine (znn bt 0 _ _ hT1).mono ?_); rintro e2 w2 ⟨v2, c, a2, rfl, hC2, hTP, hT2, hsz2, hfr2⟩
    obtain ⟨vr, vs, vl, rfl, m1, m2, m3⟩ := id hC2
    obtain ⟨ar, nr, kr, rfl, _⟩ := id m1.sl
    obtain ⟨as', ns, ks, rfl, _⟩ := id m2.sl
    obtain ⟨al, nl, kl, rfl, _⟩ := id (zua.sl m3)
    have hb12 := hbel1.trans (hfr2 _ hbt hbel1.size)
    have ba3 := zba w2 (.cells #[.slice ar nr kr, .slice as' ns ks, .slice al nl kl] 28)
    have HTP := zH hTP
    have HNS : Hid (ns = c.start.length) := zH m2.len
    have HNR : Hid (nr = c.rates.length) := zH m1.len
    have HC3 := zH (C3.new w2 28 (.slice ar nr kr) (.slice as' ns ks) (.slice al nl kl))
    have HCH := zH (hC2.below ba3)
    have HST := zH (m2.below ba3)
    have HRT := zH (m1.below ba3)
    have HLO := zH (m3.below ba3)
    have HB := zH (hb12.trans (ba3.mono hb12.size))
    have hn5 : ns ≤ 5 := by rw [HNS.out]; exact HTP.out.n5
    have sst := m2.sl
    have srt := m1.sl
    have slo := zua.sl m3
    clear hC2 m1 m2 m3 hTP hfr2 hT1 hT2 hbel1 hsz2 hb12 ba3 hbt))
 obtain ⟨b3, hb3⟩ : ∃ b, w2.heap.size = b := ⟨_, rfl⟩
 rw [hb3] at HC3 ⊢
 clear hb3
 generalize w2.alloc (.cells #[.slice ar nr kr, .slice as' ns ks, .slice al nl kl] 28) = W3 at *
 obtain ⟨H, T, htc⟩ := zsl HTP.out
 have HTC := zH htc
 clear htc
 have HVC := zH HTP.out.valid
 have hn2 : 2 ≤ ns := by rw [HNS.out]; exact HTP.out.n2
 have HRL : Hid (c.raw.rates.length = ns) := zH (by rw [HTC.out.len, HNS.out])
 have HFL : Hid (fits (zeb c.raw c.raw.rates.length)) := zH (zuh HVC.out _ (Nat.le_refl _))
 have HFE : Hid (fits (fq false (1 + x % 4) 2)) := zH (fits_ok false (n := 1 + x % 4) (d := 2) ⟨by decide, by decide +kernel, Nat.le_trans (zfc.2 (show 1 + x % 4 < 2 ^ 3 by omega)) (by decide)⟩)
 have HMS := zH (mass_sz HTP.out (e := 1 + x % 4) (by omega) (by omega))
 obtain ⟨L, hL⟩ : ∃ L, zeb c.raw c.raw.rates.length = L := ⟨_, rfl⟩
 obtain ⟨E, hE⟩ : ∃ E, fq false (1 + x % 4) 2 = E := ⟨_, rfl⟩
 have HLV : Hid (∀ w0 va, zdc w0 va c.raw → Calls Tryz.prog 47 #[va] w0 (RF0 w0 L)) := zH (fun w0 va k => by rw [← hL]; exact cleaving_any va _ w0 k HVC.out)
 have HMK : Hid (∀ w0, Calls Tryz.prog 18 #[.int .i64 (1 + ((x : Nat) : Int) % 4), .int .i64 2] w0 (RF0 w0 E)) := zH (fun w0 => by rw [← hE]; exact r2make_zz (1 + x % 4) 2 _ _ w0 (by omega) rfl (by omega) (by decide) (by decide))
 rw [hL, hE] at HMS
 rw [hL] at HFL
 rw [hE] at HFE
 obtain ⟨ρ, hρ⟩ : ∃ ρ, L + E = ρ := ⟨_, rfl⟩
 rw [hρ] at HMS
 have HFR : Hid (fits (L + E)) := zH (by rw [hρ]; exact HMS.out.fρ)
 have HRO := zH hρ
 clear hL hE hρ
 obtain ⟨_, c0, c1, c2, _, _, _⟩ := HC3.out
 go_upto_region 3 with (first
  |(go_at_call 47; (with_reducible refine (HLV.out _ _ HCH.out.raw).mono ?_); rintro e6 w6 ⟨v6, rfl, hv6, hb6⟩
    clear c0 c1 c2
    obtain ⟨t6, x6, y6, rfl, ⟨a61, l61, k61, rfl, _⟩, ⟨a62, l62, k62, rfl, _⟩⟩ := hv6.isF
    have hba := zba w6 (.cells #[.bool t6, .slice a61 l61 k61, .slice a62 l62 k62] 38)
    have hbb := zaa hb6 hba
    have HC6 := zH (C3.new w6 38 (.bool t6) (.slice a61 l61 k61) (.slice a62 l62 k62))
    have HF6 := zH (hv6.below hba)
    replace HB := zH (zaa HB.out hbb); replace HC3 := zH (HC3.out.belowS hbb); replace HCH := zH (HCH.out.below hbb); replace HST := zH (HST.out.below hbb); replace HLO := zH (HLO.out.below hbb)
    clear hv6 hb6 hba hbb))
 obtain ⟨b6, hb6⟩ : ∃ b, w6.heap.size = b := ⟨_, rfl⟩
 rw [hb6] at HC6 ⊢
 clear hb6
 generalize w6.alloc (.cells #[.bool t6, .slice a61 l61 k61, .slice a62 l62 k62] 38) = W6 at *
 go_upto_region 6 with (first
  |(go_at_call 18; (with_reducible refine (HMK.out _).mono ?_); rintro e8 w8 ⟨v8, rfl, hv8, hb8⟩
    obtain ⟨t8, x8, y8, rfl, ⟨a81, l81, k81, rfl, _⟩, ⟨a82, l82, k82, rfl, _⟩⟩ := hv8.isF
    have hba := zba w8 (.cells #[.bool t8, .slice a81 l81 k81, .slice a82 l82 k82] 38)
    have hbb := zaa hb8 hba
    have HC8 := zH (C3.new w8 38 (.bool t8) (.slice a81 l81 k81) (.slice a82 l82 k82))
    have HF8 := zH (hv8.below hba)
    replace HB := zH (zaa HB.out hbb); replace HC3 := zH (HC3.out.belowS hbb); replace HCH := zH (HCH.out.below hbb); replace HST := zH (HST.out.below hbb); replace HLO := zH (HLO.out.below hbb); replace HC6 := zH (HC6.out.belowS hbb); replace HF6 := zH (HF6.out.below hbb)
    clear hv8 hb8 hba hbb))
 obtain ⟨b8, hb8⟩ : ∃ b, w8.heap.size = b := ⟨_, rfl⟩
 rw [hb8] at HC8 ⊢
 clear hb8
 generalize w8.alloc (.cells #[.bool t8, .slice a81 l81 k81, .slice a82 l82 k82] 38) = W8 at *
 obtain ⟨_, c0, c1, c2, _, _, _⟩ := HC6.out
 obtain ⟨_, d0, d1, d2, _, _, _⟩ := HC8.out
 go_upto_region 7 with (first
  |(go_at_call 19; (with_reducible refine (zdd _ _ L E _ HF6.out HF8.out HFL.out HFE.out HFR.out).mono ?_); rw [HRO.out]; rintro e10 w10 ⟨v10, rfl, hv10, hb10⟩
    clear c0 c1 c2 d0 d1 d2
    obtain ⟨t10, x10, y10, rfl, ⟨a101, l101, k101, rfl, _⟩, ⟨a102, l102, k102, rfl, _⟩⟩ := hv10.isF
    have hba := zba w10 (.cells #[.bool t10, .slice a101 l101 k101, .slice a102 l102 k102] 38)
    have hbb := zaa hb10 hba
    have HC10 := zH (C3.new w10 38 (.bool t10) (.slice a101 l101 k101) (.slice a102 l102 k102))
    have HF10 := zH (hv10.below hba)
    replace HB := zH (zaa HB.out hbb); replace HC3 := zH (HC3.out.belowS hbb); replace HCH := zH (HCH.out.below hbb); replace HST := zH (HST.out.below hbb); replace HLO := zH (HLO.out.below hbb)
    clear hv10 hb10 hba hbb))
 obtain ⟨b10, hb10⟩ : ∃ b, w10.heap.size = b := ⟨_, rfl⟩
 rw [hb10] at HC10 ⊢
 clear hb10
 generalize w10.alloc (.cells #[.bool t10, .slice a101 l101 k101, .slice a102 l102 k102] 38) = W10 at *
 clear HC6 HC8 HF6 HF8
 obtain ⟨_, c0, c1, c2, _, _, _⟩ := HC3.out
 go_upto_region 8 with (first
  |(go_at_call 43; (with_reducible refine (HTC.out.hit_c HCH.out.raw).mono ?_); rintro e12 w12 ⟨v12, rfl, hv12, hb12⟩
    clear c0 c1 c2
    obtain ⟨t12, x12, y12, rfl, ⟨a121, l121, k121, rfl, _⟩, ⟨a122, l122, k122, rfl, _⟩⟩ := hv12.isF
    have hba := zba w12 (.cells #[.bool t12, .slice a121 l121 k121, .slice a122 l122 k122] 38)
    have hbb := zaa hb12 hba
    have HC12 := zH (C3.new w12 38 (.bool t12) (.slice a121 l121 k121) (.slice a122 l122 k122))
    have HF12 := zH (hv12.below hba)
    replace HB := zH (zaa HB.out hbb); replace HC3 := zH (HC3.out.belowS hbb); replace HCH := zH (HCH.out.below hbb); replace HST := zH (HST.out.below hbb); replace HLO := zH (HLO.out.below hbb); replace HC10 := zH (HC10.out.belowS hbb); replace HF10 := zH (HF10.out.below hbb)
    clear hv12 hb12 hba hbb))
 obtain ⟨b12, hb12⟩ : ∃ b, w12.heap.size = b := ⟨_, rfl⟩
 rw [hb12] at HC12 ⊢
 clear hb12
 generalize w12.alloc (.cells #[.bool t12, .slice a121 l121 k121, .slice a122 l122 k122] 38) = W12 at *
 obtain ⟨h, hh⟩ : ∃ h, stS c.raw H = h := ⟨_, rfl⟩
 have HHS : Hid (fits (stS c.raw H)) := zH (by
  have h1 := HTC.out.fsH (x := 0) (f := fun t => c.start.getD t 0) (over.zero _ _) (fun t ht => HTC.out.st ht) (Nat.le_refl _)
  rw [Rat.zero_add] at h1
  rw [HTC.out.sH]
  exact h1)
 have HML : Hid (∀ k, (itV c.raw ρ k).length = ns ∧ (∀ j, j < ns → 0 ≤ (itV c.raw ρ k).getD j 0) ∧ (0 + sg ns fun j => if True then (itV c.raw ρ k).getD j 0 else 0) = 1 ∧ (0 + sg ns fun j => if c.lost.getD j false = true then (itV c.raw ρ k).getD j 0 else 0) ≤ (0 + sg ns fun j => if c.lost.getD j false = true then (itV c.raw ρ (k + 1)).getD j 0 else 0) ∧ (0 + sg ns fun j => if c.lost.getD j false = true then (itV c.raw ρ k).getD j 0 else 0) ≤ h) := zH (fun k => by
  rw [← hh]
  exact mass_law_c HTC.out HMS.out HRL.out k)
 have HHF : Hid (fits h) := zH (by rw [← hh]; exact HHS.out)
 rw [hh] at HF12
 clear HHS hh
 have HFS : Hid (∀ k, k ≤ 4 → ∀ m, m ≤ 5 → fits (0 + sg m fun j => if True then (itV c.raw ρ k).getD j 0 else 0)) := zH (fun k hk m hm => by rw [Rat.zero_add]; exact HMS.out.fs k hk (fun _ => True) m hm)
 have HFO : Hid (∀ k, k ≤ 4 → ∀ m, m ≤ 5 → fits (0 + sg m fun j => if c.lost.getD j false = true then (itV c.raw ρ k).getD j 0 else 0)) := zH (fun k hk m hm => by rw [Rat.zero_add]; exact HMS.out.fs k hk (fun j => c.lost.getD j false = true) m hm)
 have HLL : Hid (c.lost.length = ns) := zH (by rw [HNS.out]; exact HTP.out.ll)
 have HNL : Hid (nl = ns) := zH (by rw [← HLL.out]; exact HLO.out.len)
 go_upto_region 11 with (first
  |(go_at_call 20; (with_reducible refine (zob _).mono ?_); rintro e14 w14 ⟨v14, rfl, hv14, hb14⟩
    obtain ⟨t14, x14, y14, rfl, ⟨a141, l141, k141, rfl, _⟩, ⟨a142, l142, k142, rfl, _⟩⟩ := hv14.isF
    have hba := zba w14 (.cells #[.bool t14, .slice a141 l141 k141, .slice a142 l142 k142] 38)
    have HBR := zH (zaa hb14 hba)
    have HC14 := zH (C3.new w14 38 (.bool t14) (.slice a141 l141 k141) (.slice a142 l142 k142))
    have HF14 := zH (hv14.below hba)
    have HL14 : Hid (W12.heap.size ≤ w14.heap.size) := zH hb14.size
    clear hv14 hb14 hba))
 obtain ⟨b14, hb14⟩ : ∃ b, w14.heap.size = b := ⟨_, rfl⟩
 rw [hb14] at HC14 HL14 ⊢
 clear hb14
 generalize w14.alloc (.cells #[.bool t14, .slice a141 l141 k141, .slice a142 l142 k142] 38) = W14 at *
 go_wp2_with fail
 go_loopg [15] (5) (fun g u15 wr => ∃ (m : Nat) (t14 : Bool) (a141 : Option Addr) (l141 k141 : Nat) (a142 : Option Addr) (l142 k142 : Nat), m ≤ 5 ∧ g = 5 - m ∧ u15 = .int .i64 m ∧ C3 wr b14 (.bool t14) (.slice a141 l141 k141) (.slice a142 l142 k142) ∧ zoa wr (.agg #[.bool t14, .slice a141 l141 k141, .slice a142 l142 k142]) (lastQ c ρ ns m) ∧ Below W12.heap.size W12 wr)
 case atStart => exact ⟨0, _, _, _, _, _, _, _, by decide, rfl, rfl, HC14.out, HF14.out, HBR.out⟩
 case round =>
  obtain ⟨m, t14, a141, l141, k141, a142, l142, k142, hm5, hg, rfl, hc14, hf14, hbr⟩ := hrel
  obtain ⟨W15, hw9⟩ : ∃ w6, w6 = wr := ⟨_, rfl⟩
  subst hw9
  have HG := zH hg
  have HC14 := zH hc14
  have HF14 := zH hf14
  have HBR := zH hbr
  clear hg hc14 hf14 hbr
  by_cases hml : m < 5
  ·have hml4 : m ≤ 4 := by omega
   obtain ⟨_, c0, c1, c2, _, _, _⟩ := HC3.out.belowS HBR.out
   obtain ⟨_, d0, d1, d2, _, _, _⟩ := HC10.out.belowS HBR.out
   have HVL := zH (HML.out m)
   go_upto_region 15 with (first
    |(go_at_call 48; (with_reducible refine (HMS.out.after HVC.out (HCH.out.raw.below HBR.out) (HF10.out.below HBR.out) hm5).mono ?_); rintro e16 w16 ⟨v16, rfl, hv16, hb16⟩
      clear c0 c1 c2 d0 d1 d2
      have HV16 := zH hv16
      obtain ⟨va16, vn16, vk16, rfl, _⟩ := id hv16.sl
      have s16 := hv16.sl
      have hvn : vn16 = ns := by rw [← HVL.out.1]; exact hv16.len
      subst hvn
      replace HBR := zH (zaa HBR.out hb16); replace HC14 := zH (HC14.out.belowS hb16); replace HF14 := zH (HF14.out.below hb16)
      clear hv16 hb16))
   obtain ⟨_, c0, c1, c2, _, _, _⟩ := HC3.out.belowS HBR.out
   go_upto_region 18 with (first
    |(go_at_call 20; (with_reducible refine (zob w16).mono ?_); rintro e18 w18 ⟨v18, rfl, hv18, hb18⟩
      obtain ⟨t18, x18, y18, rfl, ⟨a181, l181, k181, rfl, _⟩, ⟨a182, l182, k182, rfl, _⟩⟩ := hv18.isF)
    |(go_at_call 20; (with_reducible refine (zob w18).mono ?_); rintro e19 w19 ⟨v19, rfl, hv19, hb19⟩
      obtain ⟨t19, x19, y19, rfl, ⟨a191, l191, k191, rfl, _⟩, ⟨a192, l192, k192, rfl, _⟩⟩ := hv19.isF
      have ba1 := zba w19 (.cells #[.bool t18, .slice a181 l181 k181, .slice a182 l182 k182] 38)
      have ba2 := zba (w19.alloc (.cells #[.bool t18, .slice a181 l181 k181, .slice a182 l182 k182] 38)) (.cells #[.bool t19, .slice a191 l191 k191, .slice a192 l192 k192] 38)
      have hbb := zaa (zaa hb18 hb19) (zaa ba1 ba2)
      have HC18 := zH ((C3.new w19 38 (.bool t18) (.slice a181 l181 k181) (.slice a182 l182 k182)).belowS ba2)
      have HC19 := zH (C3.newB (b := w19.heap.size + 1) (w19.alloc (.cells #[.bool t18, .slice a181 l181 k181, .slice a182 l182 k182] 38)) 38 (.bool t19) (.slice a191 l191 k191) (.slice a192 l192 k192) (by simp))
      have HF18 := zH (((hv18.below hb19).below ba1).below ba2)
      have HF19 := zH ((hv19.below ba1).below ba2)
      have hsz : w16.heap.size ≤ w19.heap.size := Nat.le_trans hb18.size hb19.size
      have HL18 : Hid (w16.heap.size ≤ w19.heap.size ∧ W12.heap.size ≤ w19.heap.size ∧ b14 < w19.heap.size) := zH ⟨hsz, Nat.le_trans HBR.out.size hsz, Nat.lt_of_lt_of_le HC14.out.lt hsz⟩
      have HCC14 := HC14
      have HFF14 := HF14
      have HVV16 := HV16
      have HBI := zH hbb
      have HBR16 := HBR
      clear hv18 hv19 hb18 hb19 ba1 ba2 hbb hsz c0 c1 c2))
   obtain ⟨b18, hb18⟩ : ∃ b, w19.heap.size = b := ⟨_, rfl⟩
   rw [hb18] at HC18 HC19 HL18 ⊢
   clear hb18
   generalize (w19.alloc (.cells #[.bool t18, .slice a181 l181 k181, .slice a182 l182 k182] 38)).alloc (.cells #[.bool t19, .slice a191 l191 k191, .slice a192 l192 k192] 38) = W19 at *
   obtain ⟨b19, hb19⟩ : ∃ b, b18 + 1 = b := ⟨_, rfl⟩
   rw [hb19] at HC19 ⊢
   have HNE : Hid (b18 < b19) := zH (by omega)
   clear hb19
   go_wp2_with fail
   go_loopg [20] (vn16) (fun g u20 wr => ∃ (i : Nat) (t18 : Bool) (a181 : Option Addr) (l181 k181 : Nat) (a182 : Option Addr) (l182 k182 : Nat) (t19 : Bool) (a191 : Option Addr) (l191 k191 : Nat) (a192 : Option Addr) (l192 k192 : Nat), i ≤ vn16 ∧ g = vn16 - i ∧ u20 = .int .i64 i ∧ C3 wr b18 (.bool t18) (.slice a181 l181 k181) (.slice a182 l182 k182) ∧ zoa wr (.agg #[.bool t18, .slice a181 l181 k181, .slice a182 l182 k182]) (0 + sg i fun j => if True then (itV c.raw ρ m).getD j 0 else 0) ∧ C3 wr b19 (.bool t19) (.slice a191 l191 k191) (.slice a192 l192 k192) ∧ zoa wr (.agg #[.bool t19, .slice a191 l191 k191, .slice a192 l192 k192]) (0 + sg i fun j => if c.lost.getD j false = true then (itV c.raw ρ m).getD j 0 else 0) ∧ Below w16.heap.size w16 wr)
   case atStart =>
    refine ⟨0, _, _, _, _, _, _, _, _, _, _, _, _, _, _, Nat.zero_le _, rfl, rfl, HC18.out, ?_, HC19.out, ?_, HBI.out⟩
    ·show zoa _ _ (0 + 0); rw [Rat.add_zero]; exact HF18.out
    ·show zoa _ _ (0 + 0); rw [Rat.add_zero]; exact HF19.out
   case round =>
    obtain ⟨i, t18, a181, l181, k181, a182, l182, k182, t19, a191, l191, k191, a192, l192, k192, hin, hg, rfl, hc18, hf18, hc19, hf19, hbr⟩ := hrel
    obtain ⟨W20, hw9⟩ : ∃ w6, w6 = wr := ⟨_, rfl⟩
    subst hw9
    have HGI := zH hg
    have HC18 := zH hc18
    have HF18 := zH hf18
    have HC19 := zH hc19
    have HF19 := zH hf19
    have HBI := zH hbr
    clear hg hc18 hf18 hc19 hf19 hbr
    by_cases hil : i < vn16
    ·have hiv : i < (itV c.raw ρ m).length := by rw [HVL.out.1]; exact hil
     have HIV := zH hiv
     obtain ⟨ts, as1, ls1, ks1, as2, ls2, ks2, g1, g2, g3, hfs⟩ := (HV16.out.below HBI.out).cellsAt (k := i) hiv
     obtain ⟨s, hs⟩ : ∃ s, (itV c.raw ρ m).getD i 0 = s := ⟨_, rfl⟩
     have HS := zH hs
     have HFI : Hid (fits s) := zH (by
      rw [← hs, List.getD_eq_getElem?_getD, List.getElem?_eq_getElem hiv]
      exact HMS.out.fv m hml4 _ (List.getElem_mem hiv))
     have hnn : 0 ≤ s := by rw [← hs]; exact HVL.out.2.1 i hil
     have HNN := zH hnn
     rw [hs] at hfs
     have HFSV := zH hfs
     have i1 : (0 : Int) ≤ (i : Int) := by omega
     have i2 : (i : Int) < (vn16 : Nat) := by omega
     have S0 := zH (And.intro g1 (And.intro g2 g3))
     clear hfs hs hiv hnn
     go_upto_region 23 with (first
      |(go_at_call 49; (with_reducible refine (zii _ _ _ HFSV.out HFI.out).mono ?_); rintro e21 w21 ⟨rfl, hb21⟩
        have HF21 := zH (HFSV.out.below hb21)
        have g1 := zca hb21 S0.out.1
        have g2 := zca hb21 S0.out.2.1
        have g3 := zca hb21 S0.out.2.2
        have HB21 := zH hb21
        clear hb21)
      |(go_at_call 34; (with_reducible refine (sgn_nn _ HF21.out HFI.out HNN.out).mono ?_); rintro e22 w22 ⟨z22, rfl, hz22, hb22⟩
        have HB22 := zH (zaa HB21.out hb22)
        clear g1 g2 g3 hb22))
     have hbb := HB22.out
     replace HBI := zH (zaa HBI.out hbb); replace HC18 := zH (HC18.out.belowS hbb); replace HF18 := zH (HF18.out.below hbb); replace HC19 := zH (HC19.out.belowS hbb); replace HF19 := zH (HF19.out.below hbb); replace HFSV := zH (HFSV.out.below hbb)
     have hbD := zha (B := w22.heap.size) w22
     have hall := zaa hbb hbD
     have HE18 : Hid ((0 + sg i fun j => if True then (itV c.raw ρ m).getD j 0 else 0) + s = 0 + sg (i + 1) fun j => if True then (itV c.raw ρ m).getD j 0 else 0) := zH (by
      show _ = 0 + (_ + if True then (itV c.raw ρ m).getD i 0 else 0)
      rw [HS.out, if_pos trivial, Rat.add_assoc])
     have HFA : Hid (fits (0 + sg i fun j => if True then (itV c.raw ρ m).getD j 0 else 0) ∧ fits (0 + sg (i + 1) fun j => if True then (itV c.raw ρ m).getD j 0 else 0)) := zH ⟨HFS.out m hml4 i (by omega), HFS.out m hml4 (i + 1) (by omega)⟩
     have HFB : Hid (fits (0 + sg i fun j => if c.lost.getD j false = true then (itV c.raw ρ m).getD j 0 else 0) ∧ fits (0 + sg (i + 1) fun j => if c.lost.getD j false = true then (itV c.raw ρ m).getD j 0 else 0)) := zH ⟨HFO.out m hml4 i (by omega), HFO.out m hml4 (i + 1) (by omega)⟩
     go_cut [] (fun wy => ∃ (t18 : Bool) (a181 : Option Addr) (l181 k181 : Nat) (a182 : Option Addr) (l182 k182 : Nat), C3 wy b18 (.bool t18) (.slice a181 l181 k181) (.slice a182 l182 k182) ∧ zoa wy (.agg #[.bool t18, .slice a181 l181 k181, .slice a182 l182 k182]) (0 + sg (i + 1) fun j => if True then (itV c.raw ρ m).getD j 0 else 0) ∧ C3 wy b19 (.bool t19) (.slice a191 l191 k191) (.slice a192 l192 k192) ∧ zoa wy (.agg #[.bool t19, .slice a191 l191 k191, .slice a192 l192 k192]) (0 + sg i fun j => if c.lost.getD j false = true then (itV c.raw ρ m).getD j 0 else 0) ∧ Below w16.heap.size w16 wy)
     case first =>
      have g1D := zca hall S0.out.1
      have g2D := zca hall S0.out.2.1
      have g3D := zca hall S0.out.2.2
      have hFSD := HFSV.out.below hbD
      have hcD := HC18.out.belowS hbD
      have hfD := HF18.out.below hbD
      have HCD := zH hcD
      obtain ⟨_, q0, q1, q2, f0, f1, f2⟩ := hcD
      go_region_law (refine zcc rfl 19 #[.agg #[.bool t18, .slice a181 l181 k181, .slice a182 l182 k182], .agg #[.bool ts, .slice as1 ls1 ks1, .slice as2 ls2 ks2]] ?_ (zdd _ _ _ _ _ hfD hFSD HFA.out.1 HFI.out (by rw [HE18.out]; exact HFA.out.2)) ?_; go_simp; rw [HE18.out]; rintro e23 w23 ⟨v23, rfl, hv23, hb23⟩; refine ⟨_, rfl, ?_⟩
                     obtain ⟨t23, x23, y23, rfl, ⟨a231, l231, k231, rfl, _⟩, ⟨a232, l232, k232, rfl, _⟩⟩ := hv23.isF
                     have g1D := zca hb23 g1D
                     have g2D := zca hb23 g2D
                     have g3D := zca hb23 g3D
                     have hS9 := HCD.out.belowS hb23
                     have HS9 := zH hS9
                     obtain ⟨_, q0, q1, q2, f0, f1, f2⟩ := hS9)
      all_goals
       clear g1D g2D g3D q0 q1 q2 f0 f1 f2
       go_wp2_with fail
       go_meet
       case rel => exact ⟨_, _, _, _, _, _, _, HS9.out.set _ _ _, hv23.set3 HS9.out (fun z => by simp) (fun z => by simp) _ _ _, (HC19.out.belowS (zaa hbD hb23)).set_other (show b19 ≠ b18 by have := HNE.out; omega) _ _ _, (HF19.out.below (zaa hbD hb23)).set3 HS9.out (fun z => by simp) (fun z => by simp) _ _ _, zga (zaa HBI.out (zaa hbD hb23)) HL18.out.1 _ _ _⟩
     case rest =>
      clear HC18 HF18 HC19 HF19 HBI hbb hbD hall
      obtain ⟨t18, a181, l181, k181, a182, l182, k182, hc18, hf18, hc19, hf19, hbr⟩ := hcut
      obtain ⟨W23, hw9⟩ : ∃ w6, w6 = wc := ⟨_, rfl⟩
      subst hw9
      have HC18 := zH hc18
      have HF18 := zH hf18
      have HC19 := zH hc19
      have HF19 := zH hf19
      have HBI := zH hbr
      have HB12 := zH (zaa HBR16.out hbr)
      obtain ⟨_, c0, c1, c2, _, _, _⟩ := HC3.out.belowS HB12.out
      have hiL : i < c.lost.length := by rw [HLL.out]; exact hil
      have qL := (HLO.out.below HB12.out).at' i hiL
      have HXL : Hid (c.lost.getD i false = c.lost[i]'hiL) := zH (zce hiL)
      obtain ⟨xL, hxL⟩ : ∃ x, c.lost[i]'hiL = x := ⟨_, rfl⟩
      rw [hxL] at qL HXL
      have i3 : (i : Int) < (nl : Nat) := by have := HNL.out; omega
      clear hc18 hf18 hc19 hf19 hbr hxL hiL
      cases xL with
      | false =>
        go_wp2_with fail
        go_roundg (vn16 - (i + 1))
        case measure => (have := HGI.out; omega)
        case rel =>
         refine ⟨i + 1, _, _, _, _, _, _, _, _, _, _, _, _, _, _, by omega, rfl, by go_num, HC18.out, HF18.out, HC19.out, ?_, HBI.out⟩
         have e : (0 + sg (i + 1) fun j => if c.lost.getD j false = true then (itV c.raw ρ m).getD j 0 else 0) = 0 + sg i fun j => if c.lost.getD j false = true then (itV c.raw ρ m).getD j 0 else 0 := by
          show 0 + (_ + if c.lost.getD i false = true then (itV c.raw ρ m).getD i 0 else 0) = _
          rw [HXL.out, if_neg (by decide), Rat.add_zero]
         rw [e]
         exact HF19.out
      | true =>
        go_upto_region 25 with fail
        have HE19 : Hid ((0 + sg i fun j => if c.lost.getD j false = true then (itV c.raw ρ m).getD j 0 else 0) + s = 0 + sg (i + 1) fun j => if c.lost.getD j false = true then (itV c.raw ρ m).getD j 0 else 0) := zH (by
         show _ = 0 + (_ + if c.lost.getD i false = true then (itV c.raw ρ m).getD i 0 else 0)
         rw [HXL.out, if_pos rfl, HS.out, Rat.add_assoc])
        have hbD := zha (B := W23.heap.size) W23
        obtain ⟨ts, as1, ls1, ks1, as2, ls2, ks2, g1, g2, g3, hfs⟩ := (HV16.out.below (zaa HBI.out hbD)).cellsAt (k := i) HIV.out
        rw [HS.out] at hfs
        have hcD := HC19.out.belowS hbD
        have hfD := HF19.out.below hbD
        have HCD := zH hcD
        have HF1 := zH hfs
        have HF2 := zH hfD
        clear c0 c1 c2 qL hfs hfD
        obtain ⟨_, q0, q1, q2, f0, f1, f2⟩ := hcD
        go_region_law (refine zcc rfl 19 #[.agg #[.bool t19, .slice a191 l191 k191, .slice a192 l192 k192], .agg #[.bool ts, .slice as1 ls1 ks1, .slice as2 ls2 ks2]] ?_ (zdd _ _ _ _ _ HF2.out HF1.out HFB.out.1 HFI.out (by rw [HE19.out]; exact HFB.out.2)) ?_; go_simp; rw [HE19.out]; rintro e25 w25 ⟨v25, rfl, hv25, hb25⟩; refine ⟨_, rfl, ?_⟩
                       obtain ⟨t25, x25, y25, rfl, ⟨a251, l251, k251, rfl, _⟩, ⟨a252, l252, k252, rfl, _⟩⟩ := hv25.isF
                       have g1 := zca hb25 g1
                       have g2 := zca hb25 g2
                       have g3 := zca hb25 g3
                       have hS9 := HCD.out.belowS hb25
                       have HS9 := zH hS9
                       obtain ⟨_, q0, q1, q2, f0, f1, f2⟩ := hS9)
        all_goals
         clear g1 g2 g3 q0 q1 q2 f0 f1 f2
         go_wp2_with fail
         go_roundg (vn16 - (i + 1))
         case measure => (have := HGI.out; omega)
         case rel => exact ⟨i + 1, _, _, _, _, _, _, _, _, _, _, _, _, _, _, by omega, rfl, by go_num, (HC18.out.belowS (zaa hbD hb25)).set_other (show b18 ≠ b19 by have := HNE.out; omega) _ _ _, (HF18.out.below (zaa hbD hb25)).set3 HS9.out (fun z => by simp) (fun z => by simp) _ _ _, HS9.out.set _ _ _, hv25.set3 HS9.out (fun z => by simp) (fun z => by simp) _ _ _, zga (zaa HBI.out (zaa hbD hb25)) (by have := HL18.out.1; have := HNE.out; omega) _ _ _⟩
    ·have HSUM := zH HVL.out.2.2.1
     have HGR := zH (HML.out (m - 1))
     have HLE := zH HVL.out.2.2.2.2
     have HLQ : Hid (fits (lastQ c ρ vn16 m) ∧ ¬ (0 + sg vn16 fun j => if c.lost.getD j false = true then (itV c.raw ρ m).getD j 0 else 0) < lastQ c ρ vn16 m) := zH (lastQ_ok HML.out (fun k hk => HFO.out k hk vn16 hn5) hml4)
     have HFL2 := zH (HFO.out m hml4 vn16 hn5)
     obtain rfl : i = vn16 := by omega
     have HF18 : Hid (zoa W20 (.agg #[.bool t18, .slice a181 l181 k181, .slice a182 l182 k182]) 1) := zH (by rw [← HSUM.out]; exact HF18.out)
     have HB12 := zH (zaa HBR16.out HBI.out)
     have HC14 := zH (HCC14.out.belowS HBI.out)
     have HF14 := zH (HFF14.out.below HBI.out)
     have HC12 := zH (HC12.out.belowS HB12.out)
     have HF12 := zH (HF12.out.below HB12.out)
     go_upto_region 26 with fail
     obtain ⟨_, c0, c1, c2, _, _, _⟩ := HC18.out
     obtain ⟨_, d0, d1, d2, _, _, _⟩ := HC19.out
     obtain ⟨_, p0, p1, p2, _, _, _⟩ := HC14.out
     obtain ⟨_, q0, q1, q2, _, _, _⟩ := HC12.out
     have S0 := zH (And.intro c0 (And.intro c1 (And.intro c2 (And.intro d0 (And.intro d1 (And.intro d2 (And.intro p0 (And.intro p1 (And.intro p2 (And.intro q0 (And.intro q1 (And.intro q2 (Below.refl W20.heap.size W20)))))))))))))
     clear c0 c1 c2 d0 d1 d2 p0 p1 p2 q0 q1 q2
     go_cut [132] (fun u132 wy => u132 = .bool false ∧ Below W20.heap.size W20 wy)
     case first =>
      go_region_held3 (fun w' => w'.cell? ⟨b18, 0, none⟩ = some (.bool t18) ∧ w'.cell? ⟨b18, 1, none⟩ = some (.slice a181 l181 k181) ∧ w'.cell? ⟨b18, 2, none⟩ = some (.slice a182 l182 k182) ∧
       w'.cell? ⟨b19, 0, none⟩ = some (.bool t19) ∧ w'.cell? ⟨b19, 1, none⟩ = some (.slice a191 l191 k191) ∧ w'.cell? ⟨b19, 2, none⟩ = some (.slice a192 l192 k192) ∧
       w'.cell? ⟨b14, 0, none⟩ = some (.bool t14) ∧ w'.cell? ⟨b14, 1, none⟩ = some (.slice a141 l141 k141) ∧ w'.cell? ⟨b14, 2, none⟩ = some (.slice a142 l142 k142) ∧
       w'.cell? ⟨b12, 0, none⟩ = some (.bool t12) ∧ w'.cell? ⟨b12, 1, none⟩ = some (.slice a121 l121 k121) ∧ w'.cell? ⟨b12, 2, none⟩ = some (.slice a122 l122 k122) ∧ Below W20.heap.size W20 w') (first
       | with_reducible exact keep12 S0.out (zha _)
       | with_reducible exact keep12 (by assumption) (by assumption)) (first
       |(go_at_call 20; (with_reducible refine (zse _).mono ?_); rintro e31 w31 ⟨v31, rfl, hv31, hb31⟩)
       |(go_at_call 33; (with_reducible refine (zwi _ _ (HF18.out.below (zik (by assumption))) hv31 (by decide) rfl).mono ?_); rintro e32 w32 ⟨rfl, hb32⟩)
       |(go_at_call 50; (with_reducible refine (less_f _ _ (HF19.out.below (zik (by assumption))) (HF14.out.below (zik (by assumption))) HFL2.out HLQ.out.1 HLQ.out.2).mono ?_); rintro e33 w33 ⟨rfl, hb33⟩)
       |(go_at_call 50; (with_reducible refine (less_f _ _ (HF12.out.below (zik (by assumption))) (HF19.out.below (zik (by assumption))) HHF.out HFL2.out (Rat.not_lt.2 HLE.out)).mono ?_); rintro e34 w34 ⟨rfl, hb34⟩))
      all_goals
       have hEnd := zik (by assumption)
       go_wp2_with fail
       go_meet
       case rel => exact ⟨rfl, hEnd⟩
     case rest =>
      obtain ⟨rfl, hb6⟩ := hcut
      obtain ⟨W26, hw9⟩ : ∃ w6, w6 = wc := ⟨_, rfl⟩
      subst hw9
      replace HC19 := zH (HC19.out.belowS hb6); replace HF19 := zH (HF19.out.below hb6); replace HC14 := zH (HC14.out.belowS hb6); replace HB12 := zH (zaa HB12.out hb6)
      obtain ⟨_, d0, d1, d2, _, _, _⟩ := HC19.out
      obtain ⟨_, p0, p1, p2, f0, f1, f2⟩ := HC14.out
      have HL14 := HL14
      clear hb6 S0
      go_wp2_with fail
      go_roundg (5 - (m + 1))
      case measure => (have := HG.out; omega)
      case rel => exact ⟨m + 1, _, _, _, _, _, _, _, by omega, rfl, by go_num, HC14.out.set _ _ _, HF19.out.set3 HC14.out (fun z => by simp) (fun z => by simp) _ _ _, zga HB12.out HL14.out _ _ _⟩
  ·obtain rfl : m = 5 := by omega
   go_wp2_with (first
    |(go_at_call 46; (with_reducible refine (zme _).mono ?_); rintro e29 w29 ⟨rfl, hb29⟩
      replace HBR := zH (zaa HBR.out hb29)
      clear hb29))
   go_ret
   exact ⟨rfl, HB.out.trans (HBR.out.mono HB.out.size)⟩
end Go.Proofs.YtlpdkbmmbdfoiaaGreat
