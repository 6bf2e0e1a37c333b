/-
  package drydocklaw21: ChainScales.
-/
import Derived.Test.YtlpdkbmmbdfoiaaKLf3
import Derived.Test.YtlpdkbmmbdfoiaaKMath17
namespace Go.Proofs.Ytlpdkbmmbdfoiaa
set_option linter.unusedVariables false
set_option linter.unusedSimpArgs false
open Go.RowKit

theorem zero_fracN (w : World) : FracN w (.agg #[.bool false, .slice none 0 0, .slice none 0 0]) false 0 0 :=
  ⟨_, _, rfl, ⟨[], NatV.nil w, rfl, by simp⟩, ⟨[], NatV.nil w, rfl, by simp⟩⟩
set_option maxRecDepth 100000 in
set_option maxHeartbeats 1600000 in
theorem r2mul_bad (va : Value) (p : Rat) (w : World) (ha : FracC w va p) (hp : fits p) : Calls Try.prog 10 #[va, .agg #[.bool false, .slice none 0 0, .slice none 0 0]] w (fun e w' => e = .returned (.tuple #[.agg #[.bool false, .slice none 0 0, .slice none 0 0], .int .i64 1]) ∧ Below w.heap.size w w') := by
  obtain ⟨a1, a2, rfl, n1, n2⟩ := id ha
  obtain ⟨x1, y1, z1, rfl, _⟩ := id n1.v.sl
  obtain ⟨x2, y2, z2, rfl, _⟩ := id n2.v.sl
  obtain ⟨hA, hB, hR, hbw⟩ := three_boxes w 32 (.bool (decide (p < 0))) (.slice x1 y1 z1) (.slice x2 y2 z2) (.bool false) (.slice none 0 0) (.slice none 0 0) (.bool false) (.slice none 0 0) (.slice none 0 0) _ rfl
  have HA := Lib.hid hA
  have HB := Lib.hid hB
  have HR := Lib.hid hR
  have HBW := Lib.hid hbw
  have HAP := Lib.hid (ha.below hbw)
  have HP := Lib.hid hp
  obtain ⟨_, c0, c1, c2, _, _, _⟩ := id hA
  obtain ⟨_, d0, d1, d2, _, _, _⟩ := id hB
  clear hA hB hR ha n1 n2 hp hbw
  go_enter Try.func10, Try.ntmps10
  go_upto_region 2 with (first
    | (go_at_call 30; (with_reducible refine (r2valid_can _ p _ HAP.out HP.out).mono ?_); rintro e1 w1 ⟨rfl, hb1⟩
       have HB1 := Lib.hid hb1
       clear c0 c1 c2 d0 d1 d2
       obtain ⟨_, d0, d1, d2, _, _, _⟩ := HB.out.belowS hb1)
    | (go_at_call 30; (with_reducible refine (r2valid_no _ false 0 0 _ (zero_fracN _) (by decide)).mono ?_); rintro e2 w2 ⟨rfl, hb2⟩
       have HBE := Lib.hid (below_then HBW.out (below_then HB1.out hb2))
       have HR2 := Lib.hid (HR.out.belowS (below_then HB1.out hb2))
       clear d0 d1 d2 hb2))
  obtain ⟨_, g0, g1, g2, g3, g4, g5⟩ := HR2.out
  go_wp2_with fail
  refine bodyPost_c3 rfl rfl Try.aggF Try.sizeF (HR2.out.set _ _ _) rfl ?_
  exact ⟨rfl, below_set3 HBE.out (Nat.le_trans (Nat.le_succ _) (Nat.le_succ _)) _ _ _⟩
theorem MkR.moves {w w' : World} {B c : Nat} {v : Value} {rs : List Value} {A : Mx} (h : MkR w B v rs c A) (hm : Moves B w w') : MkR w' B v rs c A :=
  ⟨h.ra.moves hm (Nat.le_refl _), fun j hj => (h.rows j hj).moves hm (Nat.le_refl _), Nat.le_trans h.sz hm.size⟩
section
variable {c : CQ} {H T : Nat → Rat} {a b : Nat}
theorem TC.mean_ok (h : TC c H T) (hall : AllS c.raw) {va : Value} {w : World} (hv : ChainC w va c) : Calls Try.prog 17 #[va] w (RF0 w (stS c.raw T)) :=
  (Go.Proofs.Ytlpdkbmmbdfoiaa.mean_c hv.raw h.tape.valid h.tape.sm h.time.time).mono fun _ _ k => by
    rcases k.f with ⟨_, k⟩ | ⟨k, _⟩
    · exact k
    · exact absurd hall k
theorem TC.mean_no (h : TC c H T) (hall : ¬ AllS c.raw) {va : Value} {w : World} (hv : ChainC w va c) : Calls Try.prog 17 #[va] w (fun e w' => e = .returned (.tuple #[.agg #[.bool false, .slice none 0 0, .slice none 0 0], .int .i64 14]) ∧ Below w.heap.size w w') :=
  (Go.Proofs.Ytlpdkbmmbdfoiaa.mean_c hv.raw h.tape.valid h.tape.sm h.time.time).mono fun _ _ k => by
    rcases k.f with ⟨k, _⟩ | ⟨_, k⟩
    · exact absurd k hall
    · exact k
theorem TC.mean_dok (h : TC c H T) (ha : a < 7) (hb : b < 5) (hall : AllS c.raw) {va : Value} {w : World} (hv : ChainC w va (scl c (sclK a b))) : Calls Try.prog 17 #[va] w (RF0 w (stS c.raw T * (sclK a b)⁻¹)) := by
  have hs := h.tape.scl ha hb
  exact (Go.Proofs.Ytlpdkbmmbdfoiaa.mean_c (T := fun s => T s * (sclK a b)⁻¹) hv.raw hs.valid hs.sm (time_scl sclK_pos h.time.time)).mono fun _ _ k => by
    rcases k.f.to (alls_scl sclK_pos) (stS_scl T) with ⟨_, k⟩ | ⟨k, _⟩
    · exact k
    · exact absurd hall k
theorem TC.mean_dno (h : TC c H T) (ha : a < 7) (hb : b < 5) (hall : ¬ AllS c.raw) {va : Value} {w : World} (hv : ChainC w va (scl c (sclK a b))) : Calls Try.prog 17 #[va] w (fun e w' => e = .returned (.tuple #[.agg #[.bool false, .slice none 0 0, .slice none 0 0], .int .i64 14]) ∧ Below w.heap.size w w') := by
  have hs := h.tape.scl ha hb
  exact (Go.Proofs.Ytlpdkbmmbdfoiaa.mean_c (T := fun s => T s * (sclK a b)⁻¹) hv.raw hs.valid hs.sm (time_scl sclK_pos h.time.time)).mono fun _ _ k => by
    rcases k.f.to (alls_scl sclK_pos) (stS_scl T) with ⟨k, _⟩ | ⟨_, k⟩
    · exact absurd k hall
    · exact k
end
set_option maxRecDepth 100000 in
set_option maxHeartbeats 12800000 in
theorem scales_any (v : Value) (x : Nat) (l : List Nat) (w : World) (h : CellsV w v (bytes l)) (hb : ∀ x ∈ l, x < 256) (hx : x < 256) :
    Calls Try.prog 4 #[v, .int .u8 (x : Nat)] w (fun e w' => e = .returned (.bool true) ∧ Below w.heap.size w w') := by
  obtain ⟨i3, hi3, hz3, hs3, hy3⟩ := info_parts Try.infoF
  have hAP := append1_fr (P := Try.prog) 23 32 i3 Try.underlying23 hi3 hz3 hs3 hy3
  obtain ⟨i4, hi4, hz4, hs4, hy4⟩ := info_parts Try.infoRow
  have hAR := append1_one (P := Try.prog) 24 23 i4 _ 24 Try.underlying24 hi4 hz4 hs4 hy4 (by decide) rfl (fun z => by simp)
  clear hi3 hz3 hs3 hy3 hi4 hz4 hs4 hy4
  have HA7 : Hid (x % 7 < 7) := Lib.hid (Nat.mod_lt _ (by decide))
  have HB5 : Hid (x / 7 % 5 < 5) := Lib.hid (Nat.mod_lt _ (by decide))
  have HMK : Hid (∀ w0, Calls Try.prog 15 #[.int .i64 (1 + ((x : Nat) : Int) % 7), .int .i64 (1 + ((x : Nat) : Int) / 7 % 256 % 5)] w0 (RF0 w0 (sclK (x % 7) (x / 7 % 5)))) := Lib.hid (fun w0 => r2make_zz (1 + x % 7) (1 + x / 7 % 5) _ _ w0 (by omega) (by omega) (by omega) (by omega) (by omega))
  have HX := Lib.hid hx
  clear hx
  go_enter Try.func4, Try.ntmps4
  go_upto_region 2 with (first
    | (go_at_call 13; (with_reducible refine (new_any _ l _ h hb).mono ?_); rintro e1 w1 ⟨bt, rfl, hbt, hT1, hbel1⟩)
    | (go_at_call 14; (with_reducible refine (chain_any bt 0 _ _ hT1).mono ?_); rintro e2 w2 ⟨v2, c, a2, rfl, hC2, hTP, hT2, hsz2, hfr2⟩
       obtain ⟨vr, vs, vl, rfl, m1, m2, m3⟩ := id hC2
       obtain ⟨ar, nr, kr, rfl, _⟩ := id m1.sl
       obtain ⟨as', ns, ks, rfl, _⟩ := id m2.sl
       obtain ⟨al, nl, kl, rfl, _⟩ := id (CellsV.sl m3)
       have hb12 := hbel1.trans (hfr2 _ hbt hbel1.size)
       have ba3 := below_alloc w2 (.cells #[.slice ar nr kr, .slice as' ns ks, .slice al nl kl] 45)
       have HTP := Lib.hid hTP
       have HNS : Hid (ns = c.start.length) := Lib.hid m2.len
       have HNR : Hid (nr = c.rates.length) := Lib.hid m1.len
       have HC3 := Lib.hid (C3.new w2 45 (.slice ar nr kr) (.slice as' ns ks) (.slice al nl kl))
       have HCH := Lib.hid (hC2.below ba3)
       have HST := Lib.hid (m2.below ba3)
       have HRT := Lib.hid (m1.below ba3)
       have HLO := Lib.hid (m3.below ba3)
       have HB := Lib.hid (hb12.trans (ba3.mono hb12.size))
       have hn5 : ns ≤ 5 := by rw [HNS.out]; exact HTP.out.n5
       have sst := m2.sl
       have srt := m1.sl
       have slo := CellsV.sl m3
       clear hC2 m1 m2 m3 hTP hfr2 hT1 hT2 hbel1 hsz2 hb12 ba3 hbt))
  obtain ⟨b3, hb3⟩ : ∃ b, w2.heap.size = b := ⟨_, rfl⟩
  rw [hb3] at HC3 ⊢
  clear hb3
  generalize w2.alloc (.cells #[.slice ar nr kr, .slice as' ns ks, .slice al nl kl] 45) = W3 at *
  obtain ⟨H, T, htc⟩ := tape_tc HTP.out
  have HTC := Lib.hid htc
  clear htc
  have hn2 : 2 ≤ ns := by rw [HNS.out]; exact HTP.out.n2
  go_upto_region 3 with (first
    | (go_at_call 15; (with_reducible refine (HMK.out _).mono ?_); rintro e6 w6 ⟨v6, rfl, hv6, hb6⟩
       obtain ⟨t6, x6, y6, rfl, ⟨a61, l61, k61, rfl, _⟩, ⟨a62, l62, k62, rfl, _⟩⟩ := hv6.isF
       have hba := below_alloc w6 (.cells #[.bool t6, .slice a61 l61 k61, .slice a62 l62 k62] 32)
       have hbb := below_then hb6 hba
       have HC6 := Lib.hid (C3.new w6 32 (.bool t6) (.slice a61 l61 k61) (.slice a62 l62 k62))
       have HF6 := Lib.hid (hv6.below hba)
       replace HB := Lib.hid (below_then HB.out hbb); replace HC3 := Lib.hid (HC3.out.belowS hbb); replace HCH := Lib.hid (HCH.out.below hbb); replace HST := Lib.hid (HST.out.below hbb); replace HRT := Lib.hid (HRT.out.below hbb); replace HLO := Lib.hid (HLO.out.below hbb)
       clear hv6 hb6 hba hbb))
  obtain ⟨b6, hb6⟩ : ∃ b, w6.heap.size = b := ⟨_, rfl⟩
  rw [hb6] at HC6 ⊢
  clear hb6
  generalize w6.alloc (.cells #[.bool t6, .slice a61 l61 k61, .slice a62 l62 k62] 32) = W6 at *
  have HKP : Hid (0 < sclK (x % 7) (x / 7 % 5)) := Lib.hid sclK_pos
  have HKF : Hid (fits (sclK (x % 7) (x / 7 % 5))) := Lib.hid (sclK_fits HA7.out (by have := HB5.out; omega))
  have HSF : Hid (∀ i j, i < c.start.length → j < c.start.length → fits ((c.rates.getD i []).getD j 0) ∧ fits (sclM c (sclK (x % 7) (x / 7 % 5)) i j)) := Lib.hid (fun i j hi hj => sclM_fits HTP.out HA7.out HB5.out hi hj)
  have HROW := Lib.hid (sclM_row HTP.out (sclK (x % 7) (x / 7 % 5)))
  have HBK : Hid (∀ M : Rat, sclK (x % 7) (x / 7 % 5) * (M * (sclK (x % 7) (x / 7 % 5))⁻¹) = M) := Lib.hid (fun M => scl_back sclK_pos)
  have HHD : Hid (∀ (w0 : World) (va : Value), ChainC w0 va (scl c (sclK (x % 7) (x / 7 % 5))) → Calls Try.prog 16 #[va] w0 (RF0 w0 (stS c.raw H))) := Lib.hid (fun w0 va k => HTC.out.hit_d HA7.out HB5.out k)
  have HMD : Hid (AllS c.raw → ∀ (w0 : World) (va : Value), ChainC w0 va (scl c (sclK (x % 7) (x / 7 % 5))) → Calls Try.prog 17 #[va] w0 (RF0 w0 (stS c.raw T * (sclK (x % 7) (x / 7 % 5))⁻¹))) := Lib.hid (fun ha w0 va k => HTC.out.mean_dok HA7.out HB5.out ha k)
  have HMN : Hid (¬ AllS c.raw → ∀ (w0 : World) (va : Value), ChainC w0 va (scl c (sclK (x % 7) (x / 7 % 5))) → Calls Try.prog 17 #[va] w0 (fun e w' => e = .returned (.tuple #[.agg #[.bool false, .slice none 0 0, .slice none 0 0], .int .i64 14]) ∧ Below w0.heap.size w0 w')) := Lib.hid (fun ha w0 va k => HTC.out.mean_dno HA7.out HB5.out ha k)
  have HFM : Hid (fits (stS c.raw T) ∧ fits (stS c.raw T * (sclK (x % 7) (x / 7 % 5))⁻¹)) := Lib.hid ⟨HTC.out.fM, HTC.out.fMk HA7.out HB5.out⟩
  obtain ⟨K, hK⟩ : ∃ K, sclK (x % 7) (x / 7 % 5) = K := ⟨_, rfl⟩
  rw [hK] at HF6 HKP HKF HSF HROW HBK HHD HMD HMN HFM
  clear hK HMK
  obtain ⟨_, c0, c1, c2, _, _, _⟩ := HC3.out
  have hba := below_alloc W6 (.cells #[.slice none 0 0, .slice as' ns ks, .slice al nl kl] 45)
  have HC8 := Lib.hid (C3.new W6 45 (.slice none 0 0) (.slice as' ns ks) (.slice al nl kl))
  have HBR := Lib.hid hba
  have HLT8 : Hid (W6.heap.size < (W6.alloc (.cells #[.slice none 0 0, .slice as' ns ks, .slice al nl kl] 45)).heap.size) := Lib.hid (by simp)
  clear hba
  go_upto_region 4 with fail
  clear c0 c1 c2
  obtain ⟨b8, hb8⟩ : ∃ b, W6.heap.size = b := ⟨_, rfl⟩
  have HE8 := Lib.hid hb8
  rw [hb8] at HC8 HLT8 ⊢
  clear hb8
  generalize W6.alloc (.cells #[.slice none 0 0, .slice as' ns ks, .slice al nl kl] 45) = W8 at *
  obtain ⟨_, c0, c1, c2, _, _, _⟩ := HC3.out.belowS HBR.out
  have HNRN : Hid (nr = ns) := Lib.hid (by rw [HNR.out, HTP.out.rl, HNS.out])
  go_wp2_with fail
  clear c0 c1 c2
  go_loopg [9] (nr) (fun g u9 wr => ∃ (i : Nat) (vR : Value) (rs : List Value), i ≤ nr ∧ g = nr - i ∧ u9 = .int .i64 i ∧ C3 wr b8 vR (.slice as' ns ks) (.slice al nl kl) ∧ MkR wr W8.heap.size vR rs c.start.length (sclM c K) ∧ rs.length = i ∧ Below b8 W6 wr)
  case atStart => exact ⟨0, _, [], Nat.zero_le _, rfl, rfl, HC8.out, ⟨OwnR.nil _ _ _ _, fun j h => by simp at h, Nat.le_refl _⟩, rfl, by rw [← HE8.out]; exact HBR.out⟩
  case round =>
    obtain ⟨i, vR, rs, hin, hg, rfl, hc8, hm, hrs, hbr⟩ := hrel
    obtain ⟨W9, hw9⟩ : ∃ w6, w6 = wr := ⟨_, rfl⟩
    subst hw9
    have HG := Lib.hid hg
    have HC8 := Lib.hid hc8
    have HM := Lib.hid hm
    have HRS := Lib.hid hrs
    have HBR : Hid (Below W6.heap.size W6 W9) := Lib.hid (by rw [HE8.out]; exact hbr)
    have hsz8 := hm.sz
    have HSZ := Lib.hid hsz8
    clear hg hc8 hrs hbr hsz8
    have hnr5 : nr ≤ 5 := by have := HNRN.out; omega
    by_cases hil : i < nr
    · have hic : i < c.start.length := by rw [← HNS.out, ← HNRN.out]; exact hil
      have HIC := Lib.hid hic
      have hir : i < c.rates.length := by rw [HTP.out.rl]; exact hic
      obtain ⟨rv, hrv, hrow⟩ := HRT.out.at' i hir
      have HRE : Hid (c.rates.getD i [] = c.rates[i]'hir) := Lib.hid (by rw [List.getD_eq_getElem?_getD, List.getElem?_eq_getElem hir]; rfl)
      have HRN : Hid ((c.rates.getD i []).length = c.start.length) := Lib.hid (by rw [HRE.out]; exact (HTP.out.rows i _ (List.getElem?_eq_getElem hir)).1)
      rw [← HRE.out] at hrow
      obtain ⟨ra, rn, rk, rfl, _⟩ := id hrow.sl
      have srow := hrow.sl
      have HRW := Lib.hid hrow
      have HRV := Lib.hid hrv
      have HRNN : Hid (rn = c.start.length) := Lib.hid (by rw [← HRN.out]; exact hrow.len)
      have hrn5 : rn ≤ 5 := by rw [HRNN.out]; exact HTP.out.n5
      have i1 : (0 : Int) ≤ (i : Int) := by omega
      have i2 : (i : Int) < (nr : Nat) := by omega
      have svR := hm.ra.sl
      obtain ⟨m1, m2, m3, rfl, _⟩ := id svR
      obtain ⟨_, c0, c1, c2, _, _, _⟩ := HC3.out.belowS HBR.out
      clear hrv hrow hic hm
      go_wp2_with fail
      clear c0 c1 c2
      go_loopg [10, 11] (rn) (fun g u10 u11 wi => ∃ (j : Nat), j ≤ rn ∧ g = rn - j ∧ u11 = .int .i64 j ∧ FrRow wi 32 W9.heap.size u10 (rowL j (sclM c K i)) ∧ Below W9.heap.size W9 wi)
      case atStart => exact ⟨0, Nat.zero_le _, rfl, rfl, FrRow.nil _ _ _, Below.refl _ _⟩
      case round =>
        obtain ⟨j, hjn, hg, rfl, hfr, hbi⟩ := hrel
        obtain ⟨W11, hw9⟩ : ∃ w6, w6 = wr := ⟨_, rfl⟩
        subst hw9
        have HGJ := Lib.hid hg
        have HFR := Lib.hid hfr
        have HBI := Lib.hid hbi
        have HB6 := Lib.hid (below_then HBR.out hbi)
        have s10 := hfr.sl
        obtain ⟨_, c0, c1, c2, _, _, _⟩ := HC3.out.belowS HB6.out
        have hri := cell_below HB6.out HRV.out
        clear hg hfr hbi
        by_cases hjl : j < rn
        · have hjc : j < c.start.length := by rw [← HRNN.out]; exact hjl
          have HJC := Lib.hid hjc
          obtain ⟨ts, as1, ls1, ks1, as2, ls2, ks2, g1, g2, g3, hfs⟩ := (HRW.out.below HB6.out).cellsAt (k := j) (by rw [HRN.out]; exact hjc)
          obtain ⟨s, hs⟩ : ∃ s, (c.rates.getD i []).getD j 0 = s := ⟨_, rfl⟩
          rw [hs] at hfs
          have HS := Lib.hid hs
          have HFS := Lib.hid hfs
          have HSS : Hid (fits s ∧ fits (K * s)) := Lib.hid (by
            have h1 := HSF.out i j HIC.out hjc
            unfold sclM at h1
            rw [hs] at h1
            exact h1)
          have HFK := Lib.hid (HF6.out.below HB6.out)
          obtain ⟨_, p1, p2, p3, _, _, _⟩ := HC6.out.belowS HB6.out
          have S0 := Lib.hid (And.intro c0 (And.intro hri (And.intro g1 (And.intro g2 (And.intro g3 (And.intro p1 (And.intro p2 p3)))))))
          have j1 : (0 : Int) ≤ (j : Int) := by omega
          have j2 : (j : Int) < (rn : Nat) := by omega
          go_upto_region 11 with fail
          clear c0 c1 c2 hri g1 g2 g3 hfs hs hjc p1 p2 p3
          go_cut [12] (fun u12 wy => ∃ (b12 : Nat) (t' : Bool) (a1 : Option Addr) (l1 k1 : Nat) (a2 : Option Addr) (l2 k2 : Nat), u12 = .pointer (some ⟨b12, 0, none⟩) ∧ C3 wy b12 (.bool t') (.slice a1 l1 k1) (.slice a2 l2 k2) ∧ FracC wy (.agg #[.bool t', .slice a1 l1 k1, .slice a2 l2 k2]) (K * s) ∧ Below W11.heap.size W11 wy)
          case first =>
            go_region_held3 (fun w' => w'.cell? ⟨b3, 0, none⟩ = some (.slice ar nr kr) ∧ w'.cell? (ptr (.slice ar nr kr) i) = some (.slice ra rn rk) ∧ w'.cell? (ptr (.slice ra rn rk) (j * 3)) = some (.bool ts) ∧ w'.cell? (ptr (.slice ra rn rk) (j * 3 + 1)) = some (.slice as1 ls1 ks1) ∧ w'.cell? (ptr (.slice ra rn rk) (j * 3 + 2)) = some (.slice as2 ls2 ks2) ∧ w'.cell? ⟨b6, 0, none⟩ = some (.bool t6) ∧ w'.cell? ⟨b6, 1, none⟩ = some (.slice a61 l61 k61) ∧ w'.cell? ⟨b6, 2, none⟩ = some (.slice a62 l62 k62) ∧ Below W11.heap.size W11 w') (first
              | with_reducible exact kp8a S0.out (below_drew _)
              | with_reducible exact kp8w (by assumption) (below_alloc _ _)
              | with_reducible exact kp8w (by assumption) (by assumption)
              | with_reducible exact kp8a S0.out (below_then hB32 (below_alloc _ _))
              | with_reducible exact kp8s S0.out hB32 (Nat.le_refl _) _ _ _
              | with_reducible exact kp8s S0.out hB32 hB31.size _ _ _
              | with_reducible exact kp8s S0.out (below_then hB32 (below_alloc _ _)) hB32.size _ _ _) (first
              | (go_at_call 10; (with_reducible refine (r2mul_can _ _ K s _ (HFK.out.below (kp8c (by assumption))) (HFS.out.below (kp8c (by assumption))) HKF.out HSS.out.1 HSS.out.2).mono ?_); rintro e32 w32 ⟨v32, rfl, hv32, hb32⟩
                 obtain ⟨t32, x32, y32, rfl, ⟨a321, l321, k321, rfl, _⟩, ⟨a322, l322, k322, rfl, _⟩⟩ := hv32.isF
                 have hB32 := below_then (kp8c (by assumption)) hb32
                 have hc6 := (fun (p : Addr) hp => hb32.cell (p := p) hp)
                 have hf6 := (fun (p : Addr) hp => hb32.frozen (p := p) hp)
                 have zq2 := hb32.size
                 (try simp only [sizeA, sizeD] at zq2)
                 (try have z2 : W11.heap.size < w32.heap.size := (by omega))))
            all_goals
              have hE := kp8c (by assumption)
              go_wp2_with fail
              go_meet
              case rel =>
                first
                  | exact ⟨_, _, _, _, _, _, _, _, rfl, C3.new w32 _ _ _ _, hv32.below (below_alloc _ _), hE⟩
                  | exact ⟨_, _, _, _, _, _, _, _, rfl, ((C3.newB (b := W11.heap.size) W11.drew 32 (.bool false) (.slice none 0 0) (.slice none 0 0) rfl).belowS hb32).set _ _ _, hv32.set3 ((C3.newB (b := W11.heap.size) W11.drew 32 (.bool false) (.slice none 0 0) (.slice none 0 0) rfl).belowS hb32) (fun z => by simp) (fun z => by simp) _ _ _, hE⟩
          case rest =>
            obtain ⟨b12, t12, a121, l121, k121, a122, l122, k122, rfl, hc, hf, hb6⟩ := hcut
            obtain ⟨W12, hw3⟩ : ∃ w3, w3 = wc := ⟨_, rfl⟩
            subst hw3
            have HC12 := Lib.hid hc
            have HF12 := Lib.hid hf
            have HFR12 := Lib.hid (HFR.out.moves (Moves.below (B := W9.heap.size) hb6) (Nat.le_refl _))
            have HB12 := Lib.hid (below_then HBI.out hb6)
            have hlen : (rowL j (sclM c K i)).length ≤ 1000 := by rw [rowL_length]; omega
            have hsz := HB12.out.size
            obtain ⟨_, r0, r1, r2, _, _, _⟩ := HC12.out
            clear hc hf hb6 S0 HFS HFK
            go_wp2_with (first
              | (at_builtin; refine hAP _ rfl _ _ rfl W9.heap.size _ u10 (rowL j (sclM c K i)) rfl HFR12.out _ _ _ (K * s) HF12.out rfl hlen hsz ?_; intro v50 w50 ho50 hg50 hn50 hq50 sv50
                 have hbg := below_grow hg50 hsz HFR12.out.block
                 have HB50 := Lib.hid (HB12.out.trans hbg)
                 have HO50 := Lib.hid ho50
                 clear hbg hg50 hn50 hq50 ho50))
            go_roundg (rn - (j + 1))
            case measure => (have := HGJ.out; omega)
            case rel =>
              refine ⟨j + 1, by omega, rfl, by go_num, ?_, HB50.out⟩
              rw [← rowL_snoc]
              have e : sclM c K i j = K * s := by unfold sclM; rw [HS.out]
              rw [e]
              exact HO50.out
        · obtain rfl : j = rn := by omega
          obtain ⟨q1, q2, q3, rfl, _⟩ := id s10
          have hm9 := HM.out.below HBI.out
          have HM9 := Lib.hid hm9
          have HC89 := Lib.hid (HC8.out.belowS HBI.out)
          have hrs1 : rs.length ≤ 1000 := by rw [HRS.out]; have := HNRN.out; omega
          have hsz9 := hm9.sz
          have sra := hm9.ra
          obtain ⟨_, d0, d1, d2, f0, f1, f2⟩ := HC89.out
          clear hm9
          go_wp2_with (first
            | (at_builtin; refine hAR _ rfl _ _ rfl W8.heap.size _ (.slice m1 m2 m3) rs rfl sra (.slice q1 q2 q3) rfl (fun z => by simp) rfl hrs1 hsz9 ?_; intro v60 w60 ho60 hg60 hn60 hq60 sv60
               have HPU := Lib.hid (HM9.out.push (by rw [HRS.out, ← HRNN.out]; exact (HFR.out.mono HSZ.out)) ho60 hg60 hn60)
               have HC60 := Lib.hid (HC89.out.below HPU.out.2 HLT8.out)
               obtain ⟨n1, n2, n3, rfl, _⟩ := id sv60
               obtain ⟨_, d0, d1, d2, f0, f1, f2⟩ := HC60.out
               clear ho60 hg60 hn60 hq60))
          go_roundg (nr - (i + 1))
          case measure => (have := HG.out; omega)
          case rel =>
            refine ⟨i + 1, _, _, by omega, rfl, by go_num, HC60.out.set0 _, HPU.out.1.moves (Moves.set (B := W8.heap.size) (p := ⟨b8, 0, none⟩) HLT8.out HC60.out.c0 (fun z => by simp) (.slice n1 n2 n3)), by simp [HRS.out], ?_⟩
            refine Below.setCell ?_ (p := ⟨b8, 0, none⟩) (Nat.le_refl _) _
            have h1 := below_then HBR.out HBI.out
            rw [HE8.out] at h1
            exact h1.trans (HPU.out.2.mono (Nat.le_of_lt HLT8.out))
    · have HRL : Hid (rs.length = (scl c K).rates.length) := Lib.hid (by rw [HROW.out.1, HRS.out, ← HNS.out, ← HNRN.out]; omega)
      have HCD : Hid (∀ w', Below W9.heap.size W9 w' → ChainC w' (.agg #[vR, .slice as' ns ks, .slice al nl kl]) (scl c K)) := Lib.hid (fun w' hb' => ⟨_, _, _, rfl, (HM.out.below hb').matC HRL.out HROW.out.2, HST.out.below (below_then HBR.out hb'), HLO.out.below (below_then HBR.out hb')⟩)
      have svR := hm.ra.sl
      obtain ⟨m1, m2, m3, rfl, _⟩ := id svR
      have HCH9 := Lib.hid (HCH.out.below HBR.out)
      have HC39 := Lib.hid (HC3.out.belowS HBR.out)
      have HF69 := Lib.hid (HF6.out.below HBR.out)
      have HC69 := Lib.hid (HC6.out.belowS HBR.out)
      have HB0 := Lib.hid (Below.refl W9.heap.size W9)
      have HFH := Lib.hid HTC.out.fHs
      obtain rfl : i = nr := by omega
      clear hm
      obtain ⟨_, c0, c1, c2, _, _, _⟩ := HC39.out
      go_upto_region 15 with (first
        | (go_at_call 16; (with_reducible refine (HTC.out.hit_c HCH9.out.raw).mono ?_); rintro e14 w14 ⟨v14, rfl, hv14, hb14⟩
           clear c0 c1 c2
           obtain ⟨t14, x14, y14, rfl, ⟨a141, l141, k141, rfl, _⟩, ⟨a142, l142, k142, rfl, _⟩⟩ := hv14.isF
           have hba := below_alloc w14 (.cells #[.bool t14, .slice a141 l141 k141, .slice a142 l142 k142] 32)
           have hbb := below_then hb14 hba
           have HC14 := Lib.hid (C3.new w14 32 (.bool t14) (.slice a141 l141 k141) (.slice a142 l142 k142))
           have HF14 := Lib.hid (hv14.below hba)
           clear hv14
           replace HB0 := Lib.hid (below_then HB0.out hbb); replace HC39 := Lib.hid (HC39.out.belowS hbb); replace HCH9 := Lib.hid (HCH9.out.below hbb); replace HC8 := Lib.hid (HC8.out.belowS hbb); replace HC69 := Lib.hid (HC69.out.belowS hbb); replace HF69 := Lib.hid (HF69.out.below hbb)
           clear hb14 hba hbb))
      obtain ⟨b14, hb14⟩ : ∃ b, w14.heap.size = b := ⟨_, rfl⟩
      rw [hb14] at HC14 ⊢
      clear hb14
      generalize w14.alloc (.cells #[.bool t14, .slice a141 l141 k141, .slice a142 l142 k142] 32) = W14 at *
      obtain ⟨_, c0, c1, c2, _, _, _⟩ := HC8.out
      go_upto_region 16 with (first
        | (go_at_call 16; (with_reducible refine (HHD.out _ _ (HCD.out _ HB0.out)).mono ?_); rintro e16 w16 ⟨v16, rfl, hv16, hb16⟩
           clear c0 c1 c2
           obtain ⟨t16, x16, y16, rfl, ⟨a161, l161, k161, rfl, _⟩, ⟨a162, l162, k162, rfl, _⟩⟩ := hv16.isF
           have hba := below_alloc w16 (.cells #[.bool t16, .slice a161 l161 k161, .slice a162 l162 k162] 32)
           have hbb := below_then hb16 hba
           have HC16 := Lib.hid (C3.new w16 32 (.bool t16) (.slice a161 l161 k161) (.slice a162 l162 k162))
           have HF16 := Lib.hid (hv16.below hba)
           clear hv16
           replace HB0 := Lib.hid (below_then HB0.out hbb); replace HC39 := Lib.hid (HC39.out.belowS hbb); replace HCH9 := Lib.hid (HCH9.out.below hbb); replace HC8 := Lib.hid (HC8.out.belowS hbb); replace HC69 := Lib.hid (HC69.out.belowS hbb); replace HF69 := Lib.hid (HF69.out.below hbb); replace HC14 := Lib.hid (HC14.out.belowS hbb); replace HF14 := Lib.hid (HF14.out.below hbb)
           clear hb16 hba hbb))
      obtain ⟨b16, hb16⟩ : ∃ b, w16.heap.size = b := ⟨_, rfl⟩
      rw [hb16] at HC16 ⊢
      clear hb16
      generalize w16.alloc (.cells #[.bool t16, .slice a161 l161 k161, .slice a162 l162 k162] 32) = W16 at *
      by_cases hall : AllS c.raw
      · obtain ⟨_, c0, c1, c2, _, _, _⟩ := HC39.out
        go_upto_region 17 with (first
          | (go_at_call 17; (with_reducible refine (HTC.out.mean_ok hall HCH9.out).mono ?_); rintro e18 w18 ⟨v18, rfl, hv18, hb18⟩
             clear c0 c1 c2
             obtain ⟨t18, x18, y18, rfl, ⟨a181, l181, k181, rfl, _⟩, ⟨a182, l182, k182, rfl, _⟩⟩ := hv18.isF
             have hba := below_alloc w18 (.cells #[.bool t18, .slice a181 l181 k181, .slice a182 l182 k182] 32)
             have hbb := below_then hb18 hba
             have HC18 := Lib.hid (C3.new w18 32 (.bool t18) (.slice a181 l181 k181) (.slice a182 l182 k182))
             have HF18 := Lib.hid (hv18.below hba)
             clear hv18
             replace HB0 := Lib.hid (below_then HB0.out hbb); replace HC8 := Lib.hid (HC8.out.belowS hbb); replace HC69 := Lib.hid (HC69.out.belowS hbb); replace HF69 := Lib.hid (HF69.out.below hbb); replace HC14 := Lib.hid (HC14.out.belowS hbb); replace HF14 := Lib.hid (HF14.out.below hbb); replace HC16 := Lib.hid (HC16.out.belowS hbb); replace HF16 := Lib.hid (HF16.out.below hbb)
             clear hb18 hba hbb))
        obtain ⟨b18, hb18⟩ : ∃ b, w18.heap.size = b := ⟨_, rfl⟩
        rw [hb18] at HC18 ⊢
        clear hb18
        generalize w18.alloc (.cells #[.bool t18, .slice a181 l181 k181, .slice a182 l182 k182] 32) = W18 at *
        obtain ⟨_, c0, c1, c2, _, _, _⟩ := HC8.out
        go_upto_region 18 with (first
          | (go_at_call 17; (with_reducible refine (HMD.out hall _ _ (HCD.out _ HB0.out)).mono ?_); rintro e20 w20 ⟨v20, rfl, hv20, hb20⟩
             clear c0 c1 c2
             obtain ⟨t20, x20, y20, rfl, ⟨a201, l201, k201, rfl, _⟩, ⟨a202, l202, k202, rfl, _⟩⟩ := hv20.isF
             have hba := below_alloc w20 (.cells #[.bool t20, .slice a201 l201 k201, .slice a202 l202 k202] 32)
             have hbb := below_then hb20 hba
             have HC20 := Lib.hid (C3.new w20 32 (.bool t20) (.slice a201 l201 k201) (.slice a202 l202 k202))
             have HF20 := Lib.hid (hv20.below hba)
             clear hv20
             replace HB0 := Lib.hid (below_then HB0.out hbb); replace HC69 := Lib.hid (HC69.out.belowS hbb); replace HF69 := Lib.hid (HF69.out.below hbb); replace HC14 := Lib.hid (HC14.out.belowS hbb); replace HF14 := Lib.hid (HF14.out.below hbb); replace HC16 := Lib.hid (HC16.out.belowS hbb); replace HF16 := Lib.hid (HF16.out.below hbb); replace HC18 := Lib.hid (HC18.out.belowS hbb); replace HF18 := Lib.hid (HF18.out.below hbb)
             clear hb20 hba hbb))
        obtain ⟨b20, hb20⟩ : ∃ b, w20.heap.size = b := ⟨_, rfl⟩
        rw [hb20] at HC20 ⊢
        clear hb20
        generalize w20.alloc (.cells #[.bool t20, .slice a201 l201 k201, .slice a202 l202 k202] 32) = W20 at *
        obtain ⟨_, d0, d1, d2, _, _, _⟩ := HC14.out
        obtain ⟨_, p0, p1, p2, _, _, _⟩ := HC16.out
        go_upto_region 20 with (first
          | (go_at_call 18; (with_reducible refine (same_frac _ _ (stS c.raw H) (stS c.raw H) _ HF14.out HF16.out).mono ?_); rintro e19 w19 ⟨⟨q19, rfl, hq19⟩, hb19⟩
             obtain rfl : q19 = true := hq19.2 rfl
             clear d0 d1 d2 p0 p1 p2 hq19
             replace HB0 := Lib.hid (below_then HB0.out hb19); replace HC69 := Lib.hid (HC69.out.belowS hb19); replace HF69 := Lib.hid (HF69.out.below hb19); replace HC18 := Lib.hid (HC18.out.belowS hb19); replace HF18 := Lib.hid (HF18.out.below hb19); replace HC20 := Lib.hid (HC20.out.belowS hb19); replace HF20 := Lib.hid (HF20.out.below hb19)
             clear hb19))
        obtain ⟨_, d0, d1, d2, _, _, _⟩ := HC69.out
        obtain ⟨_, p0, p1, p2, _, _, _⟩ := HC20.out
        go_upto_region 21 with (first
          | (go_at_call 10; (with_reducible refine (r2mul_can _ _ K (stS c.raw T * K⁻¹) _ HF69.out HF20.out HKF.out HFM.out.2 (by rw [HBK.out]; exact HFM.out.1)).mono ?_); rw [HBK.out]; rintro e22 w22 ⟨v22, rfl, hv22, hb22⟩
             clear d0 d1 d2 p0 p1 p2
             obtain ⟨t22, x22, y22, rfl, ⟨a221, l221, k221, rfl, _⟩, ⟨a222, l222, k222, rfl, _⟩⟩ := hv22.isF
             have hba := below_alloc w22 (.cells #[.bool t22, .slice a221 l221 k221, .slice a222 l222 k222] 32)
             have hbb := below_then hb22 hba
             have HC22 := Lib.hid (C3.new w22 32 (.bool t22) (.slice a221 l221 k221) (.slice a222 l222 k222))
             have HF22 := Lib.hid (hv22.below hba)
             clear hv22
             replace HB0 := Lib.hid (below_then HB0.out hbb); replace HC18 := Lib.hid (HC18.out.belowS hbb); replace HF18 := Lib.hid (HF18.out.below hbb)
             clear hb22 hba hbb))
        obtain ⟨b22, hb22⟩ : ∃ b, w22.heap.size = b := ⟨_, rfl⟩
        rw [hb22] at HC22 ⊢
        clear hb22
        generalize w22.alloc (.cells #[.bool t22, .slice a221 l221 k221, .slice a222 l222 k222] 32) = W22 at *
        obtain ⟨_, d0, d1, d2, _, _, _⟩ := HC22.out
        obtain ⟨_, p0, p1, p2, _, _, _⟩ := HC18.out
        go_wp2_with (first
          | (go_at_call 11; (with_reducible refine (same_t _ _ HF22.out HF18.out HFM.out.1 rfl).mono ?_); rintro e23 w23 ⟨rfl, hb23⟩
             clear d0 d1 d2 p0 p1 p2
             replace HB0 := Lib.hid (below_then HB0.out hb23)
             clear hb23)
          | (go_at_call 19; (with_reducible refine (awake21_any _).mono ?_); rintro e24 w24 ⟨rfl, hb24⟩
             replace HB0 := Lib.hid (below_then HB0.out hb24)
             clear hb24))
        go_ret
        exact ⟨rfl, HB.out.trans ((below_then HBR.out HB0.out).mono HB.out.size)⟩
      · obtain ⟨_, c0, c1, c2, _, _, _⟩ := HC39.out
        go_upto_region 17 with (first
          | (go_at_call 17; (with_reducible refine (HTC.out.mean_no hall HCH9.out).mono ?_); rintro e18 w18 ⟨rfl, hb18⟩
             clear c0 c1 c2
             have hba := below_alloc w18 (.cells #[.bool false, .slice none 0 0, .slice none 0 0] 32)
             have hbb := below_then hb18 hba
             have HC18 := Lib.hid (C3.new w18 32 (.bool false) (.slice none 0 0) (.slice none 0 0))
             replace HB0 := Lib.hid (below_then HB0.out hbb); replace HC8 := Lib.hid (HC8.out.belowS hbb); replace HC69 := Lib.hid (HC69.out.belowS hbb); replace HF69 := Lib.hid (HF69.out.below hbb); replace HC14 := Lib.hid (HC14.out.belowS hbb); replace HF14 := Lib.hid (HF14.out.below hbb); replace HC16 := Lib.hid (HC16.out.belowS hbb); replace HF16 := Lib.hid (HF16.out.below hbb)
             clear hb18 hba hbb))
        obtain ⟨b18, hb18⟩ : ∃ b, w18.heap.size = b := ⟨_, rfl⟩
        rw [hb18] at HC18 ⊢
        clear hb18
        generalize w18.alloc (.cells #[.bool false, .slice none 0 0, .slice none 0 0] 32) = W18 at *
        obtain ⟨_, c0, c1, c2, _, _, _⟩ := HC8.out
        go_upto_region 18 with (first
          | (go_at_call 17; (with_reducible refine (HMN.out hall _ _ (HCD.out _ HB0.out)).mono ?_); rintro e20 w20 ⟨rfl, hb20⟩
             clear c0 c1 c2
             have hba := below_alloc w20 (.cells #[.bool false, .slice none 0 0, .slice none 0 0] 32)
             have hbb := below_then hb20 hba
             have HC20 := Lib.hid (C3.new w20 32 (.bool false) (.slice none 0 0) (.slice none 0 0))
             replace HB0 := Lib.hid (below_then HB0.out hbb); replace HC69 := Lib.hid (HC69.out.belowS hbb); replace HF69 := Lib.hid (HF69.out.below hbb); replace HC14 := Lib.hid (HC14.out.belowS hbb); replace HF14 := Lib.hid (HF14.out.below hbb); replace HC16 := Lib.hid (HC16.out.belowS hbb); replace HF16 := Lib.hid (HF16.out.below hbb)
             clear hb20 hba hbb))
        obtain ⟨b20, hb20⟩ : ∃ b, w20.heap.size = b := ⟨_, rfl⟩
        rw [hb20] at HC20 ⊢
        clear hb20
        generalize w20.alloc (.cells #[.bool false, .slice none 0 0, .slice none 0 0] 32) = W20 at *
        obtain ⟨_, d0, d1, d2, _, _, _⟩ := HC14.out
        obtain ⟨_, p0, p1, p2, _, _, _⟩ := HC16.out
        go_upto_region 20 with (first
          | (go_at_call 18; (with_reducible refine (same_frac _ _ (stS c.raw H) (stS c.raw H) _ HF14.out HF16.out).mono ?_); rintro e19 w19 ⟨⟨q19, rfl, hq19⟩, hb19⟩
             obtain rfl : q19 = true := hq19.2 rfl
             clear d0 d1 d2 p0 p1 p2 hq19
             replace HB0 := Lib.hid (below_then HB0.out hb19); replace HC69 := Lib.hid (HC69.out.belowS hb19); replace HF69 := Lib.hid (HF69.out.below hb19); replace HC20 := Lib.hid (HC20.out.belowS hb19)
             clear hb19))
        obtain ⟨_, d0, d1, d2, _, _, _⟩ := HC69.out
        obtain ⟨_, p0, p1, p2, _, _, _⟩ := HC20.out
        go_upto_region 21 with (first
          | (go_at_call 10; (with_reducible refine (r2mul_bad _ K _ HF69.out HKF.out).mono ?_); rintro e22 w22 ⟨rfl, hb22⟩
             clear d0 d1 d2 p0 p1 p2
             have hbb := below_then hb22 (below_alloc w22 (.cells #[.bool false, .slice none 0 0, .slice none 0 0] 32))
             replace HB0 := Lib.hid (below_then HB0.out hbb)
             clear hb22 hbb))
        generalize w22.alloc (.cells #[.bool false, .slice none 0 0, .slice none 0 0] 32) = W22 at *
        go_wp2_with (first
          | (go_at_call 19; (with_reducible refine (awake21_any _).mono ?_); rintro e24 w24 ⟨rfl, hb24⟩
             replace HB0 := Lib.hid (below_then HB0.out hb24)
             clear hb24))
        go_ret
        exact ⟨rfl, HB.out.trans ((below_then HBR.out HB0.out).mono HB.out.size)⟩
end Go.Proofs.Ytlpdkbmmbdfoiaa
