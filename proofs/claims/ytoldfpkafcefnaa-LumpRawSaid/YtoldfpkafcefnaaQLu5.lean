/-
  package lump: Check, the members' loop.
-/
import Derived.Test.YtoldfpkafcefnaaQLu4
namespace Go.Proofs.Ytoldfpkafcefnaa
set_option linter.unusedVariables false
set_option linter.unusedSimpArgs false
open Go.RowKit

set_option maxRecDepth 100000 in
set_option maxHeartbeats 3200000 in
theorem check_main (va vb : Value) (c : RC) (bl : List Int) (w : World) (ha : ChainN w va c) (hb : IntsV w vb bl) (hok : okB bl) (h0 : 0 < bl.length) (hlen : bl.length = c.start.length) (hv : validP c) :
    Calls Try.prog 16 #[va, vb] w (RSame w (allAgree bl (fun i => bsums bl (rowsQ c i) (cnt bl)) (fun i => c.lost.getD i false))) := by
  obtain ⟨i1, hi1, hz1, hs1, hy1⟩ := info_parts Try.infoRow
  have hM1 := make_E (P := Try.prog) 23 24 i1 _ 24 Try.underlying23 hi1 hz1 hs1 hy1 (by decide) rfl
  obtain ⟨i2, hi2, hz2, hs2, hy2⟩ := info_parts Try.infoBool
  have hM2 := make_E (P := Try.prog) 25 4 i2 _ 1 Try.underlying25 hi2 hz2 hs2 hy2 (by decide) rfl
  clear hi1 hz1 hs1 hy1 hi2 hz2 hs2 hy2
  have hEQ : ∀ (w : World) (a : Option Addr) (n c : Nat), (binOp .eql 24 (.slice a n c) (.slice none 0 0)).run Try.prog w = .ok (.bool a.isNone) w := fun w a n c => by
    rw [Lib.run_eql_slice_nil w 24 50 a n c 0 0 Try.underlying24]
  obtain ⟨rv, sv, lv, rfl, hr, hs, hl⟩ := id ha
  obtain ⟨ra, rn, rk, rfl, r1, r2, r3⟩ := id hr.sl
  obtain ⟨sa, sn, sk, rfl, s1, s2, s3⟩ := id hs.sl
  obtain ⟨la, ln, lk, rfl, l1, l2, l3⟩ := id (CellsV.sl hl)
  have hsl : sn = c.start.length := hs.len
  subst hsl
  have hln : ln = c.lost.length := hl.len
  subst hln
  have sb := CellsV.sl hb
  have lb := hb.len
  have hle := sb.le
  rw [lb] at hle
  have hbl2 : bl.length ≤ 9223372036854775807 := by omega
  have hbl3 : bl.length ≤ 128 := by have := hv; unfold validP at this; omega
  have hcl : cnt bl ≤ bl.length := by have := cnt_le bl bl.length; rwa [List.take_length] at this
  clear hle
  unfold maxLen at s2
  have hbx := below_alloc w (.cells #[.slice ra rn rk, .slice sa c.start.length sk, .slice la c.lost.length lk] 27)
  have hC := C3.new w 27 (.slice ra rn rk) (.slice sa c.start.length sk) (.slice la c.lost.length lk)
  have ha2 := ha.below hbx
  have hb2 := hb.below hbx
  have HA := Lib.hid ha2
  have HOK := Lib.hid hok
  have HV := Lib.hid hv
  have HC := Lib.hid hC
  obtain ⟨_, c0, c1, c2, _, _, _⟩ := id hC
  have HV4 : Hid (c.rates.length = c.start.length) := Lib.hid hv.2.2.2.1
  have HV3 : Hid (c.lost.length = c.start.length) := Lib.hid hv.2.2.1
  have HVR : Hid (∀ i r, c.rates[i]? = some r → rowP r c.start.length) := Lib.hid (fun i r h => (hv.2.2.2.2.2.1 i r h).1)
  clear hC hs ha2 ha hok hv
  generalize c.start.length = sn at *
  subst hlen
  go_enter Try.func16, Try.ntmps16
  go_wp2_with (first
    | (go_at_call 32; (with_reducible refine (count_any _ bl _ hb2).mono ?_); rintro e1 w1 ⟨n1, b1, rfl, rfl, hc1, _⟩; obtain ⟨hn1, hb1⟩ := hc1 HOK.out; obtain rfl : b1 = true := hb1.trans (decide_eq_true h0); subst hn1; clear hc1 hb1)
    | (go_at_call 35; (with_reducible refine (valid_chain _ c _ HA.out).mono ?_); rintro e2 w2 ⟨⟨b2, rfl, hv2⟩, hbel2⟩; obtain rfl : b2 = true := hv2.2 HV.out; clear hv2
       have hC2 := HC.out.belowS hbel2
       obtain ⟨_, c0, c1, c2, _, _, _⟩ := id hC2)
    | (refine hM1 _ rfl _ _ rfl (cnt bl) rfl rfl (by omega) ?_; intro v3 w3 hown3 hbel3)
    | (refine hM2 _ rfl _ _ rfl (cnt bl) rfl rfl (by omega) ?_; intro v4 w4 hown4 hbel4))
  have hb4 := below_then (below_then (below_then hbx hbel2) hbel3) hbel4
  have hpos : 0 < cnt bl := cnt_pos HOK.out h0
  have hk3 := hown3.block (by rw [List.length_replicate]; exact hpos)
  have hk4 := hown4.block (by rw [List.length_replicate]; exact hpos)
  have hB4 := hbel4.size
  have hown3' := hown3.below hbel4
  go_loopw [38] (fun u38 wr => ∃ (k : Nat) (rep : Nat → Nat) (es : List Value) (fs : List Bool), k ≤ bl.length ∧ u38 = .int .i64 k ∧ ChkI c bl 24 4 w2.heap.size w3.heap.size w4.heap.size v3 v4 k rep es fs wr ∧
      w4.heap.size ≤ wr.heap.size ∧ Below w2.heap.size w4 wr) (fun u38 _ => bl.length - (intOf u38).toNat)
  case atStart =>
    exact ⟨0, fun _ => 0, _, _, Nat.zero_le _, rfl, ChkI.start _ hown3' hown4, Nat.le_refl _, Below.refl _ _⟩
  case round =>
    obtain ⟨k, rep, es, fs, hk, rfl, hI, hws, hbr⟩ := hrel
    have HI := Lib.hid hI
    obtain ⟨hH, h3, hel, h4, hfl, hseen, hnew⟩ := hI
    have HH := Lib.hid hH
    have HSEEN := Lib.hid hseen
    have HNEW := Lib.hid hnew
    clear hH hseen hnew
    have hb5 := (below_then (below_then hbel2 hbel3) hbel4).trans (hbr.mono hbel2.size)
    have hcr := HC.out.belowS hb5
    obtain ⟨_, c0, c1, c2, _, _, _⟩ := id hcr
    by_cases hkl : k < bl.length
    · have hbk := (hb2.below hb5).at' k hkl
      have HG : Hid (bl[k]? = some (bl[k]'hkl)) := Lib.hid (List.getElem?_eq_getElem hkl)
      obtain ⟨hb0, hbl⟩ := HOK.out k _ HG.out
      have hbc := HOK.out.lt HG.out
      have hrates : c.rates.length = bl.length := HV4.out
      have hkr : k < c.rates.length := by omega
      obtain ⟨r, hr1, hr2⟩ := ((hr.below hbx).below hb5).at' k hkr
      have HROW := Lib.hid (HVR.out k _ (List.getElem?_eq_getElem hkr))
      have HRQ : Hid (rowsQ c k = qs (c.rates[k]'hkr)) := Lib.hid (by simp [rowsQ, List.getD, List.getElem?_eq_getElem hkr])
      have sr := hr2.sl
      have srl := hr2.len
      generalize c.rates[k]'hkr = row at *
      obtain ⟨b, hbb⟩ : ∃ b : Nat, bl[k]'hkl = (b : Int) := ⟨(bl[k]'hkl).toNat, by omega⟩
      rw [hbb] at hbk hb0 hbl hbc
      have HG2 : Hid (bl[k]? = some (b : Int)) := Lib.hid (by rw [HG.out, hbb])
      clear HG hbb
      have sra : IsSl (.slice ra rn rk) := hr.sl
      have hrn : rn = c.rates.length := hr.len
      have hkrn : (k : Int) < (rn : Nat) := by omega
      have hk0 : (0 : Int) ≤ (k : Int) := by omega
      have hrl : row.length = bl.length := HROW.out.2.1
      have HROW2 : Hid (rowP row row.length) := Lib.hid (by rw [hrl]; exact HROW.out)
      clear hrn hrates
      have sv3 := h3.sl
      have lv3 : slen v3 = cnt bl := by rw [h3.len, hel]
      have sv4 := h4.sl
      have lv4 : slen v4 = cnt bl := by rw [h4.len, List.length_map, hfl]
      have hbn : b < cnt bl := by omega
      have hne34 : (ptr v3 b).block ≠ (base v4).block := by rw [ptr_block]; omega
      have hbi : (b : Int) < (cnt bl : Nat) := by omega
      have hes : b < es.length := by omega
      have hfs : b < (fs.map Value.bool).length := by rw [List.length_map]; omega
      have sl3 : IsSl (.slice la c.lost.length lk) := CellsV.sl hl
      have hlk := (hl.below hbx).below hb5
      have hkl2 : k < c.lost.length := by rw [HV3.out]; exact hkl
      have hkln : (k : Int) < (c.lost.length : Nat) := by omega
      have hlc := hlk.at' k hkl2
      by_cases hnewb : b = cnt (bl.take k)
      · have hE : es[b]'hes = .slice none 0 0 := by
          have := HNEW.out b (by omega) hbn
          rw [List.getElem?_eq_getElem hes] at this
          injection this
        have HB := Lib.hid hnewb
        clear hnewb
        go_wp2_with (first
          | (go_at_call 33; (with_reducible refine (sums_any _ _ row bl _ _ hr2 (hb2.below hb5) hrl HOK.out rfl (by omega) HROW2.out).mono ?_); rintro e5 w5 ⟨v5, rfl, how5, hel5, hbel5⟩; obtain ⟨g5, cs5, rfl, _⟩ := id how5
             have h3 := h3.below hbel5
             have h4 := h4.below hbel5
             have hc3 := h3.cell b hes
             rw [hE] at hc3
             have hf3 := h3.frozen b hes
             have h4' := h4.other (ptr v3 b) (.slice (some ⟨g5, 0, none⟩) (cnt bl) (cnt bl)) hne34
             have hc4 := h4'.cell b hfs
             have hf4 := h4'.frozen b hfs
             have hlc := cell_below hbel5 hlc
             obtain ⟨_, c0, c1, c2, _, _, _⟩ := hcr.belowS hbel5))
        have HF := Lib.hid ((HI.out.below hbel5).fresh HOK.out HG2.out HB.out hne34 (by omega) (by omega) how5 hws rfl hel5 HRQ.out (c.lost[k]'hkl2) (by simp [List.getD, List.getElem?_eq_getElem hkl2]))
        have HBF := Lib.hid (hbr.trans ((hbel5.mono (Nat.le_trans (Nat.le_trans hbel3.size hbel4.size) hws)).trans (HF.out.2 hbel3.size)))
        have HWF := Lib.hid (Nat.le_trans (Nat.le_trans hws hbel5.size) ((HF.out.2 hbel3.size).size))
        go_roundw
        case rel => exact ⟨k + 1, _, _, _, hkl, by go_num, HF.out.1, HWF.out, HBF.out⟩
        case measure => simp [intOf]; omega
      · have hbk : b < cnt (bl.take k) := by omega
        obtain ⟨ga, gn, gk, q1, q2, q3, q4⟩ := HSEEN.out b hbk
        have hE : es[b]'hes = .slice (some ga) gn gk := by
          rw [List.getElem?_eq_getElem hes] at q1
          injection q1
        have hfs2 : b < fs.length := by omega
        have hE4 : (fs.map Value.bool)[b]'hfs = .bool (c.lost.getD (rep b) false) := by
          rw [List.getElem?_eq_getElem hfs2] at q4
          injection q4 with q4
          simp [q4]
        have HLK : Hid (c.lost.getD k false = c.lost[k]'hkl2) := Lib.hid (by simp [List.getD, List.getElem?_eq_getElem hkl2])
        have HBK := Lib.hid hbk
        generalize hm1 : c.lost[k]'hkl2 = m1 at *
        generalize hm2 : c.lost.getD (rep b) false = m2 at *
        have HM1 := Lib.hid hm1
        have HM2 := Lib.hid hm2
        have HQ2 := Lib.hid q2
        clear hm1 hm2 q1 q4 hnewb hbk q2
        go_wp2_with (first
          | (go_at_call 33; (with_reducible refine (sums_any _ _ row bl _ _ hr2 (hb2.below hb5) hrl HOK.out rfl (by omega) HROW2.out).mono ?_); rintro e5 w5 ⟨v5, rfl, how5, hel5, hbel5⟩; obtain ⟨g5, cs5, rfl, _⟩ := id how5
             have hD := below_drew (B := w5.heap.size) w5
             have hb5D := below_then hbel5 hD
             have h3 := h3.below hbel5
             have h4 := h4.below hbel5
             have hc3 := h3.cell b hes
             rw [hE] at hc3
             have hc3D := cell_below hD hc3
             have hc4D := cell_below hD (h4.cell b hfs)
             rw [hE4] at hc4D
             have hlcD := cell_below hb5D hlc
             obtain ⟨_, c0, c1, c2, _, _, _⟩ := hcr.belowS hb5D))
        have hb6 := below_then (below_then hb5 hbel5) hD
        by_cases hmm : m1 = m2
        · subst hmm
          have hmb : (m1 != m1) = false := by simp
          have HN : Hid (alikeQ b (bsums bl (rowsQ c k) (cnt bl)) (bsums bl (rowsQ c (rep b)) (cnt bl)) → ChkI c bl 24 4 w2.heap.size w3.heap.size w4.heap.size v3 v4 (k + 1) rep es fs w5) := Lib.hid (fun h =>
            (HI.out.below hbel5).old HG2.out HBK.out (by rw [HLK.out, HM2.out]) h)
          have hX : FracsC w5.drew (.slice (some ⟨g5, 0, none⟩) (cnt bl) (cnt bl)) (bsums bl (rowsQ c k) (cnt bl)) := by
            refine FracsC.below (how5.fracs (bsums_length _ _ _) (fun j hj => ?_)) hD
            rw [bsums_length] at hj
            rw [bsums_get _ _ _ _ hj, HRQ.out]
            exact hel5 j hj
          have hY := HQ2.out.below hb5D
          have hFit : ∀ i, i < bl.length → ∀ x ∈ bsums bl (rowsQ c i) (cnt bl), fits x := fun i hi x hx => by
            obtain ⟨j, hj, rfl⟩ := List.mem_map.1 hx
            have hir : i < c.rates.length := by rw [HV4.out]; exact hi
            have hrp := HVR.out i _ (List.getElem?_eq_getElem hir)
            have e : rowsQ c i = qs (c.rates[i]'hir) := by simp [rowsQ, List.getD, List.getElem?_eq_getElem hir]
            rw [e]
            have h1 := bsum_fits (bl := bl) (row := qs (c.rates[i]'hir)) bl.length (j : Int) (fun q hq => by
              obtain ⟨x, hx, rfl⟩ := List.mem_map.1 hq
              exact Rat.not_lt.1 (hrp.1 x hx).2.1) hrp.2.2
            rwa [List.take_length, List.take_of_length_le (by rw [qs_length, hrp.2.1]; exact Nat.le_refl _)] at h1
          have hrep := ((HI.out.1).lt b HBK.out).1
          have HFX := Lib.hid (hFit k hkl)
          have HFY := Lib.hid (hFit (rep b) (by omega))
          have HBL : Hid ((bsums bl (rowsQ c k) (cnt bl)).length = (bsums bl (rowsQ c (rep b)) (cnt bl)).length) := Lib.hid (by rw [bsums_length, bsums_length])
          clear hFit
          have HXY := Lib.hid (And.intro hX hY)
          clear hX hY
          have lsl := sl3
          go_region_held3 (fun w' => w'.cell? ⟨w.heap.size, 2, none⟩ = some (.slice la c.lost.length lk) ∧ w'.cell? (ptr (.slice la c.lost.length lk) k) = some (.bool m1) ∧ w'.cell? (ptr v4 b) = some (.bool m1) ∧ w'.cell? (ptr v3 b) = some (.slice (some ga) gn gk)) (exact ⟨c2, hlcD, hc4D, hc3D⟩) (first
            | (go_at_call 36; (with_reducible refine (alike_any _ _ _ _ b _ HXY.out.1 HXY.out.2 HBL.out HFX.out HFY.out).mono ?_); rintro e9 w9 ⟨⟨b9, rfl, hb9⟩, hbel9⟩
               have c2 := cell_below hbel9 c2
               have hlcD := cell_below hbel9 hlcD
               have hc4D := cell_below hbel9 hc4D
               have hc3D := cell_below hbel9 hc3D))
          have HB9 := Lib.hid hb9
          clear hb9
          have hbr9 := below_then (below_then hbel5 hD) hbel9
          by_cases hb9t : b9 = true
          · subst hb9t
            have HF := Lib.hid ((HN.out (HB9.out.1 rfl)).below (below_then hD hbel9))
            have HBF := Lib.hid (hbr.trans (hbr9.mono (Nat.le_trans (Nat.le_trans hbel3.size hbel4.size) hws)))
            have HWF := Lib.hid (Nat.le_trans hws hbr9.size)
            go_wp2_with fail
            go_roundw
            case rel => exact ⟨k + 1, _, _, _, hkl, by go_num, HF.out, HWF.out, HBF.out⟩
            case measure => simp [intOf]; omega
          · obtain rfl : b9 = false := by simpa using hb9t
            have HNA : Hid (¬ allAgree bl (fun i => bsums bl (rowsQ c i) (cnt bl)) (fun i => c.lost.getD i false)) := Lib.hid (HI.out.1.not HG2.out HBK.out (fun h => by
              have := HB9.out.2 h.2
              cases this))
            clear hb9t
            go_wp2_with fail
            go_ret
            exact ⟨⟨false, rfl, fun h => (by cases h), fun h => absurd h HNA.out⟩, below_then (below_then hbx hb5) hbr9⟩
        · have hmb : (m1 != m2) = true := by simpa using hmm
          have hc4 := h4.cell b hfs
          rw [hE4] at hc4
          have hlc5 := cell_below hbel5 hlc
          obtain ⟨_, c0, c1, c2, _, _, _⟩ := hcr.belowS hbel5
          clear hD hb5D hc3D hc4D hlcD hb6
          go_quiet (fail)
          have HNA : Hid (¬ allAgree bl (fun i => bsums bl (rowsQ c i) (cnt bl)) (fun i => c.lost.getD i false)) := Lib.hid (HI.out.1.not HG2.out HBK.out (fun h => by
            have h1 := h.1
            simp only [HLK.out, HM2.out] at h1
            exact hmm h1))
          have hbq := below_then (below_then hb5 hbel5) (below_drewN (B := w5.heap.size) w5 nq)
          clear hmm
          go_wp2_with fail
          go_ret
          exact ⟨⟨false, rfl, fun h => (by cases h), fun h => absurd h HNA.out⟩, below_then hbx hbq⟩
    · obtain rfl : k = bl.length := by omega
      have HAL : Hid (allAgree bl (fun i => bsums bl (rowsQ c i) (cnt bl)) (fun i => c.lost.getD i false)) := Lib.hid (HH.out.all HOK.out (n := cnt bl) (fun i _ => bsums_length _ _ _))
      go_wp2_with fail
      go_ret
      exact ⟨⟨true, rfl, fun _ => HAL.out, fun _ => rfl⟩, below_then hbx hb5⟩
/-- Check. -/
theorem check_any (va vb : Value) (c : RC) (bl : List Int) (w : World) (ha : ChainN w va c) (hb : IntsV w vb bl) : Calls Try.prog 16 #[va, vb] w (RSame w (checkP c bl)) := by
  by_cases h : okB bl ∧ 0 < bl.length ∧ bl.length = c.start.length ∧ validP c
  · obtain ⟨h1, h2, h3, h4⟩ := h
    refine (check_main va vb c bl w ha hb h1 h2 h3 h4).mono ?_
    rintro e w' ⟨⟨b, rfl, h5⟩, h6⟩
    exact ⟨⟨b, rfl, h5.trans ⟨fun h => ⟨h1, h2, h3, h4, h⟩, fun h => h.2.2.2.2⟩⟩, h6⟩
  · refine (check_early va vb c bl w ha hb ?_).mono ?_
    · by_cases h1 : okB bl
      · by_cases h2 : 0 < bl.length
        · by_cases h3 : bl.length = c.start.length
          · exact Or.inr (Or.inr (Or.inr (fun h4 => h ⟨h1, h2, h3, h4⟩)))
          · exact Or.inr (Or.inr (Or.inl h3))
        · exact Or.inr (Or.inl h2)
      · exact Or.inl h1
    · rintro e w' ⟨rfl, h6⟩
      exact ⟨⟨false, rfl, fun h => (by cases h), fun h5 => absurd ⟨h5.1, h5.2.1, h5.2.2.1, h5.2.2.2.1⟩ h⟩, h6⟩
end Go.Proofs.Ytoldfpkafcefnaa
