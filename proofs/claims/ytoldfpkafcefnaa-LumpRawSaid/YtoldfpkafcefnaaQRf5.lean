/-
  package drydockref22: Coarsest.
  Ahead of it: package drydockref22: alike. package drydockref22: Check. Splitting a partition by looking at the members ahead: the plain law. Two coarsest lumpings are one. No program is named here.
-/
import Derived.Test.YtoldfpkafcefnaaQRw4
import Derived.Test.YtoldfpkafcefnaaQRd1
import Derived.Test.YtoldfpkafcefnaaQLu4
import Derived.Test.YtoldfpkafcefnaaQLu5
import Derived.Test.YtoldfpkafcefnaaQLu11
import Derived.Deep.LoopGhost
namespace Go.Proofs.Ytoldfpkafcefnaa
set_option linter.unusedVariables false
set_option linter.unusedSimpArgs false
open Go.RowKit

theorem validP.row {c : RC} (h : validP c) {i : Nat} (hi : i < c.lost.length) : ∃ h2 : i < c.rates.length, (c.rates[i]).length = c.lost.length ∧ rowP c.rates[i] (c.rates[i]).length ∧ rowsQ c i = qs c.rates[i] := by
  obtain ⟨h1, h2, h3, h4, h5, h6, h7⟩ := h
  have hi2 : i < c.rates.length := by omega
  obtain ⟨r1, _⟩ := h6 i _ (List.getElem?_eq_getElem hi2)
  have hl : (c.rates[i]).length = c.start.length := r1.2.1
  refine ⟨hi2, by rw [hl, h3], by rw [hl]; exact r1, ?_⟩
  unfold rowsQ
  simp only [List.getD, List.getElem?_eq_getElem hi2, Option.getD_some]
theorem rate_row (va vb : Value) (c : RC) (bl : List Int) (i : Nat) (z : Int) (w : World) (ha : ChainN w va c) (hb : IntsV w vb bl) (hv : validP c) (hlen : bl.length = c.lost.length) (hi : i < bl.length) :
    Calls Try.prog 48 #[va, vb, .int .i64 i, .int .i64 z] w (RF1 w (bsum bl (rowsQ c i) z)) := by
  obtain ⟨h1, h2, h3, h4⟩ := hv.row (i := i) (by omega)
  rw [h4]
  exact rate_any va vb c bl i z w ha hb h1 (by omega) h3
theorem row_fits {c : RC} (hv : validP c) {bl : List Int} (hlen : bl.length = c.lost.length) {i : Nat} (hi : i < bl.length) (z : Int) : fits (bsum bl (rowsQ c i) z) := by
  obtain ⟨h1, h2, h3, h4⟩ := hv.row (i := i) (by omega)
  have := bsum_fits_row (bl := bl) h3 bl.length z
  rw [h4]
  rwa [List.take_length, List.take_of_length_le (by rw [qs_length]; omega)] at this
set_option maxRecDepth 100000 in
set_option maxHeartbeats 3200000 in
theorem ralike_any (va vb : Value) (c : RC) (bl : List Int) (n i j : Nat) (w : World) (ha : ChainN w va c) (hb : IntsV w vb bl) (hv : validP c) (hlen : bl.length = c.lost.length) (hi : i < bl.length) (hj : j < bl.length) (hn : n ≤ 128) :
    Calls Try.prog 47 #[va, vb, .int .i64 n, .int .i64 i, .int .i64 j] w (RSame w (alikeQ bl[i] (bsums bl (rowsQ c i) n) (bsums bl (rowsQ c j) n))) := by
  obtain ⟨rv, sv, lv, rfl, hr, hs, hl⟩ := id ha
  obtain ⟨ra, rn, rk, rfl, r1, r2, r3⟩ := id hr.sl
  obtain ⟨sa, sn, sk, rfl, s1, s2, s3⟩ := id hs.sl
  obtain ⟨la, ln, lk, rfl, l1, l2, l3⟩ := id (CellsV.sl hl)
  have sb := CellsV.sl hb
  have lb := hb.len
  have hle := sb.le
  rw [lb] at hle
  have hlb : bl.length ≤ 9223372036854775807 := by omega
  have hbx := below_alloc w (.cells #[.slice ra rn rk, .slice sa sn sk, .slice la ln lk] 27)
  have HC := Lib.hid (C3.new w 27 (.slice ra rn rk) (.slice sa sn sk) (.slice la ln lk))
  have HA := Lib.hid ha
  have HV := Lib.hid hv
  have HLEN := Lib.hid hlen
  have HI := Lib.hid hi
  have HJ := Lib.hid hj
  have HBG : Hid (bl[i]? = some bl[i]) := Lib.hid (List.getElem?_eq_getElem hi)
  have hbi := hb.at' i hi
  have i1 : (0 : Int) ≤ (i : Int) := by omega
  have i2 : (i : Int) < (bl.length : Nat) := by omega
  generalize bl[i]'hi = own at *
  clear ha hr hs hl hle hlen hi hj
  go_enter Try.func47, Try.ntmps47
  go_wp2_with fail
  generalize w.alloc (.cells #[.slice ra rn rk, .slice sa sn sk, .slice la ln lk] 27) = W at *
  go_loopw [11] (fun u11 wr => ∃ (k : Nat), k ≤ n ∧ u11 = .int .i64 k ∧ (∀ (x : Nat), x < k → (x : Int) ≠ own → bsum bl (rowsQ c i) x = bsum bl (rowsQ c j) x) ∧ Below W.heap.size W wr) (fun u11 _ => n - (intOf u11).toNat)
  case atStart => exact ⟨0, Nat.zero_le _, rfl, fun x h => by omega, Below.refl _ _⟩
  case round =>
    obtain ⟨k, hk, rfl, hst, hbr⟩ := hrel
    have HST := Lib.hid hst
    have HBR := Lib.hid hbr
    have hbr2 := below_then hbx hbr
    have HBR2 := Lib.hid hbr2
    clear hst
    by_cases hkn : k < n
    · have hbc := cell_below hbr2 hbi
      have hC := HC.out.belowS hbr
      by_cases ho : own = (k : Int)
      · subst ho
        have HNX : Hid (∀ (x : Nat), x < k + 1 → (x : Int) ≠ (k : Int) → bsum bl (rowsQ c i) x = bsum bl (rowsQ c j) x) := Lib.hid (fun x hx hxo => HST.out x (by omega) hxo)
        clear hC
        go_wp2_with fail
        go_quiet (fail)
        have hbN := below_then HBR.out (below_drewN (B := wr.heap.size) wr nq)
        clear hbc
        go_wp2_with fail
        go_roundw
        case rel => exact ⟨k + 1, hkn, by go_num, HNX.out, hbN⟩
        case measure => simp [intOf]; omega
      · obtain ⟨o, rfl⟩ := ex_oth ho
        have HO := Lib.hid ho
        clear ho
        obtain ⟨_, c0, c1, c2, _, _, _⟩ := id hC
        have hD := below_drew (B := wr.heap.size) wr
        have hbc := cell_below hD hbc
        have c0 := cell_below hD c0
        have c1 := cell_below hD c1
        have c2 := cell_below hD c2
        have HAD := Lib.hid (HA.out.below (below_then HBR2.out hD))
        have HBD := Lib.hid (hb.below (below_then HBR2.out hD))
        have HBRD := Lib.hid (below_then HBR.out hD)
        clear hC hbr hbr2 hD
        go_wp2_with fail
        go_region_held3 (fun w' => w'.cell? (ptr vb i) = some (.int .i64 (oth (k : Int) o)) ∧ w'.cell? ⟨w.heap.size, 0, none⟩ = some (.slice ra rn rk) ∧ w'.cell? ⟨w.heap.size, 1, none⟩ = some (.slice sa sn sk) ∧ w'.cell? ⟨w.heap.size, 2, none⟩ = some (.slice la ln lk)) (exact ⟨hbc, c0, c1, c2⟩) (first
          | (go_at_call 48; (with_reducible refine (rate_row _ _ c bl i k _ HAD.out HBD.out HV.out HLEN.out HI.out).mono ?_); rintro e1 w1 ⟨v1, rfl, hv1, hb1⟩
             have HF1 := Lib.hid (row_fits HV.out HLEN.out HI.out (k : Int))
             have hbc := cell_below hb1 hbc
             have c0 := cell_below hb1 c0
             have c1 := cell_below hb1 c1
             have c2 := cell_below hb1 c2)
          | (go_at_call 48; (with_reducible refine (rate_row _ _ c bl j k _ (HAD.out.below hb1) (HBD.out.below hb1) HV.out HLEN.out HJ.out).mono ?_); rintro e2 w2 ⟨v2, rfl, hv2, hb2⟩
             have HF2 := Lib.hid (row_fits HV.out HLEN.out HJ.out (k : Int))
             have hbc := cell_below hb2 hbc
             have c0 := cell_below hb2 c0
             have c1 := cell_below hb2 c1
             have c2 := cell_below hb2 c2)
          | (go_at_call 77; (with_reducible refine (FracC.same (hv1.below hb2) hv2 HF1.out HF2.out).mono ?_); rintro e3 w3 ⟨rfl, hb3⟩
             have hbc := cell_below hb3 hbc
             have c0 := cell_below hb3 c0
             have c1 := cell_below hb3 c1
             have c2 := cell_below hb3 c2))
        have hbE := below_then (below_then (below_then HBRD.out hb1) hb2) hb3
        have HBX := Lib.hid hbx
        clear hbc c0 c1 c2 hv1 hv2 HF1 HF2
        have HQ : Hid (decide (bsum bl (rowsQ c i) (k : Int) = bsum bl (rowsQ c j) (k : Int)) = true ↔ bsum bl (rowsQ c i) (k : Int) = bsum bl (rowsQ c j) (k : Int)) := Lib.hid decide_eq_true_iff
        generalize decide (bsum bl (rowsQ c i) (k : Int) = bsum bl (rowsQ c j) (k : Int)) = b at *
        cases b
        · have HN : Hid (¬ alikeQ (oth (k : Int) o) (bsums bl (rowsQ c i) n) (bsums bl (rowsQ c j) n)) := Lib.hid (fun h => by
            have := HQ.out.2 (h k _ _ (fun e => oth_ne _ _ e.symm) (by rw [List.getElem?_eq_getElem (by rw [bsums_length]; exact hkn), bsums_get _ _ _ _ hkn]) (by rw [List.getElem?_eq_getElem (by rw [bsums_length]; exact hkn), bsums_get _ _ _ _ hkn]))
            cases this)
          go_wp2_with fail
          go_ret
          exact ⟨⟨false, rfl, by simp, fun h => absurd h HN.out⟩, below_then HBX.out hbE⟩
        · have HNX : Hid (∀ (x : Nat), x < k + 1 → (x : Int) ≠ oth (k : Int) o → bsum bl (rowsQ c i) x = bsum bl (rowsQ c j) x) := Lib.hid (fun x hx hxo => by
            rcases Nat.lt_or_ge x k with h6 | h6
            · exact HST.out x h6 hxo
            · obtain rfl : x = k := by omega
              exact HQ.out.1 rfl)
          go_wp2_with fail
          go_roundw
          case rel => exact ⟨k + 1, hkn, by go_num, HNX.out, hbE⟩
          case measure => simp [intOf]; omega
    · obtain rfl : k = n := by omega
      have HY : Hid (alikeQ own (bsums bl (rowsQ c i) k) (bsums bl (rowsQ c j) k)) := Lib.hid (fun x p q hx hp hq => by
        have h1 := (List.getElem?_eq_some_iff.1 hp).1
        rw [bsums_length] at h1
        rw [List.getElem?_eq_getElem (by rw [bsums_length]; exact h1), bsums_get _ _ _ _ h1] at hp hq
        injection hp with hp
        injection hq with hq
        rw [← hp, ← hq]
        exact HST.out x h1 hx)
      go_wp2_with fail
      go_ret
      exact ⟨⟨true, rfl, fun _ => HY.out, fun _ => rfl⟩, HBR2.out⟩
end Go.Proofs.Ytoldfpkafcefnaa
namespace Go.Proofs.Ytoldfpkafcefnaa
set_option linter.unusedVariables false
set_option linter.unusedSimpArgs false
open Go.RowKit

/-- Two states of one block agree. -/
def pairP (c : RC) (bl : List Int) (i j : Nat) : Prop := ∀ b, bl[i]? = some b → bl[j]? = some b → c.lost.getD i false = c.lost.getD j false ∧ alikeQ b (bsums bl (rowsQ c i) (cnt bl)) (bsums bl (rowsQ c j) (cnt bl))
theorem check_pairs {c : RC} {bl : List Int} (hok : okB bl) (hlen : bl.length = c.start.length) (hv : validP c) : checkP c bl ↔ ∀ i j, j < i → i < bl.length → pairP c bl i j := by
  constructor
  · intro h i j hji hi b h1 h2
    exact h.2.2.2.2 i j b h1 h2
  · intro h
    refine ⟨hok, by have := hv.1; omega, hlen, hv, fun i j b h1 h2 => ?_⟩
    have hi := (List.getElem?_eq_some_iff.1 h1).1
    have hj := (List.getElem?_eq_some_iff.1 h2).1
    rcases Nat.lt_trichotomy i j with h3 | h3 | h3
    · have := h j i h3 hj b h2 h1
      exact ⟨this.1.symm, this.2.symm⟩
    · subst h3; exact ⟨rfl, alikeQ.refl _ _⟩
    · exact h i j h3 hi b h1 h2
set_option maxRecDepth 100000 in
set_option maxHeartbeats 1600000 in
theorem rcheck_early (va vb : Value) (c : RC) (bl : List Int) (w : World) (ha : ChainN w va c) (hb : IntsV w vb bl) (h : ¬ validP c ∨ ¬ (okB bl ∧ bl.length = c.start.length)) :
    Calls Try.prog 26 #[va, vb] w (RSame w (checkP c bl)) := by
  obtain ⟨rv, sv, lv, rfl, hr, hs, hl⟩ := id ha
  obtain ⟨ra, rn, rk, rfl, r1, r2, r3⟩ := id hr.sl
  obtain ⟨sa, sn, sk, rfl, s1, s2, s3⟩ := id hs.sl
  obtain ⟨la, ln, lk, rfl, l1, l2, l3⟩ := id (CellsV.sl hl)
  have hsn : sn = c.start.length := hs.len
  subst hsn
  have HN : Hid (¬ checkP c bl) := Lib.hid (fun hc => by
    rcases h with h | h
    · exact h hc.2.2.2.1
    · exact h ⟨hc.1, hc.2.2.1⟩)
  have hbx := below_alloc w (.cells #[.slice ra rn rk, .slice sa c.start.length sk, .slice la ln lk] 27)
  have HA := Lib.hid (ha.below hbx)
  have HB := Lib.hid (hb.below hbx)
  have hC := C3.new w 27 (.slice ra rn rk) (.slice sa c.start.length sk) (.slice la ln lk)
  have HC := Lib.hid hC
  obtain ⟨_, c0, c1, c2, _, _, _⟩ := id hC
  clear hC hr hs hl ha
  by_cases hv : validP c
  · have HV := Lib.hid hv
    have HP : Hid (¬ (okB bl ∧ bl.length = c.start.length)) := Lib.hid (h.resolve_left (fun h => h hv))
    clear hv h
    go_enter Try.func26, Try.ntmps26
    go_wp2_with (first
      | (go_at_call 46; (with_reducible refine (rvalid_chain _ c _ HA.out).mono ?_); rintro e2 w2 ⟨⟨b2, rfl, hv2⟩, hbel2⟩; obtain rfl : b2 = true := hv2.2 HV.out; clear hv2
         obtain ⟨_, c0, c1, c2, _, _, _⟩ := HC.out.belowS hbel2)
      | (go_at_call 42; (with_reducible refine (part_any _ bl c.start.length _ (HB.out.below hbel2)).mono ?_); rintro e3 w3 ⟨⟨b3, rfl, hv3⟩, hbel3⟩; obtain rfl : b3 = false := Bool.eq_false_iff.2 (fun h => HP.out (hv3.1 h)); clear hv3))
    go_ret
    exact ⟨⟨_, rfl, by simp, fun h => absurd h HN.out⟩, below_then (below_then hbx hbel2) hbel3⟩
  · have HV := Lib.hid hv
    clear hv h
    go_enter Try.func26, Try.ntmps26
    go_wp2_with (first
      | (go_at_call 46; (with_reducible refine (rvalid_chain _ c _ HA.out).mono ?_); rintro e2 w2 ⟨⟨b2, rfl, hv2⟩, hbel2⟩; obtain rfl : b2 = false := Bool.eq_false_iff.2 (fun h => HV.out (hv2.1 h)); clear hv2))
    go_ret
    exact ⟨⟨_, rfl, by simp, fun h => absurd h HN.out⟩, below_then hbx hbel2⟩
set_option maxRecDepth 100000 in
set_option maxHeartbeats 3200000 in
theorem rcheck_main (va vb : Value) (c : RC) (bl : List Int) (w : World) (ha : ChainN w va c) (hb : IntsV w vb bl) (hv : validP c) (hok : okB bl) (hlen : bl.length = c.start.length) :
    Calls Try.prog 26 #[va, vb] w (RSame w (checkP c bl)) := by
  obtain ⟨rv, sv, lv, rfl, hr, hs, hl⟩ := id ha
  obtain ⟨ra, rn, rk, rfl, r1, r2, r3⟩ := id hr.sl
  obtain ⟨sa, sn, sk, rfl, s1, s2, s3⟩ := id hs.sl
  obtain ⟨la, ln, lk, rfl, l1, l2, l3⟩ := id (CellsV.sl hl)
  have hsn : sn = bl.length := hs.len.trans hlen.symm
  subst hsn
  have hll : c.lost.length = bl.length := hv.2.2.1.trans hlen.symm
  have hln : ln = bl.length := hl.len.trans hll
  subst hln
  have sl3 : IsSl (.slice la bl.length lk) := CellsV.sl hl
  have sb := CellsV.sl hb
  have lb := hb.len
  have hn128 : bl.length ≤ 128 := by have := hv.2.1; omega
  have hcn : cnt bl ≤ 128 := by have := cnt_le bl bl.length; rw [List.take_length] at this; omega
  have HP := Lib.hid (check_pairs hok hlen hv)
  have hbx := below_alloc w (.cells #[.slice ra rn rk, .slice sa bl.length sk, .slice la bl.length lk] 27)
  have HA := Lib.hid (ha.below hbx)
  have HB := Lib.hid (hb.below hbx)
  have HL := Lib.hid (hl.below hbx)
  have hC := C3.new w 27 (.slice ra rn rk) (.slice sa bl.length sk) (.slice la bl.length lk)
  have HC := Lib.hid hC
  have HV := Lib.hid hv
  have HOK := Lib.hid hok
  have HLEN := Lib.hid hlen
  have HLL := Lib.hid hll
  have HCN := Lib.hid hcn
  have HPT : Hid (∀ e, okB bl ∧ bl.length = e → okB bl ∧ bl.length = e) := Lib.hid (fun e h => h)
  obtain ⟨_, c0, c1, c2, _, _, _⟩ := id hC
  clear hC hr hs hl ha hv hok hlen hll hcn
  go_enter Try.func26, Try.ntmps26
  go_wp2_with (first
    | (go_at_call 46; (with_reducible refine (rvalid_chain _ c _ HA.out).mono ?_); rintro e2 w2 ⟨⟨b2, rfl, hv2⟩, hbel2⟩; obtain rfl : b2 = true := hv2.2 HV.out; clear hv2
       obtain ⟨_, c0, c1, c2, _, _, _⟩ := HC.out.belowS hbel2)
    | (go_at_call 42; (with_reducible refine (part_any _ bl bl.length _ (HB.out.below hbel2)).mono ?_); rintro e3 w3 ⟨⟨b3, rfl, hv3⟩, hbel3⟩; obtain rfl : b3 = true := hv3.2 ⟨HOK.out, rfl⟩; clear hv3)
    | (go_at_call 44; (with_reducible refine (rcount_any _ bl _ (HB.out.below (below_then hbel2 hbel3)) HOK.out).mono ?_); rintro e4 w4 ⟨rfl, rfl⟩))
  have hb3 := below_then hbel2 hbel3
  have HBX := Lib.hid (below_then hbx hb3)
  have HA3 := Lib.hid (HA.out.below hb3)
  have HB3 := Lib.hid (HB.out.below hb3)
  have HL3 := Lib.hid (HL.out.below hb3)
  have HC3 := Lib.hid (HC.out.belowS hb3)
  clear c0 c1 c2 hb3 hbel2 hbel3 hbx
  go_loopw [6] (fun u6 wr => ∃ (i : Nat), i ≤ bl.length ∧ u6 = .int .i64 i ∧ (∀ x y, y < x → x < i → pairP c bl x y) ∧ Below w3.heap.size w3 wr) (fun u6 _ => bl.length - (intOf u6).toNat)
  case atStart => exact ⟨0, Nat.zero_le _, rfl, fun x y h1 h2 => by omega, Below.refl _ _⟩
  case round =>
    obtain ⟨i, hi, rfl, hst, hbr⟩ := hrel
    have HST := Lib.hid hst
    have HBR := Lib.hid hbr
    clear hst
    by_cases hil : i < bl.length
    · go_wp2_with fail
      go_loopw [7] (fun u7 wi => ∃ (j : Nat), j ≤ i ∧ u7 = .int .i64 j ∧ (∀ y, y < j → pairP c bl i y) ∧ Below w3.heap.size w3 wi) (fun u7 _ => i - (intOf u7).toNat)
      case atStart => exact ⟨0, Nat.zero_le _, rfl, fun y h => by omega, hbr⟩
      case round =>
        obtain ⟨j, hj, rfl, hst2, hbr2⟩ := hrel
        have HST2 := Lib.hid hst2
        clear hst2
        by_cases hji : j < i
        · have hjl : j < bl.length := by omega
          have hlj : j < c.lost.length := by rw [HLL.out]; exact hjl
          have hli : i < c.lost.length := by rw [HLL.out]; exact hil
          have a1 := (HB3.out.below hbr2).at' i hil
          have a2 := (HB3.out.below hbr2).at' j hjl
          have b1 := (HL3.out.below hbr2).at' i hli
          have b2 := (HL3.out.below hbr2).at' j hlj
          have HG1 : Hid (bl[i]? = some (bl[i]'hil)) := Lib.hid (List.getElem?_eq_getElem hil)
          have HG2 : Hid (bl[j]? = some (bl[j]'hjl)) := Lib.hid (List.getElem?_eq_getElem hjl)
          have HG3 : Hid (c.lost.getD i false = c.lost[i]'hli) := Lib.hid (by simp [List.getD, List.getElem?_eq_getElem hli])
          have HG4 : Hid (c.lost.getD j false = c.lost[j]'hlj) := Lib.hid (by simp [List.getD, List.getElem?_eq_getElem hlj])
          have HNX : Hid (pairP c bl i j → ∀ y, y < j + 1 → pairP c bl i y) := Lib.hid (fun h y hy => by
            rcases Nat.lt_or_ge y j with h6 | h6
            · exact HST2.out y h6
            · obtain rfl : y = j := by omega
              exact h)
          have HBD : Hid (¬ pairP c bl i j → ¬ checkP c bl) := Lib.hid (fun h h' => h ((HP.out.1 h') i j hji hil))
          have HIL := Lib.hid hil
          have HJL := Lib.hid hjl
          generalize hx1 : bl[i]'hil = x1 at *
          generalize bl[j]'hjl = x2 at *
          have HX1 := Lib.hid hx1
          generalize c.lost[i]'hli = o1 at *
          generalize c.lost[j]'hlj = o2 at *
          have i1 : (0 : Int) ≤ (i : Int) := by omega
          have i2 : (i : Int) < (bl.length : Nat) := by omega
          have i3 : (0 : Int) ≤ (j : Int) := by omega
          have i4 : (j : Int) < (bl.length : Nat) := by omega
          obtain ⟨_, c0, c1, c2, _, _, _⟩ := HC3.out.belowS hbr2
          clear hlj hli hx1
          by_cases hx : x1 = x2
          · have HX := Lib.hid hx
            by_cases ho : o1 = o2
            · subst hx ho
              have hD := below_drew (B := wr.heap.size) wr
              have a1 := cell_below hD a1
              have a2 := cell_below hD a2
              have b1 := cell_below hD b1
              have b2 := cell_below hD b2
              have c0 := cell_below hD c0
              have c1 := cell_below hD c1
              have c2 := cell_below hD c2
              have hbD := below_then hbr2 hD
              go_wp2_with fail
              go_region_held3 (fun w' => w'.cell? (ptr vb i) = some (.int .i64 x1) ∧ w'.cell? (ptr vb j) = some (.int .i64 x1) ∧ w'.cell? (ptr (.slice la bl.length lk) i) = some (.bool o1) ∧ w'.cell? (ptr (.slice la bl.length lk) j) = some (.bool o1) ∧ w'.cell? ⟨w.heap.size, 0, none⟩ = some (.slice ra rn rk) ∧ w'.cell? ⟨w.heap.size, 1, none⟩ = some (.slice sa bl.length sk) ∧ w'.cell? ⟨w.heap.size, 2, none⟩ = some (.slice la bl.length lk)) (exact ⟨a1, a2, b1, b2, c0, c1, c2⟩) (first
                | (go_at_call 47; (with_reducible refine (ralike_any _ _ c bl (cnt bl) i j _ (HA3.out.below hbD) (HB3.out.below hbD) HV.out HLL.out.symm HIL.out HJL.out HCN.out).mono ?_); rintro e8 w8 ⟨⟨b8, rfl, hb8⟩, hb8b⟩; rw [HX1.out] at hb8
                   have HB8 := Lib.hid hb8
                   clear hb8
                   have a1 := cell_below hb8b a1
                   have a2 := cell_below hb8b a2
                   have b1 := cell_below hb8b b1
                   have b2 := cell_below hb8b b2
                   have c0 := cell_below hb8b c0
                   have c1 := cell_below hb8b c1
                   have c2 := cell_below hb8b c2))
              have hbE := below_then hbD hb8b
              clear a1 a2 b1 b2 c0 c1 c2
              cases b8
              · have HN := Lib.hid (HBD.out (fun h => by have := HB8.out.2 (h x1 HG1.out HG2.out).2; cases this))
                go_wp2_with fail
                go_ret
                exact ⟨⟨_, rfl, by simp, fun h => absurd h HN.out⟩, below_then HBX.out hbE⟩
              · have HY := Lib.hid (HNX.out (fun b h1 h2 => by
                  rw [HG1.out] at h1
                  injection h1 with h1
                  subst h1
                  exact ⟨by rw [HG3.out, HG4.out], HB8.out.1 rfl⟩))
                go_wp2_with fail
                go_roundw
                case rel => exact ⟨j + 1, by omega, by go_num, HY.out, hbE⟩
                case measure => simp [intOf]; omega
            · have hb1 : (x1 == x2) = true := by simp [hx]
              have HN := Lib.hid (HBD.out (fun h => ho (by rw [← HG3.out, ← HG4.out]; exact (h x1 HG1.out (by rw [HG2.out, hx])).1)))
              obtain rfl : o2 = !o1 := by revert ho; cases o1 <;> cases o2 <;> simp
              clear hx ho
              cases o1
              · simp only [Bool.not_false] at b2
                go_wp2_with fail
                go_quiet (fail)
                have hbN := below_then hbr2 (below_drewN (B := wr.heap.size) wr nq)
                clear a1 a2 b1 b2
                go_wp2_with fail
                go_ret
                exact ⟨⟨_, rfl, by simp, fun h => absurd h HN.out⟩, below_then HBX.out hbN⟩
              · simp only [Bool.not_true] at b2
                go_wp2_with fail
                go_quiet (fail)
                have hbN := below_then hbr2 (below_drewN (B := wr.heap.size) wr nq)
                clear a1 a2 b1 b2
                go_wp2_with fail
                go_ret
                exact ⟨⟨_, rfl, by simp, fun h => absurd h HN.out⟩, below_then HBX.out hbN⟩
          · have hb1 : (x1 == x2) = false := by simpa using hx
            have HY := Lib.hid (HNX.out (fun b h1 h2 => by
              rw [HG1.out] at h1
              rw [HG2.out] at h2
              exact absurd ((Option.some.inj h1).trans (Option.some.inj h2).symm) hx))
            clear hx
            go_wp2_with fail
            go_quiet (fail)
            have hbN := below_then hbr2 (below_drewN (B := wr.heap.size) wr nq)
            clear a1 a2 b1 b2
            go_wp2_with fail
            go_roundw
            case rel => exact ⟨j + 1, by omega, by go_num, HY.out, hbN⟩
            case measure => simp [intOf]; omega
        · obtain rfl : j = i := by omega
          have HY : Hid (∀ x y, y < x → x < j + 1 → pairP c bl x y) := Lib.hid (fun x y h1 h2 => by
            rcases Nat.lt_or_ge x j with h6 | h6
            · exact HST.out x y h1 h6
            · obtain rfl : x = j := by omega
              exact HST2.out y h1)
          go_wp2_with fail
          go_roundw
          case rel => exact ⟨j + 1, hil, by go_num, HY.out, hbr2⟩
          case measure => simp [intOf]; omega
    · obtain rfl : i = bl.length := by omega
      have HY : Hid (checkP c bl) := Lib.hid (HP.out.2 (fun x y h1 h2 => HST.out x y h1 h2))
      go_wp2_with fail
      go_ret
      exact ⟨⟨_, rfl, fun _ => HY.out, fun _ => rfl⟩, below_then HBX.out hbr⟩
theorem rcheck_any (va vb : Value) (c : RC) (bl : List Int) (w : World) (ha : ChainN w va c) (hb : IntsV w vb bl) : Calls Try.prog 26 #[va, vb] w (RSame w (checkP c bl)) := by
  by_cases hv : validP c
  · by_cases hp : okB bl ∧ bl.length = c.start.length
    · exact rcheck_main va vb c bl w ha hb hv hp.1 hp.2
    · exact rcheck_early va vb c bl w ha hb (Or.inr hp)
  · exact rcheck_early va vb c bl w ha hb (Or.inl hv)
end Go.Proofs.Ytoldfpkafcefnaa
namespace Go.Proofs.Ytoldfpkafcefnaa
set_option linter.unusedVariables false

/-- Members i and j stay together. -/
def simP (bl : List Int) (f : Nat → List Rat) (i j : Nat) : Prop := ∃ a, bl[i]? = some a ∧ bl[j]? = some a ∧ alikeQ a (f i) (f j)
theorem simP.symm {bl : List Int} {f : Nat → List Rat} {i j : Nat} (h : simP bl f i j) : simP bl f j i := by
  obtain ⟨a, h1, h2, h3⟩ := h; exact ⟨a, h2, h1, h3.symm⟩
theorem simP.trans {bl : List Int} {f : Nat → List Rat} {n : Nat} (hf : ∀ i, (f i).length = n) {i j k : Nat} (h : simP bl f i j) (h' : simP bl f j k) : simP bl f i k := by
  obtain ⟨a, h1, h2, h3⟩ := h
  obtain ⟨b, g1, g2, g3⟩ := h'
  rw [h2] at g1
  injection g1 with g1
  subst g1
  exact ⟨a, h1, g2, h3.trans g3 (by rw [hf, hf])⟩
theorem simP.refl {bl : List Int} {f : Nat → List Rat} {i : Nat} (h : i < bl.length) : simP bl f i i := ⟨bl[i], List.getElem?_eq_getElem h, List.getElem?_eq_getElem h, alikeQ.refl _ _⟩
/-- Behind k members, m numbers given. -/
structure FinI (bl : List Int) (f : Nat → List Rat) (k m : Nat) (es : List Int) : Prop where
  len : es.length = bl.length
  ok : okB (es.take k)
  num : m = cnt (es.take k)
  eqv : ∀ i j, i < k → j < k → (es[i]? = es[j]? ↔ simP bl f i j)
/-- Member k against the first t. -/
structure FinJ (bl : List Int) (f : Nat → List Rat) (k m t : Nat) (es : List Int) : Prop where
  i : FinI bl f k m es
  lt : k < bl.length
  z : ∃ z : Int, es[k]? = some z ∧ ((z = -1 ∧ ∀ j, j < t → ¬ simP bl f k j) ∨ (0 ≤ z ∧ ∃ j, j < k ∧ simP bl f k j ∧ es[j]? = some z))
theorem FinI.zero (bl : List Int) (f : Nat → List Rat) : FinI bl f 0 0 (List.replicate bl.length 0) :=
  ⟨by simp, fun k b h => by simp at h, by simp [cnt], fun i j h => by omega⟩
theorem FinI.over {bl : List Int} {f : Nat → List Rat} {k m : Nat} {es : List Int} (h : FinI bl f k m es) (x : Int) : FinI bl f k m (es.set k x) := by
  have e : (es.set k x).take k = es.take k := by rw [List.take_set_of_le (Nat.le_refl _)]
  exact ⟨by rw [List.length_set]; exact h.len, by rw [e]; exact h.ok, by rw [e]; exact h.num, fun i j hi hj => by
    rw [List.getElem?_set_ne (by omega), List.getElem?_set_ne (by omega)]; exact h.eqv i j hi hj⟩
theorem FinI.mark {bl : List Int} {f : Nat → List Rat} {k m : Nat} {es : List Int} (h : FinI bl f k m es) (hk : k < bl.length) : FinJ bl f k m 0 (es.set k (-1)) :=
  ⟨h.over _, hk, -1, List.getElem?_set_self (by rw [h.len]; exact hk), Or.inl ⟨rfl, fun j hj => by omega⟩⟩
theorem FinI.nn {bl : List Int} {f : Nat → List Rat} {k m : Nat} {es : List Int} (h : FinI bl f k m es) {j : Nat} {x : Int} (hj : j < k) (hx : es[j]? = some x) : 0 ≤ x ∧ x < (m : Int) := by
  have h1 := h.ok.lt (b := x) (k := j) (by rw [List.getElem?_take_of_lt hj]; exact hx)
  rw [h.num]; exact h1
theorem FinJ.hit {bl : List Int} {f : Nat → List Rat} {k m t : Nat} {es : List Int} (h : FinJ bl f k m t es) (ht : t < k) (hs : simP bl f k t) {x : Int} (hx : es[t]? = some x) : FinJ bl f k m (t + 1) (es.set k x) :=
  ⟨h.i.over _, h.lt, x, List.getElem?_set_self (by rw [h.i.len]; exact h.lt), Or.inr ⟨(h.i.nn ht hx).1, t, ht, hs, by rw [List.getElem?_set_ne (by omega)]; exact hx⟩⟩
theorem FinJ.miss {bl : List Int} {f : Nat → List Rat} {k m t : Nat} {es : List Int} (h : FinJ bl f k m t es) (hs : ¬ simP bl f k t) : FinJ bl f k m (t + 1) es := by
  obtain ⟨h1, h2, z, h3, h4⟩ := h
  refine ⟨h1, h2, z, h3, ?_⟩
  rcases h4 with ⟨h5, h6⟩ | h4
  · refine Or.inl ⟨h5, fun j hj => ?_⟩
    by_cases hjt : j = t
    · subst hjt; exact hs
    · exact h6 j (by omega)
  · exact Or.inr h4
theorem FinJ.neg {bl : List Int} {f : Nat → List Rat} {k m : Nat} {es : List Int} (h : FinJ bl f k m k es) {z : Int} (hz : es[k]? = some z) (hn : z < 0) : FinI bl f (k + 1) (m + 1) (es.set k (m : Int)) := by
  obtain ⟨h1, h2, z', h3, h4⟩ := h
  rw [hz] at h3
  injection h3 with h3
  subst h3
  have hno : ∀ j, j < k → ¬ simP bl f k j := by
    rcases h4 with ⟨_, h6⟩ | ⟨h5, _⟩
    · exact h6
    · omega
  have hkl : k < es.length := by rw [h1.len]; exact h2
  have et : (es.set k (m : Int)).take (k + 1) = es.take k ++ [(m : Int)] := by
    rw [take_snoc _ k (by rw [List.length_set]; exact hkl), List.getElem_set_self, List.take_set_of_le (Nat.le_refl _)]
  refine ⟨by rw [List.length_set]; exact h1.len, ?_, ?_, fun i j hi hj => ?_⟩
  · rw [et]; exact okB_snoc h1.ok (by omega) (by rw [h1.num]; exact Int.le_refl _)
  · rw [et, cnt_snoc, ← h1.num, if_pos rfl]
  · have get : ∀ x, x < k → (es.set k (m : Int))[x]? = es[x]? ∧ ∃ y, es[x]? = some y ∧ y < (m : Int) := fun x hx => by
      have hxl : x < es.length := by omega
      exact ⟨List.getElem?_set_ne (by omega), _, List.getElem?_eq_getElem hxl, (h1.nn hx (List.getElem?_eq_getElem hxl)).2⟩
    have getk : (es.set k (m : Int))[k]? = some (m : Int) := List.getElem?_set_self hkl
    rcases Nat.lt_or_ge i k with hi2 | hi2
    · rcases Nat.lt_or_ge j k with hj2 | hj2
      · rw [(get i hi2).1, (get j hj2).1]; exact h1.eqv i j hi2 hj2
      · obtain rfl : j = k := by omega
        obtain ⟨e1, y, e2, e3⟩ := get i hi2
        rw [e1, getk, e2]
        exact ⟨fun e => by injection e with e; omega, fun e => absurd e.symm (hno i hi2)⟩
    · obtain rfl : i = k := by omega
      rcases Nat.lt_or_ge j i with hj2 | hj2
      · obtain ⟨e1, y, e2, e3⟩ := get j hj2
        rw [e1, getk, e2]
        exact ⟨fun e => by injection e with e; omega, fun e => absurd e (hno j hj2)⟩
      · obtain rfl : j = i := by omega
        exact ⟨fun _ => simP.refl h2, fun _ => rfl⟩
theorem FinJ.pos {bl : List Int} {f : Nat → List Rat} {n : Nat} (hf : ∀ i, (f i).length = n) {k m t : Nat} {es : List Int} (h : FinJ bl f k m t es) {z : Int} (hz : es[k]? = some z) (hn : ¬ z < 0) : FinI bl f (k + 1) m es := by
  obtain ⟨h1, h2, z', h3, h4⟩ := h
  rw [hz] at h3
  injection h3 with h3
  subst h3
  rcases h4 with ⟨h5, _⟩ | ⟨_, j0, hj0, hs, he⟩
  · omega
  have hkl : k < es.length := by rw [h1.len]; exact h2
  have et : es.take (k + 1) = es.take k ++ [z] := by
    rw [take_snoc _ k hkl]
    congr 2
    rw [List.getElem?_eq_getElem hkl] at hz
    exact Option.some.inj hz
  have hzm := h1.nn hj0 he
  refine ⟨h1.len, ?_, ?_, fun i j hi hj => ?_⟩
  · rw [et]; exact okB_snoc h1.ok hzm.1 (by rw [← h1.num]; omega)
  · rw [et, cnt_snoc, ← h1.num, if_neg (by omega)]
  · have eqk : es[k]? = es[j0]? := by rw [hz, he]
    rcases Nat.lt_or_ge i k with hi2 | hi2
    · rcases Nat.lt_or_ge j k with hj2 | hj2
      · exact h1.eqv i j hi2 hj2
      · obtain rfl : j = k := by omega
        rw [eqk, h1.eqv i j0 hi2 hj0]
        exact ⟨fun e => e.trans hf hs.symm, fun e => e.trans hf hs⟩
    · obtain rfl : i = k := by omega
      rcases Nat.lt_or_ge j i with hj2 | hj2
      · rw [eqk, h1.eqv j0 j hj0 hj2]
        exact ⟨fun e => hs.trans hf e, fun e => hs.symm.trans hf e⟩
      · obtain rfl : j = i := by omega
        exact ⟨fun _ => simP.refl h2, fun _ => rfl⟩
theorem FinI.done {bl : List Int} {f : Nat → List Rat} {m : Nat} {es : List Int} (h : FinI bl f bl.length m es) : SplitP bl f es ∧ m = cnt es := by
  have et : es.take bl.length = es := List.take_of_length_le (by rw [h.len]; exact Nat.le_refl _)
  have h1 := h.ok
  have h2 := h.num
  rw [et] at h1 h2
  refine ⟨⟨h1, h.len, fun i j a b hi hj => ?_⟩, h2⟩
  rw [h.eqv i j (List.getElem?_eq_some_iff.1 hi).1 (List.getElem?_eq_some_iff.1 hj).1]
  constructor
  · rintro ⟨x, e1, e2, e3⟩
    rw [hi] at e1
    rw [hj] at e2
    injection e1 with e1
    injection e2 with e2
    subst e1 e2
    exact ⟨rfl, e3⟩
  · rintro ⟨rfl, e⟩
    exact ⟨a, hi, hj, e⟩
/-- Two numberings of one partition are one. -/
theorem okB_ext {l l' : List Int} (h : okB l) (h' : okB l') (hlen : l.length = l'.length) (he : ∀ i j : Nat, l[i]? = l[j]? ↔ l'[i]? = l'[j]?) : l = l' := by
  have key : ∀ k, k ≤ l.length → l.take k = l'.take k := by
    intro k
    induction k with
    | zero => intro _; rfl
    | succ k ih =>
      intro hk
      have ih := ih (by omega)
      have hk1 : k < l.length := by omega
      have hk2 : k < l'.length := by omega
      rw [take_snoc l k hk1, take_snoc l' k hk2, ih]
      congr 2
      have hc : cnt (l.take k) = cnt (l'.take k) := by rw [ih]
      obtain ⟨a1, a2⟩ := h k _ (List.getElem?_eq_getElem hk1)
      obtain ⟨b1, b2⟩ := h' k _ (List.getElem?_eq_getElem hk2)
      have old : ∀ (j : Nat), j < k → l[j]? = l'[j]? := fun j hj => by
        have := congrArg (fun x => x[j]?) ih
        simpa [List.getElem?_take_of_lt hj] using this
      by_cases h1 : l[k] = (cnt (l.take k) : Int)
      · by_cases h2 : l'[k] = (cnt (l'.take k) : Int)
        · rw [h1, h2, hc]
        · exfalso
          obtain ⟨b, hb⟩ : ∃ b : Nat, l'[k] = (b : Int) := ⟨l'[k].toNat, by omega⟩
          obtain ⟨j, j1, j2⟩ := okB_has h' k b (by omega)
          have h3 := (he j k).2 (by rw [j2, List.getElem?_eq_getElem hk2, hb])
          rw [List.getElem?_eq_getElem hk1] at h3
          have := okB_new h h3 j1
          omega
      · obtain ⟨b, hb⟩ : ∃ b : Nat, l[k] = (b : Int) := ⟨l[k].toNat, by omega⟩
        obtain ⟨j, j1, j2⟩ := okB_has h k b (by omega)
        have h3 := (he j k).1 (by rw [j2, List.getElem?_eq_getElem hk1, hb])
        rw [← old j j1, j2, List.getElem?_eq_getElem hk2] at h3
        injection h3 with h3
        rw [hb, h3]
  have := key l.length (Nat.le_refl _)
  rwa [List.take_length, List.take_of_length_le (by omega)] at this
theorem CoarseP.unique {c : RC} {a b : List Int} (hv : validP c) (ha : CoarseP c a) (hb : CoarseP c b) : a = b := by
  have hn : 0 < c.lost.length := by have := hv.1; have := hv.2.2.1; omega
  have h1 := ha.check hv
  have h2 := hb.check hv
  exact okB_ext h1.1 h2.1 (by rw [h1.2.2.1, h2.2.2.1]) (fun i j => ⟨hb.coarser hv (Stab.of_check h1) i j, ha.coarser hv (Stab.of_check h2) i j⟩)
end Go.Proofs.Ytoldfpkafcefnaa
namespace Go.Proofs.Ytoldfpkafcefnaa
set_option linter.unusedVariables false
set_option linter.unusedSimpArgs false
open Go.RowKit

set_option maxRecDepth 100000 in
set_option maxHeartbeats 3200000 in
theorem rcoarse_bad (va : Value) (c : RC) (w : World) (ha : ChainN w va c) (hv : ¬ validP c) : Calls Try.prog 23 #[va] w (RCoarse w c) := by
  obtain ⟨rv, sv, lv, rfl, hr, hs, hl⟩ := id ha
  obtain ⟨ra, rn, rk, rfl, r1, r2, r3⟩ := id hr.sl
  obtain ⟨sa, sn, sk, rfl, s1, s2, s3⟩ := id hs.sl
  obtain ⟨la, ln, lk, rfl, l1, l2, l3⟩ := id (CellsV.sl hl)
  have hbx := below_alloc w (.cells #[.slice ra rn rk, .slice sa sn sk, .slice la ln lk] 27)
  have hC := C3.new w 27 (.slice ra rn rk) (.slice sa sn sk) (.slice la ln lk)
  have HA := Lib.hid (ha.below hbx)
  have HV := Lib.hid hv
  obtain ⟨_, c0, c1, c2, _, _, _⟩ := id hC
  clear hC hr hs hl ha hv
  go_enter Try.func23, Try.ntmps23
  go_wp2_with (go_at_call 46; (with_reducible refine (rvalid_chain _ c _ HA.out).mono ?_); rintro e2 w2 ⟨⟨b2, rfl, hv2⟩, hbel2⟩; obtain rfl : b2 = false := Bool.eq_false_iff.2 (fun h => HV.out (hv2.1 h)); clear hv2)
  go_ret2
  exact ⟨fun _ => rfl, fun h => absurd h HV.out, below_then hbx hbel2⟩
set_option maxRecDepth 100000 in
set_option maxHeartbeats 6400000 in
theorem rcoarse_good (va : Value) (c : RC) (w : World) (ha : ChainN w va c) (hv : validP c) : Calls Try.prog 23 #[va] w (RCoarse w c) := by
  obtain ⟨i1, hi1, hz1, hs1, hy1⟩ := info_parts Try.infoInt
  have hM1 := make_E (P := Try.prog) 28 3 i1 _ 8 Try.underlying28 hi1 hz1 hs1 hy1 (by decide) rfl
  clear hi1 hz1 hs1 hy1
  obtain ⟨rv, sv, lv, rfl, hr, hs, hl⟩ := id ha
  obtain ⟨ra, rn, rk, rfl, r1, r2, r3⟩ := id hr.sl
  obtain ⟨sa, sn, sk, rfl, s1, s2, s3⟩ := id hs.sl
  obtain ⟨la, ln, lk, rfl, l1, l2, l3⟩ := id (CellsV.sl hl)
  have hsn : sn = c.lost.length := by have h1 : sn = c.start.length := hs.len; rw [h1]; exact hv.2.2.1.symm
  subst hsn
  have hln : ln = c.lost.length := hl.len
  subst hln
  have hn1 : 0 < c.lost.length := by have h1 := hv.1; have h2 := hv.2.2.1; omega
  have hn2 : c.lost.length ≤ 128 := by have h1 := hv.2.1; have h2 := hv.2.2.1; omega
  have hbx := below_alloc w (.cells #[.slice ra rn rk, .slice sa c.lost.length sk, .slice la c.lost.length lk] 27)
  have hC := C3.new w 27 (.slice ra rn rk) (.slice sa c.lost.length sk) (.slice la c.lost.length lk)
  have HA := Lib.hid (ha.below hbx)
  have hl2 := hl.below hbx
  have HV := Lib.hid hv
  have HC := Lib.hid hC
  obtain ⟨_, c0, c1, c2, _, _, _⟩ := id hC
  have sl3 : IsSl (.slice la c.lost.length lk) := CellsV.sl hl
  clear hC hr hs hl ha hv
  go_enter Try.func23, Try.ntmps23
  go_wp2_with (first
    | (go_at_call 46; (with_reducible refine (rvalid_chain _ c _ HA.out).mono ?_); rintro e2 w2 ⟨⟨b2, rfl, hv2⟩, hbel2⟩; obtain rfl : b2 = true := hv2.2 HV.out; clear hv2
       obtain ⟨_, c0, c1, c2, _, _, _⟩ := HC.out.belowS hbel2)
    | (refine hM1 _ rfl _ _ rfl c.lost.length rfl rfl (by omega) ?_; intro v4 w4 hown4 hbel4; have s4 := hown4.sl; have l4 : slen v4 = c.lost.length := by rw [hown4.len, List.length_replicate]))
  have hB4 := below_then hbel2 hbel4
  go_loopw [6] (fun u6 wr => ∃ (k : Nat), k ≤ c.lost.length ∧ u6 = .int .i64 k ∧ OwnE wr 3 w2.heap.size v4 (((lostB c).take k ++ List.replicate (c.lost.length - k) 0).map (Value.int .i64)) ∧ Below w2.heap.size w2 wr) (fun u6 _ => c.lost.length - (intOf u6).toNat)
  case atStart => exact ⟨0, Nat.zero_le _, rfl, by rw [List.take_zero, List.nil_append, List.map_replicate]; exact hown4, hbel4⟩
  case round =>
    obtain ⟨k, hk, rfl, ho, hbr⟩ := hrel
    have hbr2 := below_then hbel2 hbr
    have HO := Lib.hid ho
    obtain ⟨_, c0, c1, c2, _, _, _⟩ := HC.out.belowS hbr2
    by_cases hkl : k < c.lost.length
    · have hlk := (hl2.below hbr2).at' k hkl
      have hl0 := (hl2.below hbr2).at' 0 hn1
      have HE := Lib.hid (lost_same c k hkl)
      have HD := Lib.hid (lost_diff c k hkl)
      have HG0 : Hid (c.lost.getD 0 false = c.lost[0]'hn1) := Lib.hid (by simp [List.getD, List.getElem?_eq_getElem hn1])
      have hk9 : k < (((lostB c).take k ++ List.replicate (c.lost.length - k) 0).map (Value.int .i64)).length := by rw [List.length_map, List.length_append, List.length_replicate, List.length_take]; simp [lostB]; omega
      have hc9 := ho.cell k hk9
      have hf9 := ho.frozen k hk9
      have HK9 := Lib.hid hk9
      generalize hm1 : c.lost[k]'hkl = m1 at *
      generalize hm2 : c.lost[0]'hn1 = m2 at *
      have HM1 := Lib.hid hm1
      have HM2 := Lib.hid hm2
      have i1 : (0 : Int) ≤ (k : Int) := by omega
      have i2 : (k : Int) < (c.lost.length : Nat) := by omega
      have i3 : (0 : Int) < (c.lost.length : Nat) := by omega
      clear hm1 hm2 ho
      by_cases hmm : m1 = m2
      · have hb : (m1 != m2) = false := by simp [hmm]
        have hbq : (m1 == m2) = true := by simp [hmm]
        have HMM := Lib.hid hmm
        clear hmm
        go_wp2_with fail
        go_quiet (fail)
        have hbd := below_then hbr (below_drewN (B := wr.heap.size) wr nq)
        have HO2 : Hid (OwnE (wr.drewN nq) 3 w2.heap.size v4 (((lostB c).take (k + 1) ++ List.replicate (c.lost.length - (k + 1)) 0).map (Value.int .i64))) := Lib.hid (by
          rw [← HE.out (by rw [HMM.out, HG0.out])]; exact HO.out.below (below_drewN wr nq))
        clear hc9 hf9
        go_wp2_with fail
        go_roundw
        case rel => exact ⟨k + 1, by omega, by go_num, HO2.out, hbd⟩
        case measure => simp [intOf]; omega
      · have hb : (m1 != m2) = true := by simpa using hmm
        have hbq : (m1 == m2) = false := by simpa using hmm
        have HMM := Lib.hid hmm
        clear hmm
        go_wp2_with fail
        go_quiet (fail)
        have hbd := below_then hbr (below_drewN (B := wr.heap.size) wr nq)
        have hcD := cell_below (below_drewN (B := wr.heap.size) wr nq) hc9
        have hfD : (wr.drewN nq).frozen? (ptr v4 k) = false := ((HO.out.below (below_drewN wr nq)).frozen k HK9.out)
        clear hc9 hf9
        go_wp2_with fail
        have hset := (HO.out.below (below_drewN wr nq)).set k HK9.out (.int .i64 1)
        rw [HD.out (by rw [HG0.out]; exact HMM.out)] at hset
        have HSET := Lib.hid hset
        clear hset
        go_roundw
        case rel => exact ⟨k + 1, by omega, by go_num, HSET.out.1, hbd.trans HSET.out.2⟩
        case measure => simp [intOf]; omega
    · obtain rfl : k = c.lost.length := by omega
      have ho2 := ho
      rw [Nat.sub_self, List.replicate_zero, List.append_nil, List.take_of_length_le (by simp [lostB])] at ho2
      have HI0 : Hid (IntsV wr v4 (lostB c)) := Lib.hid ⟨ho2.sl, ho2.len, fun j hj => ho2.cell j hj⟩
      have HA2 := Lib.hid (HA.out.below hbr2)
      have hb3 := below_then hbx hbr2
      clear ho ho2 hown4 HO c0 c1 c2
      go_wp2_with fail
      obtain ⟨W0, hW0⟩ : ∃ W0, W0 = wr := ⟨_, rfl⟩
      subst hW0
      go_loopg [5] (c.lost.length - cnt (lostB c)) (fun g u5 wi => ∃ bl, Refs c bl ∧ IntsV wi u5 bl ∧ g = c.lost.length - cnt bl ∧ Below W0.heap.size W0 wi)
      case atStart => exact ⟨lostB c, Refs.zero, HI0.out, rfl, Below.refl _ _⟩
      case round =>
        obtain ⟨bl, hRf, hIn, hg, hbi⟩ := hrel
        obtain ⟨hok, hbl⟩ := hRf.ok hn1
        have HRF := Lib.hid hRf
        have HOK := Lib.hid hok
        have HIN := Lib.hid hIn
        have HBL := Lib.hid hbl
        have hcb : cnt bl ≤ c.lost.length := by have := cnt_le bl bl.length; rw [List.take_length] at this; omega
        have hbi2 := below_then hbr2 hbi
        have s5 := CellsV.sl hIn
        have l5 : slen u5 = c.lost.length := hIn.len.trans hbl
        have HBI2 := Lib.hid hbi2
        have HBI := Lib.hid hbi
        obtain ⟨W1, hW1⟩ : ∃ W1, W1 = wr := ⟨_, rfl⟩
        subst hW1
        clear hRf hok hIn hbl
        go_wp2_with (first
          | (refine hM1 _ rfl _ _ rfl c.lost.length rfl rfl (by omega) ?_; intro v7 w7 hown7 hbel7; have s7 := hown7.sl; have l7 : slen v7 = c.lost.length := by rw [hown7.len, List.length_replicate]))
        have HCN : Hid (cnt bl ≤ 128) := Lib.hid (by omega)
        have HF0 : Hid (FinI bl (sumF c bl) 0 0 (List.replicate c.lost.length 0)) := Lib.hid (by have := FinI.zero bl (sumF c bl); rwa [HBL.out] at this)
        go_loopw [8, 9] (fun u8 u9 wr => ∃ (k m : Nat) (es : List Int), k ≤ c.lost.length ∧ m ≤ k ∧ u8 = .int .i64 m ∧ u9 = .int .i64 k ∧ OwnE wr 3 W1.heap.size v7 (es.map (Value.int .i64)) ∧ FinI bl (sumF c bl) k m es ∧ Below W1.heap.size W1 wr) (fun _ u9 _ => c.lost.length - (intOf u9).toNat)
        case atStart => exact ⟨0, 0, _, Nat.zero_le _, Nat.le_refl _, rfl, rfl, by rw [List.map_replicate]; exact hown7, HF0.out, hbel7⟩
        case round =>
          obtain ⟨k, m, es, hk, hmk, rfl, rfl, ho, hN, hbr3⟩ := hrel
          have HO := Lib.hid ho
          have HN := Lib.hid hN
          have hm7 : m ≤ 128 := by omega
          by_cases hkl : k < c.lost.length
          · have hk9 : k < (es.map (Value.int .i64)).length := by rw [List.length_map, hN.len, HBL.out]; exact hkl
            obtain ⟨e0, hc9⟩ : ∃ e0, wr.cell? (ptr v7 k) = some e0 := ⟨_, ho.cell k hk9⟩
            have hf9 := ho.frozen k hk9
            have hset := ho.set k hk9 (.int .i64 (-1))
            rw [← List.map_set] at hset
            have HJ := Lib.hid (hN.mark (by rw [HBL.out]; exact hkl))
            have i1 : (0 : Int) ≤ (k : Int) := by omega
            have i2 : (k : Int) < (c.lost.length : Nat) := by omega
            have HSET := Lib.hid hset
            clear ho hN hset hk9 HO HN
            go_wp2_with fail
            go_loopw [10] (fun u10 wr => ∃ (t : Nat) (es2 : List Int), t ≤ k ∧ u10 = .int .i64 t ∧ OwnE wr 3 W1.heap.size v7 (es2.map (Value.int .i64)) ∧ FinJ bl (sumF c bl) k m t es2 ∧ Below W1.heap.size W1 wr) (fun u10 _ => k - (intOf u10).toNat)
            case atStart => exact ⟨0, _, Nat.zero_le _, rfl, HSET.out.1, HJ.out, hbr3.trans HSET.out.2⟩
            case round =>
              obtain ⟨t, es2, ht, rfl, ho, hJ2, hbj⟩ := hrel
              have HO := Lib.hid ho
              have HJ2 := Lib.hid hJ2
              have HBJ := Lib.hid hbj
              have hk9 : k < (es2.map (Value.int .i64)).length := by rw [List.length_map, hJ2.i.len, HBL.out]; exact hkl
              have HK9 := Lib.hid hk9
              have hck := ho.cell k hk9
              have hfk := ho.frozen k hk9
              have hkl2 : k < es2.length := by simpa using hk9
              have HGK := Lib.hid (List.getElem?_eq_getElem hkl2)
              simp only [List.getElem_map] at hck
              generalize es2[k]'hkl2 = z at *
              by_cases hz : z < 0
              · by_cases htk : t < k
                · have hkb : k < bl.length := by rw [HBL.out]; exact hkl
                  have htb : t < bl.length := by omega
                  have ht9 : t < (es2.map (Value.int .i64)).length := by rw [List.length_map, hJ2.i.len]; exact htb
                  have hct := ho.cell t ht9
                  have htl : t < es2.length := by simpa using ht9
                  have HGT := Lib.hid (List.getElem?_eq_getElem htl)
                  simp only [List.getElem_map] at hct
                  generalize es2[t]'htl = y at *
                  have a1 := (HIN.out.below hbj).at' k hkb
                  have a2 := (HIN.out.below hbj).at' t htb
                  have HG1 : Hid (bl[k]? = some (bl[k]'hkb)) := Lib.hid (List.getElem?_eq_getElem hkb)
                  have HG2 : Hid (bl[t]? = some (bl[t]'htb)) := Lib.hid (List.getElem?_eq_getElem htb)
                  have HKB := Lib.hid hkb
                  have HTB := Lib.hid htb
                  generalize hx1 : bl[k]'hkb = x1 at *
                  generalize bl[t]'htb = x2 at *
                  have HX1 : Hid (∀ h : k < bl.length, bl[k]'h = x1) := Lib.hid (fun _ => hx1)
                  have HHIT : Hid (simP bl (sumF c bl) k t → FinJ bl (sumF c bl) k m (t + 1) (es2.set k y)) := Lib.hid (fun h => HJ2.out.hit htk h HGT.out)
                  have HMISS : Hid (¬ simP bl (sumF c bl) k t → FinJ bl (sumF c bl) k m (t + 1) es2) := Lib.hid (fun h => HJ2.out.miss h)
                  have i3 : (0 : Int) ≤ (t : Int) := by omega
                  have i4 : (t : Int) < (c.lost.length : Nat) := by omega
                  obtain ⟨_, c0, c1, c2, _, _, _⟩ := HC.out.belowS (below_then HBI2.out hbj)
                  clear hkb htb hx1 ht9 ho hJ2 hk9
                  by_cases hx : x1 = x2
                  · subst hx
                    go_wp2_with fail
                    have hD := below_drew (B := wr.heap.size) wr
                    have hbD := below_then hbj hD
                    have HOD := Lib.hid (HO.out.below hD)
                    have a1 := cell_below hD a1
                    have a2 := cell_below hD a2
                    have c0 := cell_below hD c0
                    have c1 := cell_below hD c1
                    have c2 := cell_below hD c2
                    have hckD := cell_below hD hck
                    have hctD := cell_below hD hct
                    have HBD := Lib.hid hbD
                    clear hck hct hfk hD hbj
                    go_region_held3 (fun w' => w'.cell? (ptr u5 k) = some (.int .i64 x1) ∧ w'.cell? (ptr u5 t) = some (.int .i64 x1) ∧ w'.cell? ⟨w.heap.size, 0, none⟩ = some (.slice ra rn rk) ∧ w'.cell? ⟨w.heap.size, 1, none⟩ = some (.slice sa c.lost.length sk) ∧ w'.cell? ⟨w.heap.size, 2, none⟩ = some (.slice la c.lost.length lk)) (exact ⟨a1, a2, c0, c1, c2⟩) (first
                      | (go_at_call 44; (with_reducible refine (rcount_any _ bl _ (HIN.out.below hbD) HOK.out).mono ?_); rintro e4 w4 ⟨rfl, rfl⟩)
                      | (go_at_call 47; (with_reducible refine (ralike_any _ _ c bl (cnt bl) k t _ ((HA2.out.below HBI.out).below hbD) (HIN.out.below hbD) HV.out HBL.out HKB.out HTB.out HCN.out).mono ?_); rintro e8 w8 ⟨⟨b8, rfl, hb8⟩, hb8b⟩; rw [HX1.out HKB.out] at hb8
                         have HB8 := Lib.hid hb8
                         clear hb8
                         have a1 := cell_below hb8b a1
                         have a2 := cell_below hb8b a2
                         have c0 := cell_below hb8b c0
                         have c1 := cell_below hb8b c1
                         have c2 := cell_below hb8b c2))
                    have hckE := cell_below hb8b hckD
                    have hctE := cell_below hb8b hctD
                    have HOE := Lib.hid (HOD.out.below hb8b)
                    have hfkE := HOE.out.frozen k HK9.out
                    have HBE := Lib.hid (below_then HBD.out hb8b)
                    clear a1 a2 c0 c1 c2 hckD hctD
                    cases b8
                    · have HY := Lib.hid (HMISS.out (fun ⟨a, h1, h2, h3⟩ => by
                        rw [HG1.out] at h1
                        injection h1 with h1
                        subst h1
                        have := HB8.out.2 h3
                        cases this))
                      go_wp2_with fail
                      go_roundw
                      case rel => exact ⟨t + 1, _, by omega, by go_num, HOE.out, HY.out, HBE.out⟩
                      case measure => simp [intOf]; omega
                    · have HY := Lib.hid (HHIT.out ⟨x1, HG1.out, HG2.out, HB8.out.1 rfl⟩)
                      go_wp2_with fail
                      have hset := HOE.out.set k HK9.out (.int .i64 y)
                      rw [← List.map_set] at hset
                      have HSET := Lib.hid hset
                      clear hset
                      go_roundw
                      case rel => exact ⟨t + 1, _, by omega, by go_num, HSET.out.1, HY.out, HBE.out.trans HSET.out.2⟩
                      case measure => simp [intOf]; omega
                  · have hb1 : (x1 == x2) = false := by simpa using hx
                    have HY := Lib.hid (HMISS.out (fun ⟨a, h1, h2, h3⟩ => by
                      rw [HG1.out] at h1
                      rw [HG2.out] at h2
                      exact hx ((Option.some.inj h1).trans (Option.some.inj h2).symm)))
                    clear hx
                    go_wp2_with fail
                    go_quiet (fail)
                    have hbN := below_drewN (B := wr.heap.size) wr nq
                    have HON := Lib.hid (HO.out.below hbN)
                    have HBN := Lib.hid (below_then HBJ.out hbN)
                    clear a1 a2 c0 c1 c2 hck hct hfk
                    go_wp2_with fail
                    go_roundw
                    case rel => exact ⟨t + 1, _, by omega, by go_num, HON.out, HY.out, HBN.out⟩
                    case measure => simp [intOf]; omega
                · obtain rfl : t = k := by omega
                  have HNI := Lib.hid (hJ2.neg HGK.out hz)
                  clear ho hJ2 hk9
                  go_wp2_with fail
                  have hset := HO.out.set t HK9.out (.int .i64 m)
                  rw [← List.map_set] at hset
                  have HSET := Lib.hid hset
                  clear hset
                  go_roundw
                  case rel => exact ⟨t + 1, m + 1, _, by omega, by omega, by go_num, by go_num, HSET.out.1, HNI.out, HBJ.out.trans HSET.out.2⟩
                  case measure => simp [intOf]; omega
              · have HNI := Lib.hid (hJ2.pos (n := cnt bl) (fun i => by unfold sumF; rw [bsums_length]) HGK.out hz)
                clear ho hJ2 hk9
                by_cases htk : t < k
                · go_wp2_with fail
                  go_roundw
                  case rel => exact ⟨k + 1, m, _, by omega, by omega, rfl, by go_num, HO.out, HNI.out, HBJ.out⟩
                  case measure => simp [intOf]; omega
                · obtain rfl : t = k := by omega
                  go_wp2_with fail
                  go_roundw
                  case rel => exact ⟨t + 1, m, _, by omega, by omega, rfl, by go_num, HO.out, HNI.out, HBJ.out⟩
                  case measure => simp [intOf]; omega
          · obtain rfl : k = c.lost.length := by omega
            have HSP : Hid (SplitP bl (sumF c bl) es ∧ m = cnt es) := Lib.hid (FinI.done (by rw [HBL.out]; exact HN.out))
            have HIX : Hid (IntsV wr v7 es) := Lib.hid ⟨ho.sl, ho.len, fun j hj => ho.cell j hj⟩
            have HB7 := Lib.hid hbr3
            clear ho hN
            go_wp2_with (first
              | (go_at_call 44; (with_reducible refine (rcount_any _ bl _ (HIN.out.below hbr3) HOK.out).mono ?_); rintro e4 w4 ⟨rfl, rfl⟩))
            · rename_i heq
              have heq2 : cnt es = cnt bl := by have := eq_of_beq heq; have := HSP.out.2; omega
              have HEQ := Lib.hid heq2
              clear heq heq2
              go_ret2
              exact ⟨fun h => absurd HV.out h, fun _ => ⟨v7, es, rfl, HIX.out, bl, HRF.out, HSP.out.1, HEQ.out⟩, below_then (below_then hb3 HBI.out) HB7.out⟩
            · rename_i heq
              have heq2 : m ≠ cnt bl := fun h => by rw [h] at heq; simp at heq
              have hce : m = cnt es := HSP.out.2
              have hle := HSP.out.1.cnt_le HOK.out
              have hcn : cnt es ≤ c.lost.length := by
                have h1 := cnt_le es es.length
                rw [List.take_length] at h1
                have h2 := HSP.out.1.2.1
                have h3 := HBL.out
                omega
              clear heq
              go_roundg (c.lost.length - cnt es)
              case measure => omega
              case rel => exact ⟨es, Refs.step HRF.out HSP.out.1, HIX.out, rfl, below_then HBI.out HB7.out⟩
theorem rcoarse_any (va : Value) (c : RC) (w : World) (ha : ChainN w va c) : Calls Try.prog 23 #[va] w (RCoarse w c) := by
  by_cases h : validP c
  · exact rcoarse_good va c w ha h
  · exact rcoarse_bad va c w ha h
end Go.Proofs.Ytoldfpkafcefnaa
