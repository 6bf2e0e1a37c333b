/-
  package drydocklaw22: LumpProof.
-/
import Derived.Test.YtlpdkbmmbdfoiaaGreatCSp7
import Derived.Test.YtlpdkbmmbdfoiaaGreatCTa3
import Derived.Test.YtlpdkbmmbdfoiaaGreatCAw1
import Derived.Test.YtlpdkbmmbdfoiaaGreatCAw2
import Derived.Test.YtlpdkbmmbdfoiaaGreatCRs1
import Derived.Test.YtlpdkbmmbdfoiaaGreatCI8
namespace Go.Proofs.YtlpdkbmmbdfoiaaGreat
set_option linter.unusedVariables false
set_option linter.unusedSimpArgs false
open Go.RowKit

/-- The number that LumpProof takes for state k. -/
def proofV (l : List Int) (k : Nat) : Rat := if h : k < l.length then fq (decide (l[k] < 0)) (l[k]).natAbs (1 + (l[k] % 256).toNat % 3) else fq false k 1
theorem proofV_over (l : List Int) (hl : ∀ x ∈ l, -128 ≤ x ∧ x ≤ 127) {k : Nat} (hk : k < 10) : over 6 768 (proofV l k) := by
  unfold proofV
  split
  · next h =>
    obtain ⟨h1, h2⟩ := hl _ (List.getElem_mem h)
    generalize l[k] = x at *
    have hm : (x % 256).toNat % 3 = 0 ∨ (x % 256).toNat % 3 = 1 ∨ (x % 256).toNat % 3 = 2 := by omega
    have h3 : ∀ d m : Nat, d * m = 6 → m ≤ 6 → over 6 768 (fq (decide (x < 0)) x.natAbs d) := fun d m hd hm6 => by
      have hm0 : m ≠ 0 := fun e => by subst e; omega
      refine ⟨sgn (decide (x < 0)) x.natAbs * (m : Nat), ?_, ?_⟩
      · unfold fq; rw [← hd]; exact (Rat.mkRat_mul_right hm0).symm
      · rw [Int.natAbs_mul, sgn_natAbs, Int.natAbs_natCast]
        have : x.natAbs * m ≤ 128 * 6 := Nat.mul_le_mul (by omega) hm6
        omega
    rcases hm with e | e | e <;> rw [e]
    · exact h3 1 6 (by decide) (by decide)
    · exact h3 2 3 (by decide) (by decide)
    · exact h3 3 2 (by decide) (by decide)
  · refine ⟨(k : Nat) * (6 : Nat), ?_, by rw [Int.natAbs_mul]; simp; omega⟩
    rw [mk_fq]
    exact (Rat.mkRat_mul_right (n := (k : Nat)) (d := 1) (a := 6) (by decide)).symm
def proofL (l : List Int) (n : Nat) : List Rat := rowL n (proofV l)
theorem proofL_over (l : List Int) (hl : ∀ x ∈ l, -128 ≤ x ∧ x ≤ 127) {n : Nat} (hn : n ≤ 10) : ∀ q ∈ proofL l n, over 6 768 q := fun q hq => by
  unfold proofL rowL at hq
  obtain ⟨j, hj, rfl⟩ := List.mem_map.1 hq
  have := List.mem_range.1 hj
  exact proofV_over l hl (by omega)
theorem posR_of {q : Rat} (hf : fits q) (hq : 0 < q) : posR (decide (q < 0)) q.num.natAbs q.den := by
  refine ⟨fits_okN hf, decide_eq_false (fun h => absurd (Rat.le_of_lt h) (Rat.not_le.2 hq)), fun h => ?_⟩
  have h3 : q = 0 := Rat.num_eq_zero.1 (Int.natAbs_eq_zero.1 h)
  rw [h3] at hq; exact absurd hq (by decide)
/-- A step of canonical numbers. -/
theorem step_can (va vx vv : Value) (c : RC) (ρ : Rat) (q : List Rat) (w : World) (ha : ChainN w va c) (hv : validP c) (hx : FracC w vx ρ) (hvv : FracsC w vv q) (hl : q.length = c.start.length) (hf : ∀ x ∈ q, fits x) (h : StepOk c ρ q) :
    Calls Tryz.prog 22 #[va, vx, vv] w (fun e w' => ∃ v, e = .returned (.tuple #[v, .int .i64 0]) ∧ FracsC w' v (stepV c ρ q) ∧ Below w.heap.size w w') := by
  have hq : qs (q.map RF.of) = q := qs_map_of q
  have k := step_ok va vx vv c _ _ _ ρ (q.map RF.of) w ha hv hx.raw hvv.raw (posR_of h.fρ h.pos) (fq_self ρ) (by rw [List.length_map]; exact hl) (fun x hx => by obtain ⟨y, hy, rfl⟩ := List.mem_map.1 hx; exact RF.of_ok (hf y hy)) h.le h.h1 h.h2 (by rw [hq]; exact h.hw)
  rw [hq] at k
  exact k
theorem wrap_p8 : ∀ k : Fin 256, IntKind.i64.wrap ((k.val : Int) - 128) = (k.val : Int) - 128 ∧ IntKind.i64.wrap (1 + IntKind.i64.wrap ((IntKind.u8.wrap ((k.val : Int) - 128)).tmod 3)) = ((1 + (((k.val : Int) - 128) % 256).toNat % 3 : Nat) : Int) := by decide +kernel
theorem p8_facts (x : Int) (h1 : -128 ≤ x) (h2 : x ≤ 127) : IntKind.i64.wrap x = x ∧ IntKind.i64.wrap (1 + IntKind.i64.wrap ((IntKind.u8.wrap x).tmod 3)) = ((1 + (x % 256).toNat % 3 : Nat) : Int) := by
  obtain ⟨n, hn⟩ : ∃ n : Nat, x + 128 = n := ⟨(x + 128).toNat, by omega⟩
  have h := wrap_p8 ⟨n, by omega⟩
  have hx : (n : Int) - 128 = x := by omega
  simp only [hx] at h
  exact h
theorem r2make_p8 (x : Int) (h1 : -128 ≤ x) (h2 : x ≤ 127) (w : World) : Calls Tryz.prog 18 #[.int .i64 (IntKind.i64.wrap x), .int .i64 (IntKind.i64.wrap (1 + IntKind.i64.wrap ((IntKind.u8.wrap x).tmod 3)))] w (RF0 w (fq (decide (x < 0)) x.natAbs (1 + (x % 256).toNat % 3))) := by
  obtain ⟨e1, e2⟩ := p8_facts x h1 h2
  rw [e1, e2]
  refine (r2make_any _ _ w (by omega) (by omega) (by omega) (by omega) (by omega)).mono fun _ _ h => h.eq ?_
  rw [decide_eq_false (show ¬ ((1 + (x % 256).toNat % 3 : Nat) : Int) < 0 by omega)]
  cases decide (x < 0) <;> rfl
set_option maxRecDepth 100000 in
set_option maxHeartbeats 6400000 in
theorem proof_walk (v vl : Value) (x : Nat) (l : List Nat) (z : List Int) (w : World) (h : CellsV w v (bytes l)) (hb : ∀ x ∈ l, x < 256) (hz : I8V w vl z) (hx : x < 256) :
    Calls Tryz.prog 3 #[v, vl, .int .u8 (x : Nat)] w (fun e w' => e = .returned (.bool true) ∧ Below w.heap.size w w') := by
  have HZ := Lib.hid hz
  have HX : Hid (((1 + x % 4 : Nat) : Int) = 1 + ((x : Nat) : Int) % 4) := Lib.hid (by omega)
  clear hz
  go_enter Tryz.func3, Tryz.ntmps3
  go_upto_region 2 with (first
    | (go_at_call 15; (with_reducible refine (read_any v l _ h hb).mono ?_); rintro e1 w1 ⟨v1, vo, c, of, share, rfl, hc1, hof1, ht, hcp, hb1⟩
       obtain ⟨rv, sv, lv, rfl, hr, hs, hl⟩ := id hc1
       obtain ⟨ra, rn, rk, rfl, _⟩ := id hr.sl
       obtain ⟨sa, sn, sk, rfl, _⟩ := id hs.sl
       obtain ⟨la, ln, lk, rfl, _⟩ := id (CellsV.sl hl)
       have hba := below_alloc w1 (.cells #[.slice ra rn rk, .slice sa sn sk, .slice la ln lk] 28)
       have HC7 := Lib.hid (C3.new w1 28 (.slice ra rn rk) (.slice sa sn sk) (.slice la ln lk))
       have HC := Lib.hid (hc1.below hba)
       have HOF := Lib.hid (hof1.below hba)
       have HT := Lib.hid ht
       have HCP := Lib.hid hcp
       have HB := Lib.hid (below_then hb1 hba)
       have HSN : Hid (sn = of.length) := Lib.hid (hs.len.trans (by simp [copQ]))
       clear hr hs hl hc1 hof1 hb1 hba ht hcp))
  obtain ⟨b7, hb7⟩ : ∃ b, w1.heap.size = b := ⟨_, rfl⟩
  rw [hb7] at HC7 ⊢
  clear hb7
  generalize w1.alloc (.cells #[.slice ra rn rk, .slice sa sn sk, .slice la ln lk] 28) = W1 at *
  have HCN := Lib.hid HC.out.raw
  have HCK := Lib.hid (cop_check HT.out HCP.out)
  have HQE := Lib.hid (cop_quo HT.out HCP.out)
  have HQV : Hid (validP (quo (copQ c of share).raw of).raw) := Lib.hid (by rw [HQE.out]; exact HT.out.valid)
  obtain ⟨_, c0, c1, c2, _, _, _⟩ := HC7.out
  go_upto_region 5 with (first
    | (go_at_call 16; (with_reducible refine (quo_any _ vo _ of _ HCN.out HOF.out).mono ?_); rintro e2 w2 ⟨v2, er2, rfl, hb2, _, hok2, _⟩
       obtain ⟨rfl, hq2⟩ := hok2 HCK.out HQV.out
       rw [HQE.out] at hq2
       obtain ⟨rv2, sv2, lv2, rfl, hr2, hs2, hl2⟩ := id hq2
       obtain ⟨ra2, rn2, rk2, rfl, _⟩ := id hr2.sl
       obtain ⟨sa2, sn2, sk2, rfl, _⟩ := id hs2.sl
       obtain ⟨la2, ln2, lk2, rfl, _⟩ := id (CellsV.sl hl2)
       have hba := below_alloc w2 (.cells #[.slice ra2 rn2 rk2, .slice sa2 sn2 sk2, .slice la2 ln2 lk2] 28)
       have hbb := below_then hb2 hba
       have HC9 := Lib.hid (C3.new w2 28 (.slice ra2 rn2 rk2) (.slice sa2 sn2 sk2) (.slice la2 ln2 lk2))
       have HQ := Lib.hid (hq2.below hba)
       have HC := Lib.hid (HC.out.below hbb)
       have HOF := Lib.hid (HOF.out.below hbb)
       have HC7 := Lib.hid (HC7.out.belowS hbb)
       have HB := Lib.hid (below_then HB.out hbb)
       clear hr2 hs2 hl2 hq2 hb2 hba hbb hok2))
  obtain ⟨b9, hb9⟩ : ∃ b, w2.heap.size = b := ⟨_, rfl⟩
  rw [hb9] at HC9 ⊢
  clear hb9
  generalize w2.alloc (.cells #[.slice ra2 rn2 rk2, .slice sa2 sn2 sk2, .slice la2 ln2 lk2] 28) = W2 at *
  have HPP := Lib.hid (proof_law HT.out HCP.out (v := proofL z of.length) (rowL_length _ _) (proofL_over z HZ.out.2 HCP.out.le) (e := 1 + x % 4) (by omega) (by omega))
  have HRL : Hid ((copQ c of share).raw.rates.length = of.length) := Lib.hid (by simp [CQ.raw, copQ])
  have HVC := Lib.hid (cop_valid HT.out HCP.out)
  have HFL : Hid (fits (leaveTo (copQ c of share).raw of.length)) := Lib.hid (leave_fits HVC.out _ (by rw [HRL.out]; exact Nat.le_refl _))
  have HLV : Hid (∀ w0 va, ChainN w0 va (copQ c of share).raw → Calls Tryz.prog 17 #[va] w0 (RF0 w0 (leaveTo (copQ c of share).raw of.length))) := Lib.hid (fun w0 va k => by
    have h := r21leaving_any va _ w0 k HVC.out
    rwa [HRL.out] at h)
  have HFE : Hid (fits (fq false (1 + x % 4) 2)) := Lib.hid (fits_ok false (n := 1 + x % 4) (d := 2) ⟨by decide, by decide +kernel, Nat.le_trans (nbits_le.2 (show 1 + x % 4 < 2 ^ 3 by omega)) (by decide)⟩)
  have HFR := Lib.hid HPP.out.w.fρ
  obtain ⟨L, hL⟩ : ∃ L, leaveTo (copQ c of share).raw of.length = L := ⟨_, rfl⟩
  rw [hL] at HFL HLV HFR HPP
  clear hL
  obtain ⟨E, hE⟩ : ∃ E, fq false (1 + x % 4) 2 = E := ⟨_, rfl⟩
  have HMK : Hid (∀ w0, Calls Tryz.prog 18 #[.int .i64 (1 + ((x : Nat) : Int) % 4), .int .i64 2] w0 (RF0 w0 E)) := Lib.hid (fun w0 => by rw [← hE]; exact r2make_zz (1 + x % 4) 2 _ _ w0 (by omega) rfl (by omega) (by decide) (by decide))
  rw [hE] at HFE HFR HPP
  clear hE
  obtain ⟨_, c0, c1, c2, _, _, _⟩ := HC7.out
  have HCN := Lib.hid HC.out.raw
  go_upto_region 6 with (first
    | (go_at_call 17; (with_reducible refine (HLV.out _ _ HCN.out).mono ?_); rintro e3 w3 ⟨v3, rfl, hv3, hb3⟩
       obtain ⟨t3, x3, y3, rfl, ⟨a31, l31, k31, rfl, _⟩, ⟨a32, l32, k32, rfl, _⟩⟩ := hv3.isF
       have hba := below_alloc w3 (.cells #[.bool t3, .slice a31 l31 k31, .slice a32 l32 k32] 38)
       have hbb := below_then hb3 hba
       have HC11 := Lib.hid (C3.new w3 38 (.bool t3) (.slice a31 l31 k31) (.slice a32 l32 k32))
       have HL := Lib.hid (hv3.below hba)
       have HQ := Lib.hid (HQ.out.below hbb)
       have HC := Lib.hid (HC.out.below hbb)
       have HOF := Lib.hid (HOF.out.below hbb)
       have HC7 := Lib.hid (HC7.out.belowS hbb)
       have HC9 := Lib.hid (HC9.out.belowS hbb)
       have HB := Lib.hid (below_then HB.out hbb)
       clear hv3 hb3 hba hbb c0 c1 c2))
  obtain ⟨b11, hb11⟩ : ∃ b, w3.heap.size = b := ⟨_, rfl⟩
  rw [hb11] at HC11 ⊢
  clear hb11
  generalize w3.alloc (.cells #[.bool t3, .slice a31 l31 k31, .slice a32 l32 k32] 38) = W3 at *
  go_upto_region 7 with (first
    | (go_at_call 18; (with_reducible refine (HMK.out _).mono ?_); rintro e4 w4 ⟨v4, rfl, hv4, hb4⟩
       obtain ⟨t4, x4, y4, rfl, ⟨a41, l41, k41, rfl, _⟩, ⟨a42, l42, k42, rfl, _⟩⟩ := hv4.isF
       have hba := below_alloc w4 (.cells #[.bool t4, .slice a41 l41 k41, .slice a42 l42 k42] 38)
       have hbb := below_then hb4 hba
       have HC13 := Lib.hid (C3.new w4 38 (.bool t4) (.slice a41 l41 k41) (.slice a42 l42 k42))
       have HX4 := Lib.hid (hv4.below hba)
       have HL := Lib.hid (HL.out.below hbb)
       have HQ := Lib.hid (HQ.out.below hbb)
       have HC := Lib.hid (HC.out.below hbb)
       have HOF := Lib.hid (HOF.out.below hbb)
       have HC7 := Lib.hid (HC7.out.belowS hbb)
       have HC9 := Lib.hid (HC9.out.belowS hbb)
       have HC11 := Lib.hid (HC11.out.belowS hbb)
       have HB := Lib.hid (below_then HB.out hbb)
       clear hv4 hb4 hba hbb))
  obtain ⟨b13, hb13⟩ : ∃ b, w4.heap.size = b := ⟨_, rfl⟩
  rw [hb13] at HC13 ⊢
  clear hb13
  generalize w4.alloc (.cells #[.bool t4, .slice a41 l41 k41, .slice a42 l42 k42] 38) = W4 at *
  obtain ⟨_, c0, c1, c2, _, _, _⟩ := HC11.out
  obtain ⟨_, d0, d1, d2, _, _, _⟩ := HC13.out
  go_upto_region 8 with (first
    | (go_at_call 19; (with_reducible refine (r2add_can _ _ L E _ HL.out HX4.out HFL.out HFE.out HFR.out).mono ?_); rintro e5 w5 ⟨v5, rfl, hv5, hb5⟩
       obtain ⟨t5, x5, y5, rfl, ⟨a51, l51, k51, rfl, _⟩, ⟨a52, l52, k52, rfl, _⟩⟩ := hv5.isF
       have hba := below_alloc w5 (.cells #[.bool t5, .slice a51 l51 k51, .slice a52 l52 k52] 38)
       have hbb := below_then hb5 hba
       have HC15 := Lib.hid (C3.new w5 38 (.bool t5) (.slice a51 l51 k51) (.slice a52 l52 k52))
       have HRO := Lib.hid (hv5.below hba)
       have HQ := Lib.hid (HQ.out.below hbb)
       have HC := Lib.hid (HC.out.below hbb)
       have HOF := Lib.hid (HOF.out.below hbb)
       have HC7 := Lib.hid (HC7.out.belowS hbb)
       have HC9 := Lib.hid (HC9.out.belowS hbb)
       have HB := Lib.hid (below_then HB.out hbb)
       clear hv5 hb5 hba hbb c0 c1 c2 d0 d1 d2))
  obtain ⟨b15, hb15⟩ : ∃ b, w5.heap.size = b := ⟨_, rfl⟩
  rw [hb15] at HC15 ⊢
  clear hb15
  generalize w5.alloc (.cells #[.bool t5, .slice a51 l51 k51, .slice a52 l52 k52] 38) = W5 at *
  obtain ⟨R, hR⟩ : ∃ R, L + E = R := ⟨_, rfl⟩
  rw [hR] at HRO HFR HPP
  clear hR HL HX4 HC11 HC13 HFL HFE
  obtain ⟨i3, hi3, hz3, hs3, hy3⟩ := info_parts Tryz.infoF
  have hAP := append1_fr (P := Tryz.prog) 25 38 i3 Tryz.underlying25 hi3 hz3 hs3 hy3
  clear hi3 hz3 hs3 hy3
  have svl := CellsV.sl HZ.out.1
  have lvl : slen vl = z.length := by have h := HZ.out.1.len; rwa [List.length_map] at h
  have hn10 : sn ≤ 10 := by rw [HSN.out]; exact HCP.out.le
  go_wp2_with fail
  go_loopg [17, 18] (sn) (fun g u17 u18 wr => ∃ (k : Nat), k ≤ sn ∧ g = sn - k ∧ u18 = .int .i64 k ∧ FrRow wr 38 W5.heap.size u17 (rowL k (proofV z)) ∧ Below W5.heap.size W5 wr)
  case atStart => exact ⟨0, Nat.zero_le _, rfl, rfl, FrRow.nil _ _ _, Below.refl _ _⟩
  case round =>
    obtain ⟨k, hkn, hg, rfl, hfr, hbr⟩ := hrel
    obtain ⟨wb, hwb⟩ : ∃ wb, wb = wr := ⟨_, rfl⟩
    subst hwb
    have HG := Lib.hid hg
    have HFRR := Lib.hid hfr
    have HBR := Lib.hid hbr
    have srow := hfr.sl
    obtain ⟨_, c0, c1, c2, _, _, _⟩ := HC7.out.belowS hbr
    clear hg hfr
    by_cases hkl0 : k < sn
    · have hrl : (rowL k (proofV z)).length ≤ 1000 := by rw [rowL_length]; omega
      by_cases hkl : k < z.length
      · obtain ⟨y, hy⟩ : ∃ y, z[k] = y := ⟨_, rfl⟩
        have hym : y ∈ z := hy ▸ List.getElem_mem hkl
        obtain ⟨y1, y2⟩ := HZ.out.2 y hym
        have hcl : wb.cell? (ptr vl k) = some (.int .i8 y) := by
          have h := (HZ.out.1.below (below_then HB.out hbr)).cell k (by rw [List.length_map]; exact hkl)
          rw [List.getElem_map, hy] at h
          exact h
        have S0 := Lib.hid (And.intro hcl hcl)
        have HEL : Hid (proofV z k = fq (decide (y < 0)) y.natAbs (1 + (y % 256).toNat % 3)) := Lib.hid (by unfold proofV; rw [dif_pos hkl, hy])
        have i1 : (0 : Int) ≤ (k : Int) := by omega
        have i2 : (k : Int) < (z.length : Nat) := by omega
        clear hy hym hcl
        go_wp2_with (first
          | (go_at_call 20; (with_reducible refine (r2int_nat k _ (by omega)).mono ?_); rintro e13 w13 ⟨v13, rfl, hv13, hb13⟩
             obtain ⟨t13, x13, y13, rfl, ⟨a131, l131, k131, rfl, q131⟩, ⟨a132, l132, k132, rfl, q132⟩⟩ := hv13.isF
             have hb14 := below_then hb13 (below_alloc w13 (.cells #[.bool t13, .slice a131 l131 k131, .slice a132 l132 k132] 38))
             have h1314 := hb13.size
             have HC1 := Lib.hid (C3.new w13 38 (.bool t13) (.slice a131 l131 k131) (.slice a132 l132 k132))))
        obtain ⟨wz, hwz⟩ : ∃ wz, wz = w13.alloc (.cells #[.bool t13, .slice a131 l131 k131, .slice a132 l132 k132] 38) := ⟨_, rfl⟩
        rw [← hwz] at hb14 HC1 ⊢
        clear hwz c0 c1 c2
        have S1 := Lib.hid (kp2a S0.out hb14)
        go_region_held3 (fun w' => w'.cell? (ptr vl k) = some (.int .i8 y) ∧ w'.cell? (ptr vl k) = some (.int .i8 y) ∧ Below wb.heap.size wb w') (first
          | with_reducible exact S1.out
          | with_reducible exact kp2w (by assumption) (below_drew _)
          | with_reducible exact kp2a S0.out (below_then hb14 (below_drew _))
          | with_reducible exact kp2w (by assumption) (by assumption)
          | with_reducible exact kp2s S0.out hB31 (by assumption) _ _ _) (first
          | (go_at_call 18; (with_reducible refine (r2make_p8 y y1 y2 _).mono ?_); rintro e31 w31 ⟨v31, rfl, hv31, hb31⟩
             obtain ⟨t31, x31, y31, rfl, ⟨a311, l311, k311, rfl, _⟩, ⟨a312, l312, k312, rfl, _⟩⟩ := hv31.isF
             have hB31 := below_then (kp2c (by assumption)) hb31
             have HC3 := Lib.hid (HC1.out.belowS (below_then (below_drew _) hb31))
             obtain ⟨_, c0, c1, c2, f0, f1, f2⟩ := HC3.out))
        have hE := kp2c (by assumption)
        have hv5 := hv31.set3 HC3.out (fun z => by simp) (fun z => by simp) (.bool t31) (.slice a311 l311 k311) (.slice a312 l312 k312)
        have hC5 := HC3.out.set (.bool t31) (.slice a311 l311 k311) (.slice a312 l312 k312)
        clear c0 c1 c2 f0 f1 f2
        obtain ⟨w5', hw5⟩ : ∃ w5, w5 = (((w31.setCell ⟨w13.heap.size, 0, none⟩ (.bool t31)).setCell ⟨w13.heap.size, 1, none⟩ (.slice a311 l311 k311)).setCell ⟨w13.heap.size, 2, none⟩ (.slice a312 l312 k312)) := ⟨_, rfl⟩
        rw [← hw5] at hE hv5 hC5 ⊢
        clear hw5
        obtain ⟨_, c0, c1, c2, f0, f1, f2⟩ := hC5
        have hfr5 := HFRR.out.moves (Moves.below (B := W5.heap.size) (hE.mono (Nat.le_refl _))) (Nat.le_refl _)
        have hsz5 : W5.heap.size ≤ w5'.heap.size := Nat.le_trans HBR.out.size hE.size
        go_wp2_with (first
          | (at_builtin; refine hAP w5' rfl _ _ rfl W5.heap.size _ u17 (rowL k (proofV z)) rfl hfr5 _ _ _ _ hv5 rfl hrl hsz5 ?_; intro v4' w50 ho50 hg50 hn50 hq50 sv50
             have hg5 : Below W5.heap.size w5' w50 := below_of_grown hg50 hsz5 (fun k hk => (hfr5.block k hk).1)
             have HO50 := Lib.hid ho50))
        go_roundg (sn - (k + 1))
        case measure => (have := HG.out; omega)
        case rel => exact ⟨k + 1, by omega, rfl, by go_num, by rw [← rowL_snoc, HEL.out]; exact HO50.out, (below_then HBR.out hE).trans hg5⟩
      · have HEL : Hid (proofV z k = fq false k 1) := Lib.hid (by unfold proofV; rw [dif_neg hkl])
        go_wp2_with (first
          | (go_at_call 20; (with_reducible refine (r2int_nat k _ (by omega)).mono ?_); rintro e13 w13 ⟨v13, rfl, hv13, hb13⟩
             obtain ⟨t13, x13, y13, rfl, ⟨a131, l131, k131, rfl, q131⟩, ⟨a132, l132, k132, rfl, q132⟩⟩ := hv13.isF
             have hb14 := below_then hb13 (below_alloc w13 (.cells #[.bool t13, .slice a131 l131 k131, .slice a132 l132 k132] 38))
             have hv14 := hv13.below (below_alloc w13 (.cells #[.bool t13, .slice a131 l131 k131, .slice a132 l132 k132] 38))
             have hfr5 := HFRR.out.moves (Moves.below (B := W5.heap.size) hb14) (Nat.le_refl _)
             have sz1 : (w13.alloc (.cells #[.bool t13, .slice a131 l131 k131, .slice a132 l132 k132] 38)).heap.size = w13.heap.size + 1 := by simp
             have SZ1 := Lib.hid sz1
             have hsz5 : W5.heap.size ≤ (w13.alloc (.cells #[.bool t13, .slice a131 l131 k131, .slice a132 l132 k132] 38)).heap.size := Nat.le_trans HBR.out.size hb14.size
             clear sz1)
          | (at_builtin; refine hAP (w13.alloc (.cells #[.bool t13, .slice a131 l131 k131, .slice a132 l132 k132] 38)) rfl _ _ rfl W5.heap.size _ u17 (rowL k (proofV z)) rfl hfr5 _ _ _ _ hv14 (by rw [SZ1.out]; rfl) hrl hsz5 ?_; intro v4' w50 ho50 hg50 hn50 hq50 sv50
             have hg5 : Below W5.heap.size (w13.alloc (.cells #[.bool t13, .slice a131 l131 k131, .slice a132 l132 k132] 38)) w50 := below_of_grown hg50 hsz5 (fun k hk => (hfr5.block k hk).1)
             have HO50 := Lib.hid ho50))
        go_roundg (sn - (k + 1))
        case measure => (have := HG.out; omega)
        case rel => exact ⟨k + 1, by omega, rfl, by go_num, by rw [← rowL_snoc, HEL.out]; exact HO50.out, (below_then HBR.out hb14).trans hg5⟩
    · obtain rfl : k = sn := by omega
      have hrb := HBR.out
      have HV0 : Hid (FracsC wb u17 (proofL z of.length)) := Lib.hid (by have h := HFRR.out.fracs; rw [HSN.out] at h; exact h)
      have HV0N := Lib.hid HV0.out.raw
      have HOF0 := Lib.hid (HOF.out.below hrb)
      have HC0 := Lib.hid (HC.out.below hrb)
      have HQ0 := Lib.hid (HQ.out.below hrb)
      have HRO0 := Lib.hid (HRO.out.below hrb)
      have HB0 := Lib.hid (below_then HB.out hrb)
      obtain ⟨_, d0, d1, d2, _, _, _⟩ := HC9.out.belowS hrb
      obtain ⟨_, r0, r1, r2, _, _, _⟩ := HC15.out.belowS hrb
      have hcn : cnt of = c.start.length := HCP.out.num
      have HOK1 : Hid (¬ badS ((proofL z of.length).map RF.of) of) := Lib.hid (fun hbad => hbad ⟨HCP.out.ok, by have := HCP.out.pos HT.out; omega, by rw [List.length_map]; exact (rowL_length _ _).symm, fun x hx => by obtain ⟨y, hy, rfl⟩ := List.mem_map.1 hx; exact RF.of_ok (HPP.out.vf y hy)⟩)
      have HOK2 : Hid (¬ badS ((stepV (copQ c of share).raw R (proofL z of.length)).map RF.of) of) := Lib.hid (fun hbad => hbad ⟨HCP.out.ok, by have := HCP.out.pos HT.out; omega, by rw [List.length_map, stepV_length, HRL.out], fun x hx => by obtain ⟨y, hy, rfl⟩ := List.mem_map.1 hx; exact RF.of_ok (HPP.out.wf y hy)⟩)
      have HQS1 : Hid (qs ((proofL z of.length).map RF.of) = proofL z of.length) := Lib.hid (qs_map_of _)
      have HQS2 : Hid (qs ((stepV (copQ c of share).raw R (proofL z of.length)).map RF.of) = stepV (copQ c of share).raw R (proofL z of.length)) := Lib.hid (qs_map_of _)
      have HL1 : Hid ((proofL z of.length).length = (copQ c of share).raw.start.length) := Lib.hid (by rw [show (proofL z of.length).length = of.length from rowL_length _ _]; simp [CQ.raw, copQ])
      have HL2 : Hid ((bsums of (proofL z of.length) (cnt of)).length = c.raw.start.length) := Lib.hid (by rw [bsums_length, hcn]; simp [CQ.raw])
      have HLE : Hid (of.length ≤ 128) := Lib.hid (by have := HCP.out.le; omega)
      have HQVR := Lib.hid HT.out.valid
      obtain ⟨V, hV⟩ : ∃ V, proofL z of.length = V := ⟨_, rfl⟩
      rw [hV] at HV0 HV0N HOK1 HOK2 HQS1 HQS2 HL1 HL2 HPP
      clear hV hrb hbr hcn
      go_wp2_with (first
        | (go_at_call 21; first
           | ((with_reducible refine (lsums_any u17 vo _ of _ HV0N.out HOF0.out HLE.out).mono ?_); rintro e6 w6 ⟨v6, er6, rfl, hb6, _, hok6, _⟩
              obtain ⟨rfl, hs6⟩ := hok6 HOK1.out HPP.out.s1
              rw [HQS1.out] at hs6
              have HS6 := Lib.hid hs6
              have HB6 := Lib.hid hb6
              have c0 := cell_below hb6 c0
              have c1 := cell_below hb6 c1
              have c2 := cell_below hb6 c2
              have d0 := cell_below hb6 d0
              have d1 := cell_below hb6 d1
              have d2 := cell_below hb6 d2
              have r0 := cell_below hb6 r0
              have r1 := cell_below hb6 r1
              have r2 := cell_below hb6 r2
              clear hok6 hs6 hb6)
           | ((with_reducible refine (lsums_any v7 vo _ of _ HS7N.out (HOF0.out.below HB8.out) HLE.out).mono ?_); rintro e9 w9 ⟨v9, er9, rfl, hb9, _, hok9, _⟩
              obtain ⟨rfl, hs9⟩ := hok9 HOK2.out HPP.out.b
              rw [HQS2.out, ← HPP.out.eq] at hs9
              have HS9 := Lib.hid hs9
              have HB9 := Lib.hid (below_then HB8.out hb9)
              have HS8' := Lib.hid (HS8.out.below hb9)
              clear hok9 hs9 hb9))
        | (go_at_call 22; first
           | ((with_reducible refine (step_can _ _ u17 _ R V _ (HC0.out.below HB6.out).raw HVC.out (HRO0.out.below HB6.out) (HV0.out.below HB6.out) HL1.out HPP.out.vf HPP.out.w).mono ?_); rintro e7 w7 ⟨v7, rfl, hs7, hb7⟩
              have HB7 := Lib.hid (below_then HB6.out hb7)
              have HS7 := Lib.hid hs7
              have HS67 := Lib.hid (HS6.out.below hb7)
              have d0 := cell_below hb7 d0
              have d1 := cell_below hb7 d1
              have d2 := cell_below hb7 d2
              have r0 := cell_below hb7 r0
              have r1 := cell_below hb7 r1
              have r2 := cell_below hb7 r2
              clear hs7 hb7 c0 c1 c2)
           | ((with_reducible refine (step_can _ _ v6 _ R (bsums of V (cnt of)) _ (HQ0.out.below HB7.out).raw HQVR.out (HRO0.out.below HB7.out) HS67.out HL2.out HPP.out.sf HPP.out.a).mono ?_); rintro e8 w8 ⟨v8, rfl, hs8, hb8⟩
              have HB8 := Lib.hid (below_then HB7.out hb8)
              have HS8 := Lib.hid hs8
              have HS7N := Lib.hid (HS7.out.below hb8).raw
              clear hs8 hb8))
        | (go_at_call 23; (with_reducible refine (same_fracs _ _ _ _ _ HS8'.out HS9.out).mono ?_); rintro e10 w10 ⟨⟨bb, rfl, hbb⟩, hb10⟩
           obtain rfl : bb = true := hbb.2 rfl
           have HB10 := Lib.hid (below_then HB9.out hb10))
        | (go_at_call 24; (with_reducible refine (awake_any _).mono ?_); rintro e11 w11 ⟨rfl, hb11⟩
           have HB11 := Lib.hid (below_then HB10.out hb11)))
      go_ret
      exact ⟨rfl, below_then HB0.out HB11.out⟩
end Go.Proofs.YtlpdkbmmbdfoiaaGreat
