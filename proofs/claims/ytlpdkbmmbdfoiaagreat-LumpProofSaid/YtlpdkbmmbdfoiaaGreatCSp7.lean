/-
  package chain: Step.
  Ahead of it: package chain: rated, slow, for a rate as it comes.
-/
import Derived.Test.YtlpdkbmmbdfoiaaGreatCSp3
import Derived.Test.YtlpdkbmmbdfoiaaGreatCSp5
namespace Go.Proofs.YtlpdkbmmbdfoiaaGreat
set_option linter.unusedVariables false
set_option linter.unusedSimpArgs false
open Go.RowKit

theorem cmp_rc (va vb : Value) (s : Bool) (n d : Nat) (p q : Rat) (w : World) (ha : FracN w va s n d) (hb : FracC w vb q) (hn : okN n d) (hp : fq s n d = p) (hq : fits q) :
    Calls Tryz.prog 130 #[va, vb] w fun en w' => en = .returned (.tuple #[.int .i64 (cmpR p q), .int .i64 0]) ∧ Below w.heap.size w w' := by
  have h := cmp_frac va vb _ _ _ _ _ _ w ha hb.raw hn (fits_okN hq)
  rw [fq_self, hp] at h
  exact h
set_option maxRecDepth 100000 in
set_option maxHeartbeats 3200000 in
theorem rated_raw (va vx : Value) (c : RC) (t1 : Bool) (nr dr : Nat) (w : World) (ha : ChainN w va c) (hv : validP c) (hx : FracN w vx t1 nr dr) (hf : okN nr dr) :
    Calls Tryz.prog 81 #[va, vx] w (fun e w' => e = .returned (.bool (!t1 && !decide (nr = 0))) ∧ Below w.heap.size w w') := by
  obtain ⟨rv, sv, lv, rfl, hr, hs, hl⟩ := id ha
  obtain ⟨ra, rn, rk, rfl, _⟩ := id hr.sl
  obtain ⟨sa, sn, sk, rfl, _⟩ := id hs.sl
  obtain ⟨la, ln, lk, rfl, _⟩ := id (CellsV.sl hl)
  obtain ⟨x1, y1, rfl, hx4, hx5⟩ := id hx
  obtain ⟨a11, l11, k11, rfl, _⟩ := hx4.slen.1
  obtain ⟨a12, l12, k12, rfl, _⟩ := hx5.slen.1
  have hbx := below_alloc w (.cells #[.slice ra rn rk, .slice sa sn sk, .slice la ln lk] 28)
  have hb2 := below_alloc (w.alloc (.cells #[.slice ra rn rk, .slice sa sn sk, .slice la ln lk] 28)) (.cells #[.bool t1, .slice a11 l11 k11, .slice a12 l12 k12] 38)
  have HC := Lib.hid ((C3.new w 28 (.slice ra rn rk) (.slice sa sn sk) (.slice la ln lk)).belowS hb2)
  have HR := Lib.hid (C3.newB (b := w.heap.size + 1) (w.alloc (.cells #[.slice ra rn rk, .slice sa sn sk, .slice la ln lk] 28)) 38 (.bool t1) (.slice a11 l11 k11) (.slice a12 l12 k12) (by simp))
  have HBW := Lib.hid (below_then hbx hb2)
  have HA := Lib.hid (ha.below HBW.out)
  have HX := Lib.hid (hx.below HBW.out)
  have HV := Lib.hid hv
  clear hr hs hl ha hv hbx hb2 hx hx4 hx5
  go_enter Tryz.func81, Tryz.ntmps81
  go_upto_region 1 with fail
  have HF := Lib.hid hf
  generalize (w.alloc (.cells #[.slice ra rn rk, .slice sa sn sk, .slice la ln lk] 28)).alloc (.cells #[.bool t1, .slice a11 l11 k11, .slice a12 l12 k12] 38) = W2 at *
  obtain ⟨_, c0, c1, c2, _, _, _⟩ := HC.out
  go_wp2_with (first
    | (go_at_call 68; (with_reducible refine (valid_chain _ c _ HA.out).mono ?_); rintro e1 w1 ⟨⟨bv, rfl, hbv⟩, hb1⟩; obtain rfl : bv = true := hbv.2 HV.out; clear hbv
       have HX1 := Lib.hid (HX.out.below hb1)
       have HR1 := Lib.hid (HR.out.belowS hb1)
       have HB1 := Lib.hid (below_then HBW.out hb1)
       clear hb1
       obtain ⟨_, d0, d1, d2, _, _, _⟩ := HR1.out)
    | (go_at_call 79; (with_reducible refine (valid_ok _ _ _ _ _ HX1.out HF.out).mono ?_); rintro e2 w2 ⟨rfl, hb2⟩
       have HX2 := Lib.hid (HX1.out.below hb2)
       have HR2 := Lib.hid (HR1.out.belowS hb2)
       have HB2 := Lib.hid (below_then HB1.out hb2)
       clear hb2 d0 d1 d2
       obtain ⟨_, d0, d1, d2, _, _, _⟩ := HR2.out)
    | (go_at_call 145; (with_reducible refine (above_any _ _ _ _ _ HX2.out).mono ?_); rintro e3 w3 ⟨rfl, hb3⟩
       have HB3 := Lib.hid (below_then HB2.out hb3)))
  go_ret
  exact ⟨rfl, HB3.out⟩
set_option maxRecDepth 100000 in
set_option maxHeartbeats 3200000 in
theorem rated_no (va vx : Value) (c : RC) (t1 : Bool) (nr dr : Nat) (w : World) (ha : ChainN w va c) (hv : validP c) (hx : FracN w vx t1 nr dr) (hf : ¬ okN nr dr) :
    Calls Tryz.prog 81 #[va, vx] w (fun e w' => e = .returned (.bool false) ∧ Below w.heap.size w w') := by
  obtain ⟨rv, sv, lv, rfl, hr, hs, hl⟩ := id ha
  obtain ⟨ra, rn, rk, rfl, _⟩ := id hr.sl
  obtain ⟨sa, sn, sk, rfl, _⟩ := id hs.sl
  obtain ⟨la, ln, lk, rfl, _⟩ := id (CellsV.sl hl)
  obtain ⟨x1, y1, rfl, hx4, hx5⟩ := id hx
  obtain ⟨a11, l11, k11, rfl, _⟩ := hx4.slen.1
  obtain ⟨a12, l12, k12, rfl, _⟩ := hx5.slen.1
  have hbx := below_alloc w (.cells #[.slice ra rn rk, .slice sa sn sk, .slice la ln lk] 28)
  have hb2 := below_alloc (w.alloc (.cells #[.slice ra rn rk, .slice sa sn sk, .slice la ln lk] 28)) (.cells #[.bool t1, .slice a11 l11 k11, .slice a12 l12 k12] 38)
  have HC := Lib.hid ((C3.new w 28 (.slice ra rn rk) (.slice sa sn sk) (.slice la ln lk)).belowS hb2)
  have HR := Lib.hid (C3.newB (b := w.heap.size + 1) (w.alloc (.cells #[.slice ra rn rk, .slice sa sn sk, .slice la ln lk] 28)) 38 (.bool t1) (.slice a11 l11 k11) (.slice a12 l12 k12) (by simp))
  have HBW := Lib.hid (below_then hbx hb2)
  have HA := Lib.hid (ha.below HBW.out)
  have HX := Lib.hid (hx.below HBW.out)
  have HV := Lib.hid hv
  clear hr hs hl ha hv hbx hb2 hx hx4 hx5
  go_enter Tryz.func81, Tryz.ntmps81
  go_upto_region 1 with fail
  have HF := Lib.hid hf
  generalize (w.alloc (.cells #[.slice ra rn rk, .slice sa sn sk, .slice la ln lk] 28)).alloc (.cells #[.bool t1, .slice a11 l11 k11, .slice a12 l12 k12] 38) = W2 at *
  obtain ⟨_, c0, c1, c2, _, _, _⟩ := HC.out
  go_wp2_with (first
    | (go_at_call 68; (with_reducible refine (valid_chain _ c _ HA.out).mono ?_); rintro e1 w1 ⟨⟨bv, rfl, hbv⟩, hb1⟩; obtain rfl : bv = true := hbv.2 HV.out; clear hbv
       have HX1 := Lib.hid (HX.out.below hb1)
       have HR1 := Lib.hid (HR.out.belowS hb1)
       have HB1 := Lib.hid (below_then HBW.out hb1)
       clear hb1
       obtain ⟨_, d0, d1, d2, _, _, _⟩ := HR1.out)
    | (go_at_call 79; (with_reducible refine (valid_no _ _ _ _ _ HX1.out HF.out).mono ?_); rintro e2 w2 ⟨rfl, hb2⟩
       have HX2 := Lib.hid (HX1.out.below hb2)
       have HR2 := Lib.hid (HR1.out.belowS hb2)
       have HB2 := Lib.hid (below_then HB1.out hb2)
       clear hb2 d0 d1 d2
       obtain ⟨_, d0, d1, d2, _, _, _⟩ := HR2.out))
  go_ret
  exact ⟨rfl, HB2.out⟩
set_option maxRecDepth 100000 in
set_option maxHeartbeats 3200000 in
theorem slow_raw (va vx : Value) (c : RC) (t1 : Bool) (nr dr : Nat) (q : Rat) (w : World) (ha : ChainN w va c) (hv : validP c) (hx : FracN w vx t1 nr dr) (hf : okN nr dr) (hfq : fq t1 nr dr = q) :
    Calls Tryz.prog 82 #[va, vx] w (fun e w' => e = .returned (.bool (decide (q < leaveTo c c.rates.length))) ∧ Below w.heap.size w w') := by
  obtain ⟨rv, sv, lv, rfl, hr, hs, hl⟩ := id ha
  obtain ⟨ra, rn, rk, rfl, _⟩ := id hr.sl
  obtain ⟨sa, sn, sk, rfl, _⟩ := id hs.sl
  obtain ⟨la, ln, lk, rfl, _⟩ := id (CellsV.sl hl)
  obtain ⟨x1, y1, rfl, hx4, hx5⟩ := id hx
  obtain ⟨a11, l11, k11, rfl, _⟩ := hx4.slen.1
  obtain ⟨a12, l12, k12, rfl, _⟩ := hx5.slen.1
  have hbx := below_alloc w (.cells #[.slice ra rn rk, .slice sa sn sk, .slice la ln lk] 28)
  have hb2 := below_alloc (w.alloc (.cells #[.slice ra rn rk, .slice sa sn sk, .slice la ln lk] 28)) (.cells #[.bool t1, .slice a11 l11 k11, .slice a12 l12 k12] 38)
  have HC := Lib.hid ((C3.new w 28 (.slice ra rn rk) (.slice sa sn sk) (.slice la ln lk)).belowS hb2)
  have HR := Lib.hid (C3.newB (b := w.heap.size + 1) (w.alloc (.cells #[.slice ra rn rk, .slice sa sn sk, .slice la ln lk] 28)) 38 (.bool t1) (.slice a11 l11 k11) (.slice a12 l12 k12) (by simp))
  have HBW := Lib.hid (below_then hbx hb2)
  have HA := Lib.hid (ha.below HBW.out)
  have HX := Lib.hid (hx.below HBW.out)
  have HV := Lib.hid hv
  clear hr hs hl ha hv hbx hb2 hx hx4 hx5
  have HF := Lib.hid hf
  have HFQ := Lib.hid hfq
  clear hf hfq
  have HFL := Lib.hid (leave_fits HV.out _ (Nat.le_refl _))
  have HLT : Hid (decide (cmpR q (leaveTo c c.rates.length) < 0) = decide (q < leaveTo c c.rates.length)) := Lib.hid (decide_eq_decide.2 (cmpR_lt _ _))
  go_enter Tryz.func82, Tryz.ntmps82
  go_upto_region 1 with fail
  generalize (w.alloc (.cells #[.slice ra rn rk, .slice sa sn sk, .slice la ln lk] 28)).alloc (.cells #[.bool t1, .slice a11 l11 k11, .slice a12 l12 k12] 38) = W2 at *
  obtain ⟨L, hL⟩ : ∃ L, leaveTo c c.rates.length = L := ⟨_, rfl⟩
  have HL := Lib.hid hL
  rw [hL] at HFL HLT
  clear hL
  have hbN := below_drew (B := W2.heap.size) W2
  have HAN := Lib.hid (HA.out.below hbN)
  have HXN := Lib.hid (HX.out.below hbN)
  obtain ⟨_, c0, c1, c2, _, _, _⟩ := HC.out.belowS hbN
  obtain ⟨_, d0, d1, d2, _, _, _⟩ := HR.out.belowS hbN
  go_region_held3 (fun w' => w'.cell? ⟨w.heap.size, 0, none⟩ = some (.slice ra rn rk) ∧ w'.cell? ⟨w.heap.size, 1, none⟩ = some (.slice sa sn sk) ∧ w'.cell? ⟨w.heap.size, 2, none⟩ = some (.slice la ln lk) ∧ w'.cell? ⟨w.heap.size + 1, 0, none⟩ = some (.bool t1) ∧ w'.cell? ⟨w.heap.size + 1, 1, none⟩ = some (.slice a11 l11 k11) ∧ w'.cell? ⟨w.heap.size + 1, 2, none⟩ = some (.slice a12 l12 k12)) (exact ⟨c0, c1, c2, d0, d1, d2⟩) (first
    | (go_at_call 114; (with_reducible refine (leaving_any _ c _ HAN.out HV.out).mono ?_); rw [HL.out]; rintro e3 w3 ⟨v3, rfl, hv3, hb3⟩
       obtain ⟨t3, x3, y3, rfl, ⟨a31, l31, k31, rfl, _⟩, ⟨a32, l32, k32, rfl, _⟩⟩ := hv3.isF
       have HV3 := Lib.hid hv3
       have HX3 := Lib.hid (HXN.out.below hb3)
       have HB3 := Lib.hid (below_then (below_then HBW.out hbN) hb3)
       have c0 := cell_below hb3 c0
       have c1 := cell_below hb3 c1
       have c2 := cell_below hb3 c2
       have d0 := cell_below hb3 d0
       have d1 := cell_below hb3 d1
       have d2 := cell_below hb3 d2)
    | (go_at_call 130; (with_reducible refine (cmp_rc _ _ t1 nr dr q L _ HX3.out HV3.out HF.out HFQ.out HFL.out).mono ?_); rintro e4 w4 ⟨rfl, hb4⟩
       have HB4 := Lib.hid (below_then HB3.out hb4)
       have c0 := cell_below hb4 c0
       have c1 := cell_below hb4 c1
       have c2 := cell_below hb4 c2
       have d0 := cell_below hb4 d0
       have d1 := cell_below hb4 d1
       have d2 := cell_below hb4 d2))
  go_wp2
  go_ret
  exact ⟨by rw [HL.out, ← HLT.out]; rfl, HB4.out⟩
end Go.Proofs.YtlpdkbmmbdfoiaaGreat
namespace Go.Proofs.YtlpdkbmmbdfoiaaGreat
set_option linter.unusedVariables false
set_option linter.unusedSimpArgs false
open Go.RowKit

/-- A rate as it comes is a number greater than 0. -/
def posR (s : Bool) (n d : Nat) : Prop := okN n d ∧ s = false ∧ n ≠ 0
theorem posR.q {s : Bool} {n d : Nat} (h : posR s n d) : 0 < fq s n d := by
  obtain ⟨h1, rfl, h2⟩ := h
  have h3 : ¬ fq false n d < 0 := of_decide_eq_false (fq_neg false n d h1.1)
  have h4 : fq false n d ≠ 0 := fq_ne _ h2 h1.1
  grind
set_option maxRecDepth 100000 in
set_option maxHeartbeats 3200000 in
theorem step_ok (va vx vv : Value) (c : RC) (t1 : Bool) (nr dr : Nat) (q : Rat) (row : List RF) (w : World) (ha : ChainN w va c) (hv : validP c) (hx : FracN w vx t1 nr dr) (hvv : FracsN w vv row) (hp : posR t1 nr dr) (hfq : fq t1 nr dr = q)
    (hl : row.length = c.start.length) (hok : ∀ x ∈ row, x.ok) (hle : leaveTo c c.rates.length ≤ q)
    (h1 : ∀ i j, i < c.rates.length → j < c.rates.length → fits ((rowsQ c i).getD j 0 / q)) (h2 : ∀ i, i < c.rates.length → fits (lsum (rowsQ c i) / q) ∧ fits (1 - lsum (rowsQ c i) / q))
    (hw : wtF c.rates.length c.rates.length (stepE c q) + wts (qs row) ≤ 3800) :
    Calls Tryz.prog 22 #[va, vx, vv] w (fun e w' => ∃ v, e = .returned (.tuple #[v, .int .i64 0]) ∧ FracsC w' v (rowL c.rates.length fun j => sg c.rates.length fun i => (qs row).getD i 0 * stepE c q i j) ∧ Below w.heap.size w w') := by
  have hlen : c.rates.length = c.start.length := hv.2.2.2.1
  have h128 : c.start.length ≤ 128 := hv.2.1
  obtain ⟨rv, sv, lv, rfl, hr, hs, hl⟩ := id ha
  obtain ⟨ra, rn, rk, rfl, _⟩ := id hr.sl
  obtain ⟨sa, sn, sk, rfl, _⟩ := id hs.sl
  obtain ⟨la, ln, lk, rfl, _⟩ := id (CellsV.sl hl)
  obtain ⟨x1, y1, rfl, hx4, hx5⟩ := id hx
  obtain ⟨a11, l11, k11, rfl, _⟩ := hx4.slen.1
  obtain ⟨a12, l12, k12, rfl, _⟩ := hx5.slen.1
  have hbx := below_alloc w (.cells #[.slice ra rn rk, .slice sa sn sk, .slice la ln lk] 28)
  have hb2 := below_alloc (w.alloc (.cells #[.slice ra rn rk, .slice sa sn sk, .slice la ln lk] 28)) (.cells #[.bool t1, .slice a11 l11 k11, .slice a12 l12 k12] 38)
  have HC := Lib.hid ((C3.new w 28 (.slice ra rn rk) (.slice sa sn sk) (.slice la ln lk)).belowS hb2)
  have HR := Lib.hid (C3.newB (b := w.heap.size + 1) (w.alloc (.cells #[.slice ra rn rk, .slice sa sn sk, .slice la ln lk] 28)) 38 (.bool t1) (.slice a11 l11 k11) (.slice a12 l12 k12) (by simp))
  have HBW := Lib.hid (below_then hbx hb2)
  have hsn : sn = c.start.length := hs.len
  have HA := Lib.hid (ha.below HBW.out)
  have HX := Lib.hid (hx.below HBW.out)
  have HV := Lib.hid hv
  clear hr hs hl ha hv hbx hb2 hx hx4 hx5
  obtain ⟨v1, vn, v3, rfl, _⟩ := id hvv.sl
  have svv := hvv.sl
  have HVV := Lib.hid (hvv.below HBW.out)
  have hvn : vn = row.length := hvv.len
  have HVN := Lib.hid hvn
  clear hvv hvn
  have HF := Lib.hid hp.1
  have HFQ := Lib.hid hfq
  have HPOS : Hid ((!t1 && !decide (nr = 0)) = true) := Lib.hid (by rw [hp.2.1, decide_eq_false hp.2.2]; rfl)
  have HQ0 : Hid (q ≠ 0) := Lib.hid (fun h => by have := hp.q; rw [hfq, h] at this; exact absurd this (by decide))
  clear hp hfq
  have HSLOW : Hid (decide (q < leaveTo c c.rates.length) = false) := Lib.hid (decide_eq_false (Rat.not_lt.2 hle))
  have HM : Hid (∀ w0 va vx, ChainN w0 va c → FracN w0 vx t1 nr dr → Calls Tryz.prog 83 #[va, vx] w0 (fun e w' => ∃ v, e = .returned (.tuple #[v, .int .i64 0]) ∧ MatF w' v c.rates.length c.rates.length (stepE c q) ∧ Below w0.heap.size w0 w')) :=
    Lib.hid (fun w0 va vx k1 k2 => matrix_any va vx c t1 nr dr q w0 k1 HV.out k2 HF.out HFQ.out HQ0.out h1 h2)
  have hfm : fitM c.rates.length c.rates.length (stepE c q) := fun i j hi hj => by
    unfold stepE; split
    · exact (h2 i hi).2
    · exact h1 i j hi hj
  have HS : Hid (∀ w0 va vv, MatF w0 va c.rates.length c.rates.length (stepE c q) → FracsN w0 vv row → Calls Tryz.prog 84 #[va, vv] w0 fun e w' => ∃ v, e = .returned (.tuple #[v, .int .i64 0]) ∧ FracsC w' v (rowL c.rates.length fun j => sg c.rates.length fun i => (qs row).getD i 0 * stepE c q i j) ∧ Below w0.heap.size w0 w') :=
    Lib.hid (fun w0 va vv k1 k2 => cstep_any va vv c.rates.length (stepE c q) row w0 k1 k2 (by omega) (by omega) hok hfm hw)
  have HOK := Lib.hid hok
  have HL : Hid (row.length = sn) := Lib.hid (by omega)
  obtain rfl : vn = sn := by have := HVN.out; omega
  have hvn : vn ≤ 128 := by omega
  clear hle h1 h2 hfm hok hw hl hlen hsn
  go_enter Tryz.func22, Tryz.ntmps22
  go_upto_region 1 with fail
  generalize (w.alloc (.cells #[.slice ra rn rk, .slice sa vn sk, .slice la ln lk] 28)).alloc (.cells #[.bool t1, .slice a11 l11 k11, .slice a12 l12 k12] 38) = W2 at *
  obtain ⟨_, c0, c1, c2, _, _, _⟩ := HC.out
  obtain ⟨_, d0, d1, d2, _, _, _⟩ := HR.out
  go_wp2_with (first
    | (go_at_call 81; (with_reducible refine (rated_raw _ _ c t1 nr dr _ HA.out HV.out HX.out HF.out).mono ?_); rw [HPOS.out]; rintro e1 w1 ⟨rfl, hb1⟩
       have HA1 := Lib.hid (HA.out.below hb1)
       have HX1 := Lib.hid (HX.out.below hb1)
       have HC1 := Lib.hid (HC.out.belowS hb1)
       have HR1 := Lib.hid (HR.out.belowS hb1)
       have HVV1 := Lib.hid (HVV.out.below hb1)
       have HB1 := Lib.hid (below_then HBW.out hb1)
       clear hb1
       obtain ⟨_, c0, c1, c2, _, _, _⟩ := HC1.out
       obtain ⟨_, d0, d1, d2, _, _, _⟩ := HR1.out)
    | fail)
  go_loopg [26] (vn) (fun g u26 wr => ∃ (k : Nat), k ≤ vn ∧ g = vn - k ∧ u26 = .int .i64 k ∧ Below w1.heap.size w1 wr)
  case atStart => exact ⟨0, Nat.zero_le _, rfl, rfl, Below.refl _ _⟩
  case round =>
    obtain ⟨k, hkn, hg, rfl, hbr⟩ := hrel
    obtain ⟨w2, hw2⟩ : ∃ w2, w2 = wr := ⟨_, rfl⟩
    subst hw2
    have HG := Lib.hid hg
    have HBR := Lib.hid hbr
    clear hg c0 c1 c2 d0 d1 d2
    by_cases hkl : k < vn
    · have hk2 : k < row.length := by rw [HL.out]; exact hkl
      obtain ⟨ea, eb, g1, g2, g3, g4, g5⟩ := (HVV1.out.below hbr).at' k hk2
      have HXO : Hid ((row[k]'hk2).ok) := Lib.hid (HOK.out _ (List.getElem_mem hk2))
      obtain ⟨x, hxe⟩ : ∃ x, row[k]'hk2 = x := ⟨_, rfl⟩
      rw [hxe] at g1 g4 g5 HXO
      have HXO : Hid (okN x.n x.d) := Lib.hid HXO.out
      obtain ⟨ea1, ea2, ea3, rfl, _⟩ := g4.slen.1
      obtain ⟨eb1, eb2, eb3, rfl, _⟩ := g5.slen.1
      have hb8 := below_alloc w2 (.cells #[.bool x.neg, .slice ea1 ea2 ea3, .slice eb1 eb2 eb3] 38)
      have HXN : Hid (FracN (w2.alloc (.cells #[.bool x.neg, .slice ea1 ea2 ea3, .slice eb1 eb2 eb3] 38)) (.agg #[.bool x.neg, .slice ea1 ea2 ea3, .slice eb1 eb2 eb3]) x.neg x.n x.d) := Lib.hid (FracN.below ⟨_, _, rfl, g4, g5⟩ hb8)
      have j1 : (0 : Int) ≤ (k : Int) := by omega
      have j2 : (k : Int) < (vn : Nat) := by omega
      clear g4 g5 hxe
      go_wp2_with (go_at_call 79; (with_reducible refine (valid_ok _ _ _ _ _ HXN.out HXO.out).mono ?_); rintro e21 w21 ⟨rfl, hb21⟩
                   have HB21 := Lib.hid (below_then HBR.out (below_then hb8 hb21)))
      go_roundg (vn - (k + 1))
      case measure => (have := HG.out; omega)
      case rel => exact ⟨k + 1, by omega, rfl, by go_num, HB21.out⟩
    · obtain rfl : k = vn := by omega
      have HA2 := Lib.hid (HA1.out.below hbr)
      have HX2 := Lib.hid (HX1.out.below hbr)
      have HC2 := Lib.hid (HC1.out.belowS hbr)
      have HR2 := Lib.hid (HR1.out.belowS hbr)
      have HVV2 := Lib.hid (HVV1.out.below hbr)
      have HB2 := Lib.hid (below_then HB1.out hbr)
      clear hbr HBR HC1 HR1
      obtain ⟨_, c0, c1, c2, _, _, _⟩ := HC2.out
      obtain ⟨_, d0, d1, d2, _, _, _⟩ := HR2.out
      go_wp2_with (first
        | (go_at_call 82; (with_reducible refine (slow_raw _ _ c t1 nr dr q _ HA2.out HV.out HX2.out HF.out HFQ.out).mono ?_); rw [HSLOW.out]; rintro e3 w3 ⟨rfl, hb3⟩
           have HA3 := Lib.hid (HA2.out.below hb3)
           have HX3 := Lib.hid (HX2.out.below hb3)
           have HC3 := Lib.hid (HC2.out.belowS hb3)
           have HR3 := Lib.hid (HR2.out.belowS hb3)
           have HVV3 := Lib.hid (HVV2.out.below hb3)
           have HB3 := Lib.hid (below_then HB2.out hb3)
           clear hb3 c0 c1 c2 d0 d1 d2
           obtain ⟨_, c0, c1, c2, _, _, _⟩ := HC3.out
           obtain ⟨_, d0, d1, d2, _, _, _⟩ := HR3.out)
        | (go_at_call 83; (with_reducible refine (HM.out _ _ _ HA3.out HX3.out).mono ?_); rintro e4 w4 ⟨v4, rfl, hm4, hb4⟩
           have HM4 := Lib.hid hm4
           have HVV4 := Lib.hid (HVV3.out.below hb4)
           have HB4 := Lib.hid (below_then HB3.out hb4)
           clear hm4 hb4)
        | (go_at_call 84; (with_reducible refine (HS.out _ _ _ HM4.out HVV4.out).mono ?_); rintro e5 w5 ⟨v5, rfl, hv5, hb5⟩
           have HB5 := Lib.hid (below_then HB4.out hb5)))
      go_ret2
      exact ⟨_, rfl, hv5, HB5.out⟩
end Go.Proofs.YtlpdkbmmbdfoiaaGreat
