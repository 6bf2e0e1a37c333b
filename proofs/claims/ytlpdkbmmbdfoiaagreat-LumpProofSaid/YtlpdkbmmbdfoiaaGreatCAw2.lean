/-
  package drydocklaw22: awake, the walk.
-/
import Derived.Test.YtlpdkbmmbdfoiaaGreatCAw1
import Derived.Test.YtlpdkbmmbdfoiaaGreatCLu7
namespace Go.Proofs.YtlpdkbmmbdfoiaaGreat
set_option linter.unusedVariables false
set_option linter.unusedSimpArgs false
open Go.RowKit

theorem keep12 {w0 X Y : World} {a1 a2 a3 a4 a5 a6 a7 a8 a9 a10 a11 a12 : Addr} {x1 x2 x3 x4 x5 x6 x7 x8 x9 x10 x11 x12 : Value}
    (h : X.cell? a1 = some x1 ∧ X.cell? a2 = some x2 ∧ X.cell? a3 = some x3 ∧ X.cell? a4 = some x4 ∧ X.cell? a5 = some x5 ∧ X.cell? a6 = some x6 ∧ X.cell? a7 = some x7 ∧ X.cell? a8 = some x8 ∧ X.cell? a9 = some x9 ∧ X.cell? a10 = some x10 ∧ X.cell? a11 = some x11 ∧ X.cell? a12 = some x12 ∧ Below w0.heap.size w0 X)
    (hb : Below X.heap.size X Y) : Y.cell? a1 = some x1 ∧ Y.cell? a2 = some x2 ∧ Y.cell? a3 = some x3 ∧ Y.cell? a4 = some x4 ∧ Y.cell? a5 = some x5 ∧ Y.cell? a6 = some x6 ∧ Y.cell? a7 = some x7 ∧ Y.cell? a8 = some x8 ∧ Y.cell? a9 = some x9 ∧ Y.cell? a10 = some x10 ∧ Y.cell? a11 = some x11 ∧ Y.cell? a12 = some x12 ∧ Below w0.heap.size w0 Y := by
  obtain ⟨k1, k2, k3, k4, k5, k6, k7, k8, k9, k10, k11, k12, k13⟩ := h
  exact ⟨cell_below hb k1, cell_below hb k2, cell_below hb k3, cell_below hb k4, cell_below hb k5, cell_below hb k6, cell_below hb k7, cell_below hb k8, cell_below hb k9, cell_below hb k10, cell_below hb k11, cell_below hb k12, below_then k13 hb⟩
theorem keep12b {w0 X : World} {a1 a2 a3 a4 a5 a6 a7 a8 a9 a10 a11 a12 : Addr} {x1 x2 x3 x4 x5 x6 x7 x8 x9 x10 x11 x12 : Value}
    (h : X.cell? a1 = some x1 ∧ X.cell? a2 = some x2 ∧ X.cell? a3 = some x3 ∧ X.cell? a4 = some x4 ∧ X.cell? a5 = some x5 ∧ X.cell? a6 = some x6 ∧ X.cell? a7 = some x7 ∧ X.cell? a8 = some x8 ∧ X.cell? a9 = some x9 ∧ X.cell? a10 = some x10 ∧ X.cell? a11 = some x11 ∧ X.cell? a12 = some x12 ∧ Below w0.heap.size w0 X) : Below w0.heap.size w0 X := h.2.2.2.2.2.2.2.2.2.2.2.2
set_option maxRecDepth 100000 in
set_option maxHeartbeats 3200000 in
theorem awake_any (w : World) : Calls Tryz.prog 24 #[] w (fun e w' => e = .returned (.bool true) ∧ Below w.heap.size w w') := by
  go_enter Tryz.func24, Tryz.ntmps24
  go_upto_region 6 with (first
    | (go_at_call 20; (with_reducible refine (r2int_zero _).mono ?_); rintro e1 w1 ⟨v1, rfl, hv1, hb1⟩
       obtain ⟨t1, x1, y1, rfl, ⟨a11, l11, k11, rfl, q11⟩, ⟨a12, l12, k12, rfl, q12⟩⟩ := hv1.isF)
    | (go_at_call 20; (with_reducible refine (r2int_one _).mono ?_); rintro e2 w2 ⟨v2, rfl, hv2, hb2⟩
       obtain ⟨t2, x2, y2, rfl, ⟨a21, l21, k21, rfl, q21⟩, ⟨a22, l22, k22, rfl, q22⟩⟩ := hv2.isF
       have ba1 := below_alloc w2 (.cells #[.bool t1, .slice a11 l11 k11, .slice a12 l12 k12] 38)
       have ba2 := below_alloc (w2.alloc (.cells #[.bool t1, .slice a11 l11 k11, .slice a12 l12 k12] 38)) (.cells #[.bool t2, .slice a21 l21 k21, .slice a22 l22 k22] 38)
       have hL := Lib.hid (cAw_lit' (tF := 38) (tR := 25) (tB := 4) (B := w2.heap.size + 1 + 1) (w := (w2.alloc (.cells #[.bool t1, .slice a11 l11 k11, .slice a12 l12 k12] 38)).alloc (.cells #[.bool t2, .slice a21 l21 k21, .slice a22 l22 k22] 38)) (by simp) (((hv1.below hb2).below ba1).below ba2) ((hv2.below ba1).below ba2))
       have hC2 := C3.newB (b := w2.heap.size + 1) (w2.alloc (.cells #[.bool t1, .slice a11 l11 k11, .slice a12 l12 k12] 38)) 38 (.bool t2) (.slice a21 l21 k21) (.slice a22 l22 k22) (by simp)
       have HC2 := Lib.hid hC2
       have HB2 := Lib.hid (below_then (below_then hb1 hb2) (below_then ba1 ba2))
       have HV2 := Lib.hid ((hv2.below ba1).below ba2)
       clear hC2 ba1 ba2 hv1 hv2 hb1 hb2)
    | (go_at_call 60; (with_reducible refine (coarse_any _ cAw.raw _ ((hL.out _ rfl).1.raw.below (below_alloc _ _))).mono ?_); rintro e4 w4 ⟨_, hgood, hbel4⟩; obtain ⟨v4, nx, rfl, hin4, hco⟩ := hgood cAw_tape.valid; obtain rfl := coarse001 hco; clear hgood hco
       have hCh := Lib.hid (((hL.out _ rfl).1.below (below_alloc _ _)).below hbel4)
       have HB4 := Lib.hid (below_then (below_then HB2.out (hL.out _ rfl).2.1) (below_then (below_alloc _ _) hbel4))
       have h2b := (HC2.out.belowS (hL.out _ rfl).2.1).belowS (below_then (below_alloc _ _) hbel4)
       have h3b := (C3.newB _ 28 (.slice (some ⟨w2.heap.size + 1 + 1 + 1 + 1 + 1, 0, none⟩) 3 3) (.slice (some ⟨w2.heap.size + 1 + 1 + 1 + 1 + 1 + 1, 0, none⟩) 3 3) (.slice (some ⟨w2.heap.size + 1 + 1 + 1 + 1 + 1 + 1 + 1, 0, none⟩) 3 3) (hL.out _ rfl).2.2).belowS hbel4
       have HV4 := Lib.hid ((HV2.out.below (hL.out _ rfl).2.1).below (below_then (below_alloc _ _) hbel4))
       have H2B := Lib.hid h2b
       have H3B := Lib.hid h3b
       have HIN4 := Lib.hid hin4
       obtain ⟨_, c0, c1, c2, _, _, _⟩ := h3b
       clear h2b hin4 hbel4)
    | (go_at_call 16; (with_reducible refine (quo_any _ _ cAw.raw [0, 0, 1] _ (hCh.out.raw.below (below_alloc _ _)) (ints3 _ _ 0 0 1)).mono ?_); rintro e5 w5 ⟨v5, er5, rfl, hbel5, _, hg5, _⟩; obtain ⟨rfl, hq5⟩ := hg5 check001 (by rw [quo001]; exact quo001_tape.valid); rw [quo001] at hq5; clear hg5
       obtain ⟨qr, qs5, ql, rfl, hqm, hqs, hql⟩ := hq5
       obtain ⟨rA, rN, rK, rfl, _⟩ := id hqm.sl
       obtain ⟨sA, sN, sK, rfl, _⟩ := id hqs.sl
       obtain ⟨lA, lN, lK, rfl, _⟩ := id (CellsV.sl hql)
       obtain rfl : rN = 2 := hqm.len
       obtain rfl : sN = 2 := hqs.len
       have ba6 := below_alloc w5 (.cells #[.slice rA 2 rK, .slice sA 2 sK, .slice lA lN lK] 28)
       have HB46 := Lib.hid (below_then (below_then (below_alloc w4 (.cells #[.int .i64 0, .int .i64 0, .int .i64 1] 3)) hbel5) ba6)
       have HC6 := Lib.hid (C3.new w5 28 (.slice rA 2 rK) (.slice sA 2 sK) (.slice lA lN lK))
       have HQM := Lib.hid (hqm.below ba6)
       clear hqm hqs hql ba6 c0 c1 c2)
    | (go_at_call 60; (with_reducible refine (coarse_any _ ⟨[], [], []⟩ _ (zero_chain _)).mono ?_); rintro e7 w7 ⟨hbad, _, hbel7⟩; obtain rfl := hbad zero_bad; clear hbad))
  have b47 := below_then HB46.out hbel7
  have h2w := H2B.out.belowS b47
  have h3w := H3B.out.belowS b47
  have h6w := HC6.out.belowS hbel7
  have HIN := Lib.hid (HIN4.out.below b47)
  have HCH := Lib.hid (hCh.out.below b47)
  have HV7 := Lib.hid (HV4.out.below b47)
  have hBW := below_then HB4.out b47
  have hqm := HQM.out.below hbel7
  have sR := hqm.sl
  obtain ⟨r0, hr0, hf0⟩ := hqm.at' 0 (by decide)
  have hf0' : FracsC w7 r0 [0, 1] := hf0
  obtain ⟨r0a, r0n, r0k, rfl, _⟩ := id hf0'.sl
  obtain rfl : r0n = 2 := hf0'.len
  have s0 := hf0'.sl
  obtain ⟨xa, xb, d1, d2, d3, n1, n2⟩ := hf0'.at' 1 (by decide)
  have d1' : w7.cell? (ptr (.slice r0a 2 r0k) 3) = some (.bool (decide ((1 : Rat) < 0))) := d1
  have d2' : w7.cell? (ptr (.slice r0a 2 r0k) 4) = some xa := d2
  have d3' : w7.cell? (ptr (.slice r0a 2 r0k) 5) = some xb := d3
  have HF1 : Hid (FracC w7 (.agg #[.bool (decide ((1 : Rat) < 0)), xa, xb]) 1) := Lib.hid ⟨xa, xb, rfl, n1, n2⟩
  obtain ⟨_, u0, u1, u2, _, _, _⟩ := id h2w
  obtain ⟨_, v0, v1, v2, _, _, _⟩ := id h3w
  obtain ⟨_, z0, z1, _, _, _, _⟩ := id h6w
  have S0 := Lib.hid (And.intro z0 (And.intro z1 (And.intro hr0 (And.intro d1' (And.intro d2' (And.intro d3' (And.intro u0 (And.intro u1 (And.intro u2 (And.intro v0 (And.intro v1 (And.intro v2 (Below.refl w7.heap.size w7)))))))))))))
  clear h2w h3w h6w hqm hf0 hf0' d1 d2 d3 d1' d2' d3' u0 u1 u2 v0 v1 v2 z0 z1 hr0 n1 n2 b47 hbel7
  go_region_held3 (fun w' => w'.cell? ⟨w5.heap.size, 0, none⟩ = some (.slice rA 2 rK) ∧ w'.cell? ⟨w5.heap.size, 1, none⟩ = some (.slice sA 2 sK) ∧ w'.cell? (ptr (.slice rA 2 rK) 0) = some (.slice r0a 2 r0k) ∧ w'.cell? (ptr (.slice r0a 2 r0k) 3) = some (.bool (decide ((1 : Rat) < 0))) ∧ w'.cell? (ptr (.slice r0a 2 r0k) 4) = some xa ∧ w'.cell? (ptr (.slice r0a 2 r0k) 5) = some xb ∧
      w'.cell? ⟨w2.heap.size + 1, 0, none⟩ = some (.bool t2) ∧ w'.cell? ⟨w2.heap.size + 1, 1, none⟩ = some (.slice a21 l21 k21) ∧ w'.cell? ⟨w2.heap.size + 1, 2, none⟩ = some (.slice a22 l22 k22) ∧
      w'.cell? ⟨w2.heap.size + 1 + 1 + 1 + 1 + 1 + 1 + 1 + 1, 0, none⟩ = some (.slice (some ⟨w2.heap.size + 1 + 1 + 1 + 1 + 1, 0, none⟩) 3 3) ∧ w'.cell? ⟨w2.heap.size + 1 + 1 + 1 + 1 + 1 + 1 + 1 + 1, 1, none⟩ = some (.slice (some ⟨w2.heap.size + 1 + 1 + 1 + 1 + 1 + 1, 0, none⟩) 3 3) ∧ w'.cell? ⟨w2.heap.size + 1 + 1 + 1 + 1 + 1 + 1 + 1 + 1, 2, none⟩ = some (.slice (some ⟨w2.heap.size + 1 + 1 + 1 + 1 + 1 + 1 + 1, 0, none⟩) 3 3) ∧
      Below w7.heap.size w7 w') (first
    | with_reducible exact keep12 S0.out (below_drew _)
    | with_reducible exact keep12 (by assumption) (below_alloc _ _)
    | with_reducible exact keep12 (by assumption) (by assumption)) (first
    | (go_at_call 85; (with_reducible refine (same_ints _ _ [0, 0, 1] [0, 0, 1] _ (HIN.out.below (keep12b (by assumption))) ?_).mono ?_); (first | with_reducible exact ints3 _ _ 0 0 1 | with_reducible exact IntsV.below (ints3 _ _ 0 0 1) (below_drew _)); rintro e8 w8 ⟨⟨b8, rfl, hb8⟩, hbel8⟩; obtain rfl : b8 = true := hb8.2 rfl; clear hb8)
    | (go_at_call 61; (with_reducible refine (same_frac _ _ 1 1 _ (HF1.out.below (keep12b (by assumption))) (HV7.out.below (keep12b (by assumption)))).mono ?_); rintro e9 w9 ⟨⟨b9, rfl, hb9⟩, hbel9⟩; obtain rfl : b9 = true := hb9.2 rfl; clear hb9)
    | (go_at_call 64; (with_reducible refine (check_any _ _ cAw.raw [0, 0, 1] _ (HCH.out.raw.below (keep12b (by assumption))) (HIN.out.below (keep12b (by assumption)))).mono ?_); rintro e10 w10 ⟨⟨b10, rfl, hb10⟩, hbel10⟩; obtain rfl : b10 = true := hb10.2 check001; clear hb10)
    | (go_at_call 64; (with_reducible refine (check_any _ _ cAw.raw [0, 1, 1] _ (HCH.out.raw.below (keep12b (by assumption))) ?_).mono ?_); (first | with_reducible exact ints3 _ _ 0 1 1 | with_reducible exact IntsV.below (ints3 _ _ 0 1 1) (below_drew _)); rintro e11 w11 ⟨⟨b11, rfl, hb11⟩, hbel11⟩; obtain rfl : b11 = false := Bool.eq_false_iff.2 (fun h => check011 (hb11.1 h)); clear hb11))
  all_goals
    have hEnd := keep12b (by assumption)
    go_wp2_with fail
    go_ret
    exact ⟨rfl, below_then hBW hEnd⟩
end Go.Proofs.YtlpdkbmmbdfoiaaGreat
