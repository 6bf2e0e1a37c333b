/-
  Lifting a law: what came in reads as it did in every later world that only adds to the first; small integers that came in. No law is named here.
  Ahead of it: package drydockref01: Shift of 1; package drydockref02: Power; package drydocklaw05: power. package drydocklaw05: awake. LinearWeights: the law function returns true. What the laws of package linear share.
-/
import Derived.Test.YtbhkibilnmoljaaGreatQLp2
import Derived.Test.YtbhkibilnmoljaaGreatQRa6
import Derived.Test.YtbhkibilnmoljaaGreatQRb8
import Derived.Test.YtbhkibilnmoljaaGreatQRg3
import Derived.Test.YtbhkibilnmoljaaGreatQRg6
import Derived.Test.YtbhkibilnmoljaaGreatQWg4
import Derived.Test.YtbhkibilnmoljaaGreatRows
import Derived.WalkKit
import Derived.ProofKit
import Derived.OpenShut
import Derived.ChangeSlices
namespace Go.Proofs.YtbhkibilnmoljaaGreat
set_option linter.unusedVariables false
set_option linter.unusedSimpArgs false
open Go.RowKit

theorem natV_new1 (w : World) (e : TypeId) (x : Nat) (hx : x < 4294967296) : NatV (w.alloc (.cells #[.int .u32 (x : Nat)] e)) (.slice (some ⟨w.heap.size, 0, none⟩) 1 1) [x] := by
  refine ⟨⟨_, 1, 1, rfl, Nat.le_refl _, by simp [maxLen], fun e => by cases e⟩, rfl, fun j hj => ?_, fun z hz => ?_⟩
  · obtain rfl : j = 0 := by simp at hj; omega
    simp [ptr, base, Addr.add]
  · simp at hz; omega
theorem natC_new1 (w : World) (e : TypeId) : NatC (w.alloc (.cells #[.int .u32 1] e)) (.slice (some ⟨w.heap.size, 0, none⟩) 1 1) 1 := ⟨by
  have h := natV_new1 w e 1 (by decide)
  have e1 : limbs 1 = [1] := by decide +kernel
  rw [e1]; exact h, by decide +kernel⟩
theorem nlen_pow2 {n k : Nat} (h : n < 32 * k) : nlen (2 ^ n) ≤ k := nbits_nlen (nbits_lt (Nat.pow_lt_pow_right (by decide) h))
set_option maxHeartbeats 800000 in
theorem rshift_one (va : Value) (n : Nat) (w : World) (ha : NatC w va 1) (hn : n ≤ 2000) :
    Calls Tryz.prog 40 #[va, .int .i64 n] w fun e w' => ∃ v, e = .returned (.tuple #[v, .int .i64 0]) ∧ NatC w' v (2 ^ n) ∧ Below w.heap.size w w' := by
  have HA := Lib.hid ha.nat
  have i0 : (0 : Int) ≤ (n : Int) := by omega
  have i1 : (n : Int) ≤ 2000 := by omega
  have HV1 : Hid (val (limbs 1) = 1) := Lib.hid (by decide +kernel)
  have HL1 : Hid ((limbs 1).length = 1) := Lib.hid (by decide +kernel)
  have HL : Hid (nlen (2 ^ n) ≤ 512) := Lib.hid (nlen_pow2 (by omega))
  clear ha
  go_enter Tryz.func40, Tryz.ntmps40
  go_wp2_with (first
    | (go_at_call 62; first
       | ((with_reducible refine (rlarge_no va 1 _ HA.out (by decide +kernel)).mono ?_); rintro e1 w1 ⟨rfl, hb1⟩)
       | ((with_reducible refine (rlarge_no _ (2 ^ n) _ hc4.nat HL.out).mono ?_); rintro e5 w5 ⟨rfl, hb5⟩))
    | (go_at_call 63; (with_reducible refine (rtrim_any va 1 _ (HA.out.below hb1)).mono ?_); rintro e2 w2 ⟨r, rfl, hr, hb2⟩
       have hB2 := below_then hb1 hb2
       have sr := hr.v.sl
       have lr : slen r = 1 := hr.v.len.trans HL1.out
       have HR := Lib.hid hr.v)
    | (go_at_call 65; (with_reducible refine (rup_any r (limbs 1) n _ HR.out (by decide +kernel) (by omega)).mono ?_); rw [HV1.out, Nat.mul_one]; rintro e4 w4 ⟨c, rfl, hc4, hb4⟩))
  go_ret2
  exact ⟨_, rfl, hc4.below hb5, below_then (below_then hB2 hb4) hb5⟩
/-- 2 ^ n or its inverse. -/
def powQ (n : Nat) (below : Bool) : Rat := if below then mkRat 1 (2 ^ n) else mkRat ((2 ^ n : Nat) : Int) 1
theorem powQ_below (n : Nat) : (powQ n true).num.natAbs = 1 ∧ (powQ n true).den = 2 ^ n ∧ decide (powQ n true < 0) = false := by
  have hz : (2 : Nat) ^ n ≠ 0 := Nat.ne_of_gt (Nat.pow_pos (by decide))
  have e : powQ n true = fq false 1 (2 ^ n) := rfl
  rw [e]
  exact ⟨by rw [fq_natAbs _ _ _ hz, Nat.gcd_one_left, Nat.div_one], by rw [fq_den _ _ _ hz, Nat.gcd_one_left, Nat.div_one], by rw [fq_neg _ _ _ hz]; rfl⟩
theorem powQ_up (n : Nat) : (powQ n false).num.natAbs = 2 ^ n ∧ (powQ n false).den = 1 ∧ decide (powQ n false < 0) = false := by
  have e : powQ n false = fq false (2 ^ n) 1 := rfl
  rw [e]
  exact ⟨by rw [fq_natAbs _ _ _ (by decide), Nat.gcd_one_right, Nat.div_one], by rw [fq_den _ _ _ (by decide), Nat.gcd_one_right, Nat.div_one], by rw [fq_neg _ _ _ (by decide)]; rfl⟩
set_option maxHeartbeats 800000 in
theorem r2power_any (n : Nat) (w : World) (hn : n ≤ 2000) : Calls Tryz.prog 16 #[.int .i64 n] w (RF1 w (powQ n true)) := by
  have HR0 := Lib.hid (C3.new w 25 (.bool false) (.slice none 0 0) (.slice none 0 0))
  have hb0 := below_alloc w (.cells #[.bool false, .slice none 0 0, .slice none 0 0] 25)
  obtain ⟨q1, q2, q3⟩ := powQ_below n
  have HQ := Lib.hid (And.intro q1 (And.intro q2 q3))
  clear q1 q2 q3
  go_enter Tryz.func16, Tryz.ntmps16
  go_upto_region 1 with fail
  obtain ⟨W0, hW0⟩ : ∃ W0, w.alloc (.cells #[.bool false, .slice none 0 0, .slice none 0 0] 25) = W0 := ⟨_, rfl⟩
  rw [hW0] at hb0 HR0 ⊢
  clear hW0
  have hbx := below_alloc W0 (.cells #[.int .u32 1] 42)
  have HN := Lib.hid (natC_new1 W0 42)
  go_wp2_with (go_at_call 40; (with_reducible refine (rshift_one _ n _ HN.out hn).mono ?_); rintro e4 w4 ⟨v4, rfl, hv4, hb4⟩
               obtain ⟨p1, p2, p3, rfl, _⟩ := id hv4.v.sl
               have hby := below_alloc w4 (.cells #[.int .u32 1] 42)
               have HV4 := Lib.hid (hv4.below hby)
               have HN4 := Lib.hid (natC_new1 w4 42)
               have hbz := below_then (below_then hbx hb4) hby
               have HR4 := Lib.hid (HR0.out.belowS hbz)
               obtain ⟨_, c0, c1, c2, f0, f1, f2⟩ := HR4.out)
  refine bodyPost_c1 rfl rfl Tryz.aggF Tryz.sizeF (HR4.out.set _ _ _) rfl ?_
  have hF : FracC (w4.alloc (.cells #[.int .u32 1] 42)) (.agg #[.bool false, .slice (some ⟨w4.heap.size, 0, none⟩) 1 1, .slice p1 p2 p3]) (powQ n true) :=
    ⟨_, _, by rw [HQ.out.2.2], by rw [HQ.out.1]; exact HN4.out, by rw [HQ.out.2.1]; exact HV4.out⟩
  exact ⟨_, rfl, hF.set3 HR4.out (fun z => by simp) (fun z => by simp) _ _ _, below_set3 (below_then hb0 hbz) (Nat.le_refl _) _ _ _⟩
set_option maxHeartbeats 800000 in
theorem power_any (n : Nat) (below : Bool) (w : World) (hn : n ≤ 2000) : Calls Tryz.prog 4 #[.int .i64 n, .bool below] w (RF1 w (powQ n below)) := by
  have HR0 := Lib.hid (C3.new w 25 (.bool false) (.slice none 0 0) (.slice none 0 0))
  have hb0 := below_alloc w (.cells #[.bool false, .slice none 0 0, .slice none 0 0] 25)
  obtain ⟨q1, q2, q3⟩ := powQ_below n
  have HQ := Lib.hid (And.intro q1 (And.intro q2 q3))
  obtain ⟨u1, u2, u3⟩ := powQ_up n
  have HU := Lib.hid (And.intro u1 (And.intro u2 u3))
  clear q1 q2 q3 u1 u2 u3
  go_enter Tryz.func4, Tryz.ntmps4
  go_upto_region 1 with fail
  obtain ⟨W0, hW0⟩ : ∃ W0, w.alloc (.cells #[.bool false, .slice none 0 0, .slice none 0 0] 25) = W0 := ⟨_, rfl⟩
  rw [hW0] at hb0 HR0 ⊢
  clear hW0
  cases below with
  | true =>
    go_wp2_with (go_at_call 16; (with_reducible refine (r2power_any n _ hn).mono ?_); rintro e4 w4 ⟨v4, rfl, hv4, hb4⟩
                 obtain ⟨t9, x9, y9, rfl, ⟨a91, l91, k91, rfl, _⟩, ⟨a92, l92, k92, rfl, _⟩⟩ := hv4.isF
                 have hby := below_alloc w4 (.cells #[.bool t9, .slice a91 l91 k91, .slice a92 l92 k92] 25)
                 have HV4 := Lib.hid (hv4.below hby)
                 have hbz := below_then hb4 hby
                 have HR4 := Lib.hid (HR0.out.belowS hbz)
                 obtain ⟨_, c0, c1, c2, f0, f1, f2⟩ := HR4.out)
    refine bodyPost_c1 rfl rfl Tryz.aggF Tryz.sizeF (HR4.out.set _ _ _) rfl ?_
    exact ⟨_, rfl, HV4.out.set3 HR4.out (fun z => by simp) (fun z => by simp) _ _ _, below_set3 (below_then hb0 hbz) (Nat.le_refl _) _ _ _⟩
  | false =>
    go_wp2_with (go_at_call 16; (with_reducible refine (r2power_any n _ hn).mono ?_); rintro e4 w4 ⟨v4, rfl, hv4, hb4⟩
                 obtain ⟨x9, y9, rfl, n1, n2⟩ := id hv4
                 obtain ⟨a91, l91, k91, rfl, _⟩ := id n1.v.sl
                 obtain ⟨a92, l92, k92, rfl, _⟩ := id n2.v.sl
                 have hby := below_alloc w4 (.cells #[.bool (decide (powQ n true < 0)), .slice a91 l91 k91, .slice a92 l92 k92] 25)
                 have hbq := below_alloc (w4.alloc (.cells #[.bool (decide (powQ n true < 0)), .slice a91 l91 k91, .slice a92 l92 k92] 25)) (.cells #[.int .u32 1] 42)
                 have HN2 := Lib.hid ((n2.below hby).below hbq)
                 have hn4 := natC_new1 (w4.alloc (.cells #[.bool (decide (powQ n true < 0)), .slice a91 l91 k91, .slice a92 l92 k92] 25)) 42
                 rw [show (w4.alloc (.cells #[.bool (decide (powQ n true < 0)), .slice a91 l91 k91, .slice a92 l92 k92] 25)).heap.size = w4.heap.size + 1 from by simp] at hn4
                 have HN4 := Lib.hid hn4
                 have hbz := below_then (below_then hb4 hby) hbq
                 have HR4 := Lib.hid (HR0.out.belowS hbz)
                 obtain ⟨_, c0, c1, c2, f0, f1, f2⟩ := HR4.out)
    refine bodyPost_c1 rfl rfl Tryz.aggF Tryz.sizeF (HR4.out.set _ _ _) rfl ?_
    have hN2 := HN2.out
    rw [HQ.out.2.1] at hN2
    have hF : FracC ((w4.alloc (.cells #[.bool (decide (powQ n true < 0)), .slice a91 l91 k91, .slice a92 l92 k92] 25)).alloc (.cells #[.int .u32 1] 42)) (.agg #[.bool false, .slice a92 l92 k92, .slice (some ⟨w4.heap.size + 1, 0, none⟩) 1 1]) (powQ n false) :=
      ⟨_, _, by rw [HU.out.2.2], by rw [HU.out.1]; exact hN2, by rw [HU.out.2.1]; exact HN4.out⟩
    exact ⟨_, rfl, hF.set3 HR4.out (fun z => by simp) (fun z => by simp) _ _ _, below_set3 (below_then hb0 hbz) (Nat.le_refl _) _ _ _⟩
end Go.Proofs.YtbhkibilnmoljaaGreat
namespace Go.Proofs.YtbhkibilnmoljaaGreat
set_option linter.unusedVariables false
set_option linter.unusedSimpArgs false
open Go.RowKit

theorem fracs_two {w : World} {b : Nat} {x y z x' y' z' : Value} {r r' : Rat} (hb : VarB w b #[x, y, z, x', y', z']) (hf : FracC w (.agg #[x, y, z]) r) (hf' : FracC w (.agg #[x', y', z']) r') : FracsC w (.slice (some ⟨b, 0, none⟩) 2 2) [r, r'] := by
  obtain ⟨a1, b1, ha, h4, h5⟩ := hf
  injection ha with ha
  injection ha with ha
  simp only [List.cons.injEq, and_true] at ha
  obtain ⟨rfl, rfl, rfl⟩ := ha
  obtain ⟨a2, b2, ha, h6, h7⟩ := hf'
  injection ha with ha
  injection ha with ha
  simp only [List.cons.injEq, and_true] at ha
  obtain ⟨rfl, rfl, rfl⟩ := ha
  have hp : ∀ k, ptr (.slice (some ⟨b, 0, none⟩) 2 2) k = ⟨b, k, none⟩ := fun k => by simp only [ptr, base, Addr.add_lit, Nat.zero_add]
  refine ⟨⟨_, 2, 2, rfl, Nat.le_refl _, by simp [maxLen], fun e => by cases e⟩, rfl, fun j hj => ?_⟩
  rcases (show j = 0 ∨ j = 1 by simp at hj; omega) with rfl | rfl
  · exact ⟨y, z, by rw [hp]; exact hb.cell 0 rfl, by rw [hp]; exact hb.cell 1 rfl, by rw [hp]; exact hb.cell 2 rfl, h4, h5⟩
  · exact ⟨y', z', by rw [hp]; exact hb.cell 3 rfl, by rw [hp]; exact hb.cell 4 rfl, by rw [hp]; exact hb.cell 5 rfl, h6, h7⟩
theorem mat_two {w : World} {b : Nat} {r s : Value} {m : Nat} {A : Mx} (hb : VarB w b #[r, s]) (hr : FracsC w r (rowL m (A 0))) (hs : FracsC w s (rowL m (A 1))) : MatF w (.slice (some ⟨b, 0, none⟩) 2 2) 2 m A := by
  have hp : ∀ k, ptr (.slice (some ⟨b, 0, none⟩) 2 2) k = ⟨b, k, none⟩ := fun k => by simp only [ptr, base, Addr.add_lit, Nat.zero_add]
  refine ⟨⟨_, 2, 2, rfl, Nat.le_refl _, by simp [maxLen], fun e => by cases e⟩, rfl, fun j hj => ?_⟩
  rcases (show j = 0 ∨ j = 1 by omega) with rfl | rfl
  · exact ⟨r, by rw [hp]; exact hb.cell 0 rfl, hr⟩
  · exact ⟨s, by rw [hp]; exact hb.cell 1 rfl, hs⟩
theorem r2int_two (w : World) : Calls Tryz.prog 35 #[.int .i64 2] w (RF1 w 2) := by
  have h := r2int_nat 2 w (by decide)
  have e : fq false 2 1 = 2 := by decide +kernel
  rw [e] at h
  exact h
theorem r2int_three (w : World) : Calls Tryz.prog 35 #[.int .i64 3] w (RF1 w 3) := by
  have h := r2int_nat 3 w (by decide)
  have e : fq false 3 1 = 3 := by decide +kernel
  rw [e] at h
  exact h
def awA : Mx := fun i j => if i = 0 ∧ j = 0 then 2 else 1
def awb : Nat → Rat := fun i => if i = 0 then 3 else 2
theorem aw_row0 : rowL 2 (awA 0) = [2, 1] := by decide +kernel
theorem aw_row1 : rowL 2 (awA 1) = [1, 1] := by decide +kernel
theorem aw_b : rowL 2 awb = [3, 2] := by decide +kernel
theorem aw_dt : dt 2 awA = 1 := by decide +kernel
theorem small_int {n : Nat} (hn : n ≤ 15) : smallQ (fq false n 1) ∧ wt (fq false n 1) ≤ 8 := ⟨small_fq false hn (by decide) (by decide), small_wt_fq false hn (by decide) (by decide)⟩
theorem small2 : smallQ 2 ∧ wt 2 ≤ 8 := by have h := small_int (n := 2) (by decide); rwa [show fq false 2 1 = 2 by decide +kernel] at h
theorem small3 : smallQ 3 ∧ wt 3 ≤ 8 := by have h := small_int (n := 3) (by decide); rwa [show fq false 3 1 = 3 by decide +kernel] at h
theorem small1 : smallQ 1 ∧ wt 1 ≤ 8 := by have h := small_int (n := 1) (by decide); rwa [show fq false 1 1 = 1 by decide +kernel] at h
theorem aw_small (i j : Nat) : smallQ (awA i j) ∧ wt (awA i j) ≤ 8 := by
  unfold awA; split
  · exact small2
  · exact small1
theorem awb_small (i : Nat) : smallQ (awb i) ∧ wt (awb i) ≤ 8 := by
  unfold awb; split
  · exact small3
  · exact small2
theorem aw_fit : fitM 2 2 awA := fun i j _ _ => small_fits (aw_small i j).1
theorem awb_fit : ∀ i, i < 2 → fits (awb i) := fun i _ => small_fits (awb_small i).1
theorem aw_slim : slimE false 2 (2 + 1) 2 (besideM 2 awA (fun i _ => awb i)) := solve_slim (by decide) (fun i j _ _ => (aw_small i j).1) (fun i _ => (awb_small i).1)
theorem aw_hq : ∀ i, i < 2 → (elim false 2 (besideM 2 awA (fun i _ => awb i)) 2).r = 2 → (elim false 2 (besideM 2 awA (fun i _ => awb i)) 2).A i i ≠ 0 ∧ fits ((elim false 2 (besideM 2 awA (fun i _ => awb i)) 2).A i 2 / (elim false 2 (besideM 2 awA (fun i _ => awb i)) 2).A i i) := solve_hq (by decide) (fun i j _ _ => (aw_small i j).1) (fun i _ => (awb_small i).1)
theorem aw_slim2 : slimE true 2 2 2 awA := slimE_small (by decide) (by decide) (fun i j _ _ => (aw_small i j).1)
theorem aw_wt2 : wtF 2 2 awA ≤ 1900 := by
  have h1 := wtF_le (n := 2) (m := 2) (A := awA) (K := 8) fun i j _ _ => (aw_small i j).2
  omega
theorem aw_full : ¬ (elim false 2 (besideM 2 awA (fun i _ => awb i)) 2).r < 2 := by rw [rank_full (by rw [aw_dt]; decide)]; decide
theorem aw_sol : rowL 2 (fun i => (elim false 2 (besideM 2 awA (fun i _ => awb i)) 2).A i 2 / (elim false 2 (besideM 2 awA (fun i _ => awb i)) 2).A i i) = [1, 1] := by decide +kernel
theorem aw_wt : wtF 2 2 awA + wts (qs (rawV 2 awb)) ≤ 1900 := by
  have h1 := wtF_le (n := 2) (m := 2) (A := awA) (K := 8) fun i j _ _ => (aw_small i j).2
  have h2 := wts_rawV (n := 2) (K := 8) (f := awb) fun j _ => (awb_small j).2
  have h3 : wts (qs (rawV 2 awb)) ≤ 2 * 8 := h2
  omega
set_option maxRecDepth 100000 in
set_option maxHeartbeats 3200000 in
theorem awake_any (w : World) : Calls Tryz.prog 15 #[] w (fun e w' => e = .returned (.bool true) ∧ Below w.heap.size w w') := by
  have tok1 : True := trivial
  have tok2 : True := trivial
  have tok3 : True := trivial
  have tok4 : True := trivial
  have tok5 : True := trivial
  have tok6 : True := trivial
  go_enter Tryz.func15, Tryz.ntmps15
  go_upto_region 4 with (first
    | (go_at_call 35; have _t := tok1; (with_reducible refine (r2int_two _).mono ?_); rintro e1 w1 ⟨v1, rfl, hv1, hb1⟩
       obtain ⟨t1, x1, y1, rfl, ⟨a11, l11, k11, rfl, _⟩, ⟨a12, l12, k12, rfl, _⟩⟩ := hv1.isF
       clear tok1 _t)
    | (go_at_call 35; have _t := tok2; (with_reducible refine (r2int_one _).mono ?_); rintro e2 w2 ⟨v2, rfl, hv2, hb2⟩
       obtain ⟨t2, x2, y2, rfl, ⟨a21, l21, k21, rfl, _⟩, ⟨a22, l22, k22, rfl, _⟩⟩ := hv2.isF
       clear tok2 _t
       have ba2 := below_alloc w2 (.cells #[.bool t1, .slice a11 l11 k11, .slice a12 l12 k12, .bool t2, .slice a21 l21 k21, .slice a22 l22 k22] 25)
       have HL2 : Hid (FracsC (w2.alloc (.cells #[.bool t1, .slice a11 l11 k11, .slice a12 l12 k12, .bool t2, .slice a21 l21 k21, .slice a22 l22 k22] 25)) (.slice (some ⟨w2.heap.size, 0, none⟩) 2 2) (rowL 2 (awA 0))) := Lib.hid (by rw [aw_row0]; exact fracs_two (VarB.new w2 _ _) ((hv1.below hb2).below ba2) (hv2.below ba2))
       have HB2 := Lib.hid (below_then (below_then hb1 hb2) ba2)
       clear ba2 hv1 hv2 hb1 hb2)
    | (go_at_call 35; have _t := tok3; (with_reducible refine (r2int_one _).mono ?_); rintro e3 w3 ⟨v3, rfl, hv3, hb3⟩
       obtain ⟨t3, x3, y3, rfl, ⟨a31, l31, k31, rfl, _⟩, ⟨a32, l32, k32, rfl, _⟩⟩ := hv3.isF
       clear tok3 _t)
    | (go_at_call 35; have _t := tok4; (with_reducible refine (r2int_one _).mono ?_); rintro e4 w4 ⟨v4, rfl, hv4, hb4⟩
       obtain ⟨t4, x4, y4, rfl, ⟨a41, l41, k41, rfl, _⟩, ⟨a42, l42, k42, rfl, _⟩⟩ := hv4.isF
       clear tok4 _t
       have ba4 := below_alloc w4 (.cells #[.bool t3, .slice a31 l31 k31, .slice a32 l32 k32, .bool t4, .slice a41 l41 k41, .slice a42 l42 k42] 25)
       have bm4 := below_alloc (w4.alloc (.cells #[.bool t3, .slice a31 l31 k31, .slice a32 l32 k32, .bool t4, .slice a41 l41 k41, .slice a42 l42 k42] 25)) (.cells #[.slice (some ⟨w2.heap.size, 0, none⟩) 2 2, .slice (some ⟨w4.heap.size, 0, none⟩) 2 2] 27)
       have sz4 : (w4.alloc (.cells #[.bool t3, .slice a31 l31 k31, .slice a32 l32 k32, .bool t4, .slice a41 l41 k41, .slice a42 l42 k42] 25)).heap.size = w4.heap.size + 1 := by simp
       have HL4 : FracsC (w4.alloc (.cells #[.bool t3, .slice a31 l31 k31, .slice a32 l32 k32, .bool t4, .slice a41 l41 k41, .slice a42 l42 k42] 25)) (.slice (some ⟨w4.heap.size, 0, none⟩) 2 2) (rowL 2 (awA 1)) := by rw [aw_row1]; exact fracs_two (VarB.new w4 _ _) ((hv3.below hb4).below ba4) (hv4.below ba4)
       have VM := VarB.new (w4.alloc (.cells #[.bool t3, .slice a31 l31 k31, .slice a32 l32 k32, .bool t4, .slice a41 l41 k41, .slice a42 l42 k42] 25)) #[.slice (some ⟨w2.heap.size, 0, none⟩) 2 2, .slice (some ⟨w4.heap.size, 0, none⟩) 2 2] 27
       rw [sz4] at VM
       have HM4 := Lib.hid (mat_two (A := awA) (m := 2) VM ((HL2.out.below (below_then (below_then hb3 hb4) ba4)).below bm4) (HL4.below bm4))
       have HB4 := Lib.hid (below_then HB2.out (below_then (below_then (below_then hb3 hb4) ba4) bm4))
       clear ba4 bm4 sz4 HL4 VM hv3 hv4 hb3 hb4)
    | (go_at_call 35; have _t := tok5; (with_reducible refine (r2int_three _).mono ?_); rintro e5 w5 ⟨v5, rfl, hv5, hb5⟩
       obtain ⟨t5, x5, y5, rfl, ⟨a51, l51, k51, rfl, _⟩, ⟨a52, l52, k52, rfl, _⟩⟩ := hv5.isF
       clear tok5 _t)
    | (go_at_call 35; have _t := tok6; (with_reducible refine (r2int_two _).mono ?_); rintro e6 w6 ⟨v6, rfl, hv6, hb6⟩
       obtain ⟨t6, x6, y6, rfl, ⟨a61, l61, k61, rfl, _⟩, ⟨a62, l62, k62, rfl, _⟩⟩ := hv6.isF
       clear tok6 _t
       have ba6 := below_alloc w6 (.cells #[.bool t5, .slice a51 l51 k51, .slice a52 l52 k52, .bool t6, .slice a61 l61 k61, .slice a62 l62 k62] 25)
       have HL6 : Hid (FracsC (w6.alloc (.cells #[.bool t5, .slice a51 l51 k51, .slice a52 l52 k52, .bool t6, .slice a61 l61 k61, .slice a62 l62 k62] 25)) (.slice (some ⟨w6.heap.size, 0, none⟩) 2 2) (rowL 2 awb)) := Lib.hid (by rw [aw_b]; exact fracs_two (VarB.new w6 _ _) ((hv5.below hb6).below ba6) (hv6.below ba6))
       have HB6 := Lib.hid (below_then HB4.out (below_then (below_then hb5 hb6) ba6))
       have HM6 := Lib.hid (HM4.out.below (below_then (below_then hb5 hb6) ba6))
       clear ba6 hv5 hv6 hb5 hb6)
    | (go_at_call 5; (with_reducible refine (solve_lin _ _ 2 awA awb _ HM6.out HL6.out (by decide) (by decide) aw_fit awb_fit aw_wt aw_slim aw_hq).mono ?_); rintro e7 w7 ⟨v7, er7, rfl, hb7, _, hs7⟩; obtain ⟨rfl, hf7⟩ := hs7 aw_full; clear hs7
       rw [aw_sol] at hf7
       obtain ⟨s71, s72, s73, rfl, _⟩ := id hf7.sl
       have HF7 := Lib.hid hf7
       have HB7 := Lib.hid (below_then HB6.out hb7)
       have HM7 := Lib.hid (HM6.out.below hb7)
       clear hf7 hb7)
    | (go_at_call 39; (with_reducible refine (det_lin _ 2 awA _ HM7.out (by decide) (by decide) aw_fit aw_wt2 aw_slim2).mono ?_); rw [show detE 2 awA = 1 by rw [detE_dt, aw_dt]]; rintro e8 w8 ⟨v8, rfl, hv8, hb8⟩
       obtain ⟨t8, x8, y8, rfl, ⟨a81, l81, k81, rfl, _⟩, ⟨a82, l82, k82, rfl, _⟩⟩ := hv8.isF
       have ba8 := below_alloc w8 (.cells #[.bool t8, .slice a81 l81 k81, .slice a82 l82 k82] 25)
       have HV8 := Lib.hid (hv8.below ba8)
       have HB8 := Lib.hid (below_then HB7.out (below_then hb8 ba8))
       have HF8 := Lib.hid (HF7.out.below (below_then hb8 ba8))
       have HC8 := Lib.hid (C3.new w8 25 (.bool t8) (.slice a81 l81 k81) (.slice a82 l82 k82))
       clear hv8 hb8 ba8))
  have tok9 : True := trivial
  have tok10 : True := trivial
  have tok11 : True := trivial
  obtain ⟨_, c0, c1, c2, _, _, _⟩ := HC8.out
  obtain ⟨wz, hwz⟩ : ∃ wz, wz = (w8.alloc (.cells #[.bool t8, .slice a81 l81 k81, .slice a82 l82 k82] 25)) := ⟨_, rfl⟩
  rw [← hwz] at c0 c1 c2 HV8 HF8 HB8 ⊢
  clear hwz HC8
  have S0 := Lib.hid (And.intro c0 (And.intro c1 c2))
  clear c0 c1 c2
  go_region_held3 (fun w' => w'.cell? ⟨w8.heap.size, 0, none⟩ = some (.bool t8) ∧ w'.cell? ⟨w8.heap.size, 1, none⟩ = some (.slice a81 l81 k81) ∧ w'.cell? ⟨w8.heap.size, 2, none⟩ = some (.slice a82 l82 k82) ∧ Below wz.heap.size wz w') (first
    | with_reducible exact kp3a S0.out (Below.refl _ _)
    | with_reducible exact kp3a S0.out (below_drew _)
    | with_reducible exact kp3w (by assumption) (below_drew _)
    | with_reducible exact kp3w (by assumption) (below_alloc _ _)
    | with_reducible exact kp3w (by assumption) (by assumption)) (first
    | (go_at_call 35; have _t := tok9; (with_reducible refine (r2int_one _).mono ?_); rintro e9 w9 ⟨v9, rfl, hv9, hb9⟩
       obtain ⟨t9, x9, y9, rfl, ⟨a91, l91, k91, rfl, _⟩, ⟨a92, l92, k92, rfl, _⟩⟩ := hv9.isF
       clear tok9 _t)
    | (go_at_call 35; have _t := tok10; (with_reducible refine (r2int_one _).mono ?_); rintro e10 w10 ⟨v10, rfl, hv10, hb10⟩
       obtain ⟨t10, x10, y10, rfl, ⟨a101, l101, k101, rfl, _⟩, ⟨a102, l102, k102, rfl, _⟩⟩ := hv10.isF
       clear tok10 _t
       have ba10 := below_alloc w10 (.cells #[.bool t9, .slice a91 l91 k91, .slice a92 l92 k92, .bool t10, .slice a101 l101 k101, .slice a102 l102 k102] 25)
       have HL10 : Hid (FracsC (w10.alloc (.cells #[.bool t9, .slice a91 l91 k91, .slice a92 l92 k92, .bool t10, .slice a101 l101 k101, .slice a102 l102 k102] 25)) (.slice (some ⟨w10.heap.size, 0, none⟩) 2 2) [1, 1]) := Lib.hid (fracs_two (VarB.new w10 _ _) ((hv9.below hb10).below ba10) (hv10.below ba10))
       clear ba10)
    | (go_at_call 13; (with_reducible refine (same_fracs _ _ [1, 1] [1, 1] _ (HF8.out.below (kp3c (by assumption))) (by first | with_reducible exact HL10.out | with_reducible exact HL10.out.below (below_drew _))).mono ?_); rintro e12 w12 ⟨⟨b12, rfl, hb12⟩, hbel12⟩; obtain rfl : b12 = true := hb12.2 rfl; clear hb12)
    | (go_at_call 35; have _t := tok11; (with_reducible refine (r2int_one _).mono ?_); rintro e11 w11 ⟨v11, rfl, hv11, hb11⟩
       obtain ⟨t11, x11, y11, rfl, ⟨a111, l111, k111, rfl, _⟩, ⟨a112, l112, k112, rfl, _⟩⟩ := hv11.isF
       clear tok11 _t)
    | (go_at_call 38; (with_reducible refine (same_frac _ _ 1 1 _ (HV8.out.below (kp3c (by assumption))) (by first | with_reducible exact hv11 | with_reducible exact hv11.below (below_drew _))).mono ?_); rintro e13 w13 ⟨⟨b13, rfl, hb13⟩, hbel13⟩; obtain rfl : b13 = true := hb13.2 rfl; clear hb13))
  all_goals
    have hEnd := kp3c (by assumption)
    go_wp2_with fail
    go_ret
    exact ⟨rfl, below_then HB8.out hEnd⟩
end Go.Proofs.YtbhkibilnmoljaaGreat
namespace Go.Proofs.YtbhkibilnmoljaaGreat
set_option linter.unusedVariables false
set_option linter.unusedSimpArgs false
open Go.RowKit

def powN (n : Nat) (b : Bool) : Nat := if b then 1 else 2 ^ n
def powD (n : Nat) (b : Bool) : Nat := if b then 2 ^ n else 1
theorem powQ_fq (n : Nat) (b : Bool) : powQ n b = fq false (powN n b) (powD n b) := by cases b <;> rfl
theorem powN_pos (n : Nat) (b : Bool) : powN n b ≠ 0 := by
  have : (2 : Nat) ^ n ≠ 0 := Nat.ne_of_gt (Nat.pow_pos (by decide))
  unfold powN; split <;> omega
theorem powD_pos (n : Nat) (b : Bool) : powD n b ≠ 0 := by
  have : (2 : Nat) ^ n ≠ 0 := Nat.ne_of_gt (Nat.pow_pos (by decide))
  unfold powD; split <;> omega
theorem powN_le (n : Nat) (b : Bool) : powN n b ≤ 2 ^ n := by
  have : 0 < (2 : Nat) ^ n := Nat.pow_pos (by decide)
  unfold powN; split <;> omega
theorem powD_le (n : Nat) (b : Bool) : powD n b ≤ 2 ^ n := by
  have : 0 < (2 : Nat) ^ n := Nat.pow_pos (by decide)
  unfold powD; split <;> omega
theorem nbits_two {x y m k : Nat} (hx : x ≤ 2 ^ m) (hy : y ≤ 2 ^ k) (h : m + k ≤ 4000) : nbits (x * y) ≤ 4096 := by
  have h1 : x * y ≤ 2 ^ (m + k) := by rw [Nat.pow_add]; exact Nat.mul_le_mul hx hy
  have key : ∀ N, m + k < N → x * y < 2 ^ N := fun N hN => Nat.lt_of_le_of_lt h1 (Nat.pow_lt_pow_right (by decide) hN)
  have key2 : ∀ N, m + k < N → nbits (x * y) ≤ N := fun N hN => nbits_lt (key N hN)
  exact key2 _ (by omega)
theorem powQ_fits (n : Nat) (b : Bool) (hn : n ≤ 2000) : fits (powQ n b) := by
  rw [powQ_fq]
  refine fits_ok _ ⟨powD_pos _ _, ?_, ?_⟩
  · have := nbits_two (x := powD n b) (y := 1) (m := n) (k := 0) (powD_le _ _) (by decide) (by omega)
    rwa [Nat.mul_one] at this
  · have := nbits_two (x := powN n b) (y := 1) (m := n) (k := 0) (powN_le _ _) (by decide) (by omega)
    rwa [Nat.mul_one] at this
theorem powQ_quo (m k : Nat) (b c : Bool) (hm : m ≤ 2000) (hk : k ≤ 2000) : fits (powQ m b / powQ k c) := by
  rw [powQ_fq, powQ_fq, fq_quo _ _ (powN_pos _ _) (powD_pos _ _)]
  refine fits_ok _ ⟨Nat.mul_ne_zero (powD_pos _ _) (powN_pos _ _), ?_, ?_⟩
  · exact nbits_two (powD_le _ _) (powN_le _ _) (by omega)
  · exact nbits_two (powN_le _ _) (powD_le _ _) (by omega)
theorem powQ_ne (n : Nat) (b : Bool) : powQ n b ≠ 0 := fun h => by
  have h1 : (powQ n b).num.natAbs = 0 := by rw [h]; rfl
  cases b with
  | true => rw [(powQ_below n).1] at h1; cases h1
  | false => rw [(powQ_up n).1] at h1; exact absurd h1 (Nat.ne_of_gt (Nat.pow_pos (by decide)))
theorem powQ_inv (k : Nat) (c : Bool) (hk : k ≤ 2000) : fits (1 / powQ k c) := powQ_quo 0 k false c (by decide) hk
theorem matf_one {w : World} {b : Nat} {r : Value} {p : Rat} (hb : VarB w b #[r]) (hr : FracsC w r [p]) : MatF w (.slice (some ⟨b, 0, none⟩) 1 1) 1 1 (elM p) := by
  refine ⟨⟨_, 1, 1, rfl, Nat.le_refl _, by simp [maxLen], fun e => by cases e⟩, rfl, fun j hj => ?_⟩
  obtain rfl : j = 0 := by omega
  have hp : ∀ k, ptr (.slice (some ⟨b, 0, none⟩) 1 1) k = ⟨b, k, none⟩ := fun k => by simp only [ptr, base, Addr.add_lit, Nat.zero_add]
  exact ⟨r, by rw [hp]; exact hb.cell 0 rfl, hr⟩
set_option maxRecDepth 100000 in
set_option maxHeartbeats 6400000 in
theorem weights_law (x0 x1 : Nat) (b2 b3 : Bool) (w : World) (h0 : x0 < 256) (h1 : x1 < 256) :
    Calls Tryz.prog 3 #[.int .u8 x0, .int .u8 x1, .bool b2, .bool b3] w (fun e w' => e = .returned (.bool true) ∧ Below w.heap.size w w') := by
  have HP1 : Hid (∀ w0, Calls Tryz.prog 4 #[.int .i64 (1897 + (x0 : Int) % 5), .bool b2] w0 (RF1 w0 (powQ (1897 + x0 % 5) b2))) := Lib.hid (fun w0 => by
    have h := power_any (1897 + x0 % 5) b2 w0 (by omega)
    rwa [show (((1897 + x0 % 5 : Nat)) : Int) = 1897 + (x0 : Int) % 5 by omega] at h)
  have HP2 : Hid (∀ w0, Calls Tryz.prog 4 #[.int .i64 ((x1 : Int) % 4), .bool b3] w0 (RF1 w0 (powQ (x1 % 4) b3))) := Lib.hid (fun w0 => by
    have h := power_any (x1 % 4) b3 w0 (by omega)
    rwa [show (((x1 % 4 : Nat)) : Int) = (x1 : Int) % 4 by omega] at h)
  have HP3 : Hid (∀ w0, Calls Tryz.prog 4 #[.int .i64 (1897 + (x0 : Int) % 5 + (x1 : Int) % 4), .bool b3] w0 (RF1 w0 (powQ (1897 + x0 % 5 + x1 % 4) b3))) := Lib.hid (fun w0 => by
    have h := power_any (1897 + x0 % 5 + x1 % 4) b3 w0 (by omega)
    rwa [show (((1897 + x0 % 5 + x1 % 4 : Nat)) : Int) = 1897 + (x0 : Int) % 5 + (x1 : Int) % 4 by omega] at h)
  have HFP := Lib.hid (powQ_fits (1897 + x0 % 5) b2 (by omega))
  have HFQ := Lib.hid (powQ_fits (x1 % 4) b3 (by omega))
  have HNP := Lib.hid (powQ_ne (1897 + x0 % 5) b2)
  have HQP := Lib.hid (powQ_quo (x1 % 4) (1897 + x0 % 5) b3 b2 (by omega) (by omega))
  have HIP := Lib.hid (powQ_inv (1897 + x0 % 5) b2 (by omega))
  obtain ⟨p, hp⟩ : ∃ p, powQ (1897 + x0 % 5) b2 = p := ⟨_, rfl⟩
  obtain ⟨q, hq⟩ : ∃ q, powQ (x1 % 4) b3 = q := ⟨_, rfl⟩
  obtain ⟨r, hr⟩ : ∃ r, powQ (1897 + x0 % 5 + x1 % 4) b3 = r := ⟨_, rfl⟩
  rw [hp] at HP1 HFP HNP HIP
  rw [hq] at HP2 HFQ
  rw [hp, hq] at HQP
  rw [hr] at HP3
  clear hp hq hr
  obtain ⟨⟨L1, c1⟩, h1'⟩ : ∃ R, solAns p q = R := ⟨_, rfl⟩
  obtain ⟨⟨L2, c2⟩, h2'⟩ : ∃ R, invAns p = R := ⟨_, rfl⟩
  obtain ⟨⟨n3, c3⟩, h3'⟩ : ∃ R, rkAns p = R := ⟨_, rfl⟩
  obtain ⟨⟨L4, c4⟩, h4'⟩ : ∃ R, mulAns (rawM 1 1 (elM p)) (rawM 1 1 (elM r)) = R := ⟨_, rfl⟩
  have H1 := Lib.hid h1'
  have H2 := Lib.hid h2'
  have H3 := Lib.hid h3'
  have H4 := Lib.hid h4'
  clear h1' h2' h3' h4'
  have tokA : True := trivial
  have tokB : True := trivial
  go_enter Tryz.func3, Tryz.ntmps3
  go_wp2_with (first
    | (go_at_call 4; first
       | ((with_reducible refine (HP1.out _).mono ?_); rintro e1 w1 ⟨v1, rfl, hv1, hb1⟩
          obtain ⟨t1, y1, z1, rfl, ⟨a11, l11, k11, rfl, _⟩, ⟨a12, l12, k12, rfl, _⟩⟩ := hv1.isF
          have ba1 := below_alloc w1 (.cells #[.bool t1, .slice a11 l11 k11, .slice a12 l12 k12] 25)
          have HL1 : FracsC (w1.alloc (.cells #[.bool t1, .slice a11 l11 k11, .slice a12 l12 k12] 25)) (.slice (some ⟨w1.heap.size, 0, none⟩) 1 1) [p] := fracs_one (VarB.new w1 _ _) (hv1.below ba1)
          have bm1 := below_alloc (w1.alloc (.cells #[.bool t1, .slice a11 l11 k11, .slice a12 l12 k12] 25)) (.cells #[.slice (some ⟨w1.heap.size, 0, none⟩) 1 1] 27)
          have VM := VarB.new (w1.alloc (.cells #[.bool t1, .slice a11 l11 k11, .slice a12 l12 k12] 25)) #[.slice (some ⟨w1.heap.size, 0, none⟩) 1 1] 27
          rw [show (w1.alloc (.cells #[.bool t1, .slice a11 l11 k11, .slice a12 l12 k12] 25)).heap.size = w1.heap.size + 1 from by simp] at VM
          have HA1 := Lib.hid (matf_one VM (HL1.below bm1))
          have HB1 := Lib.hid (below_then (below_then hb1 ba1) bm1)
          clear hv1 ba1 HL1 bm1 VM hb1)
       | ((with_reducible refine (HP2.out _).mono ?_); rintro e2 w2 ⟨v2, rfl, hv2, hb2⟩
          obtain ⟨t2, y2, z2, rfl, ⟨a21, l21, k21, rfl, _⟩, ⟨a22, l22, k22, rfl, _⟩⟩ := hv2.isF
          have ba2 := below_alloc w2 (.cells #[.bool t2, .slice a21 l21 k21, .slice a22 l22 k22] 25)
          have HV2 := Lib.hid (fracs_one (VarB.new w2 #[.bool t2, .slice a21 l21 k21, .slice a22 l22 k22] 25) (hv2.below ba2))
          have HA2 := Lib.hid (HA1.out.below (below_then hb2 ba2))
          have HB2 := Lib.hid (below_then HB1.out (below_then hb2 ba2))
          clear hv2 ba2 hb2)
       | (have _t := tokA; (with_reducible refine (HP3.out _).mono ?_); rintro e9 w9 ⟨v9, rfl, hv9, hb9⟩
          clear tokA _t
          obtain ⟨t9, y9, z9, rfl, ⟨a91, l91, k91, rfl, _⟩, ⟨a92, l92, k92, rfl, _⟩⟩ := hv9.isF
          have ba9 := below_alloc w9 (.cells #[.bool t9, .slice a91 l91 k91, .slice a92 l92 k92] 25)
          have HL9 : FracsC (w9.alloc (.cells #[.bool t9, .slice a91 l91 k91, .slice a92 l92 k92] 25)) (.slice (some ⟨w9.heap.size, 0, none⟩) 1 1) [r] := fracs_one (VarB.new w9 _ _) (hv9.below ba9)
          have bm9 := below_alloc (w9.alloc (.cells #[.bool t9, .slice a91 l91 k91, .slice a92 l92 k92] 25)) (.cells #[.slice (some ⟨w9.heap.size, 0, none⟩) 1 1] 27)
          have VM := VarB.new (w9.alloc (.cells #[.bool t9, .slice a91 l91 k91, .slice a92 l92 k92] 25)) #[.slice (some ⟨w9.heap.size, 0, none⟩) 1 1] 27
          rw [show (w9.alloc (.cells #[.bool t9, .slice a91 l91 k91, .slice a92 l92 k92] 25)).heap.size = w9.heap.size + 1 from by simp] at VM
          have HR9 := Lib.hid (matf_one VM (HL9.below bm9))
          have bb9 := below_then (below_then hb9 ba9) bm9
          have HA9 := Lib.hid (HA8.out.below bb9)
          have HSa9 := Lib.hid (HSa8.out.below bb9)
          have HSb9 := Lib.hid (HSb8.out.below bb9)
          have HIa9 := Lib.hid (HIa8.out.below bb9)
          have HIb9 := Lib.hid (HIb8.out.below bb9)
          have HB9 := Lib.hid (below_then HB8.out bb9)
          clear hv9 ba9 HL9 bm9 VM hb9 bb9)
       | (have _t := tokB; (with_reducible refine (HP3.out _).mono ?_); rintro e11 w11 ⟨v11, rfl, hv11, hb11⟩
          clear tokB _t
          obtain ⟨t11, y11, z11, rfl, ⟨a111, l111, k111, rfl, _⟩, ⟨a112, l112, k112, rfl, _⟩⟩ := hv11.isF
          have ba11 := below_alloc w11 (.cells #[.bool t11, .slice a111 l111 k111, .slice a112 l112 k112] 25)
          have HL11 : FracsC (w11.alloc (.cells #[.bool t11, .slice a111 l111 k111, .slice a112 l112 k112] 25)) (.slice (some ⟨w11.heap.size, 0, none⟩) 1 1) [r] := fracs_one (VarB.new w11 _ _) (hv11.below ba11)
          have bm11 := below_alloc (w11.alloc (.cells #[.bool t11, .slice a111 l111 k111, .slice a112 l112 k112] 25)) (.cells #[.slice (some ⟨w11.heap.size, 0, none⟩) 1 1] 27)
          have VM := VarB.new (w11.alloc (.cells #[.bool t11, .slice a111 l111 k111, .slice a112 l112 k112] 25)) #[.slice (some ⟨w11.heap.size, 0, none⟩) 1 1] 27
          rw [show (w11.alloc (.cells #[.bool t11, .slice a111 l111 k111, .slice a112 l112 k112] 25)).heap.size = w11.heap.size + 1 from by simp] at VM
          have HR11 := Lib.hid (matf_one VM (HL11.below bm11))
          have bb11 := below_then (below_then hb11 ba11) bm11
          have HA11 := Lib.hid (HA10.out.below bb11)
          have HSa11 := Lib.hid (HSa10.out.below bb11)
          have HSb11 := Lib.hid (HSb10.out.below bb11)
          have HIa11 := Lib.hid (HIa10.out.below bb11)
          have HIb11 := Lib.hid (HIb10.out.below bb11)
          have HMa11 := Lib.hid (HMa10.out.below bb11)
          have HB11 := Lib.hid (below_then HB10.out bb11)
          clear hv11 ba11 HL11 bm11 VM hb11 bb11))
    | (go_at_call 5; (with_reducible refine (solve1_any _ _ p q _ HA2.out HV2.out HNP.out HFP.out HFQ.out HQP.out).mono ?_); rw [H1.out]; rintro e3 w3 ⟨s3, rfl, hs3, hb3⟩
       have HSa3 := Lib.hid hs3
       have HA3 := Lib.hid (HA2.out.below hb3)
       have HV3 := Lib.hid (HV2.out.below hb3)
       have HB3 := Lib.hid (below_then HB2.out hb3)
       clear hs3 hb3)
    | (go_at_call 6; (with_reducible refine (rsolve1_any _ _ p q _ HA3.out HV3.out HNP.out HFP.out HFQ.out HQP.out).mono ?_); rw [H1.out]; rintro e4 w4 ⟨s4, rfl, hs4, hb4⟩
       have HSb4 := Lib.hid hs4
       have HA4 := Lib.hid (HA3.out.below hb4)
       have HSa4 := Lib.hid (HSa3.out.below hb4)
       have HB4 := Lib.hid (below_then HB3.out hb4)
       clear hs4 hb4)
    | (go_at_call 7; (with_reducible refine (invert1_any _ p _ HA4.out HNP.out HFP.out HIP.out).mono ?_); rw [H2.out]; rintro e5 w5 ⟨s5, rfl, hs5, hb5⟩
       have HIa5 := Lib.hid hs5
       have HA5 := Lib.hid (HA4.out.below hb5)
       have HSa5 := Lib.hid (HSa4.out.below hb5)
       have HSb5 := Lib.hid (HSb4.out.below hb5)
       have HB5 := Lib.hid (below_then HB4.out hb5)
       clear hs5 hb5)
    | (go_at_call 8; (with_reducible refine (rinvert1_any _ p _ HA5.out HNP.out HFP.out HIP.out).mono ?_); rw [H2.out]; rintro e6 w6 ⟨s6, rfl, hs6, hb6⟩
       have HIb6 := Lib.hid hs6
       have HA6 := Lib.hid (HA5.out.below hb6)
       have HSa6 := Lib.hid (HSa5.out.below hb6)
       have HSb6 := Lib.hid (HSb5.out.below hb6)
       have HIa6 := Lib.hid (HIa5.out.below hb6)
       have HB6 := Lib.hid (below_then HB5.out hb6)
       clear hs6 hb6)
    | (go_at_call 9; (with_reducible refine (rank1_any _ p _ HA6.out HNP.out HFP.out).mono ?_); rw [H3.out]; rintro e7 w7 ⟨rfl, hb7⟩
       have HA7 := Lib.hid (HA6.out.below hb7)
       have HSa7 := Lib.hid (HSa6.out.below hb7)
       have HSb7 := Lib.hid (HSb6.out.below hb7)
       have HIa7 := Lib.hid (HIa6.out.below hb7)
       have HIb7 := Lib.hid (HIb6.out.below hb7)
       have HB7 := Lib.hid (below_then HB6.out hb7)
       clear hb7)
    | (go_at_call 10; (with_reducible refine (rrank1_any _ p _ HA7.out HNP.out HFP.out).mono ?_); rw [H3.out]; rintro e8 w8 ⟨rfl, hb8⟩
       have HA8 := Lib.hid (HA7.out.below hb8)
       have HSa8 := Lib.hid (HSa7.out.below hb8)
       have HSb8 := Lib.hid (HSb7.out.below hb8)
       have HIa8 := Lib.hid (HIa7.out.below hb8)
       have HIb8 := Lib.hid (HIb7.out.below hb8)
       have HB8 := Lib.hid (below_then HB7.out hb8)
       clear hb8)
    | (go_at_call 11; (with_reducible refine (lmul_any _ _ (rawM 1 1 (elM p)) (rawM 1 1 (elM r)) _ HA9.out.raw HR9.out.raw).mono ?_); rw [H4.out]; rintro e10 w10 ⟨s10, rfl, hs10, hb10⟩
       have HMa10 := Lib.hid hs10
       have HA10 := Lib.hid (HA9.out.below hb10)
       have HSa10 := Lib.hid (HSa9.out.below hb10)
       have HSb10 := Lib.hid (HSb9.out.below hb10)
       have HIa10 := Lib.hid (HIa9.out.below hb10)
       have HIb10 := Lib.hid (HIb9.out.below hb10)
       have HB10 := Lib.hid (below_then HB9.out hb10)
       clear hs10 hb10)
    | (go_at_call 12; (with_reducible refine (r5mul_any _ _ (rawM 1 1 (elM p)) (rawM 1 1 (elM r)) _ HA11.out.raw HR11.out.raw).mono ?_); rw [H4.out]; rintro e12 w12 ⟨s12, rfl, hs12, hb12⟩
       have HMb12 := Lib.hid hs12
       have HSa12 := Lib.hid (HSa11.out.below hb12)
       have HSb12 := Lib.hid (HSb11.out.below hb12)
       have HIa12 := Lib.hid (HIa11.out.below hb12)
       have HIb12 := Lib.hid (HIb11.out.below hb12)
       have HMa12 := Lib.hid (HMa11.out.below hb12)
       have HB12 := Lib.hid (below_then HB11.out hb12)
       clear hs12 hb12)
    | (go_at_call 13; (with_reducible refine (same_fracs _ _ _ _ _ HSa12.out HSb12.out).mono ?_); rintro e13 w13 ⟨⟨b13, rfl, hb13⟩, hbel13⟩; obtain rfl : b13 = true := hb13.2 rfl; clear hb13
       have HIa13 := Lib.hid (HIa12.out.below hbel13)
       have HIb13 := Lib.hid (HIb12.out.below hbel13)
       have HMa13 := Lib.hid (HMa12.out.below hbel13)
       have HMb13 := Lib.hid (HMb12.out.below hbel13)
       have HB13 := Lib.hid (below_then HB12.out hbel13)
       clear hbel13)
    | (go_at_call 14; first
       | ((with_reducible refine (same_mat s5 s6 _ _ _ HIa13.out HIb13.out).mono ?_); rintro e14 w14 ⟨⟨b14, rfl, hb14⟩, hbel14⟩; obtain rfl : b14 = true := hb14.2 rfl; clear hb14
          have HMa14 := Lib.hid (HMa13.out.below hbel14)
          have HMb14 := Lib.hid (HMb13.out.below hbel14)
          have HB14 := Lib.hid (below_then HB13.out hbel14)
          clear hbel14)
       | ((with_reducible refine (same_mat s10 s12 _ _ _ HMa14.out HMb14.out).mono ?_); rintro e15 w15 ⟨⟨b15, rfl, hb15⟩, hbel15⟩; obtain rfl : b15 = true := hb15.2 rfl; clear hb15
          have HB15 := Lib.hid (below_then HB14.out hbel15)
          clear hbel15))
    | (go_at_call 15; (with_reducible refine (awake_any _).mono ?_); rintro e16 w16 ⟨rfl, hb16⟩))
  go_ret
  exact ⟨rfl, below_then HB15.out hb16⟩
end Go.Proofs.YtbhkibilnmoljaaGreat
namespace Go.Proofs.YtbhkibilnmoljaaGreat
theorem Tryz.ownK : ownKnob Tryz.prog.godebug = none := by kernel_rfl
theorem Tryz.laidOut : laidOutB Tryz.prog = true := by kernel_rfl
end Go.Proofs.YtbhkibilnmoljaaGreat
namespace Go.Proofs.YtbhkibilnmoljaaGreat
open Go.ChangeShapes Go.WideShapes Go.ChangeAt Go.RowKit
set_option linter.unusedVariables false
set_option linter.unusedSimpArgs false

section
variable {H : Type} {enc : TypeId × Value → H} {P : Program}
theorem trodAll_stays (hl : laidOutB P = true) {W W' : World} (hb : Below W.heap.size W W') : ∀ {ts : List TypeId} {vs : List Value} {ds : List (DataW H)} {ps : List MemPlace}, (ts.all fun t => P.readableRec t && decide (t < P.types.size)) = true →
    DataW.TrodAll enc P W 0 (fun _ => true) true ts vs ds ps → (∀ x ∈ ps, x.block < W.heap.size) → DataW.TrodAll enc P W' 0 (fun b => decide (b < W.heap.size)) true ts vs ds ps
  | [], vs, ds, ps, _, h, _ => by
    obtain ⟨rfl, rfl, rfl⟩ := trodAll_nil h
    exact trodAll_mk0
  | t :: ts, vs, ds, ps, hr, h, hlt => by
    obtain ⟨v, vs', d, ds', p, q, rfl, rfl, rfl, h1, h2⟩ := trodAll_cons h
    simp only [List.all_cons, Bool.and_eq_true, decide_eq_true_eq] at hr
    obtain ⟨⟨r1, r2⟩, r3⟩ := hr
    exact trodAll_cons_mk (Below.trod hl r1 r2 h1 hb fun x hx => hlt x (List.mem_append_left _ hx)) (trodAll_stays hl hb (ts := ts) r3 h2 fun x hx => hlt x (List.mem_append_right _ hx))
/-- A slice of small integers that came in. -/
theorem i8_in {W : World} {a : Addr} {len cap : Nat} {zs : List Int} (hl : len ≤ cap) (hm : cap ≤ maxLen) (hz : zs.length = cap) (hcell : ∀ i, i < zs.length → W.cell? (a.add i) = some (.int .i8 (zs.getD i 0))) (hwz : ∀ n ∈ zs, (Lit.int .i8 n).wf = true) :
    I8V W (.slice (some a) len cap) (zs.take len) := by
  have hb : ∀ n ∈ zs, -128 ≤ n ∧ n ≤ 127 := fun n hn => by
    have := hwz n hn
    simp [Lit.wf, IntKind.min, IntKind.max, IntKind.signed, IntKind.bits] at this
    omega
  refine ⟨⟨⟨a, len, cap, rfl, hl, hm, fun e => by cases e⟩, by simp [slen]; omega, fun j hj => ?_⟩, fun x hx => hb x (List.mem_of_mem_take hx)⟩
  have hj2 : j < len := by simp at hj; omega
  have hj3 : j < zs.length := by omega
  have h1 := hcell j hj3
  have e1 : zs.getD j 0 = zs[j] := by simp [List.getD, List.getElem?_eq_getElem hj3]
  rw [e1] at h1
  simp only [ptr, base, List.getElem_map, List.getElem_take]
  exact h1
end
section
variable {H : Type} {enc : TypeId × Value → H}
set_option maxRecDepth 100000 in
theorem u8_came {W : World} {base : Nat} {v : Value} {d : DataW H} {p : List MemPlace} (hv : Value.okWide Tryz.prog W .any base 5 v) (h : DataW.Trod enc Tryz.prog W 0 (fun _ => true) true 5 v d p) : ∃ x : Nat, v = .int .u8 x ∧ x < 256 := by
  obtain ⟨n, rfl, rfl, rfl, hwn⟩ := open_int Tryz.underlying5 hv h
  have hn : 0 ≤ n ∧ n < 256 := by
    simp [Lit.wf, IntKind.min, IntKind.max, IntKind.signed, IntKind.bits] at hwn
    omega
  exact ⟨n.toNat, by congr 1; omega, by omega⟩
end
end Go.Proofs.YtbhkibilnmoljaaGreat
