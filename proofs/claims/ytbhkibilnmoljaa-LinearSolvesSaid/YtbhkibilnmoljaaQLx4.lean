/-
  LinearSolves: for every input the law returns true, and the input reads as it did. No condition.
  Ahead of it: LinearSolves: the law function returns true.
-/
import Derived.Test.YtbhkibilnmoljaaQLx2
import Derived.Test.YtbhkibilnmoljaaRows
import Derived.WalkKit
import Derived.ProofKit
import Derived.OpenShut
import Derived.ChangeSlices
namespace Go.Proofs.Ytbhkibilnmoljaa
set_option linter.unusedVariables false
set_option linter.unusedSimpArgs false
open Go.RowKit

theorem elL_small (l : List Int) (k : Nat) : smallQ (elL l k) ∧ wt (elL l k) ≤ 8 := by
  unfold elL
  split
  · unfold elQ
    have h1 : (l[k].tmod 16).natAbs ≤ 15 := by
      rw [Int.natAbs_tmod]
      have := Nat.mod_lt l[k].natAbs (show 0 < (16 : Int).natAbs by decide)
      have e : (16 : Int).natAbs = 16 := rfl
      omega
    have h2 : 1 + (l[k] % 256).toNat / 32 ≤ 8 := by omega
    exact ⟨small_fq _ h1 (by omega) h2, small_wt_fq _ h1 (by omega) h2⟩
  · exact ⟨small_zero, by simp [wt, nbits]⟩
theorem smallM_small (c : Nat) (l : List Int) (i j : Nat) : smallQ (smallM c l i j) ∧ wt (smallM c l i j) ≤ 8 := elL_small l _
theorem smallM_fit (n c : Nat) (l : List Int) : fitM n c (smallM c l) := fun i j _ _ => small_fits (smallM_small c l i j).1
theorem smallM_wt {n c : Nat} (l : List Int) (hn : n ≤ 5) (hc : c ≤ 5) : wtF n c (smallM c l) ≤ 200 := by
  have h1 := wtF_le (n := n) (m := c) (A := smallM c l) (K := 8) fun i j _ _ => (smallM_small c l i j).2
  have h2 : n * (c * 8) ≤ 5 * (5 * 8) := Nat.mul_le_mul hn (Nat.mul_le_mul_right _ hc)
  omega
theorem sign_zero {va : Value} {w : World} (ha : FracC w va 0) : Calls Try.prog 17 #[va] w fun en w' => en = .returned (.int .i64 0) ∧ Below w.heap.size w w' := by
  have h := r2sign_any va _ _ _ w ha.raw (by decide)
  rw [fq_self, (cmpR_self_iff 0 0).2 rfl] at h
  exact h
theorem sign_ne {va : Value} {w : World} {q : Rat} (ha : FracC w va q) (hf : fits q) (hq : q ≠ 0) : Calls Try.prog 17 #[va] w fun en w' => ∃ z, en = .returned (.int .i64 z) ∧ (z == 0) = false ∧ Below w.heap.size w w' := by
  have h := r2sign_any va _ _ _ w ha.raw ⟨q.den_nz, hf.2, hf.1⟩
  rw [fq_self] at h
  refine h.mono ?_
  rintro e w' ⟨rfl, hb⟩
  exact ⟨_, rfl, by
    have : ¬ cmpR q 0 = 0 := fun e => hq ((cmpR_self_iff q 0).1 e)
    simpa using this, hb⟩
theorem matrix_row (vl : Value) (l : List Int) (c : Nat) (w : World) (hl : I8V w vl l) (hc1 : 1 ≤ c) (hc : c ≤ 5) :
    Calls Try.prog 10 #[.int .i64 1, .int .i64 c, vl] w fun e w' => ∃ v, e = .returned v ∧ MatF w' v 1 c (smallM c l) ∧ Below w.heap.size w w' :=
  matrix_any vl l 1 c w hl (by decide) (by decide) hc1 hc
theorem dt_fits {n : Nat} (hn : n ≤ 5) {A : Mx} (hA : ∀ i j, i < n → j < n → smallQ (A i j)) : fits (dt n A) := by
  obtain ⟨z, hz, hzb⟩ := dt_over (n := n) (D := 840) (m := 12600) (by decide) hA
  have hD : 840 ^ n ≠ 0 := Nat.ne_of_gt (Nat.pow_pos (by decide))
  have h9 : 840 ^ n < 2 ^ 50 := Nat.lt_of_le_of_lt (Nat.pow_le_pow_right (by decide) hn) (by decide +kernel)
  exact fits_over2 hD ⟨z, hz, hzb⟩ (dtB_le hn) h9 (by decide) (by decide)
set_option maxRecDepth 100000 in
set_option maxHeartbeats 3200000 in
theorem solves_law (x : Nat) (vl vb : Value) (l b : List Int) (w : World) (hx : x < 256) (hl : I8V w vl l) (hb : I8V w vb b) :
    Calls Try.prog 4 #[.int .u8 x, vl, vb] w (fun e w' => e = .returned (.bool true) ∧ Below w.heap.size w w') := by
  obtain ⟨k, hk⟩ : ∃ k, 1 + x % 5 = k := ⟨_, rfl⟩
  have hk1 : 1 ≤ k := by omega
  have hk5 : k ≤ 5 := by omega
  have hk24 : k ≤ 24 := by omega
  have HK := Lib.hid hk
  have HL := Lib.hid hl
  have HB := Lib.hid hb
  have sl := hl.1.sl
  have sb := hb.1.sl
  have hsm : ∀ i j, i < k → j < k → smallQ (smallM k l i j) := fun i j _ _ => (smallM_small k l i j).1
  have hsb : ∀ i, i < k → smallQ (smallM k b 0 i) := fun i _ => (smallM_small k b 0 i).1
  have hfb : ∀ i, i < k → fits (smallM k b 0 i) := fun i hi => small_fits (hsb i hi)
  have hw1 : wtF k k (smallM k l) ≤ 200 := smallM_wt l hk5 hk5
  have hwb : wts (qs (rawV k (smallM k b 0))) ≤ k * 8 := wts_rawV fun j _ => (smallM_small k b 0 j).2
  have hwS : wtF k k (smallM k l) + wts (qs (rawV k (smallM k b 0))) ≤ 1900 := by omega
  have hwD : wtF k k (smallM k l) ≤ 1900 := by omega
  have HSM := Lib.hid hsm
  have HSB := Lib.hid hsb
  have HFB := Lib.hid hfb
  have HW1 := Lib.hid hw1
  have HWS := Lib.hid hwS
  have HWD := Lib.hid hwD
  have HX := Lib.hid (solve_slim hk5 hsm hsb)
  have HQ := Lib.hid (solve_hq hk5 hsm hsb)
  have HX2 : Hid (slimE true k k k (smallM k l)) := Lib.hid (slimE_small (Nat.le_refl _) hk5 hsm)
  clear hk hl hb hsm hsb hfb hw1 hwb hwS hwD
  go_enter Try.func4, Try.ntmps4
  by_cases hd : dt k (smallM k l) = 0
  · have HRK := Lib.hid (rank_less (B := fun i _ => smallM k b 0 i) hd)
    have HD : Hid (detE k (smallM k l) = 0) := Lib.hid (by rw [detE_dt]; exact hd)
    clear hd
    go_wp2_with (first
      | (go_at_call 9; (with_reducible refine (order_any x _ hx).mono ?_); rw [HK.out]; rintro e0 w0 ⟨rfl, rfl⟩)
      | (go_at_call 10; first
         | ((with_reducible refine (matrix_row _ b k _ (HB.out.below hb1) hk1 hk5).mono ?_); rintro e2 w2 ⟨v2, rfl, hm2, hb2⟩
            have sl2 := hm2.sl
            have ln2 := hm2.len
            obtain ⟨r2, hc2, hf2⟩ := hm2.row 0 (by decide)
            have HM2 := Lib.hid (HM1.out.below hb2)
            have HB2 := Lib.hid (below_then hb1 hb2)
            have HF2 := Lib.hid hf2
            clear hm2 hb2 hf2 hb1)
         | ((with_reducible refine (matrix_any _ l k k _ HL.out hk1 hk5 hk1 hk5).mono ?_); rintro e1 w1 ⟨v1, rfl, hm1, hb1⟩
            have HM1 := Lib.hid hm1
            clear hm1))
      | (go_at_call 18; (with_reducible refine (solve_lin _ _ k (smallM k l) (smallM k b 0) _ HM2.out HF2.out hk1 hk24 (smallM_fit k k l) HFB.out HWS.out HX.out HQ.out).mono ?_); rintro e3 w3 ⟨v3, er3, rfl, hb3, hs3, _⟩; obtain ⟨rfl, rfl⟩ := hs3 HRK.out; clear hs3
         have HM3 := Lib.hid (HM2.out.below hb3)
         have HB3 := Lib.hid (below_then HB2.out hb3)
         clear hb3)
      | (go_at_call 16; (with_reducible refine (det_lin _ k (smallM k l) _ HM3.out hk1 hk24 (smallM_fit k k l) HWD.out HX2.out).mono ?_); rw [HD.out]; rintro e4 w4 ⟨v4, rfl, hv4, hb4⟩
         obtain ⟨t4, x4, y4, rfl, ⟨a41, l41, k41, rfl, _⟩, ⟨a42, l42, k42, rfl, _⟩⟩ := hv4.isF
         have ba4 := below_alloc w4 (.cells #[.bool t4, .slice a41 l41 k41, .slice a42 l42 k42] 30)
         have HV4 := Lib.hid (hv4.below ba4)
         have HB4 := Lib.hid (below_then HB3.out (below_then hb4 ba4))
         clear hv4 hb4 ba4)
      | (go_at_call 17; (with_reducible refine (sign_zero HV4.out).mono ?_); rintro e5 w5 ⟨rfl, hb5⟩
         have HB5 := Lib.hid (below_then HB4.out hb5)
         clear hb5)
      | (go_at_call 15; (with_reducible refine (awake_any _).mono ?_); rintro e6 w6 ⟨rfl, hb6⟩))
    go_ret
    exact ⟨rfl, below_then HB5.out hb6⟩
  · have hne := hd
    have HRK : Hid (¬ (elim false k (besideM k (smallM k l) (fun i _ => smallM k b 0 i)) k).r < k) := Lib.hid (by rw [rank_full (B := fun i _ => smallM k b 0 i) hd]; omega)
    have hr := rank_full (B := fun i _ => smallM k b 0 i) hd
    have hse := sol_eq hr
    have HP := Lib.hid (fun i (hi : i < k) => sol_prod hk5 HSM.out hd HSB.out hse hi)
    have HSO := Lib.hid (fun i (hi : i < k) => sol_small hk5 HSM.out hd HSB.out hse hi)
    have HFX : Hid (∀ i, i < k → fits (solE k (smallM k l) (smallM k b 0) i)) := Lib.hid (fun i hi => (HSO.out i hi).1)
    have HP1 : Hid (∀ i j, i < k → j < k → fits (smallM k l i j * solE k (smallM k l) (smallM k b 0) j)) := Lib.hid (fun i j hi hj => (HP.out i hi).1 j hj)
    have HP2 : Hid (∀ i j, i < k → j ≤ k → fits (sg j fun m => smallM k l i m * solE k (smallM k l) (smallM k b 0) m)) := Lib.hid (fun i j hi hj => (HP.out i hi).2 j hj)
    have HWA : Hid (wtF k k (smallM k l) + wts (qs (rawV k (solE k (smallM k l) (smallM k b 0)))) ≤ 3800) := Lib.hid (by
      have h1 := HW1.out
      have h2 : wts (qs (rawV k (solE k (smallM k l) (smallM k b 0)))) ≤ k * 180 := wts_rawV fun j hj => (HSO.out j hj).2
      omega)
    have HEQ : Hid (rowL k (fun i => sg k fun j => smallM k l i j * solE k (smallM k l) (smallM k b 0) j) = rowL k (smallM k b 0)) := Lib.hid (by
      unfold rowL
      exact List.map_congr_left fun i hi => hse i (List.mem_range.1 hi))
    have HD : Hid (detE k (smallM k l) = dt k (smallM k l)) := Lib.hid (detE_dt _ _)
    have HDF := Lib.hid (dt_fits hk5 HSM.out)
    have HNE := Lib.hid hne
    clear hd hr hse hne
    go_wp2_with (first
      | (go_at_call 9; (with_reducible refine (order_any x _ hx).mono ?_); rw [HK.out]; rintro e0 w0 ⟨rfl, rfl⟩)
      | (go_at_call 10; first
         | ((with_reducible refine (matrix_row _ b k _ (HB.out.below hb1) hk1 hk5).mono ?_); rintro e2 w2 ⟨v2, rfl, hm2, hb2⟩
            have sl2 := hm2.sl
            have ln2 := hm2.len
            obtain ⟨r2, hc2, hf2⟩ := hm2.row 0 (by decide)
            have HM2 := Lib.hid (HM1.out.below hb2)
            have HB2 := Lib.hid (below_then hb1 hb2)
            have HF2 := Lib.hid hf2
            clear hm2 hb2 hf2 hb1)
         | ((with_reducible refine (matrix_any _ l k k _ HL.out hk1 hk5 hk1 hk5).mono ?_); rintro e1 w1 ⟨v1, rfl, hm1, hb1⟩
            have HM1 := Lib.hid hm1
            clear hm1))
      | (go_at_call 18; (with_reducible refine (solve_lin _ _ k (smallM k l) (smallM k b 0) _ HM2.out HF2.out hk1 hk24 (smallM_fit k k l) HFB.out HWS.out HX.out HQ.out).mono ?_); rintro e3 w3 ⟨v3, er3, rfl, hb3, _, hs3⟩; obtain ⟨rfl, hf3⟩ := hs3 HRK.out; clear hs3
         have hf3' : FracsC w3 v3 (rowL k (solE k (smallM k l) (smallM k b 0))) := hf3
         obtain ⟨v31, v32, v33, rfl, _⟩ := id hf3'.sl
         have HF3 := Lib.hid hf3'
         have HFB3 := Lib.hid (HF2.out.below hb3)
         have HM3 := Lib.hid (HM2.out.below hb3)
         have HB3 := Lib.hid (below_then HB2.out hb3)
         clear hb3 hf3 hf3')
      | (go_at_call 16; (with_reducible refine (det_lin _ k (smallM k l) _ HM3.out hk1 hk24 (smallM_fit k k l) HWD.out HX2.out).mono ?_); rw [HD.out]; rintro e4 w4 ⟨v4, rfl, hv4, hb4⟩
         obtain ⟨t4, x4, y4, rfl, ⟨a41, l41, k41, rfl, _⟩, ⟨a42, l42, k42, rfl, _⟩⟩ := hv4.isF
         have ba4 := below_alloc w4 (.cells #[.bool t4, .slice a41 l41 k41, .slice a42 l42 k42] 30)
         have HV4 := Lib.hid (hv4.below ba4)
         have HF4 := Lib.hid (HF3.out.below (below_then hb4 ba4))
         have HFB4 := Lib.hid (HFB3.out.below (below_then hb4 ba4))
         have HM4 := Lib.hid (HM3.out.below (below_then hb4 ba4))
         have HB4 := Lib.hid (below_then HB3.out (below_then hb4 ba4))
         clear hv4 hb4 ba4)
      | (go_at_call 17; (with_reducible refine (sign_ne HV4.out HDF.out HNE.out).mono ?_); rintro e5 w5 ⟨z5, rfl, hz5, hb5⟩
         have HB5 := Lib.hid (below_then HB4.out hb5)
         have HF5 := Lib.hid (HF4.out.below hb5)
         have HFB5 := Lib.hid (HFB4.out.below hb5)
         have HM5 := Lib.hid (HM4.out.below hb5)
         clear hb5)
      | (go_at_call 19; (with_reducible refine (apply_lin _ _ k k (smallM k l) (solE k (smallM k l) (smallM k b 0)) _ HM5.out HF5.out hk1 hk24 hk1 hk24 (smallM_fit k k l) HFX.out HWA.out HP1.out HP2.out).mono ?_); rw [HEQ.out]; rintro e7 w7 ⟨v7, rfl, hf7, hb7⟩
         have HF7 := Lib.hid hf7
         have HFB7 := Lib.hid (HFB5.out.below hb7)
         have HB7 := Lib.hid (below_then HB5.out hb7)
         clear hf7 hb7)
      | (go_at_call 20; (with_reducible refine (same_fracs _ _ _ _ _ HF7.out HFB7.out).mono ?_); rintro e8 w8 ⟨⟨b8, rfl, hb8⟩, hbel8⟩; obtain rfl : b8 = true := hb8.2 rfl; clear hb8
         have HB8 := Lib.hid (below_then HB7.out hbel8)
         clear hbel8)
      | (go_at_call 15; (with_reducible refine (awake_any _).mono ?_); rintro e6 w6 ⟨rfl, hb6⟩))
    go_ret
    exact ⟨rfl, below_then HB8.out hb6⟩
end Go.Proofs.Ytbhkibilnmoljaa
namespace Go.Proofs.Ytbhkibilnmoljaa
open Go.ChangeShapes Go.WideShapes Go.ChangeAt Go.RowKit
set_option linter.unusedVariables false
set_option linter.unusedSimpArgs false

theorem Try.ownK : ownKnob Try.prog.godebug = none := by kernel_rfl
theorem Try.laidOut : laidOutB Try.prog = true := by kernel_rfl
theorem Try.cellsI8 : Try.prog.cellsOf 37 = 1 := by kernel_rfl
/-- A slice of small integers that came in. -/
theorem i8_in {W : World} {a : Addr} {len cap : Nat} {zs : List Int} (hl : len ≤ cap) (hm : cap ≤ maxLen) (hz : zs.length = cap) (hcell : ∀ i, i < zs.length → W.cell? (a.add i) = some (.int .i8 (zs.getD i 0))) (hwz : ∀ n ∈ zs, (Lit.int .i8 n).wf = true) :
    I8V W (.slice (some a) len cap) (zs.take len) := by
  have hb : ∀ n ∈ zs, -128 ≤ n ∧ n ≤ 127 := fun n hn => by
    have := hwz n hn
    simp [Lit.wf, IntKind.min, IntKind.max, IntKind.signed, IntKind.bits] at this
    omega
  refine ⟨⟨⟨a, len, cap, rfl, hl, hm, fun e => by cases e⟩, by simp [slen]; omega, fun j hj => ?_⟩, fun x hx => hb x (List.mem_of_mem_take hx)⟩
  have hj2 : j < len := by simp at hj; omega
  have hj3 : j < zs.length := by omega
  have h1 := hcell j hj3
  have e1 : zs.getD j 0 = zs[j] := by simp [List.getD, List.getElem?_eq_getElem hj3]
  rw [e1] at h1
  simp only [ptr, base, List.getElem_map, List.getElem_take]
  exact h1
set_option maxRecDepth 100000 in
theorem solves_lifted (os : Os) (started : os.Started) (H : Type) (enc : TypeId × Value → H) :
    ReturnsInHanded {} Try.checked os 4 .any (Rows.linearSolvesSpec.pre6 enc Try.prog Try.f4 Rows.linearSolvesRow.domain false) (Rows.linearSolvesSpec.post enc Try.prog Try.f4 false true false false) := by
  refine returnsInHanded_of_change (C := Try.checked) Try.ownK started (by kernel_rfl) Try.func4
    (ChangeSpec.witness6 (enc := enc) (C := Try.checked) false ⟨#[], #[.int .u8 0, .slice none 0 0, .slice none 0 0], []⟩ 8 (by kernel_rfl) (by kernel_rfl) (by kernel_rfl) (by kernel_rfl)) ?_
  intro W base args ds gs before hval0 hW hcnd _
  have hval : ∀ (j : Nat) t v, Try.f4.params[j]? = some t → args[j]? = some v → Value.okWide Try.prog W .any base t v := hval0
  have hW' := hW
  obtain ⟨p, q, hA0, hV, rfl, hfz, hnd⟩ := hW
  have hA : DataW.TrodAll enc Try.prog W 0 (fun _ => true) true Try.f4.params.toList args.toList ds p := hA0
  rw [Try.params4] at hA hval
  obtain ⟨v0, v1, v2, d0, d1, d2, p0, p1, p2, rfl, rfl, rfl, h0, h1, h2⟩ := trodAll_three hA
  obtain ⟨rfl, rfl⟩ := trodVars_none hV
  obtain ⟨n, rfl, rfl, rfl, hwn⟩ := open_int Try.underlying5 (hval 0 5 v0 rfl rfl) h0
  obtain ⟨a1, len1, cap1, rfl⟩ := okWide_slice Try.underlying22 (hval 1 22 v1 rfl rfl)
  obtain ⟨a2, len2, cap2, rfl⟩ := okWide_slice Try.underlying22 (hval 2 22 v2 rfl rfl)
  have h1k := h1
  have h2k := h2
  clear hA0 hval0
  simp only [List.append_nil, List.nil_append] at hW'
  have hlt : ∀ x ∈ p1 ++ p2, x.block < W.heap.size := fun x hx => hW'.lt x hx
  have hargs : ∀ (a : Option Addr) (len cap : Nat) (d : DataW H) (p : List MemPlace), DataW.Trod enc Try.prog W 0 (fun _ => true) true 22 (.slice a len cap) d p → (∀ x ∈ p, x.block < W.heap.size) → ∀ (W' : World), Below W.heap.size W W' → DataW.Trod enc Try.prog W' 0 (fun b => decide (b < W.heap.size)) true 22 (.slice a len cap) d p :=
    fun a len cap d p hd hl W' hn => Below.trod Try.laidOut (by kernel_rfl) (of_decide_eq_true (by kernel_rfl)) hd hn hl
  have rd : ∀ (a : Option Addr) (len cap : Nat) (d : DataW H) (p : List MemPlace), DataW.Trod enc Try.prog W 0 (fun _ => true) true 22 (.slice a len cap) d p → ∃ l, I8V W (.slice a len cap) l := by
    intro a len cap d p hd
    obtain ⟨fuel, hf⟩ := hd
    rcases open_ints Try.underlying22 Try.underlying37 Try.cellsI8 hf with ⟨hcs, hx⟩ | ⟨a, len', cap', zs, hcs, _, hl, hm, hz, hx, hcell, hwz⟩
    · simp [Value.cells] at hcs
      obtain ⟨rfl, rfl, rfl⟩ := hcs
      exact ⟨[], ⟨IsSl.nil, rfl, fun j h => by simp at h⟩, fun x h => by simp at h⟩
    · simp [Value.cells] at hcs
      obtain ⟨rfl, rfl, rfl⟩ := hcs
      simp only [if_true] at hz
      exact ⟨_, i8_in hl hm hz hcell hwz⟩
  obtain ⟨l1, q1⟩ := rd _ _ _ _ _ h1
  obtain ⟨l2, q2⟩ := rd _ _ _ _ _ h2
  have hn : 0 ≤ n ∧ n < 256 := by
    have := hwn
    simp [Lit.wf, IntKind.min, IntKind.max, IntKind.signed, IntKind.bits] at this
    omega
  obtain ⟨x, rfl⟩ : ∃ x : Nat, n = x := ⟨n.toNat, by omega⟩
  refine (solves_law x _ _ l1 l2 W (by omega) q1 q2).mono fun e W' ⟨he, hnx⟩ => ?_
  subst he
  refine ⟨_, rfl, _, _, _, [], (p1 ++ p2) ++ [], [], hW', ?_, ?_, rfl, hnx.frame _, fun h => by cases h⟩
  · exact trodAll_mk1 (shut_bool Try.underlying4 _)
  · have h9 := trodAll_mk3 (shut_int (P := Try.prog) (enc := enc) (w := W') (base := 0) (spare := fun b => decide (b < W.heap.size)) (held := true) Try.underlying5 hwn) (hargs _ _ _ _ _ h1k (fun x hx => hlt x (List.mem_append_left _ hx)) _ hnx) (hargs _ _ _ _ _ h2k (fun x hx => hlt x (List.mem_append_right _ hx)) _ hnx)
    rw [List.nil_append, ← List.append_nil (p1 ++ p2)] at h9
    exact h9
theorem linearSolves_holds : Rows.LinearSolvesSaid :=
  OpenClaim.holds_of_wide 4 Try.f4 rfl rfl rfl rfl rfl rfl rfl ⟨rfl, rfl, rfl, rfl, rfl⟩ rfl rfl rfl rfl rfl (by kernel_rfl) Try.func4 (by kernel_rfl)
    (of_decide_eq_true (by kernel_rfl)) (by unfold Func.isWrapper; first | (rw [if_pos (by decide +kernel)]; kernel_rfl) | (rw [if_neg (by decide +kernel)]; exact ⟨rfl, rfl⟩))
    (fun os started H enc _ => solves_lifted os started H enc)
#print axioms linearSolves_holds
end Go.Proofs.Ytbhkibilnmoljaa
