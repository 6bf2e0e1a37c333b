/-
  LinearAssociates: for every input the law returns true, and the input reads as it did. No condition.
  Ahead of it: Lifting a law: what came in reads as it did in every later world that only adds to the first; small integers that came in. No law is named here. LinearAssociates: the law function returns true.
-/
import Derived.Test.YtbhkibilnmoljaaQBx
import Derived.Test.YtbhkibilnmoljaaRows
import Derived.WalkKit
import Derived.ProofKit
import Derived.OpenShut
import Derived.ChangeSlices
namespace Go.Proofs.Ytbhkibilnmoljaa
open Go.ChangeShapes Go.WideShapes Go.ChangeAt Go.RowKit
set_option linter.unusedVariables false
set_option linter.unusedSimpArgs false

theorem Try.cellsI8 : Try.prog.cellsOf 37 = 1 := by kernel_rfl
section
variable {H : Type} {enc : TypeId × Value → H} {P : Program}
theorem trodAll_stays (hl : laidOutB P = true) {W W' : World} (hb : Below W.heap.size W W') : ∀ {ts : List TypeId} {vs : List Value} {ds : List (DataW H)} {ps : List MemPlace}, (ts.all fun t => P.readableRec t && decide (t < P.types.size)) = true →
    DataW.TrodAll enc P W 0 (fun _ => true) true ts vs ds ps → (∀ x ∈ ps, x.block < W.heap.size) → DataW.TrodAll enc P W' 0 (fun b => decide (b < W.heap.size)) true ts vs ds ps
  | [], vs, ds, ps, _, h, _ => by
    obtain ⟨rfl, rfl, rfl⟩ := trodAll_nil h
    exact trodAll_mk0
  | t :: ts, vs, ds, ps, hr, h, hlt => by
    obtain ⟨v, vs', d, ds', p, q, rfl, rfl, rfl, h1, h2⟩ := trodAll_cons h
    simp only [List.all_cons, Bool.and_eq_true, decide_eq_true_eq] at hr
    obtain ⟨⟨r1, r2⟩, r3⟩ := hr
    exact trodAll_cons_mk (Below.trod hl r1 r2 h1 hb fun x hx => hlt x (List.mem_append_left _ hx)) (trodAll_stays hl hb (ts := ts) r3 h2 fun x hx => hlt x (List.mem_append_right _ hx))
/-- A slice of small integers that came in. -/
theorem i8_in {W : World} {a : Addr} {len cap : Nat} {zs : List Int} (hl : len ≤ cap) (hm : cap ≤ maxLen) (hz : zs.length = cap) (hcell : ∀ i, i < zs.length → W.cell? (a.add i) = some (.int .i8 (zs.getD i 0))) (hwz : ∀ n ∈ zs, (Lit.int .i8 n).wf = true) :
    I8V W (.slice (some a) len cap) (zs.take len) := by
  have hb : ∀ n ∈ zs, -128 ≤ n ∧ n ≤ 127 := fun n hn => by
    have := hwz n hn
    simp [Lit.wf, IntKind.min, IntKind.max, IntKind.signed, IntKind.bits] at this
    omega
  refine ⟨⟨⟨a, len, cap, rfl, hl, hm, fun e => by cases e⟩, by simp [slen]; omega, fun j hj => ?_⟩, fun x hx => hb x (List.mem_of_mem_take hx)⟩
  have hj2 : j < len := by simp at hj; omega
  have hj3 : j < zs.length := by omega
  have h1 := hcell j hj3
  have e1 : zs.getD j 0 = zs[j] := by simp [List.getD, List.getElem?_eq_getElem hj3]
  rw [e1] at h1
  simp only [ptr, base, List.getElem_map, List.getElem_take]
  exact h1
end
section
variable {H : Type} {enc : TypeId × Value → H}
set_option maxRecDepth 100000 in
theorem u8_came {W : World} {base : Nat} {v : Value} {d : DataW H} {p : List MemPlace} (hv : Value.okWide Try.prog W .any base 5 v) (h : DataW.Trod enc Try.prog W 0 (fun _ => true) true 5 v d p) : ∃ x : Nat, v = .int .u8 x ∧ x < 256 := by
  obtain ⟨n, rfl, rfl, rfl, hwn⟩ := open_int Try.underlying5 hv h
  have hn : 0 ≤ n ∧ n < 256 := by
    simp [Lit.wf, IntKind.min, IntKind.max, IntKind.signed, IntKind.bits] at hwn
    omega
  exact ⟨n.toNat, by congr 1; omega, by omega⟩
set_option maxRecDepth 100000 in
theorem i8_came {W : World} {base : Nat} {v : Value} {d : DataW H} {p : List MemPlace} (hv : Value.okWide Try.prog W .any base 22 v) (h : DataW.Trod enc Try.prog W 0 (fun _ => true) true 22 v d p) : ∃ l, I8V W v l := by
  obtain ⟨a, len, cap, rfl⟩ := okWide_slice Try.underlying22 hv
  obtain ⟨fuel, hf⟩ := h
  rcases open_ints Try.underlying22 Try.underlying37 Try.cellsI8 hf with ⟨hcs, hx⟩ | ⟨a, len', cap', zs, hcs, _, hl, hm, hz, hx, hcell, hwz⟩
  · simp [Value.cells] at hcs
    obtain ⟨rfl, rfl, rfl⟩ := hcs
    exact ⟨[], ⟨IsSl.nil, rfl, fun j h => by simp at h⟩, fun x h => by simp at h⟩
  · simp [Value.cells] at hcs
    obtain ⟨rfl, rfl, rfl⟩ := hcs
    simp only [if_true] at hz
    exact ⟨_, i8_in hl hm hz hcell hwz⟩
end
end Go.Proofs.Ytbhkibilnmoljaa
namespace Go.Proofs.Ytbhkibilnmoljaa
set_option linter.unusedVariables false
set_option linter.unusedSimpArgs false
open Go.RowKit

theorem wt_le25 {n c K W : Nat} {x : Nat} (h : x ≤ n * (c * K)) (hn : n ≤ 5) (hc : c ≤ 5) (hW : 5 * (5 * K) ≤ W) : x ≤ W :=
  Nat.le_trans h (Nat.le_trans (Nat.mul_le_mul hn (Nat.mul_le_mul_right _ hc)) hW)
set_option maxRecDepth 100000 in
set_option maxHeartbeats 3200000 in
theorem associates_law (x1 x2 x3 x4 : Nat) (va vb vc : Value) (l1 l2 l3 : List Int) (w : World) (hx1 : x1 < 256) (hx2 : x2 < 256) (hx3 : x3 < 256) (hx4 : x4 < 256) (ha : I8V w va l1) (hb : I8V w vb l2) (hc : I8V w vc l3) :
    Calls Try.prog 6 #[.int .u8 x1, .int .u8 x2, .int .u8 x3, .int .u8 x4, va, vb, vc] w (fun e w' => e = .returned (.bool true) ∧ Below w.heap.size w w') := by
  obtain ⟨n, hn⟩ : ∃ k, 1 + x1 % 5 = k := ⟨_, rfl⟩
  obtain ⟨m, hm⟩ : ∃ k, 1 + x2 % 5 = k := ⟨_, rfl⟩
  obtain ⟨o, ho⟩ : ∃ k, 1 + x3 % 5 = k := ⟨_, rfl⟩
  obtain ⟨p, hp⟩ : ∃ k, 1 + x4 % 5 = k := ⟨_, rfl⟩
  have n1 : 1 ≤ n := by omega
  have n5 : n ≤ 5 := by omega
  have m1 : 1 ≤ m := by omega
  have m5 : m ≤ 5 := by omega
  have o1 : 1 ≤ o := by omega
  have o5 : o ≤ 5 := by omega
  have p1 : 1 ≤ p := by omega
  have p5 : p ≤ 5 := by omega
  have n24 : n ≤ 24 := by omega
  have m24 : m ≤ 24 := by omega
  have o24 : o ≤ 24 := by omega
  have p24 : p ≤ 24 := by omega
  have HN := Lib.hid hn
  have HM := Lib.hid hm
  have HO := Lib.hid ho
  have HP := Lib.hid hp
  have HA := Lib.hid ha
  have HB := Lib.hid hb
  have HC := Lib.hid hc
  have sa := ha.1.sl
  have sb := hb.1.sl
  have sc := hc.1.sl
  obtain ⟨A, hAe⟩ : ∃ A, smallM m l1 = A := ⟨_, rfl⟩
  obtain ⟨B, hBe⟩ : ∃ A, smallM o l2 = A := ⟨_, rfl⟩
  obtain ⟨C, hCe⟩ : ∃ A, smallM p l3 = A := ⟨_, rfl⟩
  have sA : ∀ i j, over 840 12600 (A i j) := fun i j => hAe ▸ (smallM_small m l1 i j).1
  have sB : ∀ i j, over 840 12600 (B i j) := fun i j => hBe ▸ (smallM_small o l2 i j).1
  have sC : ∀ i j, over 840 12600 (C i j) := fun i j => hCe ▸ (smallM_small p l3 i j).1
  have fA : fitM n m A := hAe ▸ smallM_fit n m l1
  have fB : fitM m o B := hBe ▸ smallM_fit m o l2
  have fC : fitM o p C := hCe ▸ smallM_fit o p l3
  have wA : wtF n m A ≤ 200 := hAe ▸ smallM_wt l1 n5 m5
  have wB : wtF m o B ≤ 200 := hBe ▸ smallM_wt l2 m5 o5
  have wC : wtF o p C ≤ 200 := hCe ▸ smallM_wt l3 o5 p5
  obtain ⟨k1, oAB, fAB, wAB⟩ := mul_ok (n := n) (m := m) (c := o) (D := 840) (E := 840) (a := 12600) (b := 12600) (p := 30) (q := 20) (A := A) (B := B) (by decide) (by decide) m5 (fun i j _ _ => sA i j) (fun i j _ _ => sB i j) (by decide) (by decide) (by decide) (by decide)
  obtain ⟨k2, oBC, fBC, wBC⟩ := mul_ok (n := m) (m := o) (c := p) (D := 840) (E := 840) (a := 12600) (b := 12600) (p := 30) (q := 20) (A := B) (B := C) (by decide) (by decide) o5 (fun i j _ _ => sB i j) (fun i j _ _ => sC i j) (by decide) (by decide) (by decide) (by decide)
  obtain ⟨k3, _, _, _⟩ := mul_ok (n := n) (m := o) (c := p) (D := 840 * 840) (E := 840) (a := 5 * (12600 * 12600)) (b := 12600) (p := 46) (q := 30) (A := mulM m A B) (B := C) (by decide) (by decide) o5 oAB (fun i j _ _ => sC i j) (by decide) (by decide) (by decide) (by decide)
  obtain ⟨k4, _, _, _⟩ := mul_ok (n := n) (m := m) (c := p) (D := 840) (E := 840 * 840) (a := 12600) (b := 5 * (12600 * 12600)) (p := 46) (q := 30) (A := A) (B := mulM o B C) (by decide) (by decide) m5 (fun i j _ _ => sA i j) oBC (by decide) (by decide) (by decide) (by decide)
  have wAB2 : wtF n o (mulM m A B) ≤ 1250 := wt_le25 wAB n5 o5 (by decide)
  have wBC2 : wtF m p (mulM o B C) ≤ 1250 := wt_le25 wBC m5 p5 (by decide)
  have HW1 : Hid (wtF n m A + wtF m o B ≤ 3800) := Lib.hid (by omega)
  have HW2 : Hid (wtF m o B + wtF o p C ≤ 3800) := Lib.hid (by omega)
  have HW3 : Hid (wtF n o (mulM m A B) + wtF o p C ≤ 3800) := Lib.hid (by omega)
  have HW4 : Hid (wtF n m A + wtF m p (mulM o B C) ≤ 3800) := Lib.hid (by omega)
  have K1 := Lib.hid k1
  have K2 := Lib.hid k2
  have K3 := Lib.hid k3
  have K4 := Lib.hid k4
  have FA := Lib.hid fA
  have FB := Lib.hid fB
  have FC := Lib.hid fC
  have FAB := Lib.hid fAB
  have FBC := Lib.hid fBC
  have EQ : Hid (mulM m A (mulM o B C) = mulM o (mulM m A B) C) := Lib.hid (by funext i k; exact (mul_assoc m o A B C i k).symm)
  have EA := Lib.hid hAe
  have EB := Lib.hid hBe
  have EC := Lib.hid hCe
  clear hn hm ho hp ha hb hc hAe hBe hCe sA sB sC fA fB fC wA wB wC k1 oAB fAB wAB k2 oBC fBC wBC k3 k4 wAB2 wBC2
  have tok1 : True := trivial
  go_enter Try.func6, Try.ntmps6
  go_wp2_with (first
    | (go_at_call 9; first
       | ((with_reducible refine (order_any x1 _ hx1).mono ?_); rw [HN.out]; rintro e0 w0 ⟨rfl, rfl⟩)
       | ((with_reducible refine (order_any x2 _ hx2).mono ?_); rw [HM.out]; rintro e0 w0 ⟨rfl, rfl⟩)
       | ((with_reducible refine (order_any x3 _ hx3).mono ?_); rw [HO.out]; rintro e0 w0 ⟨rfl, rfl⟩)
       | ((with_reducible refine (order_any x4 _ hx4).mono ?_); rw [HP.out]; rintro e0 w0 ⟨rfl, rfl⟩))
    | (go_at_call 10; first
       | ((with_reducible refine (matrix_any _ l1 n m _ HA.out n1 n5 m1 m5).mono ?_); rw [EA.out]; rintro e1 w1 ⟨v1, rfl, hm1, hb1⟩
          have sl1 := hm1.sl
          have HM1 := Lib.hid hm1
          have HB1 := Lib.hid hb1
          clear hm1 hb1)
       | ((with_reducible refine (matrix_any _ l2 m o _ (HB.out.below HB1.out) m1 m5 o1 o5).mono ?_); rw [EB.out]; rintro e2 w2 ⟨v2, rfl, hm2, hb2⟩
          have sl2 := hm2.sl
          have HM2 := Lib.hid hm2
          have HM1' := Lib.hid (HM1.out.below hb2)
          have HB2 := Lib.hid (below_then HB1.out hb2)
          clear hm2 hb2)
       | ((with_reducible refine (matrix_any _ l3 o p _ (HC.out.below HB2.out) o1 o5 p1 p5).mono ?_); rw [EC.out]; rintro e3 w3 ⟨v3, rfl, hm3, hb3⟩
          have sl3 := hm3.sl
          have HM3 := Lib.hid hm3
          have HM13 := Lib.hid (HM1'.out.below hb3)
          have HM23 := Lib.hid (HM2.out.below hb3)
          have HB3 := Lib.hid (below_then HB2.out hb3)
          clear hm3 hb3))
    | (go_at_call 21; first
       | ((with_reducible refine (mul_lin _ _ n m o A B _ HM13.out HM23.out n1 n24 m1 m24 o1 o24 FA.out FB.out HW1.out K1.out.p K1.out.s).mono ?_); rintro e4 w4 ⟨v4, rfl, hm4, hb4⟩
          have sl4 := hm4.sl
          have HM4 := Lib.hid hm4
          have HM14 := Lib.hid (HM13.out.below hb4)
          have HM24 := Lib.hid (HM23.out.below hb4)
          have HM34 := Lib.hid (HM3.out.below hb4)
          have HB4 := Lib.hid (below_then HB3.out hb4)
          clear hm4 hb4)
       | ((with_reducible refine (mul_lin _ _ m o p B C _ HM24.out HM34.out m1 m24 o1 o24 p1 p24 FB.out FC.out HW2.out K2.out.p K2.out.s).mono ?_); rintro e5 w5 ⟨v5, rfl, hm5, hb5⟩
          have sl5 := hm5.sl
          have HM5 := Lib.hid hm5
          have HM15 := Lib.hid (HM14.out.below hb5)
          have HM35 := Lib.hid (HM34.out.below hb5)
          have HM45 := Lib.hid (HM4.out.below hb5)
          have HB5 := Lib.hid (below_then HB4.out hb5)
          clear hm5 hb5)
       | ((with_reducible refine (mul_lin _ _ n o p (mulM m A B) C _ HM45.out HM35.out n1 n24 o1 o24 p1 p24 FAB.out FC.out HW3.out K3.out.p K3.out.s).mono ?_); rintro e6 w6 ⟨v6, rfl, hm6, hb6⟩
          have sl6 := hm6.sl
          have HM6 := Lib.hid hm6
          have HM16 := Lib.hid (HM15.out.below hb6)
          have HM56 := Lib.hid (HM5.out.below hb6)
          have HB6 := Lib.hid (below_then HB5.out hb6)
          clear hm6 hb6)
       | ((with_reducible refine (mul_lin _ _ n m p A (mulM o B C) _ HM16.out HM56.out n1 n24 m1 m24 p1 p24 FA.out FBC.out HW4.out K4.out.p K4.out.s).mono ?_); rw [EQ.out]; rintro e7 w7 ⟨v7, rfl, hm7, hb7⟩
          have sl7 := hm7.sl
          have HM7 := Lib.hid hm7
          have HM67 := Lib.hid (HM6.out.below hb7)
          have HB7 := Lib.hid (below_then HB6.out hb7)
          clear hm7 hb7))
    | (go_at_call 25; (with_reducible refine (same_mat _ _ _ _ _ HM67.out.matC HM7.out.matC).mono ?_); rintro e8 w8 ⟨⟨b8, rfl, hb8⟩, hbel8⟩; obtain rfl : b8 = true := hb8.2 rfl; clear hb8
       have HB8 := Lib.hid (below_then HB7.out hbel8)
       clear hbel8)
    | (go_at_call 15; (with_reducible refine (awake_any _).mono ?_); rintro e9 w9 ⟨rfl, hb9⟩))
  go_ret
  exact ⟨rfl, below_then HB8.out hb9⟩
end Go.Proofs.Ytbhkibilnmoljaa
namespace Go.Proofs.Ytbhkibilnmoljaa
open Go.ChangeShapes Go.WideShapes Go.ChangeAt Go.RowKit
set_option linter.unusedVariables false
set_option linter.unusedSimpArgs false

set_option maxRecDepth 100000 in
theorem associates_lifted (os : Os) (started : os.Started) (H : Type) (enc : TypeId × Value → H) :
    ReturnsInHanded {} Try.checked os 6 .any (Rows.linearAssociatesSpec.pre6 enc Try.prog Try.f6 Rows.linearAssociatesRow.domain false) (Rows.linearAssociatesSpec.post enc Try.prog Try.f6 false true false false) := by
  refine returnsInHanded_of_change (C := Try.checked) Try.ownK started (by kernel_rfl) Try.func6
    (ChangeSpec.witness6 (enc := enc) (C := Try.checked) false ⟨#[], #[.int .u8 0, .int .u8 0, .int .u8 0, .int .u8 0, .slice none 0 0, .slice none 0 0, .slice none 0 0], []⟩ 8 (by kernel_rfl) (by kernel_rfl) (by kernel_rfl) (by kernel_rfl)) ?_
  intro W base args ds gs before hval0 hW hcnd _
  have hval : ∀ (j : Nat) t v, Try.f6.params[j]? = some t → args[j]? = some v → Value.okWide Try.prog W .any base t v := hval0
  have hW' := hW
  obtain ⟨p, q, hA0, hV, rfl, hfz, hnd⟩ := hW
  have hA : DataW.TrodAll enc Try.prog W 0 (fun _ => true) true Try.f6.params.toList args.toList ds p := hA0
  rw [Try.params6] at hA hval
  obtain ⟨rfl, rfl⟩ := trodVars_none hV
  simp only [List.append_nil] at hW'
  have hback := fun (W' : World) (hb : Below W.heap.size W W') => trodAll_stays (enc := enc) Try.laidOut hb (by kernel_rfl) hA hW'.lt
  obtain ⟨v0, vs0, d0, ds0, p0, q0, e0, rfl, _, h0, hA⟩ := trodAll_cons hA
  obtain ⟨v1, vs1, d1, ds1, p1, q1, rfl, rfl, _, h1, hA⟩ := trodAll_cons hA
  obtain ⟨v2, vs2, d2, ds2, p2, q2, rfl, rfl, _, h2, hA⟩ := trodAll_cons hA
  obtain ⟨v3, vs3, d3, ds3, p3, q3, rfl, rfl, _, h3, hA⟩ := trodAll_cons hA
  obtain ⟨v4, vs4, d4, ds4, p4, q4, rfl, rfl, _, h4, hA⟩ := trodAll_cons hA
  obtain ⟨v5, vs5, d5, ds5, p5, q5, rfl, rfl, _, h5, hA⟩ := trodAll_cons hA
  obtain ⟨v6, vs6, d6, ds6, p6, q6, rfl, rfl, _, h6, hA⟩ := trodAll_cons hA
  obtain ⟨rfl, rfl, _⟩ := trodAll_nil hA
  obtain rfl : args = #[v0, v1, v2, v3, v4, v5, v6] := by cases args; simp_all
  obtain ⟨x0, rfl, g0⟩ := u8_came (hval 0 5 v0 rfl rfl) h0
  obtain ⟨x1, rfl, g1⟩ := u8_came (hval 1 5 v1 rfl rfl) h1
  obtain ⟨x2, rfl, g2⟩ := u8_came (hval 2 5 v2 rfl rfl) h2
  obtain ⟨x3, rfl, g3⟩ := u8_came (hval 3 5 v3 rfl rfl) h3
  obtain ⟨l4, g4⟩ := i8_came (hval 4 22 v4 rfl rfl) h4
  obtain ⟨l5, g5⟩ := i8_came (hval 5 22 v5 rfl rfl) h5
  obtain ⟨l6, g6⟩ := i8_came (hval 6 22 v6 rfl rfl) h6
  refine (associates_law x0 x1 x2 x3 _ _ _ l4 l5 l6 W g0 g1 g2 g3 g4 g5 g6).mono fun e W' ⟨he, hnx⟩ => ?_
  subst he
  refine ⟨_, rfl, _, _, _, [], p, [], hW', ?_, hback _ hnx, ?_, hnx.frame _, fun h => by cases h⟩
  · exact trodAll_mk1 (shut_bool Try.underlying4 _)
  · rfl
theorem linearAssociates_holds : Rows.LinearAssociatesSaid :=
  OpenClaim.holds_of_wide 6 Try.f6 rfl rfl rfl rfl rfl rfl rfl ⟨rfl, rfl, rfl, rfl, rfl⟩ rfl rfl rfl rfl rfl (by kernel_rfl) Try.func6 (by kernel_rfl)
    (of_decide_eq_true (by kernel_rfl)) (by unfold Func.isWrapper; first | (rw [if_pos (by decide +kernel)]; kernel_rfl) | (rw [if_neg (by decide +kernel)]; exact ⟨rfl, rfl⟩))
    (fun os started H enc _ => associates_lifted os started H enc)
#print axioms linearAssociates_holds
end Go.Proofs.Ytbhkibilnmoljaa
