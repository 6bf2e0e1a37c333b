/-
  LumpRaw: for every chain, list of numbers and list of fractions the law returns true, and they read as they did. No condition.
  Ahead of it: package drydocklaw22: agrees. package lump: Sums. Raw data as lists of limbs of any length; package drydocklaw22: heavy. package drydocklaw22: LumpRaw, the walk. LumpRaw: what came in, read limb by limb, and its bounds.
-/
import Derived.Test.YtoldfpkafcefnaaQRf5
import Derived.Test.YtoldfpkafcefnaaQRf7
import Derived.Test.YtoldfpkafcefnaaQRd1
import Derived.Test.YtoldfpkafcefnaaQSa4
import Derived.Test.YtoldfpkafcefnaaQLu2
import Derived.Test.YtoldfpkafcefnaaQSa1
import Derived.Test.YtoldfpkafcefnaaQCh4
import Derived.Test.YtoldfpkafcefnaaQAw2
import Derived.Test.YtoldfpkafcefnaaRows
import Derived.WalkKit
import Derived.ProofKit
import Derived.OpenShut
import Derived.ChangeSlices
import Derived.SizedLaws
import Derived.Deep.Slices
import Derived.Deep.Strs
import Derived.Deep.Grids
namespace Go.Proofs.Ytoldfpkafcefnaa
set_option linter.unusedVariables false
set_option linter.unusedSimpArgs false
open Go.RowKit

def emptyQ : CQ := ⟨[], [], []⟩
theorem emptyQ.reads (w : World) : ChainC w zeroCh emptyQ := ⟨_, _, _, rfl, ⟨IsSl.nil, rfl, fun j h => by simp [emptyQ] at h⟩, ⟨IsSl.nil, rfl, fun j h => by simp [emptyQ] at h⟩, ⟨IsSl.nil, rfl, fun j h => by simp [emptyQ] at h⟩⟩
/-- What Coarsest answers. -/
def CoP (c : RC) (L : List Int) (er : Int) : Prop := (¬ validP c ∧ L = [] ∧ er = 1) ∨ (validP c ∧ CoarseP c L ∧ er = 0)
theorem CoP.uniq {c : RC} {L L' : List Int} {er er' : Int} (h : CoP c L er) (h' : CoP c L' er') : L' = L ∧ er' = er := by
  rcases h with ⟨h1, rfl, rfl⟩ | ⟨h1, h2, rfl⟩ <;> rcases h' with ⟨g1, rfl, rfl⟩ | ⟨g1, g2, rfl⟩
  · exact ⟨rfl, rfl⟩
  · exact absurd g1 h1
  · exact absurd h1 g1
  · exact ⟨CoarseP.unique h1 g2 h2, rfl⟩
theorem RCoarse.read {w0 w : World} {c : RC} {e : Ending} (h : RCoarse w0 c e w) : ∃ v L er, e = .returned (.tuple #[v, .int .i64 er]) ∧ IntsV w v L ∧ Below w0.heap.size w0 w ∧ CoP c L er := by
  obtain ⟨h1, h2, h3⟩ := h
  by_cases hv : validP c
  · obtain ⟨v, nx, rfl, h4, h5⟩ := h2 hv
    exact ⟨v, nx, 0, rfl, h4, h3, Or.inr ⟨hv, h5, rfl⟩⟩
  · exact ⟨_, [], 1, h1 hv, ⟨IsSl.nil, rfl, fun j h => by simp at h⟩, h3, Or.inl ⟨hv, rfl, rfl⟩⟩
/-- What Quotient answers. -/
def QuP (c : RC) (bl : List Int) (Q : CQ) (er : Int) : Prop := (¬ checkP c bl ∧ Q = emptyQ ∧ er = 1) ∨ (checkP c bl ∧ validP (quo c bl).raw ∧ Q = quo c bl ∧ er = 0) ∨ (checkP c bl ∧ ¬ validP (quo c bl).raw ∧ Q = emptyQ ∧ er = 2)
theorem QuP.uniq {c : RC} {bl : List Int} {Q Q' : CQ} {er er' : Int} (h : QuP c bl Q er) (h' : QuP c bl Q' er') : Q' = Q ∧ er' = er := by
  rcases h with ⟨h1, rfl, rfl⟩ | ⟨h1, h2, rfl, rfl⟩ | ⟨h1, h2, rfl, rfl⟩ <;> rcases h' with ⟨g1, rfl, rfl⟩ | ⟨g1, g2, rfl, rfl⟩ | ⟨g1, g2, rfl, rfl⟩ <;> first | exact ⟨rfl, rfl⟩ | exact absurd g1 h1 | exact absurd h1 g1 | exact absurd g2 h2 | exact absurd h2 g2
theorem RQuo.read {w0 w : World} {c : RC} {bl : List Int} {e : Ending} (h : RQuo w0 c bl e w) : ∃ v Q er, e = .returned (.tuple #[v, .int .i64 er]) ∧ ChainC w v Q ∧ Below w0.heap.size w0 w ∧ QuP c bl Q er := by
  obtain ⟨v, er, rfl, hb, h1, h2, h3⟩ := h
  by_cases hc : checkP c bl
  · by_cases hq : validP (quo c bl).raw
    · obtain ⟨rfl, h4⟩ := h2 hc hq
      exact ⟨v, _, 0, rfl, h4, hb, Or.inr (Or.inl ⟨hc, hq, rfl, rfl⟩)⟩
    · obtain ⟨rfl, rfl⟩ := h3 hc hq
      exact ⟨_, _, 2, rfl, emptyQ.reads _, hb, Or.inr (Or.inr ⟨hc, hq, rfl, rfl⟩)⟩
  · obtain ⟨rfl, rfl⟩ := h1 hc
    exact ⟨_, _, 1, rfl, emptyQ.reads _, hb, Or.inl ⟨hc, rfl, rfl⟩⟩
theorem keep9 {X Y : World} {a1 a2 a3 a4 a5 a6 a7 a8 a9 : Addr} {x1 x2 x3 x4 x5 x6 x7 x8 x9 : Value}
    (h : X.cell? a1 = some x1 ∧ X.cell? a2 = some x2 ∧ X.cell? a3 = some x3 ∧ X.cell? a4 = some x4 ∧ X.cell? a5 = some x5 ∧ X.cell? a6 = some x6 ∧ X.cell? a7 = some x7 ∧ X.cell? a8 = some x8 ∧ X.cell? a9 = some x9) (hb : Below X.heap.size X Y) :
    Y.cell? a1 = some x1 ∧ Y.cell? a2 = some x2 ∧ Y.cell? a3 = some x3 ∧ Y.cell? a4 = some x4 ∧ Y.cell? a5 = some x5 ∧ Y.cell? a6 = some x6 ∧ Y.cell? a7 = some x7 ∧ Y.cell? a8 = some x8 ∧ Y.cell? a9 = some x9 := by
  obtain ⟨k1, k2, k3, k4, k5, k6, k7, k8, k9⟩ := h
  exact ⟨cell_below hb k1, cell_below hb k2, cell_below hb k3, cell_below hb k4, cell_below hb k5, cell_below hb k6, cell_below hb k7, cell_below hb k8, cell_below hb k9⟩
set_option maxRecDepth 100000 in
set_option maxHeartbeats 3200000 in
theorem agrees_any (va vb : Value) (c : RC) (bl : List Int) (w : World) (ha : ChainN w va c) (hb : IntsV w vb bl) :
    Calls Try.prog 9 #[va, vb] w (fun e w' => e = .returned (.bool true) ∧ Below w.heap.size w w') := by
  obtain ⟨rv, sv, lv, rfl, hr, hs, hl⟩ := id ha
  obtain ⟨ra, rn, rk, rfl, _⟩ := id hr.sl
  obtain ⟨sa, sn, sk, rfl, _⟩ := id hs.sl
  obtain ⟨la, ln, lk, rfl, _⟩ := id (CellsV.sl hl)
  have hbx := below_alloc w (.cells #[.slice ra rn rk, .slice sa sn sk, .slice la ln lk] 27)
  have HA := Lib.hid (ha.below hbx)
  have HB := Lib.hid (hb.below hbx)
  have HC := Lib.hid (C3.new w 27 (.slice ra rn rk) (.slice sa sn sk) (.slice la ln lk))
  obtain ⟨_, c0, c1, c2, _, _, _⟩ := HC.out
  clear ha hb hr hs hl
  go_enter Try.func9, Try.ntmps9
  go_upto_region 5 with (first
    | (go_at_call 18; (with_reducible refine (coarse_any _ c _ HA.out).mono ?_); intro e1 w1 h1; obtain ⟨v1, L, er1, rfl, hI1, hb1, hc1⟩ := h1.read
       obtain ⟨_, c0, c1, c2, _, _, _⟩ := HC.out.belowS hb1)
    | (go_at_call 23; (with_reducible refine (rcoarse_any _ c _ (HA.out.below hb1)).mono ?_); intro e2 w2 h2; obtain ⟨v2, L2, er2, rfl, hI2, hb2, hc2⟩ := h2.read
       obtain ⟨rfl, rfl⟩ := hc1.uniq hc2
       have hb12 := below_then hb1 hb2
       have HI1 := Lib.hid (hI1.below hb2)
       have HI2 := Lib.hid hI2
       obtain ⟨_, c0, c1, c2, _, _, _⟩ := HC.out.belowS hb12
       clear hc1 hc2 hI1 hI2)
    | (go_at_call 15; (with_reducible refine (quo_any _ _ c bl _ (HA.out.below hb12) (HB.out.below hb12)).mono ?_); intro e3 w3 h3; obtain ⟨v3, Q, er3, rfl, hQ3, hb3, hc3⟩ := h3.read
       obtain ⟨qr, qs3, ql, rfl, m1, m2, m3⟩ := id hQ3
       obtain ⟨q1, q2, q3, rfl, _⟩ := id m1.sl
       obtain ⟨q4, q5, q6, rfl, _⟩ := id m2.sl
       obtain ⟨q7, q8, q9, rfl, _⟩ := id (CellsV.sl m3)
       have ba3 := below_alloc w3 (.cells #[.slice q1 q2 q3, .slice q4 q5 q6, .slice q7 q8 q9] 27)
       have HQ3 := Lib.hid (hQ3.below ba3)
       have HC3 := Lib.hid (C3.new w3 27 (.slice q1 q2 q3) (.slice q4 q5 q6) (.slice q7 q8 q9))
       have hb13 := below_then hb12 (below_then hb3 ba3)
       have HI13 := Lib.hid (HI1.out.below (below_then hb3 ba3))
       have HI23 := Lib.hid (HI2.out.below (below_then hb3 ba3))
       obtain ⟨_, c0, c1, c2, _, _, _⟩ := HC.out.belowS hb13
       clear hQ3 m1 m2 m3 ba3)
    | (go_at_call 24; (with_reducible refine (rquo_any _ _ c bl _ (HA.out.below hb13) (HB.out.below hb13)).mono ?_); intro e4 w4 h4; obtain ⟨v4, Q4, er4, rfl, hQ4, hb4, hc4⟩ := h4.read
       obtain ⟨rfl, rfl⟩ := hc3.uniq hc4
       obtain ⟨pr, ps4, pl, rfl, m1, m2, m3⟩ := id hQ4
       obtain ⟨p1, p2, p3, rfl, _⟩ := id m1.sl
       obtain ⟨p4, p5, p6, rfl, _⟩ := id m2.sl
       obtain ⟨p7, p8, p9, rfl, _⟩ := id (CellsV.sl m3)
       have ba4 := below_alloc w4 (.cells #[.slice p1 p2 p3, .slice p4 p5 p6, .slice p7 p8 p9] 27)
       have hb34 := below_then hb4 ba4
       have HQ4 := Lib.hid (hQ4.below ba4)
       have HQ34 := Lib.hid (HQ3.out.below hb34)
       have HC4 := Lib.hid (C3.new w4 27 (.slice p1 p2 p3) (.slice p4 p5 p6) (.slice p7 p8 p9))
       have HC34 := Lib.hid (HC3.out.belowS hb34)
       have hb14 := below_then hb13 hb34
       have HC14 := Lib.hid (HC.out.belowS hb14)
       have HA4 := Lib.hid (HA.out.below hb14)
       have HB4 := Lib.hid (HB.out.below hb14)
       have HI14 := Lib.hid (HI13.out.below hb34)
       have HI24 := Lib.hid (HI23.out.below hb34)
       have HBW := Lib.hid (below_then hbx hb14)
       clear hQ4 m1 m2 m3 ba4 hc3 hc4))
  generalize w4.alloc (.cells #[.slice p1 p2 p3, .slice p4 p5 p6, .slice p7 p8 p9] 27) = W5 at *
  have hD := below_drew (B := W5.heap.size) W5
  obtain ⟨_, a1, a2, a3, _, _, _⟩ := HC34.out.belowS hD
  obtain ⟨_, b1, b2, b3, _, _, _⟩ := HC4.out.belowS hD
  obtain ⟨_, c1, c2, c3, _, _, _⟩ := HC14.out.belowS hD
  have H9 := (And.intro a1 (And.intro a2 (And.intro a3 (And.intro b1 (And.intro b2 (And.intro b3 (And.intro c1 (And.intro c2 c3))))))))
  clear a1 a2 a3 b1 b2 b3 c1 c2 c3
  go_region_held3 (fun w' => w'.cell? ⟨w3.heap.size, 0, none⟩ = some (.slice q1 q2 q3) ∧ w'.cell? ⟨w3.heap.size, 1, none⟩ = some (.slice q4 q5 q6) ∧ w'.cell? ⟨w3.heap.size, 2, none⟩ = some (.slice q7 q8 q9) ∧ w'.cell? ⟨w4.heap.size, 0, none⟩ = some (.slice p1 p2 p3) ∧ w'.cell? ⟨w4.heap.size, 1, none⟩ = some (.slice p4 p5 p6) ∧ w'.cell? ⟨w4.heap.size, 2, none⟩ = some (.slice p7 p8 p9) ∧ w'.cell? ⟨w.heap.size, 0, none⟩ = some (.slice ra rn rk) ∧ w'.cell? ⟨w.heap.size, 1, none⟩ = some (.slice sa sn sk) ∧ w'.cell? ⟨w.heap.size, 2, none⟩ = some (.slice la ln lk)) (first
    | with_reducible exact H9
    | with_reducible exact keep9 (by assumption) (by assumption)) (first
    | (go_at_call 25; (with_reducible refine (same_ints _ _ L2 L2 _ (HI14.out.below hD) (HI24.out.below hD)).mono ?_); rintro e5 w5 ⟨⟨b5, rfl, hb5⟩, hbel5⟩; obtain rfl : b5 = true := hb5.2 rfl; clear hb5; have hb5D := below_then hD hbel5)
    | (go_at_call 17; (with_reducible refine (same_chain _ _ Q4 Q4 _ (HQ34.out.below hb5D) (HQ4.out.below hb5D)).mono ?_); rintro e6 w6 ⟨⟨b6, rfl, hb6⟩, hbel6⟩; obtain rfl : b6 = true := hb6.2 rfl; clear hb6; have hb6D := below_then hb5D hbel6)
    | (go_at_call 16; (with_reducible refine (check_any _ _ c bl _ (HA4.out.below hb6D) (HB4.out.below hb6D)).mono ?_); rintro e7 w7 ⟨⟨b7, rfl, hb7⟩, hbel7⟩; have HB7 := Lib.hid hb7; clear hb7; have hb7D := below_then hb6D hbel7)
    | (go_at_call 26; (with_reducible refine (rcheck_any _ _ c bl _ (HA4.out.below hb7D) (HB4.out.below hb7D)).mono ?_); rintro e8 w8 ⟨⟨b8, rfl, hb8⟩, hbel8⟩; obtain rfl : b7 = b8 := Bool.eq_iff_iff.2 (HB7.out.trans hb8.symm); clear hb8; have hb8D := below_then hb7D hbel8))
  cases b7 <;> (
    go_wp2
    go_ret
    exact ⟨rfl, below_then HBW.out hb8D⟩)
end Go.Proofs.Ytoldfpkafcefnaa
namespace Go.Proofs.Ytoldfpkafcefnaa
set_option linter.unusedVariables false
set_option linter.unusedSimpArgs false
open Go.RowKit

/-- Add of a canonical and another fraction. -/
theorem add_rf (va vb : Value) (p r : Rat) (x : RF) (w : World) (ha : FracC w va p) (hb : FracN w vb x.neg x.n x.d) (hp : fits p) (hx : okN x.n x.d) (hr : p + x.q = r) :
    Calls Try.prog 41 #[va, vb] w (RFrac w r) := by
  refine (add_frac va vb _ _ _ _ _ _ w ha.raw hb (fits_okN hp) hx).mono ?_
  rw [fq_self, show p + fq x.neg x.n x.d = r from hr]
  exact fun _ _ h => h
def RSum3 (w0 : World) (row : List RF) (bl : List Int) (e : Ending) (w : World) : Prop :=
  ∃ v er, e = .returned (.tuple #[v, .int .i64 er]) ∧ Below w0.heap.size w0 w ∧ (badS row bl → er = 1 ∧ v = .slice none 0 0) ∧ (¬ badS row bl → fitS row bl → er = 0 ∧ FracsC w v (bsums bl (qs row) (cnt bl))) ∧ (¬ badS row bl → ¬ fitS row bl → er = 2 ∧ v = .slice none 0 0)
theorem RSum3.bad {w0 w : World} {row : List RF} {bl : List Int} (h : badS row bl) (hb : Below w0.heap.size w0 w) : RSum3 w0 row bl (.returned (.tuple #[.slice none 0 0, .int .i64 1])) w :=
  ⟨_, _, rfl, hb, fun _ => ⟨rfl, rfl⟩, fun h' => absurd h h', fun h' => absurd h h'⟩
theorem RSum3.big {w0 w : World} {row : List RF} {bl : List Int} (h : ¬ badS row bl) (hf : ¬ fitS row bl) (hb : Below w0.heap.size w0 w) : RSum3 w0 row bl (.returned (.tuple #[.slice none 0 0, .int .i64 2])) w :=
  ⟨_, _, rfl, hb, fun h' => absurd h' h, fun _ h' => absurd h' hf, fun _ _ => ⟨rfl, rfl⟩⟩
set_option maxRecDepth 100000 in
set_option maxHeartbeats 1600000 in
theorem lsums_early (va vb : Value) (row : List RF) (bl : List Int) (w : World) (ha : FracsN w va row) (hb : IntsV w vb bl) (h : ¬ (okB bl ∧ 0 < bl.length ∧ bl.length = row.length)) :
    Calls Try.prog 20 #[va, vb] w (RSum3 w row bl) := by
  have HB : Hid (badS row bl) := Lib.hid (fun h' => h ⟨h'.1, h'.2.1, h'.2.2.1⟩)
  have sa := ha.sl
  have la := ha.len
  have sb := CellsV.sl hb
  have lb := hb.len
  by_cases hk : okB bl ∧ 0 < bl.length
  · have hne : (((row.length : Nat) : Int) != (bl.length : Nat)) = true := by
      have : bl.length ≠ row.length := fun e => h ⟨hk.1, hk.2, e⟩
      simp; omega
    have HK := Lib.hid hk
    clear h hk
    go_enter Try.func20, Try.ntmps20
    go_wp2_with (first
      | (go_at_call 32; (with_reducible refine (count_any _ bl _ hb).mono ?_); rintro e5 w5 ⟨n5, b5, rfl, rfl, hc5, _⟩; obtain ⟨hn5, hb5⟩ := hc5 HK.out.1; obtain rfl : b5 = true := hb5.trans (decide_eq_true HK.out.2); clear hc5 hb5 hn5))
    go_ret2
    exact RSum3.bad HB.out (Below.refl _ _)
  · have HK : Hid (∀ n b, ((okB bl → n = cnt bl ∧ b = decide (0 < bl.length)) ∧ (¬ okB bl → b = false ∧ n = 0)) → b = false) := Lib.hid (fun n b hc => by
      by_cases h1 : okB bl
      · rw [(hc.1 h1).2]; exact decide_eq_false (fun h2 => hk ⟨h1, h2⟩)
      · exact (hc.2 h1).1)
    clear h hk
    go_enter Try.func20, Try.ntmps20
    go_wp2_with (first
      | (go_at_call 32; (with_reducible refine (count_any _ bl _ hb).mono ?_); rintro e5 w5 ⟨n5, b5, rfl, rfl, hc5⟩; obtain rfl : b5 = false := HK.out _ _ hc5; clear hc5))
    go_ret2
    exact RSum3.bad HB.out (Below.refl _ _)
theorem keep7w {w0 X Y : World} {a1 a2 a3 a4 a5 a6 a7 : Addr} {x1 x2 x3 x4 x5 x6 x7 : Value} (h : X.cell? a1 = some x1 ∧ X.cell? a2 = some x2 ∧ X.cell? a3 = some x3 ∧ X.cell? a4 = some x4 ∧ X.cell? a5 = some x5 ∧ X.cell? a6 = some x6 ∧ X.cell? a7 = some x7 ∧ Below w0.heap.size w0 X) (hb : Below X.heap.size X Y) :
    Y.cell? a1 = some x1 ∧ Y.cell? a2 = some x2 ∧ Y.cell? a3 = some x3 ∧ Y.cell? a4 = some x4 ∧ Y.cell? a5 = some x5 ∧ Y.cell? a6 = some x6 ∧ Y.cell? a7 = some x7 ∧ Below w0.heap.size w0 Y := by
  obtain ⟨k1, k2, k3, k4, k5, k6, k7, k8⟩ := h
  exact ⟨cell_below hb k1, cell_below hb k2, cell_below hb k3, cell_below hb k4, cell_below hb k5, cell_below hb k6, cell_below hb k7, below_then k8 hb⟩
theorem keep7a {w0 X : World} {a1 a2 a3 a4 a5 a6 a7 : Addr} {x1 x2 x3 x4 x5 x6 x7 : Value} (h : w0.cell? a1 = some x1 ∧ w0.cell? a2 = some x2 ∧ w0.cell? a3 = some x3 ∧ w0.cell? a4 = some x4 ∧ w0.cell? a5 = some x5 ∧ w0.cell? a6 = some x6 ∧ w0.cell? a7 = some x7) (hb : Below w0.heap.size w0 X) :
    X.cell? a1 = some x1 ∧ X.cell? a2 = some x2 ∧ X.cell? a3 = some x3 ∧ X.cell? a4 = some x4 ∧ X.cell? a5 = some x5 ∧ X.cell? a6 = some x6 ∧ X.cell? a7 = some x7 ∧ Below w0.heap.size w0 X := by
  obtain ⟨k1, k2, k3, k4, k5, k6, k7⟩ := h
  exact ⟨cell_below hb k1, cell_below hb k2, cell_below hb k3, cell_below hb k4, cell_below hb k5, cell_below hb k6, cell_below hb k7, hb⟩
theorem keep7c {w0 X : World} {a1 a2 a3 a4 a5 a6 a7 : Addr} {x1 x2 x3 x4 x5 x6 x7 : Value} (h : X.cell? a1 = some x1 ∧ X.cell? a2 = some x2 ∧ X.cell? a3 = some x3 ∧ X.cell? a4 = some x4 ∧ X.cell? a5 = some x5 ∧ X.cell? a6 = some x6 ∧ X.cell? a7 = some x7 ∧ Below w0.heap.size w0 X) : Below w0.heap.size w0 X := h.2.2.2.2.2.2.2
theorem keep7s {w0 X : World} {a1 a2 a3 a4 a5 a6 a7 : Addr} {x1 x2 x3 x4 x5 x6 x7 : Value} (h : w0.cell? a1 = some x1 ∧ w0.cell? a2 = some x2 ∧ w0.cell? a3 = some x3 ∧ w0.cell? a4 = some x4 ∧ w0.cell? a5 = some x5 ∧ w0.cell? a6 = some x6 ∧ w0.cell? a7 = some x7) (hb : Below w0.heap.size w0 X) {b : Nat} (hB : w0.heap.size ≤ b) (x y z : Value) :
    (((X.setCell ⟨b, 0, none⟩ x).setCell ⟨b, 1, none⟩ y).setCell ⟨b, 2, none⟩ z).cell? a1 = some x1 ∧ (((X.setCell ⟨b, 0, none⟩ x).setCell ⟨b, 1, none⟩ y).setCell ⟨b, 2, none⟩ z).cell? a2 = some x2 ∧ (((X.setCell ⟨b, 0, none⟩ x).setCell ⟨b, 1, none⟩ y).setCell ⟨b, 2, none⟩ z).cell? a3 = some x3 ∧
    (((X.setCell ⟨b, 0, none⟩ x).setCell ⟨b, 1, none⟩ y).setCell ⟨b, 2, none⟩ z).cell? a4 = some x4 ∧ (((X.setCell ⟨b, 0, none⟩ x).setCell ⟨b, 1, none⟩ y).setCell ⟨b, 2, none⟩ z).cell? a5 = some x5 ∧ (((X.setCell ⟨b, 0, none⟩ x).setCell ⟨b, 1, none⟩ y).setCell ⟨b, 2, none⟩ z).cell? a6 = some x6 ∧ (((X.setCell ⟨b, 0, none⟩ x).setCell ⟨b, 1, none⟩ y).setCell ⟨b, 2, none⟩ z).cell? a7 = some x7 ∧ Below w0.heap.size w0 (((X.setCell ⟨b, 0, none⟩ x).setCell ⟨b, 1, none⟩ y).setCell ⟨b, 2, none⟩ z) :=
  keep7a h (below_set3 hb hB x y z)
set_option maxRecDepth 100000 in
set_option maxHeartbeats 6400000 in
theorem lsums_main (va vb : Value) (row : List RF) (bl : List Int) (w : World) (ha : FracsN w va row) (hb : IntsV w vb bl) (hok : okB bl) (h0 : 0 < bl.length) (hlen : bl.length = row.length) (hn : bl.length ≤ 128) :
    Calls Try.prog 20 #[va, vb] w (RSum3 w row bl) := by
  have sa := ha.sl
  have la := ha.len
  have sb := CellsV.sl hb
  have lb := hb.len
  have HOK := Lib.hid hok
  have HLEN := Lib.hid hlen
  rw [← hlen] at la
  obtain ⟨n, hcn⟩ : ∃ n, cnt bl = n := ⟨_, rfl⟩
  have hn2 : n ≤ 128 := by have := cnt_le bl bl.length; rw [List.take_length] at this; omega
  have HN := Lib.hid hcn
  have HNB : Hid ((∀ x ∈ row, x.ok) → ¬ badS row bl) := Lib.hid (fun h h' => h' ⟨hok, h0, hlen, h⟩)
  have HBD : Hid ((¬ ∀ x ∈ row, x.ok) → badS row bl) := Lib.hid (fun h h' => h h'.2.2.2)
  have HP0 : Hid (decide (0 < bl.length) = true) := Lib.hid (decide_eq_true h0)
  obtain ⟨i0, hi, hz0, hz1, hz2⟩ := info_parts Try.infoF
  have hM := make_fr (P := Try.prog) 24 50 i0 Try.underlying24 hi hz0 hz1 (by rw [hz2]; decide)
  clear hi hz0 hz1 hz2 hok hcn hlen
  go_enter Try.func20, Try.ntmps20
  go_wp2_with (first
    | (go_at_call 32; (with_reducible refine (count_any _ bl _ hb).mono ?_); rintro e5 w5 ⟨n5, b5, rfl, rfl, hc5, _⟩; obtain ⟨hn5, hb5⟩ := hc5 HOK.out; obtain rfl : b5 = true := hb5.trans HP0.out; obtain rfl : n5 = n := hn5.trans HN.out; clear hc5 hb5 hn5))
  go_loopw [32] (fun u32 wr => ∃ (k : Nat), k ≤ bl.length ∧ u32 = .int .i64 k ∧ (∀ x ∈ row.take k, x.ok) ∧ Below w.heap.size w wr) (fun u32 _ => bl.length - (intOf u32).toNat)
  case atStart => exact ⟨0, Nat.zero_le _, rfl, by simp, Below.refl _ _⟩
  case round =>
    obtain ⟨k, hk, rfl, hpl, hbr⟩ := hrel
    have HPL := Lib.hid hpl
    clear hpl
    by_cases hkl : k < bl.length
    · have hkr : k < row.length := by rw [← HLEN.out]; exact hkl
      obtain ⟨xa, xb, c1, c2, c3, hxa, hxb⟩ := (ha.below hbr).at' k hkr
      obtain ⟨c1a, c1l, c1k, rfl, _⟩ := hxa.slen.1
      obtain ⟨c2a, c2l, c2k, rfl, _⟩ := hxb.slen.1
      have HNX : Hid ((row[k]'hkr).ok → ∀ x ∈ row.take (k + 1), x.ok) := Lib.hid (fun h x hx => by
        rw [take_snoc row k hkr, List.mem_append, List.mem_singleton] at hx
        rcases hx with hx | rfl
        · exact HPL.out x hx
        · exact h)
      have HNO : Hid (¬ (row[k]'hkr).ok → badS row bl) := Lib.hid (fun h => HBD.out (fun h' => h (h' _ (List.getElem_mem hkr))))
      generalize row[k]'hkr = x at *
      have hba := below_alloc wr (.cells #[.bool x.neg, .slice c1a c1l c1k, .slice c2a c2l c2k] 50)
      have HA : Hid (FracN (wr.alloc (.cells #[.bool x.neg, .slice c1a c1l c1k, .slice c2a c2l c2k] 50)) (.agg #[.bool x.neg, .slice c1a c1l c1k, .slice c2a c2l c2k]) x.neg x.n x.d) := Lib.hid ⟨_, _, rfl, hxa.below hba, hxb.below hba⟩
      have i1 : (0 : Int) ≤ (k : Int) := by omega
      have i2 : (k : Int) < (bl.length : Nat) := by omega
      clear hxa hxb hkr
      by_cases hx : x.ok
      · have HY := Lib.hid (HNX.out hx)
        have HX : Hid (okN x.n x.d) := Lib.hid hx
        clear hx
        go_wp2_with (go_at_call 40; (with_reducible refine (valid_ok _ x.neg x.n x.d _ HA.out HX.out).mono ?_); rintro e9 w9 ⟨rfl, hbel9⟩)
        go_roundw
        case rel => exact ⟨k + 1, hkl, by go_num, HY.out, below_then (below_then hbr hba) hbel9⟩
        case measure => simp [intOf]; omega
      · have HY := Lib.hid (HNO.out hx)
        have HX : Hid (¬ okN x.n x.d) := Lib.hid hx
        clear hx
        go_wp2_with (go_at_call 40; (with_reducible refine (valid_no _ x.neg x.n x.d _ HA.out HX.out).mono ?_); rintro e9 w9 ⟨rfl, hbel9⟩)
        go_ret2
        exact RSum3.bad HY.out (below_then (below_then hbr hba) hbel9)
    · obtain rfl : k = bl.length := by omega
      have HROK : Hid (∀ x ∈ row, x.ok) := Lib.hid (by have := HPL.out; rwa [List.take_of_length_le (by rw [HLEN.out]; exact Nat.le_refl _)] at this)
      have HGOOD := Lib.hid (HNB.out HROK.out)
      have HBR := Lib.hid hbr
      obtain ⟨W0, hW0⟩ : ∃ W0, W0 = wr := ⟨_, rfl⟩
      subst hW0
      go_wp2_with (first
        | (refine hM _ rfl _ _ rfl W0.heap.size _ n5 rfl rfl rfl (by omega) (Nat.le_refl _) ?_; intro v w1 hown hb1 hvb; have sv := hown.sl; have lv := hown.len))
      clear hM
      go_loopw [44] (fun u44 wr => ∃ (k : Nat), k ≤ n5 ∧ u44 = .int .i64 k ∧ OwnFr wr 50 W0.heap.size v n5 ∧ (∀ j, j < k → ElemC wr v j 0) ∧ Below W0.heap.size W0 wr) (fun u44 _ => n5 - (intOf u44).toNat)
      case atStart => exact ⟨0, Nat.zero_le _, rfl, hown, fun j h => by omega, hb1⟩
      case round =>
        obtain ⟨k, hk, rfl, ho, he, hbr2⟩ := hrel
        have HE := Lib.hid he
        have HB2 := Lib.hid hbr2
        clear he
        by_cases hkn : k < n5
        · go_wp2_with (go_at_call 34; (with_reducible refine (make_01 _).mono ?_); rintro e w2 ⟨r, rfl, hr, hb2⟩
                       obtain ⟨t9, x9, y9, rfl, ⟨a1, l91, k1, rfl, _⟩, ⟨a2, l92, k2, rfl, _⟩⟩ := hr.isF
                       have ho2 := ho.below hb2
                       obtain ⟨c0, d0, _⟩ := ho2.cell (k * 3) (by omega)
                       obtain ⟨c1, d1, _⟩ := ho2.cell (k * 3 + 1) (by omega)
                       obtain ⟨c2, d2, _⟩ := ho2.cell (k * 3 + 2) (by omega)
                       have f0 := ho2.frozen (k * 3)
                       have f1 := ho2.frozen (k * 3 + 1)
                       have f2 := ho2.frozen (k * 3 + 2)
                       have n01 := ho2.inj (show k * 3 ≠ k * 3 + 1 by omega)
                       have n02 := ho2.inj (show k * 3 ≠ k * 3 + 2 by omega)
                       have n12 := ho2.inj (show k * 3 + 1 ≠ k * 3 + 2 by omega)
                       have hs3 := ho2.set3 k (.bool t9) (.slice a1 l91 k1) (.slice a2 l92 k2) (fun z => by simp) (fun z => by simp) (fun z => by simp)
                       have HS3 := Lib.hid hs3
                       clear hs3)
          go_roundw
          case rel =>
            refine ⟨k + 1, hkn, by go_num, HS3.out.1, fun j hj => ?_, (below_then HB2.out hb2).trans HS3.out.2⟩
            rcases Nat.lt_or_ge j k with h6 | h6
            · exact ElemC.set3_other ho2 hkn (by omega) ((HE.out j h6).below hb2) _ _ _ (fun z => by simp) (fun z => by simp)
            · obtain rfl : j = k := by omega
              exact ElemC.set3 ho2 hkn hr
          case measure => simp [intOf]; omega
        · obtain rfl : k = n5 := by omega
          have HE0 : Hid (∀ j, j < k → ElemC wr v j (bsum (bl.take 0) ((qs row).take 0) (j : Nat))) := Lib.hid (fun j hj => by have := HE.out j hj; simpa [bsum, bsel, lsum] using this)
          have HO := Lib.hid ho
          go_wp2_with fail
          have HF0 : Hid (∀ j : Nat, fits (bsum (bl.take 0) ((qs row).take 0) (j : Nat))) := Lib.hid (fun j => by
            have : bsum (bl.take 0) ((qs row).take 0) (j : Nat) = 0 := by simp [bsum, bsel, lsum]
            rw [this]; exact ⟨by decide +kernel, by decide +kernel⟩)
          go_loopg [57] (bl.length) (fun g u57 wr => ∃ (i : Nat), i ≤ bl.length ∧ g = bl.length - i ∧ u57 = .int .i64 i ∧ OwnFr wr 50 W0.heap.size v k ∧ (∀ j, j < k → ElemC wr v j (bsum (bl.take i) ((qs row).take i) (j : Nat))) ∧ (∀ (y : Nat) (h : y < bl.length), y < i → fits (bsum (bl.take (y + 1)) ((qs row).take (y + 1)) bl[y])) ∧ (∀ j : Nat, fits (bsum (bl.take i) ((qs row).take i) (j : Nat))) ∧ Below W0.heap.size W0 wr)
          case atStart => exact ⟨0, Nat.zero_le _, rfl, rfl, HO.out, HE0.out, fun y h h1 => by omega, HF0.out, HB2.out⟩
          case round =>
            obtain ⟨i, hi, hg2, rfl, ho3, he3, hf3, hf4, hbr3⟩ := hrel
            have HO3 := Lib.hid ho3
            have HE3 := Lib.hid he3
            have HF3 := Lib.hid hf3
            have HF4 := Lib.hid hf4
            have HB3 := Lib.hid hbr3
            by_cases hil : i < bl.length
            · have hir : i < row.length := by rw [← HLEN.out]; exact hil
              obtain ⟨xa, xb, e1, e2, e3, hxa, hxb⟩ := ((ha.below HBR.out).below hbr3).at' i hir
              obtain ⟨c1a, c1l, c1k, rfl, _⟩ := hxa.slen.1
              obtain ⟨c2a, c2l, c2k, rfl, _⟩ := hxb.slen.1
              have hbc := ((hb.below HBR.out).below hbr3).at' i hil
              have hblt := HOK.out.lt (List.getElem?_eq_getElem hil)
              rw [HN.out] at hblt
              have HBT : Hid (∀ j : Nat, bsum (bl.take (i + 1)) ((qs row).take (i + 1)) (j : Nat) = if bl[i]'hil = (j : Nat) then bsum (bl.take i) ((qs row).take i) (j : Nat) + (row[i]'hir).q else bsum (bl.take i) ((qs row).take i) (j : Nat)) := Lib.hid (fun j => by
                rw [bsum_take bl (qs row) (j : Nat) i hil (by rw [qs_length]; exact hir), qs_get row i hir])
              have HXO : Hid (okN (row[i]'hir).n (row[i]'hir).d) := Lib.hid (HROK.out _ (List.getElem_mem hir))
              have HIL := Lib.hid hil
              generalize hbk : bl[i]'hil = bk at *
              obtain ⟨b, rfl⟩ : ∃ b : Nat, bk = (b : Int) := ⟨bk.toNat, by omega⟩
              have HBK : Hid (∀ h : i < bl.length, bl[i]'h = (b : Int)) := Lib.hid (fun _ => hbk)
              have hbn : b < k := by omega
              generalize row[i]'hir = x at *
              have i1 : (0 : Int) ≤ (i : Int) := by omega
              have i2 : (i : Int) < (bl.length : Nat) := by omega
              have i3 : (0 : Int) ≤ (b : Int) := by omega
              have i4 : (b : Int) < (k : Nat) := by omega
              have hbx := below_alloc wr (.cells #[.bool x.neg, .slice c1a c1l c1k, .slice c2a c2l c2k] 50)
              have hc13 := C3.new wr 50 (.bool x.neg) (.slice c1a c1l c1k) (.slice c2a c2l c2k)
              have HXA := Lib.hid (And.intro (hxa.below hbx) (hxb.below hbx))
              go_wp2_with fail
              generalize wr.alloc (.cells #[.bool x.neg, .slice c1a c1l c1k, .slice c2a c2l c2k] 50) = W3 at *
              have hbr4 := below_then hbr3 hbx
              have HO4 := Lib.hid (ho3.below hbx)
              have HE4 := Lib.hid (fun j hj => (he3 j hj).below hbx)
              have HB4 := Lib.hid hbr4
              obtain ⟨ea, eb, g1, g2, g3, g4, g5⟩ := (he3 b hbn).below hbx
              obtain ⟨ea1, ea2, ea3, rfl, _⟩ := id g4.v.sl
              obtain ⟨eb1, eb2, eb3, rfl, _⟩ := id g5.v.sl
              obtain ⟨p, hp⟩ : ∃ p, bsum (bl.take i) ((qs row).take i) ((b : Nat) : Int) = p := ⟨_, rfl⟩
              obtain ⟨r, hr⟩ : ∃ r, bsum (bl.take (i + 1)) ((qs row).take (i + 1)) ((b : Nat) : Int) = r := ⟨_, rfl⟩
              rw [hp] at g1 g4 g5
              have HP : Hid (FracC W3 (.agg #[.bool (decide (p < 0)), .slice ea1 ea2 ea3, .slice eb1 eb2 eb3]) p) := Lib.hid ⟨_, _, rfl, g4, g5⟩
              have HX : Hid (FracN W3 (.agg #[.bool x.neg, .slice c1a c1l c1k, .slice c2a c2l c2k]) x.neg x.n x.d) := Lib.hid ⟨_, _, rfl, HXA.out.1, HXA.out.2⟩
              have HPF : Hid (fits p) := Lib.hid (by rw [← hp]; exact HF4.out b)
              have HEQ : Hid (p + x.q = r) := Lib.hid (by rw [← hp, ← hr, HBT.out, if_pos rfl])
              have HR := Lib.hid hr
              obtain ⟨_, q1, q2, q3, _, _, _⟩ := hc13
              have hbc3 := cell_below hbx hbc
              have S0 := Lib.hid (And.intro g1 (And.intro g2 (And.intro g3 (And.intro q1 (And.intro q2 (And.intro q3 hbc3))))))
              generalize hS13 : wr.heap.size = S13 at *
              clear g1 g2 g3 g4 g5 hxa hxb e1 e2 e3 he3 hf3 hf4 hp hr hbk hir q1 q2 q3 hbc hbc3 hblt hbx hbr3 hS13
              go_cut [14, 15] (fun u14 u15 wy => ∃ (b10 : Nat) (t' : Bool) (x' y' : Value) (er : Int), u14 = .pointer (some ⟨b10, 0, none⟩) ∧ u15 = .int .i64 er ∧ C3 wy b10 (.bool t') x' y' ∧ IsSl x' ∧ IsSl y' ∧ (fits r → er = 0 ∧ FracC wy (.agg #[.bool t', x', y']) r) ∧ (¬ fits r → er = 2) ∧ Below W3.heap.size W3 wy ∧ W3.heap.size ≤ b10)
              case first =>
                go_region_held3 (fun w' => w'.cell? (ptr v (b * 3)) = some (.bool (decide (p < 0))) ∧ w'.cell? (ptr v (b * 3 + 1)) = some (.slice ea1 ea2 ea3) ∧ w'.cell? (ptr v (b * 3 + 2)) = some (.slice eb1 eb2 eb3) ∧ w'.cell? ⟨S13, 0, none⟩ = some (.bool x.neg) ∧ w'.cell? ⟨S13, 1, none⟩ = some (.slice c1a c1l c1k) ∧ w'.cell? ⟨S13, 2, none⟩ = some (.slice c2a c2l c2k) ∧ w'.cell? (ptr vb i) = some (.int .i64 (b : Nat)) ∧ Below W3.heap.size W3 w') (first
                  | with_reducible exact keep7a S0.out (below_drew _)
                  | with_reducible exact keep7w (by assumption) (below_alloc _ _)
                  | with_reducible exact keep7w (by assumption) (by assumption)
                  | with_reducible exact keep7a S0.out (below_then hB31 (below_alloc _ _))
                  | with_reducible exact keep7s S0.out hB31 (Nat.le_refl _) _ _ _) (first
                  | (go_at_call 41; (with_reducible refine (add_rf _ _ p r x _ (HP.out.below (keep7c (by assumption))) (HX.out.below (keep7c (by assumption))) HPF.out HXO.out HEQ.out).mono ?_); rintro e31 w31 ⟨v31, er31, rfl, hb31, hv31, hv32⟩
                     obtain ⟨t31, x31, y31, rfl, hsx, hsy⟩ := rfrac_isF (w0 := w) hv31 hv32
                     have HSX := Lib.hid (And.intro hsx hsy)
                     obtain ⟨a311, l311, k311, rfl, _⟩ := id hsx
                     obtain ⟨a312, l312, k312, rfl, _⟩ := id hsy
                     clear hsx hsy
                     have hB31 := below_then (keep7c (by assumption)) hb31
                     have hc5 := (fun (p : Addr) hp => hb31.cell (p := p) hp)
                     have hf5 := (fun (p : Addr) hp => hb31.frozen (p := p) hp)
                     have zq := hb31.size
                     (try simp only [sizeA, sizeD] at zq)
                     (try have z1 : W3.heap.size < w31.heap.size := (by omega))))
                all_goals
                  have hE := keep7c (by assumption)
                  have HV31 := Lib.hid (And.intro hv31 hv32)
                  clear hv31 hv32
                  go_wp2_with fail
                  go_meet
                  case rel =>
                    first
                      | exact ⟨_, _, _, _, _, rfl, rfl, C3.new w31 _ _ _ _, HSX.out.1, HSX.out.2, fun h => ⟨(HV31.out.1 h).1, (HV31.out.1 h).2.below (below_alloc _ _)⟩, fun h => (HV31.out.2 h).1, hE, hB31.size⟩
                      | exact ⟨_, _, _, _, _, rfl, rfl, (((C3.newB (b := W3.heap.size) W3 50 (.bool false) (.slice none 0 0) (.slice none 0 0) rfl).belowS (below_drew _)).belowS hb31).set _ _ _, HSX.out.1, HSX.out.2, fun h => ⟨(HV31.out.1 h).1, (HV31.out.1 h).2.set3 (((C3.newB (b := W3.heap.size) W3 50 (.bool false) (.slice none 0 0) (.slice none 0 0) rfl).belowS (below_drew _)).belowS hb31) (fun z => by simp) (fun z => by simp) _ _ _⟩, fun h => (HV31.out.2 h).1, hE, Nat.le_refl _⟩
              case rest =>
                obtain ⟨b10, t10, x10, y10, er, rfl, rfl, hC10, hsx10, hsy10, hv10, hv11, hb10, hb10s⟩ := hcut
                obtain ⟨W4, hW4⟩ : ∃ W4, W4 = wc := ⟨_, rfl⟩
                subst hW4
                obtain ⟨a101, l101, k101, rfl, _⟩ := id hsx10
                obtain ⟨a102, l102, k102, rfl, _⟩ := id hsy10
                have HB5 := Lib.hid (below_then HB4.out hb10)
                by_cases hfit : fits r
                · obtain ⟨rfl, hv12⟩ := hv10 hfit
                  have HFT := Lib.hid hfit
                  have HF6 : Hid (∀ (y : Nat) (h : y < bl.length), y < i + 1 → fits (bsum (bl.take (y + 1)) ((qs row).take (y + 1)) bl[y])) := Lib.hid (fun y h h1 => by
                    rcases Nat.lt_or_ge y i with h6 | h6
                    · exact HF3.out y h h6
                    · obtain rfl : y = i := by omega
                      rw [HBK.out, HR.out]; exact HFT.out)
                  have HF7 : Hid (∀ j : Nat, fits (bsum (bl.take (i + 1)) ((qs row).take (i + 1)) (j : Nat))) := Lib.hid (fun j => by
                    by_cases hj : j = b
                    · subst hj; rw [HR.out]; exact HFT.out
                    · rw [HBT.out j, if_neg (by omega)]; exact HF4.out j)
                  have hD := below_drew (B := W4.heap.size) W4
                  have hbD := below_then hb10 hD
                  have ho4 := HO4.out.below hb10
                  have HC10 := Lib.hid hC10
                  have HV12 := Lib.hid (hv12.below hD)
                  have hbc4 := cell_below hb10 S0.out.2.2.2.2.2.2
                  obtain ⟨c0, d0, _⟩ := ho4.cell (b * 3) (by omega)
                  obtain ⟨c1, d1, _⟩ := ho4.cell (b * 3 + 1) (by omega)
                  obtain ⟨c2, d2, _⟩ := ho4.cell (b * 3 + 2) (by omega)
                  have f0 := ho4.frozen (b * 3)
                  have f1 := ho4.frozen (b * 3 + 1)
                  have f2 := ho4.frozen (b * 3 + 2)
                  have n01 := ho4.inj (show b * 3 ≠ b * 3 + 1 by omega)
                  have n02 := ho4.inj (show b * 3 ≠ b * 3 + 2 by omega)
                  have n12 := ho4.inj (show b * 3 + 1 ≠ b * 3 + 2 by omega)
                  have HO5 := Lib.hid (HO4.out.below hbD)
                  have HE5 := Lib.hid (fun j hj => (HE4.out j hj).below hbD)
                  have HB6 := Lib.hid (below_then HB5.out hD)
                  clear hfit hv10 hv11 hv12 hC10 ho4
                  obtain ⟨_, q0, q1, q2, _, _, _⟩ := HC10.out
                  go_wp2_with fail
                  go_region_law (fail)
                  all_goals
                    clear q0 q1 q2 hbc4 d0 d1 d2 f0 f1 f2 n01 n02 n12
                    go_wp2
                    go_roundg (bl.length - (i + 1))
                    case measure => omega
                    case rel =>
                      have hs4 := HO5.out.set3 b (.bool t10) (.slice a101 l101 k101) (.slice a102 l102 k102) (fun z => by simp) (fun z => by simp) (fun z => by simp)
                      refine ⟨i + 1, hil, rfl, by go_num, hs4.1, fun j hj => ?_, HF6.out, HF7.out, HB6.out.trans hs4.2⟩
                      by_cases hjb : b = j
                      · subst hjb
                        rw [HR.out]
                        exact ElemC.set3 HO5.out hbn HV12.out
                      · rw [HBT.out j, if_neg (by omega)]
                        exact ElemC.set3_other HO5.out hbn hjb (HE5.out j hj) _ _ _ (fun z => by simp) (fun z => by simp)
                · obtain rfl := hv11 hfit
                  have HNF : Hid (¬ fitS row bl) := Lib.hid (fun h => hfit (by
                    have := h i HIL.out
                    rw [HBK.out, HR.out] at this
                    exact this))
                  clear hv10 hv11 hC10 hfit
                  go_wp2_with fail
                  go_ret2
                  exact RSum3.big HGOOD.out HNF.out (below_then HBR.out HB5.out)
            · obtain rfl : i = bl.length := by omega
              have HFS : Hid (fitS row bl) := Lib.hid (fun y h => HF3.out y h h)
              have HV : Hid (FracsC wr v (bsums bl (qs row) (cnt bl))) := Lib.hid (HO3.out.fracs (by rw [bsums_length, HN.out]) (fun j hj => by
                rw [bsums_length, HN.out] at hj
                rw [bsums_get _ _ _ _ (by rw [HN.out]; exact hj)]
                have := HE3.out j hj
                rwa [List.take_length, List.take_of_length_le (by rw [qs_length, HLEN.out]; exact Nat.le_refl _)] at this))
              clear ho3 he3 hf3 hf4
              go_wp2_with fail
              go_ret2
              exact ⟨_, _, rfl, below_then HBR.out HB3.out, fun h => absurd h HGOOD.out, fun _ _ => ⟨rfl, HV.out⟩, fun _ h => absurd HFS.out h⟩
theorem lsums_any (va vb : Value) (row : List RF) (bl : List Int) (w : World) (ha : FracsN w va row) (hb : IntsV w vb bl) (hn : bl.length ≤ 128) :
    Calls Try.prog 20 #[va, vb] w (RSum3 w row bl) := by
  by_cases h : okB bl ∧ 0 < bl.length ∧ bl.length = row.length
  · exact lsums_main va vb row bl w ha hb h.1 h.2.1 h.2.2 hn
  · exact lsums_early va vb row bl w ha hb h
end Go.Proofs.Ytoldfpkafcefnaa
namespace Go.Proofs.Ytoldfpkafcefnaa
set_option linter.unusedVariables false
set_option linter.unusedSimpArgs false
open Go.RowKit

/-- A fraction, limb by limb. -/
structure RFL where
  neg : Bool
  a : List Nat
  b : List Nat
def RFL.sz (x : RFL) : Nat := x.a.length + x.b.length
def RFL.ok (x : RFL) : Prop := x.a.length ≤ 35184372088832 ∧ x.b.length ≤ 35184372088832
def RFL.rf (x : RFL) : RF := ⟨x.neg, val x.a, val x.b⟩
def FracLAt (w : World) (v : Value) (k : Nat) (x : RFL) : Prop :=
  ∃ a b, w.cell? (ptr v k) = some (.bool x.neg) ∧ w.cell? (ptr v (k + 1)) = some a ∧ w.cell? (ptr v (k + 2)) = some b ∧ NatV w a x.a ∧ NatV w b x.b
theorem NatV.belowS {w w' : World} {v : Value} {l : List Nat} (h : NatV w v l) (hb : Below w.heap.size w w') : NatV w' v l := ⟨h.sl, h.len, fun j hj => cell_below hb (h.cell j hj), h.lm⟩
theorem FracLAt.below {w w' : World} {v : Value} {k : Nat} {x : RFL} (h : FracLAt w v k x) (hb : Below w.heap.size w w') : FracLAt w' v k x := by
  obtain ⟨a, b, h1, h2, h3, h4, h5⟩ := h
  exact ⟨a, b, cell_below hb h1, cell_below hb h2, cell_below hb h3, h4.belowS hb, h5.belowS hb⟩
structure FracsL (w : World) (v : Value) (l : List RFL) : Prop where
  sl : IsSl v
  len : slen v = l.length
  at' : ∀ (j : Nat) (h : j < l.length), FracLAt w v (j * 3) l[j]
theorem FracsL.below {w w' : World} {v : Value} {l : List RFL} (h : FracsL w v l) (hb : Below w.heap.size w w') : FracsL w' v l := ⟨h.sl, h.len, fun j hj => (h.at' j hj).below hb⟩
structure MatL (w : World) (v : Value) (m : List (List RFL)) : Prop where
  sl : IsSl v
  len : slen v = m.length
  at' : ∀ (j : Nat) (h : j < m.length), ∃ r, w.cell? (ptr v j) = some r ∧ FracsL w r m[j]
theorem MatL.below {w w' : World} {v : Value} {m : List (List RFL)} (h : MatL w v m) (hb : Below w.heap.size w w') : MatL w' v m :=
  ⟨h.sl, h.len, fun j hj => by obtain ⟨r, h1, h2⟩ := h.at' j hj; exact ⟨r, cell_below hb h1, h2.below hb⟩⟩
structure RCL where
  rates : List (List RFL)
  start : List RFL
  lost : List Bool
def ChainL (w : World) (v : Value) (c : RCL) : Prop := ∃ r s l, v = .agg #[r, s, l] ∧ MatL w r c.rates ∧ FracsL w s c.start ∧ BoolsV w l c.lost
theorem ChainL.below {w w' : World} {v : Value} {c : RCL} (h : ChainL w v c) (hb : Below w.heap.size w w') : ChainL w' v c := by
  obtain ⟨r, s, l, rfl, h1, h2, h3⟩ := h; exact ⟨r, s, l, rfl, h1.below hb, h2.below hb, h3.below hb⟩
/-- No list is longer than an address space. -/
def RCL.ok (c : RCL) : Prop := (∀ x ∈ c.start, x.ok) ∧ (∀ r ∈ c.rates, ∀ x ∈ r, x.ok)
def RCL.raw (c : RCL) : RC := ⟨c.rates.map fun r => r.map RFL.rf, c.start.map RFL.rf, c.lost⟩
def RFL.small (x : RFL) : Prop := x.a.length ≤ 300 ∧ x.b.length ≤ 300
def RCL.small (c : RCL) : Prop := c.start.length ≤ 9 ∧ c.rates.length ≤ 9 ∧ (∀ x ∈ c.start, x.small) ∧ (∀ r ∈ c.rates, ∀ x ∈ r, x.small)
theorem FracsL.raw {w : World} {v : Value} {l : List RFL} (h : FracsL w v l) (hs : ∀ x ∈ l, x.small) : FracsN w v (l.map RFL.rf) :=
  ⟨h.sl, by rw [h.len, List.length_map], fun j hj => by
    have hj2 : j < l.length := by simpa using hj
    obtain ⟨a, b, h1, h2, h3, h4, h5⟩ := h.at' j hj2
    obtain ⟨s1, s2⟩ := hs _ (List.getElem_mem hj2)
    rw [List.getElem_map]
    exact ⟨a, b, h1, h2, h3, ⟨_, h4, rfl, by omega⟩, ⟨_, h5, rfl, by omega⟩⟩⟩
theorem ChainL.raw {w : World} {v : Value} {c : RCL} (h : ChainL w v c) (hs : c.small) : ChainN w v c.raw := by
  obtain ⟨r, s, l, rfl, h1, h2, h3⟩ := h
  refine ⟨r, s, l, rfl, ⟨h1.sl, by rw [h1.len]; simp [RCL.raw], fun j hj => ?_⟩, h2.raw hs.2.2.1, h3⟩
  have hj2 : j < c.rates.length := by simpa [RCL.raw] using hj
  obtain ⟨q, e1, e2⟩ := h1.at' j hj2
  refine ⟨q, e1, ?_⟩
  have : c.raw.rates[j]'hj = (c.rates[j]).map RFL.rf := by simp [RCL.raw]
  rw [this]
  exact e2.raw (hs.2.2.2 _ (List.getElem_mem hj2))
/-- The limbs of a list. -/
def lw (l : List RFL) : Nat := (l.map RFL.sz).sum
theorem lw_take (l : List RFL) (k : Nat) (h : k < l.length) : lw (l.take (k + 1)) = lw (l.take k) + l[k].sz := by
  unfold lw; rw [take_snoc l k h, List.map_append, List.sum_append]; simp
theorem lw_mem {l : List RFL} {x : RFL} (h : x ∈ l) : x.sz ≤ lw l := by
  induction l with
  | nil => simp at h
  | cons y l ih =>
    have e : lw (y :: l) = y.sz + lw l := by simp [lw]
    rcases List.mem_cons.1 h with rfl | h
    · omega
    · have := ih h; omega
def lws (m : List (List RFL)) : Nat := (m.map lw).sum
theorem lws_take (l : List (List RFL)) (k : Nat) (h : k < l.length) : lws (l.take (k + 1)) = lws (l.take k) + lw l[k] := by
  unfold lws; rw [take_snoc l k h, List.map_append, List.sum_append]; simp
theorem lws_mem {l : List (List RFL)} {x : List RFL} (h : x ∈ l) : lw x ≤ lws l := by
  induction l with
  | nil => simp at h
  | cons y l ih =>
    have e : lws (y :: l) = lw y + lws l := by simp [lws]
    rcases List.mem_cons.1 h with rfl | h
    · omega
    · have := ih h; omega
theorem lw_le {l : List RFL} (h : ∀ x ∈ l, x.ok) : lw l ≤ 70368744177664 * l.length := by
  induction l with
  | nil => simp [lw]
  | cons y l ih =>
    have e : lw (y :: l) = y.sz + lw l := by simp [lw]
    have h1 := ih (fun x hx => h x (by simp [hx]))
    obtain ⟨h2, h3⟩ := h y (by simp)
    have h4 : y.sz = y.a.length + y.b.length := rfl
    rw [e, List.length_cons]
    omega
theorem lws_le {l : List (List RFL)} (h : ∀ r ∈ l, ∀ x ∈ r, x.ok) (hs : ∀ r ∈ l, r.length ≤ 20) : lws l ≤ 1407374883553280 * l.length := by
  induction l with
  | nil => simp [lws]
  | cons y l ih =>
    have e : lws (y :: l) = lw y + lws l := by simp [lws]
    have h1 := ih (fun x hx => h x (by simp [hx])) (fun x hx => hs x (by simp [hx]))
    have h2 := lw_le (h y (by simp))
    have h3 := hs y (by simp)
    rw [e, List.length_cons]
    omega
/-- The sum that heavy compares bounds every list. -/
theorem RCL.small_of {c : RCL} (h1 : c.start.length ≤ 9) (h2 : c.rates.length ≤ 9) (h : c.start.length + lw c.start + lws c.rates ≤ 300) : c.small := by
  refine ⟨h1, h2, fun x hx => ?_, fun r hr x hx => ?_⟩
  · have := lw_mem hx
    have e : x.sz = x.a.length + x.b.length := rfl
    exact ⟨by omega, by omega⟩
  · have := lw_mem hx
    have := lws_mem hr
    have e : x.sz = x.a.length + x.b.length := rfl
    exact ⟨by omega, by omega⟩
def RHeavy (w0 : World) (c : RCL) (e : Ending) (w : World) : Prop := ∃ b, e = .returned (.bool b) ∧ Below w0.heap.size w0 w ∧ (b = false → c.small)
set_option maxRecDepth 100000 in
set_option maxHeartbeats 3200000 in
theorem heavy_any (va : Value) (c : RCL) (w : World) (ha : ChainL w va c) (hok : c.ok) : Calls Try.prog 19 #[va] w (RHeavy w c) := by
  obtain ⟨rv, sv, lv, rfl, hr, hs, hl⟩ := id ha
  obtain ⟨ra, rn, rk, rfl, r1, r2, r3⟩ := id hr.sl
  obtain ⟨sa, sn, sk, rfl, s1, s2, s3⟩ := id hs.sl
  obtain ⟨la, ln, lk, rfl, l1, l2, l3⟩ := id (CellsV.sl hl)
  have hrn : rn = c.rates.length := hr.len
  have hsn : sn = c.start.length := hs.len
  subst hrn hsn
  unfold maxLen at r2 s2 l2
  have hbx := below_alloc w (.cells #[.slice ra c.rates.length rk, .slice sa c.start.length sk, .slice la ln lk] 27)
  have HC := Lib.hid (C3.new w 27 (.slice ra c.rates.length rk) (.slice sa c.start.length sk) (.slice la ln lk))
  have HS := Lib.hid (hs.below hbx)
  have HR := Lib.hid (hr.below hbx)
  have slS := hs.sl
  have slR := hr.sl
  have HOK := Lib.hid hok
  obtain ⟨_, c0, c1, c2, _, _, _⟩ := HC.out
  clear ha hr hs hl hok
  by_cases g1 : 9 < c.start.length
  · go_enter Try.func19, Try.ntmps19
    go_wp2_with fail
    go_ret
    exact ⟨_, rfl, hbx, by simp⟩
  · by_cases g2 : 9 < c.rates.length
    · go_enter Try.func19, Try.ntmps19
      go_wp2_with fail
      go_ret
      exact ⟨_, rfl, hbx, by simp⟩
    · by_cases g3 : 20 < ln
      · go_enter Try.func19, Try.ntmps19
        go_wp2_with fail
        go_ret
        exact ⟨_, rfl, hbx, by simp⟩
      · go_enter Try.func19, Try.ntmps19
        go_wp2_with fail
        generalize w.alloc (.cells #[.slice ra c.rates.length rk, .slice sa c.start.length sk, .slice la ln lk] 27) = W at *
        go_loopw [3, 4] (fun u3 u4 wr => ∃ (k : Nat), k ≤ c.start.length ∧ u4 = .int .i64 k ∧ u3 = .int .i64 (c.start.length + lw (c.start.take k) : Nat) ∧ Below W.heap.size W wr) (fun _ u4 _ => c.start.length - (intOf u4).toNat)
        case atStart => exact ⟨0, Nat.zero_le _, rfl, by simp [lw], Below.refl _ _⟩
        case round =>
          obtain ⟨k, hk, rfl, rfl, hbr⟩ := hrel
          have hLw : lw (c.start.take k) ≤ 70368744177664 * 9 := by
            have := lw_le (l := c.start.take k) (fun x hx => HOK.out.1 x (List.mem_of_mem_take hx))
            rw [List.length_take] at this
            omega
          obtain ⟨_, c0, c1, c2, _, _, _⟩ := HC.out.belowS hbr
          by_cases hkl : k < c.start.length
          · obtain ⟨xa, xb, d1, d2, d3, hxa, hxb⟩ := (HS.out.below hbr).at' k hkl
            have HT := Lib.hid (lw_take c.start k hkl)
            obtain ⟨o1, o2⟩ := HOK.out.1 _ (List.getElem_mem hkl)
            have hsz : (c.start[k]'hkl).sz = (c.start[k]'hkl).a.length + (c.start[k]'hkl).b.length := rfl
            have sxa := hxa.sl
            have sxb := hxb.sl
            have lxa := hxa.len
            have lxb := hxb.len
            generalize c.start[k]'hkl = x at *
            have HSZ := Lib.hid hsz
            generalize hXA : x.a.length = na at *
            generalize hXB : x.b.length = nb at *
            generalize lw (c.start.take k) = L at *
            have HXA := Lib.hid hXA
            have HXB := Lib.hid hXB
            have i1 : (0 : Int) ≤ (k : Int) := by omega
            have i2 : (k : Int) < (c.start.length : Nat) := by omega
            clear hxa hxb hsz hXA hXB
            go_wp2_with fail
            go_quiet (fail)
            have hbN := below_drewN (B := W.heap.size) wr nq
            have HBD := Lib.hid (hbr.trans hbN)
            go_wp2_with fail
            go_roundw
            case rel => exact ⟨k + 1, by omega, by go_num, by rw [HT.out, HSZ.out]; go_num, HBD.out⟩
            case measure => simp [intOf]; omega
          · obtain rfl : k = c.start.length := by omega
            have HL0 := Lib.hid (List.take_length (l := c.start))
            rw [HL0.out] at hLw ⊢
            go_wp2_with fail
            go_loopw [3, 5, 6] (fun u3 u5 _ wr => ∃ (i : Nat), i ≤ c.rates.length ∧ u5 = .int .i64 i ∧ u3 = .int .i64 (c.start.length + lw c.start + lws (c.rates.take i) : Nat) ∧ (∀ r ∈ c.rates.take i, r.length ≤ 20) ∧ Below W.heap.size W wr) (fun _ u5 _ _ => c.rates.length - (intOf u5).toNat)
            case atStart => exact ⟨0, Nat.zero_le _, rfl, by simp [lws], by simp, hbr⟩
            case round =>
              have hLw0 := Lib.hid hLw
              clear hLw hbr c0 c1 c2 hk hkl
              obtain ⟨i, hi, rfl, rfl, hsh, hbr⟩ := hrel
              have hLs : lws (c.rates.take i) ≤ 1407374883553280 * 9 := by
                have := lws_le (l := c.rates.take i) (fun r hr => HOK.out.2 r (List.mem_of_mem_take hr)) hsh
                rw [List.length_take] at this
                omega
              have HSH := Lib.hid hsh
              obtain ⟨_, c0, c1, c2, _, _, _⟩ := HC.out.belowS hbr
              by_cases hil : i < c.rates.length
              · obtain ⟨rw0, dW, hrow⟩ := HR.out.at' i hil
                have dr := cell_below hbr dW
                have HDW := Lib.hid dW
                have HT := Lib.hid (lws_take c.rates i hil)
                have hokr := HOK.out.2 _ (List.getElem_mem hil)
                have HSN := Lib.hid (take_snoc c.rates i hil)
                have srw := hrow.sl
                have lrw := hrow.len
                have HROW := Lib.hid hrow
                generalize c.rates[i]'hil = row at *
                have HOKR := Lib.hid hokr
                have i1 : (0 : Int) ≤ (i : Int) := by omega
                have i2 : (i : Int) < (c.rates.length : Nat) := by omega
                clear hokr hsh dW hrow
                generalize hA : c.start.length + lw c.start + lws (c.rates.take i) = A at *
                have HA := Lib.hid hA
                have hA2 : A ≤ 70368744177664 * 190 := by have := hLw0.out; omega
                clear hLs hA
                by_cases hrl : 20 < row.length
                · go_wp2_with fail
                  go_ret
                  exact ⟨_, rfl, below_then hbx hbr, by simp⟩
                · go_wp2_with fail
                  go_loopw [3, 6] (fun u3 u6 wi => ∃ (k : Nat), k ≤ row.length ∧ u6 = .int .i64 k ∧ u3 = .int .i64 (A + lw (row.take k) : Nat) ∧ Below W.heap.size W wi) (fun _ u6 _ => row.length - (intOf u6).toNat)
                  case atStart => exact ⟨0, Nat.zero_le _, rfl, by simp [lw], hbr⟩
                  case round =>
                    clear hbr c0 c1 c2 dr
                    obtain ⟨k, hk, rfl, rfl, hbi⟩ := hrel
                    have hLw : lw (row.take k) ≤ 70368744177664 * 20 := by
                      have := lw_le (l := row.take k) (fun x hx => HOKR.out x (List.mem_of_mem_take hx))
                      rw [List.length_take] at this
                      omega
                    obtain ⟨_, c0, c1, c2, _, _, _⟩ := HC.out.belowS hbi
                    have dr := cell_below hbi HDW.out
                    by_cases hkl : k < row.length
                    · obtain ⟨xa, xb, d1, d2, d3, hxa, hxb⟩ := (HROW.out.below hbi).at' k hkl
                      have HTK := Lib.hid (lw_take row k hkl)
                      obtain ⟨o1, o2⟩ := HOKR.out _ (List.getElem_mem hkl)
                      have hsz : (row[k]'hkl).sz = (row[k]'hkl).a.length + (row[k]'hkl).b.length := rfl
                      have sxa := hxa.sl
                      have sxb := hxb.sl
                      have lxa := hxa.len
                      have lxb := hxb.len
                      generalize row[k]'hkl = x at *
                      have HSZ := Lib.hid hsz
                      generalize hXA : x.a.length = na at *
                      generalize hXB : x.b.length = nb at *
                      generalize lw (row.take k) = L at *
                      have HXA := Lib.hid hXA
                      have HXB := Lib.hid hXB
                      have i3 : (0 : Int) ≤ (k : Int) := by omega
                      have i4 : (k : Int) < (row.length : Nat) := by omega
                      clear hxa hxb hsz hXA hXB
                      go_wp2_with fail
                      go_quiet (fail)
                      have hbN := below_drewN (B := W.heap.size) wr nq
                      have HBD := Lib.hid (hbi.trans hbN)
                      go_wp2_with fail
                      go_roundw
                      case rel => exact ⟨k + 1, by omega, by go_num, by rw [HTK.out, HSZ.out]; go_num, HBD.out⟩
                      case measure => simp [intOf]; omega
                    · obtain rfl : k = row.length := by omega
                      have HL2 := Lib.hid (List.take_length (l := row))
                      rw [HL2.out] at hLw
                      rw [HL2.out]
                      go_wp2_with fail
                      go_roundw
                      case rel => exact ⟨i + 1, by omega, by go_num, by rw [HT.out]; have := HA.out; go_num, by rw [HSN.out]; intro r hr; rcases List.mem_append.1 hr with h | h; exact HSH.out r h; simp at h; subst h; omega, hbi⟩
                      case measure => simp [intOf]; omega
              · obtain rfl : i = c.rates.length := by omega
                have HL1 := Lib.hid (List.take_length (l := c.rates))
                rw [HL1.out] at hLs
                rw [HL1.out]
                have hLw := hLw0.out
                go_wp2_with fail
                go_ret
                exact ⟨_, rfl, below_then hbx hbr, fun hb => RCL.small_of (by omega) (by omega) (by have := of_decide_eq_false hb; omega)⟩
end Go.Proofs.Ytoldfpkafcefnaa
namespace Go.Proofs.Ytoldfpkafcefnaa
set_option linter.unusedVariables false
set_option linter.unusedSimpArgs false
open Go.RowKit

open Classical in
/-- The error of both Sums. -/
noncomputable def sErr (row : List RF) (bl : List Int) : Int := if badS row bl then 1 else if fitS row bl then 0 else 2
open Classical in
/-- The sums of both Sums. -/
noncomputable def sVal (row : List RF) (bl : List Int) : List Rat := if badS row bl then [] else if fitS row bl then bsums bl (qs row) (cnt bl) else []
theorem FracsC.nil0 (w : World) : FracsC w (.slice none 0 0) [] := ⟨IsSl.nil, rfl, fun j h => by simp at h⟩
theorem RSum3.read {w0 w : World} {row : List RF} {bl : List Int} {e : Ending} (h : RSum3 w0 row bl e w) : ∃ v, e = .returned (.tuple #[v, .int .i64 (sErr row bl)]) ∧ FracsC w v (sVal row bl) ∧ Below w0.heap.size w0 w := by
  obtain ⟨v, er, rfl, hb, h1, h2, h3⟩ := h
  by_cases hbad : badS row bl
  · obtain ⟨rfl, rfl⟩ := h1 hbad
    exact ⟨_, by rw [sErr, if_pos hbad], by rw [sVal, if_pos hbad]; exact FracsC.nil0 _, hb⟩
  · by_cases hf : fitS row bl
    · obtain ⟨rfl, hv⟩ := h2 hbad hf
      exact ⟨_, by rw [sErr, if_neg hbad, if_pos hf], by rw [sVal, if_neg hbad, if_pos hf]; exact hv, hb⟩
    · obtain ⟨rfl, rfl⟩ := h3 hbad hf
      exact ⟨_, by rw [sErr, if_neg hbad, if_neg hf], by rw [sVal, if_neg hbad, if_neg hf]; exact FracsC.nil0 _, hb⟩
theorem RSum2.read {w0 w : World} {row : List RF} {bl : List Int} {e : Ending} (h : RSum2 w0 row bl e w) : ∃ v, e = .returned (.tuple #[v, .int .i64 (sErr row bl)]) ∧ FracsC w v (sVal row bl) ∧ Below w0.heap.size w0 w := by
  obtain ⟨v, er, rfl, hb, h1, h2, h3⟩ := h
  by_cases hbad : badS row bl
  · obtain ⟨rfl, rfl⟩ := h1 hbad
    exact ⟨_, by rw [sErr, if_pos hbad], by rw [sVal, if_pos hbad]; exact FracsC.nil0 _, hb⟩
  · by_cases hf : fitS row bl
    · obtain ⟨rfl, hv, _⟩ := h2 hbad hf
      exact ⟨_, by rw [sErr, if_neg hbad, if_pos hf], by rw [sVal, if_neg hbad, if_pos hf]; exact hv, hb⟩
    · obtain ⟨rfl, rfl⟩ := h3 hbad hf
      exact ⟨_, by rw [sErr, if_neg hbad, if_neg hf], by rw [sVal, if_neg hbad, if_neg hf]; exact FracsC.nil0 _, hb⟩
def RTrue (w0 : World) (e : Ending) (w : World) : Prop := e = .returned (.bool true) ∧ Below w0.heap.size w0 w
set_option maxRecDepth 100000 in
set_option maxHeartbeats 6400000 in
theorem raw_law (va vb vv : Value) (c : RCL) (bl : List Int) (l : List RFL) (w : World) (ha : ChainL w va c) (hok : c.ok) (hb : IntsV w vb bl) (hv : FracsL w vv l) :
    Calls Try.prog 7 #[va, vb, vv] w (RTrue w) := by
  obtain ⟨rv, sv, lv, rfl, hr, hs, hl⟩ := id ha
  obtain ⟨ra, rn, rk, rfl, _⟩ := id hr.sl
  obtain ⟨sa, sn, sk, rfl, _⟩ := id hs.sl
  obtain ⟨la, ln, lk, rfl, _⟩ := id (CellsV.sl hl)
  obtain ⟨ba, bn, bk, rfl, _⟩ := id (CellsV.sl hb)
  obtain ⟨xa, xn, xk, rfl, _⟩ := id hv.sl
  have hbn : bn = bl.length := hb.len
  have hxn : xn = l.length := hv.len
  subst hbn hxn
  have sb : IsSl (.slice ba bl.length bk) := CellsV.sl hb
  have sx : IsSl (.slice xa l.length xk) := hv.sl
  have hbx := below_alloc w (.cells #[.slice ra rn rk, .slice sa sn sk, .slice la ln lk] 27)
  have HC := Lib.hid (C3.new w 27 (.slice ra rn rk) (.slice sa sn sk) (.slice la ln lk))
  have HA := Lib.hid (ha.below hbx)
  have HB := Lib.hid (hb.below hbx)
  have HV := Lib.hid (hv.below hbx)
  have HOK := Lib.hid hok
  obtain ⟨_, c0, c1, c2, _, _, _⟩ := HC.out
  clear ha hb hv hok hr hs hl
  by_cases g1 : 20 < bl.length
  · skip
    go_enter Try.func7, Try.ntmps7
    go_wp2_with (first
      | (go_at_call 19; (with_reducible refine (heavy_any _ c _ HA.out HOK.out).mono ?_); rintro e1 w1 ⟨b1, rfl, hb1, hsm⟩)
      | (go_at_call 11; (with_reducible refine (awake_any _).mono ?_); rintro e12 w12 ⟨rfl, hb12⟩))
    all_goals
      go_ret
      exact ⟨rfl, below_then (below_then hbx hb1) hb12⟩
  by_cases g2 : 20 < l.length
  · skip
    go_enter Try.func7, Try.ntmps7
    go_wp2_with (first
      | (go_at_call 19; (with_reducible refine (heavy_any _ c _ HA.out HOK.out).mono ?_); rintro e1 w1 ⟨b1, rfl, hb1, hsm⟩)
      | (go_at_call 11; (with_reducible refine (awake_any _).mono ?_); rintro e12 w12 ⟨rfl, hb12⟩))
    all_goals
      go_ret
      exact ⟨rfl, below_then (below_then hbx hb1) hb12⟩
  go_enter Try.func7, Try.ntmps7
  go_wp2_with (first
    | (go_at_call 19; (with_reducible refine (heavy_any _ c _ HA.out HOK.out).mono ?_); rintro e1 w1 ⟨b1, rfl, hb1, hsm⟩; have HSM := Lib.hid hsm; have hbw := below_then hbx hb1; clear hsm)
    | (go_at_call 11; (with_reducible refine (awake_any _).mono ?_); rintro e12 w12 ⟨rfl, hb12⟩))
  · go_ret
    exact ⟨rfl, below_then hbw hb12⟩
  have hb1f : b1 = false := by simpa using (by assumption : ¬ b1 = true)
  have HS2 := Lib.hid (HSM.out hb1f)
  subst hb1f
  generalize w.alloc (.cells #[.slice ra rn rk, .slice sa sn sk, .slice la ln lk] 27) = W at *
  clear c0 c1 c2
  have hl20 : l.length ≤ 20 := by omega
  have hbl20 : bl.length ≤ 128 := by omega
  go_loopw [7] (fun u7 wr => ∃ (k : Nat), k ≤ l.length ∧ u7 = .int .i64 k ∧ (∀ x ∈ l.take k, x.a.length ≤ 8 ∧ x.b.length ≤ 8) ∧ Below W.heap.size W wr) (fun u7 _ => l.length - (intOf u7).toNat)
  case atStart => exact ⟨0, Nat.zero_le _, rfl, by simp, hb1⟩
  case round =>
    obtain ⟨k, hk, rfl, h8, hbr⟩ := hrel
    have H8 := Lib.hid h8
    clear h8
    by_cases hkl : k < l.length
    · obtain ⟨ya, yb, d1, d2, d3, hya, hyb⟩ := (HV.out.below hbr).at' k hkl
      have HSN := Lib.hid (take_snoc l k hkl)
      have sya := hya.sl
      have syb := hyb.sl
      have lya := hya.len
      have lyb := hyb.len
      generalize l[k]'hkl = x at *
      generalize hXA : x.a.length = na at *
      generalize hXB : x.b.length = nb at *
      have HXA := Lib.hid hXA
      have HXB := Lib.hid hXB
      have i1 : (0 : Int) ≤ (k : Int) := by omega
      have i2 : (k : Int) < (l.length : Nat) := by omega
      clear hya hyb hXA hXB
      by_cases ga : 8 < na
      · go_wp2_with (first
          | (go_at_call 11; (with_reducible refine (awake_any _).mono ?_); rintro e12 w12 ⟨rfl, hb12⟩))
        go_ret
        exact ⟨rfl, below_then (below_then hbx hbr) hb12⟩
      · by_cases gb : 8 < nb
        · go_wp2_with (first
            | (go_at_call 11; (with_reducible refine (awake_any _).mono ?_); rintro e12 w12 ⟨rfl, hb12⟩))
          go_ret
          exact ⟨rfl, below_then (below_then hbx hbr) hb12⟩
        · go_wp2_with fail
          go_roundw
          case rel => exact ⟨k + 1, by omega, by go_num, by rw [HSN.out]; intro r hr; rcases List.mem_append.1 hr with h | h; exact H8.out r h; simp at h; subst h; rw [HXA.out, HXB.out]; omega, hbr⟩
          case measure => simp [intOf]; omega
    · obtain rfl : k = l.length := by omega
      have hsm8 : ∀ x ∈ l, x.small := by
        intro x hx
        have := H8.out x (by rw [List.take_length]; exact hx)
        exact ⟨by omega, by omega⟩
      have HVN := Lib.hid (HV.out.raw hsm8)
      have HAN := Lib.hid (HA.out.raw HS2.out)
      obtain ⟨_, c0, c1, c2, _, _, _⟩ := HC.out.belowS hbr
      clear hsm8
      go_wp2_with (first
        | (go_at_call 20; (with_reducible refine (lsums_any _ _ (l.map RFL.rf) bl _ (HVN.out.below hbr) (HB.out.below hbr) hbl20).mono ?_); intro e3 w3 h3; obtain ⟨v3, rfl, hv3, hb3⟩ := h3.read
           have hbr3 := below_then hbr hb3
           have sv3 := hv3.sl
           have HV3 := Lib.hid hv3
           obtain ⟨_, c0, c1, c2, _, _, _⟩ := HC.out.belowS hbr3
           clear hv3)
        | (go_at_call 21; (with_reducible refine (rsums_any _ _ (l.map RFL.rf) bl _ (HVN.out.below hbr3) (HB.out.below hbr3) hbl20).mono ?_); intro e4 w4 h4; obtain ⟨v4, rfl, hv4, hb4⟩ := h4.read
           have hbr4 := below_then hbr3 hb4
           have sv4 := hv4.sl
           have HV4 := Lib.hid hv4
           have HV34 := Lib.hid (HV3.out.below hb4)
           obtain ⟨_, c0, c1, c2, _, _, _⟩ := HC.out.belowS hbr4
           clear hv4)
        | (go_at_call 9; (with_reducible refine (agrees_any _ _ c.raw bl _ (HAN.out.below hbr4) (HB.out.below hbr4)).mono ?_); rintro e5 w5 ⟨rfl, hb5⟩
           have hbr5 := below_then hbr4 hb5)
        | (go_at_call 22; (with_reducible refine (same_fracs _ _ _ _ _ (HV34.out.below hb5) (HV4.out.below hb5)).mono ?_); rintro e6 w6 ⟨⟨b6, rfl, hb6⟩, hbel6⟩; obtain rfl : b6 = true := hb6.2 rfl; clear hb6
           have hbr6 := below_then hbr5 hbel6)
        | (go_at_call 11; (with_reducible refine (awake_any _).mono ?_); rintro e12 w12 ⟨rfl, hb12⟩))
      go_ret
      exact ⟨rfl, below_then (below_then hbx hbr6) hb12⟩
end Go.Proofs.Ytoldfpkafcefnaa
namespace Go.Proofs.Ytoldfpkafcefnaa
open Go.ChangeShapes Go.WideShapes Go.ChangeAt Go.RowKit Go.Deep
set_option linter.unusedVariables false
set_option linter.unusedSimpArgs false

section
variable {H : Type} {enc : TypeId × Value → H} {W : World}
/-- No slice in a datum is larger than an address space. -/
def Reach {H : Type} (P : Program) (t : TypeId) (d : DataW H) : Prop := ∀ n ∈ d.weights P t, n ≤ reachBytes
theorem weightsAll_mem {P : Program} {e : TypeId} : ∀ {l : List (DataW H)} {d : DataW H}, d ∈ l → ∀ n ∈ d.weights P e, n ∈ DataW.weightsAll P e l
  | d0 :: l, d, h, n, hn => by
    simp only [DataW.weightsAll, List.mem_append]
    rcases List.mem_cons.1 h with rfl | h
    · exact Or.inl hn
    · exact Or.inr (weightsAll_mem h n hn)
theorem Reach.elem {P : Program} {t e : TypeId} (hu : P.underlying t = some (.slice e)) {elems spare : List (DataW H)} (h : Reach P t (.slice elems spare)) {d : DataW H} (hd : d ∈ elems) : Reach P e d :=
  fun n hn => h n (by simp only [DataW.weights, hu]; exact List.mem_cons_of_mem _ (List.mem_append_left _ (weightsAll_mem hd n hn)))
theorem Reach.slice {P : Program} {t e : TypeId} (hu : P.underlying t = some (.slice e)) {elems spare : List (DataW H)} (h : Reach P t (.slice elems spare)) : (elems.length + spare.length) * P.bytesOf e ≤ reachBytes := h _ (by simp [DataW.weights, hu])
theorem Reach.field {P : Program} {t : TypeId} {fs : Array Field} (hu : P.underlying t = some (.struct fs)) {parts : List (DataW H)} (h : Reach P t (.agg parts)) {j : Nat} {u : TypeId} {d : DataW H} (hj : (fs.toList.map (·.type))[j]? = some u) (hd : parts[j]? = some d) : Reach P u d :=
  fun n hn => h n (by simp only [DataW.weights, hu]; exact DataW.weights_mem_each hj hd n hn)
theorem Try.cellsU32 : Try.prog.cellsOf 102 = 1 := by kernel_rfl
theorem Try.bytesU32 : Try.prog.bytesOf 102 = 4 := by kernel_rfl
theorem Try.cellsFrac : Try.prog.cellsOf 50 = 3 := by kernel_rfl
theorem Try.cellsNat : Try.prog.cellsOf 48 = 1 := by kernel_rfl
theorem Try.cellsRow : Try.prog.cellsOf 24 = 1 := by kernel_rfl
theorem Try.cellsMat : Try.prog.cellsOf 23 = 1 := by kernel_rfl
theorem Try.cellsBools : Try.prog.cellsOf 25 = 1 := by kernel_rfl
theorem Try.cellsBool : Try.prog.cellsOf 4 = 1 := by kernel_rfl
theorem Try.cellsInt : Try.prog.cellsOf 3 = 1 := by kernel_rfl
theorem Try.cellsChain : Try.prog.cellsOf 27 = 3 := by kernel_rfl
/-- A number. -/
theorem nat_in {fuel : Nat} {cs : List Value} {x : DataW H × List MemPlace} (h : DataW.trod enc Try.prog W 0 (fun _ => true) true fuel 48 cs = some x) (hr : Reach Try.prog 48 x.1) :
    ∃ v l, cs = [v] ∧ NatV W v l ∧ l.length ≤ 35184372088832 := by
  rcases open_ints Try.underlying48 Try.underlying102 Try.cellsU32 h with ⟨rfl, rfl⟩ | ⟨a, len, cap, zs, rfl, _, hl, hm, hz, rfl, hcell, hwz⟩
  · exact ⟨_, [], rfl, NatV.nil W, by simp⟩
  · simp only [if_true] at hz
    have hb : ∀ n ∈ zs, 0 ≤ n ∧ n < 4294967296 := fun n hn => by
      have := hwz n hn
      simp [Lit.wf, IntKind.min, IntKind.max, IntKind.signed, IntKind.bits] at this
      omega
    have hrz := Reach.slice Try.underlying48 hr
    rw [Try.bytesU32] at hrz
    simp only [lits, List.length_map, List.length_take, List.length_drop] at hrz
    refine ⟨_, (zs.take len).map Int.toNat, rfl, ⟨⟨a, len, cap, rfl, hl, hm, fun e => by cases e⟩, by simp [slen]; omega, fun j hj => ?_, fun x hx => ?_⟩, ?_⟩
    · have hj2 : j < len := by simp at hj; omega
      have hj3 : j < zs.length := by omega
      have h1 := hcell j hj3
      have h2 := hb _ (List.getElem_mem hj3)
      have e1 : zs.getD j 0 = zs[j] := by simp [List.getD, List.getElem?_eq_getElem hj3]
      rw [e1] at h1
      simp only [ptr, base, List.getElem_map, List.getElem_take]
      rw [h1]
      congr 2
      omega
    · obtain ⟨n, hn, rfl⟩ := List.mem_map.1 hx
      have := hb n (List.mem_of_mem_take hn)
      omega
    · simp only [List.length_map, List.length_take]
      simp only [reachBytes] at hrz
      omega
set_option maxRecDepth 100000 in
/-- A fraction's three cells. -/
theorem frac_in {fuel : Nat} {cs : List Value} {x : DataW H × List MemPlace} (h : DataW.trod enc Try.prog W 0 (fun _ => true) true fuel 50 cs = some x) (hr : Reach Try.prog 50 x.1) :
    ∃ (y : RFL) (a b : Value), cs = [.bool y.neg, a, b] ∧ NatV W a y.a ∧ NatV W b y.b ∧ y.ok := by
  obtain ⟨y0, y1, y2, n, rfl, hlen, h0, h1, h2⟩ := trod_struct3 Try.underlying50 h
  rw [Try.cellsFrac] at hlen
  match cs, hlen with
  | [c0, c1, c2], _ =>
    obtain ⟨b, e0, _⟩ := DataW.trod_bool Try.underlying4 h0
    obtain ⟨v1, l1, e1, n1, k1⟩ := nat_in h1 (Reach.field (j := 1) Try.underlying50 hr rfl rfl)
    obtain ⟨v2, l2, e2, n2, k2⟩ := nat_in h2 (Reach.field (j := 2) Try.underlying50 hr rfl rfl)
    rw [Try.cellsBool] at e0
    rw [Try.cellsNat] at e1 e2
    simp at e0 e1 e2
    subst e0 e1 e2
    exact ⟨⟨b, l1, l2⟩, _, _, rfl, n1, n2, k1, k2⟩
instance : Inhabited RFL := ⟨⟨false, [], []⟩⟩
/-- A list of fractions. -/
theorem fracs_in {fuel : Nat} {cs : List Value} {x : DataW H × List MemPlace} (h : DataW.trod enc Try.prog W 0 (fun _ => true) true fuel 24 cs = some x) (hr : Reach Try.prog 24 x.1) :
    ∃ v l, cs = [v] ∧ FracsL W v l ∧ ∀ y ∈ l, y.ok := by
  rcases open_slice Try.underlying24 h with ⟨rfl, rfl⟩ | ⟨a, len, cap, m, n, D, Pl, rfl, _, hl, hm, hmm, rfl, hx⟩
  · exact ⟨_, [], rfl, ⟨IsSl.nil, rfl, fun j h => by simp at h⟩, by simp⟩
  · simp only [if_true] at hmm
    subst hmm
    obtain ⟨Y, hY⟩ := choose_lt (α := RFL) (n := len) (p := fun i y => y.ok ∧ FracLAt W (.slice (some a) len m) (i * 3) y) (fun i hi => by
      obtain ⟨cs', e1, e2⟩ := hx i (by omega)
      obtain ⟨y, va, vb, rfl, n1, n2, hok⟩ := frac_in e2 (Reach.elem Try.underlying24 hr (List.mem_map.2 ⟨i, List.mem_range.2 hi, rfl⟩))
      rw [Try.cellsFrac] at e1
      have hc := (World.cells?_some e1).2.2
      refine ⟨y, hok, va, vb, ?_, ?_, ?_, n1, n2⟩
      · simpa [ptr, base, add_add] using hc 0 (by omega)
      · simpa [ptr, base, Go.Deep.add_add] using hc 1 (by omega)
      · simpa [ptr, base, Go.Deep.add_add] using hc 2 (by omega))
    refine ⟨_, (List.range len).map Y, rfl, ⟨⟨a, len, m, rfl, hl, hm, fun e => by cases e⟩, by simp [slen], fun j hj => ?_⟩, fun y hy => ?_⟩
    · simp only [List.getElem_map, List.getElem_range]
      exact (hY j (by simpa using hj)).2
    · obtain ⟨i, hi, rfl⟩ := List.mem_map.1 hy
      exact (hY i (List.mem_range.1 hi)).1
/-- A list of lists of fractions. -/
theorem mat_in {fuel : Nat} {cs : List Value} {x : DataW H × List MemPlace} (h : DataW.trod enc Try.prog W 0 (fun _ => true) true fuel 23 cs = some x) (hr : Reach Try.prog 23 x.1) :
    ∃ v l, cs = [v] ∧ MatL W v l ∧ ∀ r ∈ l, ∀ y ∈ r, RFL.ok y := by
  rcases open_slice1 Try.underlying23 Try.cellsRow h with ⟨rfl, rfl⟩ | ⟨a, len, cap, m, n, V, D, Pl, rfl, _, hl, hm, hmm, rfl, hx⟩
  · exact ⟨_, [], rfl, ⟨IsSl.nil, rfl, fun j h => by simp at h⟩, by simp⟩
  · simp only [if_true] at hmm
    subst hmm
    obtain ⟨Y, hY⟩ := choose_lt (α := List RFL) (n := len) (p := fun i y => (∀ z ∈ y, z.ok) ∧ FracsL W (V i) y) (fun i hi => by
      obtain ⟨e1, e2⟩ := hx i (by omega)
      obtain ⟨v, l, e3, h3, hok⟩ := fracs_in e2 (Reach.elem Try.underlying23 hr (List.mem_map.2 ⟨i, List.mem_range.2 hi, rfl⟩))
      simp at e3
      subst e3
      exact ⟨l, hok, h3⟩)
    refine ⟨_, (List.range len).map Y, rfl, ⟨⟨a, len, m, rfl, hl, hm, fun e => by cases e⟩, by simp [slen], fun j hj => ?_⟩, fun y hy => ?_⟩
    · simp only [List.getElem_map, List.getElem_range]
      have hjl : j < len := by simpa using hj
      exact ⟨V j, (hx j (by omega)).1, (hY j hjl).2⟩
    · obtain ⟨i, hi, rfl⟩ := List.mem_map.1 hy
      exact (hY i (List.mem_range.1 hi)).1
/-- A list of bools. -/
theorem bools_in {fuel : Nat} {cs : List Value} {x : DataW H × List MemPlace} (h : DataW.trod enc Try.prog W 0 (fun _ => true) true fuel 25 cs = some x) : ∃ v l, cs = [v] ∧ BoolsV W v l := by
  rcases open_bools Try.underlying25 Try.underlying4 Try.cellsBool h with ⟨rfl, rfl⟩ | ⟨a, len, cap, B, rfl, _, hl, hm, rfl, hx⟩
  · exact ⟨_, [], rfl, ⟨IsSl.nil, rfl, fun j h => by simp at h⟩⟩
  · refine ⟨_, (List.range len).map B, rfl, ⟨⟨a, len, cap, rfl, hl, hm, fun e => by cases e⟩, by simp [slen], fun j hj => ?_⟩⟩
    simp only [List.getElem_map, List.getElem_range]
    exact hx j (by have : j < len := by simpa using hj
                   omega)
/-- A list of ints. -/
theorem ints_in {fuel : Nat} {cs : List Value} {x : DataW H × List MemPlace} (h : DataW.trod enc Try.prog W 0 (fun _ => true) true fuel 28 cs = some x) : ∃ v l, cs = [v] ∧ IntsV W v l := by
  rcases open_ints Try.underlying28 Try.underlying3 Try.cellsInt h with ⟨rfl, rfl⟩ | ⟨a, len, cap, zs, rfl, _, hl, hm, hz, rfl, hcell, _⟩
  · exact ⟨_, [], rfl, ⟨IsSl.nil, rfl, fun j h => by simp at h⟩⟩
  · simp only [if_true] at hz
    refine ⟨_, zs.take len, rfl, ⟨⟨a, len, cap, rfl, hl, hm, fun e => by cases e⟩, by simp [slen]; omega, fun j hj => ?_⟩⟩
    have hj2 : j < len := by simp at hj; omega
    have hj3 : j < zs.length := by omega
    have h1 := hcell j hj3
    have e1 : zs.getD j 0 = zs[j] := by simp [List.getD, List.getElem?_eq_getElem hj3]
    rw [e1] at h1
    simp only [ptr, base, List.getElem_map, List.getElem_take]
    exact h1
set_option maxRecDepth 100000 in
/-- A chain. -/
theorem chain_in {fuel : Nat} {cs : Array Value} {x : DataW H × List MemPlace} (h : DataW.trod enc Try.prog W 0 (fun _ => true) true fuel 27 cs.toList = some x) (hr : Reach Try.prog 27 x.1) :
    ∃ c : RCL, ChainL W (.agg cs) c ∧ c.ok := by
  obtain ⟨y0, y1, y2, n, rfl, hlen, h0, h1, h2⟩ := trod_struct3 Try.underlying27 h
  rw [Try.cellsChain] at hlen
  obtain ⟨ls⟩ := cs
  simp only at h0 h1 h2 hlen
  match ls, hlen with
  | [c0, c1, c2], _ =>
    obtain ⟨v0, l0, e0, n0, k0⟩ := mat_in h0 (Reach.field (j := 0) Try.underlying27 hr rfl rfl)
    obtain ⟨v1, l1, e1, n1, k1⟩ := fracs_in h1 (Reach.field (j := 1) Try.underlying27 hr rfl rfl)
    obtain ⟨v2, l2, e2, n2⟩ := bools_in h2
    rw [Try.cellsMat] at e0
    rw [Try.cellsRow] at e1
    rw [Try.cellsBools] at e2
    simp at e0 e1 e2
    subst e0 e1 e2
    exact ⟨⟨l0, l1, l2⟩, ⟨_, _, _, rfl, n0, n1, n2⟩, k1, k0⟩
end
end Go.Proofs.Ytoldfpkafcefnaa
namespace Go.Proofs.Ytoldfpkafcefnaa
open Go.ChangeShapes Go.WideShapes Go.ChangeAt Go.RowKit
set_option linter.unusedVariables false
set_option linter.unusedSimpArgs false

theorem Try.ownK : ownKnob Try.prog.godebug = none := by kernel_rfl
theorem Try.laidOut : laidOutB Try.prog = true := by kernel_rfl
set_option maxRecDepth 100000 in
theorem raw_lifted (os : Os) (started : os.Started) (H : Type) (enc : TypeId × Value → H) :
    ReturnsInHanded {} Try.checked os 7 .any (Rows.lumpRawSpec.pre6 enc Try.prog Try.f7 Rows.lumpRawRow.domain false) (Rows.lumpRawSpec.post enc Try.prog Try.f7 false true false false) := by
  refine returnsInHanded_of_change_sized (C := Try.checked) Try.ownK started (by kernel_rfl) Try.func7
    (ChangeSpec.witness6 (enc := enc) (C := Try.checked) false ⟨#[], #[.agg #[.slice none 0 0, .slice none 0 0, .slice none 0 0], .slice none 0 0, .slice none 0 0], []⟩ 8 (by kernel_rfl) (by kernel_rfl) (by kernel_rfl) (by kernel_rfl)) ?_
  intro W base args ds gs before hval0 hW hcnd hsz _
  have hval : ∀ (j : Nat) t v, Try.f7.params[j]? = some t → args[j]? = some v → Value.okWide Try.prog W .any base t v := hval0
  have hW' := hW
  obtain ⟨p, q, hA0, hV, rfl, hfz, hnd⟩ := hW
  have hA : DataW.TrodAll enc Try.prog W 0 (fun _ => true) true Try.f7.params.toList args.toList ds p := hA0
  rw [Try.params7] at hA hval
  have hsz1 : (DataW.weightsEach Try.prog (Try.f7.params.toList ++ Rows.lumpRawSpec.plain.varTypes Try.prog) (ds ++ gs)).all (· ≤ reachBytes) = true := hsz
  rw [Try.params7] at hsz1
  obtain ⟨v0, v1, v2, d0, d1, d2, p0, p1, p2, rfl, rfl, rfl, h0, h1, h2⟩ := trodAll_three hA
  obtain ⟨rfl, rfl⟩ := trodVars_none hV
  have hsz2 := List.all_eq_true.1 hsz1
  have w0 : Reach Try.prog 27 d0 := fun n hn => by simpa using hsz2 n (DataW.weights_mem_each (j := 0) rfl rfl n hn)
  have w2 : Reach Try.prog 24 d2 := fun n hn => by simpa using hsz2 n (DataW.weights_mem_each (j := 2) rfl rfl n hn)
  obtain ⟨cs0, rfl, _⟩ := okWide_struct Try.underlying27 (hval 0 27 v0 rfl rfl)
  obtain ⟨a1, len1, cap1, rfl⟩ := okWide_slice Try.underlying28 (hval 1 28 v1 rfl rfl)
  obtain ⟨a2, len2, cap2, rfl⟩ := okWide_slice Try.underlying24 (hval 2 24 v2 rfl rfl)
  have h0k := h0
  have h1k := h1
  have h2k := h2
  clear hA0 hval0 hsz hsz1 hsz2
  simp only [List.append_nil] at hW'
  have hlt : ∀ x ∈ p0 ++ p1 ++ p2, x.block < W.heap.size := fun x hx => hW'.lt x hx
  obtain ⟨f0, t0⟩ := h0
  obtain ⟨f1, t1⟩ := h1
  obtain ⟨f2, t2⟩ := h2
  obtain ⟨c, hc, hok⟩ := chain_in t0 w0
  obtain ⟨vb, bl, eb, hb⟩ := ints_in t1
  obtain ⟨vv, l, ev, hv, _⟩ := fracs_in t2 w2
  simp [Value.cells] at eb ev
  subst eb ev
  refine (raw_law _ _ _ c bl l W hc hok hb hv).mono fun e W' ⟨he, hnx⟩ => ?_
  subst he
  refine ⟨_, rfl, _, _, _, [], (p0 ++ p1 ++ p2) ++ [], [], hW', ?_, ?_, rfl, hnx.frame _, fun h => by cases h⟩
  · exact trodAll_mk1 (shut_bool Try.underlying4 _)
  · have h9 := trodAll_mk3 (Below.trod Try.laidOut (by kernel_rfl) (of_decide_eq_true (by kernel_rfl)) h0k hnx (fun x hx => hlt x (List.mem_append_left _ (List.mem_append_left _ hx))))
      (Below.trod Try.laidOut (by kernel_rfl) (of_decide_eq_true (by kernel_rfl)) h1k hnx (fun x hx => hlt x (List.mem_append_left _ (List.mem_append_right _ hx))))
      (Below.trod Try.laidOut (by kernel_rfl) (of_decide_eq_true (by kernel_rfl)) h2k hnx (fun x hx => hlt x (List.mem_append_right _ hx)))
    rw [← List.append_assoc, ← List.append_nil (p0 ++ p1 ++ p2)] at h9
    exact h9
theorem lumpRaw_holds : Rows.LumpRawSaid :=
  OpenClaim.holds_of_wide 7 Try.f7 rfl rfl rfl rfl rfl rfl rfl ⟨rfl, rfl, rfl, rfl, rfl⟩ rfl rfl rfl rfl rfl (by kernel_rfl) Try.func7 (by kernel_rfl)
    (of_decide_eq_true (by kernel_rfl)) (by unfold Func.isWrapper; first | (rw [if_pos (by decide +kernel)]; kernel_rfl) | (rw [if_neg (by decide +kernel)]; exact ⟨rfl, rfl⟩))
    (fun os started H enc _ => raw_lifted os started H enc)
#print axioms lumpRaw_holds
end Go.Proofs.Ytoldfpkafcefnaa
