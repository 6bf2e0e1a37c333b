/-
  package drydockref05: Weight. Package drydockref21: plain.
  Ahead of it: package drydockref02: Int of any integer, Add in lowest terms. package drydockref02: Mul of any fractions whose product is not large. package drydockref02: Sum.
-/
import Derived.Test.YtbhkibilnmoljaaQRb5
import Derived.Test.YtbhkibilnmoljaaQLx1
import Derived.Test.YtbhkibilnmoljaaQLw
import Derived.Test.YtbhkibilnmoljaaQSa3
import Derived.Deep.CutRange
import Derived.Deep.DeepCutAuto
import Derived.Deep.LoopGhost
namespace Go.Proofs.Ytbhkibilnmoljaa
set_option linter.unusedVariables false
set_option linter.unusedSimpArgs false
open Go.RowKit

/-- A fraction that is an integer. -/
def intQ (x : Int) : Rat := fq (decide (x < 0)) x.natAbs 1
theorem r2make_i1 (x : Int) (w : World) (h1 : -9223372036854775808 ≤ x) (h2 : x < 9223372036854775808) : Calls Try.prog 32 #[.int .i64 x, .int .i64 1] w (RF0 w (intQ x)) :=
  (r2make_any x 1 w h1 h2 (by decide) (by decide) (by decide)).mono fun _ _ h => h.eq (by
    unfold intQ
    rw [decide_eq_false (show ¬ ((1 : Int) < 0) by decide)]
    cases decide (x < 0) <;> rfl)
set_option maxHeartbeats 800000 in
theorem r2int_i (x : Int) (w : World) (h1 : -9223372036854775808 ≤ x) (h2 : x < 9223372036854775808) : Calls Try.prog 12 #[.int .i64 x] w (RF1 w (intQ x)) := by
  have HN := Lib.hid (And.intro h1 h2)
  clear h1 h2
  go_enter Try.func12, Try.ntmps12
  go_wp2_with (go_at_call 32; (with_reducible refine (r2make_i1 x _ HN.out.1 HN.out.2).mono ?_); rintro e w1 ⟨v, rfl, hv, hb1⟩
               obtain ⟨t9, x9, y9, rfl, ⟨a1, l91, k1, rfl, _⟩, ⟨a2, l92, k2, rfl, _⟩⟩ := hv.isF
               have hr := ((C3.new w 30 (.bool false) (.slice none 0 0) (.slice none 0 0)).belowS hb1).allocS (.cells #[.bool t9, .slice a1 l91 k1, .slice a2 l92 k2] 30)
               have hv2 := hv.below (below_alloc w1 (.cells #[.bool t9, .slice a1 l91 k1, .slice a2 l92 k2] 30))
               have hb2 := below_then (below_then (below_alloc w (.cells #[.bool false, .slice none 0 0, .slice none 0 0] 30)) hb1) (below_alloc w1 (.cells #[.bool t9, .slice a1 l91 k1, .slice a2 l92 k2] 30))
               have HR := Lib.hid hr
               obtain ⟨_, d1, d2, d3, d4, d5, d6⟩ := hr)
  refine bodyPost_c1 rfl rfl Try.aggF Try.sizeF (HR.out.set _ _ _) rfl ?_
  exact ⟨_, rfl, hv2.set3 HR.out (fun z => by simp) (fun z => by simp) _ _ _, below_set3 hb2 (Nat.le_refl _) _ _ _⟩
theorem wrap_i64 {x : Int} (h1 : -128 ≤ x) (h2 : x ≤ 127) : IntKind.i64.wrap x = x := by
  unfold IntKind.wrap
  simp [IntKind.signed, IntKind.bits]
  omega
theorem r2int_w (x : Int) (w : World) (h1 : -128 ≤ x) (h2 : x ≤ 127) : Calls Try.prog 12 #[.int .i64 (IntKind.i64.wrap x)] w (RF1 w (intQ x)) := by
  rw [wrap_i64 h1 h2]; exact r2int_i x w (by omega) (by omega)
theorem r2add_can (va vb : Value) (p q : Rat) (w : World) (ha : FracC w va p) (hb : FracC w vb q) (hp : fits p) (hq : fits q) (hf : fits (p + q)) : Calls Try.prog 14 #[va, vb] w (RF0 w (p + q)) :=
  (r2add_any va vb _ _ _ _ _ _ w ha.raw hb.raw ⟨p.den_nz, hp.2, hp.1⟩ ⟨q.den_nz, hq.2, hq.1⟩).mono fun _ _ h => h.ok (by rw [fq_self, fq_self]) hf
end Go.Proofs.Ytbhkibilnmoljaa
namespace Go.Proofs.Ytbhkibilnmoljaa
set_option linter.unusedVariables false
set_option linter.unusedSimpArgs false
open Go.RowKit

set_option maxHeartbeats 1600000 in
theorem r2mul_raw (va vb : Value) (s t : Bool) (n d m e : Nat) (w : World) (ha : FracN w va s n d) (hb : FracN w vb t m e) (hp : okN n d) (hq : okN m e) (hf : fits (fq s n d * fq t m e)) : Calls Try.prog 13 #[va, vb] w (RF0 w (fq s n d * fq t m e)) := by
  obtain ⟨a1, a2, rfl, n1, n2⟩ := id ha
  obtain ⟨b1, b2, rfl, m1, m2⟩ := id hb
  obtain ⟨x1, y1, z1, rfl, _⟩ := id n1.slen.1
  obtain ⟨x2, y2, z2, rfl, _⟩ := id n2.slen.1
  obtain ⟨x3, y3, z3, rfl, _⟩ := id m1.slen.1
  obtain ⟨x4, y4, z4, rfl, _⟩ := id m2.slen.1
  have k1 := below_alloc w (.cells #[.bool s, .slice x1 y1 z1, .slice x2 y2 z2] 30)
  have k2 := below_alloc (w.alloc (.cells #[.bool s, .slice x1 y1 z1, .slice x2 y2 z2] 30)) (.cells #[.bool t, .slice x3 y3 z3, .slice x4 y4 z4] 30)
  have k3 := below_alloc ((w.alloc (.cells #[.bool s, .slice x1 y1 z1, .slice x2 y2 z2] 30)).alloc (.cells #[.bool t, .slice x3 y3 z3, .slice x4 y4 z4] 30)) (.cells #[.bool false, .slice none 0 0, .slice none 0 0] 30)
  have H3 := three_boxes w 30 (.bool s) (.slice x1 y1 z1) (.slice x2 y2 z2) (.bool t) (.slice x3 y3 z3) (.slice x4 y4 z4) (.bool false) (.slice none 0 0) (.slice none 0 0) _ rfl
  obtain ⟨hA, hB, hR, hbw⟩ := H3
  have HA := Lib.hid hA
  have HB := Lib.hid hB
  have HR := Lib.hid hR
  have HAP := Lib.hid (ha.below hbw)
  have HBQ := Lib.hid (hb.below hbw)
  have HP := Lib.hid hp
  have HQ := Lib.hid hq
  have HPQ := Lib.hid hf
  have HFQ : Hid (fq s n d * fq t m e = fq (!(s == t)) (n * m) (d * e)) := Lib.hid (by rw [fq_mul]; rfl)
  have HL := Lib.hid (And.intro (okN_nlen hp) (okN_nlen hq))
  obtain ⟨_, c0, c1, c2, _, _, _⟩ := id hA
  obtain ⟨_, d0, d1, d2, _, _, _⟩ := id hB
  clear hA hB hR ha hb n1 n2 m1 m2 hp hq hf k1 k2 k3
  go_enter Try.func13, Try.ntmps13
  go_upto_region 3 with (first
    | (go_at_call 37; (with_reducible refine (r2valid_ok _ s n d _ HAP.out HP.out).mono ?_); rintro z1' w1 ⟨rfl, hb1⟩
       obtain ⟨_, c0, c1, c2, _, _, _⟩ := HA.out.belowS hb1
       obtain ⟨_, d0, d1, d2, _, _, _⟩ := HB.out.belowS hb1)
    | (go_at_call 37; (with_reducible refine (r2valid_ok _ t m e _ (HBQ.out.below hb1) HQ.out).mono ?_); rintro z2' w2 ⟨rfl, hb2⟩))
  have b12 := below_then hb1 hb2
  have hD := below_drew (B := w2.heap.size) w2
  have b1D := below_then b12 hD
  obtain ⟨_, q1, q2, q3, _, _, _⟩ := HA.out.belowS b1D
  obtain ⟨_, r1, r2, r3, _, _, _⟩ := HB.out.belowS b1D
  have HRD := Lib.hid (HR.out.belowS b1D)
  have HAD := Lib.hid (HAP.out.below b1D)
  have HBD := Lib.hid (HBQ.out.below b1D)
  have hbwD := below_then hbw b1D
  obtain ⟨u1, u2, hu, nA, nB⟩ := HAD.out
  injection hu with hu
  injection hu with hu
  simp only [List.cons.injEq, and_true, true_and] at hu
  obtain ⟨rfl, rfl⟩ := hu
  obtain ⟨u1, u2, hu, mA, mB⟩ := HBD.out
  injection hu with hu
  injection hu with hu
  simp only [List.cons.injEq, and_true, true_and] at hu
  obtain ⟨rfl, rfl⟩ := hu
  have kA : w.heap.size + 1 + 1 ≠ w.heap.size := by omega
  have kB : w.heap.size + 1 + 1 ≠ w.heap.size + 1 := by omega
  have HNN := Lib.hid (And.intro nA (And.intro nB (And.intro mA mB)))
  have HDZ : Hid (d * e ≠ 0) := Lib.hid (Nat.mul_ne_zero HP.out.1 HQ.out.1)
  have HN5 : Hid (nlen (n * m) ≤ 512) := Lib.hid (Nat.le_trans (nlen_mul HL.out.1.1 HL.out.2.1) (by decide))
  have HD5 : Hid (nlen (d * e) ≤ 512) := Lib.hid (Nat.le_trans (nlen_mul HL.out.1.2 HL.out.2.2) (by decide))
  clear nA nB mA mB c0 c1 c2 d0 d1 d2
  go_region_held3 (fun w' => w'.cell? ⟨w.heap.size, 0, none⟩ = some (.bool s) ∧ w'.cell? ⟨w.heap.size, 1, none⟩ = some (.slice x1 y1 z1) ∧ w'.cell? ⟨w.heap.size, 2, none⟩ = some (.slice x2 y2 z2) ∧ w'.cell? ⟨w.heap.size + 1, 0, none⟩ = some (.bool t) ∧ w'.cell? ⟨w.heap.size + 1, 1, none⟩ = some (.slice x3 y3 z3) ∧ w'.cell? ⟨w.heap.size + 1, 2, none⟩ = some (.slice x4 y4 z4)) (first
    | with_reducible exact ⟨q1, q2, q3, r1, r2, r3⟩
    | with_reducible exact keep6b (by assumption) (by assumption)
    | with_reducible exact keep6 (keep6 (keep6 (by assumption) kA kA kA kB kB kB _) kA kA kA kB kB kB _) kA kA kA kB kB kB _) (first
    | (go_at_call 40; (with_reducible refine (r2times_any _ _ n m _ HNN.out.1 HNN.out.2.2.1 HL.out.1.1 HL.out.2.1).mono ?_); rintro z3' w3 ⟨v3, rfl, hv3, hb3⟩)
    | (go_at_call 40; (with_reducible refine (r2times_any _ _ d e _ (HNN.out.2.1.below hb3) (HNN.out.2.2.2.below hb3) HL.out.1.2 HL.out.2.2).mono ?_); rintro z4' w4 ⟨v4, rfl, hv4, hb4⟩)
    | (go_at_call 39; (with_reducible refine (r2lowest_any _ _ _ (n * m) (d * e) _ (hv3.below hb4).nat hv4.nat HDZ.out HN5.out HD5.out).mono ?_); rintro z5' w5 ⟨v5, rfl, hv5, hb5⟩)
    | (go_at_call 38; (with_reducible refine (r2fits_can _ (fq s n d * fq t m e) _ (by (rw [HFQ.out]; exact hv5)) HPQ.out).mono ?_); rintro z6' w6 ⟨v6, rfl, hv6, hb6⟩
       obtain ⟨t9, x9, y9, rfl, ⟨a91, l91, k91, rfl, _⟩, ⟨a92, l92, k92, rfl, _⟩⟩ := hv6.isF
       have HR6 := Lib.hid ((((HRD.out.belowS hb3).belowS hb4).belowS hb5).belowS hb6)
       obtain ⟨_, g0, g1, g2, g3, g4, g5⟩ := HR6.out))
  have hbE := below_then (below_then (below_then (below_then hbwD hb3) hb4) hb5) hb6
  go_wp2_with fail
  refine bodyPost_c3 rfl rfl Try.aggF Try.sizeF (HR6.out.set _ _ _) rfl ?_
  exact ⟨_, rfl, hv6.set3 HR6.out (fun z => by simp) (fun z => by simp) _ _ _, below_set3 hbE (Nat.le_trans (Nat.le_succ _) (Nat.le_succ _)) _ _ _⟩
end Go.Proofs.Ytbhkibilnmoljaa
namespace Go.Proofs.Ytbhkibilnmoljaa
set_option linter.unusedVariables false
set_option linter.unusedSimpArgs false
open Go.RowKit

theorem keep6w {w0 X Y : World} {a1 a2 a3 a4 a5 a6 : Addr} {x1 x2 x3 x4 x5 x6 : Value} (h : X.cell? a1 = some x1 ∧ X.cell? a2 = some x2 ∧ X.cell? a3 = some x3 ∧ X.cell? a4 = some x4 ∧ X.cell? a5 = some x5 ∧ X.cell? a6 = some x6 ∧ Below w0.heap.size w0 X) (hb : Below X.heap.size X Y) :
    Y.cell? a1 = some x1 ∧ Y.cell? a2 = some x2 ∧ Y.cell? a3 = some x3 ∧ Y.cell? a4 = some x4 ∧ Y.cell? a5 = some x5 ∧ Y.cell? a6 = some x6 ∧ Below w0.heap.size w0 Y := by
  obtain ⟨k1, k2, k3, k4, k5, k6, k7⟩ := h
  exact ⟨cell_below hb k1, cell_below hb k2, cell_below hb k3, cell_below hb k4, cell_below hb k5, cell_below hb k6, below_then k7 hb⟩
theorem keep6a {w0 X : World} {a1 a2 a3 a4 a5 a6 : Addr} {x1 x2 x3 x4 x5 x6 : Value} (h : w0.cell? a1 = some x1 ∧ w0.cell? a2 = some x2 ∧ w0.cell? a3 = some x3 ∧ w0.cell? a4 = some x4 ∧ w0.cell? a5 = some x5 ∧ w0.cell? a6 = some x6) (hb : Below w0.heap.size w0 X) :
    X.cell? a1 = some x1 ∧ X.cell? a2 = some x2 ∧ X.cell? a3 = some x3 ∧ X.cell? a4 = some x4 ∧ X.cell? a5 = some x5 ∧ X.cell? a6 = some x6 ∧ Below w0.heap.size w0 X := by
  obtain ⟨k1, k2, k3, k4, k5, k6⟩ := h
  exact ⟨cell_below hb k1, cell_below hb k2, cell_below hb k3, cell_below hb k4, cell_below hb k5, cell_below hb k6, hb⟩
theorem keep6c {w0 X : World} {a1 a2 a3 a4 a5 a6 : Addr} {x1 x2 x3 x4 x5 x6 : Value} (h : X.cell? a1 = some x1 ∧ X.cell? a2 = some x2 ∧ X.cell? a3 = some x3 ∧ X.cell? a4 = some x4 ∧ X.cell? a5 = some x5 ∧ X.cell? a6 = some x6 ∧ Below w0.heap.size w0 X) : Below w0.heap.size w0 X := h.2.2.2.2.2.2
theorem keep6s {w0 X : World} {a1 a2 a3 a4 a5 a6 : Addr} {x1 x2 x3 x4 x5 x6 : Value} (h : w0.cell? a1 = some x1 ∧ w0.cell? a2 = some x2 ∧ w0.cell? a3 = some x3 ∧ w0.cell? a4 = some x4 ∧ w0.cell? a5 = some x5 ∧ w0.cell? a6 = some x6) (hb : Below w0.heap.size w0 X) {b : Nat} (hB : w0.heap.size ≤ b) (x y z : Value) :
    (((X.setCell ⟨b, 0, none⟩ x).setCell ⟨b, 1, none⟩ y).setCell ⟨b, 2, none⟩ z).cell? a1 = some x1 ∧ (((X.setCell ⟨b, 0, none⟩ x).setCell ⟨b, 1, none⟩ y).setCell ⟨b, 2, none⟩ z).cell? a2 = some x2 ∧ (((X.setCell ⟨b, 0, none⟩ x).setCell ⟨b, 1, none⟩ y).setCell ⟨b, 2, none⟩ z).cell? a3 = some x3 ∧
    (((X.setCell ⟨b, 0, none⟩ x).setCell ⟨b, 1, none⟩ y).setCell ⟨b, 2, none⟩ z).cell? a4 = some x4 ∧ (((X.setCell ⟨b, 0, none⟩ x).setCell ⟨b, 1, none⟩ y).setCell ⟨b, 2, none⟩ z).cell? a5 = some x5 ∧ (((X.setCell ⟨b, 0, none⟩ x).setCell ⟨b, 1, none⟩ y).setCell ⟨b, 2, none⟩ z).cell? a6 = some x6 ∧ Below w0.heap.size w0 (((X.setCell ⟨b, 0, none⟩ x).setCell ⟨b, 1, none⟩ y).setCell ⟨b, 2, none⟩ z) :=
  keep6a h (below_set3 hb hB x y z)
theorem FracC.same {w : World} {va vb : Value} {p q : Rat} (ha : FracC w va p) (hb : FracC w vb q) (hp : fits p) (hq : fits q) :
    Calls Try.prog 24 #[va, vb] w fun en w' => en = .returned (.bool (decide (p = q))) ∧ Below w.heap.size w w' := by
  have := r2same_any va vb _ _ _ _ _ _ w ha.raw hb.raw (fits_okN hp) (fits_okN hq)
  rwa [fq_self, fq_self] at this
/-- Add, where the sum fits. -/
theorem r2add_acc (va vb : Value) (p r : Rat) (x : RF) (w : World) (ha : FracC w va p) (hb : FracN w vb x.neg x.n x.d) (hp : fits p) (hx : okN x.n x.d) (hr : p + x.q = r) (hf : fits r) :
    Calls Try.prog 14 #[va, vb] w (RF0 w r) := by
  refine (r2add_any va vb _ _ _ _ _ _ w ha.raw hb (fits_okN hp) hx).mono ?_
  rw [fq_self, show p + fq x.neg x.n x.d = r from hr]
  rintro e w' ⟨v, er, rfl, h1, h2, _⟩
  obtain ⟨rfl, h3⟩ := h2 hf
  exact ⟨v, rfl, h3, h1⟩
end Go.Proofs.Ytbhkibilnmoljaa
namespace Go.Proofs.Ytbhkibilnmoljaa
set_option linter.unusedVariables false
set_option linter.unusedSimpArgs false
open Go.RowKit

@[go_sem] theorem slen_lit2 (a : Option Addr) (n c : Nat) : slen (.slice a n c) = n := rfl
theorem r2reduce_ok (va : Value) (x : RF) (w : World) (ha : FracN w va x.neg x.n x.d) (hx : x.ok) : Calls Try.prog 80 #[va] w (RF0 w x.q) :=
  (r2reduce_any va x.neg x.n x.d w ha).mono fun e w' h => by
    obtain ⟨v, er, rfl, h1, h2, _⟩ := h
    obtain ⟨rfl, h3⟩ := h2 hx
    exact ⟨v, rfl, h3, h1⟩
/-- The first limb of a denominator of one limb. -/
theorem den_one {d : Nat} (h : nlen d = 1) : d < 4294967296 ∧ ∀ (wx : World) (g : Value), NatC wx g d → wx.cell? (ptr g 0) = some (.int .u32 d) := by
  have h0 : d ≠ 0 := nlen_pos_iff.1 (by omega)
  have hb : d < 4294967296 := by have := nlen_le.1 (Nat.le_of_eq h); simpa [pw] using this
  refine ⟨hb, fun wx g hg => ?_⟩
  have h1 := hg.v
  have e : limbs d = [d] := by rw [limbs_pos h0, Nat.mod_eq_of_lt hb, Nat.div_eq_of_lt hb, limbs_zero]
  rw [e] at h1
  exact h1.cell 0 (by simp)
set_option maxRecDepth 100000 in
set_option maxHeartbeats 3200000 in
theorem rweight_any (va : Value) (l : List RF) (w : World) (ha : FracsN w va l) (hok : ∀ x ∈ l, x.ok) (hl : l.length ≤ 65536) :
    Calls Try.prog 58 #[va] w fun e w' => e = .returned (.int .i64 (wts (qs l) : Nat)) ∧ Below w.heap.size w w' := by
  have sa := ha.sl
  have la := ha.len
  have HOK := Lib.hid hok
  clear hok
  go_enter Try.func58, Try.ntmps58
  go_wp2_with fail
  go_loopw [3, 4] (fun u3 u4 wr => ∃ (k : Nat), k ≤ l.length ∧ u4 = .int .i64 k ∧ u3 = .int .i64 (wts (qs (l.take k)) : Nat) ∧ Below w.heap.size w wr) (fun _ u4 _ => l.length - (intOf u4).toNat)
  case atStart => exact ⟨0, Nat.zero_le _, rfl, by simp [qs, wts], Below.refl _ _⟩
  case round =>
    obtain ⟨k, hk, rfl, rfl, hbr⟩ := hrel
    by_cases hkl : k < l.length
    · obtain ⟨xa, xb, c1, c2, c3, hxa, hxb⟩ := (ha.below hbr).at' k hkl
      obtain ⟨c1a, c1l, c1k, rfl, _⟩ := hxa.slen.1
      obtain ⟨c2a, c2l, c2k, rfl, _⟩ := hxb.slen.1
      have HX := Lib.hid (HOK.out l[k] (List.getElem_mem hkl))
      have HTS := Lib.hid (wts_qs l k hkl)
      have hWj : wts (qs (l.take k)) ≤ 8192 * 65536 := by
        have h1 := wts_le (l.take k) (fun x h => HOK.out x (List.mem_of_mem_take h))
        rw [List.length_take] at h1; omega
      generalize l[k]'hkl = x at *
      generalize wts (qs (l.take k)) = W1 at *
      have HA : Hid (FracN wr (.agg #[.bool x.neg, .slice c1a c1l c1k, .slice c2a c2l c2k]) x.neg x.n x.d) := Lib.hid ⟨_, _, rfl, hxa, hxb⟩
      obtain ⟨hf1, hf2⟩ := RF.fits HX.out
      have hn0 := nbits_pos (n := x.q.num.natAbs)
      have hd0 := x.q.den_nz
      have hlp := nlen_pos_iff (d := x.q.num.natAbs)
      have hld := nlen_pos_iff (d := x.q.den)
      have HONE := Lib.hid (den_one (d := x.q.den))
      obtain ⟨bn, hbn⟩ : ∃ bn, nbits x.q.num.natAbs = bn := ⟨_, rfl⟩
      obtain ⟨bd, hbd⟩ : ∃ bd, nbits x.q.den = bd := ⟨_, rfl⟩
      obtain ⟨ln, hln⟩ : ∃ ln, nlen x.q.num.natAbs = ln := ⟨_, rfl⟩
      obtain ⟨ld, hld2⟩ : ∃ ld, nlen x.q.den = ld := ⟨_, rfl⟩
      rw [hbn] at hf1 hn0
      rw [hbd] at hf2
      rw [hln] at hlp
      rw [hld2] at hld
      have HBN := Lib.hid hbn
      have HBD := Lib.hid hbd
      have HLN := Lib.hid hln
      have HLD := Lib.hid hld2
      have hld0 : 0 < ld := hld.2 hd0
      have i1 : (0 : Int) ≤ (k : Int) := by omega
      have i2 : (k : Int) < (l.length : Nat) := by omega
      clear hbn hbd hln hld2 hxa hxb hld
      by_cases hz : x.q.num = 0
      · have hbz : bn = 0 := by have := hn0.1; omega
        have hlz : ln = 0 := by have := hlp.1; omega
        have HW := Lib.hid (wt_zero hz)
        have hlq : ¬ 0 < ln := by omega
        have HB0 := Lib.hid hbz
        clear hz hn0 hd0 hlp hlz hbz
        go_wp2_with (first
          | (go_at_call 80; (with_reducible refine (r2reduce_ok _ x _ HA.out HX.out).mono ?_); rintro e w7 ⟨v, rfl, hv, hb7⟩
             obtain ⟨xa2, xb2, rfl, hxa2, hxb2⟩ := hv
             obtain ⟨y1, y2, y3, rfl, _⟩ := id hxa2.v.sl
             obtain ⟨y4, y5, y6, rfl, _⟩ := id hxb2.v.sl
             have e2 : y2 = _ := hxa2.v.len.trans HLN.out
             have e5 : y5 = _ := hxb2.v.len.trans HLD.out
             subst e2 e5
             have hb9 := below_alloc w7 (.cells #[.bool (decide (x.q < 0)), .slice y1 y2 y3, .slice y4 y5 y6] 30)
             have hC9 := C3.new w7 30 (.bool (decide (x.q < 0))) (.slice y1 y2 y3) (.slice y4 y5 y6)
             have HC9 := Lib.hid hC9
             have HXA := Lib.hid (hxa2.below hb9)
             have HXB := Lib.hid (hxb2.below hb9)
             have sB := hxb2.v.sl
             have hb8 := below_then (below_then hbr hb7) hb9
             obtain ⟨_, f0, f1, f2, _, _, _⟩ := id hC9
             clear hC9 hxa2 hxb2 hb9)
          | (go_at_call 81; first
             | ((with_reducible refine (rbits_any _ _ _ HXA.out.nat).mono ?_); rintro e w8 ⟨rfl, hb10⟩; rw [HBN.out]
                have hb8 := below_then hb8 hb10
                have HXB := Lib.hid (HXB.out.below hb10)
                skip
                obtain ⟨_, f0, f1, f2, _, _, _⟩ := HC9.out.belowS hb10)
             | ((with_reducible refine (rbits_any _ _ _ HXB.out.nat).mono ?_); rintro e w9 ⟨rfl, hb11⟩; rw [HBD.out]
                have hb8 := below_then hb8 hb11)))
        go_roundw
        case rel => exact ⟨k + 1, hkl, by go_num, by rw [HTS.out, HW.out, HB0.out]; go_num, hb8⟩
        case measure => simp [intOf]; omega
      · have hbz : 0 < bn := hn0.2 (by omega)
        have hlz : 0 < ln := hlp.2 (by omega)
        by_cases hd : x.q.den = 1
        · have HW := Lib.hid (wt_int hz hd)
          have hl1 : ld = 1 := by rw [← HLD.out, hd]; decide +kernel
          have HC1 := Lib.hid (HONE.out (by rw [HLD.out]; exact hl1))
          have HDE : Hid (∀ (wx : World) (g : Value), NatC wx g x.q.den → wx.cell? (ptr g 0) = some (.int .u32 (1 : Nat))) := Lib.hid (fun wx g h => by have := HC1.out.2 wx g h; rwa [hd] at this)
          have hlq : ¬ 1 < ld := by omega
          clear hz hn0 hd0 hlp hd hl1
          go_wp2_with (first
            | (go_at_call 80; (with_reducible refine (r2reduce_ok _ x _ HA.out HX.out).mono ?_); rintro e w7 ⟨v, rfl, hv, hb7⟩
               obtain ⟨xa2, xb2, rfl, hxa2, hxb2⟩ := hv
               obtain ⟨y1, y2, y3, rfl, _⟩ := id hxa2.v.sl
               obtain ⟨y4, y5, y6, rfl, _⟩ := id hxb2.v.sl
               have e2 : y2 = _ := hxa2.v.len.trans HLN.out
               have e5 : y5 = _ := hxb2.v.len.trans HLD.out
               subst e2 e5
               have hb9 := below_alloc w7 (.cells #[.bool (decide (x.q < 0)), .slice y1 y2 y3, .slice y4 y5 y6] 30)
               have hC9 := C3.new w7 30 (.bool (decide (x.q < 0))) (.slice y1 y2 y3) (.slice y4 y5 y6)
               have HC9 := Lib.hid hC9
               have HXA := Lib.hid (hxa2.below hb9)
               have HXB := Lib.hid (hxb2.below hb9)
               have sB := hxb2.v.sl
               have hb8 := below_then (below_then hbr hb7) hb9
               obtain ⟨_, f0, f1, f2, _, _, _⟩ := id hC9
               clear hC9 hxa2 hxb2 hb9)
            | (go_at_call 81; first
               | ((with_reducible refine (rbits_any _ _ _ HXA.out.nat).mono ?_); rintro e w8 ⟨rfl, hb10⟩; rw [HBN.out]
                  have hb8 := below_then hb8 hb10
                  have HXB := Lib.hid (HXB.out.below hb10)
                  have hden := HDE.out _ _ HXB.out
                  obtain ⟨_, f0, f1, f2, _, _, _⟩ := HC9.out.belowS hb10)
               | ((with_reducible refine (rbits_any _ _ _ HXB.out.nat).mono ?_); rintro e w9 ⟨rfl, hb11⟩; rw [HBD.out]
                  have hb8 := below_then hb8 hb11)))
          go_roundw
          case rel => exact ⟨k + 1, hkl, by go_num, by rw [HTS.out, HW.out, HBN.out]; go_num, hb8⟩
          case measure => simp [intOf]; omega
        · have HW := Lib.hid (wt_frac hz hd)
          by_cases hl1 : ld = 1
          · have HC1 := Lib.hid (HONE.out (by rw [HLD.out]; exact hl1))
            obtain ⟨dn, hdn⟩ : ∃ dn, x.q.den = dn := ⟨_, rfl⟩
            have hd2 : 1 < dn := by omega
            have hd3 : dn < 4294967296 := by have := HC1.out.1; omega
            have HDE : Hid (∀ (wx : World) (g : Value), NatC wx g x.q.den → wx.cell? (ptr g 0) = some (.int .u32 dn)) := Lib.hid (fun wx g h => by have := HC1.out.2 wx g h; rwa [hdn] at this)
            have hlq : ¬ 1 < ld := by omega
            clear hz hn0 hd0 hlp hd hdn hl1
            go_wp2_with (first
              | (go_at_call 80; (with_reducible refine (r2reduce_ok _ x _ HA.out HX.out).mono ?_); rintro e w7 ⟨v, rfl, hv, hb7⟩
                 obtain ⟨xa2, xb2, rfl, hxa2, hxb2⟩ := hv
                 obtain ⟨y1, y2, y3, rfl, _⟩ := id hxa2.v.sl
                 obtain ⟨y4, y5, y6, rfl, _⟩ := id hxb2.v.sl
                 have e2 : y2 = _ := hxa2.v.len.trans HLN.out
                 have e5 : y5 = _ := hxb2.v.len.trans HLD.out
                 subst e2 e5
                 have hb9 := below_alloc w7 (.cells #[.bool (decide (x.q < 0)), .slice y1 y2 y3, .slice y4 y5 y6] 30)
                 have hC9 := C3.new w7 30 (.bool (decide (x.q < 0))) (.slice y1 y2 y3) (.slice y4 y5 y6)
                 have HC9 := Lib.hid hC9
                 have HXA := Lib.hid (hxa2.below hb9)
                 have HXB := Lib.hid (hxb2.below hb9)
                 have sB := hxb2.v.sl
                 have hb8 := below_then (below_then hbr hb7) hb9
                 obtain ⟨_, f0, f1, f2, _, _, _⟩ := id hC9
                 clear hC9 hxa2 hxb2 hb9)
              | (go_at_call 81; first
                 | ((with_reducible refine (rbits_any _ _ _ HXA.out.nat).mono ?_); rintro e w8 ⟨rfl, hb10⟩; rw [HBN.out]
                    have hb8 := below_then hb8 hb10
                    have HXB := Lib.hid (HXB.out.below hb10)
                    have hden := HDE.out _ _ HXB.out
                    obtain ⟨_, f0, f1, f2, _, _, _⟩ := HC9.out.belowS hb10)
                 | ((with_reducible refine (rbits_any _ _ _ HXB.out.nat).mono ?_); rintro e w9 ⟨rfl, hb11⟩; rw [HBD.out]
                    have hb8 := below_then hb8 hb11)))
            go_roundw
            case rel => exact ⟨k + 1, hkl, by go_num, by rw [HTS.out, HW.out, HBN.out, HBD.out]; go_num, hb8⟩
            case measure => simp [intOf]; omega
          · have hl2 : 1 < ld := by omega
            clear hz hn0 hd0 hlp hd
            go_wp2_with (first
              | (go_at_call 80; (with_reducible refine (r2reduce_ok _ x _ HA.out HX.out).mono ?_); rintro e w7 ⟨v, rfl, hv, hb7⟩
                 obtain ⟨xa2, xb2, rfl, hxa2, hxb2⟩ := hv
                 obtain ⟨y1, y2, y3, rfl, _⟩ := id hxa2.v.sl
                 obtain ⟨y4, y5, y6, rfl, _⟩ := id hxb2.v.sl
                 have e2 : y2 = _ := hxa2.v.len.trans HLN.out
                 have e5 : y5 = _ := hxb2.v.len.trans HLD.out
                 subst e2 e5
                 have hb9 := below_alloc w7 (.cells #[.bool (decide (x.q < 0)), .slice y1 y2 y3, .slice y4 y5 y6] 30)
                 have hC9 := C3.new w7 30 (.bool (decide (x.q < 0))) (.slice y1 y2 y3) (.slice y4 y5 y6)
                 have HC9 := Lib.hid hC9
                 have HXA := Lib.hid (hxa2.below hb9)
                 have HXB := Lib.hid (hxb2.below hb9)
                 have sB := hxb2.v.sl
                 have hb8 := below_then (below_then hbr hb7) hb9
                 obtain ⟨_, f0, f1, f2, _, _, _⟩ := id hC9
                 clear hC9 hxa2 hxb2 hb9)
              | (go_at_call 81; first
                 | ((with_reducible refine (rbits_any _ _ _ HXA.out.nat).mono ?_); rintro e w8 ⟨rfl, hb10⟩; rw [HBN.out]
                    have hb8 := below_then hb8 hb10
                    have HXB := Lib.hid (HXB.out.below hb10)
                    skip
                    obtain ⟨_, f0, f1, f2, _, _, _⟩ := HC9.out.belowS hb10)
                 | ((with_reducible refine (rbits_any _ _ _ HXB.out.nat).mono ?_); rintro e w9 ⟨rfl, hb11⟩; rw [HBD.out]
                    have hb8 := below_then hb8 hb11)))
            go_roundw
            case rel => exact ⟨k + 1, hkl, by go_num, by rw [HTS.out, HW.out, HBN.out, HBD.out]; go_num, hb8⟩
            case measure => simp [intOf]; omega
    · obtain rfl : k = l.length := by omega
      rw [List.take_length] at *
      go_wp2_with fail
      go_ret
      exact ⟨rfl, hbr⟩
end Go.Proofs.Ytbhkibilnmoljaa
