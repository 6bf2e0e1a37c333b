/-
  package chain: Valid.
  Ahead of it: package chain: number, above, weight, row. Weights of lists of fractions: what the walks of weight functions share. package chain: weight, row. Six cells kept behind a store; growth in the forms that walks meet. No program is named here.
-/
import Derived.Test.YtlpdkbmmbdfoiaaGreatCGn
import Derived.Test.YtlpdkbmmbdfoiaaGreatCFr3
namespace Go.Proofs.YtlpdkbmmbdfoiaaGreat
set_option linter.unusedVariables false
set_option linter.unusedSimpArgs false
open Go.RowKit

set_option maxHeartbeats 800000 in
theorem number_zero (w : World) : Calls Tryz.prog 109 #[.int .i64 0] w (RF1 w 0) := by
  go_enter Tryz.func109, Tryz.ntmps109
  go_wp2_with (go_at_call 67; (with_reducible refine (make_01 _).mono ?_); rintro e w1 ⟨v, rfl, hv, hb1⟩
               obtain ⟨t9, x9, y9, rfl, ⟨a1, l91, k1, rfl, _⟩, ⟨a2, l92, k2, rfl, _⟩⟩ := hv.isF
               have hr := ((C3.new w 38 (.bool false) (.slice none 0 0) (.slice none 0 0)).belowS hb1).allocS (.cells #[.bool t9, .slice a1 l91 k1, .slice a2 l92 k2] 38)
               have hv2 := hv.below (below_alloc w1 (.cells #[.bool t9, .slice a1 l91 k1, .slice a2 l92 k2] 38))
               have hb2 := below_then (below_then (below_alloc w (.cells #[.bool false, .slice none 0 0, .slice none 0 0] 38)) hb1) (below_alloc w1 (.cells #[.bool t9, .slice a1 l91 k1, .slice a2 l92 k2] 38))
               have HR := Lib.hid hr
               obtain ⟨_, d1, d2, d3, d4, d5, d6⟩ := hr)
  refine bodyPost_c1 rfl rfl Tryz.aggF Tryz.sizeF (HR.out.set _ _ _) rfl ?_
  exact ⟨_, rfl, hv2.set3 HR.out (fun z => by simp) (fun z => by simp) _ _ _, below_set3 hb2 (Nat.le_refl _) _ _ _⟩
set_option maxHeartbeats 800000 in
theorem number_one (w : World) : Calls Tryz.prog 109 #[.int .i64 1] w (RF1 w 1) := by
  go_enter Tryz.func109, Tryz.ntmps109
  go_wp2_with (go_at_call 67; (with_reducible refine (make_11 _).mono ?_); rintro e w1 ⟨v, rfl, hv, hb1⟩
               obtain ⟨t9, x9, y9, rfl, ⟨a1, l91, k1, rfl, _⟩, ⟨a2, l92, k2, rfl, _⟩⟩ := hv.isF
               have hr := ((C3.new w 38 (.bool false) (.slice none 0 0) (.slice none 0 0)).belowS hb1).allocS (.cells #[.bool t9, .slice a1 l91 k1, .slice a2 l92 k2] 38)
               have hv2 := hv.below (below_alloc w1 (.cells #[.bool t9, .slice a1 l91 k1, .slice a2 l92 k2] 38))
               have hb2 := below_then (below_then (below_alloc w (.cells #[.bool false, .slice none 0 0, .slice none 0 0] 38)) hb1) (below_alloc w1 (.cells #[.bool t9, .slice a1 l91 k1, .slice a2 l92 k2] 38))
               have HR := Lib.hid hr
               obtain ⟨_, d1, d2, d3, d4, d5, d6⟩ := hr)
  refine bodyPost_c1 rfl rfl Tryz.aggF Tryz.sizeF (HR.out.set _ _ _) rfl ?_
  exact ⟨_, rfl, hv2.set3 HR.out (fun z => by simp) (fun z => by simp) _ _ _, below_set3 hb2 (Nat.le_refl _) _ _ _⟩

set_option maxHeartbeats 400000 in
theorem above_any (v : Value) (s : Bool) (n d : Nat) (w : World) (h : FracN w v s n d) :
    Calls Tryz.prog 145 #[v] w fun e w' => e = .returned (.bool (!s && !decide (n = 0))) ∧ Below w.heap.size w w' := by
  obtain ⟨a, b, rfl, ha, hb⟩ := h
  rcases s with _ | _
  · go_enter Tryz.func145, Tryz.ntmps145
    go_wp2_with (go_at_call 156; refine (bits_any _ n _ (ha.below (below_alloc _ _))).mono ?_; rintro e w' ⟨rfl, rfl⟩)
    go_ret
    refine ⟨?_, below_alloc _ _⟩
    have e : decide ((0 : Int) < (nbits n : Nat)) = !decide (n = 0) := by
      by_cases h0 : n = 0
      · subst h0; rfl
      · have := nbits_pos.2 h0; rw [decide_eq_true (by omega), decide_eq_false h0]; rfl
    first | (rw [show (!false && !decide (n = 0)) = decide ((0 : Int) < (nbits n : Nat)) from by rw [e]; rfl]; rfl) | (simp [← e])
  · go_enter Tryz.func145, Tryz.ntmps145
    go_wp2_with fail
    go_ret
    exact ⟨rfl, below_alloc _ _⟩
end Go.Proofs.YtlpdkbmmbdfoiaaGreat
namespace Go.Proofs.YtlpdkbmmbdfoiaaGreat
set_option linter.unusedVariables false
set_option linter.unusedSimpArgs false
open Go.RowKit

theorem RF.fits {x : RF} (h : x.ok) : fits x.q := fits_ok _ h
theorem wt_le {q : Rat} (h : fits q) : wt q ≤ 8192 := by
  obtain ⟨h1, h2⟩ := h
  unfold wt
  split <;> (try split) <;> omega
theorem wts_le (l : List RF) (h : ∀ x ∈ l, x.ok) : wts (qs l) ≤ 8192 * l.length := by
  induction l with
  | nil => simp [qs, wts]
  | cons x l ih =>
    have h1 := ih (fun y hy => h y (by simp [hy]))
    have h2 := wt_le (RF.fits (h x (by simp)))
    have e : wts (qs (x :: l)) = wt x.q + wts (qs l) := by unfold qs; rw [List.map_cons, wts_cons]
    rw [e, List.length_cons]; omega
theorem wts_qs (l : List RF) (k : Nat) (h : k < l.length) : wts (qs (l.take (k + 1))) = wts (qs (l.take k)) + wt l[k].q := by
  rw [take_snoc l k h]; unfold qs; rw [List.map_append]; exact wts_snoc _ _
/-- The weight of rows. -/
def wtsM (m : List (List RF)) : Nat := (m.map fun l => wts (qs l)).sum
theorem wtsM_take (m : List (List RF)) (k : Nat) (h : k < m.length) : wtsM (m.take (k + 1)) = wtsM (m.take k) + wts (qs m[k]) := by
  unfold wtsM; rw [take_snoc m k h, List.map_append, List.sum_append]; simp only [List.map_cons, List.map_nil, List.sum_cons, List.sum_nil, Nat.add_zero]
theorem wtsM_le (m : List (List RF)) (h : ∀ l ∈ m, ∀ x ∈ l, x.ok) (hl : ∀ l ∈ m, l.length ≤ 65536) : wtsM m ≤ 536870912 * m.length := by
  induction m with
  | nil => simp [wtsM]
  | cons x m ih =>
    have h1 := ih (fun y hy => h y (by simp [hy])) (fun y hy => hl y (by simp [hy]))
    have h2 := wts_le x (h x (by simp))
    have h3 := hl x (by simp)
    have e : wtsM (x :: m) = wts (qs x) + wtsM m := by simp [wtsM]
    rw [e, List.length_cons]; omega
theorem wt_zero {q : Rat} (h : q.num = 0) : wt q = 0 := by unfold wt; rw [if_pos h]
theorem wt_int {q : Rat} (h : q.num ≠ 0) (hd : q.den = 1) : wt q = nbits q.num.natAbs := by unfold wt; rw [if_neg h, if_pos hd]; rfl
theorem wt_frac {q : Rat} (h : q.num ≠ 0) (hd : q.den ≠ 1) : wt q = nbits q.num.natAbs + nbits q.den := by unfold wt; rw [if_neg h, if_neg hd]

/-- Reduce, of a valid fraction. -/
theorem reduce_ok (va : Value) (x : RF) (w : World) (ha : FracN w va x.neg x.n x.d) (hx : x.ok) : Calls Tryz.prog 89 #[va] w (RF0 w x.q) :=
  (reduce_any va x.neg x.n x.d w ha).mono fun e w' h => by
    obtain ⟨v, er, rfl, h1, h2, _⟩ := h
    obtain ⟨rfl, h3⟩ := h2 hx
    exact ⟨v, rfl, h3, h1⟩
theorem wtsM_one (l : List RF) : wtsM [l] = wts (qs l) := by simp [wtsM]
end Go.Proofs.YtlpdkbmmbdfoiaaGreat
namespace Go.Proofs.YtlpdkbmmbdfoiaaGreat
set_option linter.unusedVariables false
set_option linter.unusedSimpArgs false
open Go.RowKit

set_option maxRecDepth 100000 in
set_option maxHeartbeats 3200000 in
theorem weight_any (va : Value) (m : List (List RF)) (w : World) (ha : MatN w va m) (hok : ∀ l ∈ m, ∀ x ∈ l, x.ok) (hl : ∀ l ∈ m, l.length ≤ 65536) (hm : m.length ≤ 65536) :
    Calls Tryz.prog 146 #[va] w fun e w' => e = .returned (.int .i64 (wtsM m)) ∧ Below w.heap.size w w' := by
  have sa := ha.sl
  have la := ha.len
  have HOK := Lib.hid hok
  have HL := Lib.hid hl
  clear hok hl
  go_enter Tryz.func146, Tryz.ntmps146
  go_wp2_with fail
  go_loopw [3, 13] (fun u3 u13 wr => ∃ (k : Nat), k ≤ m.length ∧ u13 = .int .i64 k ∧ u3 = .int .i64 (wtsM (m.take k)) ∧ Below w.heap.size w wr) (fun _ u13 _ => m.length - (intOf u13).toNat)
  case atStart => exact ⟨0, Nat.zero_le _, rfl, rfl, Below.refl _ _⟩
  case round =>
    obtain ⟨k, hk, rfl, rfl, hb⟩ := hrel
    by_cases hkm : k < m.length
    · obtain ⟨rv, hrc, hrv⟩ := (ha.below hb).at' k hkm
      have hW : wtsM (m.take k) ≤ 536870912 * 65536 := by
        have h1 := wtsM_le (m.take k) (fun l h => HOK.out l (List.mem_of_mem_take h)) (fun l h => HL.out l (List.mem_of_mem_take h))
        rw [List.length_take] at h1; omega
      have hlk := HL.out m[k] (List.getElem_mem hkm)
      have HOKL := Lib.hid (HOK.out m[k] (List.getElem_mem hkm))
      have HTM := Lib.hid (wtsM_take m k hkm)
      generalize m[k]'hkm = l at *
      generalize wtsM (m.take k) = W0 at *
      have srv := hrv.sl
      have lrv := hrv.len
      obtain ⟨wo, rfl⟩ : ∃ wo : World, wo = wr := ⟨_, rfl⟩
      go_wp2_with fail
      go_loopw [3, 19] (fun u3 u19 wi => ∃ (j : Nat), j ≤ l.length ∧ u19 = .int .i64 j ∧ u3 = .int .i64 ((W0 + wts (qs (l.take j)) : Nat) : Int) ∧ Below wo.heap.size wo wi) (fun _ u19 _ => l.length - (intOf u19).toNat)
      case atStart => exact ⟨0, Nat.zero_le _, rfl, by simp [qs, wts], Below.refl _ _⟩
      case round =>
        obtain ⟨j, hj, rfl, rfl, hbi⟩ := hrel
        by_cases hjl : j < l.length
        · obtain ⟨xa, xb, c1, c2, c3, hxa, hxb⟩ := (hrv.below hbi).at' j hjl
          obtain ⟨c1a, c1l, c1k, rfl, _⟩ := hxa.slen.1
          obtain ⟨c2a, c2l, c2k, rfl, _⟩ := hxb.slen.1
          have HX := Lib.hid (HOKL.out l[j] (List.getElem_mem hjl))
          have HTS := Lib.hid (wts_qs l j hjl)
          have hWj : wts (qs (l.take j)) ≤ 8192 * 65536 := by
            have h1 := wts_le (l.take j) (fun x h => HOKL.out x (List.mem_of_mem_take h))
            rw [List.length_take] at h1; omega
          generalize l[j]'hjl = x at *
          generalize wts (qs (l.take j)) = W1 at *
          have hA : FracN (wr.alloc (.cells #[.bool x.neg, .slice c1a c1l c1k, .slice c2a c2l c2k] 38)) (.agg #[.bool x.neg, .slice c1a c1l c1k, .slice c2a c2l c2k]) x.neg x.n x.d := ⟨_, _, rfl, hxa.below (below_alloc _ _), hxb.below (below_alloc _ _)⟩
          have hb1 := below_then hbi (below_alloc wr (.cells #[.bool x.neg, .slice c1a c1l c1k, .slice c2a c2l c2k] 38))
          obtain ⟨hf1, hf2⟩ := RF.fits HX.out
          have hn0 := nbits_pos (n := x.q.num.natAbs)
          have hd1 := nbits_gt_one (n := x.q.den)
          have hd0 := x.q.den_nz
          obtain ⟨bn, hbn⟩ : ∃ bn, nbits x.q.num.natAbs = bn := ⟨_, rfl⟩
          obtain ⟨bd, hbd⟩ : ∃ bd, nbits x.q.den = bd := ⟨_, rfl⟩
          rw [hbn] at hf1 hn0
          rw [hbd] at hf2 hd1
          have HBN := Lib.hid hbn
          have HBD := Lib.hid hbd
          clear hbn hbd hxa hxb
          by_cases hz : x.q.num = 0
          · have hbz : bn = 0 := by have := hn0.1; omega
            have HW := Lib.hid (wt_zero hz)
            subst hbz
            clear hz hn0 hd1 hd0
            go_wp2_with (first
              | (go_at_call 89; (with_reducible refine (reduce_ok _ x _ hA HX.out).mono ?_); rintro e w7 ⟨v, rfl, hv, hb7⟩
                 obtain ⟨xa2, xb2, rfl, hxa2, hxb2⟩ := hv
                 obtain ⟨y1, y2, y3, rfl, _⟩ := hxa2.v.sl
                 obtain ⟨y4, y5, y6, rfl, _⟩ := hxb2.v.sl
                 have hxa3 := (hxa2.below (below_alloc w7 (.cells #[.bool (decide (x.q < 0)), .slice y1 y2 y3, .slice y4 y5 y6] 38))).nat
                 have hxb3 := (hxb2.below (below_alloc w7 (.cells #[.bool (decide (x.q < 0)), .slice y1 y2 y3, .slice y4 y5 y6] 38))).nat
                 have hb8 := below_then (below_then hb1 hb7) (below_alloc w7 (.cells #[.bool (decide (x.q < 0)), .slice y1 y2 y3, .slice y4 y5 y6] 38)))
              | (go_at_call 156; first
                 | ((with_reducible refine (bits_any _ _ _ hxa3).mono ?_); rintro e w' ⟨rfl, rfl⟩; rw [HBN.out])
                 | ((with_reducible refine (bits_any _ _ _ hxb3).mono ?_); rintro e w' ⟨rfl, rfl⟩; rw [HBD.out])))
            go_roundw
            case rel => exact ⟨j + 1, hjl, by go_num, by rw [HTS.out, HW.out]; go_num, hb8⟩
            case measure => simp [intOf]; omega
          · have hbz : 0 < bn := hn0.2 (by omega)
            have hbz2 : (((bn : Nat) : Int) == 0) = false := by simp; omega
            by_cases hd : x.q.den = 1
            · have HW := Lib.hid (wt_int hz hd)
              have hbd1 : ¬ 1 < bd := fun h => by have := hd1.1 h; omega
              clear hz hn0 hd1 hd0 hd
              go_wp2_with (first
                | (go_at_call 89; (with_reducible refine (reduce_ok _ x _ hA HX.out).mono ?_); rintro e w7 ⟨v, rfl, hv, hb7⟩
                   obtain ⟨xa2, xb2, rfl, hxa2, hxb2⟩ := hv
                   obtain ⟨y1, y2, y3, rfl, _⟩ := hxa2.v.sl
                   obtain ⟨y4, y5, y6, rfl, _⟩ := hxb2.v.sl
                   have hxa3 := (hxa2.below (below_alloc w7 (.cells #[.bool (decide (x.q < 0)), .slice y1 y2 y3, .slice y4 y5 y6] 38))).nat
                   have hxb3 := (hxb2.below (below_alloc w7 (.cells #[.bool (decide (x.q < 0)), .slice y1 y2 y3, .slice y4 y5 y6] 38))).nat
                   have hb8 := below_then (below_then hb1 hb7) (below_alloc w7 (.cells #[.bool (decide (x.q < 0)), .slice y1 y2 y3, .slice y4 y5 y6] 38)))
                | (go_at_call 156; first
                   | ((with_reducible refine (bits_any _ _ _ hxa3).mono ?_); rintro e w' ⟨rfl, rfl⟩; rw [HBN.out])
                   | ((with_reducible refine (bits_any _ _ _ hxb3).mono ?_); rintro e w' ⟨rfl, rfl⟩; rw [HBD.out])))
              go_roundw
              case rel => exact ⟨j + 1, hjl, by go_num, by rw [HTS.out, HW.out, HBN.out]; go_num, hb8⟩
              case measure => simp [intOf]; omega
            · have HW := Lib.hid (wt_frac hz hd)
              have hbd1 : 1 < bd := hd1.2 (by omega)
              clear hz hn0 hd1 hd0 hd
              go_wp2_with (first
                | (go_at_call 89; (with_reducible refine (reduce_ok _ x _ hA HX.out).mono ?_); rintro e w7 ⟨v, rfl, hv, hb7⟩
                   obtain ⟨xa2, xb2, rfl, hxa2, hxb2⟩ := hv
                   obtain ⟨y1, y2, y3, rfl, _⟩ := hxa2.v.sl
                   obtain ⟨y4, y5, y6, rfl, _⟩ := hxb2.v.sl
                   have hxa3 := (hxa2.below (below_alloc w7 (.cells #[.bool (decide (x.q < 0)), .slice y1 y2 y3, .slice y4 y5 y6] 38))).nat
                   have hxb3 := (hxb2.below (below_alloc w7 (.cells #[.bool (decide (x.q < 0)), .slice y1 y2 y3, .slice y4 y5 y6] 38))).nat
                   have hb8 := below_then (below_then hb1 hb7) (below_alloc w7 (.cells #[.bool (decide (x.q < 0)), .slice y1 y2 y3, .slice y4 y5 y6] 38)))
                | (go_at_call 156; first
                   | ((with_reducible refine (bits_any _ _ _ hxa3).mono ?_); rintro e w' ⟨rfl, rfl⟩; rw [HBN.out])
                   | ((with_reducible refine (bits_any _ _ _ hxb3).mono ?_); rintro e w' ⟨rfl, rfl⟩; rw [HBD.out])))
              go_roundw
              case rel => exact ⟨j + 1, hjl, by go_num, by rw [HTS.out, HW.out, HBN.out, HBD.out]; go_num, hb8⟩
              case measure => simp [intOf]; omega
        · obtain rfl : j = l.length := by omega
          rw [List.take_length]
          go_wp2_with fail
          go_roundw
          case rel => exact ⟨k + 1, hkm, by go_num, by rw [HTM.out], hb.trans (hbi.mono hb.size)⟩
          case measure => simp [intOf]; omega
    · obtain rfl : k = m.length := by omega
      rw [List.take_length]
      go_wp2_with fail
      go_ret
      exact ⟨rfl, hb⟩

/-- A fraction that a chain may have. -/
def plainP (x : RF) : Prop := x.ok ∧ ¬ x.q < 0 ∧ nlen x.q.num.natAbs ≤ 4 ∧ nlen x.q.den ≤ 4
instance (x : RF) : Decidable (plainP x) := inferInstanceAs (Decidable (_ ∧ _ ∧ _ ∧ _))
/-- A row of n fractions that a chain may have. -/
def rowP (l : List RF) (n : Nat) : Prop := (∀ x ∈ l, plainP x) ∧ l.length = n ∧ wts (qs l) ≤ 3800
instance (l : List RF) (n : Nat) : Decidable (rowP l n) := inferInstanceAs (Decidable (_ ∧ _ ∧ _))
set_option maxRecDepth 100000 in
set_option maxHeartbeats 3200000 in
theorem row_any (va : Value) (l : List RF) (n : Nat) (w : World) (ha : FracsN w va l) (hn : n ≤ 65536) :
    Calls Tryz.prog 144 #[va, .int .i64 n] w fun e w' => e = .returned (.bool (decide (rowP l n))) ∧ Below w.heap.size w w' := by
  have sa := ha.sl
  have la := ha.len
  have hle := sa.le
  rw [la] at hle
  have hlb : l.length ≤ 9223372036854775807 := by omega
  clear hle
  go_enter Tryz.func144, Tryz.ntmps144
  go_wp2_with fail
  go_loopw [11] (fun u11 wr => ∃ (k : Nat), k ≤ l.length ∧ u11 = .int .i64 k ∧ (∀ x ∈ l.take k, plainP x) ∧ Below w.heap.size w wr) (fun u11 _ => l.length - (intOf u11).toNat)
  case atStart => exact ⟨0, Nat.zero_le _, rfl, by simp, Below.refl _ _⟩
  case round =>
    obtain ⟨k, hk, rfl, hpl, hb⟩ := hrel
    have HPL := Lib.hid hpl
    clear hpl
    by_cases hkl : k < l.length
    · obtain ⟨xa, xb, c1, c2, c3, hxa, hxb⟩ := (ha.below hb).at' k hkl
      obtain ⟨c1a, c1l, c1k, rfl, _⟩ := hxa.slen.1
      obtain ⟨c2a, c2l, c2k, rfl, _⟩ := hxb.slen.1
      have HBADx : Hid (¬ plainP l[k] → ¬ rowP l n) := Lib.hid (fun h h' => h (h'.1 _ (List.getElem_mem hkl)))
      have HNEXT : Hid (plainP l[k] → ∀ x ∈ l.take (k + 1), plainP x) := Lib.hid (fun h x hx => by
        rw [take_snoc l k hkl, List.mem_append, List.mem_singleton] at hx
        rcases hx with hx | rfl
        · exact HPL.out x hx
        · exact h)
      generalize l[k]'hkl = x at *
      have hA : FracN (wr.alloc (.cells #[.bool x.neg, .slice c1a c1l c1k, .slice c2a c2l c2k] 38)) (.agg #[.bool x.neg, .slice c1a c1l c1k, .slice c2a c2l c2k]) x.neg x.n x.d := ⟨_, _, rfl, hxa.below (below_alloc _ _), hxb.below (below_alloc _ _)⟩
      have hb1 := below_then hb (below_alloc wr (.cells #[.bool x.neg, .slice c1a c1l c1k, .slice c2a c2l c2k] 38))
      clear hxa hxb
      by_cases hx : x.ok
      · have HX := Lib.hid hx
        clear hx
        by_cases h1 : x.q < 0
        · have HBAD := Lib.hid (HBADx.out (fun h => h.2.1 h1))
          have hd1 : decide (x.q < 0) = true := decide_eq_true h1
          clear h1
          go_wp2_with (go_at_call 89; (with_reducible refine (reduce_ok _ x _ hA HX.out).mono ?_); rintro e w7 ⟨v, rfl, hv, hb7⟩
                       obtain ⟨xa2, xb2, rfl, hxa2, hxb2⟩ := hv
                       have z1 : slen xa2 = nlen x.q.num.natAbs := hxa2.v.len
                       have z2 : slen xb2 = nlen x.q.den := hxb2.v.len
                       obtain ⟨y1, y2, y3, rfl, _⟩ := hxa2.v.sl
                       obtain ⟨y4, y5, y6, rfl, _⟩ := hxb2.v.sl
                       have z3 : y2 = nlen x.q.num.natAbs := z1
                       have z4 : y5 = nlen x.q.den := z2
                       subst z3 z4
                       clear z1 z2
                       have hb8 := fun o => below_then (below_then hb1 hb7) (below_alloc w7 o))
          go_ret
          exact ⟨by rw [decide_eq_false HBAD.out]; rfl, hb8 _⟩
        · have hd1 : decide (x.q < 0) = false := decide_eq_false h1
          have H1 := Lib.hid h1
          clear h1
          by_cases h2 : 4 < nlen x.q.num.natAbs
          · have HBAD := Lib.hid (HBADx.out (fun h => by have := h.2.2.1; omega))
            go_wp2_with (go_at_call 89; (with_reducible refine (reduce_ok _ x _ hA HX.out).mono ?_); rintro e w7 ⟨v, rfl, hv, hb7⟩
                         obtain ⟨xa2, xb2, rfl, hxa2, hxb2⟩ := hv
                         have z1 : slen xa2 = nlen x.q.num.natAbs := hxa2.v.len
                         have z2 : slen xb2 = nlen x.q.den := hxb2.v.len
                         obtain ⟨y1, y2, y3, rfl, _⟩ := hxa2.v.sl
                         obtain ⟨y4, y5, y6, rfl, _⟩ := hxb2.v.sl
                         have z3 : y2 = nlen x.q.num.natAbs := z1
                         have z4 : y5 = nlen x.q.den := z2
                         subst z3 z4
                         clear z1 z2
                         have hb8 := fun o => below_then (below_then hb1 hb7) (below_alloc w7 o))
            go_ret
            exact ⟨by rw [decide_eq_false HBAD.out]; rfl, hb8 _⟩
          · by_cases h3 : 4 < nlen x.q.den
            · have HBAD := Lib.hid (HBADx.out (fun h => by have := h.2.2.2; omega))
              go_wp2_with (go_at_call 89; (with_reducible refine (reduce_ok _ x _ hA HX.out).mono ?_); rintro e w7 ⟨v, rfl, hv, hb7⟩
                           obtain ⟨xa2, xb2, rfl, hxa2, hxb2⟩ := hv
                           have z1 : slen xa2 = nlen x.q.num.natAbs := hxa2.v.len
                           have z2 : slen xb2 = nlen x.q.den := hxb2.v.len
                           obtain ⟨y1, y2, y3, rfl, _⟩ := hxa2.v.sl
                           obtain ⟨y4, y5, y6, rfl, _⟩ := hxb2.v.sl
                           have z3 : y2 = nlen x.q.num.natAbs := z1
                           have z4 : y5 = nlen x.q.den := z2
                           subst z3 z4
                           clear z1 z2
                           have hb8 := fun o => below_then (below_then hb1 hb7) (below_alloc w7 o))
              go_ret
              exact ⟨by rw [decide_eq_false HBAD.out]; rfl, hb8 _⟩
            · have HGOOD := Lib.hid (HNEXT.out ⟨HX.out, H1.out, by omega, by omega⟩)
              go_wp2_with (go_at_call 89; (with_reducible refine (reduce_ok _ x _ hA HX.out).mono ?_); rintro e w7 ⟨v, rfl, hv, hb7⟩
                           obtain ⟨xa2, xb2, rfl, hxa2, hxb2⟩ := hv
                           have z1 : slen xa2 = nlen x.q.num.natAbs := hxa2.v.len
                           have z2 : slen xb2 = nlen x.q.den := hxb2.v.len
                           obtain ⟨y1, y2, y3, rfl, _⟩ := hxa2.v.sl
                           obtain ⟨y4, y5, y6, rfl, _⟩ := hxb2.v.sl
                           have z3 : y2 = nlen x.q.num.natAbs := z1
                           have z4 : y5 = nlen x.q.den := z2
                           subst z3 z4
                           clear z1 z2
                           have hb8 := fun o => below_then (below_then hb1 hb7) (below_alloc w7 o))
              go_roundw
              case rel => exact ⟨k + 1, hkl, by go_num, HGOOD.out, hb8 _⟩
              case measure => simp [intOf]; omega
      · have HX := Lib.hid hx
        have HBAD := Lib.hid (HBADx.out (fun h => hx h.1))
        clear hx
        go_wp2_with (go_at_call 89; (with_reducible refine (reduce_any _ x.neg x.n x.d _ hA).mono ?_); rintro e w7 ⟨v, er, rfl, hb7, _, hv⟩
                     obtain ⟨rfl, hvz⟩ := hv HX.out
                     have hvz2 : v = .agg #[.bool false, .slice none 0 0, .slice none 0 0] := hvz
                     clear hvz
                     subst hvz2
                     have hb8 := fun o => below_then (below_then hb1 hb7) (below_alloc w7 o))
        go_ret
        exact ⟨by rw [decide_eq_false HBAD.out]; rfl, hb8 _⟩
    · obtain rfl : k = l.length := by omega
      have hpl := HPL.out
      rw [List.take_length] at hpl
      by_cases hln : l.length = n
      · have hlb2 : l.length ≤ 65536 := by omega
        obtain ⟨av, al, ak, rfl, _⟩ := ha.sl
        have e9 : al = l.length := la
        subst e9
        have HD : Hid (decide (rowP l n) = decide (((wts (qs l) : Nat) : Int) ≤ 3800)) := Lib.hid (by
          by_cases h : wts (qs l) ≤ 3800
          · rw [decide_eq_true (show rowP l n from ⟨hpl, hln, h⟩), decide_eq_true (by omega)]
          · rw [decide_eq_false (fun h' : rowP l n => h h'.2.2), decide_eq_false (by omega)])
        have HOK : Hid (∀ l' ∈ [l], ∀ x ∈ l', x.ok) := Lib.hid (fun l' h x hx => by simp at h; subst h; exact (hpl x hx).1)
        have HLL : Hid (∀ l' ∈ [l], l'.length ≤ 65536) := Lib.hid (fun l' h => by simp at h; subst h; exact hlb2)
        have HM : Hid (MatN (wr.alloc (.cells #[.slice av l.length ak] 25)) (.slice (some ⟨wr.heap.size, 0, none⟩) 1 1) [l]) := Lib.hid ⟨⟨_, 1, 1, rfl, Nat.le_refl _, by simp [maxLen], fun e => by cases e⟩, rfl, fun j hj => by
          have hj0 : j = 0 := by simp at hj; omega
          subst hj0
          exact ⟨_, by simp [ptr, base, Addr.add], (ha.below hb).below (below_alloc _ _)⟩⟩
        have hb2 := below_then hb (below_alloc wr (.cells #[.slice av l.length ak] 25))
        have hlnb : (((l.length : Nat) : Int) == (n : Nat)) = true := by simp [hln]
        have HW1 := Lib.hid (wtsM_one l)
        have HLEN : Hid ([l].length ≤ 65536) := Lib.hid (by simp)
        clear hpl hln
        go_wp2_with (go_at_call 146; (with_reducible refine (weight_any _ [l] _ HM.out HOK.out HLL.out HLEN.out).mono ?_); rintro e w3 ⟨rfl, hb3⟩; rw [HW1.out])
        go_ret
        exact ⟨by rw [HD.out]; rfl, below_then hb2 hb3⟩
      · have HBAD : Hid (¬ rowP l n) := Lib.hid (fun h => hln h.2.1)
        have hlnb : (((l.length : Nat) : Int) == (n : Nat)) = false := by simp; omega
        clear hln hpl
        go_wp2_with fail
        go_ret
        exact ⟨by rw [decide_eq_false HBAD.out]; rfl, hb⟩
end Go.Proofs.YtlpdkbmmbdfoiaaGreat
namespace Go.Proofs.YtlpdkbmmbdfoiaaGreat
set_option linter.unusedVariables false
open Go.RowKit

theorem FracsC.al {w : World} {v : Value} {q : List Rat} {o : Obj} (h : FracsC w v q) : FracsC (w.alloc o) v q := h.below (below_alloc w o)
theorem C3.dr {w : World} {b : Nat} {v0 v1 v2 : Value} (h : C3 w b v0 v1 v2) : C3 w.drew b v0 v1 v2 := h.belowS (below_drew w)
theorem keep6 {w : World} {a1 a2 a3 a4 a5 a6 : Addr} {x1 x2 x3 x4 x5 x6 : Value} (h : w.cell? a1 = some x1 ∧ w.cell? a2 = some x2 ∧ w.cell? a3 = some x3 ∧ w.cell? a4 = some x4 ∧ w.cell? a5 = some x5 ∧ w.cell? a6 = some x6) {p : Addr}
    (h1 : p.block ≠ a1.block) (h2 : p.block ≠ a2.block) (h3 : p.block ≠ a3.block) (h4 : p.block ≠ a4.block) (h5 : p.block ≠ a5.block) (h6 : p.block ≠ a6.block) (u : Value) :
    (w.setCell p u).cell? a1 = some x1 ∧ (w.setCell p u).cell? a2 = some x2 ∧ (w.setCell p u).cell? a3 = some x3 ∧ (w.setCell p u).cell? a4 = some x4 ∧ (w.setCell p u).cell? a5 = some x5 ∧ (w.setCell p u).cell? a6 = some x6 := by
  have key : ∀ a x, w.cell? a = some x → p.block ≠ a.block → (w.setCell p u).cell? a = some x := fun a x ha hp => by
    rw [World.cell?_setCell_other _ _ _ _ (fun e => hp (by rw [e]))]; exact ha
  obtain ⟨k1, k2, k3, k4, k5, k6⟩ := h
  exact ⟨key _ _ k1 h1, key _ _ k2 h2, key _ _ k3 h3, key _ _ k4 h4, key _ _ k5 h5, key _ _ k6 h6⟩
theorem cmpR_self_iff (p q : Rat) : cmpR p q = 0 ↔ p = q := by
  unfold cmpR
  constructor
  · intro h
    split at h
    · omega
    · split at h
      · omega
      · next h1 h2 => exact Rat.le_antisymm (Rat.not_lt.1 h2) (Rat.not_lt.1 h1)
  · rintro rfl
    rw [if_neg (Rat.lt_irrefl), if_neg (Rat.lt_irrefl)]
end Go.Proofs.YtlpdkbmmbdfoiaaGreat
namespace Go.Proofs.YtlpdkbmmbdfoiaaGreat
set_option linter.unusedVariables false
set_option linter.unusedSimpArgs false
open Go.RowKit

/-- The rates of state i are as a chain's. -/
def stateP (c : RC) (i : Nat) (r : List RF) : Prop := rowP r c.start.length ∧ (∀ x, r[i]? = some x → x.q.num = 0) ∧ (c.lost[i]? = some true → wts (qs r) = 0)
/-- A valid chain. -/
def validP (c : RC) : Prop := 1 ≤ c.start.length ∧ c.start.length ≤ 128 ∧ c.lost.length = c.start.length ∧ c.rates.length = c.start.length ∧ rowP c.start c.start.length ∧
  (∀ i r, c.rates[i]? = some r → stateP c i r) ∧ lsum (qs c.start) = 1
theorem rowP.fits {l : List RF} {n : Nat} (h : rowP l n) (k : Nat) : fits (lsum (qs (l.take k))) := by
  have h1 : ∀ q ∈ qs l, 0 ≤ q := fun q hq => by
    obtain ⟨x, hx, rfl⟩ := List.mem_map.1 hq
    exact Rat.not_lt.1 (h.1 x hx).2.1
  rw [← qs_take]
  exact lsum_fits (List.take_sublist k _) h1 h.2.2
theorem rowP.ok {l : List RF} {n : Nat} (h : rowP l n) : ∀ x ∈ l, x.ok := fun x hx => (h.1 x hx).1
/-- Cmp of canonical fractions. -/
theorem cmp_can (va vb : Value) (p q : Rat) (w : World) (ha : FracC w va p) (hb : FracC w vb q) (hp : fits p) (hq : fits q) :
    Calls Tryz.prog 130 #[va, vb] w fun en w' => en = .returned (.tuple #[.int .i64 (cmpR p q), .int .i64 0]) ∧ Below w.heap.size w w' := by
  have h := cmp_frac va vb _ _ _ _ _ _ w ha.raw hb.raw (fits_okN hp) (fits_okN hq)
  rw [fq_self, fq_self] at h
  exact h
def NotV (c : RC) : Prop := ¬ validP c
set_option maxHeartbeats 1600000 in
theorem valid_false1 (va : Value) (c : RC) (w : World) (ha : ChainN w va c) (h : c.start.length < 1 ∨ 128 < c.start.length ∨ c.lost.length ≠ c.start.length ∨ c.rates.length ≠ c.start.length ∨ ¬ rowP c.start c.start.length) :
    Calls Tryz.prog 68 #[va] w fun e w' => e = .returned (.bool false) ∧ Below w.heap.size w w' := by
  obtain ⟨rv, sv, lv, rfl, hr, hs, hl⟩ := ha
  obtain ⟨ra, rn, rk, rfl, r1, r2, r3⟩ := hr.sl
  obtain ⟨sa, sn, sk, rfl, s1, s2, s3⟩ := hs.sl
  obtain ⟨la, ln, lk, rfl, l1, l2, l3⟩ := CellsV.sl hl
  have hrl : rn = c.rates.length := hr.len
  have hsl : sn = c.start.length := hs.len
  have hll : ln = c.lost.length := hl.len
  subst hrl hsl hll
  unfold maxLen at r2 s2 l2
  have hbx := below_alloc w (.cells #[.slice ra c.rates.length rk, .slice sa c.start.length sk, .slice la c.lost.length lk] 28)
  have hs' := hs.below hbx
  generalize c.start.length = n at *
  generalize c.lost.length = nl at *
  generalize c.rates.length = nr at *
  by_cases h1 : n < 1
  · go_enter Tryz.func68, Tryz.ntmps68
    go_wp2_with fail
    go_ret
    exact ⟨rfl, hbx⟩
  · by_cases h2 : 128 < n
    · go_enter Tryz.func68, Tryz.ntmps68
      go_wp2_with fail
      go_ret
      exact ⟨rfl, hbx⟩
    · by_cases h3 : nl = n
      · by_cases h4 : nr = n
        · have h5 : ¬ rowP c.start n := by
            rcases h with h | h | h | h | h
            · omega
            · omega
            · omega
            · omega
            · exact h
          have H5 := Lib.hid h5
          subst h3 h4
          clear h h5
          go_enter Tryz.func68, Tryz.ntmps68
          go_wp2_with (go_at_call 144; (with_reducible refine (row_any _ c.start nr _ hs' (by omega)).mono ?_); rintro e w1 ⟨rfl, hb1⟩; rw [decide_eq_false H5.out])
          go_ret
          exact ⟨rfl, below_then hbx hb1⟩
        · have h4b : (((nr : Nat) : Int) != (n : Nat)) = true := by simp; omega
          subst h3
          clear h
          go_enter Tryz.func68, Tryz.ntmps68
          go_wp2_with fail
          go_ret
          exact ⟨rfl, hbx⟩
      · have h3b : (((nl : Nat) : Int) != (n : Nat)) = true := by simp; omega
        clear h
        go_enter Tryz.func68, Tryz.ntmps68
        go_wp2_with fail
        go_ret
        exact ⟨rfl, hbx⟩

@[go_sem] theorem slen_slice (a : Option Addr) (n c : Nat) : slen (.slice a n c) = n := rfl
theorem RF.num_zero {x : RF} (h : x.ok) : x.q.num = 0 ↔ x.n = 0 := by
  have e : x.q.num.natAbs = x.n / Nat.gcd x.n x.d := fq_natAbs _ _ _ h.1
  constructor
  · intro h0
    have h1 : x.n / Nat.gcd x.n x.d = 0 := by rw [← e, h0]; rfl
    rcases Nat.eq_zero_or_pos x.n with h2 | h2
    · exact h2
    · have := Nat.div_pos (Nat.le_of_dvd h2 (Nat.gcd_dvd_left x.n x.d)) (Nat.gcd_pos_of_pos_left _ h2)
      omega
  · intro h0
    rw [h0, Nat.zero_div] at e
    omega
theorem RF.above_pos {x : RF} (h : x.ok) (h0 : ¬ x.q < 0) (hn : x.q.num ≠ 0) : (!x.neg && !decide (x.n = 0)) = true := by
  have hn2 : x.n ≠ 0 := fun e => hn ((RF.num_zero h).2 e)
  have e : decide (x.q < 0) = (x.neg && decide (0 < x.n / Nat.gcd x.n x.d)) := fq_neg _ _ _ h.1
  have h1 : 0 < x.n / Nat.gcd x.n x.d := Nat.div_pos (Nat.le_of_dvd (Nat.pos_of_ne_zero hn2) (Nat.gcd_dvd_left _ _)) (Nat.gcd_pos_of_pos_left _ (Nat.pos_of_ne_zero hn2))
  rw [decide_eq_false h0, decide_eq_true h1, Bool.and_true] at e
  rw [← e, decide_eq_false hn2]; rfl
theorem RF.above_zero {x : RF} (h : x.ok) (hn : x.q.num = 0) : (!x.neg && !decide (x.n = 0)) = false := by
  rw [decide_eq_true ((RF.num_zero h).1 hn)]; simp
/-- Whether a chain is valid. -/
def RValid (w0 : World) (c : RC) (e : Ending) (w : World) : Prop := (∃ b, e = .returned (.bool b) ∧ (b = true ↔ validP c)) ∧ Below w0.heap.size w0 w
theorem RValid.no {w0 w : World} {c : RC} (h : ¬ validP c) (hb : Below w0.heap.size w0 w) : RValid w0 c (.returned (.bool false)) w := ⟨⟨false, rfl, by simp [h]⟩, hb⟩
end Go.Proofs.YtlpdkbmmbdfoiaaGreat
