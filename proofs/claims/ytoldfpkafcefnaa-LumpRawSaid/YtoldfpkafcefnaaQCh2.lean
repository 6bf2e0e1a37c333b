/-
  package chain: weight, row.
-/
import Derived.Test.YtoldfpkafcefnaaQCh1
namespace Go.Proofs.Ytoldfpkafcefnaa
set_option linter.unusedVariables false
set_option linter.unusedSimpArgs false
open Go.RowKit

theorem RF.fits {x : RF} (h : x.ok) : fits x.q := fits_ok _ h
theorem wt_le {q : Rat} (h : fits q) : wt q ≤ 8192 := by
  obtain ⟨h1, h2⟩ := h
  unfold wt
  split <;> (try split) <;> omega
theorem wts_le (l : List RF) (h : ∀ x ∈ l, x.ok) : wts (qs l) ≤ 8192 * l.length := by
  induction l with
  | nil => simp [qs, wts]
  | cons x l ih =>
    have h1 := ih (fun y hy => h y (by simp [hy]))
    have h2 := wt_le (RF.fits (h x (by simp)))
    have e : wts (qs (x :: l)) = wt x.q + wts (qs l) := by unfold qs; rw [List.map_cons, wts_cons]
    rw [e, List.length_cons]; omega
theorem wts_qs (l : List RF) (k : Nat) (h : k < l.length) : wts (qs (l.take (k + 1))) = wts (qs (l.take k)) + wt l[k].q := by
  rw [take_snoc l k h]; unfold qs; rw [List.map_append]; exact wts_snoc _ _
/-- The weight of rows. -/
def wtsM (m : List (List RF)) : Nat := (m.map fun l => wts (qs l)).sum
theorem wtsM_take (m : List (List RF)) (k : Nat) (h : k < m.length) : wtsM (m.take (k + 1)) = wtsM (m.take k) + wts (qs m[k]) := by
  unfold wtsM; rw [take_snoc m k h, List.map_append, List.sum_append]; simp only [List.map_cons, List.map_nil, List.sum_cons, List.sum_nil, Nat.add_zero]
theorem wtsM_le (m : List (List RF)) (h : ∀ l ∈ m, ∀ x ∈ l, x.ok) (hl : ∀ l ∈ m, l.length ≤ 65536) : wtsM m ≤ 536870912 * m.length := by
  induction m with
  | nil => simp [wtsM]
  | cons x m ih =>
    have h1 := ih (fun y hy => h y (by simp [hy])) (fun y hy => hl y (by simp [hy]))
    have h2 := wts_le x (h x (by simp))
    have h3 := hl x (by simp)
    have e : wtsM (x :: m) = wts (qs x) + wtsM m := by simp [wtsM]
    rw [e, List.length_cons]; omega
theorem wt_zero {q : Rat} (h : q.num = 0) : wt q = 0 := by unfold wt; rw [if_pos h]
theorem wt_int {q : Rat} (h : q.num ≠ 0) (hd : q.den = 1) : wt q = nbits q.num.natAbs := by unfold wt; rw [if_neg h, if_pos hd]; rfl
theorem wt_frac {q : Rat} (h : q.num ≠ 0) (hd : q.den ≠ 1) : wt q = nbits q.num.natAbs + nbits q.den := by unfold wt; rw [if_neg h, if_neg hd]

/-- Reduce, of a valid fraction. -/
theorem reduce_ok (va : Value) (x : RF) (w : World) (ha : FracN w va x.neg x.n x.d) (hx : x.ok) : Calls Try.prog 86 #[va] w (RF0 w x.q) :=
  (reduce_any va x.neg x.n x.d w ha).mono fun e w' h => by
    obtain ⟨v, er, rfl, h1, h2, _⟩ := h
    obtain ⟨rfl, h3⟩ := h2 hx
    exact ⟨v, rfl, h3, h1⟩
set_option maxRecDepth 100000 in
set_option maxHeartbeats 3200000 in
theorem weight_any (va : Value) (m : List (List RF)) (w : World) (ha : MatN w va m) (hok : ∀ l ∈ m, ∀ x ∈ l, x.ok) (hl : ∀ l ∈ m, l.length ≤ 65536) (hm : m.length ≤ 65536) :
    Calls Try.prog 59 #[va] w fun e w' => e = .returned (.int .i64 (wtsM m)) ∧ Below w.heap.size w w' := by
  have sa := ha.sl
  have la := ha.len
  have HOK := Lib.hid hok
  have HL := Lib.hid hl
  clear hok hl
  go_enter Try.func59, Try.ntmps59
  go_wp2_with fail
  go_loopw [3, 13] (fun u3 u13 wr => ∃ (k : Nat), k ≤ m.length ∧ u13 = .int .i64 k ∧ u3 = .int .i64 (wtsM (m.take k)) ∧ Below w.heap.size w wr) (fun _ u13 _ => m.length - (intOf u13).toNat)
  case atStart => exact ⟨0, Nat.zero_le _, rfl, rfl, Below.refl _ _⟩
  case round =>
    obtain ⟨k, hk, rfl, rfl, hb⟩ := hrel
    by_cases hkm : k < m.length
    · obtain ⟨rv, hrc, hrv⟩ := (ha.below hb).at' k hkm
      have hW : wtsM (m.take k) ≤ 536870912 * 65536 := by
        have h1 := wtsM_le (m.take k) (fun l h => HOK.out l (List.mem_of_mem_take h)) (fun l h => HL.out l (List.mem_of_mem_take h))
        rw [List.length_take] at h1; omega
      have hlk := HL.out m[k] (List.getElem_mem hkm)
      have HOKL := Lib.hid (HOK.out m[k] (List.getElem_mem hkm))
      have HTM := Lib.hid (wtsM_take m k hkm)
      generalize m[k]'hkm = l at *
      generalize wtsM (m.take k) = W0 at *
      have srv := hrv.sl
      have lrv := hrv.len
      obtain ⟨wo, rfl⟩ : ∃ wo : World, wo = wr := ⟨_, rfl⟩
      go_wp2_with fail
      go_loopw [3, 19] (fun u3 u19 wi => ∃ (j : Nat), j ≤ l.length ∧ u19 = .int .i64 j ∧ u3 = .int .i64 ((W0 + wts (qs (l.take j)) : Nat) : Int) ∧ Below wo.heap.size wo wi) (fun _ u19 _ => l.length - (intOf u19).toNat)
      case atStart => exact ⟨0, Nat.zero_le _, rfl, by simp [qs, wts], Below.refl _ _⟩
      case round =>
        obtain ⟨j, hj, rfl, rfl, hbi⟩ := hrel
        by_cases hjl : j < l.length
        · obtain ⟨xa, xb, c1, c2, c3, hxa, hxb⟩ := (hrv.below hbi).at' j hjl
          obtain ⟨c1a, c1l, c1k, rfl, _⟩ := hxa.slen.1
          obtain ⟨c2a, c2l, c2k, rfl, _⟩ := hxb.slen.1
          have HX := Lib.hid (HOKL.out l[j] (List.getElem_mem hjl))
          have HTS := Lib.hid (wts_qs l j hjl)
          have hWj : wts (qs (l.take j)) ≤ 8192 * 65536 := by
            have h1 := wts_le (l.take j) (fun x h => HOKL.out x (List.mem_of_mem_take h))
            rw [List.length_take] at h1; omega
          generalize l[j]'hjl = x at *
          generalize wts (qs (l.take j)) = W1 at *
          have hA : FracN (wr.alloc (.cells #[.bool x.neg, .slice c1a c1l c1k, .slice c2a c2l c2k] 50)) (.agg #[.bool x.neg, .slice c1a c1l c1k, .slice c2a c2l c2k]) x.neg x.n x.d := ⟨_, _, rfl, hxa.below (below_alloc _ _), hxb.below (below_alloc _ _)⟩
          have hb1 := below_then hbi (below_alloc wr (.cells #[.bool x.neg, .slice c1a c1l c1k, .slice c2a c2l c2k] 50))
          obtain ⟨hf1, hf2⟩ := RF.fits HX.out
          have hn0 := nbits_pos (n := x.q.num.natAbs)
          have hd1 := nbits_gt_one (n := x.q.den)
          have hd0 := x.q.den_nz
          obtain ⟨bn, hbn⟩ : ∃ bn, nbits x.q.num.natAbs = bn := ⟨_, rfl⟩
          obtain ⟨bd, hbd⟩ : ∃ bd, nbits x.q.den = bd := ⟨_, rfl⟩
          rw [hbn] at hf1 hn0
          rw [hbd] at hf2 hd1
          have HBN := Lib.hid hbn
          have HBD := Lib.hid hbd
          clear hbn hbd hxa hxb
          by_cases hz : x.q.num = 0
          · have hbz : bn = 0 := by have := hn0.1; omega
            have HW := Lib.hid (wt_zero hz)
            subst hbz
            clear hz hn0 hd1 hd0
            go_wp2_with (first
              | (go_at_call 86; (with_reducible refine (reduce_ok _ x _ hA HX.out).mono ?_); rintro e w7 ⟨v, rfl, hv, hb7⟩
                 obtain ⟨xa2, xb2, rfl, hxa2, hxb2⟩ := hv
                 obtain ⟨y1, y2, y3, rfl, _⟩ := hxa2.v.sl
                 obtain ⟨y4, y5, y6, rfl, _⟩ := hxb2.v.sl
                 have hxa3 := (hxa2.below (below_alloc w7 (.cells #[.bool (decide (x.q < 0)), .slice y1 y2 y3, .slice y4 y5 y6] 50))).nat
                 have hxb3 := (hxb2.below (below_alloc w7 (.cells #[.bool (decide (x.q < 0)), .slice y1 y2 y3, .slice y4 y5 y6] 50))).nat
                 have hb8 := below_then (below_then hb1 hb7) (below_alloc w7 (.cells #[.bool (decide (x.q < 0)), .slice y1 y2 y3, .slice y4 y5 y6] 50)))
              | (go_at_call 65; first
                 | ((with_reducible refine (bits_any _ _ _ hxa3).mono ?_); rintro e w' ⟨rfl, rfl⟩; rw [HBN.out])
                 | ((with_reducible refine (bits_any _ _ _ hxb3).mono ?_); rintro e w' ⟨rfl, rfl⟩; rw [HBD.out])))
            go_roundw
            case rel => exact ⟨j + 1, hjl, by go_num, by rw [HTS.out, HW.out]; go_num, hb8⟩
            case measure => simp [intOf]; omega
          · have hbz : 0 < bn := hn0.2 (by omega)
            have hbz2 : (((bn : Nat) : Int) == 0) = false := by simp; omega
            by_cases hd : x.q.den = 1
            · have HW := Lib.hid (wt_int hz hd)
              have hbd1 : ¬ 1 < bd := fun h => by have := hd1.1 h; omega
              clear hz hn0 hd1 hd0 hd
              go_wp2_with (first
                | (go_at_call 86; (with_reducible refine (reduce_ok _ x _ hA HX.out).mono ?_); rintro e w7 ⟨v, rfl, hv, hb7⟩
                   obtain ⟨xa2, xb2, rfl, hxa2, hxb2⟩ := hv
                   obtain ⟨y1, y2, y3, rfl, _⟩ := hxa2.v.sl
                   obtain ⟨y4, y5, y6, rfl, _⟩ := hxb2.v.sl
                   have hxa3 := (hxa2.below (below_alloc w7 (.cells #[.bool (decide (x.q < 0)), .slice y1 y2 y3, .slice y4 y5 y6] 50))).nat
                   have hxb3 := (hxb2.below (below_alloc w7 (.cells #[.bool (decide (x.q < 0)), .slice y1 y2 y3, .slice y4 y5 y6] 50))).nat
                   have hb8 := below_then (below_then hb1 hb7) (below_alloc w7 (.cells #[.bool (decide (x.q < 0)), .slice y1 y2 y3, .slice y4 y5 y6] 50)))
                | (go_at_call 65; first
                   | ((with_reducible refine (bits_any _ _ _ hxa3).mono ?_); rintro e w' ⟨rfl, rfl⟩; rw [HBN.out])
                   | ((with_reducible refine (bits_any _ _ _ hxb3).mono ?_); rintro e w' ⟨rfl, rfl⟩; rw [HBD.out])))
              go_roundw
              case rel => exact ⟨j + 1, hjl, by go_num, by rw [HTS.out, HW.out, HBN.out]; go_num, hb8⟩
              case measure => simp [intOf]; omega
            · have HW := Lib.hid (wt_frac hz hd)
              have hbd1 : 1 < bd := hd1.2 (by omega)
              clear hz hn0 hd1 hd0 hd
              go_wp2_with (first
                | (go_at_call 86; (with_reducible refine (reduce_ok _ x _ hA HX.out).mono ?_); rintro e w7 ⟨v, rfl, hv, hb7⟩
                   obtain ⟨xa2, xb2, rfl, hxa2, hxb2⟩ := hv
                   obtain ⟨y1, y2, y3, rfl, _⟩ := hxa2.v.sl
                   obtain ⟨y4, y5, y6, rfl, _⟩ := hxb2.v.sl
                   have hxa3 := (hxa2.below (below_alloc w7 (.cells #[.bool (decide (x.q < 0)), .slice y1 y2 y3, .slice y4 y5 y6] 50))).nat
                   have hxb3 := (hxb2.below (below_alloc w7 (.cells #[.bool (decide (x.q < 0)), .slice y1 y2 y3, .slice y4 y5 y6] 50))).nat
                   have hb8 := below_then (below_then hb1 hb7) (below_alloc w7 (.cells #[.bool (decide (x.q < 0)), .slice y1 y2 y3, .slice y4 y5 y6] 50)))
                | (go_at_call 65; first
                   | ((with_reducible refine (bits_any _ _ _ hxa3).mono ?_); rintro e w' ⟨rfl, rfl⟩; rw [HBN.out])
                   | ((with_reducible refine (bits_any _ _ _ hxb3).mono ?_); rintro e w' ⟨rfl, rfl⟩; rw [HBD.out])))
              go_roundw
              case rel => exact ⟨j + 1, hjl, by go_num, by rw [HTS.out, HW.out, HBN.out, HBD.out]; go_num, hb8⟩
              case measure => simp [intOf]; omega
        · obtain rfl : j = l.length := by omega
          rw [List.take_length]
          go_wp2_with fail
          go_roundw
          case rel => exact ⟨k + 1, hkm, by go_num, by rw [HTM.out], hb.trans (hbi.mono hb.size)⟩
          case measure => simp [intOf]; omega
    · obtain rfl : k = m.length := by omega
      rw [List.take_length]
      go_wp2_with fail
      go_ret
      exact ⟨rfl, hb⟩

/-- A fraction that a chain may have. -/
def plainP (x : RF) : Prop := x.ok ∧ ¬ x.q < 0 ∧ nlen x.q.num.natAbs ≤ 4 ∧ nlen x.q.den ≤ 4
instance (x : RF) : Decidable (plainP x) := inferInstanceAs (Decidable (_ ∧ _ ∧ _ ∧ _))
/-- A row of n fractions that a chain may have. -/
def rowP (l : List RF) (n : Nat) : Prop := (∀ x ∈ l, plainP x) ∧ l.length = n ∧ wts (qs l) ≤ 3800
instance (l : List RF) (n : Nat) : Decidable (rowP l n) := inferInstanceAs (Decidable (_ ∧ _ ∧ _))
theorem wtsM_one (l : List RF) : wtsM [l] = wts (qs l) := by simp [wtsM]
set_option maxRecDepth 100000 in
set_option maxHeartbeats 3200000 in
theorem row_any (va : Value) (l : List RF) (n : Nat) (w : World) (ha : FracsN w va l) (hn : n ≤ 65536) :
    Calls Try.prog 57 #[va, .int .i64 n] w fun e w' => e = .returned (.bool (decide (rowP l n))) ∧ Below w.heap.size w w' := by
  have sa := ha.sl
  have la := ha.len
  have hle := sa.le
  rw [la] at hle
  have hlb : l.length ≤ 9223372036854775807 := by omega
  clear hle
  go_enter Try.func57, Try.ntmps57
  go_wp2_with fail
  go_loopw [11] (fun u11 wr => ∃ (k : Nat), k ≤ l.length ∧ u11 = .int .i64 k ∧ (∀ x ∈ l.take k, plainP x) ∧ Below w.heap.size w wr) (fun u11 _ => l.length - (intOf u11).toNat)
  case atStart => exact ⟨0, Nat.zero_le _, rfl, by simp, Below.refl _ _⟩
  case round =>
    obtain ⟨k, hk, rfl, hpl, hb⟩ := hrel
    have HPL := Lib.hid hpl
    clear hpl
    by_cases hkl : k < l.length
    · obtain ⟨xa, xb, c1, c2, c3, hxa, hxb⟩ := (ha.below hb).at' k hkl
      obtain ⟨c1a, c1l, c1k, rfl, _⟩ := hxa.slen.1
      obtain ⟨c2a, c2l, c2k, rfl, _⟩ := hxb.slen.1
      have HBADx : Hid (¬ plainP l[k] → ¬ rowP l n) := Lib.hid (fun h h' => h (h'.1 _ (List.getElem_mem hkl)))
      have HNEXT : Hid (plainP l[k] → ∀ x ∈ l.take (k + 1), plainP x) := Lib.hid (fun h x hx => by
        rw [take_snoc l k hkl, List.mem_append, List.mem_singleton] at hx
        rcases hx with hx | rfl
        · exact HPL.out x hx
        · exact h)
      generalize l[k]'hkl = x at *
      have hA : FracN (wr.alloc (.cells #[.bool x.neg, .slice c1a c1l c1k, .slice c2a c2l c2k] 50)) (.agg #[.bool x.neg, .slice c1a c1l c1k, .slice c2a c2l c2k]) x.neg x.n x.d := ⟨_, _, rfl, hxa.below (below_alloc _ _), hxb.below (below_alloc _ _)⟩
      have hb1 := below_then hb (below_alloc wr (.cells #[.bool x.neg, .slice c1a c1l c1k, .slice c2a c2l c2k] 50))
      clear hxa hxb
      by_cases hx : x.ok
      · have HX := Lib.hid hx
        clear hx
        by_cases h1 : x.q < 0
        · have HBAD := Lib.hid (HBADx.out (fun h => h.2.1 h1))
          have hd1 : decide (x.q < 0) = true := decide_eq_true h1
          clear h1
          go_wp2_with (go_at_call 86; (with_reducible refine (reduce_ok _ x _ hA HX.out).mono ?_); rintro e w7 ⟨v, rfl, hv, hb7⟩
                       obtain ⟨xa2, xb2, rfl, hxa2, hxb2⟩ := hv
                       have z1 : slen xa2 = nlen x.q.num.natAbs := hxa2.v.len
                       have z2 : slen xb2 = nlen x.q.den := hxb2.v.len
                       obtain ⟨y1, y2, y3, rfl, _⟩ := hxa2.v.sl
                       obtain ⟨y4, y5, y6, rfl, _⟩ := hxb2.v.sl
                       have z3 : y2 = nlen x.q.num.natAbs := z1
                       have z4 : y5 = nlen x.q.den := z2
                       subst z3 z4
                       clear z1 z2
                       have hb8 := fun o => below_then (below_then hb1 hb7) (below_alloc w7 o))
          go_ret
          exact ⟨by rw [decide_eq_false HBAD.out]; rfl, hb8 _⟩
        · have hd1 : decide (x.q < 0) = false := decide_eq_false h1
          have H1 := Lib.hid h1
          clear h1
          by_cases h2 : 4 < nlen x.q.num.natAbs
          · have HBAD := Lib.hid (HBADx.out (fun h => by have := h.2.2.1; omega))
            go_wp2_with (go_at_call 86; (with_reducible refine (reduce_ok _ x _ hA HX.out).mono ?_); rintro e w7 ⟨v, rfl, hv, hb7⟩
                         obtain ⟨xa2, xb2, rfl, hxa2, hxb2⟩ := hv
                         have z1 : slen xa2 = nlen x.q.num.natAbs := hxa2.v.len
                         have z2 : slen xb2 = nlen x.q.den := hxb2.v.len
                         obtain ⟨y1, y2, y3, rfl, _⟩ := hxa2.v.sl
                         obtain ⟨y4, y5, y6, rfl, _⟩ := hxb2.v.sl
                         have z3 : y2 = nlen x.q.num.natAbs := z1
                         have z4 : y5 = nlen x.q.den := z2
                         subst z3 z4
                         clear z1 z2
                         have hb8 := fun o => below_then (below_then hb1 hb7) (below_alloc w7 o))
            go_ret
            exact ⟨by rw [decide_eq_false HBAD.out]; rfl, hb8 _⟩
          · by_cases h3 : 4 < nlen x.q.den
            · have HBAD := Lib.hid (HBADx.out (fun h => by have := h.2.2.2; omega))
              go_wp2_with (go_at_call 86; (with_reducible refine (reduce_ok _ x _ hA HX.out).mono ?_); rintro e w7 ⟨v, rfl, hv, hb7⟩
                           obtain ⟨xa2, xb2, rfl, hxa2, hxb2⟩ := hv
                           have z1 : slen xa2 = nlen x.q.num.natAbs := hxa2.v.len
                           have z2 : slen xb2 = nlen x.q.den := hxb2.v.len
                           obtain ⟨y1, y2, y3, rfl, _⟩ := hxa2.v.sl
                           obtain ⟨y4, y5, y6, rfl, _⟩ := hxb2.v.sl
                           have z3 : y2 = nlen x.q.num.natAbs := z1
                           have z4 : y5 = nlen x.q.den := z2
                           subst z3 z4
                           clear z1 z2
                           have hb8 := fun o => below_then (below_then hb1 hb7) (below_alloc w7 o))
              go_ret
              exact ⟨by rw [decide_eq_false HBAD.out]; rfl, hb8 _⟩
            · have HGOOD := Lib.hid (HNEXT.out ⟨HX.out, H1.out, by omega, by omega⟩)
              go_wp2_with (go_at_call 86; (with_reducible refine (reduce_ok _ x _ hA HX.out).mono ?_); rintro e w7 ⟨v, rfl, hv, hb7⟩
                           obtain ⟨xa2, xb2, rfl, hxa2, hxb2⟩ := hv
                           have z1 : slen xa2 = nlen x.q.num.natAbs := hxa2.v.len
                           have z2 : slen xb2 = nlen x.q.den := hxb2.v.len
                           obtain ⟨y1, y2, y3, rfl, _⟩ := hxa2.v.sl
                           obtain ⟨y4, y5, y6, rfl, _⟩ := hxb2.v.sl
                           have z3 : y2 = nlen x.q.num.natAbs := z1
                           have z4 : y5 = nlen x.q.den := z2
                           subst z3 z4
                           clear z1 z2
                           have hb8 := fun o => below_then (below_then hb1 hb7) (below_alloc w7 o))
              go_roundw
              case rel => exact ⟨k + 1, hkl, by go_num, HGOOD.out, hb8 _⟩
              case measure => simp [intOf]; omega
      · have HX := Lib.hid hx
        have HBAD := Lib.hid (HBADx.out (fun h => hx h.1))
        clear hx
        go_wp2_with (go_at_call 86; (with_reducible refine (reduce_any _ x.neg x.n x.d _ hA).mono ?_); rintro e w7 ⟨v, er, rfl, hb7, _, hv⟩
                     obtain ⟨rfl, hvz⟩ := hv HX.out
                     have hvz2 : v = .agg #[.bool false, .slice none 0 0, .slice none 0 0] := hvz
                     clear hvz
                     subst hvz2
                     have hb8 := fun o => below_then (below_then hb1 hb7) (below_alloc w7 o))
        go_ret
        exact ⟨by rw [decide_eq_false HBAD.out]; rfl, hb8 _⟩
    · obtain rfl : k = l.length := by omega
      have hpl := HPL.out
      rw [List.take_length] at hpl
      by_cases hln : l.length = n
      · have hlb2 : l.length ≤ 65536 := by omega
        obtain ⟨av, al, ak, rfl, _⟩ := ha.sl
        have e9 : al = l.length := la
        subst e9
        have HD : Hid (decide (rowP l n) = decide (((wts (qs l) : Nat) : Int) ≤ 3800)) := Lib.hid (by
          by_cases h : wts (qs l) ≤ 3800
          · rw [decide_eq_true (show rowP l n from ⟨hpl, hln, h⟩), decide_eq_true (by omega)]
          · rw [decide_eq_false (fun h' : rowP l n => h h'.2.2), decide_eq_false (by omega)])
        have HOK : Hid (∀ l' ∈ [l], ∀ x ∈ l', x.ok) := Lib.hid (fun l' h x hx => by simp at h; subst h; exact (hpl x hx).1)
        have HLL : Hid (∀ l' ∈ [l], l'.length ≤ 65536) := Lib.hid (fun l' h => by simp at h; subst h; exact hlb2)
        have HM : Hid (MatN (wr.alloc (.cells #[.slice av l.length ak] 24)) (.slice (some ⟨wr.heap.size, 0, none⟩) 1 1) [l]) := Lib.hid ⟨⟨_, 1, 1, rfl, Nat.le_refl _, by simp [maxLen], fun e => by cases e⟩, rfl, fun j hj => by
          have hj0 : j = 0 := by simp at hj; omega
          subst hj0
          exact ⟨_, by simp [ptr, base, Addr.add], (ha.below hb).below (below_alloc _ _)⟩⟩
        have hb2 := below_then hb (below_alloc wr (.cells #[.slice av l.length ak] 24))
        have hlnb : (((l.length : Nat) : Int) == (n : Nat)) = true := by simp [hln]
        have HW1 := Lib.hid (wtsM_one l)
        have HLEN : Hid ([l].length ≤ 65536) := Lib.hid (by simp)
        clear hpl hln
        go_wp2_with (go_at_call 59; (with_reducible refine (weight_any _ [l] _ HM.out HOK.out HLL.out HLEN.out).mono ?_); rintro e w3 ⟨rfl, hb3⟩; rw [HW1.out])
        go_ret
        exact ⟨by rw [HD.out]; rfl, below_then hb2 hb3⟩
      · have HBAD : Hid (¬ rowP l n) := Lib.hid (fun h => hln h.2.1)
        have hlnb : (((l.length : Nat) : Int) == (n : Nat)) = false := by simp; omega
        clear hln hpl
        go_wp2_with fail
        go_ret
        exact ⟨by rw [decide_eq_false HBAD.out]; rfl, hb⟩
end Go.Proofs.Ytoldfpkafcefnaa
