/-
  package linear: weight, vector, Shape, square.
  Ahead of it: Weights of lists of fractions: what the walks of weight functions share.
-/
import Derived.Test.YtbhkibilnmoljaaQGn
namespace Go.Proofs.Ytbhkibilnmoljaa
set_option linter.unusedVariables false
set_option linter.unusedSimpArgs false
open Go.RowKit

theorem RF.fits {x : RF} (h : x.ok) : fits x.q := fits_ok _ h
theorem wt_le {q : Rat} (h : fits q) : wt q ≤ 8192 := by
  obtain ⟨h1, h2⟩ := h
  unfold wt
  split <;> (try split) <;> omega
theorem wts_le (l : List RF) (h : ∀ x ∈ l, x.ok) : wts (qs l) ≤ 8192 * l.length := by
  induction l with
  | nil => simp [qs, wts]
  | cons x l ih =>
    have h1 := ih (fun y hy => h y (by simp [hy]))
    have h2 := wt_le (RF.fits (h x (by simp)))
    have e : wts (qs (x :: l)) = wt x.q + wts (qs l) := by unfold qs; rw [List.map_cons, wts_cons]
    rw [e, List.length_cons]; omega
theorem wts_qs (l : List RF) (k : Nat) (h : k < l.length) : wts (qs (l.take (k + 1))) = wts (qs (l.take k)) + wt l[k].q := by
  rw [take_snoc l k h]; unfold qs; rw [List.map_append]; exact wts_snoc _ _
/-- The weight of rows. -/
def wtsM (m : List (List RF)) : Nat := (m.map fun l => wts (qs l)).sum
theorem wtsM_take (m : List (List RF)) (k : Nat) (h : k < m.length) : wtsM (m.take (k + 1)) = wtsM (m.take k) + wts (qs m[k]) := by
  unfold wtsM; rw [take_snoc m k h, List.map_append, List.sum_append]; simp only [List.map_cons, List.map_nil, List.sum_cons, List.sum_nil, Nat.add_zero]
theorem wtsM_le (m : List (List RF)) (h : ∀ l ∈ m, ∀ x ∈ l, x.ok) (hl : ∀ l ∈ m, l.length ≤ 65536) : wtsM m ≤ 536870912 * m.length := by
  induction m with
  | nil => simp [wtsM]
  | cons x m ih =>
    have h1 := ih (fun y hy => h y (by simp [hy])) (fun y hy => hl y (by simp [hy]))
    have h2 := wts_le x (h x (by simp))
    have h3 := hl x (by simp)
    have e : wtsM (x :: m) = wts (qs x) + wtsM m := by simp [wtsM]
    rw [e, List.length_cons]; omega
theorem wt_zero {q : Rat} (h : q.num = 0) : wt q = 0 := by unfold wt; rw [if_pos h]
theorem wt_int {q : Rat} (h : q.num ≠ 0) (hd : q.den = 1) : wt q = nbits q.num.natAbs := by unfold wt; rw [if_neg h, if_pos hd]; rfl
theorem wt_frac {q : Rat} (h : q.num ≠ 0) (hd : q.den ≠ 1) : wt q = nbits q.num.natAbs + nbits q.den := by unfold wt; rw [if_neg h, if_neg hd]

/-- Reduce, of a valid fraction. -/
theorem reduce_ok (va : Value) (x : RF) (w : World) (ha : FracN w va x.neg x.n x.d) (hx : x.ok) : Calls Try.prog 62 #[va] w (RF0 w x.q) :=
  (reduce_any va x.neg x.n x.d w ha).mono fun e w' h => by
    obtain ⟨v, er, rfl, h1, h2, _⟩ := h
    obtain ⟨rfl, h3⟩ := h2 hx
    exact ⟨v, rfl, h3, h1⟩
theorem wtsM_one (l : List RF) : wtsM [l] = wts (qs l) := by simp [wtsM]
end Go.Proofs.Ytbhkibilnmoljaa
namespace Go.Proofs.Ytbhkibilnmoljaa
set_option linter.unusedVariables false
set_option linter.unusedSimpArgs false
open Go.RowKit

set_option maxRecDepth 100000 in
set_option maxHeartbeats 3200000 in
theorem lweight_any (va : Value) (m : List (List RF)) (w : World) (ha : MatN w va m) (hok : ∀ l ∈ m, ∀ x ∈ l, x.ok) (hl : ∀ l ∈ m, l.length ≤ 65536) (hm : m.length ≤ 65536) :
    Calls Try.prog 34 #[va] w fun e w' => e = .returned (.int .i64 (wtsM m)) ∧ Below w.heap.size w w' := by
  have sa := ha.sl
  have la := ha.len
  have HOK := Lib.hid hok
  have HL := Lib.hid hl
  clear hok hl
  go_enter Try.func34, Try.ntmps34
  go_wp2_with fail
  go_loopw [3, 13] (fun u3 u13 wr => ∃ (k : Nat), k ≤ m.length ∧ u13 = .int .i64 k ∧ u3 = .int .i64 (wtsM (m.take k)) ∧ Below w.heap.size w wr) (fun _ u13 _ => m.length - (intOf u13).toNat)
  case atStart => exact ⟨0, Nat.zero_le _, rfl, rfl, Below.refl _ _⟩
  case round =>
    obtain ⟨k, hk, rfl, rfl, hb⟩ := hrel
    by_cases hkm : k < m.length
    · obtain ⟨rv, hrc, hrv⟩ := (ha.below hb).at' k hkm
      have hW : wtsM (m.take k) ≤ 536870912 * 65536 := by
        have h1 := wtsM_le (m.take k) (fun l h => HOK.out l (List.mem_of_mem_take h)) (fun l h => HL.out l (List.mem_of_mem_take h))
        rw [List.length_take] at h1; omega
      have hlk := HL.out m[k] (List.getElem_mem hkm)
      have HOKL := Lib.hid (HOK.out m[k] (List.getElem_mem hkm))
      have HTM := Lib.hid (wtsM_take m k hkm)
      generalize m[k]'hkm = l at *
      generalize wtsM (m.take k) = W0 at *
      have srv := hrv.sl
      have lrv := hrv.len
      obtain ⟨wo, rfl⟩ : ∃ wo : World, wo = wr := ⟨_, rfl⟩
      go_wp2_with fail
      go_loopw [3, 19] (fun u3 u19 wi => ∃ (j : Nat), j ≤ l.length ∧ u19 = .int .i64 j ∧ u3 = .int .i64 ((W0 + wts (qs (l.take j)) : Nat) : Int) ∧ Below wo.heap.size wo wi) (fun _ u19 _ => l.length - (intOf u19).toNat)
      case atStart => exact ⟨0, Nat.zero_le _, rfl, by simp [qs, wts], Below.refl _ _⟩
      case round =>
        obtain ⟨j, hj, rfl, rfl, hbi⟩ := hrel
        by_cases hjl : j < l.length
        · obtain ⟨xa, xb, c1, c2, c3, hxa, hxb⟩ := (hrv.below hbi).at' j hjl
          obtain ⟨c1a, c1l, c1k, rfl, _⟩ := hxa.slen.1
          obtain ⟨c2a, c2l, c2k, rfl, _⟩ := hxb.slen.1
          have HX := Lib.hid (HOKL.out l[j] (List.getElem_mem hjl))
          have HTS := Lib.hid (wts_qs l j hjl)
          have hWj : wts (qs (l.take j)) ≤ 8192 * 65536 := by
            have h1 := wts_le (l.take j) (fun x h => HOKL.out x (List.mem_of_mem_take h))
            rw [List.length_take] at h1; omega
          generalize l[j]'hjl = x at *
          generalize wts (qs (l.take j)) = W1 at *
          have hA : FracN (wr.alloc (.cells #[.bool x.neg, .slice c1a c1l c1k, .slice c2a c2l c2k] 30)) (.agg #[.bool x.neg, .slice c1a c1l c1k, .slice c2a c2l c2k]) x.neg x.n x.d := ⟨_, _, rfl, hxa.below (below_alloc _ _), hxb.below (below_alloc _ _)⟩
          have hb1 := below_then hbi (below_alloc wr (.cells #[.bool x.neg, .slice c1a c1l c1k, .slice c2a c2l c2k] 30))
          obtain ⟨hf1, hf2⟩ := RF.fits HX.out
          have hn0 := nbits_pos (n := x.q.num.natAbs)
          have hd1 := nbits_gt_one (n := x.q.den)
          have hd0 := x.q.den_nz
          obtain ⟨bn, hbn⟩ : ∃ bn, nbits x.q.num.natAbs = bn := ⟨_, rfl⟩
          obtain ⟨bd, hbd⟩ : ∃ bd, nbits x.q.den = bd := ⟨_, rfl⟩
          rw [hbn] at hf1 hn0
          rw [hbd] at hf2 hd1
          have HBN := Lib.hid hbn
          have HBD := Lib.hid hbd
          clear hbn hbd hxa hxb
          by_cases hz : x.q.num = 0
          · have hbz : bn = 0 := by have := hn0.1; omega
            have HW := Lib.hid (wt_zero hz)
            subst hbz
            clear hz hn0 hd1 hd0
            go_wp2_with (first
              | (go_at_call 62; (with_reducible refine (reduce_ok _ x _ hA HX.out).mono ?_); rintro e w7 ⟨v, rfl, hv, hb7⟩
                 obtain ⟨xa2, xb2, rfl, hxa2, hxb2⟩ := hv
                 obtain ⟨y1, y2, y3, rfl, _⟩ := hxa2.v.sl
                 obtain ⟨y4, y5, y6, rfl, _⟩ := hxb2.v.sl
                 have hxa3 := (hxa2.below (below_alloc w7 (.cells #[.bool (decide (x.q < 0)), .slice y1 y2 y3, .slice y4 y5 y6] 30))).nat
                 have hxb3 := (hxb2.below (below_alloc w7 (.cells #[.bool (decide (x.q < 0)), .slice y1 y2 y3, .slice y4 y5 y6] 30))).nat
                 have hb8 := below_then (below_then hb1 hb7) (below_alloc w7 (.cells #[.bool (decide (x.q < 0)), .slice y1 y2 y3, .slice y4 y5 y6] 30)))
              | (go_at_call 63; first
                 | ((with_reducible refine (bits_any _ _ _ hxa3).mono ?_); rintro e w' ⟨rfl, rfl⟩; rw [HBN.out])
                 | ((with_reducible refine (bits_any _ _ _ hxb3).mono ?_); rintro e w' ⟨rfl, rfl⟩; rw [HBD.out])))
            go_roundw
            case rel => exact ⟨j + 1, hjl, by go_num, by rw [HTS.out, HW.out]; go_num, hb8⟩
            case measure => simp [intOf]; omega
          · have hbz : 0 < bn := hn0.2 (by omega)
            have hbz2 : (((bn : Nat) : Int) == 0) = false := by simp; omega
            by_cases hd : x.q.den = 1
            · have HW := Lib.hid (wt_int hz hd)
              have hbd1 : ¬ 1 < bd := fun h => by have := hd1.1 h; omega
              clear hz hn0 hd1 hd0 hd
              go_wp2_with (first
                | (go_at_call 62; (with_reducible refine (reduce_ok _ x _ hA HX.out).mono ?_); rintro e w7 ⟨v, rfl, hv, hb7⟩
                   obtain ⟨xa2, xb2, rfl, hxa2, hxb2⟩ := hv
                   obtain ⟨y1, y2, y3, rfl, _⟩ := hxa2.v.sl
                   obtain ⟨y4, y5, y6, rfl, _⟩ := hxb2.v.sl
                   have hxa3 := (hxa2.below (below_alloc w7 (.cells #[.bool (decide (x.q < 0)), .slice y1 y2 y3, .slice y4 y5 y6] 30))).nat
                   have hxb3 := (hxb2.below (below_alloc w7 (.cells #[.bool (decide (x.q < 0)), .slice y1 y2 y3, .slice y4 y5 y6] 30))).nat
                   have hb8 := below_then (below_then hb1 hb7) (below_alloc w7 (.cells #[.bool (decide (x.q < 0)), .slice y1 y2 y3, .slice y4 y5 y6] 30)))
                | (go_at_call 63; first
                   | ((with_reducible refine (bits_any _ _ _ hxa3).mono ?_); rintro e w' ⟨rfl, rfl⟩; rw [HBN.out])
                   | ((with_reducible refine (bits_any _ _ _ hxb3).mono ?_); rintro e w' ⟨rfl, rfl⟩; rw [HBD.out])))
              go_roundw
              case rel => exact ⟨j + 1, hjl, by go_num, by rw [HTS.out, HW.out, HBN.out]; go_num, hb8⟩
              case measure => simp [intOf]; omega
            · have HW := Lib.hid (wt_frac hz hd)
              have hbd1 : 1 < bd := hd1.2 (by omega)
              clear hz hn0 hd1 hd0 hd
              go_wp2_with (first
                | (go_at_call 62; (with_reducible refine (reduce_ok _ x _ hA HX.out).mono ?_); rintro e w7 ⟨v, rfl, hv, hb7⟩
                   obtain ⟨xa2, xb2, rfl, hxa2, hxb2⟩ := hv
                   obtain ⟨y1, y2, y3, rfl, _⟩ := hxa2.v.sl
                   obtain ⟨y4, y5, y6, rfl, _⟩ := hxb2.v.sl
                   have hxa3 := (hxa2.below (below_alloc w7 (.cells #[.bool (decide (x.q < 0)), .slice y1 y2 y3, .slice y4 y5 y6] 30))).nat
                   have hxb3 := (hxb2.below (below_alloc w7 (.cells #[.bool (decide (x.q < 0)), .slice y1 y2 y3, .slice y4 y5 y6] 30))).nat
                   have hb8 := below_then (below_then hb1 hb7) (below_alloc w7 (.cells #[.bool (decide (x.q < 0)), .slice y1 y2 y3, .slice y4 y5 y6] 30)))
                | (go_at_call 63; first
                   | ((with_reducible refine (bits_any _ _ _ hxa3).mono ?_); rintro e w' ⟨rfl, rfl⟩; rw [HBN.out])
                   | ((with_reducible refine (bits_any _ _ _ hxb3).mono ?_); rintro e w' ⟨rfl, rfl⟩; rw [HBD.out])))
              go_roundw
              case rel => exact ⟨j + 1, hjl, by go_num, by rw [HTS.out, HW.out, HBN.out, HBD.out]; go_num, hb8⟩
              case measure => simp [intOf]; omega
        · obtain rfl : j = l.length := by omega
          rw [List.take_length]
          go_wp2_with fail
          go_roundw
          case rel => exact ⟨k + 1, hkm, by go_num, by rw [HTM.out], hb.trans (hbi.mono hb.size)⟩
          case measure => simp [intOf]; omega
    · obtain rfl : k = m.length := by omega
      rw [List.take_length]
      go_wp2_with fail
      go_ret
      exact ⟨rfl, hb⟩


/-- A vector of n valid fractions. -/
def vecP (l : List RF) (n : Nat) : Prop := (∀ x ∈ l, x.ok) ∧ l.length = n
instance (l : List RF) (n : Nat) : Decidable (vecP l n) := inferInstanceAs (Decidable (_ ∧ _))
set_option maxRecDepth 100000 in
set_option maxHeartbeats 3200000 in
theorem lvector_any (va : Value) (l : List RF) (n : Nat) (w : World) (ha : FracsN w va l) (hn : n ≤ 65536) :
    Calls Try.prog 47 #[va, .int .i64 n] w fun e w' => e = .returned (.bool (decide (vecP l n))) ∧ Below w.heap.size w w' := by
  have sa := ha.sl
  have la := ha.len
  have hle := sa.le
  rw [la] at hle
  have hlb : l.length ≤ 9223372036854775807 := by omega
  clear hle
  go_enter Try.func47, Try.ntmps47
  go_wp2_with fail
  go_loopw [9] (fun u9 wr => ∃ (k : Nat), k ≤ l.length ∧ u9 = .int .i64 k ∧ (∀ x ∈ l.take k, x.ok) ∧ Below w.heap.size w wr) (fun u9 _ => l.length - (intOf u9).toNat)
  case atStart => exact ⟨0, Nat.zero_le _, rfl, fun x h => by simp at h, Below.refl _ _⟩
  case round =>
    obtain ⟨k, hk, rfl, hok, hb⟩ := hrel
    have HOK := Lib.hid hok
    clear hok
    by_cases hkl : k < l.length
    · obtain ⟨xa, xb, c1, c2, c3, hxa, hxb⟩ := (ha.below hb).at' k hkl
      obtain ⟨c1a, c1l, c1k, rfl, _⟩ := hxa.slen.1
      obtain ⟨c2a, c2l, c2k, rfl, _⟩ := hxb.slen.1
      obtain ⟨x, hx⟩ : ∃ x, l[k]'hkl = x := ⟨_, rfl⟩
      rw [hx] at c1 hxa hxb
      have HMEM : Hid (x ∈ l) := Lib.hid (by rw [← hx]; exact List.getElem_mem hkl)
      have HTK : Hid (l.take (k + 1) = l.take k ++ [x]) := Lib.hid (by rw [take_snoc l k hkl, hx])
      have hA : FracN (wr.alloc (.cells #[.bool x.neg, .slice c1a c1l c1k, .slice c2a c2l c2k] 30)) (.agg #[.bool x.neg, .slice c1a c1l c1k, .slice c2a c2l c2k]) x.neg x.n x.d := ⟨_, _, rfl, hxa.below (below_alloc _ _), hxb.below (below_alloc _ _)⟩
      have hb1 := below_then hb (below_alloc wr (.cells #[.bool x.neg, .slice c1a c1l c1k, .slice c2a c2l c2k] 30))
      clear hxa hxb hx
      by_cases hko : x.ok
      · have HX : Hid (okN x.n x.d) := Lib.hid hko
        clear hko
        go_wp2_with (go_at_call 77; (with_reducible refine (valid_ok _ x.neg x.n x.d _ hA HX.out).mono ?_); rintro e w7 ⟨rfl, hb7⟩)
        go_roundw
        case rel => exact ⟨k + 1, hkl, by go_num, fun y hy => by
          rw [HTK.out] at hy
          rcases List.mem_append.1 hy with h | h
          · exact HOK.out y h
          · have : y = x := by simpa using h
            rw [this]; exact HX.out, below_then hb1 hb7⟩
        case measure => simp [intOf]; omega
      · have HX : Hid (¬ okN x.n x.d) := Lib.hid hko
        have HBAD : Hid (¬ vecP l n) := Lib.hid (fun h => hko (h.1 x HMEM.out))
        clear hko
        go_wp2_with (go_at_call 77; (with_reducible refine (valid_no _ x.neg x.n x.d _ hA HX.out).mono ?_); rintro e w7 ⟨rfl, hb7⟩)
        go_ret
        exact ⟨by rw [decide_eq_false HBAD.out]; rfl, below_then hb1 hb7⟩
    · obtain rfl : k = l.length := by omega
      have HD : Hid (decide (vecP l n) = decide (l.length = n)) := Lib.hid (by
        have h := HOK.out
        rw [List.take_length] at h
        by_cases h2 : l.length = n
        · rw [decide_eq_true h2, decide_eq_true (show vecP l n from ⟨h, h2⟩)]
        · rw [decide_eq_false h2, decide_eq_false (fun h3 => h2 h3.2)])
      go_wp2_with fail
      go_ret
      refine ⟨?_, hb⟩
      rw [HD.out]
      by_cases h2 : l.length = n
      · subst h2; simp
      · have h3 : ¬ ((l.length : Int) = (n : Int)) := by omega
        simp [h2, h3]
end Go.Proofs.Ytbhkibilnmoljaa
