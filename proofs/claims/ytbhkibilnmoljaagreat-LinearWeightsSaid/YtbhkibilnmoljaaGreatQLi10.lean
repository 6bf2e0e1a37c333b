/-
  package linear: Rank; rows in the making.
  Ahead of it: Weights of lists of fractions: what the walks of weight functions share. package linear: weight, vector, Shape, square. package linear: Shape, square. package linear: square, Det, Rank, of matrices in canonical form that elimination keeps small.
-/
import Derived.Test.YtbhkibilnmoljaaGreatQGn
import Derived.Test.YtbhkibilnmoljaaGreatQLi8
namespace Go.Proofs.YtbhkibilnmoljaaGreat
set_option linter.unusedVariables false
set_option linter.unusedSimpArgs false
open Go.RowKit

theorem RF.fits {x : RF} (h : x.ok) : fits x.q := fits_ok _ h
theorem wt_le {q : Rat} (h : fits q) : wt q ≤ 8192 := by
  obtain ⟨h1, h2⟩ := h
  unfold wt
  split <;> (try split) <;> omega
theorem wts_le (l : List RF) (h : ∀ x ∈ l, x.ok) : wts (qs l) ≤ 8192 * l.length := by
  induction l with
  | nil => simp [qs, wts]
  | cons x l ih =>
    have h1 := ih (fun y hy => h y (by simp [hy]))
    have h2 := wt_le (RF.fits (h x (by simp)))
    have e : wts (qs (x :: l)) = wt x.q + wts (qs l) := by unfold qs; rw [List.map_cons, wts_cons]
    rw [e, List.length_cons]; omega
theorem wts_qs (l : List RF) (k : Nat) (h : k < l.length) : wts (qs (l.take (k + 1))) = wts (qs (l.take k)) + wt l[k].q := by
  rw [take_snoc l k h]; unfold qs; rw [List.map_append]; exact wts_snoc _ _
/-- The weight of rows. -/
def wtsM (m : List (List RF)) : Nat := (m.map fun l => wts (qs l)).sum
theorem wtsM_take (m : List (List RF)) (k : Nat) (h : k < m.length) : wtsM (m.take (k + 1)) = wtsM (m.take k) + wts (qs m[k]) := by
  unfold wtsM; rw [take_snoc m k h, List.map_append, List.sum_append]; simp only [List.map_cons, List.map_nil, List.sum_cons, List.sum_nil, Nat.add_zero]
theorem wtsM_le (m : List (List RF)) (h : ∀ l ∈ m, ∀ x ∈ l, x.ok) (hl : ∀ l ∈ m, l.length ≤ 65536) : wtsM m ≤ 536870912 * m.length := by
  induction m with
  | nil => simp [wtsM]
  | cons x m ih =>
    have h1 := ih (fun y hy => h y (by simp [hy])) (fun y hy => hl y (by simp [hy]))
    have h2 := wts_le x (h x (by simp))
    have h3 := hl x (by simp)
    have e : wtsM (x :: m) = wts (qs x) + wtsM m := by simp [wtsM]
    rw [e, List.length_cons]; omega
theorem wt_zero {q : Rat} (h : q.num = 0) : wt q = 0 := by unfold wt; rw [if_pos h]
theorem wt_int {q : Rat} (h : q.num ≠ 0) (hd : q.den = 1) : wt q = nbits q.num.natAbs := by unfold wt; rw [if_neg h, if_pos hd]; rfl
theorem wt_frac {q : Rat} (h : q.num ≠ 0) (hd : q.den ≠ 1) : wt q = nbits q.num.natAbs + nbits q.den := by unfold wt; rw [if_neg h, if_neg hd]

/-- Reduce, of a valid fraction. -/
theorem reduce_ok (va : Value) (x : RF) (w : World) (ha : FracN w va x.neg x.n x.d) (hx : x.ok) : Calls Tryz.prog 42 #[va] w (RF0 w x.q) :=
  (reduce_any va x.neg x.n x.d w ha).mono fun e w' h => by
    obtain ⟨v, er, rfl, h1, h2, _⟩ := h
    obtain ⟨rfl, h3⟩ := h2 hx
    exact ⟨v, rfl, h3, h1⟩
theorem wtsM_one (l : List RF) : wtsM [l] = wts (qs l) := by simp [wtsM]
end Go.Proofs.YtbhkibilnmoljaaGreat
namespace Go.Proofs.YtbhkibilnmoljaaGreat
set_option linter.unusedVariables false
set_option linter.unusedSimpArgs false
open Go.RowKit

set_option maxRecDepth 100000 in
set_option maxHeartbeats 3200000 in
theorem lweight_any (va : Value) (m : List (List RF)) (w : World) (ha : MatN w va m) (hok : ∀ l ∈ m, ∀ x ∈ l, x.ok) (hl : ∀ l ∈ m, l.length ≤ 65536) (hm : m.length ≤ 65536) :
    Calls Tryz.prog 19 #[va] w fun e w' => e = .returned (.int .i64 (wtsM m)) ∧ Below w.heap.size w w' := by
  have sa := ha.sl
  have la := ha.len
  have HOK := Lib.hid hok
  have HL := Lib.hid hl
  clear hok hl
  go_enter Tryz.func19, Tryz.ntmps19
  go_wp2_with fail
  go_loopw [3, 13] (fun u3 u13 wr => ∃ (k : Nat), k ≤ m.length ∧ u13 = .int .i64 k ∧ u3 = .int .i64 (wtsM (m.take k)) ∧ Below w.heap.size w wr) (fun _ u13 _ => m.length - (intOf u13).toNat)
  case atStart => exact ⟨0, Nat.zero_le _, rfl, rfl, Below.refl _ _⟩
  case round =>
    obtain ⟨k, hk, rfl, rfl, hb⟩ := hrel
    by_cases hkm : k < m.length
    · obtain ⟨rv, hrc, hrv⟩ := (ha.below hb).at' k hkm
      have hW : wtsM (m.take k) ≤ 536870912 * 65536 := by
        have h1 := wtsM_le (m.take k) (fun l h => HOK.out l (List.mem_of_mem_take h)) (fun l h => HL.out l (List.mem_of_mem_take h))
        rw [List.length_take] at h1; omega
      have hlk := HL.out m[k] (List.getElem_mem hkm)
      have HOKL := Lib.hid (HOK.out m[k] (List.getElem_mem hkm))
      have HTM := Lib.hid (wtsM_take m k hkm)
      generalize m[k]'hkm = l at *
      generalize wtsM (m.take k) = W0 at *
      have srv := hrv.sl
      have lrv := hrv.len
      obtain ⟨wo, rfl⟩ : ∃ wo : World, wo = wr := ⟨_, rfl⟩
      go_wp2_with fail
      go_loopw [3, 19] (fun u3 u19 wi => ∃ (j : Nat), j ≤ l.length ∧ u19 = .int .i64 j ∧ u3 = .int .i64 ((W0 + wts (qs (l.take j)) : Nat) : Int) ∧ Below wo.heap.size wo wi) (fun _ u19 _ => l.length - (intOf u19).toNat)
      case atStart => exact ⟨0, Nat.zero_le _, rfl, by simp [qs, wts], Below.refl _ _⟩
      case round =>
        obtain ⟨j, hj, rfl, rfl, hbi⟩ := hrel
        by_cases hjl : j < l.length
        · obtain ⟨xa, xb, c1, c2, c3, hxa, hxb⟩ := (hrv.below hbi).at' j hjl
          obtain ⟨c1a, c1l, c1k, rfl, _⟩ := hxa.slen.1
          obtain ⟨c2a, c2l, c2k, rfl, _⟩ := hxb.slen.1
          have HX := Lib.hid (HOKL.out l[j] (List.getElem_mem hjl))
          have HTS := Lib.hid (wts_qs l j hjl)
          have hWj : wts (qs (l.take j)) ≤ 8192 * 65536 := by
            have h1 := wts_le (l.take j) (fun x h => HOKL.out x (List.mem_of_mem_take h))
            rw [List.length_take] at h1; omega
          generalize l[j]'hjl = x at *
          generalize wts (qs (l.take j)) = W1 at *
          have hA : FracN (wr.alloc (.cells #[.bool x.neg, .slice c1a c1l c1k, .slice c2a c2l c2k] 25)) (.agg #[.bool x.neg, .slice c1a c1l c1k, .slice c2a c2l c2k]) x.neg x.n x.d := ⟨_, _, rfl, hxa.below (below_alloc _ _), hxb.below (below_alloc _ _)⟩
          have hb1 := below_then hbi (below_alloc wr (.cells #[.bool x.neg, .slice c1a c1l c1k, .slice c2a c2l c2k] 25))
          obtain ⟨hf1, hf2⟩ := RF.fits HX.out
          have hn0 := nbits_pos (n := x.q.num.natAbs)
          have hd1 := nbits_gt_one (n := x.q.den)
          have hd0 := x.q.den_nz
          obtain ⟨bn, hbn⟩ : ∃ bn, nbits x.q.num.natAbs = bn := ⟨_, rfl⟩
          obtain ⟨bd, hbd⟩ : ∃ bd, nbits x.q.den = bd := ⟨_, rfl⟩
          rw [hbn] at hf1 hn0
          rw [hbd] at hf2 hd1
          have HBN := Lib.hid hbn
          have HBD := Lib.hid hbd
          clear hbn hbd hxa hxb
          by_cases hz : x.q.num = 0
          · have hbz : bn = 0 := by have := hn0.1; omega
            have HW := Lib.hid (wt_zero hz)
            subst hbz
            clear hz hn0 hd1 hd0
            go_wp2_with (first
              | (go_at_call 42; (with_reducible refine (reduce_ok _ x _ hA HX.out).mono ?_); rintro e w7 ⟨v, rfl, hv, hb7⟩
                 obtain ⟨xa2, xb2, rfl, hxa2, hxb2⟩ := hv
                 obtain ⟨y1, y2, y3, rfl, _⟩ := hxa2.v.sl
                 obtain ⟨y4, y5, y6, rfl, _⟩ := hxb2.v.sl
                 have hxa3 := (hxa2.below (below_alloc w7 (.cells #[.bool (decide (x.q < 0)), .slice y1 y2 y3, .slice y4 y5 y6] 25))).nat
                 have hxb3 := (hxb2.below (below_alloc w7 (.cells #[.bool (decide (x.q < 0)), .slice y1 y2 y3, .slice y4 y5 y6] 25))).nat
                 have hb8 := below_then (below_then hb1 hb7) (below_alloc w7 (.cells #[.bool (decide (x.q < 0)), .slice y1 y2 y3, .slice y4 y5 y6] 25)))
              | (go_at_call 43; first
                 | ((with_reducible refine (bits_any _ _ _ hxa3).mono ?_); rintro e w' ⟨rfl, rfl⟩; rw [HBN.out])
                 | ((with_reducible refine (bits_any _ _ _ hxb3).mono ?_); rintro e w' ⟨rfl, rfl⟩; rw [HBD.out])))
            go_roundw
            case rel => exact ⟨j + 1, hjl, by go_num, by rw [HTS.out, HW.out]; go_num, hb8⟩
            case measure => simp [intOf]; omega
          · have hbz : 0 < bn := hn0.2 (by omega)
            have hbz2 : (((bn : Nat) : Int) == 0) = false := by simp; omega
            by_cases hd : x.q.den = 1
            · have HW := Lib.hid (wt_int hz hd)
              have hbd1 : ¬ 1 < bd := fun h => by have := hd1.1 h; omega
              clear hz hn0 hd1 hd0 hd
              go_wp2_with (first
                | (go_at_call 42; (with_reducible refine (reduce_ok _ x _ hA HX.out).mono ?_); rintro e w7 ⟨v, rfl, hv, hb7⟩
                   obtain ⟨xa2, xb2, rfl, hxa2, hxb2⟩ := hv
                   obtain ⟨y1, y2, y3, rfl, _⟩ := hxa2.v.sl
                   obtain ⟨y4, y5, y6, rfl, _⟩ := hxb2.v.sl
                   have hxa3 := (hxa2.below (below_alloc w7 (.cells #[.bool (decide (x.q < 0)), .slice y1 y2 y3, .slice y4 y5 y6] 25))).nat
                   have hxb3 := (hxb2.below (below_alloc w7 (.cells #[.bool (decide (x.q < 0)), .slice y1 y2 y3, .slice y4 y5 y6] 25))).nat
                   have hb8 := below_then (below_then hb1 hb7) (below_alloc w7 (.cells #[.bool (decide (x.q < 0)), .slice y1 y2 y3, .slice y4 y5 y6] 25)))
                | (go_at_call 43; first
                   | ((with_reducible refine (bits_any _ _ _ hxa3).mono ?_); rintro e w' ⟨rfl, rfl⟩; rw [HBN.out])
                   | ((with_reducible refine (bits_any _ _ _ hxb3).mono ?_); rintro e w' ⟨rfl, rfl⟩; rw [HBD.out])))
              go_roundw
              case rel => exact ⟨j + 1, hjl, by go_num, by rw [HTS.out, HW.out, HBN.out]; go_num, hb8⟩
              case measure => simp [intOf]; omega
            · have HW := Lib.hid (wt_frac hz hd)
              have hbd1 : 1 < bd := hd1.2 (by omega)
              clear hz hn0 hd1 hd0 hd
              go_wp2_with (first
                | (go_at_call 42; (with_reducible refine (reduce_ok _ x _ hA HX.out).mono ?_); rintro e w7 ⟨v, rfl, hv, hb7⟩
                   obtain ⟨xa2, xb2, rfl, hxa2, hxb2⟩ := hv
                   obtain ⟨y1, y2, y3, rfl, _⟩ := hxa2.v.sl
                   obtain ⟨y4, y5, y6, rfl, _⟩ := hxb2.v.sl
                   have hxa3 := (hxa2.below (below_alloc w7 (.cells #[.bool (decide (x.q < 0)), .slice y1 y2 y3, .slice y4 y5 y6] 25))).nat
                   have hxb3 := (hxb2.below (below_alloc w7 (.cells #[.bool (decide (x.q < 0)), .slice y1 y2 y3, .slice y4 y5 y6] 25))).nat
                   have hb8 := below_then (below_then hb1 hb7) (below_alloc w7 (.cells #[.bool (decide (x.q < 0)), .slice y1 y2 y3, .slice y4 y5 y6] 25)))
                | (go_at_call 43; first
                   | ((with_reducible refine (bits_any _ _ _ hxa3).mono ?_); rintro e w' ⟨rfl, rfl⟩; rw [HBN.out])
                   | ((with_reducible refine (bits_any _ _ _ hxb3).mono ?_); rintro e w' ⟨rfl, rfl⟩; rw [HBD.out])))
              go_roundw
              case rel => exact ⟨j + 1, hjl, by go_num, by rw [HTS.out, HW.out, HBN.out, HBD.out]; go_num, hb8⟩
              case measure => simp [intOf]; omega
        · obtain rfl : j = l.length := by omega
          rw [List.take_length]
          go_wp2_with fail
          go_roundw
          case rel => exact ⟨k + 1, hkm, by go_num, by rw [HTM.out], hb.trans (hbi.mono hb.size)⟩
          case measure => simp [intOf]; omega
    · obtain rfl : k = m.length := by omega
      rw [List.take_length]
      go_wp2_with fail
      go_ret
      exact ⟨rfl, hb⟩


/-- A vector of n valid fractions. -/
def vecP (l : List RF) (n : Nat) : Prop := (∀ x ∈ l, x.ok) ∧ l.length = n
instance (l : List RF) (n : Nat) : Decidable (vecP l n) := inferInstanceAs (Decidable (_ ∧ _))
set_option maxRecDepth 100000 in
set_option maxHeartbeats 3200000 in
theorem lvector_any (va : Value) (l : List RF) (n : Nat) (w : World) (ha : FracsN w va l) (hn : n ≤ 65536) :
    Calls Tryz.prog 18 #[va, .int .i64 n] w fun e w' => e = .returned (.bool (decide (vecP l n))) ∧ Below w.heap.size w w' := by
  have sa := ha.sl
  have la := ha.len
  have hle := sa.le
  rw [la] at hle
  have hlb : l.length ≤ 9223372036854775807 := by omega
  clear hle
  go_enter Tryz.func18, Tryz.ntmps18
  go_wp2_with fail
  go_loopw [9] (fun u9 wr => ∃ (k : Nat), k ≤ l.length ∧ u9 = .int .i64 k ∧ (∀ x ∈ l.take k, x.ok) ∧ Below w.heap.size w wr) (fun u9 _ => l.length - (intOf u9).toNat)
  case atStart => exact ⟨0, Nat.zero_le _, rfl, fun x h => by simp at h, Below.refl _ _⟩
  case round =>
    obtain ⟨k, hk, rfl, hok, hb⟩ := hrel
    have HOK := Lib.hid hok
    clear hok
    by_cases hkl : k < l.length
    · obtain ⟨xa, xb, c1, c2, c3, hxa, hxb⟩ := (ha.below hb).at' k hkl
      obtain ⟨c1a, c1l, c1k, rfl, _⟩ := hxa.slen.1
      obtain ⟨c2a, c2l, c2k, rfl, _⟩ := hxb.slen.1
      obtain ⟨x, hx⟩ : ∃ x, l[k]'hkl = x := ⟨_, rfl⟩
      rw [hx] at c1 hxa hxb
      have HMEM : Hid (x ∈ l) := Lib.hid (by rw [← hx]; exact List.getElem_mem hkl)
      have HTK : Hid (l.take (k + 1) = l.take k ++ [x]) := Lib.hid (by rw [take_snoc l k hkl, hx])
      have hA : FracN (wr.alloc (.cells #[.bool x.neg, .slice c1a c1l c1k, .slice c2a c2l c2k] 25)) (.agg #[.bool x.neg, .slice c1a c1l c1k, .slice c2a c2l c2k]) x.neg x.n x.d := ⟨_, _, rfl, hxa.below (below_alloc _ _), hxb.below (below_alloc _ _)⟩
      have hb1 := below_then hb (below_alloc wr (.cells #[.bool x.neg, .slice c1a c1l c1k, .slice c2a c2l c2k] 25))
      clear hxa hxb hx
      by_cases hko : x.ok
      · have HX : Hid (okN x.n x.d) := Lib.hid hko
        clear hko
        go_wp2_with (go_at_call 41; (with_reducible refine (valid_ok _ x.neg x.n x.d _ hA HX.out).mono ?_); rintro e w7 ⟨rfl, hb7⟩)
        go_roundw
        case rel => exact ⟨k + 1, hkl, by go_num, fun y hy => by
          rw [HTK.out] at hy
          rcases List.mem_append.1 hy with h | h
          · exact HOK.out y h
          · have : y = x := by simpa using h
            rw [this]; exact HX.out, below_then hb1 hb7⟩
        case measure => simp [intOf]; omega
      · have HX : Hid (¬ okN x.n x.d) := Lib.hid hko
        have HBAD : Hid (¬ vecP l n) := Lib.hid (fun h => hko (h.1 x HMEM.out))
        clear hko
        go_wp2_with (go_at_call 41; (with_reducible refine (valid_no _ x.neg x.n x.d _ hA HX.out).mono ?_); rintro e w7 ⟨rfl, hb7⟩)
        go_ret
        exact ⟨by rw [decide_eq_false HBAD.out]; rfl, below_then hb1 hb7⟩
    · obtain rfl : k = l.length := by omega
      have HD : Hid (decide (vecP l n) = decide (l.length = n)) := Lib.hid (by
        have h := HOK.out
        rw [List.take_length] at h
        by_cases h2 : l.length = n
        · rw [decide_eq_true h2, decide_eq_true (show vecP l n from ⟨h, h2⟩)]
        · rw [decide_eq_false h2, decide_eq_false (fun h3 => h2 h3.2)])
      go_wp2_with fail
      go_ret
      refine ⟨?_, hb⟩
      rw [HD.out]
      by_cases h2 : l.length = n
      · subst h2; simp
      · have h3 : ¬ ((l.length : Int) = (n : Int)) := by omega
        simp [h2, h3]
end Go.Proofs.YtbhkibilnmoljaaGreat
namespace Go.Proofs.YtbhkibilnmoljaaGreat
set_option linter.unusedVariables false
set_option linter.unusedSimpArgs false
open Go.RowKit

/-- A matrix. -/
def shapeP (m : List (List RF)) : Prop := 1 ≤ m.length ∧ m.length ≤ 24 ∧ 1 ≤ (m.headD []).length ∧ (m.headD []).length ≤ 24 ∧ ∀ l ∈ m, vecP l (m.headD []).length
instance (m : List (List RF)) : Decidable (shapeP m) := inferInstanceAs (Decidable (_ ∧ _ ∧ _ ∧ _ ∧ _))
/-- What Shape answers. -/
def RShape (w0 : World) (m : List (List RF)) (e : Ending) (w : World) : Prop :=
  e = .returned (if shapeP m then .tuple #[.int .i64 m.length, .int .i64 (m.headD []).length, .bool true] else .tuple #[.int .i64 0, .int .i64 0, .bool false]) ∧ Below w0.heap.size w0 w
set_option maxRecDepth 100000 in
set_option maxHeartbeats 3200000 in
theorem shape_any (va : Value) (m : List (List RF)) (w : World) (ha : MatN w va m) :
    Calls Tryz.prog 31 #[va] w (RShape w m) := by
  have sa := ha.sl
  have la := ha.len
  have hle := sa.le
  rw [la] at hle
  have hlb : m.length ≤ 9223372036854775807 := by omega
  clear hle
  by_cases h1 : m.length < 1
  · have HBAD : Hid (¬ shapeP m) := Lib.hid (fun h => by have := h.1; omega)
    go_enter Tryz.func31, Tryz.ntmps31
    go_wp2_with fail
    refine bodyPost_ret (v := .tuple #[.int .i64 0, .int .i64 0, .bool false]) (by simp [results, Tryz.results31, go_sem]) rfl ⟨?_, Below.refl _ _⟩
    rw [if_neg HBAD.out]
  · by_cases h2 : 24 < m.length
    · have HBAD : Hid (¬ shapeP m) := Lib.hid (fun h => by have := h.2.1; omega)
      go_enter Tryz.func31, Tryz.ntmps31
      go_wp2_with fail
      refine bodyPost_ret (v := .tuple #[.int .i64 0, .int .i64 0, .bool false]) (by simp [results, Tryz.results31, go_sem]) rfl ⟨?_, Below.refl _ _⟩
      rw [if_neg HBAD.out]
    · obtain ⟨r0, hc0, hr0⟩ := ha.at' 0 (by omega)
      have hd0 : m.headD [] = m[0]'(by omega) := by
        cases m with
        | nil => simp at h1
        | cons a m => rfl
      rw [← hd0] at hr0
      have sl0 := hr0.sl
      have ln0 := hr0.len
      obtain ⟨x, hx⟩ : ∃ x, m.headD [] = x := ⟨_, rfl⟩
      rw [hx] at hr0 ln0 hd0
      have HX := Lib.hid hx
      have i0 : 0 < m.length := by omega
      clear hd0 hr0 hx h1
      by_cases h3 : x.length < 1
      · have HBAD : Hid (¬ shapeP m) := Lib.hid (fun h => by have := h.2.2.1; rw [HX.out] at this; omega)
        go_enter Tryz.func31, Tryz.ntmps31
        go_wp2_with fail
        refine bodyPost_ret (v := .tuple #[.int .i64 0, .int .i64 0, .bool false]) (by simp [results, Tryz.results31, go_sem]) rfl ⟨?_, Below.refl _ _⟩
        rw [if_neg HBAD.out]
      · by_cases h4 : 24 < x.length
        · have HBAD : Hid (¬ shapeP m) := Lib.hid (fun h => by have := h.2.2.2.1; rw [HX.out] at this; omega)
          go_enter Tryz.func31, Tryz.ntmps31
          go_wp2_with fail
          refine bodyPost_ret (v := .tuple #[.int .i64 0, .int .i64 0, .bool false]) (by simp [results, Tryz.results31, go_sem]) rfl ⟨?_, Below.refl _ _⟩
          rw [if_neg HBAD.out]
        · go_enter Tryz.func31, Tryz.ntmps31
          go_wp2_with fail
          go_loopw [31] (fun u31 wr => ∃ (k : Nat), k ≤ m.length ∧ u31 = .int .i64 k ∧ (∀ l ∈ m.take k, vecP l x.length) ∧ Below w.heap.size w wr) (fun u31 _ => m.length - (intOf u31).toNat)
          case atStart => exact ⟨0, Nat.zero_le _, rfl, fun l h => by simp at h, Below.refl _ _⟩
          case round =>
            obtain ⟨k, hk, rfl, hok, hb⟩ := hrel
            have HOK := Lib.hid hok
            have hc0 := cell_below hb hc0
            clear hok
            by_cases hkl : k < m.length
            · obtain ⟨rk, hrc, hrk⟩ := (ha.below hb).at' k hkl
              obtain ⟨l, hl⟩ : ∃ l, m[k]'hkl = l := ⟨_, rfl⟩
              rw [hl] at hrk
              have HMEM : Hid (l ∈ m) := Lib.hid (by rw [← hl]; exact List.getElem_mem hkl)
              have HTK : Hid (m.take (k + 1) = m.take k ++ [l]) := Lib.hid (by rw [take_snoc m k hkl, hl])
              have i1 : x.length ≤ 65536 := by omega
              clear hl
              by_cases hv : vecP l x.length
              · have HV := Lib.hid hv
                clear hv
                go_wp2_with (go_at_call 18; (with_reducible refine (lvector_any _ l x.length _ hrk i1).mono ?_); rw [decide_eq_true HV.out]; rintro e w7 ⟨rfl, hb7⟩)
                go_roundw
                case rel => exact ⟨k + 1, hkl, by go_num, fun y hy => by
                  rw [HTK.out] at hy
                  rcases List.mem_append.1 hy with h | h
                  · exact HOK.out y h
                  · have : y = l := by simpa using h
                    rw [this]; exact HV.out, below_then hb hb7⟩
                case measure => simp [intOf]; omega
              · have HV := Lib.hid hv
                have HBAD : Hid (¬ shapeP m) := Lib.hid (fun h => hv (by have := h.2.2.2.2 l HMEM.out; rw [HX.out] at this; exact this))
                clear hv
                go_wp2_with (go_at_call 18; (with_reducible refine (lvector_any _ l x.length _ hrk i1).mono ?_); rw [decide_eq_false HV.out]; rintro e w7 ⟨rfl, hb7⟩)
                refine bodyPost_ret (v := .tuple #[.int .i64 0, .int .i64 0, .bool false]) (by simp [results, Tryz.results31, go_sem]) rfl ⟨?_, below_then hb hb7⟩
                rw [if_neg HBAD.out]
            · obtain rfl : k = m.length := by omega
              have HG : Hid (shapeP m) := Lib.hid (by
                have h := HOK.out
                rw [List.take_length] at h
                exact ⟨by omega, by omega, by rw [HX.out]; omega, by rw [HX.out]; omega, by rw [HX.out]; exact h⟩)
              go_wp2_with fail
              go_quiet (fail)
              have hbN := below_drewN (B := wr.heap.size) wr nq
              go_wp2_with fail
              refine bodyPost_ret (v := .tuple #[.int .i64 m.length, .int .i64 x.length, .bool true]) (by simp [results, Tryz.results31, go_sem]) rfl ⟨?_, below_then hb hbN⟩
              rw [if_pos HG.out, HX.out]
end Go.Proofs.YtbhkibilnmoljaaGreat
namespace Go.Proofs.YtbhkibilnmoljaaGreat
set_option linter.unusedVariables false
set_option linter.unusedSimpArgs false
open Go.RowKit

/-- A matrix as it is written. -/
def rawM (n m : Nat) (A : Mx) : List (List RF) := (List.range n).map fun i => (rowL m (A i)).map RF.of
theorem rawM_length (n m : Nat) (A : Mx) : (rawM n m A).length = n := by simp [rawM]
theorem rawM_get (n m : Nat) (A : Mx) (i : Nat) (h : i < (rawM n m A).length) : (rawM n m A)[i] = (rowL m (A i)).map RF.of := by simp [rawM]
theorem MatF.raw {w : World} {v : Value} {n m : Nat} {A : Mx} (h : MatF w v n m A) : MatN w v (rawM n m A) :=
  ⟨h.sl, by rw [h.len, rawM_length], fun j hj => by
    rw [rawM_length] at hj
    obtain ⟨r, h1, h2⟩ := h.row j hj
    exact ⟨r, h1, by rw [rawM_get]; exact h2.raw⟩⟩
/-- All elements fit. -/
def fitM (n m : Nat) (A : Mx) : Prop := ∀ i j, i < n → j < m → fits (A i j)
theorem rawM_mem {n m : Nat} {A : Mx} {l : List RF} (h : l ∈ rawM n m A) : ∃ i, i < n ∧ l = (rowL m (A i)).map RF.of := by
  obtain ⟨i, hi, rfl⟩ := List.mem_map.1 h
  exact ⟨i, List.mem_range.1 hi, rfl⟩
theorem rawM_ok {n m : Nat} {A : Mx} (hf : fitM n m A) : ∀ l ∈ rawM n m A, ∀ x ∈ l, x.ok := by
  intro l hl x hx
  obtain ⟨i, hi, rfl⟩ := rawM_mem hl
  obtain ⟨q, hq, rfl⟩ := List.mem_map.1 hx
  obtain ⟨j, hj, rfl⟩ := List.mem_map.1 hq
  exact RF.of_ok (hf i j hi (List.mem_range.1 hj))
theorem rawM_len {n m : Nat} {A : Mx} : ∀ l ∈ rawM n m A, l.length = m := by
  intro l hl
  obtain ⟨i, hi, rfl⟩ := rawM_mem hl
  rw [List.length_map, rowL_length]
theorem rawM_head {n m : Nat} {A : Mx} (hn : 1 ≤ n) : ((rawM n m A).headD []).length = m := by
  cases h : rawM n m A with
  | nil => have := rawM_length n m A; rw [h] at this; simp at this; omega
  | cons a l => exact rawM_len (A := A) (n := n) a (by rw [h]; simp)
theorem rawM_shape {n m : Nat} {A : Mx} (hn1 : 1 ≤ n) (hn : n ≤ 24) (hm1 : 1 ≤ m) (hm : m ≤ 24) (hf : fitM n m A) : shapeP (rawM n m A) :=
  ⟨by rw [rawM_length]; exact hn1, by rw [rawM_length]; exact hn, by rw [rawM_head hn1]; exact hm1, by rw [rawM_head hn1]; exact hm, fun l hl => ⟨rawM_ok hf l hl, by rw [rawM_head hn1]; exact rawM_len l hl⟩⟩
/-- The weight of a matrix. -/
def wtF (n m : Nat) (A : Mx) : Nat := wtsM (rawM n m A)
theorem shape_lin (va : Value) (n m : Nat) (A : Mx) (w : World) (ha : MatF w va n m A) (hn1 : 1 ≤ n) (hn : n ≤ 24) (hm1 : 1 ≤ m) (hm : m ≤ 24) (hf : fitM n m A) :
    Calls Tryz.prog 31 #[va] w fun e w' => e = .returned (.tuple #[.int .i64 n, .int .i64 m, .bool true]) ∧ Below w.heap.size w w' := by
  refine (shape_any va _ w ha.raw).mono ?_
  rintro e w' ⟨rfl, hb⟩
  rw [if_pos (rawM_shape hn1 hn hm1 hm hf), rawM_length, rawM_head hn1]
  exact ⟨rfl, hb⟩
theorem weight_lin (va : Value) (n m : Nat) (A : Mx) (w : World) (ha : MatF w va n m A) (hn : n ≤ 24) (hm : m ≤ 24) (hf : fitM n m A) :
    Calls Tryz.prog 19 #[va] w fun e w' => e = .returned (.int .i64 (wtF n m A)) ∧ Below w.heap.size w w' :=
  lweight_any va _ w ha.raw (rawM_ok hf) (fun l hl => by rw [rawM_len l hl]; omega) (by rw [rawM_length]; omega)
set_option maxHeartbeats 800000 in
theorem square_lin (va : Value) (n m : Nat) (A : Mx) (w : World) (ha : MatF w va n m A) (hn1 : 1 ≤ n) (hn : n ≤ 24) (hm1 : 1 ≤ m) (hm : m ≤ 24) (hf : fitM n m A) (hnm : n = m) :
    Calls Tryz.prog 17 #[va] w fun e w' => e = .returned (.bool true) ∧ Below w.heap.size w w' := by
  subst hnm
  have HF := Lib.hid hf
  clear hf
  go_enter Tryz.func17, Tryz.ntmps17
  go_wp2_with (go_at_call 31; (with_reducible refine (shape_lin va n n A _ ha hn1 hn hm1 hm HF.out).mono ?_); rintro e1 w1 ⟨rfl, hb1⟩)
  go_ret
  exact ⟨by simp, hb1⟩
/-- The determinant as it is computed. -/
def detE (n : Nat) (A : Mx) : Rat := if (elim true n A n).r < n then 0 else (elim true n A n).d
set_option maxRecDepth 100000 in
set_option maxHeartbeats 3200000 in
theorem det_lin (va : Value) (n : Nat) (A : Mx) (w : World) (ha : MatF w va n n A) (hn1 : 1 ≤ n) (hn : n ≤ 24) (hf : fitM n n A) (hw : wtF n n A ≤ 1900) (hX : slimE true n n n A) :
    Calls Tryz.prog 39 #[va] w (RF0 w (detE n A)) := by
  have hwi : (wtF n n A : Int) ≤ 1900 := by omega
  have HF := Lib.hid hf
  have HX := Lib.hid hX
  have HW := Lib.hid hw
  clear hf hX hw
  obtain ⟨W, hW⟩ : ∃ W, wtF n n A = W := ⟨_, rfl⟩
  rw [hW] at hwi
  have HWW := Lib.hid hW
  have sa := ha.sl
  have la := ha.len
  have hb0 := below_alloc w (.cells #[.bool false, .slice none 0 0, .slice none 0 0] 25)
  have HR0 := Lib.hid (C3.new w 25 (.bool false) (.slice none 0 0) (.slice none 0 0))
  have HA := Lib.hid ha
  clear hW ha
  go_enter Tryz.func39, Tryz.ntmps39
  go_wp2_with (first
    | (go_at_call 17; (with_reducible refine (square_lin va n n A _ (HA.out.below hb0) hn1 hn hn1 hn HF.out rfl).mono ?_); rintro e1 w1 ⟨rfl, hb1⟩
       have hB1 := below_then hb0 hb1
       have HR1 := Lib.hid (HR0.out.belowS hb1))
    | (go_at_call 19; (with_reducible refine (weight_lin va n n A _ (HA.out.below hB1) hn hn HF.out).mono ?_); rw [HWW.out]; rintro e2 w2 ⟨rfl, hb2⟩
       have hB2 := below_then hB1 hb2
       have HR2 := Lib.hid (HR1.out.belowS hb2))
    | (go_at_call 32; (with_reducible refine (begin_one va n n A _ (HA.out.below hB2) hn1 (by omega) hn1 (by omega)).mono ?_); rintro e3 w3 ⟨T, vR, rs, rfl, hb3, hT, hTw⟩
       have hB3 := below_then hB2 hb3
       have HR3 := Lib.hid (HR2.out.belowS hb3)
       have hlt2 : w.heap.size < T := Nat.lt_of_lt_of_le HR2.out.lt hTw)
    | (go_at_call 33; (with_reducible refine (elim_lin_true T vR rs n n A n _ hT (Nat.le_refl _) (by omega) (by omega) HX.out).mono ?_); rintro e4 w4 ⟨rfl, hb4, rs4, hT4⟩
       have hB4 : Below w.heap.size w w4 := hB3.trans (hb4.mono (by omega))
       have HR4 := Lib.hid (HR3.out.below hb4 hlt2)
       obtain ⟨d1, d2, d3, d4, d5, d6, t0, t1, t2, t3, t4, t5, t6, tF, tf⟩ := hT4.cells
       obtain ⟨r, hr⟩ : ∃ r, (elim true n A n).r = r := ⟨_, rfl⟩
       rw [hr] at t2
       have HRK := Lib.hid hr
       have hrn := (elim_r true n A n).1
       rw [hr] at hrn
       have HTF := Lib.hid tF
       have HB4 := Lib.hid hB4
       clear tf t0 t1 hr hT4 hb4 hT tF hB4
       obtain ⟨_, c0, c1, c2, f0, f1, f2⟩ := HR4.out
       by_cases hrk : r < n))
  · have HD : Hid (detE n A = 0) := Lib.hid (by unfold detE; rw [HRK.out, if_pos hrk])
    go_wp2_with (go_at_call 52; (with_reducible refine (lnumber_zero _).mono ?_); rintro e5 w5 ⟨v5, rfl, hv5, hb5⟩
                 obtain ⟨t9, x9, y9, rfl, ⟨a1, l91, k91, rfl, _⟩, ⟨a2, l92, k92, rfl, _⟩⟩ := hv5.isF
                 have HR5 := Lib.hid (HR4.out.belowS hb5)
                 clear c0 c1 c2 f0 f1 f2 t2 t3 t4 t5 t6
                 obtain ⟨_, c0, c1, c2, f0, f1, f2⟩ := HR5.out)
    refine bodyPost_c3 rfl rfl Tryz.aggF Tryz.sizeF (HR5.out.set _ _ _) rfl ?_
    rw [HD.out]
    exact ⟨_, rfl, hv5.set3 HR5.out (fun z => by simp) (fun z => by simp) _ _ _, below_set3 (below_then HB4.out hb5) (Nat.le_refl _) _ _ _⟩
  · have HD : Hid (detE n A = (elim true n A n).d) := Lib.hid (by unfold detE; rw [HRK.out, if_neg hrk])
    go_wp2_with fail
    refine bodyPost_c3 rfl rfl Tryz.aggF Tryz.sizeF (HR4.out.set _ _ _) rfl ?_
    rw [HD.out]
    exact ⟨_, rfl, HTF.out.set3 HR4.out (fun z => by simp) (fun z => by simp) _ _ _, below_set3 HB4.out (Nat.le_refl _) _ _ _⟩
end Go.Proofs.YtbhkibilnmoljaaGreat
namespace Go.Proofs.YtbhkibilnmoljaaGreat
set_option linter.unusedVariables false
set_option linter.unusedSimpArgs false
open Go.RowKit

set_option maxRecDepth 100000 in
set_option maxHeartbeats 3200000 in
theorem rank_lin (va : Value) (n m : Nat) (A : Mx) (w : World) (ha : MatF w va n m A) (hn1 : 1 ≤ n) (hn : n ≤ 24) (hm1 : 1 ≤ m) (hm : m ≤ 24) (hf : fitM n m A) (hw : wtF n m A ≤ 1900) (hX : slimE true n m m A) :
    Calls Tryz.prog 9 #[va] w fun e w' => e = .returned (.tuple #[.int .i64 (elim true n A m).r, .int .i64 0]) ∧ Below w.heap.size w w' := by
  have hwi : (wtF n m A : Int) ≤ 1900 := by omega
  have HF := Lib.hid hf
  have HX := Lib.hid hX
  obtain ⟨W, hW⟩ : ∃ W, wtF n m A = W := ⟨_, rfl⟩
  rw [hW] at hwi
  have HWW := Lib.hid hW
  have sa := ha.sl
  have la := ha.len
  have HA := Lib.hid ha
  clear hW ha hf hX hw
  go_enter Tryz.func9, Tryz.ntmps9
  go_wp2_with (first
    | (go_at_call 31; (with_reducible refine (shape_lin va n m A _ HA.out hn1 hn hm1 hm HF.out).mono ?_); rintro e1 w1 ⟨rfl, hb1⟩)
    | (go_at_call 19; (with_reducible refine (weight_lin va n m A _ (HA.out.below hb1) hn hm HF.out).mono ?_); rw [HWW.out]; rintro e2 w2 ⟨rfl, hb2⟩
       have hB2 := below_then hb1 hb2)
    | (go_at_call 32; (with_reducible refine (begin_one va n m A _ (HA.out.below hB2) hn1 (by omega) hm1 (by omega)).mono ?_); rintro e3 w3 ⟨T, vR, rs, rfl, hb3, hT, hTw⟩
       have hB3 := below_then hB2 hb3
       have hlt2 : w.heap.size ≤ T := Nat.le_trans hB2.size hTw)
    | (go_at_call 33; (with_reducible refine (elim_lin_true T vR rs n m A m _ hT (Nat.le_refl _) (by omega) (by omega) HX.out).mono ?_); rintro e4 w4 ⟨rfl, hb4, rs4, hT4⟩
       have hB4 : Below w.heap.size w w4 := hB3.trans (hb4.mono (by omega))
       obtain ⟨d1, d2, d3, d4, d5, d6, t0, t1, t2, t3, t4, t5, t6, tF, tf⟩ := hT4.cells
       have HB4 := Lib.hid hB4
       clear tf t0 t1 t3 t4 t5 tF hT4 hb4 hT hB4))
  go_ret2
  exact ⟨rfl, HB4.out⟩
/-- append(s, x), s an own row of fractions, in a region that draws: and the block in which the new row lies. -/
theorem step_app_frB {P : Program} (t e : TypeId) (i : TypeInfo) (ht : P.underlying t = some (.slice e)) (hi : P.info? e = some i) (hz : i.zero = some (.agg #[.bool false, .slice none 0 0, .slice none 0 0])) (hsize : i.size = 3) (hby : i.bytes = 56)
    {ops : Array Oper} {o : Oper} {a : Act} {w : World} {K : Act → World → Prop} {Q : Exit → Act → World → Prop} {E : Prop} (hgd : o.guard = none) (s x : Operand)
    (ho : o.op = .call { callee := .builtin .append, args := #[s, x], argTypes := #[t, t] }) (B : Nat) (v : Value) (q : List Rat) (hs : a.eval s = v) (hown : FrRow w e B v q) (c0 c1 c2 : Value) (r : Rat) (hf : FracC w (.agg #[c0, c1, c2]) r) (g : Nat) (hxe : a.eval x = .slice (some ⟨g, 0, none⟩) 1 1)
    (hc : VarB w g #[c0, c1, c2]) (hn : q.length ≤ 1000) (hbase : B ≤ w.heap.size)
    (h : ∀ v' w', FrRow w' e B v' (q ++ [r]) → w.grownBy w' v.ownBlock → NoLimb w v → (v'.ownBlock = v.ownBlock ∨ v'.ownBlock = some w.heap.size) → K (a.put o.dst v') w') :
    if Region.wanted o (yielded ops a.tmps) = true then Oper.wp P o a w K Q else E := by
  obtain ⟨xs, h1, h2⟩ := hown
  have hl : xs.length = q.length * 3 := h1.clen
  obtain ⟨a1, b1, ha, h4, h5⟩ := id hf
  injection ha with ha
  injection ha with ha
  simp only [List.cons.injEq, and_true] at ha
  obtain ⟨rfl, rfl, rfl⟩ := ha
  obtain ⟨p1, p2, p3, rfl, _⟩ := h4.v.sl
  obtain ⟨s1, s2, s3, rfl, _⟩ := h5.v.sl
  rw [if_pos (by simp [Region.wanted, hgd])]
  obtain ⟨v', w', hr, k2, k3, k4, k5⟩ := run_append_R (P := P) w B t o.type e i _ 3 56 ht hi hz hsize hby rfl (by decide) v q.length xs h1.own ⟨g, 0, none⟩ 1 1 [.bool (decide (r < 0)), .slice p1 p2 p3, .slice s1 s2 s3] rfl
    (fun j u hu => by
      rw [Addr.add_lit, Nat.zero_add]
      exact hc.cell j (by simpa using hu)) (fun u hu => by simp at hu; rcases hu with rfl | rfl | rfl <;> rfl) (by simp [maxLen]; omega) (by omega) hbase h1.nl (fun u hu z => by simp at hu; rcases hu with rfl | rfl | rfl <;> simp) (fun c hc z => by
      have hc2 : c ∈ [Value.bool false, .slice none 0 0, .slice none 0 0] := hc
      simp at hc2; rcases hc2 with rfl | rfl <;> simp)
  unfold Oper.wp execOp
  simp only [ho, resolve, invoke, builtin, Sem.run_bind, Sem.run_pure, Result.andThen_ok, List.map_toArray, List.map_cons, List.map_nil, hs, hxe, hr]
  refine h v' w' ⟨_, ?_, (CellsQ.snoc (r := r) h2 hl hf).grown k3 h1.nl⟩ k3 h1.nl k4
  rw [List.length_append]
  exact ⟨k2, k5⟩
/-- make([][]api.Frac, n). -/
theorem make_rows {P : Program} (t e : TypeId) (i : TypeInfo) (h1 : P.underlying t = some (.slice e)) (h2 : P.info? e = some i) (h3 : i.zero = some (.slice none 0 0)) (h4 : i.size = 1) (h5 : i.bytes = 24)
    (w : World) {ops : Array Oper} {rest : List Oper} {o : Oper} {a : Act} {Q : Exit → Act → World → Prop} (hg : o.guard = none) (l c : Operand) (hop : o.op = Op.makeSlice t l c)
    (B : Nat) (u : Int) (n : Nat) (hu : u = n) (hl : a.eval l = .int .i64 u) (hc : a.eval c = .int .i64 u) (b2 : n ≤ 1000) (b4 : B ≤ w.heap.size)
    (hK : ∀ v w', OwnR w' e B 1 v n (List.replicate n (.slice none 0 0)) → Below w.heap.size w w' → wpList P ops Q rest (a.put o.dst v) w') :
    wpList P ops Q (o :: rest) a w := by
  subst hu
  refine wpList_make_full w hg l c t hop B e i _ 1 h1 h2 h3 h4 .i64 .i64 n n n hl hc rfl rfl (by rw [h5]; omega) (by unfold maxLen; omega) b4 ?_
  intro w' hown hgr
  have hcs : (madeCells (Value.slice none 0 0).cells (n * 1)).toList = List.replicate n (.slice none 0 0) := by
    rw [show (Value.slice none 0 0).cells = #[.slice none 0 0] from rfl, Nat.mul_one, toList_madeCells_one]
  rw [hcs] at hown
  refine hK _ w' ⟨hown, ?_⟩ (below_of_grown hgr (Nat.le_refl _) (fun k hk => by cases hk))
  intro g' hg' cur e' fz hcc x hx z
  rcases hown.2 with ⟨h', _⟩ | ⟨g2, cap, cur2, h', hb, hgg, _, _, hs, ht⟩
  · cases h'
  · injection h' with k4 k5 k6
    injection k4 with k4
    injection k4 with k4
    simp only [Value.ownBlock, Option.some.injEq] at hg'
    rw [← hg', k4, hgg] at hcc
    injection hcc with hcc
    injection hcc with hcc _ _
    subst hcc
    have e9 : cur2.toList = List.replicate n (.slice none 0 0) := by
      rw [← ht]
      exact (List.take_of_length_le (by rw [Array.length_toList, hs, ← k6]; exact Nat.le_refl _)).symm
    rw [e9] at hx
    rw [List.eq_of_mem_replicate hx]; simp
/-- A matrix in the making: its slice of rows, its rows. -/
structure OutW (w : World) (B : Nat) (vO : Value) (rs : List Value) (n : Nat) (qs : Nat → List Rat) : Prop where
  own : OwnR w 27 B 1 vO n rs
  row : ∀ (i : Nat) (h : i < rs.length), FrRow w 25 B rs[i] (qs i)
  ap : ∀ (i j : Nat) (hi : i < rs.length) (hj : j < rs.length), i ≠ j → rs[i].ownBlock = none ∨ rs[i].ownBlock ≠ rs[j].ownBlock
section
variable {w w' : World} {B n : Nat} {vO : Value} {rs : List Value} {qs : Nat → List Rat}
theorem OutW.rl (h : OutW w B vO rs n qs) : rs.length = n := by have := h.own.clen; omega
theorem OutW.start (h : OwnR w 27 B 1 vO n (List.replicate n (.slice none 0 0))) : OutW w B vO (List.replicate n (.slice none 0 0)) n (fun _ => []) :=
  ⟨h, fun i hi => by rw [List.getElem_replicate]; exact FrRow.nil _ _ _, fun i j hi hj _ => Or.inl (by rw [List.getElem_replicate]; rfl)⟩
theorem OutW.below (h : OutW w B vO rs n qs) (hb : Below w.heap.size w w') : OutW w' B vO rs n qs :=
  ⟨h.own.below hb, fun i hi => (h.row i hi).moves (Moves.below (B := B) hb) (Nat.le_refl _), h.ap⟩
/-- Row i is replaced by the row v' that it has grown to. -/
theorem OutW.set (h : OutW w B vO rs n qs) {i : Nat} (hi : i < rs.length) {v' : Value} {q : List Rat} (hB : B ≤ w.heap.size) (hv : FrRow w' 25 B v' q) (hg : w.grownBy w' rs[i].ownBlock) (hn : NoLimb w rs[i]) (hob : v'.ownBlock = rs[i].ownBlock ∨ v'.ownBlock = some w.heap.size) :
    OutW (w'.setCell (ptr vO i) v') B vO (rs.set i v') n (fun k => if k = i then q else qs k) ∧ Below B w (w'.setCell (ptr vO i) v') := by
  obtain ⟨own, row, ap⟩ := h
  obtain ⟨ys, y1, y2⟩ := id (row i hi)
  have own' := own.grown hg (own.kinds y1 (by decide))
  have hlen : rs.length = n := by have := own.clen; omega
  obtain ⟨s1, s2⟩ := own'.set1 i hi v' (fun z e => by obtain ⟨a1, a2, a3, e1, _⟩ := hv.sl; rw [e1] at e; cases e)
  have hbr := (row i hi).block
  have hbo := own.block
  refine ⟨⟨s1, fun k hk => ?_, fun j k hj hk hjk => ?_⟩, (below_of_grown hg hB (fun k hk => (hbr k hk).1)).trans (below_of_grown s2 (Nat.le_trans hB hg.size) (fun k hk => (hbo k hk).1))⟩
  · have hk0 : k < rs.length := by simpa using hk
    by_cases hki : k = i
    · subst hki
      rw [List.getElem_set_self, if_pos rfl]
      obtain ⟨zs, z1, z2⟩ := id hv
      exact hv.grown s2 own'.nl (z1.kinds own' (by decide))
    · rw [List.getElem_set_ne (fun e => hki e.symm), if_neg hki]
      obtain ⟨zs, z1, z2⟩ := id (row k hk0)
      have hk1 := (row k hk0).grown hg hn (ap k i hk0 hi hki)
      exact hk1.grown s2 own'.nl (z1.kinds own (by decide))
  · have hj0 : j < rs.length := by simpa using hj
    have hk0 : k < rs.length := by simpa using hk
    by_cases h1 : j = i
    · subst h1
      rw [List.getElem_set_self, List.getElem_set_ne hjk]
      rcases hob with h | h
      · rw [h]; exact ap j k hj0 hk0 hjk
      · rw [h]; refine Or.inr (fun e => ?_)
        have := ((row k hk0).block _ e.symm).2
        omega
    · rw [List.getElem_set_ne (fun e => h1 e.symm)]
      by_cases h2 : k = i
      · subst h2
        rw [List.getElem_set_self]
        rcases hob with h | h
        · rw [h]; exact ap j k hj0 hk0 hjk
        · rw [h]; refine Or.inr (fun e => ?_)
          have := ((row j hj0).block _ e).2
          omega
      · rw [List.getElem_set_ne (fun e => h2 e.symm)]; exact ap j k hj0 hk0 hjk
end
/-- 'v[lo:]'. -/
@[go_sem ↓] theorem run_slice_from {P : Program} (w : World) {t : TypeId} {v : Value} {lo : Int} (h : IsSl v) (ht : P.underlying t = some (.slice (P.elem t))) (h0 : 0 ≤ lo) (h1 : lo ≤ (slen v : Int)) :
    (Instr.slice t v (some (.int .i64 lo)) none none).run P w = ((sizeOf (P.elem t)).run P w).andThen fun s w => .ok (cut s v lo.toNat (slen v)) w := by
  obtain ⟨a, n, cap, rfl, hn, _, h3⟩ := h
  simp only [slen] at h1
  have h00 : (n : Int) ≤ cap := by omega
  simp [Instr.slice, run_underlying ht, Instr.sliceBounds, Instr.sliceBound, asIntOf, h0, h1, h00, cut, slen]
theorem FracsC.drop {w : World} {v : Value} {q : List Rat} (h : FracsC w v q) (lo : Nat) (hlo : lo < q.length) : FracsC w (cut 3 v lo (slen v)) (q.drop lo) := by
  have hl := h.len
  have hle := h.sl.le
  refine ⟨h.sl.cut (by omega) hle.1, by rw [h.sl.slen_cut, List.length_drop, hl], fun j hj => ?_⟩
  have hj2 : lo + j < q.length := by rw [List.length_drop] at hj; omega
  obtain ⟨a, b, h1, h2, h3, h4, h5⟩ := h.at' (lo + j) hj2
  have e : (q.drop lo)[j]'hj = q[lo + j]'hj2 := by rw [List.getElem_drop]
  rw [e]
  rw [ptr_cut h.sl (by omega), ptr_cut h.sl (by omega), ptr_cut h.sl (by omega)]
  exact ⟨a, b, by rw [show lo * 3 + j * 3 = (lo + j) * 3 by omega]; exact h1, by rw [show lo * 3 + (j * 3 + 1) = (lo + j) * 3 + 1 by omega]; exact h2, by rw [show lo * 3 + (j * 3 + 2) = (lo + j) * 3 + 2 by omega]; exact h3, h4, h5⟩
end Go.Proofs.YtbhkibilnmoljaaGreat
