/-
  package chain: Valid, the states.
  Ahead of it: package chain: Valid.
-/
import Derived.Test.YtoldfpkafcefnaaQCh2
namespace Go.Proofs.Ytoldfpkafcefnaa
set_option linter.unusedVariables false
set_option linter.unusedSimpArgs false
open Go.RowKit

/-- The rates of state i are as a chain's. -/
def stateP (c : RC) (i : Nat) (r : List RF) : Prop := rowP r c.start.length ∧ (∀ x, r[i]? = some x → x.q.num = 0) ∧ (c.lost[i]? = some true → wts (qs r) = 0)
/-- A valid chain. -/
def validP (c : RC) : Prop := 1 ≤ c.start.length ∧ c.start.length ≤ 128 ∧ c.lost.length = c.start.length ∧ c.rates.length = c.start.length ∧ rowP c.start c.start.length ∧
  (∀ i r, c.rates[i]? = some r → stateP c i r) ∧ lsum (qs c.start) = 1
theorem rowP.fits {l : List RF} {n : Nat} (h : rowP l n) (k : Nat) : fits (lsum (qs (l.take k))) := by
  have h1 : ∀ q ∈ qs l, 0 ≤ q := fun q hq => by
    obtain ⟨x, hx, rfl⟩ := List.mem_map.1 hq
    exact Rat.not_lt.1 (h.1 x hx).2.1
  rw [← qs_take]
  exact lsum_fits (List.take_sublist k _) h1 h.2.2
theorem rowP.ok {l : List RF} {n : Nat} (h : rowP l n) : ∀ x ∈ l, x.ok := fun x hx => (h.1 x hx).1
theorem cmpR_self_iff (p q : Rat) : cmpR p q = 0 ↔ p = q := by
  unfold cmpR
  constructor
  · intro h
    split at h
    · omega
    · split at h
      · omega
      · next h1 h2 => exact Rat.le_antisymm (Rat.not_lt.1 h2) (Rat.not_lt.1 h1)
  · rintro rfl
    rw [if_neg (Rat.lt_irrefl), if_neg (Rat.lt_irrefl)]
/-- Cmp of canonical fractions. -/
theorem cmp_can (va vb : Value) (p q : Rat) (w : World) (ha : FracC w va p) (hb : FracC w vb q) (hp : fits p) (hq : fits q) :
    Calls Try.prog 61 #[va, vb] w fun en w' => en = .returned (.tuple #[.int .i64 (cmpR p q), .int .i64 0]) ∧ Below w.heap.size w w' := by
  have h := cmp_frac va vb _ _ _ _ _ _ w ha.raw hb.raw (fits_okN hp) (fits_okN hq)
  rw [fq_self, fq_self] at h
  exact h
def NotV (c : RC) : Prop := ¬ validP c
set_option maxHeartbeats 1600000 in
theorem valid_false1 (va : Value) (c : RC) (w : World) (ha : ChainN w va c) (h : c.start.length < 1 ∨ 128 < c.start.length ∨ c.lost.length ≠ c.start.length ∨ c.rates.length ≠ c.start.length ∨ ¬ rowP c.start c.start.length) :
    Calls Try.prog 35 #[va] w fun e w' => e = .returned (.bool false) ∧ Below w.heap.size w w' := by
  obtain ⟨rv, sv, lv, rfl, hr, hs, hl⟩ := ha
  obtain ⟨ra, rn, rk, rfl, r1, r2, r3⟩ := hr.sl
  obtain ⟨sa, sn, sk, rfl, s1, s2, s3⟩ := hs.sl
  obtain ⟨la, ln, lk, rfl, l1, l2, l3⟩ := CellsV.sl hl
  have hrl : rn = c.rates.length := hr.len
  have hsl : sn = c.start.length := hs.len
  have hll : ln = c.lost.length := hl.len
  subst hrl hsl hll
  unfold maxLen at r2 s2 l2
  have hbx := below_alloc w (.cells #[.slice ra c.rates.length rk, .slice sa c.start.length sk, .slice la c.lost.length lk] 27)
  have hs' := hs.below hbx
  generalize c.start.length = n at *
  generalize c.lost.length = nl at *
  generalize c.rates.length = nr at *
  by_cases h1 : n < 1
  · go_enter Try.func35, Try.ntmps35
    go_wp2_with fail
    go_ret
    exact ⟨rfl, hbx⟩
  · by_cases h2 : 128 < n
    · go_enter Try.func35, Try.ntmps35
      go_wp2_with fail
      go_ret
      exact ⟨rfl, hbx⟩
    · by_cases h3 : nl = n
      · by_cases h4 : nr = n
        · have h5 : ¬ rowP c.start n := by
            rcases h with h | h | h | h | h
            · omega
            · omega
            · omega
            · omega
            · exact h
          have H5 := Lib.hid h5
          subst h3 h4
          clear h h5
          go_enter Try.func35, Try.ntmps35
          go_wp2_with (go_at_call 57; (with_reducible refine (row_any _ c.start nr _ hs' (by omega)).mono ?_); rintro e w1 ⟨rfl, hb1⟩; rw [decide_eq_false H5.out])
          go_ret
          exact ⟨rfl, below_then hbx hb1⟩
        · have h4b : (((nr : Nat) : Int) != (n : Nat)) = true := by simp; omega
          subst h3
          clear h
          go_enter Try.func35, Try.ntmps35
          go_wp2_with fail
          go_ret
          exact ⟨rfl, hbx⟩
      · have h3b : (((nl : Nat) : Int) != (n : Nat)) = true := by simp; omega
        clear h
        go_enter Try.func35, Try.ntmps35
        go_wp2_with fail
        go_ret
        exact ⟨rfl, hbx⟩

@[go_sem] theorem slen_slice (a : Option Addr) (n c : Nat) : slen (.slice a n c) = n := rfl
theorem RF.num_zero {x : RF} (h : x.ok) : x.q.num = 0 ↔ x.n = 0 := by
  have e : x.q.num.natAbs = x.n / Nat.gcd x.n x.d := fq_natAbs _ _ _ h.1
  constructor
  · intro h0
    have h1 : x.n / Nat.gcd x.n x.d = 0 := by rw [← e, h0]; rfl
    rcases Nat.eq_zero_or_pos x.n with h2 | h2
    · exact h2
    · have := Nat.div_pos (Nat.le_of_dvd h2 (Nat.gcd_dvd_left x.n x.d)) (Nat.gcd_pos_of_pos_left _ h2)
      omega
  · intro h0
    rw [h0, Nat.zero_div] at e
    omega
theorem RF.above_pos {x : RF} (h : x.ok) (h0 : ¬ x.q < 0) (hn : x.q.num ≠ 0) : (!x.neg && !decide (x.n = 0)) = true := by
  have hn2 : x.n ≠ 0 := fun e => hn ((RF.num_zero h).2 e)
  have e : decide (x.q < 0) = (x.neg && decide (0 < x.n / Nat.gcd x.n x.d)) := fq_neg _ _ _ h.1
  have h1 : 0 < x.n / Nat.gcd x.n x.d := Nat.div_pos (Nat.le_of_dvd (Nat.pos_of_ne_zero hn2) (Nat.gcd_dvd_left _ _)) (Nat.gcd_pos_of_pos_left _ (Nat.pos_of_ne_zero hn2))
  rw [decide_eq_false h0, decide_eq_true h1, Bool.and_true] at e
  rw [← e, decide_eq_false hn2]; rfl
theorem RF.above_zero {x : RF} (h : x.ok) (hn : x.q.num = 0) : (!x.neg && !decide (x.n = 0)) = false := by
  rw [decide_eq_true ((RF.num_zero h).1 hn)]; simp
/-- Whether a chain is valid. -/
def RValid (w0 : World) (c : RC) (e : Ending) (w : World) : Prop := (∃ b, e = .returned (.bool b) ∧ (b = true ↔ validP c)) ∧ Below w0.heap.size w0 w
theorem RValid.no {w0 w : World} {c : RC} (h : ¬ validP c) (hb : Below w0.heap.size w0 w) : RValid w0 c (.returned (.bool false)) w := ⟨⟨false, rfl, by simp [h]⟩, hb⟩
end Go.Proofs.Ytoldfpkafcefnaa
namespace Go.Proofs.Ytoldfpkafcefnaa
set_option linter.unusedVariables false
set_option linter.unusedSimpArgs false
open Go.RowKit

theorem matN_one (w : World) (ea : Option Addr) (ek : Nat) (l : List RF) (h : FracsN w (.slice ea l.length ek) l) :
    MatN (w.alloc (.cells #[.slice ea l.length ek] 24)) (.slice (some ⟨w.heap.size, 0, none⟩) 1 1) [l] :=
  ⟨⟨_, 1, 1, rfl, Nat.le_refl _, by simp [maxLen], fun e => by cases e⟩, rfl, fun j hj => by
    have hj0 : j = 0 := by simp at hj; omega
    subst hj0
    exact ⟨_, by simp [ptr, base, Addr.add], h.below (below_alloc _ _)⟩⟩
set_option maxRecDepth 100000 in
set_option maxHeartbeats 3200000 in
theorem valid_rest (va : Value) (c : RC) (w : World) (ha : ChainN w va c) (h1 : 1 ≤ c.start.length) (h2 : c.start.length ≤ 128) (h3 : c.lost.length = c.start.length) (h4 : c.rates.length = c.start.length) (h5 : rowP c.start c.start.length) :
    Calls Try.prog 35 #[va] w (RValid w c) := by
  obtain ⟨rv, sv, lv, rfl, hr, hs, hl⟩ := ha
  obtain ⟨ra, rn, rk, rfl, r1, r2, r3⟩ := hr.sl
  obtain ⟨sa, sn, sk, rfl, s1, s2, s3⟩ := hs.sl
  obtain ⟨la, ln, lk, rfl, l1, l2, l3⟩ := CellsV.sl hl
  have hrl : rn = c.start.length := hr.len.trans h4
  have hsl : sn = c.start.length := hs.len
  have hll : ln = c.start.length := hl.len.trans h3
  subst hrl hsl hll
  clear r1 r2 r3 s1 s2 s3 l1 l2 l3
  have hbx := below_alloc w (.cells #[.slice ra c.start.length rk, .slice sa c.start.length sk, .slice la c.start.length lk] 27)
  have hs' := hs.below hbx
  have hr' := hr.below hbx
  have hl' := hl.below hbx
  have hc3 := C3.new w 27 (.slice ra c.start.length rk) (.slice sa c.start.length sk) (.slice la c.start.length lk)
  have H3 := Lib.hid h3
  have H4 := Lib.hid h4
  have H5 := Lib.hid h5
  have HVAL : Hid (validP c ↔ (∀ i r, c.rates[i]? = some r → stateP c i r) ∧ lsum (qs c.start) = 1) := Lib.hid ⟨fun h => ⟨h.2.2.2.2.2.1, h.2.2.2.2.2.2⟩, fun h => ⟨h1, h2, h3, h4, h5, h.1, h.2⟩⟩
  clear h3 h4 h5 hs hr hl
  generalize hn : c.start.length = n at *
  have HSTP : Hid (∀ i r, (rowP r n ∧ (∀ x, r[i]? = some x → x.q.num = 0) ∧ (c.lost[i]? = some true → wts (qs r) = 0)) ↔ stateP c i r) := Lib.hid (fun i r => by unfold stateP; rw [hn])
  have HNE := Lib.hid hn
  have HN6 : Hid (n ≤ 65536) := Lib.hid (by omega)
  clear hn
  go_enter Try.func35, Try.ntmps35
  go_wp2_with fail
  have hd1 : decide ((n : Int) < 1) = false := decide_eq_false (by omega)
  have hd2 : decide ((128 : Int) < (n : Int)) = false := decide_eq_false (by omega)
  generalize hW : w.alloc (.cells #[.slice ra n rk, .slice sa n sk, .slice la n lk] 27) = W at *
  clear hW
  have HC3 := Lib.hid hc3
  obtain ⟨_, b0, b1, b2, b3, b4, b5⟩ := hc3
  go_wp2_with (go_at_call 57; (with_reducible refine (row_any _ c.start n _ hs' HN6.out).mono ?_); rintro e w1 ⟨rfl, hb1⟩; rw [decide_eq_true H5.out]; obtain ⟨_, f0, f1, f2, f3, f4, f5⟩ := HC3.out.belowS hb1)
  clear b0 b1 b2 b3 b4 b5 f0 f1 f2 f3 f4 f5 hd1 hd2
  have slR := hr'.sl
  have slS := hs'.sl
  have slL : IsSl (.slice la n lk) := CellsV.sl hl'
  go_loopw [43] (fun u43 wr => ∃ (k : Nat), k ≤ n ∧ u43 = .int .i64 k ∧ (∀ i r, i < k → c.rates[i]? = some r → stateP c i r) ∧ Below W.heap.size W wr) (fun u43 _ => n - (intOf u43).toNat)
  case atStart => exact ⟨0, Nat.zero_le _, rfl, fun i r h => by omega, hb1⟩
  case round =>
    obtain ⟨k, hk, rfl, hst, hb⟩ := hrel
    clear hb1
    have HST := Lib.hid hst
    clear hst
    have HC := Lib.hid (HC3.out.belowS hb)
    obtain ⟨_, b0, b1, b2, b3, b4, b5⟩ := HC3.out.belowS hb
    by_cases hkn : k < n
    · have hkr : k < c.rates.length := by rw [H4.out]; exact hkn
      have hkl : k < c.lost.length := by rw [H3.out]; exact hkn
      obtain ⟨rv, hrc, hrw⟩ := (hr'.below hb).at' k hkr
      have hlc := (hl'.below hb).at' k hkl
      have HRK : Hid (c.rates[k]? = some (c.rates[k]'hkr)) := Lib.hid (List.getElem?_eq_getElem hkr)
      have HLK : Hid (c.lost[k]? = some (c.lost[k]'hkl)) := Lib.hid (List.getElem?_eq_getElem hkl)
      generalize c.rates[k]'hkr = l at *
      generalize c.lost[k]'hkl = lo at *
      have HNO : Hid (¬ stateP c k l → ¬ validP c) := Lib.hid (fun h h' => h ((HVAL.out.1 h').1 k l HRK.out))
      have HYES : Hid (stateP c k l → ∀ i r, i < k + 1 → c.rates[i]? = some r → stateP c i r) := Lib.hid (fun h i r hi hr => by
        rcases Nat.lt_or_ge i k with h6 | h6
        · exact HST.out i r h6 hr
        · obtain rfl : i = k := by omega
          rw [HRK.out] at hr
          injection hr with hr
          subst hr
          exact h)
      clear hkr hkl
      obtain ⟨ea, en, ek, rfl, e1, e2, e3⟩ := hrw.sl
      have slW := hrw.sl
      have hen : en = l.length := hrw.len
      subst hen
      by_cases hrow : rowP l n
      · have hll : l.length = n := hrow.2.1
        have hkl : k < l.length := by omega
        obtain ⟨xa, xb, c1, c2, c3, hxa, hxb⟩ := hrw.at' k hkl
        obtain ⟨c1a, c1l, c1k, rfl, _⟩ := hxa.slen.1
        obtain ⟨c2a, c2l, c2k, rfl, _⟩ := hxb.slen.1
        have HXK : Hid (l[k]? = some (l[k]'hkl)) := Lib.hid (List.getElem?_eq_getElem hkl)
        have HXP := Lib.hid (hrow.1 _ (List.getElem_mem hkl))
        have HROW := Lib.hid hrow
        have HLL := Lib.hid hll
        generalize l[k]'hkl = x at *
        have hxN : FracN wr (.agg #[.bool x.neg, .slice c1a c1l c1k, .slice c2a c2l c2k]) x.neg x.n x.d := ⟨_, _, rfl, hxa, hxb⟩
        clear hrow hll hxa hxb
        by_cases hz : x.q.num = 0
        · have HAB := Lib.hid (RF.above_zero HXP.out.1 hz)
          have HXZ : Hid (∀ y, l[k]? = some y → y.q.num = 0) := Lib.hid (fun y hy => by rw [HXK.out] at hy; injection hy with hy; rw [← hy]; exact hz)
          clear hz
          rcases lo with _ | _
          · have HOK := Lib.hid (HYES.out ((HSTP.out k l).1 ⟨HROW.out, HXZ.out, fun h => by rw [HLK.out] at h; injection h with h; cases h⟩))
            go_wp2_with (first
              | (go_at_call 57; (with_reducible refine (row_any _ l n _ hrw HN6.out).mono ?_); rintro e w1 ⟨rfl, hb1⟩; rw [decide_eq_true HROW.out]
                 have d1 := cell_below hb1 c1
                 have d2 := cell_below hb1 c2
                 have d3 := cell_below hb1 c3
                 )
              | (go_at_call 58; (with_reducible refine (above_any _ x.neg x.n x.d _ (hxN.below hb1)).mono ?_); rintro e w2 ⟨rfl, hb2⟩; rw [HAB.out]
                 obtain ⟨_, f0, f1, f2, f3, f4, f5⟩ := (HC.out.belowS hb1).belowS hb2
                 have hlc2 := cell_below (below_then hb1 hb2) hlc
                 ))
            go_roundw
            case rel => exact ⟨k + 1, hkn, by go_num, HOK.out, below_then (below_then hb hb1) hb2⟩
            case measure => simp [intOf]; omega
          · have HWT : Hid (wts (qs l) = 0 → ∀ i r, i < k + 1 → c.rates[i]? = some r → stateP c i r) := Lib.hid (fun h => HYES.out ((HSTP.out k l).1 ⟨HROW.out, HXZ.out, fun _ => h⟩))
            have HWF : Hid (0 < wts (qs l) → ¬ validP c) := Lib.hid (fun h => HNO.out (fun h' => by have := ((HSTP.out k l).2 h').2.2 HLK.out; omega))
            have HOKS : Hid (∀ l' ∈ [l], ∀ x ∈ l', x.ok) := Lib.hid (fun l' h x hx => by simp at h; subst h; exact (HROW.out.1 x hx).1)
            have HLLS : Hid (∀ l' ∈ [l], l'.length ≤ 65536) := Lib.hid (fun l' h => by simp at h; subst h; have := HLL.out; omega)
            have HLEN : Hid ([l].length ≤ 65536) := Lib.hid (by simp)
            have HW1 := Lib.hid (wtsM_one l)
            go_wp2_with (first
              | (go_at_call 57; (with_reducible refine (row_any _ l n _ hrw HN6.out).mono ?_); rintro e w1 ⟨rfl, hb1⟩; rw [decide_eq_true HROW.out]
                 have d1 := cell_below hb1 c1
                 have d2 := cell_below hb1 c2
                 have d3 := cell_below hb1 c3
                 )
              | (go_at_call 58; (with_reducible refine (above_any _ x.neg x.n x.d _ (hxN.below hb1)).mono ?_); rintro e w2 ⟨rfl, hb2⟩; rw [HAB.out]
                 obtain ⟨_, f0, f1, f2, f3, f4, f5⟩ := (HC.out.belowS hb1).belowS hb2
                 have hlc2 := cell_below (below_then hb1 hb2) hlc
                 have hb4 := below_then (below_then hb1 hb2) (below_alloc w2 (.cells #[.slice ea l.length ek] 24))
                 have HM := Lib.hid (matN_one w2 ea ek l (hrw.below (below_then hb1 hb2)))
                 )
              | (go_at_call 59; (with_reducible refine (weight_any _ [l] _ HM.out HOKS.out HLLS.out HLEN.out).mono ?_); rintro e w3 ⟨rfl, hb3⟩; rw [HW1.out]))
            · go_ret
              exact RValid.no (HWF.out (by assumption)) (hbx.trans ((below_then (below_then hb hb4) hb3).mono hbx.size))
            · go_roundw
              case rel => exact ⟨k + 1, hkn, by go_num, HWT.out (by omega), below_then (below_then hb hb4) hb3⟩
              case measure => simp [intOf]; omega
        · have HB := Lib.hid (HNO.out (fun h => hz (h.2.1 x HXK.out)))
          have HAB := Lib.hid (RF.above_pos HXP.out.1 HXP.out.2.1 hz)
          clear hz
          go_wp2_with (first
            | (go_at_call 57; (with_reducible refine (row_any _ l n _ hrw HN6.out).mono ?_); rintro e w1 ⟨rfl, hb1⟩; rw [decide_eq_true HROW.out]
               have d1 := cell_below hb1 c1
               have d2 := cell_below hb1 c2
               have d3 := cell_below hb1 c3)
            | (go_at_call 58; (with_reducible refine (above_any _ x.neg x.n x.d _ (hxN.below hb1)).mono ?_); rintro e w2 ⟨rfl, hb2⟩; rw [HAB.out]))
          go_ret
          exact RValid.no HB.out (hbx.trans ((below_then (below_then hb hb1) hb2).mono hbx.size))
      · have HB := Lib.hid (HNO.out (fun h => hrow ((HSTP.out k l).2 h).1))
        have HR := Lib.hid hrow
        clear hrow
        go_wp2_with (go_at_call 57; (with_reducible refine (row_any _ l n _ hrw HN6.out).mono ?_); rintro e w1 ⟨rfl, hb1⟩; rw [decide_eq_false HR.out])
        go_ret
        exact RValid.no HB.out (hbx.trans ((below_then hb hb1).mono hbx.size))
    · obtain rfl : k = n := by omega
      have HALL : Hid (∀ i r, c.rates[i]? = some r → stateP c i r) := Lib.hid (fun i r h => HST.out i r (by
        obtain ⟨h6, _⟩ := List.getElem?_eq_some_iff.1 h
        have := H4.out; omega) h)
      have HOKS : Hid (∀ x ∈ c.start, x.ok) := Lib.hid H5.out.ok
      have HFIT : Hid (∀ j, j ≤ c.start.length → fits (lsum (qs (c.start.take j)))) := Lib.hid (fun j _ => H5.out.fits j)
      have HFS : Hid (fits (lsum (qs c.start))) := Lib.hid (by have h6 := H5.out.fits c.start.length; rw [List.take_length] at h6; exact h6)
      go_wp2_with (go_at_call 60; (with_reducible refine (sum_frac _ c.start _ (hs'.below hb) HOKS.out HFIT.out).mono ?_); rintro e w1 ⟨v, rfl, hv, hb1⟩
                   obtain ⟨t9, x9, y9, rfl, ⟨a1, l91, k1, rfl, _⟩, ⟨a2, l92, k2, rfl, _⟩⟩ := hv.isF)
      have hv6 := hv.below (below_alloc w1 (.cells #[.bool t9, .slice a1 l91 k1, .slice a2 l92 k2] 50))
      have hc6 := C3.new w1 50 (.bool t9) (.slice a1 l91 k1) (.slice a2 l92 k2)
      have hb6 := below_then (below_then hb hb1) (below_alloc w1 (.cells #[.bool t9, .slice a1 l91 k1, .slice a2 l92 k2] 50))
      generalize w1.alloc (.cells #[.bool t9, .slice a1 l91 k1, .slice a2 l92 k2] 50) = W6 at *
      have hdr := below_drew (B := W6.heap.size) W6
      have hv7 := hv6.below hdr
      have HC7 := Lib.hid (hc6.belowS hdr)
      have hb7 := below_then hb6 hdr
      clear hv hv6 hb1 hb6 hb b0 b1 b2 b3 b4 b5 hs' hr' hl'
      obtain ⟨_, q1, q2, q3, q4, q5, q6⟩ := hc6.belowS hdr
      clear hc6
      generalize w1.heap.size = B6 at *
      have HF1 := Lib.hid fits_one
      go_region_held3 (fun w' => w'.cell? ⟨B6, 0, none⟩ = some (.bool t9) ∧ w'.cell? ⟨B6, 1, none⟩ = some (.slice a1 l91 k1) ∧ w'.cell? ⟨B6, 2, none⟩ = some (.slice a2 l92 k2)) (exact ⟨q1, q2, q3⟩) (first
        | (go_at_call 62; (with_reducible refine (number_one _).mono ?_); rintro e8 w8 ⟨v1, rfl, hv1, hb8⟩
           obtain ⟨_, q1, q2, q3, q4, q5, q6⟩ := HC7.out.belowS hb8
           have HC8 := Lib.hid (HC7.out.belowS hb8)
           have hv8 := hv7.below hb8)
        | (go_at_call 61; (with_reducible refine (cmp_can _ v1 _ _ _ hv8 hv1 HFS.out HF1.out).mono ?_); rintro e9 w9 ⟨rfl, hb9⟩
           obtain ⟨_, q1, q2, q3, q4, q5, q6⟩ := HC8.out.belowS hb9))
      go_wp2
      go_ret
      refine ⟨⟨_, rfl, ?_⟩, hbx.trans ((below_then (below_then hb7 hb8) hb9).mono hbx.size)⟩
      rw [HVAL.out]
      have h9 := cmpR_self_iff (lsum (qs c.start)) 1
      exact ⟨fun h => ⟨HALL.out, h9.1 (by simpa using h)⟩, fun h => by simpa using h9.2 h.2⟩
/-- Valid decides whether a chain is valid. -/
theorem valid_chain (va : Value) (c : RC) (w : World) (ha : ChainN w va c) : Calls Try.prog 35 #[va] w (RValid w c) := by
  by_cases h : c.start.length < 1 ∨ 128 < c.start.length ∨ c.lost.length ≠ c.start.length ∨ c.rates.length ≠ c.start.length ∨ ¬ rowP c.start c.start.length
  · refine (valid_false1 va c w ha h).mono fun e w' ⟨h1, h2⟩ => ?_
    rw [h1]
    refine RValid.no (fun hv => ?_) h2
    obtain ⟨v1, v2, v3, v4, v5, _⟩ := hv
    rcases h with h | h | h | h | h
    · omega
    · omega
    · exact h v3
    · exact h v4
    · exact h v5
  · exact valid_rest va c w ha (Nat.le_of_not_lt fun h1 => h (Or.inl h1)) (Nat.le_of_not_lt fun h1 => h (Or.inr (Or.inl h1))) (Decidable.of_not_not fun h1 => h (Or.inr (Or.inr (Or.inl h1)))) (Decidable.of_not_not fun h1 => h (Or.inr (Or.inr (Or.inr (Or.inl h1))))) (Decidable.of_not_not fun h1 => h (Or.inr (Or.inr (Or.inr (Or.inr h1)))))
end Go.Proofs.Ytoldfpkafcefnaa
