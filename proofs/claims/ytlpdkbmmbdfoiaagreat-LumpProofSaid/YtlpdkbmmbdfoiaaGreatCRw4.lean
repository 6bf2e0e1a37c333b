/-
  package drydockref21: Valid.
-/
import Derived.Test.YtlpdkbmmbdfoiaaGreatCRw3
import Derived.Test.YtlpdkbmmbdfoiaaGreatCMath6b
namespace Go.Proofs.YtlpdkbmmbdfoiaaGreat
set_option linter.unusedVariables false
set_option linter.unusedSimpArgs false
open Go.RowKit

theorem r2sign_q (va : Value) (x : RF) (w : World) (ha : FracN w va x.neg x.n x.d) (h1 : x.ok) :
    Calls Tryz.prog 34 #[va] w fun en w' => en = .returned (.int .i64 (cmpR x.q 0)) ∧ Below w.heap.size w w' := r2sign_any va x.neg x.n x.d w ha h1
theorem cmpR_num (q : Rat) : cmpR q 0 = 0 ↔ q.num = 0 := by rw [cmpR_self_iff, Rat.num_eq_zero]
theorem wts_all {l : List RF} : wts (qs l) = 0 ↔ ∀ x ∈ l, x.q.num = 0 := by
  constructor
  · intro h x hx
    have := wts_zero h x.q (List.mem_map.2 ⟨x, hx, rfl⟩)
    rw [this]; rfl
  · intro h
    exact wts_of_zero (fun q hq => by
      obtain ⟨x, hx, rfl⟩ := List.mem_map.1 hq
      exact Rat.num_eq_zero.1 (h x hx))
set_option maxHeartbeats 1600000 in
theorem rvalid_false1 (va : Value) (c : RC) (w : World) (ha : ChainN w va c) (h : c.start.length < 1 ∨ 128 < c.start.length ∨ c.lost.length ≠ c.start.length ∨ c.rates.length ≠ c.start.length ∨ ¬ rowP c.start c.start.length) :
    Calls Tryz.prog 69 #[va] w fun e w' => e = .returned (.bool false) ∧ Below w.heap.size w w' := by
  obtain ⟨rv, sv, lv, rfl, hr, hs, hl⟩ := ha
  obtain ⟨ra, rn, rk, rfl, r1, r2, r3⟩ := hr.sl
  obtain ⟨sa, sn, sk, rfl, s1, s2, s3⟩ := hs.sl
  obtain ⟨la, ln, lk, rfl, l1, l2, l3⟩ := CellsV.sl hl
  have hrl : rn = c.rates.length := hr.len
  have hsl : sn = c.start.length := hs.len
  have hll : ln = c.lost.length := hl.len
  subst hrl hsl hll
  unfold maxLen at r2 s2 l2
  have hbx := below_alloc w (.cells #[.slice ra c.rates.length rk, .slice sa c.start.length sk, .slice la c.lost.length lk] 28)
  have hs' := hs.below hbx
  have hC := C3.new w 28 (.slice ra c.rates.length rk) (.slice sa c.start.length sk) (.slice la c.lost.length lk)
  generalize c.start.length = n at *
  generalize c.lost.length = nl at *
  generalize c.rates.length = nr at *
  obtain ⟨_, b0, b1, b2, _, _, _⟩ := hC
  by_cases h1 : n < 1
  · go_enter Tryz.func69, Tryz.ntmps69
    go_wp2_with fail
    go_ret
    exact ⟨rfl, hbx⟩
  · by_cases h2 : 128 < n
    · go_enter Tryz.func69, Tryz.ntmps69
      go_wp2_with fail
      go_ret
      exact ⟨rfl, hbx⟩
    · by_cases h3 : nl = n
      · by_cases h4 : nr = n
        · have h5 : ¬ rowP c.start n := by
            rcases h with h | h | h | h | h
            · omega
            · omega
            · omega
            · omega
            · exact h
          have H5 := Lib.hid h5
          subst h3 h4
          clear h h5
          go_enter Tryz.func69, Tryz.ntmps69
          go_wp2_with (go_at_call 147; (with_reducible refine (rplains_any _ c.start nr _ hs' (by omega)).mono ?_); rintro e9 w9 ⟨⟨b9, rfl, hb9⟩, hbel9⟩; obtain rfl : b9 = false := Bool.eq_false_iff.2 (fun h => H5.out (hb9.1 h)); clear hb9)
          go_ret
          exact ⟨rfl, below_then hbx hbel9⟩
        · have h4b : (((nr : Nat) : Int) != (n : Nat)) = true := by simp; omega
          subst h3
          clear h
          go_enter Tryz.func69, Tryz.ntmps69
          go_wp2_with fail
          go_ret
          exact ⟨rfl, hbx⟩
      · have h3b : (((nl : Nat) : Int) != (n : Nat)) = true := by simp; omega
        clear h
        go_enter Tryz.func69, Tryz.ntmps69
        go_wp2_with fail
        go_ret
        exact ⟨rfl, hbx⟩
set_option maxRecDepth 100000 in
set_option maxHeartbeats 3200000 in
theorem rvalid_rest (va : Value) (c : RC) (w : World) (ha : ChainN w va c) (h1 : 1 ≤ c.start.length) (h2 : c.start.length ≤ 128) (h3 : c.lost.length = c.start.length) (h4 : c.rates.length = c.start.length) (h5 : rowP c.start c.start.length) :
    Calls Tryz.prog 69 #[va] w (RValid w c) := by
  obtain ⟨rv, sv, lv, rfl, hr, hs, hl⟩ := ha
  obtain ⟨ra, rn, rk, rfl, r1, r2, r3⟩ := hr.sl
  obtain ⟨sa, sn, sk, rfl, s1, s2, s3⟩ := hs.sl
  obtain ⟨la, ln, lk, rfl, l1, l2, l3⟩ := CellsV.sl hl
  have hrl : rn = c.start.length := hr.len.trans h4
  have hsl : sn = c.start.length := hs.len
  have hll : ln = c.start.length := hl.len.trans h3
  subst hrl hsl hll
  clear r1 r2 r3 s1 s2 s3 l1 l2 l3
  have hbx := below_alloc w (.cells #[.slice ra c.start.length rk, .slice sa c.start.length sk, .slice la c.start.length lk] 28)
  have hs' := hs.below hbx
  have hr' := hr.below hbx
  have hl' := hl.below hbx
  have hc3 := C3.new w 28 (.slice ra c.start.length rk) (.slice sa c.start.length sk) (.slice la c.start.length lk)
  have H3 := Lib.hid h3
  have H4 := Lib.hid h4
  have H5 := Lib.hid h5
  have HVAL : Hid (validP c ↔ (∀ i r, c.rates[i]? = some r → stateP c i r) ∧ lsum (qs c.start) = 1) := Lib.hid ⟨fun h => ⟨h.2.2.2.2.2.1, h.2.2.2.2.2.2⟩, fun h => ⟨h1, h2, h3, h4, h5, h.1, h.2⟩⟩
  clear h3 h4 h5 hs hr hl
  generalize hn : c.start.length = n at *
  have HSTP : Hid (∀ i r, (rowP r n ∧ (∀ x, r[i]? = some x → x.q.num = 0) ∧ (c.lost[i]? = some true → ∀ x ∈ r, x.q.num = 0)) ↔ stateP c i r) := Lib.hid (fun i r => by unfold stateP; rw [hn, wts_all])
  have HN6 : Hid (n ≤ 65536) := Lib.hid (by omega)
  clear hn
  go_enter Tryz.func69, Tryz.ntmps69
  go_wp2_with fail
  have hd1 : decide ((n : Int) < 1) = false := decide_eq_false (by omega)
  have hd2 : decide ((128 : Int) < (n : Int)) = false := decide_eq_false (by omega)
  generalize hW : w.alloc (.cells #[.slice ra n rk, .slice sa n sk, .slice la n lk] 28) = W at *
  clear hW
  have HC3 := Lib.hid hc3
  obtain ⟨_, b0, b1, b2, b3, b4, b5⟩ := hc3
  go_wp2_with (go_at_call 147; (with_reducible refine (rplains_any _ c.start n _ hs' HN6.out).mono ?_); rintro e9 w1 ⟨⟨b9, rfl, hb9⟩, hb1⟩; obtain rfl : b9 = true := hb9.2 H5.out; clear hb9; obtain ⟨_, f0, f1, f2, f3, f4, f5⟩ := HC3.out.belowS hb1)
  clear b0 b1 b2 b3 b4 b5 f0 f1 f2 f3 f4 f5 hd1 hd2
  have slR := hr'.sl
  have slS := hs'.sl
  have slL : IsSl (.slice la n lk) := CellsV.sl hl'
  go_loopw [4] (fun u4 wr => ∃ (k : Nat), k ≤ n ∧ u4 = .int .i64 k ∧ (∀ i r, i < k → c.rates[i]? = some r → stateP c i r) ∧ Below W.heap.size W wr) (fun u4 _ => n - (intOf u4).toNat)
  case atStart => exact ⟨0, Nat.zero_le _, rfl, fun i r h => by omega, hb1⟩
  case round =>
    obtain ⟨k, hk, rfl, hst, hb⟩ := hrel
    clear hb1
    have HST := Lib.hid hst
    have HBW := Lib.hid hb
    clear hst
    have HC := Lib.hid (HC3.out.belowS hb)
    obtain ⟨_, b0, b1, b2, b3, b4, b5⟩ := HC3.out.belowS hb
    by_cases hkn : k < n
    · have hkr : k < c.rates.length := by rw [H4.out]; exact hkn
      have hkl : k < c.lost.length := by rw [H3.out]; exact hkn
      obtain ⟨rv, hrc, hrw⟩ := (hr'.below hb).at' k hkr
      have hlc := (hl'.below hb).at' k hkl
      have HRK : Hid (c.rates[k]? = some (c.rates[k]'hkr)) := Lib.hid (List.getElem?_eq_getElem hkr)
      have HLK : Hid (c.lost[k]? = some (c.lost[k]'hkl)) := Lib.hid (List.getElem?_eq_getElem hkl)
      generalize c.rates[k]'hkr = l at *
      generalize c.lost[k]'hkl = lo at *
      have HNO : Hid (¬ stateP c k l → ¬ validP c) := Lib.hid (fun h h' => h ((HVAL.out.1 h').1 k l HRK.out))
      have HYES : Hid (stateP c k l → ∀ i r, i < k + 1 → c.rates[i]? = some r → stateP c i r) := Lib.hid (fun h i r hi hr => by
        rcases Nat.lt_or_ge i k with h6 | h6
        · exact HST.out i r h6 hr
        · obtain rfl : i = k := by omega
          rw [HRK.out] at hr
          injection hr with hr
          subst hr
          exact h)
      clear hkr hkl
      obtain ⟨ea, en, ek, rfl, e1, e2, e3⟩ := hrw.sl
      have slW := hrw.sl
      have hen : en = l.length := hrw.len
      subst hen
      have i1 : (0 : Int) ≤ (k : Int) := by omega
      have i2 : (k : Int) < (n : Int) := by omega
      by_cases hrow : rowP l n
      · have hll : l.length = n := hrow.2.1
        have hkl : k < l.length := by omega
        obtain ⟨xa, xb, c1, c2, c3, hxa, hxb⟩ := hrw.at' k hkl
        obtain ⟨c1a, c1l, c1k, rfl, _⟩ := hxa.slen.1
        obtain ⟨c2a, c2l, c2k, rfl, _⟩ := hxb.slen.1
        have HXK : Hid (l[k]? = some (l[k]'hkl)) := Lib.hid (List.getElem?_eq_getElem hkl)
        have HXO : Hid ((l[k]'hkl).ok) := Lib.hid ((hrow.1 _ (List.getElem_mem hkl)).1)
        have HROW := Lib.hid hrow
        have HLL := Lib.hid hll
        have HRW := Lib.hid hrw
        generalize l[k]'hkl = x at *
        have HXN : Hid (FracN wr (.agg #[.bool x.neg, .slice c1a c1l c1k, .slice c2a c2l c2k]) x.neg x.n x.d) := Lib.hid ⟨_, _, rfl, hxa, hxb⟩
        rw [hll] at hrc slW c1 c2 c3
        clear hrow hll hxa hxb hkl hrw
        have HRW2 : Hid (FracsN wr (.slice ea n ek) l) := Lib.hid (by rw [← HLL.out]; exact HRW.out)
        by_cases hz : x.q.num = 0
        · have HSG := Lib.hid ((cmpR_num x.q).2 hz)
          have HXZ : Hid (∀ y, l[k]? = some y → y.q.num = 0) := Lib.hid (fun y hy => by rw [HXK.out] at hy; injection hy with hy; rw [← hy]; exact hz)
          clear hz
          go_wp2_with (first
            | (go_at_call 147; (with_reducible refine (rplains_any _ l n _ HRW2.out HN6.out).mono ?_); rintro e9 w1 ⟨⟨b9, rfl, hb9⟩, hb1⟩; obtain rfl : b9 = true := hb9.2 HROW.out; clear hb9
               have hrc := cell_below hb1 hrc
               have c1 := cell_below hb1 c1
               have c2 := cell_below hb1 c2
               have c3 := cell_below hb1 c3
               obtain ⟨_, b0, b1, b2, b3, b4, b5⟩ := HC.out.belowS hb1
               )
            | (go_at_call 34; (with_reducible refine (r2sign_q _ x _ (HXN.out.below hb1) HXO.out).mono ?_); rintro e w2 ⟨rfl, hb2⟩; rw [HSG.out]
               have hb12 := below_then hb1 hb2
               have hrc := cell_below hb2 hrc
               have hlc := cell_below hb12 hlc
               obtain ⟨_, b0, b1, b2, b3, b4, b5⟩ := HC.out.belowS hb12
               ))
          have HB12 := Lib.hid hb12
          have HRW3 := Lib.hid (HRW2.out.below hb12)
          have HC2 := Lib.hid (HC.out.belowS hb12)
          clear b0 b1 b2 b3 b4 b5 c1 c2 c3 hb1 hb2 hb12 hb
          go_loopw [5] (fun u5 wi => ∃ (j : Nat), j ≤ n ∧ u5 = .int .i64 j ∧ (∀ y, y < j → ∀ z, l[y]? = some z → z.q.num = 0) ∧ Below w2.heap.size w2 wi) (fun u5 _ => n - (intOf u5).toNat)
          case atStart => exact ⟨0, Nat.zero_le _, rfl, fun y h => by omega, Below.refl _ _⟩
          case round =>
            obtain ⟨j, hj, rfl, hjz, hbi⟩ := hrel
            have HJZ := Lib.hid hjz
            have HBI := Lib.hid hbi
            clear hjz
            have hrc2 := cell_below hbi hrc
            have hlc2 := cell_below hbi hlc
            obtain ⟨_, b0, b1, b2, _, _, _⟩ := HC2.out.belowS hbi
            rcases lo with _ | _
            · have HOK := Lib.hid (HYES.out ((HSTP.out k l).1 ⟨HROW.out, HXZ.out, fun h => by rw [HLK.out] at h; injection h with h; cases h⟩))
              have hbE := HBW.out.trans ((HB12.out.trans (hbi.mono HB12.out.size)).mono HBW.out.size)
              by_cases hjn : j < n
              · go_wp2_with fail
                go_roundw
                case rel => exact ⟨k + 1, hkn, by go_num, HOK.out, hbE⟩
                case measure => simp [intOf]; omega
              · obtain rfl : j = n := by omega
                go_wp2_with fail
                go_roundw
                case rel => exact ⟨k + 1, hkn, by go_num, HOK.out, hbE⟩
                case measure => simp [intOf]; omega
            · by_cases hjn : j < n
              · have hjl : j < l.length := by rw [HLL.out]; exact hjn
                obtain ⟨za, zb, d1, d2, d3, hza, hzb⟩ := (HRW3.out.below hbi).at' j hjl
                obtain ⟨d1a, d1l, d1k, rfl, _⟩ := hza.slen.1
                obtain ⟨d2a, d2l, d2k, rfl, _⟩ := hzb.slen.1
                have HYK : Hid (l[j]? = some (l[j]'hjl)) := Lib.hid (List.getElem?_eq_getElem hjl)
                have HYM : Hid ((l[j]'hjl) ∈ l) := Lib.hid (List.getElem_mem hjl)
                have HYO : Hid ((l[j]'hjl).ok) := Lib.hid ((HROW.out.1 _ (List.getElem_mem hjl)).1)
                generalize l[j]'hjl = y at *
                have HYN : Hid (FracN wr (.agg #[.bool y.neg, .slice d1a d1l d1k, .slice d2a d2l d2k]) y.neg y.n y.d) := Lib.hid ⟨_, _, rfl, hza, hzb⟩
                have i3 : (0 : Int) ≤ (j : Int) := by omega
                have i4 : (j : Int) < (n : Int) := by omega
                clear hza hzb hjl
                by_cases hy : y.q.num = 0
                · have HSY := Lib.hid ((cmpR_num y.q).2 hy)
                  have HJ1 : Hid (∀ y', y' < j + 1 → ∀ z, l[y']? = some z → z.q.num = 0) := Lib.hid (fun y' hy' z hz => by
                    rcases Nat.lt_or_ge y' j with h6 | h6
                    · exact HJZ.out y' h6 z hz
                    · obtain rfl : y' = j := by omega
                      rw [HYK.out] at hz
                      injection hz with hz
                      subst hz
                      exact hy)
                  clear hy
                  go_wp2_with (first
                    | (go_at_call 34; (with_reducible refine (r2sign_q _ y _ HYN.out HYO.out).mono ?_); rintro e w3 ⟨rfl, hb3⟩; rw [HSY.out]))
                  go_roundw
                  case rel => exact ⟨j + 1, hjn, by go_num, HJ1.out, below_then hbi hb3⟩
                  case measure => simp [intOf]; omega
                · have HN := Lib.hid (HNO.out (fun h => hy (((HSTP.out k l).2 h).2.2 HLK.out y HYM.out)))
                  obtain ⟨sg, hsg⟩ : ∃ sg, cmpR y.q 0 = sg := ⟨_, rfl⟩
                  have hsb : (sg != 0) = true := by
                    have : sg ≠ 0 := fun h => hy ((cmpR_num y.q).1 (hsg.trans h))
                    simpa using this
                  have HSY := Lib.hid hsg
                  clear hy hsg
                  go_wp2_with (first
                    | (go_at_call 34; (with_reducible refine (r2sign_q _ y _ HYN.out HYO.out).mono ?_); rintro e w3 ⟨rfl, hb3⟩; rw [HSY.out]))
                  go_ret
                  exact RValid.no HN.out (hbx.trans ((HBW.out.trans ((HB12.out.trans ((below_then hbi hb3).mono HB12.out.size)).mono HBW.out.size)).mono hbx.size))
              · obtain rfl : j = n := by omega
                have HOK := Lib.hid (HYES.out ((HSTP.out k l).1 ⟨HROW.out, HXZ.out, fun _ z hz => by
                  obtain ⟨y, hy, rfl⟩ := List.getElem_of_mem hz
                  exact HJZ.out y (by rw [← HLL.out]; exact hy) _ (List.getElem?_eq_getElem hy)⟩))
                have hbE := HBW.out.trans ((HB12.out.trans (hbi.mono HB12.out.size)).mono HBW.out.size)
                go_wp2_with fail
                go_roundw
                case rel => exact ⟨k + 1, hkn, by go_num, HOK.out, hbE⟩
                case measure => simp [intOf]; omega
        · have HN := Lib.hid (HNO.out (fun h => hz (((HSTP.out k l).2 h).2.1 x HXK.out)))
          obtain ⟨sg, hsg⟩ : ∃ sg, cmpR x.q 0 = sg := ⟨_, rfl⟩
          have hsb : (sg != 0) = true := by
            have : sg ≠ 0 := fun h => hz ((cmpR_num x.q).1 (hsg.trans h))
            simpa using this
          have HSG := Lib.hid hsg
          clear hz hsg
          go_wp2_with (first
            | (go_at_call 147; (with_reducible refine (rplains_any _ l n _ HRW2.out HN6.out).mono ?_); rintro e9 w1 ⟨⟨b9, rfl, hb9⟩, hb1⟩; obtain rfl : b9 = true := hb9.2 HROW.out; clear hb9
               have hrc := cell_below hb1 hrc
               have c1 := cell_below hb1 c1
               have c2 := cell_below hb1 c2
               have c3 := cell_below hb1 c3
               obtain ⟨_, b0, b1, b2, b3, b4, b5⟩ := HC.out.belowS hb1
               )
            | (go_at_call 34; (with_reducible refine (r2sign_q _ x _ (HXN.out.below hb1) HXO.out).mono ?_); rintro e w2 ⟨rfl, hb2⟩; rw [HSG.out]
               have hb12 := below_then hb1 hb2))
          go_ret
          exact RValid.no HN.out (hbx.trans ((below_then HBW.out hb12).mono hbx.size))
      · have HB := Lib.hid (HNO.out (fun h => hrow ((HSTP.out k l).2 h).1))
        have HR := Lib.hid hrow
        clear hrow
        go_wp2_with (go_at_call 147; (with_reducible refine (rplains_any _ l n _ hrw HN6.out).mono ?_); rintro e9 w1 ⟨⟨b9, rfl, hb9⟩, hb1⟩; obtain rfl : b9 = false := Bool.eq_false_iff.2 (fun h => HR.out (hb9.1 h)); clear hb9)
        go_ret
        exact RValid.no HB.out (hbx.trans ((below_then hb hb1).mono hbx.size))
    · obtain rfl : k = n := by omega
      have HALL : Hid (∀ i r, c.rates[i]? = some r → stateP c i r) := Lib.hid (fun i r h => HST.out i r (by
        obtain ⟨h6, _⟩ := List.getElem?_eq_some_iff.1 h
        have := H4.out; omega) h)
      have HOKS : Hid (∀ x ∈ c.start, x.ok) := Lib.hid H5.out.ok
      have HFIT : Hid (∀ j, j ≤ c.start.length → fits (lsum (qs (c.start.take j)))) := Lib.hid (fun j _ => H5.out.fits j)
      have HFS : Hid (fits (lsum (qs c.start))) := Lib.hid (by have h6 := H5.out.fits c.start.length; rw [List.take_length] at h6; exact h6)
      go_wp2_with (go_at_call 148; (with_reducible refine (r2sum_fit _ c.start _ (hs'.below hb) HOKS.out HFIT.out).mono ?_); rintro e w1 ⟨v, rfl, hv, hb1⟩
                   obtain ⟨t9, x9, y9, rfl, ⟨a1, l91, k1, rfl, _⟩, ⟨a2, l92, k2, rfl, _⟩⟩ := hv.isF)
      have hv6 := hv.below (below_alloc w1 (.cells #[.bool t9, .slice a1 l91 k1, .slice a2 l92 k2] 38))
      have hc6 := C3.new w1 38 (.bool t9) (.slice a1 l91 k1) (.slice a2 l92 k2)
      have hb6 := below_then (below_then hb hb1) (below_alloc w1 (.cells #[.bool t9, .slice a1 l91 k1, .slice a2 l92 k2] 38))
      generalize w1.alloc (.cells #[.bool t9, .slice a1 l91 k1, .slice a2 l92 k2] 38) = W6 at *
      have hdr := below_drew (B := W6.heap.size) W6
      have hv7 := hv6.below hdr
      have HC7 := Lib.hid (hc6.belowS hdr)
      have hb7 := below_then hb6 hdr
      clear hv hv6 hb1 hb6 hb b0 b1 b2 b3 b4 b5 hs' hr' hl'
      obtain ⟨_, q1, q2, q3, q4, q5, q6⟩ := hc6.belowS hdr
      clear hc6
      generalize w1.heap.size = B6 at *
      have HF1 := Lib.hid fits_one
      have tok1 : True := trivial
      go_region_held3 (fun w' => w'.cell? ⟨B6, 0, none⟩ = some (.bool t9) ∧ w'.cell? ⟨B6, 1, none⟩ = some (.slice a1 l91 k1) ∧ w'.cell? ⟨B6, 2, none⟩ = some (.slice a2 l92 k2)) (exact ⟨q1, q2, q3⟩) (first
        | (go_at_call 49; (with_reducible refine (r2valid_can _ _ _ hv7 HFS.out).mono ?_); rintro e8 w7 ⟨rfl, hb8a⟩
           obtain ⟨_, q1, q2, q3, q4, q5, q6⟩ := HC7.out.belowS hb8a
           have HC8 := Lib.hid (HC7.out.belowS hb8a)
           have hv8a := hv7.below hb8a)
        | (go_at_call 20; (with_reducible refine (r2int_one _).mono ?_); rintro e8 w8 ⟨v1, rfl, hv1, hb8⟩
           obtain ⟨_, q1, q2, q3, q4, q5, q6⟩ := HC8.out.belowS hb8
           have HC9 := Lib.hid (HC8.out.belowS hb8)
           have hv8 := hv8a.below hb8)
        | (go_at_call 33; (with_reducible refine (FracC.same hv8 hv1 HFS.out HF1.out).mono ?_); rintro e9 w9 ⟨rfl, hb9⟩
           obtain ⟨_, q1, q2, q3, q4, q5, q6⟩ := HC9.out.belowS hb9))
      go_wp2
      go_ret
      refine ⟨⟨_, rfl, ?_⟩, hbx.trans ((below_then (below_then (below_then hb7 hb8a) hb8) hb9).mono hbx.size)⟩
      rw [HVAL.out]
      exact ⟨fun h => ⟨HALL.out, by simpa using h⟩, fun h => by simpa using h.2⟩
/-- Valid decides whether a chain is valid. -/
theorem rvalid_chain (va : Value) (c : RC) (w : World) (ha : ChainN w va c) : Calls Tryz.prog 69 #[va] w (RValid w c) := by
  by_cases h : c.start.length < 1 ∨ 128 < c.start.length ∨ c.lost.length ≠ c.start.length ∨ c.rates.length ≠ c.start.length ∨ ¬ rowP c.start c.start.length
  · refine (rvalid_false1 va c w ha h).mono fun e w' ⟨h1, h2⟩ => ?_
    rw [h1]
    refine RValid.no (fun hv => ?_) h2
    obtain ⟨v1, v2, v3, v4, v5, _⟩ := hv
    rcases h with h | h | h | h | h
    · omega
    · omega
    · exact h v3
    · exact h v4
    · exact h v5
  · exact rvalid_rest va c w ha (Nat.le_of_not_lt fun h1 => h (Or.inl h1)) (Nat.le_of_not_lt fun h1 => h (Or.inr (Or.inl h1))) (Decidable.of_not_not fun h1 => h (Or.inr (Or.inr (Or.inl h1)))) (Decidable.of_not_not fun h1 => h (Or.inr (Or.inr (Or.inr (Or.inl h1))))) (Decidable.of_not_not fun h1 => h (Or.inr (Or.inr (Or.inr (Or.inr h1)))))
end Go.Proofs.YtlpdkbmmbdfoiaaGreat
