/-
  package drydockref01: plus, minus, times.
  Ahead of it: package chain: Valid, the states. package drydockref01: Trim, Make, large, Cmp.
-/
import Derived.Test.YtlpdkbmmbdfoiaaGreatCCh3
import Derived.Test.YtlpdkbmmbdfoiaaGreatCMath2
namespace Go.Proofs.YtlpdkbmmbdfoiaaGreat
set_option linter.unusedVariables false
set_option linter.unusedSimpArgs false
open Go.RowKit

theorem matN_one (w : World) (ea : Option Addr) (ek : Nat) (l : List RF) (h : FracsN w (.slice ea l.length ek) l) :
    MatN (w.alloc (.cells #[.slice ea l.length ek] 25)) (.slice (some ⟨w.heap.size, 0, none⟩) 1 1) [l] :=
  ⟨⟨_, 1, 1, rfl, Nat.le_refl _, by simp [maxLen], fun e => by cases e⟩, rfl, fun j hj => by
    have hj0 : j = 0 := by simp at hj; omega
    subst hj0
    exact ⟨_, by simp [ptr, base, Addr.add], h.below (below_alloc _ _)⟩⟩
set_option maxRecDepth 100000 in
set_option maxHeartbeats 3200000 in
theorem valid_rest (va : Value) (c : RC) (w : World) (ha : ChainN w va c) (h1 : 1 ≤ c.start.length) (h2 : c.start.length ≤ 128) (h3 : c.lost.length = c.start.length) (h4 : c.rates.length = c.start.length) (h5 : rowP c.start c.start.length) :
    Calls Tryz.prog 68 #[va] w (RValid w c) := by
  obtain ⟨rv, sv, lv, rfl, hr, hs, hl⟩ := ha
  obtain ⟨ra, rn, rk, rfl, r1, r2, r3⟩ := hr.sl
  obtain ⟨sa, sn, sk, rfl, s1, s2, s3⟩ := hs.sl
  obtain ⟨la, ln, lk, rfl, l1, l2, l3⟩ := CellsV.sl hl
  have hrl : rn = c.start.length := hr.len.trans h4
  have hsl : sn = c.start.length := hs.len
  have hll : ln = c.start.length := hl.len.trans h3
  subst hrl hsl hll
  clear r1 r2 r3 s1 s2 s3 l1 l2 l3
  have hbx := below_alloc w (.cells #[.slice ra c.start.length rk, .slice sa c.start.length sk, .slice la c.start.length lk] 28)
  have hs' := hs.below hbx
  have hr' := hr.below hbx
  have hl' := hl.below hbx
  have hc3 := C3.new w 28 (.slice ra c.start.length rk) (.slice sa c.start.length sk) (.slice la c.start.length lk)
  have H3 := Lib.hid h3
  have H4 := Lib.hid h4
  have H5 := Lib.hid h5
  have HVAL : Hid (validP c ↔ (∀ i r, c.rates[i]? = some r → stateP c i r) ∧ lsum (qs c.start) = 1) := Lib.hid ⟨fun h => ⟨h.2.2.2.2.2.1, h.2.2.2.2.2.2⟩, fun h => ⟨h1, h2, h3, h4, h5, h.1, h.2⟩⟩
  clear h3 h4 h5 hs hr hl
  generalize hn : c.start.length = n at *
  have HSTP : Hid (∀ i r, (rowP r n ∧ (∀ x, r[i]? = some x → x.q.num = 0) ∧ (c.lost[i]? = some true → wts (qs r) = 0)) ↔ stateP c i r) := Lib.hid (fun i r => by unfold stateP; rw [hn])
  have HNE := Lib.hid hn
  have HN6 : Hid (n ≤ 65536) := Lib.hid (by omega)
  clear hn
  go_enter Tryz.func68, Tryz.ntmps68
  go_wp2_with fail
  have hd1 : decide ((n : Int) < 1) = false := decide_eq_false (by omega)
  have hd2 : decide ((128 : Int) < (n : Int)) = false := decide_eq_false (by omega)
  generalize hW : w.alloc (.cells #[.slice ra n rk, .slice sa n sk, .slice la n lk] 28) = W at *
  clear hW
  have HC3 := Lib.hid hc3
  obtain ⟨_, b0, b1, b2, b3, b4, b5⟩ := hc3
  go_wp2_with (go_at_call 144; (with_reducible refine (row_any _ c.start n _ hs' HN6.out).mono ?_); rintro e w1 ⟨rfl, hb1⟩; rw [decide_eq_true H5.out]; obtain ⟨_, f0, f1, f2, f3, f4, f5⟩ := HC3.out.belowS hb1)
  clear b0 b1 b2 b3 b4 b5 f0 f1 f2 f3 f4 f5 hd1 hd2
  have slR := hr'.sl
  have slS := hs'.sl
  have slL : IsSl (.slice la n lk) := CellsV.sl hl'
  go_loopw [43] (fun u43 wr => ∃ (k : Nat), k ≤ n ∧ u43 = .int .i64 k ∧ (∀ i r, i < k → c.rates[i]? = some r → stateP c i r) ∧ Below W.heap.size W wr) (fun u43 _ => n - (intOf u43).toNat)
  case atStart => exact ⟨0, Nat.zero_le _, rfl, fun i r h => by omega, hb1⟩
  case round =>
    obtain ⟨k, hk, rfl, hst, hb⟩ := hrel
    clear hb1
    have HST := Lib.hid hst
    clear hst
    have HC := Lib.hid (HC3.out.belowS hb)
    obtain ⟨_, b0, b1, b2, b3, b4, b5⟩ := HC3.out.belowS hb
    by_cases hkn : k < n
    · have hkr : k < c.rates.length := by rw [H4.out]; exact hkn
      have hkl : k < c.lost.length := by rw [H3.out]; exact hkn
      obtain ⟨rv, hrc, hrw⟩ := (hr'.below hb).at' k hkr
      have hlc := (hl'.below hb).at' k hkl
      have HRK : Hid (c.rates[k]? = some (c.rates[k]'hkr)) := Lib.hid (List.getElem?_eq_getElem hkr)
      have HLK : Hid (c.lost[k]? = some (c.lost[k]'hkl)) := Lib.hid (List.getElem?_eq_getElem hkl)
      generalize c.rates[k]'hkr = l at *
      generalize c.lost[k]'hkl = lo at *
      have HNO : Hid (¬ stateP c k l → ¬ validP c) := Lib.hid (fun h h' => h ((HVAL.out.1 h').1 k l HRK.out))
      have HYES : Hid (stateP c k l → ∀ i r, i < k + 1 → c.rates[i]? = some r → stateP c i r) := Lib.hid (fun h i r hi hr => by
        rcases Nat.lt_or_ge i k with h6 | h6
        · exact HST.out i r h6 hr
        · obtain rfl : i = k := by omega
          rw [HRK.out] at hr
          injection hr with hr
          subst hr
          exact h)
      clear hkr hkl
      obtain ⟨ea, en, ek, rfl, e1, e2, e3⟩ := hrw.sl
      have slW := hrw.sl
      have hen : en = l.length := hrw.len
      subst hen
      by_cases hrow : rowP l n
      · have hll : l.length = n := hrow.2.1
        have hkl : k < l.length := by omega
        obtain ⟨xa, xb, c1, c2, c3, hxa, hxb⟩ := hrw.at' k hkl
        obtain ⟨c1a, c1l, c1k, rfl, _⟩ := hxa.slen.1
        obtain ⟨c2a, c2l, c2k, rfl, _⟩ := hxb.slen.1
        have HXK : Hid (l[k]? = some (l[k]'hkl)) := Lib.hid (List.getElem?_eq_getElem hkl)
        have HXP := Lib.hid (hrow.1 _ (List.getElem_mem hkl))
        have HROW := Lib.hid hrow
        have HLL := Lib.hid hll
        generalize l[k]'hkl = x at *
        have hxN : FracN wr (.agg #[.bool x.neg, .slice c1a c1l c1k, .slice c2a c2l c2k]) x.neg x.n x.d := ⟨_, _, rfl, hxa, hxb⟩
        clear hrow hll hxa hxb
        by_cases hz : x.q.num = 0
        · have HAB := Lib.hid (RF.above_zero HXP.out.1 hz)
          have HXZ : Hid (∀ y, l[k]? = some y → y.q.num = 0) := Lib.hid (fun y hy => by rw [HXK.out] at hy; injection hy with hy; rw [← hy]; exact hz)
          clear hz
          rcases lo with _ | _
          · have HOK := Lib.hid (HYES.out ((HSTP.out k l).1 ⟨HROW.out, HXZ.out, fun h => by rw [HLK.out] at h; injection h with h; cases h⟩))
            go_wp2_with (first
              | (go_at_call 144; (with_reducible refine (row_any _ l n _ hrw HN6.out).mono ?_); rintro e w1 ⟨rfl, hb1⟩; rw [decide_eq_true HROW.out]
                 have d1 := cell_below hb1 c1
                 have d2 := cell_below hb1 c2
                 have d3 := cell_below hb1 c3
                 )
              | (go_at_call 145; (with_reducible refine (above_any _ x.neg x.n x.d _ (hxN.below hb1)).mono ?_); rintro e w2 ⟨rfl, hb2⟩; rw [HAB.out]
                 obtain ⟨_, f0, f1, f2, f3, f4, f5⟩ := (HC.out.belowS hb1).belowS hb2
                 have hlc2 := cell_below (below_then hb1 hb2) hlc
                 ))
            go_roundw
            case rel => exact ⟨k + 1, hkn, by go_num, HOK.out, below_then (below_then hb hb1) hb2⟩
            case measure => simp [intOf]; omega
          · have HWT : Hid (wts (qs l) = 0 → ∀ i r, i < k + 1 → c.rates[i]? = some r → stateP c i r) := Lib.hid (fun h => HYES.out ((HSTP.out k l).1 ⟨HROW.out, HXZ.out, fun _ => h⟩))
            have HWF : Hid (0 < wts (qs l) → ¬ validP c) := Lib.hid (fun h => HNO.out (fun h' => by have := ((HSTP.out k l).2 h').2.2 HLK.out; omega))
            have HOKS : Hid (∀ l' ∈ [l], ∀ x ∈ l', x.ok) := Lib.hid (fun l' h x hx => by simp at h; subst h; exact (HROW.out.1 x hx).1)
            have HLLS : Hid (∀ l' ∈ [l], l'.length ≤ 65536) := Lib.hid (fun l' h => by simp at h; subst h; have := HLL.out; omega)
            have HLEN : Hid ([l].length ≤ 65536) := Lib.hid (by simp)
            have HW1 := Lib.hid (wtsM_one l)
            go_wp2_with (first
              | (go_at_call 144; (with_reducible refine (row_any _ l n _ hrw HN6.out).mono ?_); rintro e w1 ⟨rfl, hb1⟩; rw [decide_eq_true HROW.out]
                 have d1 := cell_below hb1 c1
                 have d2 := cell_below hb1 c2
                 have d3 := cell_below hb1 c3
                 )
              | (go_at_call 145; (with_reducible refine (above_any _ x.neg x.n x.d _ (hxN.below hb1)).mono ?_); rintro e w2 ⟨rfl, hb2⟩; rw [HAB.out]
                 obtain ⟨_, f0, f1, f2, f3, f4, f5⟩ := (HC.out.belowS hb1).belowS hb2
                 have hlc2 := cell_below (below_then hb1 hb2) hlc
                 have hb4 := below_then (below_then hb1 hb2) (below_alloc w2 (.cells #[.slice ea l.length ek] 25))
                 have HM := Lib.hid (matN_one w2 ea ek l (hrw.below (below_then hb1 hb2)))
                 )
              | (go_at_call 146; (with_reducible refine (weight_any _ [l] _ HM.out HOKS.out HLLS.out HLEN.out).mono ?_); rintro e w3 ⟨rfl, hb3⟩; rw [HW1.out]))
            · go_ret
              exact RValid.no (HWF.out (by assumption)) (hbx.trans ((below_then (below_then hb hb4) hb3).mono hbx.size))
            · go_roundw
              case rel => exact ⟨k + 1, hkn, by go_num, HWT.out (by omega), below_then (below_then hb hb4) hb3⟩
              case measure => simp [intOf]; omega
        · have HB := Lib.hid (HNO.out (fun h => hz (h.2.1 x HXK.out)))
          have HAB := Lib.hid (RF.above_pos HXP.out.1 HXP.out.2.1 hz)
          clear hz
          go_wp2_with (first
            | (go_at_call 144; (with_reducible refine (row_any _ l n _ hrw HN6.out).mono ?_); rintro e w1 ⟨rfl, hb1⟩; rw [decide_eq_true HROW.out]
               have d1 := cell_below hb1 c1
               have d2 := cell_below hb1 c2
               have d3 := cell_below hb1 c3)
            | (go_at_call 145; (with_reducible refine (above_any _ x.neg x.n x.d _ (hxN.below hb1)).mono ?_); rintro e w2 ⟨rfl, hb2⟩; rw [HAB.out]))
          go_ret
          exact RValid.no HB.out (hbx.trans ((below_then (below_then hb hb1) hb2).mono hbx.size))
      · have HB := Lib.hid (HNO.out (fun h => hrow ((HSTP.out k l).2 h).1))
        have HR := Lib.hid hrow
        clear hrow
        go_wp2_with (go_at_call 144; (with_reducible refine (row_any _ l n _ hrw HN6.out).mono ?_); rintro e w1 ⟨rfl, hb1⟩; rw [decide_eq_false HR.out])
        go_ret
        exact RValid.no HB.out (hbx.trans ((below_then hb hb1).mono hbx.size))
    · obtain rfl : k = n := by omega
      have HALL : Hid (∀ i r, c.rates[i]? = some r → stateP c i r) := Lib.hid (fun i r h => HST.out i r (by
        obtain ⟨h6, _⟩ := List.getElem?_eq_some_iff.1 h
        have := H4.out; omega) h)
      have HOKS : Hid (∀ x ∈ c.start, x.ok) := Lib.hid H5.out.ok
      have HFIT : Hid (∀ j, j ≤ c.start.length → fits (lsum (qs (c.start.take j)))) := Lib.hid (fun j _ => H5.out.fits j)
      have HFS : Hid (fits (lsum (qs c.start))) := Lib.hid (by have h6 := H5.out.fits c.start.length; rw [List.take_length] at h6; exact h6)
      go_wp2_with (go_at_call 137; (with_reducible refine (sum_frac _ c.start _ (hs'.below hb) HOKS.out HFIT.out).mono ?_); rintro e w1 ⟨v, rfl, hv, hb1⟩
                   obtain ⟨t9, x9, y9, rfl, ⟨a1, l91, k1, rfl, _⟩, ⟨a2, l92, k2, rfl, _⟩⟩ := hv.isF)
      have hv6 := hv.below (below_alloc w1 (.cells #[.bool t9, .slice a1 l91 k1, .slice a2 l92 k2] 38))
      have hc6 := C3.new w1 38 (.bool t9) (.slice a1 l91 k1) (.slice a2 l92 k2)
      have hb6 := below_then (below_then hb hb1) (below_alloc w1 (.cells #[.bool t9, .slice a1 l91 k1, .slice a2 l92 k2] 38))
      generalize w1.alloc (.cells #[.bool t9, .slice a1 l91 k1, .slice a2 l92 k2] 38) = W6 at *
      have hdr := below_drew (B := W6.heap.size) W6
      have hv7 := hv6.below hdr
      have HC7 := Lib.hid (hc6.belowS hdr)
      have hb7 := below_then hb6 hdr
      clear hv hv6 hb1 hb6 hb b0 b1 b2 b3 b4 b5 hs' hr' hl'
      obtain ⟨_, q1, q2, q3, q4, q5, q6⟩ := hc6.belowS hdr
      clear hc6
      generalize w1.heap.size = B6 at *
      have HF1 := Lib.hid fits_one
      go_region_held3 (fun w' => w'.cell? ⟨B6, 0, none⟩ = some (.bool t9) ∧ w'.cell? ⟨B6, 1, none⟩ = some (.slice a1 l91 k1) ∧ w'.cell? ⟨B6, 2, none⟩ = some (.slice a2 l92 k2)) (exact ⟨q1, q2, q3⟩) (first
        | (go_at_call 109; (with_reducible refine (number_one _).mono ?_); rintro e8 w8 ⟨v1, rfl, hv1, hb8⟩
           obtain ⟨_, q1, q2, q3, q4, q5, q6⟩ := HC7.out.belowS hb8
           have HC8 := Lib.hid (HC7.out.belowS hb8)
           have hv8 := hv7.below hb8)
        | (go_at_call 130; (with_reducible refine (cmp_can _ v1 _ _ _ hv8 hv1 HFS.out HF1.out).mono ?_); rintro e9 w9 ⟨rfl, hb9⟩
           obtain ⟨_, q1, q2, q3, q4, q5, q6⟩ := HC8.out.belowS hb9))
      go_wp2
      go_ret
      refine ⟨⟨_, rfl, ?_⟩, hbx.trans ((below_then (below_then hb7 hb8) hb9).mono hbx.size)⟩
      rw [HVAL.out]
      have h9 := cmpR_self_iff (lsum (qs c.start)) 1
      exact ⟨fun h => ⟨HALL.out, h9.1 (by simpa using h)⟩, fun h => by simpa using h9.2 h.2⟩
/-- Valid decides whether a chain is valid. -/
theorem valid_chain (va : Value) (c : RC) (w : World) (ha : ChainN w va c) : Calls Tryz.prog 68 #[va] w (RValid w c) := by
  by_cases h : c.start.length < 1 ∨ 128 < c.start.length ∨ c.lost.length ≠ c.start.length ∨ c.rates.length ≠ c.start.length ∨ ¬ rowP c.start c.start.length
  · refine (valid_false1 va c w ha h).mono fun e w' ⟨h1, h2⟩ => ?_
    rw [h1]
    refine RValid.no (fun hv => ?_) h2
    obtain ⟨v1, v2, v3, v4, v5, _⟩ := hv
    rcases h with h | h | h | h | h
    · omega
    · omega
    · exact h v3
    · exact h v4
    · exact h v5
  · exact valid_rest va c w ha (Nat.le_of_not_lt fun h1 => h (Or.inl h1)) (Nat.le_of_not_lt fun h1 => h (Or.inr (Or.inl h1))) (Decidable.of_not_not fun h1 => h (Or.inr (Or.inr (Or.inl h1)))) (Decidable.of_not_not fun h1 => h (Or.inr (Or.inr (Or.inr (Or.inl h1))))) (Decidable.of_not_not fun h1 => h (Or.inr (Or.inr (Or.inr (Or.inr h1)))))
end Go.Proofs.YtlpdkbmmbdfoiaaGreat
namespace Go.Proofs.YtlpdkbmmbdfoiaaGreat
set_option linter.unusedVariables false
set_option linter.unusedSimpArgs false
open Go.RowKit

/-- A new canonical number, the caller's own. -/
def RNatO (w0 : World) (n : Nat) (e : Ending) (w : World) : Prop := ∃ r, e = .returned r ∧ OwnN w 142 w0.heap.size r (limbs n) ∧ nlen n ≤ 4294967296 ∧ Below w0.heap.size w0 w
theorem RNatO.nat {w0 : World} {n : Nat} {e : Ending} {w : World} (h : RNatO w0 n e w) : RNat w0 n e w := by
  obtain ⟨r, h1, h2, h3, h4⟩ := h; exact ⟨r, h1, ⟨h2.nat, h3⟩, h4⟩
theorem getD_of (l : List Nat) (j : Nat) (hj : j < l.length) : l.getD j 0 = l[j] := by simp [List.getD, hj]
set_option maxHeartbeats 400000 in
theorem rtrim_own (v : Value) (n : Nat) (w : World) (h : NatN w v n) :
    Calls Tryz.prog 106 #[v] w (RNatO w n) := by
  obtain ⟨l, hl, HE, hll⟩ := h
  have hs := hl.sl
  have hlen := hl.len
  have hle := hs.le
  have hcan := hl.can hll
  rw [HE] at hcan
  have hce : clen l = nlen n := by rw [clen_eq hl.lm, HE]
  have hcl := nlen_val_le hl.lm
  rw [HE] at hcl
  have HCE := Lib.hid hce
  clear HE hce
  have HLL := Lib.hid hll
  clear hll
  have hcs : nlen n ≤ scap v := by omega
  obtain ⟨i0, hi, hz0, hz1, hz2⟩ := info_parts Tryz.info102
  have hroom : ([] : List Nat).length + (limbs n).length ≤ 35184372088832 := by have := hcan.2; unfold nlen at this; simp; omega
  have hA := append_nat (P := Tryz.prog) 36 142 i0 Tryz.underlying36 hi hz0 hz1 hz2
  have HR := Lib.hid hroom
  have HN := Lib.hid hcan
  clear hroom hcan hi hz0 hz1 hz2
  go_enter Tryz.func106, Tryz.ntmps106
  go_wp2
  go_loop [3] (fun i => ∃ k : Nat, k ≤ l.length ∧ i = .int .i64 k ∧ clen (l.take k) = clen l) (fun i => (intOf i).toNat)
  case atStart => exact ⟨l.length, Nat.le_refl _, by simp [hlen], by rw [List.take_length]⟩
  case round =>
    obtain ⟨k, hk, rfl, hce⟩ := hrel
    have HC := Lib.hid hce; clear hce
    by_cases h1 : 0 < k ∧ l.getD (k - 1) 0 = 0
    · obtain ⟨h0, hx⟩ := h1
      obtain ⟨j, rfl⟩ : ∃ j, k = j + 1 := ⟨k - 1, by omega⟩
      have hj : j < l.length := by omega
      rw [Nat.add_sub_cancel, getD_of _ _ hj] at hx
      have hc := hl.cell j hj
      have HZ := Lib.hid (clen_take_zero l j hj hx)
      rw [hx] at hc
      clear hx
      go_wp2_with fail
      go_round
      case rel => exact ⟨j, by omega, rfl, by rw [← HC.out, HZ.out]⟩
      case measure => simp [intOf]
    · have e : nlen n = k := by
        rw [← HCE.out, ← HC.out]
        by_cases h0 : 0 < k
        · obtain ⟨j, rfl⟩ : ∃ j, k = j + 1 := ⟨k - 1, by omega⟩
          have hj : j < l.length := by omega
          exact clen_take_pos l j hj (fun hx => h1 ⟨h0, by rw [Nat.add_sub_cancel, getD_of _ _ hj, hx]⟩)
        · obtain rfl : k = 0 := by omega
          rfl
      rw [e] at HN hcs hcl
      have hc : 0 < k → ∃ x : Nat, w.cell? (ptr v (k - 1)) = some (.int .u32 x) ∧ (((x : Nat) : Int) == 0) = false := fun h0 => by
        have hj : k - 1 < l.length := by omega
        refine ⟨_, hl.cell (k - 1) hj, ?_⟩
        have : l[k - 1] ≠ 0 := fun hx => h1 ⟨h0, by rw [getD_of _ _ hj, hx]⟩
        have : ((l[k - 1] : Nat) : Int) ≠ 0 := by omega
        simpa using this
      clear h1 e
      rcases Nat.eq_zero_or_pos k with h0 | h0
      · clear hc
        subst h0
        go_wp2_with (at_builtin; refine hA w rfl _ _ rfl w.heap.size _ [] rfl (OwnN.nil _ _ _) _ rfl (limbs n) HN.out.1 HR.out (Nat.le_refl _) ?_; intro v' w1 hown _ hbel)
        go_ret
        exact ⟨v', rfl, by simpa using hown, HN.out.2, hbel⟩
      · obtain ⟨x, hx, hx3⟩ := hc h0
        clear hc
        go_wp2_with (at_builtin; refine hA w rfl _ _ rfl w.heap.size _ [] rfl (OwnN.nil _ _ _) _ rfl (limbs n) HN.out.1 HR.out (Nat.le_refl _) ?_; intro v' w1 hown _ hbel)
        go_ret
        exact ⟨v', rfl, by simpa using hown, HN.out.2, hbel⟩

theorem rtrim_any (v : Value) (n : Nat) (w : World) (h : NatN w v n) :
    Calls Tryz.prog 106 #[v] w (RNat w n) := (rtrim_own v n w h).mono fun _ _ h => h.nat

set_option maxHeartbeats 400000 in
theorem rmake_any (n : Nat) (hn : n < 18446744073709551616) (w : World) :
    Calls Tryz.prog 72 #[.int .u64 n] w (RNat w n) := by
  have HN := natV_new2 w 142 (n % 4294967296) (n / 4294967296) (by omega) (by omega)
  rw [show ((n % 4294967296 : Nat) : Int) = (n : Int) % 4294967296 from by omega, show ((n / 4294967296 : Nat) : Int) = (n : Int) / 4294967296 from by omega] at HN
  have hv : val [n % 4294967296, n / 4294967296] = n := by simp [val]; omega
  have HL := HN.natN (by simp)
  rw [hv] at HL
  have HT := Lib.hid (rtrim_any _ _ _ HL)
  have HB := Lib.hid ((Below.refl w.heap.size w).alloc (Nat.le_refl _) (.cells #[.int .u32 ((n : Int) % 4294967296), .int .u32 ((n : Int) / 4294967296)] 142))
  clear HN hv HL
  go_enter Tryz.func72, Tryz.ntmps72
  go_wp2_with (go_at_call 106; refine HT.out.mono ?_; rintro e w1 ⟨r, rfl, hr, hb⟩)
  go_ret
  exact ⟨_, rfl, hr, HB.out.trans (hb.mono HB.out.size)⟩

theorem rlarge_any (v : Value) (n : Nat) (w : World) (h : NatN w v n) :
    Calls Tryz.prog 152 #[v] w fun e w' => e = .returned (.bool (decide (512 < nlen n))) ∧ Below w.heap.size w w' := by
  go_enter Tryz.func152, Tryz.ntmps152
  go_wp2_with (go_at_call 106; refine (rtrim_any v n _ h).mono ?_; rintro e w1 ⟨r, rfl, hr, hb⟩; have h1 := hr.1.sl; have h2 : slen r = nlen n := hr.1.len)
  go_ret
  exact ⟨by congr 2; simp; omega, hb⟩
theorem rlarge_no (v : Value) (n : Nat) (w : World) (h : NatN w v n) (hn : nlen n ≤ 512) :
    Calls Tryz.prog 152 #[v] w fun e w' => e = .returned (.bool false) ∧ Below w.heap.size w w' :=
  (rlarge_any v n w h).mono fun e w' ⟨h1, h2⟩ => ⟨by rw [h1, decide_eq_false (by omega)], h2⟩

set_option maxHeartbeats 800000 in
theorem rcmp_any (va vb : Value) (m n : Nat) (w : World) (ha : NatN w va m) (hb : NatN w vb n) :
    Calls Tryz.prog 77 #[va, vb] w fun e w' => e = .returned (.int .i64 (cmpN m n)) ∧ Below w.heap.size w w' := by
  go_enter Tryz.func77, Tryz.ntmps77
  go_wp2_with (go_at_call 106; first
      | ((with_reducible refine (rtrim_any va m _ ha).mono ?_); rintro e w1 ⟨ra, rfl, hra, hb1⟩)
      | ((with_reducible refine (rtrim_any vb n _ (hb.below hb1)).mono ?_); rintro e w2 ⟨rb, rfl, hrb, hb2⟩
         have h1 := (hra.below hb2).1.sl
         have h2 : slen ra = nlen m := (hra.below hb2).1.len
         have h3 := hrb.1.sl
         have h4 : slen rb = nlen n := hrb.1.len
         have h5 : nlen m ≤ 4294967296 := hra.2))
  · go_ret
    exact ⟨by rw [cmpN_lt (lt_of_nlen (by assumption))]; rfl, hb1.trans (hb2.mono hb1.size)⟩
  · have hne : ((nlen m : Nat) : Int) ≠ nlen n := by simpa using ‹((nlen m : Int) != (nlen n : Int)) = true›
    have hlt : ¬ nlen m < nlen n := by assumption
    go_ret
    exact ⟨by rw [cmpN_gt (lt_of_nlen (by omega))]; rfl, hb1.trans (hb2.mono hb1.size)⟩
  · have he : nlen m = nlen n := by
      have : ((nlen m : Nat) : Int) = nlen n := by simpa using ‹((nlen m : Int) != (nlen n : Int)) = false›
      omega
    have HB := Lib.hid (hb1.trans (hb2.mono hb1.size))
    have ca := (hra.below hb2).1.cell
    have cb := hrb.1.cell
    have hln := hrb.2
    clear ha hb hb1 hb2 hra hrb
    have HE := Lib.hid he
    rw [← he] at hln
    clear he
    go_loopw [5] (fun i wr => ∃ k q : Nat, k ≤ nlen m ∧ i = .int .i64 ((k : Int) - 1) ∧ (limbs m).drop k = (limbs n).drop k ∧ wr = w2.drewN q) (fun i _ => (intOf i + 1).toNat)
    case atStart => exact ⟨nlen m, 0, Nat.le_refl _, by simp, by rw [List.drop_of_length_le (show nlen m ≤ nlen m from Nat.le_refl _), List.drop_of_length_le (show nlen n ≤ nlen m by have := HE.out; omega)], rfl⟩
    case round =>
      obtain ⟨k, q, hk, rfl, hd, rfl⟩ := hrel
      have HD := Lib.hid hd
      clear hd
      by_cases hk0 : 0 < k
      · obtain ⟨j, rfl⟩ : ∃ j, k = j + 1 := ⟨k - 1, by omega⟩
        have hj1 : j < nlen m := by omega
        have hj2 : j < nlen n := by have := HE.out; omega
        have h7 := ca j hj1
        have h8 := cb j hj2
        have hlt := val_lt_of_top (lm_limbs m) j hj1 hj2 HD.out
        have hgt := val_lt_of_top (lm_limbs n) j hj2 hj1 HD.out.symm
        have heq := drop_eq_of j hj1 hj2 HD.out
        rw [val_limbs, val_limbs] at hlt hgt
        clear ca cb HD
        generalize (limbs m)[j]'hj1 = x at *
        generalize (limbs n)[j]'hj2 = y at *
        have HL := Lib.hid hlt
        have HG := Lib.hid hgt
        have HQ := Lib.hid heq
        clear hlt hgt heq
        by_cases hxy : x < y
        · go_wp2
          go_quiet (fail)
          go_wp2
          go_ret
          exact ⟨by rw [cmpN_lt (HL.out hxy)]; rfl, by first | exact HB.out.trans ((below_drewN _ _).mono HB.out.size) | (simp only [World.drewN_drewN]; exact HB.out.trans ((below_drewN _ _).mono HB.out.size))⟩
        · by_cases hyx : y < x
          · go_wp2
            go_quiet (fail)
            go_wp2
            go_quiet (fail)
            go_wp2
            go_ret
            exact ⟨by rw [cmpN_gt (HG.out hyx)]; rfl, by first | exact HB.out.trans ((below_drewN _ _).mono HB.out.size) | (simp only [World.drewN_drewN]; exact HB.out.trans ((below_drewN _ _).mono HB.out.size))⟩
          · go_wp2
            go_quiet (fail)
            go_wp2
            go_quiet (fail)
            go_wp2
            go_roundw
            case rel => exact ⟨j, _, by omega, by go_num, HQ.out (by omega), by first | rfl | (simp only [World.drewN_drewN]; rfl)⟩
            case measure => simp [intOf]
      · obtain rfl : k = 0 := by omega
        have hmn : m = n := limbs_inj (by simpa using HD.out)
        have HM := Lib.hid hmn
        clear hmn
        go_wp2
        go_ret
        exact ⟨by rw [cmpN_eq HM.out]; rfl, HB.out.trans ((below_drewN _ _).mono HB.out.size)⟩
end Go.Proofs.YtlpdkbmmbdfoiaaGreat
namespace Go.Proofs.YtlpdkbmmbdfoiaaGreat
set_option linter.unusedVariables false
set_option linter.unusedSimpArgs false
open Go.RowKit

theorem val_take_getD (l : List Nat) (k : Nat) : val (l.take (k + 1)) = val (l.take k) + pw k * l.getD k 0 := by
  by_cases h : k < l.length
  · rw [val_take_succ l k h, getD_of l k h]
  · rw [val_take_of_le l (k + 1) (by omega), val_take_of_le l k (by omega)]
    have : l.getD k 0 = 0 := by simp [List.getD, List.getElem?_eq_none (Nat.le_of_not_lt h)]
    rw [this, Nat.mul_zero, Nat.add_zero]
theorem getD_lt {l : List Nat} (h : Lm l) (k : Nat) : l.getD k 0 < 4294967296 := by
  by_cases hk : k < l.length
  · rw [getD_of l k hk]; exact h _ (List.getElem_mem hk)
  · have : l.getD k 0 = 0 := by simp [List.getD, List.getElem?_eq_none (Nat.le_of_not_lt hk)]
    omega
theorem val_snoc (o : List Nat) (z : Nat) : val (o ++ [z]) = val o + pw o.length * z := by rw [val_append]; simp [val]
theorem plus_step {o a b : List Nat} {k c x y : Nat} (ho : o.length = k) (ha : val (a.take (k + 1)) = val (a.take k) + pw k * x) (hb : val (b.take (k + 1)) = val (b.take k) + pw k * y)
    (hv : val o + pw k * c = val (a.take k) + val (b.take k)) :
    val (o ++ [(c + x + y) % 4294967296]) + pw (k + 1) * ((c + x + y) / 4294967296) = val (a.take (k + 1)) + val (b.take (k + 1)) := by
  rw [val_snoc, ha, hb, pw_succ, ho]
  have h : (c + x + y) % 4294967296 + 4294967296 * ((c + x + y) / 4294967296) = c + x + y := by omega
  generalize (c + x + y) % 4294967296 = z at *
  generalize (c + x + y) / 4294967296 = d at *
  grind

set_option maxHeartbeats 1000000 in
theorem plus_any (va vb : Value) (a b : List Nat) (w : World) (ha : NatV w va a) (hb : NatV w vb b) (hla : a.length ≤ 65536) (hlb : b.length ≤ 65536) :
    Calls Tryz.prog 153 #[va, vb] w (RNat w (val a + val b)) := by
  obtain ⟨i0, hi, hz0, hz1, hz2⟩ := info_parts Tryz.info102
  have hA1 := append1_nat (P := Tryz.prog) 36 142 i0 Tryz.underlying36 hi hz0 hz1 hz2
  clear hi hz0 hz1 hz2
  have sa := ha.sl
  have sb := hb.sl
  have la := ha.len
  have lb := hb.len
  go_enter Tryz.func153, Tryz.ntmps153
  go_wp2_with fail
  go_loopw [5, 6, 7] (fun u5 u6 u7 wr => ∃ (k c : Nat) (o : List Nat), k ≤ 65537 ∧ (c = 0 ∨ k ≤ a.length ∨ k ≤ b.length) ∧ u7 = .int .i64 k ∧ u6 = .int .u64 c ∧ c ≤ 1 ∧ OwnN wr 142 w.heap.size u5 o ∧ o.length = k ∧
      val o + pw k * c = val (a.take k) + val (b.take k) ∧ Below w.heap.size w wr) (fun _ u6 u7 _ => 2 * (a.length + b.length + 1 - (intOf u7).toNat) + (intOf u6).toNat)
  case atStart => exact ⟨0, 0, [], by omega, Or.inl rfl, rfl, rfl, by omega, OwnN.nil _ _ _, rfl, by simp [val], Below.refl _ _⟩
  case round =>
    obtain ⟨k, c, o, hkb, hk, rfl, rfl, hc, hownr, hol, hval, hbr⟩ := hrel
    have HOL := Lib.hid hol
    have HV := Lib.hid hval
    have HK := Lib.hid hk
    have HO : Hid (o.length + 1 ≤ 4294967296) := Lib.hid (by omega)
    clear hol hval hk
    by_cases h1 : k < a.length
    · have hx := (ha.below hbr).cell k h1
      have hx1 := ha.lt k h1
      have HX := Lib.hid (val_take_succ a k h1)
      generalize a[k] = x at *
      have HK1 : Hid ((c + x + 0) / 4294967296 = 0 ∨ k + 1 ≤ a.length ∨ k + 1 ≤ b.length) := Lib.hid (by omega)
      by_cases h2 : k < b.length
      · have hy := (hb.below hbr).cell k h2
        have hy1 := hb.lt k h2
        have HY := Lib.hid (val_take_succ b k h2)
        generalize b[k] = y at *
        have HS := Lib.hid (plus_step HOL.out HX.out HY.out HV.out)
        have HK1 : Hid ((c + x + y) / 4294967296 = 0 ∨ k + 1 ≤ a.length ∨ k + 1 ≤ b.length) := Lib.hid (by omega)
        go_wp2_with (at_builtin; refine hA1 wr rfl _ _ rfl w.heap.size _ u5 o rfl (by exact hownr) _ ((c + x + y) % 4294967296) (by omega) (by omega) rfl (Nat.le_trans HO.out (by decide)) hbr.size ?_; intro v' w1 hown1 hbel1)
        go_roundw
        case rel => exact ⟨k + 1, (c + x + y) / 4294967296, _, by have := HK.out; omega, HK1.out, by go_num, by go_num, by omega, hown1, by simp [HOL.out], HS.out, hbr.trans (hbel1.mono (Nat.le_refl _))⟩
        case measure => simp [intOf]; omega
      · have HS := Lib.hid (plus_step (y := 0) HOL.out HX.out (by rw [val_take_of_le b (k + 1) (by omega), val_take_of_le b k (by omega)]; simp) HV.out)
        go_wp2_with (at_builtin; refine hA1 wr rfl _ _ rfl w.heap.size _ u5 o rfl (by exact hownr) _ ((c + x + 0) % 4294967296) (by omega) (by omega) rfl (Nat.le_trans HO.out (by decide)) hbr.size ?_; intro v' w1 hown1 hbel1)
        go_roundw
        case rel => exact ⟨k + 1, (c + x + 0) / 4294967296, _, by have := HK.out; omega, HK1.out, by go_num, by go_num, by omega, hown1, by simp [HOL.out], HS.out, hbr.trans (hbel1.mono (Nat.le_refl _))⟩
        case measure => simp [intOf]; omega
    · by_cases h2 : k < b.length
      · have hy := (hb.below hbr).cell k h2
        have hy1 := hb.lt k h2
        have HY := Lib.hid (val_take_succ b k h2)
        generalize b[k] = y at *
        have HS := Lib.hid (plus_step (x := 0) HOL.out (by rw [val_take_of_le a (k + 1) (by omega), val_take_of_le a k (by omega)]; simp) HY.out HV.out)
        have HK1 : Hid ((c + 0 + y) / 4294967296 = 0 ∨ k + 1 ≤ a.length ∨ k + 1 ≤ b.length) := Lib.hid (by omega)
        go_wp2_with (at_builtin; refine hA1 wr rfl _ _ rfl w.heap.size _ u5 o rfl (by exact hownr) _ ((c + 0 + y) % 4294967296) (by omega) (by omega) rfl (Nat.le_trans HO.out (by decide)) hbr.size ?_; intro v' w1 hown1 hbel1)
        go_roundw
        case rel => exact ⟨k + 1, (c + 0 + y) / 4294967296, _, by have := HK.out; omega, HK1.out, by go_num, by go_num, by omega, hown1, by simp [HOL.out], HS.out, hbr.trans (hbel1.mono (Nat.le_refl _))⟩
        case measure => simp [intOf]; omega
      · have e1 := val_take_of_le a k (by omega)
        have e2 := val_take_of_le b k (by omega)
        have f1 := val_take_of_le a (k + 1) (by omega)
        have f2 := val_take_of_le b (k + 1) (by omega)
        by_cases hc0 : 0 < c
        · obtain rfl : c = 1 := by omega
          have HS := Lib.hid (plus_step (x := 0) (y := 0) HOL.out (by rw [e1, f1]; simp) (by rw [e2, f2]; simp) HV.out)
          have HK1 : Hid ((1 + 0 + 0) / 4294967296 = 0 ∨ k + 1 ≤ a.length ∨ k + 1 ≤ b.length) := Lib.hid (Or.inl rfl)
          clear e1 e2 f1 f2
          go_wp2_with (at_builtin; refine hA1 wr rfl _ _ rfl w.heap.size _ u5 o rfl (by exact hownr) _ ((1 + 0 + 0) % 4294967296) (by omega) (by omega) rfl (Nat.le_trans HO.out (by decide)) hbr.size ?_; intro v' w1 hown1 hbel1)
          go_roundw
          case rel => exact ⟨k + 1, (1 + 0 + 0) / 4294967296, _, by have := HK.out; omega, HK1.out, by go_num, by go_num, by omega, hown1, by simp [HOL.out], HS.out, hbr.trans (hbel1.mono (Nat.le_refl _))⟩
          case measure => simp [intOf]; omega
        · obtain rfl : c = 0 := by omega
          have hv : val o = val a + val b := by have := HV.out; rw [e1, e2] at this; omega
          have HT := rtrim_any _ _ wr (hownr.nat.natN (by have := HO.out; omega))
          rw [hv] at HT
          have HT2 := Lib.hid HT
          clear HT hv e1 e2 f1 f2
          go_wp2_with (go_at_call 106; refine HT2.out.mono ?_; rintro e w1 ⟨r, rfl, hr, hb⟩)
          go_ret
          exact ⟨r, rfl, hr, hbr.trans (hb.mono hbr.size)⟩

theorem minus_step {o a b : List Nat} {k bo x y z bo' : Nat} (ho : o.length = k) (ha : val (a.take (k + 1)) = val (a.take k) + pw k * x) (hb : val (b.take (k + 1)) = val (b.take k) + pw k * y)
    (hz : z + bo + y = x + 4294967296 * bo') (hv : val o + val (b.take k) = val (a.take k) + pw k * bo) :
    val (o ++ [z]) + val (b.take (k + 1)) = val (a.take (k + 1)) + pw (k + 1) * bo' := by
  rw [val_snoc, ha, hb, pw_succ, ho]
  grind
theorem minus_end {o a b : List Nat} {bo : Nat} (hb : val b ≤ val a) (ho : Lm o) (hol : o.length = a.length) (hbo : bo ≤ 1) (hv : val o + val b = val a + pw a.length * bo) : val o = val a - val b := by
  have h1 := val_lt ho
  rw [hol] at h1
  rcases Nat.eq_zero_or_pos bo with h | h
  · subst h; omega
  · obtain rfl : bo = 1 := by omega
    omega
set_option maxHeartbeats 1000000 in
theorem minus_own (va vb : Value) (a b : List Nat) (w : World) (ha : NatV w va a) (hb : NatV w vb b) (hla : a.length ≤ 65536) (hlb : b.length ≤ a.length) (hba : val b ≤ val a) :
    Calls Tryz.prog 155 #[va, vb] w (RNatO w (val a - val b)) := by
  obtain ⟨i0, hi, hz0, hz1, hz2⟩ := info_parts Tryz.info102
  have hA1 := append1_nat (P := Tryz.prog) 36 142 i0 Tryz.underlying36 hi hz0 hz1 hz2
  clear hi hz0 hz1 hz2
  have HBA := Lib.hid hba
  clear hba
  have sa := ha.sl
  have sb := hb.sl
  have la := ha.len
  have lb := hb.len
  go_enter Tryz.func155, Tryz.ntmps155
  go_wp2_with fail
  go_loopw [5, 6, 7] (fun u5 u6 u7 wr => ∃ (k bo : Nat) (o : List Nat), k ≤ a.length ∧ u7 = .int .i64 k ∧ u6 = .int .u64 bo ∧ bo ≤ 1 ∧ OwnN wr 142 w.heap.size u5 o ∧ o.length = k ∧
      val o + val (b.take k) = val (a.take k) + pw k * bo ∧ Below w.heap.size w wr) (fun _ _ u7 _ => a.length - (intOf u7).toNat)
  case atStart => exact ⟨0, 0, [], by omega, rfl, rfl, by omega, OwnN.nil _ _ _, rfl, by simp [val], Below.refl _ _⟩
  case round =>
    obtain ⟨k, bo, o, hk, rfl, rfl, hc, hownr, hol, hval, hbr⟩ := hrel
    have HOL := Lib.hid hol
    have HV := Lib.hid hval
    have HO : Hid (o.length + 1 ≤ 4294967296) := Lib.hid (by omega)
    clear hol hval
    by_cases h1 : k < a.length
    · have hx := (ha.below hbr).cell k h1
      have hx1 := ha.lt k h1
      have HX := Lib.hid (val_take_succ a k h1)
      generalize a[k] = x at *
      by_cases h2 : k < b.length
      · have hy := (hb.below hbr).cell k h2
        have hy1 := hb.lt k h2
        have HY := Lib.hid (val_take_succ b k h2)
        generalize b[k] = y at *
        by_cases h3 : x < bo + y
        · have HS := Lib.hid (minus_step (z := x + 4294967296 - (bo + y)) (bo' := 1) HOL.out HX.out HY.out (by omega) HV.out)
          go_wp2_with (at_builtin; refine hA1 wr rfl _ _ rfl w.heap.size _ u5 o rfl (by exact hownr) _ (x + 4294967296 - (bo + y)) (by omega) (by omega) rfl (Nat.le_trans HO.out (by decide)) hbr.size ?_; intro v' w1 hown1 hbel1)
          go_roundw
          case rel => exact ⟨k + 1, 1, _, by omega, by go_num, by go_num, by omega, hown1, by simp [HOL.out], HS.out, hbr.trans (hbel1.mono (Nat.le_refl _))⟩
          case measure => simp [intOf]; omega
        · have HS := Lib.hid (minus_step (z := x - (bo + y)) (bo' := 0) HOL.out HX.out HY.out (by omega) HV.out)
          go_wp2_with (at_builtin; refine hA1 wr rfl _ _ rfl w.heap.size _ u5 o rfl (by exact hownr) _ (x - (bo + y)) (by omega) (by omega) rfl (Nat.le_trans HO.out (by decide)) hbr.size ?_; intro v' w1 hown1 hbel1)
          go_roundw
          case rel => exact ⟨k + 1, 0, _, by omega, by go_num, by go_num, by omega, hown1, by simp [HOL.out], HS.out, hbr.trans (hbel1.mono (Nat.le_refl _))⟩
          case measure => simp [intOf]; omega
      · have HY : Hid (val (b.take (k + 1)) = val (b.take k) + pw k * 0) := Lib.hid (by rw [val_take_of_le b (k + 1) (by omega), val_take_of_le b k (by omega)]; simp)
        by_cases h3 : x < bo + 0
        · have HS := Lib.hid (minus_step (z := x + 4294967296 - (bo + 0)) (bo' := 1) HOL.out HX.out HY.out (by omega) HV.out)
          go_wp2_with (at_builtin; refine hA1 wr rfl _ _ rfl w.heap.size _ u5 o rfl (by exact hownr) _ (x + 4294967296 - (bo + 0)) (by omega) (by omega) rfl (Nat.le_trans HO.out (by decide)) hbr.size ?_; intro v' w1 hown1 hbel1)
          go_roundw
          case rel => exact ⟨k + 1, 1, _, by omega, by go_num, by go_num, by omega, hown1, by simp [HOL.out], HS.out, hbr.trans (hbel1.mono (Nat.le_refl _))⟩
          case measure => simp [intOf]; omega
        · have HS := Lib.hid (minus_step (z := x - (bo + 0)) (bo' := 0) HOL.out HX.out HY.out (by omega) HV.out)
          go_wp2_with (at_builtin; refine hA1 wr rfl _ _ rfl w.heap.size _ u5 o rfl (by exact hownr) _ (x - (bo + 0)) (by omega) (by omega) rfl (Nat.le_trans HO.out (by decide)) hbr.size ?_; intro v' w1 hown1 hbel1)
          go_roundw
          case rel => exact ⟨k + 1, 0, _, by omega, by go_num, by go_num, by omega, hown1, by simp [HOL.out], HS.out, hbr.trans (hbel1.mono (Nat.le_refl _))⟩
          case measure => simp [intOf]; omega
    · obtain rfl : k = a.length := by omega
      have hv : val o = val a - val b := minus_end HBA.out hownr.lm HOL.out hc (by have := HV.out; rw [val_take_of_le a a.length (Nat.le_refl _), val_take_of_le b a.length (by omega)] at this; exact this)
      have HT := rtrim_own _ _ wr (hownr.nat.natN (by have := HO.out; omega))
      rw [hv] at HT
      have HT2 := Lib.hid HT
      clear HT hv
      go_wp2_with (go_at_call 106; refine HT2.out.mono ?_; rintro e w1 ⟨r, rfl, hr, hr2, hb⟩)
      go_ret
      exact ⟨r, rfl, ⟨hr.own.mono hbr.size, hr.lm⟩, hr2, hbr.trans (hb.mono hbr.size)⟩
theorem minus_any (va vb : Value) (a b : List Nat) (w : World) (ha : NatV w va a) (hb : NatV w vb b) (hla : a.length ≤ 65536) (hlb : b.length ≤ a.length) (hba : val b ≤ val a) :
    Calls Tryz.prog 155 #[va, vb] w (RNat w (val a - val b)) := (minus_own va vb a b w ha hb hla hlb hba).mono fun _ _ h => h.nat
end Go.Proofs.YtlpdkbmmbdfoiaaGreat
