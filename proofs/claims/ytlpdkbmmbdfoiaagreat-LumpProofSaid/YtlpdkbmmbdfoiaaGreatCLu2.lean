/-
  package lump: sums.
-/
import Derived.Test.YtlpdkbmmbdfoiaaGreatCRf1
namespace Go.Proofs.YtlpdkbmmbdfoiaaGreat
set_option linter.unusedVariables false
set_option linter.unusedSimpArgs false
open Go.RowKit

/-- The sums of a row over n blocks. -/
def bsums (bl : List Int) (row : List Rat) (n : Nat) : List Rat := (List.range n).map fun b : Nat => bsum bl row b
theorem bsums_length (bl : List Int) (row : List Rat) (n : Nat) : (bsums bl row n).length = n := by simp [bsums]
theorem bsums_get (bl : List Int) (row : List Rat) (n j : Nat) (h : j < n) : (bsums bl row n)[j]'(by rw [bsums_length]; exact h) = bsum bl row j := by simp [bsums]
/-- The caller's own row of sums. -/
def RSums (w0 : World) (bl : List Int) (row : List Rat) (n : Nat) (e : Ending) (w : World) : Prop :=
  ∃ v, e = .returned v ∧ OwnFr w 38 w0.heap.size v n ∧ (∀ j, j < n → ElemC w v j (bsum bl row j)) ∧ Below w0.heap.size w0 w
set_option maxRecDepth 100000 in
set_option maxHeartbeats 3200000 in
theorem sums_any (va vb : Value) (row : List RF) (bl : List Int) (n : Nat) (w : World) (ha : FracsN w va row) (hb : IntsV w vb bl) (hlen : row.length = bl.length) (hok : okB bl) (hn : n = cnt bl) (hn2 : n ≤ 128) (hrow : rowP row row.length) :
    Calls Tryz.prog 66 #[va, vb, .int .i64 n] w (RSums w bl (qs row) n) := by
  have sa := ha.sl
  have la := ha.len
  have sb := CellsV.sl hb
  have lb := hb.len
  have hle := sa.le
  rw [la] at hle
  rw [← hlen] at lb
  have hlb : row.length ≤ 9223372036854775807 := by omega
  have HN := Lib.hid hn
  have HLEN := Lib.hid hlen
  have HOK := Lib.hid hok
  have HROW := Lib.hid hrow
  clear hle hok hlen hrow hn
  obtain ⟨i0, hi, hz0, hz1, hz2⟩ := info_parts Tryz.infoF
  have hM := make_fr (P := Tryz.prog) 25 38 i0 Tryz.underlying25 hi hz0 hz1 (by rw [hz2]; decide)
  clear hi hz0 hz1 hz2
  go_enter Tryz.func66, Tryz.ntmps66
  go_wp2_with (refine hM _ rfl _ _ rfl w.heap.size _ n rfl rfl rfl (by omega) (Nat.le_refl _) ?_; intro v w1 hown hb1 hvb; have sv := hown.sl; have lv := hown.len)
  clear hM
  go_loopw [15] (fun u15 wr => ∃ (k : Nat), k ≤ n ∧ u15 = .int .i64 k ∧ OwnFr wr 38 w.heap.size v n ∧ (∀ j, j < k → ElemC wr v j 0) ∧ Below w.heap.size w wr) (fun u15 _ => n - (intOf u15).toNat)
  case atStart => exact ⟨0, Nat.zero_le _, rfl, hown, fun j h => by omega, hb1⟩
  case round =>
    obtain ⟨k, hk, rfl, ho, he, hbr⟩ := hrel
    clear hown hb1
    have HE := Lib.hid he
    clear he
    by_cases hkn : k < n
    · go_wp2_with (go_at_call 67; (with_reducible refine (make_01 _).mono ?_); rintro e w2 ⟨r, rfl, hr, hb2⟩
                   obtain ⟨t9, x9, y9, rfl, ⟨a1, l91, k1, rfl, _⟩, ⟨a2, l92, k2, rfl, _⟩⟩ := hr.isF
                   have ho2 := ho.below hb2
                   obtain ⟨c0, d0, _⟩ := ho2.cell (k * 3) (by omega)
                   obtain ⟨c1, d1, _⟩ := ho2.cell (k * 3 + 1) (by omega)
                   obtain ⟨c2, d2, _⟩ := ho2.cell (k * 3 + 2) (by omega)
                   have f0 := ho2.frozen (k * 3)
                   have f1 := ho2.frozen (k * 3 + 1)
                   have f2 := ho2.frozen (k * 3 + 2)
                   have n01 := ho2.inj (show k * 3 ≠ k * 3 + 1 by omega)
                   have n02 := ho2.inj (show k * 3 ≠ k * 3 + 2 by omega)
                   have n12 := ho2.inj (show k * 3 + 1 ≠ k * 3 + 2 by omega)
                   have hs3 := ho2.set3 k (.bool t9) (.slice a1 l91 k1) (.slice a2 l92 k2) (fun z => by simp) (fun z => by simp) (fun z => by simp)
                   have HS3 := Lib.hid hs3
                   clear hs3)
      go_roundw
      case rel =>
        refine ⟨k + 1, hkn, by go_num, HS3.out.1, fun j hj => ?_, (below_then hbr hb2).trans HS3.out.2⟩
        rcases Nat.lt_or_ge j k with h6 | h6
        · exact ElemC.set3_other ho2 hkn (by omega) ((HE.out j h6).below hb2) _ _ _ (fun z => by simp) (fun z => by simp)
        · obtain rfl : j = k := by omega
          exact ElemC.set3 ho2 hkn hr
      case measure => simp [intOf]; omega
    · obtain rfl : k = n := by omega
      go_wp2_with fail
      have hbl0 := HLEN.out
      go_loopw [28] (fun u28 wr => ∃ (k' : Nat), k' ≤ row.length ∧ u28 = .int .i64 k' ∧ OwnFr wr 38 w.heap.size v k ∧ (∀ j, j < k → ElemC wr v j (bsum (bl.take k') ((qs row).take k') j)) ∧ Below w.heap.size w wr) (fun u28 _ => row.length - (intOf u28).toNat)
      case atStart => exact ⟨0, Nat.zero_le _, rfl, ho, fun j hj => by have := HE.out j hj; simpa [bsum, bsel, lsum] using this, hbr⟩
      case round =>
        obtain ⟨i, hil, rfl, ho, he, hbr⟩ := hrel
        have HE2 := Lib.hid he
        clear he hbl0
        by_cases hir : i < row.length
        · obtain ⟨xa, xb, c1, c2, c3, hxa, hxb⟩ := (ha.below hbr).at' i hir
          obtain ⟨c1a, c1l, c1k, rfl, _⟩ := hxa.slen.1
          obtain ⟨c2a, c2l, c2k, rfl, _⟩ := hxb.slen.1
          have hib : i < bl.length := by rw [← HLEN.out]; exact hir
          have hbc := (hb.below hbr).at' i hib
          have hbg : bl[i]? = some (bl[i]'hib) := List.getElem?_eq_getElem hib
          have hblt := HOK.out.lt hbg
          rw [← HN.out] at hblt
          have HBT : Hid (∀ j : Int, bsum (bl.take (i + 1)) ((qs row).take (i + 1)) j = if bl[i]'hib = j then bsum (bl.take i) ((qs row).take i) j + (row[i]'hir).q else bsum (bl.take i) ((qs row).take i) j) := Lib.hid (fun j => by
            rw [bsum_take bl (qs row) j i hib (by rw [qs_length]; exact hir), qs_get row i hir])
          have HXO : Hid (okN (row[i]'hir).n (row[i]'hir).d) := Lib.hid (HROW.out.ok _ (List.getElem_mem hir))
          have hfit : ∀ (m : Nat) (j : Int), fits (bsum (bl.take m) ((qs row).take m) j) := fun m j => bsum_fits m j (fun q hq => by
            obtain ⟨x, hx, rfl⟩ := List.mem_map.1 hq
            exact Rat.not_lt.1 (HROW.out.1 x hx).2.1) HROW.out.2.2
          have HFIT := Lib.hid hfit
          clear hfit hbg
          generalize bl[i]'hib = bk at *
          generalize row[i]'hir = x at *
          obtain ⟨b, rfl⟩ : ∃ b : Nat, bk = (b : Int) := ⟨bk.toNat, by omega⟩
          have hbn : b < k := by omega
          have HA := Lib.hid (And.intro hxa hxb)
          clear hxa hxb hib hblt
          have hbx := below_alloc wr (.cells #[.bool x.neg, .slice c1a c1l c1k, .slice c2a c2l c2k] 38)
          have hc3 := C3.new wr 38 (.bool x.neg) (.slice c1a c1l c1k) (.slice c2a c2l c2k)
          have i1 : (0 : Int) ≤ (i : Int) := by omega
          have i2 : ((i : Int)) < (row.length : Nat) := by omega
          have i3 : (0 : Int) ≤ (b : Int) := by omega
          have i4 : ((b : Int)) < (k : Nat) := by omega
          go_wp2_with fail
          generalize wr.alloc (.cells #[.bool x.neg, .slice c1a c1l c1k, .slice c2a c2l c2k] 38) = Wx at *
          have hbD := below_then hbx (below_drew (B := Wx.heap.size) Wx)
          have hcD := hc3.belowS (below_drew (B := Wx.heap.size) Wx)
          have hoD := ho.below hbD
          have hbcD := cell_below hbD hbc
          have hbrD := below_then hbr hbD
          obtain ⟨ea, eb, g1, g2, g3, g4, g5⟩ := (HE2.out b hbn).below hbD
          have hF1 : FracN Wx.drew (.agg #[.bool (decide (bsum (bl.take i) ((qs row).take i) b < 0)), ea, eb]) _ _ _ := ⟨_, _, rfl, g4.nat, g5.nat⟩
          have hF2 : FracN Wx.drew (.agg #[.bool x.neg, .slice c1a c1l c1k, .slice c2a c2l c2k]) x.neg x.n x.d := ⟨_, _, rfl, HA.out.1.below hbD, HA.out.2.below hbD⟩
          have HF1 := Lib.hid (fits_okN (HFIT.out i b))
          have HF3 := Lib.hid (HFIT.out (i + 1) b)
          have HEQ : Hid (fq (decide (bsum (bl.take i) ((qs row).take i) b < 0)) (bsum (bl.take i) ((qs row).take i) b).num.natAbs (bsum (bl.take i) ((qs row).take i) b).den + fq x.neg x.n x.d = bsum (bl.take (i + 1)) ((qs row).take (i + 1)) b) := Lib.hid (by rw [fq_self, HBT.out, if_pos rfl]; rfl)
          have HCD := Lib.hid hcD
          obtain ⟨_, q0, q1, q2, _, _, _⟩ := hcD
          clear hc3 hbx g4 g5
          go_region_law (refine step_call rfl 80 #[.agg #[.bool (decide (bsum (bl.take i) ((qs row).take i) b < 0)), ea, eb], .agg #[.bool x.neg, .slice c1a c1l c1k, .slice c2a c2l c2k]] ?_ (add_frac _ _ _ _ _ _ _ _ _ hF1 hF2 HF1.out HXO.out) ?_; go_simp; rw [HEQ.out]; rintro e9 w9 ⟨v9, er, rfl, hb9, hv7, _⟩; refine ⟨_, rfl, ?_⟩
                         obtain ⟨rfl, hv8⟩ := hv7 HF3.out
                         obtain ⟨t9, x9, y9, rfl, ⟨a1, l91, k1, rfl, _⟩, ⟨a2, l92, k2, rfl, _⟩⟩ := hv8.isF
                         have hbcD := cell_below hb9 hbcD
                         have g1 := cell_below hb9 g1
                         have g2 := cell_below hb9 g2
                         have g3 := cell_below hb9 g3
                         have ho2 := hoD.below hb9
                         have f0 := ho2.frozen (b * 3)
                         have f1 := ho2.frozen (b * 3 + 1)
                         have f2 := ho2.frozen (b * 3 + 2)
                         have n01 := ho2.inj (show b * 3 ≠ b * 3 + 1 by omega)
                         have n02 := ho2.inj (show b * 3 ≠ b * 3 + 2 by omega)
                         have n12 := ho2.inj (show b * 3 + 1 ≠ b * 3 + 2 by omega))
          all_goals
            have HE3 := Lib.hid (fun j hj => ((HE2.out j hj).below hbD).below hb9)
            have hbr9 := below_then hbrD hb9
            clear hbcD g1 g2 g3 q0 q1 q2 f0 f1 f2 n01 n02 n12 hF1 hF2 hbD hoD hbc
            go_wp2
            go_roundw
            case rel =>
              have hs3 := ho2.set3 b (.bool t9) (.slice a1 l91 k1) (.slice a2 l92 k2) (fun z => by simp) (fun z => by simp) (fun z => by simp)
              refine ⟨i + 1, hir, by go_num, hs3.1, fun j hj => ?_, hbr9.trans hs3.2⟩
              by_cases hjb : b = j
              · subst hjb
                exact ElemC.set3 ho2 hbn hv8
              · rw [HBT.out, if_neg (by omega)]
                exact ElemC.set3_other ho2 hbn hjb (HE3.out j hj) _ _ _ (fun z => by simp) (fun z => by simp)
            case measure => simp [intOf]; omega
        · obtain rfl : i = row.length := by omega
          have HFIN : Hid (∀ j, j < k → ElemC wr v j (bsum bl (qs row) j)) := Lib.hid (fun j hj => by
            have h6 := HE2.out j hj
            rwa [List.take_of_length_le (by rw [HLEN.out]; exact Nat.le_refl _), List.take_of_length_le (by rw [qs_length]; exact Nat.le_refl _)] at h6)
          go_wp2_with fail
          go_ret
          exact ⟨v, rfl, ho, HFIN.out, hbr⟩
end Go.Proofs.YtlpdkbmmbdfoiaaGreat
