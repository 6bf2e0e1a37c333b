/-
  package lump: Sums.
-/
import Derived.Test.YtlpdkbmmbdfoiaaGreatCLu2
import Derived.Test.YtlpdkbmmbdfoiaaGreatCMath13
namespace Go.Proofs.YtlpdkbmmbdfoiaaGreat
set_option linter.unusedVariables false
set_option linter.unusedSimpArgs false
open Go.RowKit

/-- Add of a canonical and another fraction. -/
theorem add_rf (va vb : Value) (p r : Rat) (x : RF) (w : World) (ha : FracC w va p) (hb : FracN w vb x.neg x.n x.d) (hp : fits p) (hx : okN x.n x.d) (hr : p + x.q = r) :
    Calls Tryz.prog 80 #[va, vb] w (RFrac w r) := by
  refine (add_frac va vb _ _ _ _ _ _ w ha.raw hb (fits_okN hp) hx).mono ?_
  rw [fq_self, show p + fq x.neg x.n x.d = r from hr]
  exact fun _ _ h => h
def RSum3 (w0 : World) (row : List RF) (bl : List Int) (e : Ending) (w : World) : Prop :=
  ∃ v er, e = .returned (.tuple #[v, .int .i64 er]) ∧ Below w0.heap.size w0 w ∧ (badS row bl → er = 1 ∧ v = .slice none 0 0) ∧ (¬ badS row bl → fitS row bl → er = 0 ∧ FracsC w v (bsums bl (qs row) (cnt bl))) ∧ (¬ badS row bl → ¬ fitS row bl → er = 2 ∧ v = .slice none 0 0)
theorem RSum3.bad {w0 w : World} {row : List RF} {bl : List Int} (h : badS row bl) (hb : Below w0.heap.size w0 w) : RSum3 w0 row bl (.returned (.tuple #[.slice none 0 0, .int .i64 1])) w :=
  ⟨_, _, rfl, hb, fun _ => ⟨rfl, rfl⟩, fun h' => absurd h h', fun h' => absurd h h'⟩
theorem RSum3.big {w0 w : World} {row : List RF} {bl : List Int} (h : ¬ badS row bl) (hf : ¬ fitS row bl) (hb : Below w0.heap.size w0 w) : RSum3 w0 row bl (.returned (.tuple #[.slice none 0 0, .int .i64 2])) w :=
  ⟨_, _, rfl, hb, fun h' => absurd h' h, fun _ h' => absurd h' hf, fun _ _ => ⟨rfl, rfl⟩⟩
set_option maxRecDepth 100000 in
set_option maxHeartbeats 1600000 in
theorem lsums_early (va vb : Value) (row : List RF) (bl : List Int) (w : World) (ha : FracsN w va row) (hb : IntsV w vb bl) (h : ¬ (okB bl ∧ 0 < bl.length ∧ bl.length = row.length)) :
    Calls Tryz.prog 21 #[va, vb] w (RSum3 w row bl) := by
  have HB : Hid (badS row bl) := Lib.hid (fun h' => h ⟨h'.1, h'.2.1, h'.2.2.1⟩)
  have sa := ha.sl
  have la := ha.len
  have sb := CellsV.sl hb
  have lb := hb.len
  by_cases hk : okB bl ∧ 0 < bl.length
  · have hne : (((row.length : Nat) : Int) != (bl.length : Nat)) = true := by
      have : bl.length ≠ row.length := fun e => h ⟨hk.1, hk.2, e⟩
      simp; omega
    have HK := Lib.hid hk
    clear h hk
    go_enter Tryz.func21, Tryz.ntmps21
    go_wp2_with (first
      | (go_at_call 65; (with_reducible refine (count_any _ bl _ hb).mono ?_); rintro e5 w5 ⟨n5, b5, rfl, rfl, hc5, _⟩; obtain ⟨hn5, hb5⟩ := hc5 HK.out.1; obtain rfl : b5 = true := hb5.trans (decide_eq_true HK.out.2); clear hc5 hb5 hn5))
    go_ret2
    exact RSum3.bad HB.out (Below.refl _ _)
  · have HK : Hid (∀ n b, ((okB bl → n = cnt bl ∧ b = decide (0 < bl.length)) ∧ (¬ okB bl → b = false ∧ n = 0)) → b = false) := Lib.hid (fun n b hc => by
      by_cases h1 : okB bl
      · rw [(hc.1 h1).2]; exact decide_eq_false (fun h2 => hk ⟨h1, h2⟩)
      · exact (hc.2 h1).1)
    clear h hk
    go_enter Tryz.func21, Tryz.ntmps21
    go_wp2_with (first
      | (go_at_call 65; (with_reducible refine (count_any _ bl _ hb).mono ?_); rintro e5 w5 ⟨n5, b5, rfl, rfl, hc5⟩; obtain rfl : b5 = false := HK.out _ _ hc5; clear hc5))
    go_ret2
    exact RSum3.bad HB.out (Below.refl _ _)
theorem keep7w {w0 X Y : World} {a1 a2 a3 a4 a5 a6 a7 : Addr} {x1 x2 x3 x4 x5 x6 x7 : Value} (h : X.cell? a1 = some x1 ∧ X.cell? a2 = some x2 ∧ X.cell? a3 = some x3 ∧ X.cell? a4 = some x4 ∧ X.cell? a5 = some x5 ∧ X.cell? a6 = some x6 ∧ X.cell? a7 = some x7 ∧ Below w0.heap.size w0 X) (hb : Below X.heap.size X Y) :
    Y.cell? a1 = some x1 ∧ Y.cell? a2 = some x2 ∧ Y.cell? a3 = some x3 ∧ Y.cell? a4 = some x4 ∧ Y.cell? a5 = some x5 ∧ Y.cell? a6 = some x6 ∧ Y.cell? a7 = some x7 ∧ Below w0.heap.size w0 Y := by
  obtain ⟨k1, k2, k3, k4, k5, k6, k7, k8⟩ := h
  exact ⟨cell_below hb k1, cell_below hb k2, cell_below hb k3, cell_below hb k4, cell_below hb k5, cell_below hb k6, cell_below hb k7, below_then k8 hb⟩
theorem keep7a {w0 X : World} {a1 a2 a3 a4 a5 a6 a7 : Addr} {x1 x2 x3 x4 x5 x6 x7 : Value} (h : w0.cell? a1 = some x1 ∧ w0.cell? a2 = some x2 ∧ w0.cell? a3 = some x3 ∧ w0.cell? a4 = some x4 ∧ w0.cell? a5 = some x5 ∧ w0.cell? a6 = some x6 ∧ w0.cell? a7 = some x7) (hb : Below w0.heap.size w0 X) :
    X.cell? a1 = some x1 ∧ X.cell? a2 = some x2 ∧ X.cell? a3 = some x3 ∧ X.cell? a4 = some x4 ∧ X.cell? a5 = some x5 ∧ X.cell? a6 = some x6 ∧ X.cell? a7 = some x7 ∧ Below w0.heap.size w0 X := by
  obtain ⟨k1, k2, k3, k4, k5, k6, k7⟩ := h
  exact ⟨cell_below hb k1, cell_below hb k2, cell_below hb k3, cell_below hb k4, cell_below hb k5, cell_below hb k6, cell_below hb k7, hb⟩
theorem keep7c {w0 X : World} {a1 a2 a3 a4 a5 a6 a7 : Addr} {x1 x2 x3 x4 x5 x6 x7 : Value} (h : X.cell? a1 = some x1 ∧ X.cell? a2 = some x2 ∧ X.cell? a3 = some x3 ∧ X.cell? a4 = some x4 ∧ X.cell? a5 = some x5 ∧ X.cell? a6 = some x6 ∧ X.cell? a7 = some x7 ∧ Below w0.heap.size w0 X) : Below w0.heap.size w0 X := h.2.2.2.2.2.2.2
theorem keep7s {w0 X : World} {a1 a2 a3 a4 a5 a6 a7 : Addr} {x1 x2 x3 x4 x5 x6 x7 : Value} (h : w0.cell? a1 = some x1 ∧ w0.cell? a2 = some x2 ∧ w0.cell? a3 = some x3 ∧ w0.cell? a4 = some x4 ∧ w0.cell? a5 = some x5 ∧ w0.cell? a6 = some x6 ∧ w0.cell? a7 = some x7) (hb : Below w0.heap.size w0 X) {b : Nat} (hB : w0.heap.size ≤ b) (x y z : Value) :
    (((X.setCell ⟨b, 0, none⟩ x).setCell ⟨b, 1, none⟩ y).setCell ⟨b, 2, none⟩ z).cell? a1 = some x1 ∧ (((X.setCell ⟨b, 0, none⟩ x).setCell ⟨b, 1, none⟩ y).setCell ⟨b, 2, none⟩ z).cell? a2 = some x2 ∧ (((X.setCell ⟨b, 0, none⟩ x).setCell ⟨b, 1, none⟩ y).setCell ⟨b, 2, none⟩ z).cell? a3 = some x3 ∧
    (((X.setCell ⟨b, 0, none⟩ x).setCell ⟨b, 1, none⟩ y).setCell ⟨b, 2, none⟩ z).cell? a4 = some x4 ∧ (((X.setCell ⟨b, 0, none⟩ x).setCell ⟨b, 1, none⟩ y).setCell ⟨b, 2, none⟩ z).cell? a5 = some x5 ∧ (((X.setCell ⟨b, 0, none⟩ x).setCell ⟨b, 1, none⟩ y).setCell ⟨b, 2, none⟩ z).cell? a6 = some x6 ∧ (((X.setCell ⟨b, 0, none⟩ x).setCell ⟨b, 1, none⟩ y).setCell ⟨b, 2, none⟩ z).cell? a7 = some x7 ∧ Below w0.heap.size w0 (((X.setCell ⟨b, 0, none⟩ x).setCell ⟨b, 1, none⟩ y).setCell ⟨b, 2, none⟩ z) :=
  keep7a h (below_set3 hb hB x y z)
set_option maxRecDepth 100000 in
set_option maxHeartbeats 6400000 in
theorem lsums_main (va vb : Value) (row : List RF) (bl : List Int) (w : World) (ha : FracsN w va row) (hb : IntsV w vb bl) (hok : okB bl) (h0 : 0 < bl.length) (hlen : bl.length = row.length) (hn : bl.length ≤ 128) :
    Calls Tryz.prog 21 #[va, vb] w (RSum3 w row bl) := by
  have sa := ha.sl
  have la := ha.len
  have sb := CellsV.sl hb
  have lb := hb.len
  have HOK := Lib.hid hok
  have HLEN := Lib.hid hlen
  rw [← hlen] at la
  obtain ⟨n, hcn⟩ : ∃ n, cnt bl = n := ⟨_, rfl⟩
  have hn2 : n ≤ 128 := by have := cnt_le bl bl.length; rw [List.take_length] at this; omega
  have HN := Lib.hid hcn
  have HNB : Hid ((∀ x ∈ row, x.ok) → ¬ badS row bl) := Lib.hid (fun h h' => h' ⟨hok, h0, hlen, h⟩)
  have HBD : Hid ((¬ ∀ x ∈ row, x.ok) → badS row bl) := Lib.hid (fun h h' => h h'.2.2.2)
  have HP0 : Hid (decide (0 < bl.length) = true) := Lib.hid (decide_eq_true h0)
  obtain ⟨i0, hi, hz0, hz1, hz2⟩ := info_parts Tryz.infoF
  have hM := make_fr (P := Tryz.prog) 25 38 i0 Tryz.underlying25 hi hz0 hz1 (by rw [hz2]; decide)
  clear hi hz0 hz1 hz2 hok hcn hlen
  go_enter Tryz.func21, Tryz.ntmps21
  go_wp2_with (first
    | (go_at_call 65; (with_reducible refine (count_any _ bl _ hb).mono ?_); rintro e5 w5 ⟨n5, b5, rfl, rfl, hc5, _⟩; obtain ⟨hn5, hb5⟩ := hc5 HOK.out; obtain rfl : b5 = true := hb5.trans HP0.out; obtain rfl : n5 = n := hn5.trans HN.out; clear hc5 hb5 hn5))
  go_loopw [32] (fun u32 wr => ∃ (k : Nat), k ≤ bl.length ∧ u32 = .int .i64 k ∧ (∀ x ∈ row.take k, x.ok) ∧ Below w.heap.size w wr) (fun u32 _ => bl.length - (intOf u32).toNat)
  case atStart => exact ⟨0, Nat.zero_le _, rfl, by simp, Below.refl _ _⟩
  case round =>
    obtain ⟨k, hk, rfl, hpl, hbr⟩ := hrel
    have HPL := Lib.hid hpl
    clear hpl
    by_cases hkl : k < bl.length
    · have hkr : k < row.length := by rw [← HLEN.out]; exact hkl
      obtain ⟨xa, xb, c1, c2, c3, hxa, hxb⟩ := (ha.below hbr).at' k hkr
      obtain ⟨c1a, c1l, c1k, rfl, _⟩ := hxa.slen.1
      obtain ⟨c2a, c2l, c2k, rfl, _⟩ := hxb.slen.1
      have HNX : Hid ((row[k]'hkr).ok → ∀ x ∈ row.take (k + 1), x.ok) := Lib.hid (fun h x hx => by
        rw [take_snoc row k hkr, List.mem_append, List.mem_singleton] at hx
        rcases hx with hx | rfl
        · exact HPL.out x hx
        · exact h)
      have HNO : Hid (¬ (row[k]'hkr).ok → badS row bl) := Lib.hid (fun h => HBD.out (fun h' => h (h' _ (List.getElem_mem hkr))))
      generalize row[k]'hkr = x at *
      have hba := below_alloc wr (.cells #[.bool x.neg, .slice c1a c1l c1k, .slice c2a c2l c2k] 38)
      have HA : Hid (FracN (wr.alloc (.cells #[.bool x.neg, .slice c1a c1l c1k, .slice c2a c2l c2k] 38)) (.agg #[.bool x.neg, .slice c1a c1l c1k, .slice c2a c2l c2k]) x.neg x.n x.d) := Lib.hid ⟨_, _, rfl, hxa.below hba, hxb.below hba⟩
      have i1 : (0 : Int) ≤ (k : Int) := by omega
      have i2 : (k : Int) < (bl.length : Nat) := by omega
      clear hxa hxb hkr
      by_cases hx : x.ok
      · have HY := Lib.hid (HNX.out hx)
        have HX : Hid (okN x.n x.d) := Lib.hid hx
        clear hx
        go_wp2_with (go_at_call 79; (with_reducible refine (valid_ok _ x.neg x.n x.d _ HA.out HX.out).mono ?_); rintro e9 w9 ⟨rfl, hbel9⟩)
        go_roundw
        case rel => exact ⟨k + 1, hkl, by go_num, HY.out, below_then (below_then hbr hba) hbel9⟩
        case measure => simp [intOf]; omega
      · have HY := Lib.hid (HNO.out hx)
        have HX : Hid (¬ okN x.n x.d) := Lib.hid hx
        clear hx
        go_wp2_with (go_at_call 79; (with_reducible refine (valid_no _ x.neg x.n x.d _ HA.out HX.out).mono ?_); rintro e9 w9 ⟨rfl, hbel9⟩)
        go_ret2
        exact RSum3.bad HY.out (below_then (below_then hbr hba) hbel9)
    · obtain rfl : k = bl.length := by omega
      have HROK : Hid (∀ x ∈ row, x.ok) := Lib.hid (by have := HPL.out; rwa [List.take_of_length_le (by rw [HLEN.out]; exact Nat.le_refl _)] at this)
      have HGOOD := Lib.hid (HNB.out HROK.out)
      have HBR := Lib.hid hbr
      obtain ⟨W0, hW0⟩ : ∃ W0, W0 = wr := ⟨_, rfl⟩
      subst hW0
      go_wp2_with (first
        | (refine hM _ rfl _ _ rfl W0.heap.size _ n5 rfl rfl rfl (by omega) (Nat.le_refl _) ?_; intro v w1 hown hb1 hvb; have sv := hown.sl; have lv := hown.len))
      clear hM
      go_loopw [44] (fun u44 wr => ∃ (k : Nat), k ≤ n5 ∧ u44 = .int .i64 k ∧ OwnFr wr 38 W0.heap.size v n5 ∧ (∀ j, j < k → ElemC wr v j 0) ∧ Below W0.heap.size W0 wr) (fun u44 _ => n5 - (intOf u44).toNat)
      case atStart => exact ⟨0, Nat.zero_le _, rfl, hown, fun j h => by omega, hb1⟩
      case round =>
        obtain ⟨k, hk, rfl, ho, he, hbr2⟩ := hrel
        have HE := Lib.hid he
        have HB2 := Lib.hid hbr2
        clear he
        by_cases hkn : k < n5
        · go_wp2_with (go_at_call 67; (with_reducible refine (make_01 _).mono ?_); rintro e w2 ⟨r, rfl, hr, hb2⟩
                       obtain ⟨t9, x9, y9, rfl, ⟨a1, l91, k1, rfl, _⟩, ⟨a2, l92, k2, rfl, _⟩⟩ := hr.isF
                       have ho2 := ho.below hb2
                       obtain ⟨c0, d0, _⟩ := ho2.cell (k * 3) (by omega)
                       obtain ⟨c1, d1, _⟩ := ho2.cell (k * 3 + 1) (by omega)
                       obtain ⟨c2, d2, _⟩ := ho2.cell (k * 3 + 2) (by omega)
                       have f0 := ho2.frozen (k * 3)
                       have f1 := ho2.frozen (k * 3 + 1)
                       have f2 := ho2.frozen (k * 3 + 2)
                       have n01 := ho2.inj (show k * 3 ≠ k * 3 + 1 by omega)
                       have n02 := ho2.inj (show k * 3 ≠ k * 3 + 2 by omega)
                       have n12 := ho2.inj (show k * 3 + 1 ≠ k * 3 + 2 by omega)
                       have hs3 := ho2.set3 k (.bool t9) (.slice a1 l91 k1) (.slice a2 l92 k2) (fun z => by simp) (fun z => by simp) (fun z => by simp)
                       have HS3 := Lib.hid hs3
                       clear hs3)
          go_roundw
          case rel =>
            refine ⟨k + 1, hkn, by go_num, HS3.out.1, fun j hj => ?_, (below_then HB2.out hb2).trans HS3.out.2⟩
            rcases Nat.lt_or_ge j k with h6 | h6
            · exact ElemC.set3_other ho2 hkn (by omega) ((HE.out j h6).below hb2) _ _ _ (fun z => by simp) (fun z => by simp)
            · obtain rfl : j = k := by omega
              exact ElemC.set3 ho2 hkn hr
          case measure => simp [intOf]; omega
        · obtain rfl : k = n5 := by omega
          have HE0 : Hid (∀ j, j < k → ElemC wr v j (bsum (bl.take 0) ((qs row).take 0) (j : Nat))) := Lib.hid (fun j hj => by have := HE.out j hj; simpa [bsum, bsel, lsum] using this)
          have HO := Lib.hid ho
          go_wp2_with fail
          have HF0 : Hid (∀ j : Nat, fits (bsum (bl.take 0) ((qs row).take 0) (j : Nat))) := Lib.hid (fun j => by
            have : bsum (bl.take 0) ((qs row).take 0) (j : Nat) = 0 := by simp [bsum, bsel, lsum]
            rw [this]; exact ⟨by decide +kernel, by decide +kernel⟩)
          go_loopg [57] (bl.length) (fun g u57 wr => ∃ (i : Nat), i ≤ bl.length ∧ g = bl.length - i ∧ u57 = .int .i64 i ∧ OwnFr wr 38 W0.heap.size v k ∧ (∀ j, j < k → ElemC wr v j (bsum (bl.take i) ((qs row).take i) (j : Nat))) ∧ (∀ (y : Nat) (h : y < bl.length), y < i → fits (bsum (bl.take (y + 1)) ((qs row).take (y + 1)) bl[y])) ∧ (∀ j : Nat, fits (bsum (bl.take i) ((qs row).take i) (j : Nat))) ∧ Below W0.heap.size W0 wr)
          case atStart => exact ⟨0, Nat.zero_le _, rfl, rfl, HO.out, HE0.out, fun y h h1 => by omega, HF0.out, HB2.out⟩
          case round =>
            obtain ⟨i, hi, hg2, rfl, ho3, he3, hf3, hf4, hbr3⟩ := hrel
            have HO3 := Lib.hid ho3
            have HE3 := Lib.hid he3
            have HF3 := Lib.hid hf3
            have HF4 := Lib.hid hf4
            have HB3 := Lib.hid hbr3
            by_cases hil : i < bl.length
            · have hir : i < row.length := by rw [← HLEN.out]; exact hil
              obtain ⟨xa, xb, e1, e2, e3, hxa, hxb⟩ := ((ha.below HBR.out).below hbr3).at' i hir
              obtain ⟨c1a, c1l, c1k, rfl, _⟩ := hxa.slen.1
              obtain ⟨c2a, c2l, c2k, rfl, _⟩ := hxb.slen.1
              have hbc := ((hb.below HBR.out).below hbr3).at' i hil
              have hblt := HOK.out.lt (List.getElem?_eq_getElem hil)
              rw [HN.out] at hblt
              have HBT : Hid (∀ j : Nat, bsum (bl.take (i + 1)) ((qs row).take (i + 1)) (j : Nat) = if bl[i]'hil = (j : Nat) then bsum (bl.take i) ((qs row).take i) (j : Nat) + (row[i]'hir).q else bsum (bl.take i) ((qs row).take i) (j : Nat)) := Lib.hid (fun j => by
                rw [bsum_take bl (qs row) (j : Nat) i hil (by rw [qs_length]; exact hir), qs_get row i hir])
              have HXO : Hid (okN (row[i]'hir).n (row[i]'hir).d) := Lib.hid (HROK.out _ (List.getElem_mem hir))
              have HIL := Lib.hid hil
              generalize hbk : bl[i]'hil = bk at *
              obtain ⟨b, rfl⟩ : ∃ b : Nat, bk = (b : Int) := ⟨bk.toNat, by omega⟩
              have HBK : Hid (∀ h : i < bl.length, bl[i]'h = (b : Int)) := Lib.hid (fun _ => hbk)
              have hbn : b < k := by omega
              generalize row[i]'hir = x at *
              have i1 : (0 : Int) ≤ (i : Int) := by omega
              have i2 : (i : Int) < (bl.length : Nat) := by omega
              have i3 : (0 : Int) ≤ (b : Int) := by omega
              have i4 : (b : Int) < (k : Nat) := by omega
              have hbx := below_alloc wr (.cells #[.bool x.neg, .slice c1a c1l c1k, .slice c2a c2l c2k] 38)
              have hc13 := C3.new wr 38 (.bool x.neg) (.slice c1a c1l c1k) (.slice c2a c2l c2k)
              have HXA := Lib.hid (And.intro (hxa.below hbx) (hxb.below hbx))
              go_wp2_with fail
              generalize wr.alloc (.cells #[.bool x.neg, .slice c1a c1l c1k, .slice c2a c2l c2k] 38) = W3 at *
              have hbr4 := below_then hbr3 hbx
              have HO4 := Lib.hid (ho3.below hbx)
              have HE4 := Lib.hid (fun j hj => (he3 j hj).below hbx)
              have HB4 := Lib.hid hbr4
              obtain ⟨ea, eb, g1, g2, g3, g4, g5⟩ := (he3 b hbn).below hbx
              obtain ⟨ea1, ea2, ea3, rfl, _⟩ := id g4.v.sl
              obtain ⟨eb1, eb2, eb3, rfl, _⟩ := id g5.v.sl
              obtain ⟨p, hp⟩ : ∃ p, bsum (bl.take i) ((qs row).take i) ((b : Nat) : Int) = p := ⟨_, rfl⟩
              obtain ⟨r, hr⟩ : ∃ r, bsum (bl.take (i + 1)) ((qs row).take (i + 1)) ((b : Nat) : Int) = r := ⟨_, rfl⟩
              rw [hp] at g1 g4 g5
              have HP : Hid (FracC W3 (.agg #[.bool (decide (p < 0)), .slice ea1 ea2 ea3, .slice eb1 eb2 eb3]) p) := Lib.hid ⟨_, _, rfl, g4, g5⟩
              have HX : Hid (FracN W3 (.agg #[.bool x.neg, .slice c1a c1l c1k, .slice c2a c2l c2k]) x.neg x.n x.d) := Lib.hid ⟨_, _, rfl, HXA.out.1, HXA.out.2⟩
              have HPF : Hid (fits p) := Lib.hid (by rw [← hp]; exact HF4.out b)
              have HEQ : Hid (p + x.q = r) := Lib.hid (by rw [← hp, ← hr, HBT.out, if_pos rfl])
              have HR := Lib.hid hr
              obtain ⟨_, q1, q2, q3, _, _, _⟩ := hc13
              have hbc3 := cell_below hbx hbc
              have S0 := Lib.hid (And.intro g1 (And.intro g2 (And.intro g3 (And.intro q1 (And.intro q2 (And.intro q3 hbc3))))))
              generalize hS13 : wr.heap.size = S13 at *
              clear g1 g2 g3 g4 g5 hxa hxb e1 e2 e3 he3 hf3 hf4 hp hr hbk hir q1 q2 q3 hbc hbc3 hblt hbx hbr3 hS13
              go_cut [14, 15] (fun u14 u15 wy => ∃ (b10 : Nat) (t' : Bool) (x' y' : Value) (er : Int), u14 = .pointer (some ⟨b10, 0, none⟩) ∧ u15 = .int .i64 er ∧ C3 wy b10 (.bool t') x' y' ∧ IsSl x' ∧ IsSl y' ∧ (fits r → er = 0 ∧ FracC wy (.agg #[.bool t', x', y']) r) ∧ (¬ fits r → er = 2) ∧ Below W3.heap.size W3 wy ∧ W3.heap.size ≤ b10)
              case first =>
                go_region_held3 (fun w' => w'.cell? (ptr v (b * 3)) = some (.bool (decide (p < 0))) ∧ w'.cell? (ptr v (b * 3 + 1)) = some (.slice ea1 ea2 ea3) ∧ w'.cell? (ptr v (b * 3 + 2)) = some (.slice eb1 eb2 eb3) ∧ w'.cell? ⟨S13, 0, none⟩ = some (.bool x.neg) ∧ w'.cell? ⟨S13, 1, none⟩ = some (.slice c1a c1l c1k) ∧ w'.cell? ⟨S13, 2, none⟩ = some (.slice c2a c2l c2k) ∧ w'.cell? (ptr vb i) = some (.int .i64 (b : Nat)) ∧ Below W3.heap.size W3 w') (first
                  | with_reducible exact keep7a S0.out (below_drew _)
                  | with_reducible exact keep7w (by assumption) (below_alloc _ _)
                  | with_reducible exact keep7w (by assumption) (by assumption)
                  | with_reducible exact keep7a S0.out (below_then hB31 (below_alloc _ _))
                  | with_reducible exact keep7s S0.out hB31 (Nat.le_refl _) _ _ _) (first
                  | (go_at_call 80; (with_reducible refine (add_rf _ _ p r x _ (HP.out.below (keep7c (by assumption))) (HX.out.below (keep7c (by assumption))) HPF.out HXO.out HEQ.out).mono ?_); rintro e31 w31 ⟨v31, er31, rfl, hb31, hv31, hv32⟩
                     obtain ⟨t31, x31, y31, rfl, hsx, hsy⟩ := rfrac_isF (w0 := w) hv31 hv32
                     have HSX := Lib.hid (And.intro hsx hsy)
                     obtain ⟨a311, l311, k311, rfl, _⟩ := id hsx
                     obtain ⟨a312, l312, k312, rfl, _⟩ := id hsy
                     clear hsx hsy
                     have hB31 := below_then (keep7c (by assumption)) hb31
                     have hc5 := (fun (p : Addr) hp => hb31.cell (p := p) hp)
                     have hf5 := (fun (p : Addr) hp => hb31.frozen (p := p) hp)
                     have zq := hb31.size
                     (try simp only [sizeA, sizeD] at zq)
                     (try have z1 : W3.heap.size < w31.heap.size := (by omega))))
                all_goals
                  have hE := keep7c (by assumption)
                  have HV31 := Lib.hid (And.intro hv31 hv32)
                  clear hv31 hv32
                  go_wp2_with fail
                  go_meet
                  case rel =>
                    first
                      | exact ⟨_, _, _, _, _, rfl, rfl, C3.new w31 _ _ _ _, HSX.out.1, HSX.out.2, fun h => ⟨(HV31.out.1 h).1, (HV31.out.1 h).2.below (below_alloc _ _)⟩, fun h => (HV31.out.2 h).1, hE, hB31.size⟩
                      | exact ⟨_, _, _, _, _, rfl, rfl, (((C3.newB (b := W3.heap.size) W3 38 (.bool false) (.slice none 0 0) (.slice none 0 0) rfl).belowS (below_drew _)).belowS hb31).set _ _ _, HSX.out.1, HSX.out.2, fun h => ⟨(HV31.out.1 h).1, (HV31.out.1 h).2.set3 (((C3.newB (b := W3.heap.size) W3 38 (.bool false) (.slice none 0 0) (.slice none 0 0) rfl).belowS (below_drew _)).belowS hb31) (fun z => by simp) (fun z => by simp) _ _ _⟩, fun h => (HV31.out.2 h).1, hE, Nat.le_refl _⟩
              case rest =>
                obtain ⟨b10, t10, x10, y10, er, rfl, rfl, hC10, hsx10, hsy10, hv10, hv11, hb10, hb10s⟩ := hcut
                obtain ⟨W4, hW4⟩ : ∃ W4, W4 = wc := ⟨_, rfl⟩
                subst hW4
                obtain ⟨a101, l101, k101, rfl, _⟩ := id hsx10
                obtain ⟨a102, l102, k102, rfl, _⟩ := id hsy10
                have HB5 := Lib.hid (below_then HB4.out hb10)
                by_cases hfit : fits r
                · obtain ⟨rfl, hv12⟩ := hv10 hfit
                  have HFT := Lib.hid hfit
                  have HF6 : Hid (∀ (y : Nat) (h : y < bl.length), y < i + 1 → fits (bsum (bl.take (y + 1)) ((qs row).take (y + 1)) bl[y])) := Lib.hid (fun y h h1 => by
                    rcases Nat.lt_or_ge y i with h6 | h6
                    · exact HF3.out y h h6
                    · obtain rfl : y = i := by omega
                      rw [HBK.out, HR.out]; exact HFT.out)
                  have HF7 : Hid (∀ j : Nat, fits (bsum (bl.take (i + 1)) ((qs row).take (i + 1)) (j : Nat))) := Lib.hid (fun j => by
                    by_cases hj : j = b
                    · subst hj; rw [HR.out]; exact HFT.out
                    · rw [HBT.out j, if_neg (by omega)]; exact HF4.out j)
                  have hD := below_drew (B := W4.heap.size) W4
                  have hbD := below_then hb10 hD
                  have ho4 := HO4.out.below hb10
                  have HC10 := Lib.hid hC10
                  have HV12 := Lib.hid (hv12.below hD)
                  have hbc4 := cell_below hb10 S0.out.2.2.2.2.2.2
                  obtain ⟨c0, d0, _⟩ := ho4.cell (b * 3) (by omega)
                  obtain ⟨c1, d1, _⟩ := ho4.cell (b * 3 + 1) (by omega)
                  obtain ⟨c2, d2, _⟩ := ho4.cell (b * 3 + 2) (by omega)
                  have f0 := ho4.frozen (b * 3)
                  have f1 := ho4.frozen (b * 3 + 1)
                  have f2 := ho4.frozen (b * 3 + 2)
                  have n01 := ho4.inj (show b * 3 ≠ b * 3 + 1 by omega)
                  have n02 := ho4.inj (show b * 3 ≠ b * 3 + 2 by omega)
                  have n12 := ho4.inj (show b * 3 + 1 ≠ b * 3 + 2 by omega)
                  have HO5 := Lib.hid (HO4.out.below hbD)
                  have HE5 := Lib.hid (fun j hj => (HE4.out j hj).below hbD)
                  have HB6 := Lib.hid (below_then HB5.out hD)
                  clear hfit hv10 hv11 hv12 hC10 ho4
                  obtain ⟨_, q0, q1, q2, _, _, _⟩ := HC10.out
                  go_wp2_with fail
                  go_region_law (fail)
                  all_goals
                    clear q0 q1 q2 hbc4 d0 d1 d2 f0 f1 f2 n01 n02 n12
                    go_wp2
                    go_roundg (bl.length - (i + 1))
                    case measure => omega
                    case rel =>
                      have hs4 := HO5.out.set3 b (.bool t10) (.slice a101 l101 k101) (.slice a102 l102 k102) (fun z => by simp) (fun z => by simp) (fun z => by simp)
                      refine ⟨i + 1, hil, rfl, by go_num, hs4.1, fun j hj => ?_, HF6.out, HF7.out, HB6.out.trans hs4.2⟩
                      by_cases hjb : b = j
                      · subst hjb
                        rw [HR.out]
                        exact ElemC.set3 HO5.out hbn HV12.out
                      · rw [HBT.out j, if_neg (by omega)]
                        exact ElemC.set3_other HO5.out hbn hjb (HE5.out j hj) _ _ _ (fun z => by simp) (fun z => by simp)
                · obtain rfl := hv11 hfit
                  have HNF : Hid (¬ fitS row bl) := Lib.hid (fun h => hfit (by
                    have := h i HIL.out
                    rw [HBK.out, HR.out] at this
                    exact this))
                  clear hv10 hv11 hC10 hfit
                  go_wp2_with fail
                  go_ret2
                  exact RSum3.big HGOOD.out HNF.out (below_then HBR.out HB5.out)
            · obtain rfl : i = bl.length := by omega
              have HFS : Hid (fitS row bl) := Lib.hid (fun y h => HF3.out y h h)
              have HV : Hid (FracsC wr v (bsums bl (qs row) (cnt bl))) := Lib.hid (HO3.out.fracs (by rw [bsums_length, HN.out]) (fun j hj => by
                rw [bsums_length, HN.out] at hj
                rw [bsums_get _ _ _ _ (by rw [HN.out]; exact hj)]
                have := HE3.out j hj
                rwa [List.take_length, List.take_of_length_le (by rw [qs_length, HLEN.out]; exact Nat.le_refl _)] at this))
              clear ho3 he3 hf3 hf4
              go_wp2_with fail
              go_ret2
              exact ⟨_, _, rfl, below_then HBR.out HB3.out, fun h => absurd h HGOOD.out, fun _ _ => ⟨rfl, HV.out⟩, fun _ h => absurd HFS.out h⟩
theorem lsums_any (va vb : Value) (row : List RF) (bl : List Int) (w : World) (ha : FracsN w va row) (hb : IntsV w vb bl) (hn : bl.length ≤ 128) :
    Calls Tryz.prog 21 #[va, vb] w (RSum3 w row bl) := by
  by_cases h : okB bl ∧ 0 < bl.length ∧ bl.length = row.length
  · exact lsums_main va vb row bl w ha hb h.1 h.2.1 h.2.2 hn
  · exact lsums_early va vb row bl w ha hb h
end Go.Proofs.YtlpdkbmmbdfoiaaGreat
