/-
  package drydockref22: Quotient.
  Ahead of it: package drydockref22: Sums. A chain in the making, without a tape: the variable b5 of its three slices, its rows. No code is walked here.
-/
import Derived.Test.YtoldfpkafcefnaaQRw4
import Derived.Test.YtoldfpkafcefnaaQRd1
import Derived.Test.YtoldfpkafcefnaaQTa4
import Derived.Test.YtoldfpkafcefnaaQRf5
import Derived.Test.YtoldfpkafcefnaaQCp1
import Derived.Test.YtoldfpkafcefnaaQTa6
import Derived.Deep.CutRange
import Derived.Deep.DeepCutAuto
import Derived.Deep.LoopGhost
namespace Go.Proofs.Ytoldfpkafcefnaa
set_option linter.unusedVariables false
set_option linter.unusedSimpArgs false
open Go.RowKit

/-- What Sums returns. -/
def badS (row : List RF) (bl : List Int) : Prop := ¬ (okB bl ∧ 0 < bl.length ∧ bl.length = row.length ∧ ∀ x ∈ row, x.ok)
def fitS (row : List RF) (bl : List Int) : Prop := ∀ (k : Nat) (h : k < bl.length), fits (bsum (bl.take (k + 1)) ((qs row).take (k + 1)) bl[k])
def RSum2 (w0 : World) (row : List RF) (bl : List Int) (e : Ending) (w : World) : Prop :=
  ∃ v er, e = .returned (.tuple #[v, .int .i64 er]) ∧ Below w0.heap.size w0 w ∧ (badS row bl → er = 1 ∧ v = .slice none 0 0) ∧ (¬ badS row bl → fitS row bl → er = 0 ∧ FracsC w v (bsums bl (qs row) (cnt bl)) ∧ OwnFr w 50 w0.heap.size v (cnt bl)) ∧ (¬ badS row bl → ¬ fitS row bl → er = 2 ∧ v = .slice none 0 0)
theorem RSum2.bad {w0 w : World} {row : List RF} {bl : List Int} (h : badS row bl) (hb : Below w0.heap.size w0 w) : RSum2 w0 row bl (.returned (.tuple #[.slice none 0 0, .int .i64 1])) w :=
  ⟨_, _, rfl, hb, fun _ => ⟨rfl, rfl⟩, fun h' => absurd h h', fun h' => absurd h h'⟩
theorem RSum2.big {w0 w : World} {row : List RF} {bl : List Int} (h : ¬ badS row bl) (hf : ¬ fitS row bl) (hb : Below w0.heap.size w0 w) : RSum2 w0 row bl (.returned (.tuple #[.slice none 0 0, .int .i64 2])) w :=
  ⟨_, _, rfl, hb, fun h' => absurd h' h, fun _ h' => absurd h' hf, fun _ _ => ⟨rfl, rfl⟩⟩
/-- Add of a canonical and another fraction. -/
theorem r2add_rf (va vb : Value) (p r : Rat) (x : RF) (w : World) (ha : FracC w va p) (hb : FracN w vb x.neg x.n x.d) (hp : fits p) (hx : okN x.n x.d) (hr : p + x.q = r) :
    Calls Try.prog 45 #[va, vb] w (RFrac w r) := by
  refine (r2add_any va vb _ _ _ _ _ _ w ha.raw hb (fits_okN hp) hx).mono ?_
  rw [fq_self, show p + fq x.neg x.n x.d = r from hr]
  exact fun _ _ h => h
set_option maxRecDepth 100000 in
set_option maxHeartbeats 1600000 in
theorem rsums_early (va vb : Value) (row : List RF) (bl : List Int) (w : World) (ha : FracsN w va row) (hb : IntsV w vb bl) (h : ¬ (okB bl ∧ 0 < bl.length ∧ bl.length = row.length)) :
    Calls Try.prog 21 #[va, vb] w (RSum2 w row bl) := by
  have HB : Hid (badS row bl) := Lib.hid (fun h' => h ⟨h'.1, h'.2.1, h'.2.2.1⟩)
  have sa := ha.sl
  have la := ha.len
  have sb := CellsV.sl hb
  have lb := hb.len
  obtain ⟨n, hn⟩ : ∃ n, bl.length = n := ⟨_, rfl⟩
  rw [hn] at lb
  by_cases h0 : n = 0
  · subst h0
    clear h
    go_enter Try.func21, Try.ntmps21
    go_wp2_with fail
    go_ret2
    exact RSum2.bad HB.out (Below.refl _ _)
  · have hz : ((n : Int) == 0) = false := by simp; omega
    have hnp : 0 < n := by omega
    have HP : Hid (¬ (okB bl ∧ bl.length = row.length)) := Lib.hid (fun h' => h ⟨h'.1, by omega, h'.2⟩)
    clear h h0
    go_enter Try.func21, Try.ntmps21
    go_wp2_with (first
      | (go_at_call 42; (with_reducible refine (part_any _ bl row.length _ hb).mono ?_); rintro e3 w3 ⟨⟨b3, rfl, hv3⟩, hbel3⟩; obtain rfl : b3 = false := Bool.eq_false_iff.2 (fun h => HP.out (hv3.1 h)); clear hv3))
    go_ret2
    exact RSum2.bad HB.out hbel3
set_option maxRecDepth 100000 in
set_option maxHeartbeats 6400000 in
theorem rsums_main (va vb : Value) (row : List RF) (bl : List Int) (w : World) (ha : FracsN w va row) (hb : IntsV w vb bl) (hok : okB bl) (h0 : 0 < bl.length) (hlen : bl.length = row.length) (hn : bl.length ≤ 128) :
    Calls Try.prog 21 #[va, vb] w (RSum2 w row bl) := by
  have sa := ha.sl
  have la := ha.len
  have sb := CellsV.sl hb
  have lb := hb.len
  have hz : (((bl.length : Nat) : Int) == 0) = false := beq_eq_false_iff_ne.2 (by omega)
  have HOK := Lib.hid hok
  have HLEN := Lib.hid hlen
  rw [← hlen] at la
  obtain ⟨n, hcn⟩ : ∃ n, cnt bl = n := ⟨_, rfl⟩
  have hn2 : n ≤ 128 := by have := cnt_le bl bl.length; rw [List.take_length] at this; omega
  have HN := Lib.hid hcn
  have HNB : Hid ((∀ x ∈ row, x.ok) → ¬ badS row bl) := Lib.hid (fun h h' => h' ⟨hok, h0, hlen, h⟩)
  have HBD : Hid ((¬ ∀ x ∈ row, x.ok) → badS row bl) := Lib.hid (fun h h' => h h'.2.2.2)
  obtain ⟨i0, hi, hz0, hz1, hz2⟩ := info_parts Try.infoF
  have hM := make_fr (P := Try.prog) 24 50 i0 Try.underlying24 hi hz0 hz1 (by rw [hz2]; decide)
  clear hi hz0 hz1 hz2 hok hcn hlen
  go_enter Try.func21, Try.ntmps21
  go_wp2_with (first
    | (go_at_call 42; (with_reducible refine (part_any _ bl bl.length _ hb).mono ?_); rintro e3 w3 ⟨⟨b3, rfl, hv3⟩, hbel3⟩; obtain rfl : b3 = true := hv3.2 ⟨HOK.out, rfl⟩; clear hv3))
  go_loopw [6] (fun u6 wr => ∃ (k : Nat), k ≤ bl.length ∧ u6 = .int .i64 k ∧ (∀ x ∈ row.take k, x.ok) ∧ Below w.heap.size w wr) (fun u6 _ => bl.length - (intOf u6).toNat)
  case atStart => exact ⟨0, Nat.zero_le _, rfl, by simp, hbel3⟩
  case round =>
    obtain ⟨k, hk, rfl, hpl, hbr⟩ := hrel
    have HPL := Lib.hid hpl
    clear hpl
    by_cases hkl : k < bl.length
    · have hkr : k < row.length := by rw [← HLEN.out]; exact hkl
      obtain ⟨xa, xb, c1, c2, c3, hxa, hxb⟩ := (ha.below hbr).at' k hkr
      obtain ⟨c1a, c1l, c1k, rfl, _⟩ := hxa.slen.1
      obtain ⟨c2a, c2l, c2k, rfl, _⟩ := hxb.slen.1
      have HNX : Hid ((row[k]'hkr).ok → ∀ x ∈ row.take (k + 1), x.ok) := Lib.hid (fun h x hx => by
        rw [take_snoc row k hkr, List.mem_append, List.mem_singleton] at hx
        rcases hx with hx | rfl
        · exact HPL.out x hx
        · exact h)
      have HNO : Hid (¬ (row[k]'hkr).ok → badS row bl) := Lib.hid (fun h => HBD.out (fun h' => h (h' _ (List.getElem_mem hkr))))
      generalize row[k]'hkr = x at *
      have HA : Hid (FracN wr (.agg #[.bool x.neg, .slice c1a c1l c1k, .slice c2a c2l c2k]) x.neg x.n x.d) := Lib.hid ⟨_, _, rfl, hxa, hxb⟩
      have i1 : (0 : Int) ≤ (k : Int) := by omega
      have i2 : (k : Int) < (bl.length : Nat) := by omega
      clear hxa hxb hkr
      by_cases hx : x.ok
      · have HY := Lib.hid (HNX.out hx)
        have HX : Hid (okN x.n x.d) := Lib.hid hx
        clear hx
        go_wp2_with (go_at_call 43; (with_reducible refine (r2valid_ok _ x.neg x.n x.d _ HA.out HX.out).mono ?_); rintro e9 w9 ⟨rfl, hbel9⟩)
        go_roundw
        case rel => exact ⟨k + 1, hkl, by go_num, HY.out, below_then hbr hbel9⟩
        case measure => simp [intOf]; omega
      · have HY := Lib.hid (HNO.out hx)
        have HX : Hid (¬ okN x.n x.d) := Lib.hid hx
        clear hx
        go_wp2_with (go_at_call 43; (with_reducible refine (r2valid_no _ x.neg x.n x.d _ HA.out HX.out).mono ?_); rintro e9 w9 ⟨rfl, hbel9⟩)
        go_ret2
        exact RSum2.bad HY.out (below_then hbr hbel9)
    · obtain rfl : k = bl.length := by omega
      have HROK : Hid (∀ x ∈ row, x.ok) := Lib.hid (by have := HPL.out; rwa [List.take_of_length_le (by rw [HLEN.out]; exact Nat.le_refl _)] at this)
      have HGOOD := Lib.hid (HNB.out HROK.out)
      have HBR := Lib.hid hbr
      go_wp2_with (first
        | (go_at_call 44; (with_reducible refine (rcount_any _ bl _ (hb.below hbr) HOK.out).mono ?_); rintro e4 w4 ⟨rfl, rfl⟩; rw [HN.out])
        | (refine hM _ rfl _ _ rfl wr.heap.size _ n rfl rfl rfl (by omega) (Nat.le_refl _) ?_; intro v w1 hown hb1 hvb; have sv := hown.sl; have lv := hown.len))
      clear hM hbel3
      have HA2 := Lib.hid ((ha.below hbr).below hb1)
      have HB2 := Lib.hid ((hb.below hbr).below hb1)
      have HBW := Lib.hid (below_then hbr hb1)
      obtain ⟨W0, hW0⟩ : ∃ W0, W0 = wr := ⟨_, rfl⟩
      subst hW0
      have HPRE0 : Hid (∀ (k : Nat) (h : k < bl.length), bl[k] < ((0 : Nat) : Int) → fits (bsum (bl.take (k + 1)) ((qs row).take (k + 1)) bl[k])) := Lib.hid (fun k h h' => by
        have := (HOK.out.lt (List.getElem?_eq_getElem h)).1; omega)
      go_loopg [8] (n) (fun g u8 wr => ∃ (b : Nat), b ≤ n ∧ g = n - b ∧ u8 = .int .i64 b ∧ OwnFr wr 50 W0.heap.size v n ∧ (∀ j, j < b → ElemC wr v j (bsum bl (qs row) j)) ∧ (∀ (k : Nat) (h : k < bl.length), bl[k] < ((b : Nat) : Int) → fits (bsum (bl.take (k + 1)) ((qs row).take (k + 1)) bl[k])) ∧ Below W0.heap.size W0 wr)
      case atStart => exact ⟨0, Nat.zero_le _, rfl, rfl, hown, fun j h => by omega, HPRE0.out, hb1⟩
      case round =>
        obtain ⟨b, hb', hg, rfl, ho, he, hf, hbr2⟩ := hrel
        have HE := Lib.hid he
        have HF := Lib.hid hf
        have HO := Lib.hid ho
        have HB0 := Lib.hid hbr2
        clear he hf
        by_cases hbn : b < n
        · go_wp2_with (go_at_call 27; (with_reducible refine (r2int_zero _).mono ?_); rintro e w2 ⟨r, rfl, hr, hb2⟩
                       obtain ⟨t9, x9, y9, rfl, ⟨a1, l91, k1, rfl, _⟩, ⟨a2, l92, k2, rfl, _⟩⟩ := hr.isF
                       have ho2 := ho.below hb2
                       obtain ⟨c0, d0, _⟩ := ho2.cell (b * 3) (by omega)
                       obtain ⟨c1, d1, _⟩ := ho2.cell (b * 3 + 1) (by omega)
                       obtain ⟨c2, d2, _⟩ := ho2.cell (b * 3 + 2) (by omega)
                       have f0 := ho2.frozen (b * 3)
                       have f1 := ho2.frozen (b * 3 + 1)
                       have f2 := ho2.frozen (b * 3 + 2)
                       have n01 := ho2.inj (show b * 3 ≠ b * 3 + 1 by omega)
                       have n02 := ho2.inj (show b * 3 ≠ b * 3 + 2 by omega)
                       have n12 := ho2.inj (show b * 3 + 1 ≠ b * 3 + 2 by omega))
          have hs3 := ho2.set3 b (.bool t9) (.slice a1 l91 k1) (.slice a2 l92 k2) (fun z => by simp) (fun z => by simp) (fun z => by simp)
          have hbl := ho2.block
          have HE0 : Hid (∀ j, j < b → ElemC (((w2.setCell (ptr v (b * 3)) (.bool t9)).setCell (ptr v (b * 3 + 1)) (.slice a1 l91 k1)).setCell (ptr v (b * 3 + 2)) (.slice a2 l92 k2)) v j (bsum bl (qs row) j)) := Lib.hid (fun j hj => ElemC.set3_other ho2 hbn (by omega) ((HE.out j hj).below hb2) _ _ _ (fun z => by simp) (fun z => by simp))
          have HE1 : Hid (ElemC (((w2.setCell (ptr v (b * 3)) (.bool t9)).setCell (ptr v (b * 3 + 1)) (.slice a1 l91 k1)).setCell (ptr v (b * 3 + 2)) (.slice a2 l92 k2)) v b (bsum (bl.take 0) ((qs row).take 0) (b : Nat))) := Lib.hid (by
            have := ElemC.set3 ho2 hbn hr
            simpa [bsum, bsel, lsum] using this)
          have HS3 := Lib.hid hs3
          have HW0 := Lib.hid ((below_then HB0.out hb2).trans hs3.2)
          have HZ : Hid (fits (bsum (bl.take 0) ((qs row).take 0) (b : Nat))) := Lib.hid (by
            have : bsum (bl.take 0) ((qs row).take 0) (b : Nat) = 0 := by simp [bsum, bsel, lsum]
            rw [this]; exact ⟨by decide +kernel, by decide +kernel⟩)
          clear hs3 f0 f1 f2 n01 n02 n12 hr hbl
          go_loopg [9] (bl.length) (fun g u9 wr => ∃ (i : Nat), i ≤ bl.length ∧ g = bl.length - i ∧ u9 = .int .i64 i ∧ OwnFr wr 50 W0.heap.size v n ∧ (∀ j, j < b → ElemC wr v j (bsum bl (qs row) j)) ∧ ElemC wr v b (bsum (bl.take i) ((qs row).take i) (b : Nat)) ∧ (∀ (k : Nat) (h : k < bl.length), k < i → bl[k] = ((b : Nat) : Int) → fits (bsum (bl.take (k + 1)) ((qs row).take (k + 1)) bl[k])) ∧ fits (bsum (bl.take i) ((qs row).take i) (b : Nat)) ∧ Below W0.heap.size W0 wr)
          case atStart => exact ⟨0, Nat.zero_le _, rfl, rfl, HS3.out.1, HE0.out, HE1.out, fun k h h1 => by omega, HZ.out, HW0.out⟩
          case round =>
            obtain ⟨i, hi, hg2, rfl, ho3, he3, he4, hf3, hf4, hbr3⟩ := hrel
            have HO3 := Lib.hid ho3
            have HE3 := Lib.hid he3
            have HE4 := Lib.hid he4
            have HF3 := Lib.hid hf3
            have HF4 := Lib.hid hf4
            have HB3 := Lib.hid hbr3
            by_cases hil : i < bl.length
            · have hir : i < row.length := by rw [← HLEN.out]; exact hil
              obtain ⟨xa, xb, e1, e2, e3, hxa, hxb⟩ := ((ha.below HBR.out).below hbr3).at' i hir
              obtain ⟨c1a, c1l, c1k, rfl, _⟩ := hxa.slen.1
              obtain ⟨c2a, c2l, c2k, rfl, _⟩ := hxb.slen.1
              have hbc := ((hb.below HBR.out).below hbr3).at' i hil
              have HBT : Hid (bsum (bl.take (i + 1)) ((qs row).take (i + 1)) (b : Nat) = if bl[i]'hil = (b : Nat) then bsum (bl.take i) ((qs row).take i) (b : Nat) + (row[i]'hir).q else bsum (bl.take i) ((qs row).take i) (b : Nat)) := Lib.hid (by
                rw [bsum_take bl (qs row) (b : Nat) i hil (by rw [qs_length]; exact hir), qs_get row i hir])
              have HXO : Hid (okN (row[i]'hir).n (row[i]'hir).d) := Lib.hid (HROK.out _ (List.getElem_mem hir))
              have HIL := Lib.hid hil
              generalize hbk : bl[i]'hil = bk at *
              have HBK : Hid (∀ h : i < bl.length, bl[i]'h = bk) := Lib.hid (fun _ => hbk)
              generalize row[i]'hir = x at *
              have i1 : (0 : Int) ≤ (i : Int) := by omega
              have i2 : (i : Int) < (bl.length : Nat) := by omega
              have i3 : (0 : Int) ≤ (b : Int) := by omega
              have i4 : (b : Int) < (n : Nat) := by omega
              obtain ⟨W3, hW3⟩ : ∃ W3, W3 = wr := ⟨_, rfl⟩
              subst hW3
              by_cases hbz : bk = (b : Nat)
              · have hbne : (bk != ((b : Nat) : Int)) = false := by simp [hbz]
                have HBZ := Lib.hid hbz
                obtain ⟨ea, eb, g1, g2, g3, g4, g5⟩ := he4
                obtain ⟨ea1, ea2, ea3, rfl, _⟩ := id g4.v.sl
                obtain ⟨eb1, eb2, eb3, rfl, _⟩ := id g5.v.sl
                obtain ⟨p, hp⟩ : ∃ p, bsum (bl.take i) ((qs row).take i) ((b : Nat) : Int) = p := ⟨_, rfl⟩
                obtain ⟨r, hr⟩ : ∃ r, bsum (bl.take (i + 1)) ((qs row).take (i + 1)) ((b : Nat) : Int) = r := ⟨_, rfl⟩
                rw [hp] at g1 g4 g5
                have HP : Hid (FracC W3 (.agg #[.bool (decide (p < 0)), .slice ea1 ea2 ea3, .slice eb1 eb2 eb3]) p) := Lib.hid ⟨_, _, rfl, g4, g5⟩
                have HX : Hid (FracN W3 (.agg #[.bool x.neg, .slice c1a c1l c1k, .slice c2a c2l c2k]) x.neg x.n x.d) := Lib.hid ⟨_, _, rfl, hxa, hxb⟩
                have HPF : Hid (fits p) := Lib.hid (by rw [← hp]; exact HF4.out)
                have HEQ : Hid (p + x.q = r) := Lib.hid (by rw [← hp, ← hr, HBT.out, if_pos HBZ.out])
                have HR := Lib.hid hr
                have S0 := Lib.hid (And.intro g1 (And.intro g2 (And.intro g3 (And.intro e1 (And.intro e2 e3)))))
                clear g1 g2 g3 g4 g5 hxa hxb e1 e2 e3 he3 hf3 hf4 hp hr hbz hbk hir
                go_wp2_with fail
                clear hbc
                go_cut [10, 11] (fun u10 u11 wy => ∃ (b10 : Nat) (t' : Bool) (x' y' : Value) (er : Int), u10 = .pointer (some ⟨b10, 0, none⟩) ∧ u11 = .int .i64 er ∧ C3 wy b10 (.bool t') x' y' ∧ IsSl x' ∧ IsSl y' ∧ (fits r → er = 0 ∧ FracC wy (.agg #[.bool t', x', y']) r) ∧ (¬ fits r → er = 2) ∧ Below W3.heap.size W3 wy)
                case first =>
                  go_region_held3 (fun w' => w'.cell? (ptr v (b * 3)) = some (.bool (decide (p < 0))) ∧ w'.cell? (ptr v (b * 3 + 1)) = some (.slice ea1 ea2 ea3) ∧ w'.cell? (ptr v (b * 3 + 2)) = some (.slice eb1 eb2 eb3) ∧ w'.cell? (ptr va (i * 3)) = some (.bool x.neg) ∧ w'.cell? (ptr va (i * 3 + 1)) = some (.slice c1a c1l c1k) ∧ w'.cell? (ptr va (i * 3 + 2)) = some (.slice c2a c2l c2k) ∧ Below W3.heap.size W3 w') (first
                    | with_reducible exact keep6a S0.out (below_drew _)
                    | with_reducible exact keep6w (by assumption) (below_alloc _ _)
                    | with_reducible exact keep6w (by assumption) (by assumption)
                    | with_reducible exact keep6a S0.out (below_then hB31 (below_alloc _ _))
                    | with_reducible exact keep6s S0.out hB31 (Nat.le_refl _) _ _ _) (first
                    | (go_at_call 45; (with_reducible refine (r2add_rf _ _ p r x _ (HP.out.below (keep6c (by assumption))) (HX.out.below (keep6c (by assumption))) HPF.out HXO.out HEQ.out).mono ?_); rintro e31 w31 ⟨v31, er31, rfl, hb31, hv31, hv32⟩
                       obtain ⟨t31, x31, y31, rfl, hsx, hsy⟩ := rfrac_isF (w0 := w) hv31 hv32
                       have HSX := Lib.hid (And.intro hsx hsy)
                       obtain ⟨a311, l311, k311, rfl, _⟩ := id hsx
                       obtain ⟨a312, l312, k312, rfl, _⟩ := id hsy
                       clear hsx hsy
                       have hB31 := below_then (keep6c (by assumption)) hb31
                       have hc5 := (fun (p : Addr) hp => hb31.cell (p := p) hp)
                       have hf5 := (fun (p : Addr) hp => hb31.frozen (p := p) hp)
                       have zq := hb31.size
                       (try simp only [sizeA, sizeD] at zq)
                       (try have z1 : W3.heap.size < w31.heap.size := (by omega))))
                  all_goals
                    have hE := keep6c (by assumption)
                    have HV31 := Lib.hid (And.intro hv31 hv32)
                    clear hv31 hv32
                    go_wp2_with fail
                    go_meet
                    case rel =>
                      first
                        | exact ⟨_, _, _, _, _, rfl, rfl, C3.new w31 _ _ _ _, HSX.out.1, HSX.out.2, fun h => ⟨(HV31.out.1 h).1, (HV31.out.1 h).2.below (below_alloc _ _)⟩, fun h => (HV31.out.2 h).1, hE⟩
                        | exact ⟨_, _, _, _, _, rfl, rfl, (((C3.newB (b := W3.heap.size) W3 50 (.bool false) (.slice none 0 0) (.slice none 0 0) rfl).belowS (below_drew _)).belowS hb31).set _ _ _, HSX.out.1, HSX.out.2, fun h => ⟨(HV31.out.1 h).1, (HV31.out.1 h).2.set3 (((C3.newB (b := W3.heap.size) W3 50 (.bool false) (.slice none 0 0) (.slice none 0 0) rfl).belowS (below_drew _)).belowS hb31) (fun z => by simp) (fun z => by simp) _ _ _⟩, fun h => (HV31.out.2 h).1, hE⟩
                case rest =>
                  obtain ⟨b10, t10, x10, y10, er, rfl, rfl, hC10, hsx10, hsy10, hv10, hv11, hb10⟩ := hcut
                  obtain ⟨W4, hW4⟩ : ∃ W4, W4 = wc := ⟨_, rfl⟩
                  subst hW4
                  obtain ⟨a101, l101, k101, rfl, _⟩ := id hsx10
                  obtain ⟨a102, l102, k102, rfl, _⟩ := id hsy10
                  have HB4 := Lib.hid (below_then HB3.out hb10)
                  by_cases hfit : fits r
                  · obtain ⟨rfl, hv12⟩ := hv10 hfit
                    have ho4 := HO3.out.below hb10
                    obtain ⟨c0, d0, _⟩ := ho4.cell (b * 3) (by omega)
                    obtain ⟨c1, d1, _⟩ := ho4.cell (b * 3 + 1) (by omega)
                    obtain ⟨c2, d2, _⟩ := ho4.cell (b * 3 + 2) (by omega)
                    have f0 := ho4.frozen (b * 3)
                    have f1 := ho4.frozen (b * 3 + 1)
                    have f2 := ho4.frozen (b * 3 + 2)
                    have n01 := ho4.inj (show b * 3 ≠ b * 3 + 1 by omega)
                    have n02 := ho4.inj (show b * 3 ≠ b * 3 + 2 by omega)
                    have n12 := ho4.inj (show b * 3 + 1 ≠ b * 3 + 2 by omega)
                    obtain ⟨_, q0, q1, q2, _, _, _⟩ := hC10
                    have hs4 := ho4.set3 b (.bool t10) (.slice a101 l101 k101) (.slice a102 l102 k102) (fun z => by simp) (fun z => by simp) (fun z => by simp)
                    have HS4 := Lib.hid hs4
                    have HG0 : Hid (∀ j, j < b → ElemC (((W4.setCell (ptr v (b * 3)) (.bool t10)).setCell (ptr v (b * 3 + 1)) (.slice a101 l101 k101)).setCell (ptr v (b * 3 + 2)) (.slice a102 l102 k102)) v j (bsum bl (qs row) j)) := Lib.hid (fun j hj => ElemC.set3_other ho4 hbn (by omega) ((HE3.out j hj).below hb10) _ _ _ (fun z => by simp) (fun z => by simp))
                    have HG1 : Hid (ElemC (((W4.setCell (ptr v (b * 3)) (.bool t10)).setCell (ptr v (b * 3 + 1)) (.slice a101 l101 k101)).setCell (ptr v (b * 3 + 2)) (.slice a102 l102 k102)) v b r) := Lib.hid (ElemC.set3 ho4 hbn hv12)
                    have HF5 : Hid (∀ (k : Nat) (h : k < bl.length), k < i + 1 → bl[k] = ((b : Nat) : Int) → fits (bsum (bl.take (k + 1)) ((qs row).take (k + 1)) bl[k])) := Lib.hid (fun k h h1 h2 => by
                      rcases Nat.lt_or_ge k i with h6 | h6
                      · exact HF3.out k h h6 h2
                      · obtain rfl : k = i := by omega
                        rw [h2, HR.out]; exact hfit)
                    have HB5 := Lib.hid (HB4.out.trans hs4.2)
                    have HFT := Lib.hid hfit
                    clear hs4 hfit hv11 hv10 hv12
                    go_wp2_with fail
                    go_roundg (bl.length - (i + 1))
                    case measure => omega
                    case rel => exact ⟨i + 1, hil, rfl, by go_num, HS4.out.1, HG0.out, by rw [HR.out]; exact HG1.out, HF5.out, by rw [HR.out]; exact HFT.out, HB5.out⟩
                  · obtain rfl := hv11 hfit
                    have HNF : Hid (¬ fitS row bl) := Lib.hid (fun h => hfit (by
                      have := h i HIL.out
                      rw [HBK.out, HBZ.out, HR.out] at this
                      exact this))
                    clear hv10 hv11 hC10 hfit
                    go_wp2_with fail
                    go_ret2
                    exact RSum2.big HGOOD.out HNF.out (below_then HBR.out HB4.out)
              · have hbne : (bk != ((b : Nat) : Int)) = true := by simpa using hbz
                have HBT2 : Hid (bsum (bl.take (i + 1)) ((qs row).take (i + 1)) (b : Nat) = bsum (bl.take i) ((qs row).take i) (b : Nat)) := Lib.hid (by rw [HBT.out, if_neg hbz])
                have HF5 : Hid (∀ (k : Nat) (h : k < bl.length), k < i + 1 → bl[k] = ((b : Nat) : Int) → fits (bsum (bl.take (k + 1)) ((qs row).take (k + 1)) bl[k])) := Lib.hid (fun k h h1 h2 => by
                  rcases Nat.lt_or_ge k i with h6 | h6
                  · exact HF3.out k h h6 h2
                  · obtain rfl : k = i := by omega
                    exact absurd ((HBK.out h).symm.trans h2) hbz)
                clear hbz he3 he4 hf3 hf4 hxa hxb e1 e2 e3
                go_wp2_with fail
                go_roundg (bl.length - (i + 1))
                case measure => omega
                case rel => exact ⟨i + 1, hil, rfl, by go_num, HO3.out, HE3.out, by rw [HBT2.out]; exact HE4.out, HF5.out, by rw [HBT2.out]; exact HF4.out, HB3.out⟩
            · obtain rfl : i = bl.length := by omega
              have HE5 : Hid (∀ j, j < b + 1 → ElemC wr v j (bsum bl (qs row) j)) := Lib.hid (fun j hj => by
                rcases Nat.lt_or_ge j b with h6 | h6
                · exact HE3.out j h6
                · obtain rfl : j = b := by omega
                  have := HE4.out
                  rwa [List.take_length, List.take_of_length_le (by rw [qs_length, HLEN.out]; exact Nat.le_refl _)] at this)
              have HF5 : Hid (∀ (k : Nat) (h : k < bl.length), bl[k] < ((b + 1 : Nat) : Int) → fits (bsum (bl.take (k + 1)) ((qs row).take (k + 1)) bl[k])) := Lib.hid (fun k h h1 => by
                rcases Int.lt_or_le bl[k] (b : Nat) with h6 | h6
                · exact HF.out k h h6
                · exact HF3.out k h h (by omega))
              clear he3 he4 hf3 hf4
              go_wp2_with fail
              go_roundg (n - (b + 1))
              case measure => omega
              case rel => exact ⟨b + 1, hbn, rfl, by go_num, HO3.out, HE5.out, HF5.out, HB3.out⟩
        · obtain rfl : b = n := by omega
          have HFS : Hid (fitS row bl) := Lib.hid (fun k h => HF.out k h (by have := (HOK.out.lt (List.getElem?_eq_getElem h)).2; rw [HN.out] at this; exact this))
          have HV : Hid (FracsC wr v (bsums bl (qs row) (cnt bl))) := Lib.hid (HO.out.fracs (by rw [bsums_length, HN.out]) (fun j hj => by
            rw [bsums_length, HN.out] at hj
            rw [bsums_get _ _ _ _ (by rw [HN.out]; exact hj)]
            exact HE.out j hj))
          have HOW : Hid (OwnFr wr 50 w.heap.size v (cnt bl)) := Lib.hid (by rw [HN.out]; exact HO.out.mono HBR.out.size)
          clear ho
          go_wp2_with fail
          go_ret2
          exact ⟨_, _, rfl, below_then HBR.out HB0.out, fun h => absurd h HGOOD.out, fun _ _ => ⟨rfl, HV.out, HOW.out⟩, fun _ h => absurd HFS.out h⟩
theorem rsums_any (va vb : Value) (row : List RF) (bl : List Int) (w : World) (ha : FracsN w va row) (hb : IntsV w vb bl) (hn : bl.length ≤ 128) :
    Calls Try.prog 21 #[va, vb] w (RSum2 w row bl) := by
  by_cases h : okB bl ∧ 0 < bl.length ∧ bl.length = row.length
  · exact rsums_main va vb row bl w ha hb h.1 h.2.1 h.2.2 hn
  · exact rsums_early va vb row bl w ha hb h
end Go.Proofs.Ytoldfpkafcefnaa
namespace Go.Proofs.Ytoldfpkafcefnaa
set_option linter.unusedVariables false
set_option linter.unusedSimpArgs false
open Go.RowKit

structure QW (w : World) (B b5 : Nat) (vr vs vl : Value) (rs : List Value) (rates : List (List Rat)) (start : List Rat) (lost : List Bool) : Prop where
  box : C3 w b5 vr vs vl
  st : FrRow w 50 B vs start
  lo : OwnR w 4 B 1 vl (lost.map Value.bool).length (lost.map Value.bool)
  ra : OwnR w 24 B 1 vr rs.length rs
  rl : rs.length = rates.length
  rows : ∀ (j : Nat) (h : j < rs.length) (h' : j < rates.length), FrRow w 50 B rs[j] rates[j] ∧ (rs[j].ownBlock = none ∨ rs[j].ownBlock ≠ vs.ownBlock)
  sz : B ≤ w.heap.size
  b5B : b5 < B
section
variable {w w' : World} {B b5 : Nat} {vr vs vl : Value} {rs : List Value} {rates : List (List Rat)} {start : List Rat} {lost : List Bool}
theorem QW.of (h : QW w B b5 vr vs vl rs rates start lost) (hm : Moves B w w') (hb : C3 w' b5 vr vs vl) : QW w' B b5 vr vs vl rs rates start lost :=
  ⟨hb, h.st.moves hm (Nat.le_refl _), h.lo.moves hm (Nat.le_refl _), h.ra.moves hm (Nat.le_refl _), h.rl, fun j h1 h2 => ⟨(h.rows j h1 h2).1.moves hm (Nat.le_refl _), (h.rows j h1 h2).2⟩, Nat.le_trans h.sz hm.size, h.b5B⟩
theorem QW.below (h : QW w B b5 vr vs vl rs rates start lost) (hb : Below w.heap.size w w') : QW w' B b5 vr vs vl rs rates start lost := h.of (Moves.below hb) (h.box.belowS hb)
theorem QW.lostG (h : QW w B b5 vr vs vl rs rates start lost) {c : Bool} {v' : Value} (hv : OwnR w' 4 B 1 v' (lost.map Value.bool ++ [Value.bool c]).length (lost.map Value.bool ++ [Value.bool c])) (hg : w.grownBy w' vl.ownBlock) (hn : NoLimb w vl) :
    QW (w'.setCell ⟨b5, 2, none⟩ v') B b5 vr vs v' rs rates start (lost ++ [c]) ∧ Below B w w' := by
  obtain ⟨box, st, lo, ra, rl, rows, sz, b2⟩ := h
  have hb := below_grow (B := B) hg sz lo.block
  have box' := box.below hb b2
  have hm : Moves B w' (w'.setCell ⟨b5, 2, none⟩ v') := Moves.set b2 box'.c2 lo.sl.noLimb _
  obtain ⟨xs, s1, s2⟩ := id st
  have st' : FrRow w' 50 B vs start := st.grown hg hn (s1.kinds lo (by decide))
  refine ⟨⟨box'.set2 _, st'.moves hm (Nat.le_refl _), ?_, (ra.grown hg (ra.kinds lo (by decide))).moves hm (Nat.le_refl _), rl, fun j h1 h2 => ?_, Nat.le_trans sz (Nat.le_trans hb.size hm.size), b2⟩, hb⟩
  · rw [List.map_append]; exact hv.moves hm (Nat.le_refl _)
  · obtain ⟨k1, k2⟩ := rows j h1 h2
    obtain ⟨ys, y1, y2⟩ := id k1
    exact ⟨(k1.grown hg hn (y1.kinds lo (by decide))).moves hm (Nat.le_refl _), k2⟩
theorem QW.ratesG (h : QW w B b5 vr vs vl rs rates start lost) {q : List Rat} {r v' : Value} (hr : FrRow w 50 B r q) (hrs : r.ownBlock = none ∨ r.ownBlock ≠ vs.ownBlock) (hv : OwnR w' 24 B 1 v' (rs ++ [r]).length (rs ++ [r])) (hg : w.grownBy w' vr.ownBlock) (hn : NoLimb w vr) :
    QW (w'.setCell ⟨b5, 0, none⟩ v') B b5 v' vs vl (rs ++ [r]) (rates ++ [q]) start lost ∧ Below B w w' := by
  obtain ⟨box, st, lo, ra, rl, rows, sz, b2⟩ := h
  have hb := below_grow (B := B) hg sz ra.block
  have box' := box.below hb b2
  have hm : Moves B w' (w'.setCell ⟨b5, 0, none⟩ v') := Moves.set b2 box'.c0 ra.sl.noLimb _
  obtain ⟨xs, s1, s2⟩ := id st
  obtain ⟨zs, z1, z2⟩ := id hr
  refine ⟨⟨box'.set0 _, (st.grown hg hn (s1.kinds ra (by decide))).moves hm (Nat.le_refl _), (lo.grown hg (lo.kinds ra (by decide))).moves hm (Nat.le_refl _), hv.moves hm (Nat.le_refl _), by simp [rl], fun j h1 h2 => ?_, Nat.le_trans sz (Nat.le_trans hb.size hm.size), b2⟩, hb⟩
  rcases Nat.lt_or_ge j rs.length with hj | hj
  · have hj2 : j < rates.length := by omega
    rw [List.getElem_append_left hj, List.getElem_append_left hj2]
    obtain ⟨k1, k2⟩ := rows j hj hj2
    obtain ⟨ys, y1, y2⟩ := id k1
    exact ⟨(k1.grown hg hn (y1.kinds ra (by decide))).moves hm (Nat.le_refl _), k2⟩
  · obtain rfl : j = rs.length := by simp at h1; omega
    have e1 : (rs ++ [r])[rs.length]'h1 = r := by simp
    have e2 : (rates ++ [q])[rs.length]'h2 = q := by simp [rl]
    rw [e1, e2]
    exact ⟨(hr.grown hg hn (z1.kinds ra (by decide))).moves hm (Nat.le_refl _), hrs⟩
theorem QW.chainC (h : QW w B b5 vr vs vl rs rates start lost) : ChainC w (.agg #[vr, vs, vl]) ⟨rates, start, lost⟩ := by
  refine ⟨vr, vs, vl, rfl, ⟨h.ra.sl, by rw [h.ra.len, h.rl], fun j hj => ?_⟩, h.st.fracs, ⟨h.lo.sl, h.lo.len, fun j hj => h.lo.cell j hj⟩⟩
  have hj2 : j < rs.length := by rw [h.rl]; exact hj
  exact ⟨rs[j], h.ra.cell j hj2, (h.rows j hj2 hj).1.fracs⟩
end
/-- A made row of fractions, as a row that may grow. -/
theorem OwnFr.frRow {w : World} {e : TypeId} {B n : Nat} {v : Value} {q : List Rat} (h : OwnFr w e B v n) (hl : q.length = n) (he : ∀ j (hj : j < q.length), ElemC w v j q[j]) : FrRow w e B v q := by
  obtain ⟨g, cs, rfl, h1, h2⟩ := id h
  have hcl : cs.length = n * 3 := h1.1
  refine ⟨cs, ⟨by rw [hl]; exact h1, ?_⟩, fun j hj => ?_⟩
  · intro g' hg' cur e' fz hc c hcc z
    rcases h1.2 with ⟨h', _⟩ | ⟨g2, cap, cur2, h', hb, hg, _, _, hs, ht⟩
    · cases h'
    · injection h' with h4 h5 h6
      injection h4 with h4
      injection h4 with h4
      subst h4
      simp only [Value.ownBlock, Option.some.injEq] at hg'
      subst hg'
      rw [hc] at hg
      injection hg with hg
      injection hg with hg _ _
      subst hg
      have e9 : cur.toList = cs := by
        rw [← ht]
        exact (List.take_of_length_le (by rw [Array.length_toList, hs, ← h6]; exact Nat.le_refl _)).symm
      exact h2 c (by rw [← e9]; exact hcc) z
  · obtain ⟨a, b, e1, e2, e3, e4, e5⟩ := he j hj
    have hc : ∀ i u, i < cs.length → w.cell? (Go.Proofs.Ytoldfpkafcefnaa.ptr (.slice (some ⟨g, 0, none⟩) n n) i) = some u → cs[i]? = some u := fun i u hi hu => by
      have := World.ownsRow.cellAt h1 i (by omega)
      simp only [Go.Proofs.Ytoldfpkafcefnaa.ptr, base, Addr.add_lit, Nat.zero_add] at hu
      rw [hu] at this
      exact this.symm
    exact ⟨a, b, hc _ _ (by omega) e1, hc _ _ (by omega) e2, hc _ _ (by omega) e3, e4, e5⟩
end Go.Proofs.Ytoldfpkafcefnaa
namespace Go.Proofs.Ytoldfpkafcefnaa
set_option linter.unusedVariables false
set_option linter.unusedSimpArgs false
open Go.RowKit

set_option maxRecDepth 100000 in
set_option maxHeartbeats 1600000 in
theorem rquo_bad (va vb : Value) (c : RC) (bl : List Int) (w : World) (ha : ChainN w va c) (hb : IntsV w vb bl) (hck : ¬ checkP c bl) :
    Calls Try.prog 24 #[va, vb] w (RQuo w c bl) := by
  obtain ⟨rv, sv, lv, rfl, hr, hs, hl⟩ := id ha
  obtain ⟨ra, rn, rk, rfl, r1, r2, r3⟩ := id hr.sl
  obtain ⟨sa, sn, sk, rfl, s1, s2, s3⟩ := id hs.sl
  obtain ⟨la, ln, lk, rfl, l1, l2, l3⟩ := id (CellsV.sl hl)
  have hbx := below_alloc w (.cells #[.slice ra rn rk, .slice sa sn sk, .slice la ln lk] 27)
  have hC := C3.new w 27 (.slice ra rn rk) (.slice sa sn sk) (.slice la ln lk)
  have ha2 := ha.below hbx
  have hb2 := hb.below hbx
  have HCK := Lib.hid hck
  have HA := Lib.hid ha2
  have HC := Lib.hid hC
  obtain ⟨_, c0, c1, c2, _, _, _⟩ := id hC
  clear hC ha2 ha hck hr hs hl
  go_enter Try.func24, Try.ntmps24
  have hcx := below_alloc (w.alloc (.cells #[.slice ra rn rk, .slice sa sn sk, .slice la ln lk] 27)) (.cells #[.slice none 0 0, .slice none 0 0, .slice none 0 0] 27)
  have hR0 : (w.alloc (.cells #[.slice ra rn rk, .slice sa sn sk, .slice la ln lk] 27)).heap.size = w.heap.size + 1 := by simp
  go_wp2_with (go_at_call 26; (with_reducible refine (rcheck_any _ _ c bl _ (HA.out.below hcx) (hb2.below hcx)).mono ?_); rintro e1 w1 ⟨⟨b1, rfl, hb1⟩, hbel1⟩; obtain rfl : b1 = false := Bool.eq_false_iff.2 (fun h => HCK.out (hb1.1 h)); clear hb1
               have hR := (C3.new (w.alloc (.cells #[.slice ra rn rk, .slice sa sn sk, .slice la ln lk] 27)) 27 (.slice none 0 0) (.slice none 0 0) (.slice none 0 0)).belowS hbel1
               rw [hR0] at hR
               have HR := Lib.hid hR
               obtain ⟨_, g0, g1, g2, g3, g4, g5⟩ := hR)
  refine bodyPost_c3 rfl rfl Try.aggChQ Try.sizeChQ (HR.out.set _ _ _) rfl ?_
  exact ⟨_, 1, rfl, below_set3 (below_then hbx (below_then hcx hbel1)) (Nat.le_succ _) _ _ _, fun _ => ⟨rfl, rfl⟩, fun h => absurd h HCK.out, fun h => absurd h HCK.out⟩
set_option maxRecDepth 100000 in
set_option maxHeartbeats 6400000 in
theorem rquo_main (va vb : Value) (c : RC) (bl : List Int) (w : World) (ha : ChainN w va c) (hb : IntsV w vb bl) (hck : checkP c bl) :
    Calls Try.prog 24 #[va, vb] w (RQuo w c bl) := by
  obtain ⟨hok, h0, hlen, hv, hagree⟩ := id hck
  obtain ⟨i3, hi3, hz3, hs3, hy3⟩ := info_parts Try.infoF
  have hAP := append1_fr (P := Try.prog) 24 50 i3 Try.underlying24 hi3 hz3 hs3 hy3
  obtain ⟨i2, hi2, hz2, hs2, hy2⟩ := info_parts Try.infoBool
  have hAB := fun {ops : Array Oper} {o : Oper} {a : Act} {w : World} {K : Act → World → Prop} {Q : Exit → Act → World → Prop} {E : Prop} => step_app_one (P := Try.prog) 25 4 i2 _ 1 Try.underlying25 hi2 hz2 hs2 hy2 (by decide) rfl (fun z => by simp) (ops := ops) (o := o) (a := a) (w := w) (K := K) (Q := Q) (E := E)
  obtain ⟨i4, hi4, hz4, hs4, hy4⟩ := info_parts Try.infoRow
  have hAR := append1_one (P := Try.prog) 23 24 i4 _ 24 Try.underlying23 hi4 hz4 hs4 hy4 (by decide) rfl (fun z => by simp)
  clear hi3 hz3 hs3 hy3 hi2 hz2 hs2 hy2 hi4 hz4 hs4 hy4
  obtain ⟨rv, sv, lv, rfl, hr, hs, hl⟩ := id ha
  obtain ⟨ra, rn, rk, rfl, r1, r2, r3⟩ := id hr.sl
  obtain ⟨sa, sn, sk, rfl, s1, s2, s3⟩ := id hs.sl
  obtain ⟨la, ln, lk, rfl, l1, l2, l3⟩ := id (CellsV.sl hl)
  have hll : c.lost.length = bl.length := hv.2.2.1.trans hlen.symm
  have hln : ln = bl.length := hl.len.trans hll
  subst hln
  have slL : IsSl (.slice la bl.length lk) := CellsV.sl hl
  have sb := CellsV.sl hb
  have lb := hb.len
  have hbl3 : bl.length ≤ 128 := by have := hv.2.1; omega
  obtain ⟨n, hn⟩ : ∃ n, cnt bl = n := ⟨_, rfl⟩
  have hn128 : n ≤ 128 := by have := cnt_le bl bl.length; rw [List.take_length] at this; omega
  have hbx := below_alloc w (.cells #[.slice ra rn rk, .slice sa sn sk, .slice la bl.length lk] 27)
  have hcx := below_alloc (w.alloc (.cells #[.slice ra rn rk, .slice sa sn sk, .slice la bl.length lk] 27)) (.cells #[.slice none 0 0, .slice none 0 0, .slice none 0 0] 27)
  have hR0 : (w.alloc (.cells #[.slice ra rn rk, .slice sa sn sk, .slice la bl.length lk] 27)).heap.size = w.heap.size + 1 := by simp
  have hbw := below_then hbx hcx
  have HC := Lib.hid ((C3.new w 27 (.slice ra rn rk) (.slice sa sn sk) (.slice la bl.length lk)).belowS hcx)
  have hR := (C3.new (w.alloc (.cells #[.slice ra rn rk, .slice sa sn sk, .slice la bl.length lk] 27)) 27 (.slice none 0 0) (.slice none 0 0) (.slice none 0 0))
  rw [hR0] at hR
  have HR := Lib.hid hR
  have HA := Lib.hid (ha.below hbw)
  have HB := Lib.hid (hb.below hbw)
  have HS := Lib.hid (hs.below hbw)
  have HL := Lib.hid (hl.below hbw)
  have HCK := Lib.hid hck
  have HOK := Lib.hid hok
  have HV := Lib.hid hv
  have HLL := Lib.hid hll
  have HN := Lib.hid hn
  have HBAD : Hid (¬ badS c.start bl) := Lib.hid (fun h => h ⟨hok, h0, hlen, hv.2.2.2.2.1.ok⟩)
  have HFIT : Hid (fitS c.start bl) := Lib.hid (fun k h => bsum_fits_row (bl := bl) (row := c.start) hv.2.2.2.2.1 (k + 1) _)
  obtain ⟨_, c0, c1, c2, _, _, _⟩ := HC.out
  have HLEN := Lib.hid hlen
  clear hR hR0 hr hs hl ha hck hok hv hll hagree hn hbx hcx hlen
  go_enter Try.func24, Try.ntmps24
  go_upto_region 1 with fail
  generalize (w.alloc (.cells #[.slice ra rn rk, .slice sa sn sk, .slice la bl.length lk] 27)).alloc (.cells #[.slice none 0 0, .slice none 0 0, .slice none 0 0] 27) = Wz at *
  go_wp2_with (first
    | (go_at_call 26; (with_reducible refine (rcheck_any _ _ c bl _ HA.out HB.out).mono ?_); rintro e1 w1 ⟨⟨b1, rfl, hb1⟩, hbel1⟩; obtain rfl : b1 = true := hb1.2 HCK.out; clear hb1
       have hx6 := below_alloc w1 (.cells #[.slice none 0 0, .slice none 0 0, .slice none 0 0] 27)
       have hb16 := below_then hbel1 hx6
       have hC6 := C3.new w1 27 (.slice none 0 0) (.slice none 0 0) (.slice none 0 0)
       have HC6 := Lib.hid hC6
       have HA1 := Lib.hid (HA.out.below hbel1)
       have HB1 := Lib.hid (HB.out.below hbel1)
       have HL1 := Lib.hid (HL.out.below hbel1)
       have HR1 := Lib.hid (HR.out.belowS hbel1)
       have HC1 := Lib.hid (HC.out.belowS hbel1)
       have HBW := Lib.hid (below_then hbw hbel1)
       obtain ⟨_, c0, c1, c2, _, _, _⟩ := HC.out.belowS hb16
       have hsz6 : (w1.alloc (.cells #[.slice none 0 0, .slice none 0 0, .slice none 0 0] 27)).heap.size = w1.heap.size + 1 := by simp
       have HSZ6 := Lib.hid hsz6
       clear hsz6 hC6)
    | (go_at_call 21; (with_reducible refine (rsums_any _ _ c.start bl _ (HS.out.below hb16) (HB.out.below hb16) hbl3).mono ?_); rintro e3 w3 ⟨v3, er3, rfl, hb3, _, hg3, _⟩; obtain ⟨rfl, hv3, how3⟩ := hg3 HBAD.out HFIT.out; clear hg3
       obtain ⟨va3, vn3, vk3, rfl, _⟩ := id hv3.sl
       have hC63 := HC6.out.belowS hb3
       have HC63 := Lib.hid hC63
       have HOW3 := Lib.hid (how3.frRow (by rw [bsums_length]) (fun j hj => hv3.at' j hj))
       have HB3 := Lib.hid hb3
       obtain ⟨_, d0, d1, d2, d3, d4, d5⟩ := id hC63
       clear hv3 how3 hC63))
  generalize hW2 : w1.alloc (.cells #[.slice none 0 0, .slice none 0 0, .slice none 0 0] 27) = W2 at *
  clear hW2 c0 c1 c2
  have HB23 := Lib.hid ((hx6.trans (hb3.mono hx6.size)))
  have hbB : w1.heap.size < W2.heap.size := by have := HSZ6.out; omega
  have hQ0 : QW (w3.setCell ⟨w1.heap.size, 1, none⟩ (.slice va3 vn3 vk3)) W2.heap.size w1.heap.size (.slice none 0 0) (.slice va3 vn3 vk3) (.slice none 0 0) [] [] (bsums bl (qs c.start) (cnt bl)) [] :=
    ⟨HC63.out.set1 _, HOW3.out.moves (Moves.set (p := ⟨w1.heap.size, 1, none⟩) hbB HC63.out.c1 (fun z => by simp) _) (Nat.le_refl _), OwnR.nil _ _ _ _, OwnR.nil _ _ _ _, rfl, fun j h => by simp at h, by simpa [World.setCell] using HB3.out.size, hbB⟩
  have HQ0 := Lib.hid hQ0
  have HBV4 := Lib.hid (HB23.out.setCell (p := ⟨w1.heap.size, 1, none⟩) (Nat.le_refl _) (.slice va3 vn3 vk3))
  have HZS := Lib.hid HB3.out.size
  clear hQ0 d0 d1 d2 d3 d4 d5 hb3 hx6 hb16
  generalize w3.setCell ⟨w1.heap.size, 1, none⟩ (.slice va3 vn3 vk3) = W4 at *
  have hI4 := HB1.out.below HBV4.out
  go_wp2_with (first
    | (go_at_call 44; (with_reducible refine (rcount_any _ bl _ hI4 HOK.out).mono ?_); rintro e4 w4 ⟨rfl, rfl⟩; rw [HN.out]))
  clear hI4
  go_loopg [8] (n) (fun g u8 wx => ∃ (b : Nat) (vr vl : Value) (rs : List Value) (rates : List (List Rat)) (lost : List Bool), b ≤ n ∧ g = n - b ∧ u8 = .int .i64 b ∧ QW wx W2.heap.size w1.heap.size vr (.slice va3 vn3 vk3) vl rs rates (bsums bl (qs c.start) (cnt bl)) lost ∧ rates = (quo c bl).rates.take b ∧ lost = (quo c bl).lost.take b ∧ Below w1.heap.size w1 wx)
  case atStart => exact ⟨0, _, _, _, _, _, Nat.zero_le _, rfl, rfl, HQ0.out, rfl, rfl, HBV4.out⟩
  case round =>
    obtain ⟨wx, hwx⟩ : ∃ wx, wx = wr := ⟨_, rfl⟩
    subst hwx
    obtain ⟨b, vr, vl, rs, rates, lost, hbn, hg, rfl, hQ, hra, hlo, hbx⟩ := hrel
    have HQ := Lib.hid hQ
    have HEQ := Lib.hid (And.intro hra hlo)
    have HBX := Lib.hid hbx
    have hlen1 : (lost.map Value.bool).length ≤ 1000 := by rw [hlo, List.length_map, List.length_take]; omega
    have hlen3 : rs.length ≤ 1000 := by rw [hQ.rl, hra, List.length_take]; omega
    clear hra hlo
    by_cases hbl : b < n
    · have hfb := firstB_has HOK.out (b := b) (by rw [HN.out]; exact hbl)
      obtain ⟨F, hF⟩ : ∃ F, firstB bl b = F := ⟨_, rfl⟩
      rw [hF] at hfb
      have HF := Lib.hid hF
      have HMIN : Hid (∀ i, i < F → ∀ h : i < bl.length, bl[i]'h ≠ (b : Int)) := Lib.hid (fun i hi h => by
        have h9 := List.not_of_lt_findIdx (xs := bl) (p := fun x => decide (x = (b : Int))) (i := i) (by unfold firstB at hF; rw [hF]; exact hi)
        simpa using h9)
      obtain ⟨hf1, hf2⟩ := hfb
      clear hF
      go_wp2_with fail
      go_loop [9] (fun u9 => ∃ (i : Nat), i ≤ F ∧ u9 = .int .i64 i) (fun u9 => F - (intOf u9).toNat)
      case atStart => exact ⟨0, Nat.zero_le _, rfl⟩
      case round =>
        obtain ⟨i, hi, rfl⟩ := hrel
        have hil : i < bl.length := by omega
        have hc := (HB1.out.below hbx).at' i hil
        have i1 : (0 : Int) ≤ (i : Int) := by omega
        have i2 : (i : Int) < (bl.length : Nat) := by omega
        by_cases hiF : i < F
        · have hne := HMIN.out i hiF hil
          generalize bl[i]'hil = x at *
          have hb1 : (x != ((b : Nat) : Int)) = true := by simpa using hne
          clear hne
          go_wp2_with fail
          go_round
          case rel => exact ⟨i + 1, by omega, by go_num⟩
          case measure => simp [intOf]; omega
        · obtain rfl : i = F := by omega
          have he : bl[i]'hil = (b : Int) := by
            have := hf2
            rw [List.getElem?_eq_getElem hil] at this
            exact Option.some.inj this
          rw [he] at hc
          have HI := Lib.hid (And.intro hil he)
          clear he hf2
          go_wp2_with fail
          have hil2 : i < c.lost.length := by rw [HLL.out]; exact hil
          have hlc := (HL1.out.below hbx).at' i hil2
          have HLE : Hid ((quo c bl).lost.take (b + 1) = (quo c bl).lost.take b ++ [c.lost[i]'hil2]) := Lib.hid (by
            rw [take_snoc _ b (by simp [quo]; rw [HN.out]; exact hbl)]
            simp only [quo, List.getElem_map, List.getElem_range, HF.out]
            simp [List.getD, List.getElem?_eq_getElem hil2])
          generalize c.lost[i]'hil2 = lk0 at *
          obtain ⟨_, b0, b1, b2, _, _, _⟩ := id HQ.out.box
          obtain ⟨_, c0, c1, c2, _, _, _⟩ := HC1.out.belowS hbx
          have svl := HQ.out.lo.sl
          have HIL := Lib.hid hil
          clear hc HI
          go_cut [] (fun wy => ∃ vl', QW wy W2.heap.size w1.heap.size vr (.slice va3 vn3 vk3) vl' rs rates (bsums bl (qs c.start) (cnt bl)) (lost ++ [lk0]) ∧ Below w1.heap.size w1 wy)
          case first =>
            have hD := below_drew (B := wx.heap.size) wx
            have hk1 : w1.heap.size ≠ wx.heap.size := by have := HQ.out.sz; omega
            have q1 := cell_below hD c2
            have q3 := cell_below hD hlc
            have z1 := cell_below hD b2
            have bB := below_alloc wx (.cells #[.bool lk0] 4)
            have z2 := cell_below (below_then bB (below_drew _)) b2
            have HWB := Lib.hid ((HQ.out.below bB).below (below_drew _))
            have HBB := Lib.hid (hbx.trans ((below_then bB (below_drew _)).mono hbx.size))
            have hszB : wx.heap.size ≤ ((wx.alloc (.cells #[.bool lk0] 4)).drew).heap.size := (below_then bB (below_drew _)).size
            go_region_law (first
              | (refine hAB rfl _ _ rfl W2.heap.size vl (lost.map Value.bool) rfl HWB.out.lo (.bool lk0) rfl (fun z => by simp) wx.heap.size rfl ?_ hlen1 HWB.out.sz ?_; go_simp; intro v30 w30 ho30 hg30
                 have hG := HWB.out.lostG ho30 hg30 HWB.out.lo.nl
                 have hbx30 := HWB.out.box.below hG.2 hbB
                 have HG := Lib.hid hG
                 obtain ⟨_, b0, b1, b2, f0, f1, f2⟩ := id hbx30
                 have s30 := ho30.sl
                 clear hG hbx30 ho30 hg30
                 obtain ⟨an30, nn30, cn30, rfl, _⟩ := id s30))
            all_goals
              have HBB2 := Lib.hid (HBB.out.trans ((HG.out.2.mono (Nat.le_of_lt hbB)).setCell (p := ⟨w1.heap.size, 2, none⟩) (Nat.le_refl _) (.slice an30 nn30 cn30)))
              clear b0 b1 b2 f0 f1 f2 q1 q3 z1 z2
              go_wp2_with fail
              go_meet
              case rel => exact ⟨_, HG.out.1, HBB2.out⟩
          case rest =>
            obtain ⟨vl2, hQ2, hb2⟩ := hcut
            obtain ⟨w2, hw2⟩ : ∃ w2, w2 = wc := ⟨_, rfl⟩
            subst hw2
            have HQ2 := Lib.hid hQ2
            have HB2 := Lib.hid hb2
            have hsz2 := hQ2.sz
            have hvs : ∀ k, (Value.slice va3 vn3 vk3).ownBlock = some k → k < w2.heap.size := fun k hk => (hQ2.st.block k hk).2
            have HVS := Lib.hid hvs
            obtain ⟨row0, hrow0⟩ : ∃ r, (bsums bl (rowsQ c i) (cnt bl)).set b 0 = r := ⟨_, rfl⟩
            have hr0l : row0.length = n := by rw [← hrow0, List.length_set, bsums_length, HN.out]
            have HR0 := Lib.hid hrow0
            have HRL := Lib.hid hr0l
            have HRT : Hid ((quo c bl).rates.take (b + 1) = (quo c bl).rates.take b ++ [row0]) := Lib.hid (by
              rw [take_snoc _ b (by simp [quo]; rw [HN.out]; exact hbl)]
              simp only [quo, List.getElem_map, List.getElem_range, HF.out, hrow0])
            clear hvs hrow0 hr0l hQ2
            go_wp2_with fail
            go_loopg [10, 11] (n) (fun g u10 u11 wi => ∃ (k : Nat) (rv : Value) (row : List Rat), k ≤ n ∧ g = n - k ∧ u10 = rv ∧ u11 = .int .i64 k ∧ FrRow wi 50 w2.heap.size rv row ∧ row = row0.take k ∧ Below w2.heap.size w2 wi)
            case atStart => exact ⟨0, _, _, Nat.zero_le _, rfl, rfl, rfl, FrRow.nil _ _ _, rfl, Below.refl _ _⟩
            case round =>
              obtain ⟨k, rv, row, hk, hgk, hrv, rfl, hfr, hrow, hbi⟩ := hrel
              subst hrv
              have HFR := Lib.hid hfr
              have HROW := Lib.hid hrow
              have HBI := Lib.hid hbi
              have hrl : row.length ≤ 1000 := by rw [hrow, List.length_take]; omega
              obtain ⟨wb, hwb⟩ : ∃ wb, wb = wr := ⟨_, rfl⟩
              subst hwb
              have srow := hfr.sl
              clear hrow
              by_cases hkn : k < n
              · have hkr : k < row0.length := by rw [HRL.out]; exact hkn
                by_cases hkb : k = b
                · have HRS : Hid (row0.take (k + 1) = row ++ [0]) := Lib.hid (by
                    rw [take_snoc _ k hkr, HROW.out]
                    congr 2
                    simp [← HR0.out, hkb])
                  subst hkb
                  go_wp2_with (first
                    | (go_at_call 27; (with_reducible refine (r2int_zero _).mono ?_); rintro e13 w13 ⟨v13, rfl, hv13, hb13⟩
                       obtain ⟨t13, x13, y13, rfl, ⟨a131, l131, k131, rfl, q131⟩, ⟨a132, l132, k132, rfl, q132⟩⟩ := hv13.isF
                       have hfr13 := HFR.out.moves (Moves.below (B := w2.heap.size) hb13) (Nat.le_refl _)
                       have hsz13 : w2.heap.size ≤ w13.heap.size := Nat.le_trans HBI.out.size hb13.size)
                    | (at_builtin; refine hAP _ rfl _ _ rfl w2.heap.size _ u10 row rfl hfr13 _ _ _ 0 hv13 rfl hrl hsz13 ?_; intro v4' w50 ho50 hg50 hn50 hq50 sv50
                       have hbg := below_grow hg50 hsz13 hfr13.block
                       have HO50 := Lib.hid ho50))
                  go_roundg (n - (k + 1))
                  case measure => omega
                  case rel => exact ⟨k + 1, _, _, by omega, rfl, rfl, by go_num, HO50.out, by rw [HRS.out], (below_then HBI.out hb13).trans hbg⟩
                · have hkbb : ((k : Int) == (b : Int)) = false := by simp; omega
                  have HRS : Hid (row0.take (k + 1) = row ++ [bsum bl (rowsQ c i) (k : Nat)]) := Lib.hid (by
                    rw [take_snoc _ k hkr, HROW.out]
                    congr 2
                    simp only [← HR0.out]
                    rw [List.getElem_set_ne (fun h => hkb h.symm), bsums_get _ _ _ _ (by rw [HN.out]; exact hkn)])
                  obtain ⟨_, c0, c1, c2, _, _, _⟩ := HC1.out.belowS (HB2.out.trans (hbi.mono (Nat.le_trans HB2.out.size (Nat.le_refl _))))
                  have hb1i : Below w1.heap.size w1 wb := HB2.out.trans (hbi.mono HB2.out.size)
                  clear hkb
                  go_wp2_with (first
                    | (go_at_call 48; (with_reducible refine (rate_row _ _ c bl i k _ (HA1.out.below hb1i) (HB1.out.below hb1i) HV.out HLL.out.symm HIL.out).mono ?_); rintro e13 w13 ⟨v13, rfl, hv13, hb13⟩
                       obtain ⟨t13, x13, y13, rfl, ⟨a131, l131, k131, rfl, q131⟩, ⟨a132, l132, k132, rfl, q132⟩⟩ := hv13.isF
                       have hfr13 := HFR.out.moves (Moves.below (B := w2.heap.size) hb13) (Nat.le_refl _)
                       have hsz13 : w2.heap.size ≤ w13.heap.size := Nat.le_trans HBI.out.size hb13.size)
                    | (at_builtin; refine hAP _ rfl _ _ rfl w2.heap.size _ u10 row rfl hfr13 _ _ _ (bsum bl (rowsQ c i) (k : Nat)) hv13 rfl hrl hsz13 ?_; intro v4' w50 ho50 hg50 hn50 hq50 sv50
                       have hbg := below_grow hg50 hsz13 hfr13.block
                       have HO50 := Lib.hid ho50))
                  go_roundg (n - (k + 1))
                  case measure => omega
                  case rel => exact ⟨k + 1, _, _, by omega, rfl, rfl, by go_num, HO50.out, by rw [HRS.out], (below_then HBI.out hb13).trans hbg⟩
              · obtain rfl : k = n := by omega
                have hq5 := HQ2.out.below hbi
                obtain ⟨a11, l11, k11, rfl, _⟩ := id srow
                have HQ5 := Lib.hid hq5
                have hra := hq5.ra
                have hrasl := hra.sl
                have hszw := hq5.sz
                have HRR : Hid (row = row0) := Lib.hid (by rw [HROW.out, List.take_of_length_le (by rw [HRL.out]; exact Nat.le_refl _)])
                have HRS2 : Hid ((Value.slice a11 l11 k11).ownBlock = none ∨ (Value.slice a11 l11 k11).ownBlock ≠ (Value.slice va3 vn3 vk3).ownBlock) := Lib.hid (by
                  cases ho : (Value.slice a11 l11 k11).ownBlock with
                  | none => exact Or.inl rfl
                  | some g =>
                    refine Or.inr (fun e => ?_)
                    have h1 := (HFR.out.block g ho).1
                    have h2 := HVS.out g e.symm
                    omega)
                obtain ⟨_, b0, b1, b2, f0, f1, f2⟩ := id hq5.box
                clear hq5
                go_wp2_with (first
                  | (at_builtin; refine hAR _ rfl _ _ rfl W2.heap.size _ vr rs rfl hra (.slice a11 l11 k11) rfl (fun z => by simp) rfl hlen3 hszw ?_; intro v5' w21 ho21 hg21 hn21 hq21 sv21
                     have hG := HQ5.out.ratesG (HFR.out.mono hsz2) HRS2.out ho21 hg21 hn21
                     have hbx21 := HQ5.out.box.below hG.2 hbB
                     have HG := Lib.hid hG
                     obtain ⟨_, b0, b1, b2, f0, f1, f2⟩ := id hbx21
                     clear hG hbx21
                     obtain ⟨an5, nn5, cn5, rfl, _⟩ := id sv21))
                have HB21 := Lib.hid ((HB2.out.trans (hbi.mono HB2.out.size)).trans ((HG.out.2.mono (Nat.le_of_lt hbB)).setCell (p := ⟨w1.heap.size, 0, none⟩) (Nat.le_refl _) (.slice an5 nn5 cn5)))
                clear b0 b1 b2 f0 f1 f2
                go_roundg (k - (b + 1))
                case measure => omega
                case rel =>
                  obtain ⟨q1, q2⟩ := HEQ.out
                  exact ⟨b + 1, _, _, _, _, _, by omega, rfl, by go_num, HG.out.1, by rw [HRT.out, HRR.out, q1], by rw [HLE.out, q2], HB21.out⟩
    · obtain rfl : b = n := by omega
      obtain ⟨ar, lr, kr, rfl, _⟩ := id HQ.out.ra.sl
      obtain ⟨al, ll, kl, rfl, _⟩ := id HQ.out.lo.sl
      have hEQ : (⟨rates, bsums bl (qs c.start) (cnt bl), lost⟩ : CQ) = quo c bl := by
        obtain ⟨q1, q2⟩ := HEQ.out
        rw [CQ.ext_iff']
        exact ⟨by rw [q1, List.take_of_length_le (by simp [quo]; rw [HN.out]; exact Nat.le_refl _)], rfl, by rw [q2, List.take_of_length_le (by simp [quo]; rw [HN.out]; exact Nat.le_refl _)]⟩
      have HCH : Hid (ChainC wx (.agg #[.slice ar lr kr, .slice va3 vn3 vk3, .slice al ll kl]) (quo c bl)) := Lib.hid (by rw [← hEQ]; exact HQ.out.chainC)
      have HE := Lib.hid hEQ
      obtain ⟨_, b0, b1, b2, _, _, _⟩ := id HQ.out.box
      clear hEQ
      by_cases hvq : validP (quo c bl).raw
      · have HVQ := Lib.hid hvq
        clear hvq
        go_wp2_with (first
          | (go_at_call 46; (with_reducible refine (rvalid_chain _ (quo c bl).raw _ HCH.out.raw).mono ?_); rintro e8 w8 ⟨⟨b8, rfl, hv8⟩, hb8⟩; obtain rfl : b8 = true := hv8.2 HVQ.out; clear hv8
             have HQ8 := Lib.hid (HQ.out.below hb8)
             obtain ⟨_, b0, b1, b2, _, _, _⟩ := HQ8.out.box
             have HR8 := Lib.hid ((HR1.out.belowS hbx).belowS hb8)
             obtain ⟨_, d0, d1, d2, d3, d4, d5⟩ := HR8.out))
        refine bodyPost_c3 rfl rfl Try.aggChQ Try.sizeChQ (HR8.out.set _ _ _) rfl ?_
        have hw1 : w.heap.size + 1 < w1.heap.size := HR1.out.lt
        have hbx8 := below_then hbx hb8
        have hlt8 : w.heap.size + 1 < W2.heap.size := by omega
        have hm1 := Moves.set (w := w8) (p := ⟨w.heap.size + 1, 0, none⟩) hlt8 HR8.out.c0 (fun z => by simp) (.slice ar lr kr)
        have hm2 := Moves.set (w := w8.setCell ⟨w.heap.size + 1, 0, none⟩ (.slice ar lr kr)) (p := ⟨w.heap.size + 1, 1, none⟩) hlt8 (HR8.out.set0 _).c1 (fun z => by simp) (.slice va3 vn3 vk3)
        have hm3 := Moves.set (w := (w8.setCell ⟨w.heap.size + 1, 0, none⟩ (.slice ar lr kr)).setCell ⟨w.heap.size + 1, 1, none⟩ (.slice va3 vn3 vk3)) (p := ⟨w.heap.size + 1, 2, none⟩) hlt8 ((HR8.out.set0 _).set1 _).c2 (fun z => by simp) (.slice al ll kl)
        have hQ9 := HQ8.out.of ((hm1.trans hm2).trans hm3) (HQ8.out.box.set_other (by omega) _ _ _)
        have hCH9 := hQ9.chainC
        rw [HE.out] at hCH9
        exact ⟨_, 0, rfl, below_set3 (below_then HBW.out hbx8) (Nat.le_succ _) _ _ _, fun h => absurd HCK.out h, fun _ _ => ⟨rfl, hCH9⟩, fun _ h => absurd HVQ.out h⟩
      · have HVQ := Lib.hid hvq
        clear hvq
        go_wp2_with (first
          | (go_at_call 46; (with_reducible refine (rvalid_chain _ (quo c bl).raw _ HCH.out.raw).mono ?_); rintro e8 w8 ⟨⟨b8, rfl, hv8⟩, hb8⟩; obtain rfl : b8 = false := Bool.eq_false_iff.2 (fun h => HVQ.out (hv8.1 h)); clear hv8
             have HR8 := Lib.hid ((HR1.out.belowS hbx).belowS hb8)
             obtain ⟨_, d0, d1, d2, d3, d4, d5⟩ := HR8.out))
        refine bodyPost_c3 rfl rfl Try.aggChQ Try.sizeChQ (HR8.out.set _ _ _) rfl ?_
        exact ⟨_, 2, rfl, below_set3 (below_then HBW.out (below_then hbx hb8)) (Nat.le_succ _) _ _ _, fun h => absurd HCK.out h, fun _ h => absurd h HVQ.out, fun _ _ => ⟨rfl, rfl⟩⟩
theorem rquo_any (va vb : Value) (c : RC) (bl : List Int) (w : World) (ha : ChainN w va c) (hb : IntsV w vb bl) : Calls Try.prog 24 #[va, vb] w (RQuo w c bl) := by
  by_cases h : checkP c bl
  · exact rquo_main va vb c bl w ha hb h
  · exact rquo_bad va vb c bl w ha hb h
end Go.Proofs.Ytoldfpkafcefnaa
