/-
  The chain of a tape in the making: the plain facts. No program is named here.
  Ahead of it: package drydockref22: rate. package drydockref22: Sums. The plain law of Check: members of a block against the first of it. No program is named here. package drydocksame: Frac. package drydocksame: Fracs, Matrix. package drydocksame: Chain. package lump: Check. The quotient of a chain by a partition. No program is named here. The chains of a tape. No program is named here.
-/
import Derived.Test.YtlpdkbmmbdfoiaaGreatCRb6
import Derived.Test.YtlpdkbmmbdfoiaaGreatCRf1
import Derived.Test.YtlpdkbmmbdfoiaaGreatCLu2
import Derived.Test.YtlpdkbmmbdfoiaaGreatCRw3
import Derived.Test.YtlpdkbmmbdfoiaaGreatCSp3
import Derived.Test.YtlpdkbmmbdfoiaaGreatCOwR
import Derived.Deep.CutRange
import Derived.Deep.DeepCutAuto
import Derived.Deep.LoopGhost
namespace Go.Proofs.YtlpdkbmmbdfoiaaGreat
set_option linter.unusedVariables false
set_option linter.unusedSimpArgs false
open Go.RowKit

/-- The sums over the blocks on the way. -/
theorem bsum_fits_row {bl : List Int} {row : List RF} (h : rowP row row.length) (m : Nat) (j : Int) : fits (bsum (bl.take m) ((qs row).take m) j) :=
  bsum_fits m j (fun q hq => by
    obtain ⟨x, hx, rfl⟩ := List.mem_map.1 hq
    exact Rat.not_lt.1 (h.1 x hx).2.1) h.2.2
end Go.Proofs.YtlpdkbmmbdfoiaaGreat
namespace Go.Proofs.YtlpdkbmmbdfoiaaGreat
set_option linter.unusedVariables false
set_option linter.unusedSimpArgs false
open Go.RowKit

/-- What Sums returns. -/
def badS (row : List RF) (bl : List Int) : Prop := ¬ (okB bl ∧ 0 < bl.length ∧ bl.length = row.length ∧ ∀ x ∈ row, x.ok)
def fitS (row : List RF) (bl : List Int) : Prop := ∀ (k : Nat) (h : k < bl.length), fits (bsum (bl.take (k + 1)) ((qs row).take (k + 1)) bl[k])
def RSum2 (w0 : World) (row : List RF) (bl : List Int) (e : Ending) (w : World) : Prop :=
  ∃ v er, e = .returned (.tuple #[v, .int .i64 er]) ∧ Below w0.heap.size w0 w ∧ (badS row bl → er = 1 ∧ v = .slice none 0 0) ∧ (¬ badS row bl → fitS row bl → er = 0 ∧ FracsC w v (bsums bl (qs row) (cnt bl)) ∧ OwnFr w 38 w0.heap.size v (cnt bl)) ∧ (¬ badS row bl → ¬ fitS row bl → er = 2 ∧ v = .slice none 0 0)
theorem RSum2.bad {w0 w : World} {row : List RF} {bl : List Int} (h : badS row bl) (hb : Below w0.heap.size w0 w) : RSum2 w0 row bl (.returned (.tuple #[.slice none 0 0, .int .i64 1])) w :=
  ⟨_, _, rfl, hb, fun _ => ⟨rfl, rfl⟩, fun h' => absurd h h', fun h' => absurd h h'⟩
theorem RSum2.big {w0 w : World} {row : List RF} {bl : List Int} (h : ¬ badS row bl) (hf : ¬ fitS row bl) (hb : Below w0.heap.size w0 w) : RSum2 w0 row bl (.returned (.tuple #[.slice none 0 0, .int .i64 2])) w :=
  ⟨_, _, rfl, hb, fun h' => absurd h' h, fun _ h' => absurd h' hf, fun _ _ => ⟨rfl, rfl⟩⟩
/-- Add of a canonical and another fraction. -/
theorem r2add_rf (va vb : Value) (p r : Rat) (x : RF) (w : World) (ha : FracC w va p) (hb : FracN w vb x.neg x.n x.d) (hp : fits p) (hx : okN x.n x.d) (hr : p + x.q = r) :
    Calls Tryz.prog 19 #[va, vb] w (RFrac w r) := by
  refine (r2add_any va vb _ _ _ _ _ _ w ha.raw hb (fits_okN hp) hx).mono ?_
  rw [fq_self, show p + fq x.neg x.n x.d = r from hr]
  exact fun _ _ h => h
end Go.Proofs.YtlpdkbmmbdfoiaaGreat
namespace Go.Proofs.YtlpdkbmmbdfoiaaGreat
set_option linter.unusedVariables false

/-- Two lists of sums agree but at own. -/
def alikeQ (own : Int) (p q : List Rat) : Prop := ∀ (i : Nat) (x y : Rat), (i : Int) ≠ own → p[i]? = some x → q[i]? = some y → x = y
theorem alikeQ.refl (own : Int) (p : List Rat) : alikeQ own p p := fun i x y _ h1 h2 => by rw [h1] at h2; injection h2
theorem alikeQ.symm {own : Int} {p q : List Rat} (h : alikeQ own p q) : alikeQ own q p := fun i x y h0 h1 h2 => (h i y x h0 h2 h1).symm
theorem alikeQ.trans {own : Int} {p q r : List Rat} (h : alikeQ own p q) (k : alikeQ own q r) (hl : p.length = q.length) : alikeQ own p r := fun i x z h0 h1 h2 => by
  have hi : i < q.length := by rw [← hl]; exact (List.getElem?_eq_some_iff.1 h1).1
  have h3 : q[i]? = some (q[i]'hi) := List.getElem?_eq_getElem hi
  rw [h i x _ h0 h1 h3, k i _ z h0 h3 h2]
/-- Members i and j, of one block, agree: f gives the sums, g the mark. -/
def agree (bl : List Int) (f : Nat → List Rat) (g : Nat → Bool) (i j : Nat) : Prop := ∀ b, bl[i]? = some b → bl[j]? = some b → g i = g j ∧ alikeQ b (f i) (f j)
/-- Behind k members: rep gives each block's first member, and all agree with it. -/
structure Heads (bl : List Int) (f : Nat → List Rat) (g : Nat → Bool) (k : Nat) (rep : Nat → Nat) : Prop where
  lt : ∀ b, b < cnt (bl.take k) → rep b < k ∧ bl[rep b]? = some (b : Int)
  agree : ∀ i (b : Nat), i < k → bl[i]? = some (b : Int) → g i = g (rep b) ∧ alikeQ b (f i) (f (rep b))
theorem Heads.zero (bl : List Int) (f : Nat → List Rat) (g : Nat → Bool) : Heads bl f g 0 (fun _ => 0) := ⟨fun b h => by simp [cnt] at h, fun i b h => by omega⟩
theorem Heads.fresh {bl : List Int} {f : Nat → List Rat} {g : Nat → Bool} {k : Nat} {rep : Nat → Nat} (hok : okB bl) (h : Heads bl f g k rep) (hk : bl[k]? = some (cnt (bl.take k) : Int)) :
    Heads bl f g (k + 1) (fun b => if b = cnt (bl.take k) then k else rep b) := by
  obtain ⟨hk1, hk2⟩ := List.getElem?_eq_some_iff.1 hk
  have hc := cnt_take bl k hk1
  rw [if_pos hk2] at hc
  refine ⟨fun b hb => ?_, fun i b hi hb => ?_⟩
  · rw [hc] at hb
    by_cases h1 : b = cnt (bl.take k)
    · simp only [h1, if_true]
      exact ⟨by omega, hk⟩
    · simp only [if_neg h1]
      obtain ⟨h2, h3⟩ := h.lt b (by omega)
      exact ⟨by omega, h3⟩
  · rcases Nat.lt_or_ge i k with h1 | h1
    · obtain ⟨h2, h3⟩ := hok i b hb
      have h4 := cnt_take_mono bl (show i + 1 ≤ k by omega)
      have h5 : b ≠ cnt (bl.take k) := by
        obtain ⟨h6, h7⟩ := List.getElem?_eq_some_iff.1 hb
        have h8 := cnt_take bl i h6
        rw [h7] at h8
        intro h9
        split at h8 <;> omega
      simp only [if_neg h5]
      exact h.agree i b h1 hb
    · obtain rfl : i = k := by omega
      rw [hk] at hb
      injection hb with hb
      have hb2 : b = cnt (bl.take i) := by omega
      simp only [hb2, if_true]
      exact ⟨trivial, alikeQ.refl _ _⟩
theorem Heads.old {bl : List Int} {f : Nat → List Rat} {g : Nat → Bool} {k b : Nat} {rep : Nat → Nat} (h : Heads bl f g k rep) (hk : bl[k]? = some (b : Int)) (hb : b < cnt (bl.take k))
    (h1 : g k = g (rep b)) (h2 : alikeQ b (f k) (f (rep b))) : Heads bl f g (k + 1) rep := by
  obtain ⟨hk1, hk2⟩ := List.getElem?_eq_some_iff.1 hk
  have hc := cnt_take bl k hk1
  rw [if_neg (by rw [hk2]; omega)] at hc
  refine ⟨fun c hcb => ?_, fun i c hi hcb => ?_⟩
  · rw [hc] at hcb
    obtain ⟨h3, h4⟩ := h.lt c hcb
    exact ⟨by omega, h4⟩
  · rcases Nat.lt_or_ge i k with h5 | h5
    · exact h.agree i c h5 hcb
    · obtain rfl : i = k := by omega
      rw [hk] at hcb
      injection hcb with hcb
      obtain rfl : b = c := by omega
      exact ⟨h1, h2⟩
/-- All members of each block agree. -/
def allAgree (bl : List Int) (f : Nat → List Rat) (g : Nat → Bool) : Prop := ∀ i j b, bl[i]? = some b → bl[j]? = some b → g i = g j ∧ alikeQ b (f i) (f j)
theorem Heads.all {bl : List Int} {f : Nat → List Rat} {g : Nat → Bool} {rep : Nat → Nat} {n : Nat} (hok : okB bl) (h : Heads bl f g bl.length rep) (hf : ∀ i, i < bl.length → (f i).length = n) : allAgree bl f g := by
  intro i j b hi hj
  have hi1 := (List.getElem?_eq_some_iff.1 hi).1
  have hj1 := (List.getElem?_eq_some_iff.1 hj).1
  obtain ⟨h0, h0'⟩ := hok.lt hi
  obtain ⟨b', rfl⟩ : ∃ b' : Nat, b = (b' : Int) := ⟨b.toNat, by omega⟩
  obtain ⟨h1, h2⟩ := h.agree i b' hi1 hi
  obtain ⟨h3, h4⟩ := h.agree j b' hj1 hj
  have hr := (h.lt b' (by rw [List.take_length]; omega)).1
  exact ⟨h1.trans h3.symm, h2.trans h4.symm (by rw [hf i hi1, hf _ hr])⟩
theorem Heads.not {bl : List Int} {f : Nat → List Rat} {g : Nat → Bool} {k b : Nat} {rep : Nat → Nat} (h : Heads bl f g k rep) (hk : bl[k]? = some (b : Int)) (hb : b < cnt (bl.take k))
    (hn : ¬ (g k = g (rep b) ∧ alikeQ b (f k) (f (rep b)))) : ¬ allAgree bl f g := fun ha => hn (ha k (rep b) b hk (h.lt b hb).2)
end Go.Proofs.YtlpdkbmmbdfoiaaGreat
namespace Go.Proofs.YtlpdkbmmbdfoiaaGreat
set_option linter.unusedVariables false
set_option linter.unusedSimpArgs false
open Go.RowKit

theorem rat_parts {p q : Rat} : p = q ↔ decide (p < 0) = decide (q < 0) ∧ limbs p.num.natAbs = limbs q.num.natAbs ∧ limbs p.den = limbs q.den := by
  constructor
  · rintro rfl; exact ⟨rfl, rfl, rfl⟩
  · rintro ⟨h1, h2, h3⟩
    have e2 := limbs_inj h2
    have e3 := limbs_inj h3
    rw [← fq_self p, ← fq_self q, h1, e2, e3]
set_option maxRecDepth 100000 in
set_option maxHeartbeats 1600000 in
theorem same_frac (va vb : Value) (p q : Rat) (w : World) (ha : FracC w va p) (hb : FracC w vb q) :
    Calls Tryz.prog 61 #[va, vb] w (RSame w (p = q)) := by
  obtain ⟨a1, a2, rfl, n1, n2⟩ := ha
  obtain ⟨b1, b2, rfl, m1, m2⟩ := hb
  have HP := Lib.hid (@rat_parts p q)
  have n1 := n1.1
  have n2 := n2.1
  have m1 := m1.1
  have m2 := m2.1
  obtain ⟨a1a, a1n, a1c, rfl, _⟩ := n1.sl
  obtain ⟨a2a, a2n, a2c, rfl, _⟩ := n2.sl
  obtain ⟨b1a, b1n, b1c, rfl, _⟩ := m1.sl
  obtain ⟨b2a, b2n, b2c, rfl, _⟩ := m2.sl
  generalize decide (p < 0) = s at *
  generalize decide (q < 0) = t at *
  generalize limbs p.num.natAbs = x at *
  generalize limbs q.num.natAbs = y at *
  generalize limbs p.den = z at *
  generalize limbs q.den = u at *
  have hbx := below_alloc w (.cells #[.bool s, .slice a1a a1n a1c, .slice a2a a2n a2c] 38)
  have hbx := (hbx.alloc hbx.size (.cells #[.bool t, .slice b1a b1n b1c, .slice b2a b2n b2c] 38))
  have n1 := n1.below hbx
  have n2 := n2.below hbx
  have m1 := m1.below hbx
  have m2 := m2.below hbx
  have hC := (C3.new w 38 (.bool s) (.slice a1a a1n a1c) (.slice a2a a2n a2c)).allocS (.cells #[.bool t, .slice b1a b1n b1c, .slice b2a b2n b2c] 38)
  have hD := C3.new (w.alloc (.cells #[.bool s, .slice a1a a1n a1c, .slice a2a a2n a2c] 38)) 38 (.bool t) (.slice b1a b1n b1c) (.slice b2a b2n b2c)
  rw [show (w.alloc (.cells #[.bool s, .slice a1a a1n a1c, .slice a2a a2n a2c] 38)).heap.size = w.heap.size + 1 from by simp] at hD
  by_cases h1 : s = t
  · subst h1
    by_cases hxy : x = y
    · by_cases hzu : z = u
      · have tok : True := trivial
        go_enter Tryz.func61, Tryz.ntmps61
        go_wp2_with (first
          | (go_at_call 140; have _t := tok; (with_reducible refine (same_nat _ _ x y _ n1 m1).mono ?_); rintro e1 w1 ⟨⟨r1, rfl, h1⟩, hbel1⟩; obtain rfl : r1 = true := h1.2 hxy; clear h1 tok _t
             have n3 := n2.below hbel1
             have m3 := m2.below hbel1
             obtain ⟨_, c0, c1, c2, _, _, _⟩ := hC.belowS hbel1
             obtain ⟨_, d0, d1, d2, _, _, _⟩ := hD.belowS hbel1)
          | (go_at_call 140; (with_reducible refine (same_nat _ _ z u _ n3 m3).mono ?_); rintro e2 w2 ⟨⟨r2, rfl, h2⟩, hbel2⟩; obtain rfl : r2 = true := h2.2 hzu; clear h2))
        go_ret
        exact ⟨⟨true, rfl, by simp; exact HP.out.2 ⟨by first | rfl | trivial, hxy, hzu⟩⟩, (hbx.trans (hbel1.mono hbx.size)).trans (hbel2.mono (hbx.trans (hbel1.mono hbx.size)).size)⟩
      · have tok : True := trivial
        go_enter Tryz.func61, Tryz.ntmps61
        go_wp2_with (first
          | (go_at_call 140; have _t := tok; (with_reducible refine (same_nat _ _ x y _ n1 m1).mono ?_); rintro e1 w1 ⟨⟨r1, rfl, h1⟩, hbel1⟩; obtain rfl : r1 = true := h1.2 hxy; clear h1 tok _t
             have n3 := n2.below hbel1
             have m3 := m2.below hbel1
             obtain ⟨_, c0, c1, c2, _, _, _⟩ := hC.belowS hbel1
             obtain ⟨_, d0, d1, d2, _, _, _⟩ := hD.belowS hbel1)
          | (go_at_call 140; (with_reducible refine (same_nat _ _ z u _ n3 m3).mono ?_); rintro e2 w2 ⟨⟨r2, rfl, h2⟩, hbel2⟩; obtain rfl : r2 = false := Bool.eq_false_iff.2 (fun h => hzu (h2.1 h)); clear h2))
        go_ret
        exact ⟨⟨false, rfl, by simp; exact fun h => hzu (HP.out.1 h).2.2⟩, (hbx.trans (hbel1.mono hbx.size)).trans (hbel2.mono (hbx.trans (hbel1.mono hbx.size)).size)⟩
    · go_enter Tryz.func61, Tryz.ntmps61
      go_wp2_with (go_at_call 140; (with_reducible refine (same_nat _ _ x y _ n1 m1).mono ?_); rintro e1 w1 ⟨⟨r1, rfl, h1⟩, hbel1⟩; obtain rfl : r1 = false := Bool.eq_false_iff.2 (fun h => hxy (h1.1 h)); clear h1)
      go_ret
      exact ⟨⟨false, rfl, by simp; exact fun h => hxy (HP.out.1 h).2.1⟩, hbx.trans (hbel1.mono hbx.size)⟩
  · have h2 : (s == t) = false := by simpa using h1
    go_enter Tryz.func61, Tryz.ntmps61
    go_wp2_with fail
    go_ret
    exact ⟨⟨false, rfl, by simp; exact fun h => h1 (HP.out.1 h).1⟩, hbx⟩
end Go.Proofs.YtlpdkbmmbdfoiaaGreat
namespace Go.Proofs.YtlpdkbmmbdfoiaaGreat
set_option linter.unusedVariables false
set_option linter.unusedSimpArgs false
open Go.RowKit

set_option maxRecDepth 100000 in
set_option maxHeartbeats 1600000 in
theorem same_fracs (va vb : Value) (a b : List Rat) (w : World) (ha : FracsC w va a) (hb : FracsC w vb b) :
    Calls Tryz.prog 23 #[va, vb] w (RSame w (a = b)) := by
  have sa := ha.sl
  have la := ha.len
  have sb := hb.sl
  have lb := hb.len
  have hle := sa.le
  have hle2 := sb.le
  rw [la] at hle
  rw [lb] at hle2
  have hlb : a.length ≤ 9223372036854775807 := by omega
  have hlb2 : b.length ≤ 9223372036854775807 := by omega
  clear hle hle2
  by_cases hlen : a.length = b.length
  · skip
    have hL := Lib.hid hlen
    rw [← hlen] at lb
    clear hlen
    go_enter Tryz.func23, Tryz.ntmps23
    go_wp2_with fail
    go_loopw [5] (fun u5 wr => ∃ (k : Nat), k ≤ a.length ∧ u5 = .int .i64 k ∧ (∀ (j : Nat) (h1 : j < a.length) (h2 : j < b.length), j < k → a[j] = b[j]) ∧ Below w.heap.size w wr) (fun u5 _ => a.length - (intOf u5).toNat)
    case atStart => exact ⟨0, Nat.zero_le _, rfl, fun j _ _ h => by omega, Below.refl _ _⟩
    case round =>
      obtain ⟨k, hk, rfl, hst, hbr⟩ := hrel
      have HST := Lib.hid hst
      clear hst
      by_cases hkl : k < a.length
      · have hkb : k < b.length := by rw [← hL.out]; exact hkl
        have hdr := below_drew (B := wr.heap.size) wr
        have hbd := below_then hbr hdr
        obtain ⟨a1, a2, c1, c2, c3, n1, n2⟩ := (ha.below hbd).at' k hkl
        obtain ⟨b1, b2, d1, d2, d3, m1, m2⟩ := (hb.below hbd).at' k hkb
        have i1 : (0 : Int) ≤ (k : Int) := by omega
        have i2 : (k : Int) < (a.length : Nat) := by omega
        generalize ha' : a[k]'hkl = x at *
        generalize hb' : b[k]'hkb = y at *
        have HA := Lib.hid ha'
        have HB := Lib.hid hb'
        clear ha' hb'
        have hX : FracC wr.drew (.agg #[.bool (decide (x < 0)), a1, a2]) x := ⟨_, _, rfl, n1, n2⟩
        have hY : FracC wr.drew (.agg #[.bool (decide (y < 0)), b1, b2]) y := ⟨_, _, rfl, m1, m2⟩
        clear n1 n2 m1 m2
        go_wp2_with fail
        go_region_held3 (fun w' => w'.cell? (ptr va (k * 3)) = some (.bool (decide (x < 0))) ∧ w'.cell? (ptr va (k * 3 + 1)) = some a1 ∧ w'.cell? (ptr va (k * 3 + 2)) = some a2 ∧ w'.cell? (ptr vb (k * 3)) = some (.bool (decide (y < 0))) ∧ w'.cell? (ptr vb (k * 3 + 1)) = some b1 ∧ w'.cell? (ptr vb (k * 3 + 2)) = some b2) (exact ⟨c1, c2, c3, d1, d2, d3⟩) (first
          | (go_at_call 61; (with_reducible refine (same_frac _ _ x y _ hX hY).mono ?_); rintro e9 w9 ⟨⟨r9, rfl, h9⟩, hb9⟩
             have c1 := cell_below hb9 c1
             have c2 := cell_below hb9 c2
             have c3 := cell_below hb9 c3
             have d1 := cell_below hb9 d1
             have d2 := cell_below hb9 d2
             have d3 := cell_below hb9 d3))
        clear c1 c2 c3 d1 d2 d3 hX hY
        have hbr2 := below_then hbd hb9
        by_cases hxy : x = y
        · obtain rfl : r9 = true := h9.2 hxy
          have HST2 : Hid (∀ (j : Nat) (h1 : j < a.length) (h2 : j < b.length), j < k + 1 → a[j] = b[j]) := Lib.hid (fun j h1 h2 h3 => by
            rcases Nat.lt_or_ge j k with h4 | h4
            · exact HST.out j h1 h2 h4
            · obtain rfl : j = k := by omega
              rw [HA.out, HB.out, hxy])
          clear hxy h9
          go_wp2
          go_roundw
          case rel => exact ⟨k + 1, by omega, by go_num, HST2.out, hbr2⟩
          case measure => simp [intOf]; omega
        · obtain rfl : r9 = false := Bool.eq_false_iff.2 (fun h => hxy (h9.1 h))
          have HXY := Lib.hid hxy
          clear hxy h9
          go_wp2
          go_ret
          exact ⟨⟨false, rfl, by simp; intro h; subst h; exact HXY.out (HA.out.symm.trans HB.out)⟩, hbr2⟩
      · go_wp2_with fail
        go_ret
        refine ⟨⟨true, rfl, by simp; exact list_ext_of hL.out (fun j h1 h2 => HST.out j h1 h2 (by omega))⟩, hbr⟩
  · skip
    have hne : ((a.length : Int) == (b.length : Int)) = false := by simp; omega
    go_enter Tryz.func23, Tryz.ntmps23
    go_wp2_with fail
    go_ret
    exact ⟨⟨false, rfl, by simp; intro h; exact hlen (by rw [h])⟩, Below.refl _ _⟩
/-- v reads as a matrix of canonical fractions. -/
structure MatC (w : World) (v : Value) (m : List (List Rat)) : Prop where
  sl : IsSl v
  len : slen v = m.length
  at' : ∀ (j : Nat) (h : j < m.length), ∃ r, w.cell? (ptr v j) = some r ∧ FracsC w r m[j]
theorem MatC.below {w w' : World} {v : Value} {m : List (List Rat)} (h : MatC w v m) (hb : Below w.heap.size w w') : MatC w' v m :=
  ⟨h.sl, h.len, fun j hj => by obtain ⟨r, h1, h2⟩ := h.at' j hj; exact ⟨r, cell_below hb h1, h2.below hb⟩⟩
set_option maxRecDepth 100000 in
set_option maxHeartbeats 1600000 in
theorem same_mat (va vb : Value) (a b : List (List Rat)) (w : World) (ha : MatC w va a) (hb : MatC w vb b) :
    Calls Tryz.prog 93 #[va, vb] w (RSame w (a = b)) := by
  have sa := ha.sl
  have la := ha.len
  have sb := hb.sl
  have lb := hb.len
  have hle := sa.le
  have hle2 := sb.le
  rw [la] at hle
  rw [lb] at hle2
  have hlb : a.length ≤ 9223372036854775807 := by omega
  have hlb2 : b.length ≤ 9223372036854775807 := by omega
  clear hle hle2
  by_cases hlen : a.length = b.length
  · skip
    have hL := Lib.hid hlen
    rw [← hlen] at lb
    clear hlen
    go_enter Tryz.func93, Tryz.ntmps93
    go_wp2_with fail
    go_loopw [5] (fun u5 wr => ∃ (k : Nat), k ≤ a.length ∧ u5 = .int .i64 k ∧ (∀ (j : Nat) (h1 : j < a.length) (h2 : j < b.length), j < k → a[j] = b[j]) ∧ Below w.heap.size w wr) (fun u5 _ => a.length - (intOf u5).toNat)
    case atStart => exact ⟨0, Nat.zero_le _, rfl, fun j _ _ h => by omega, Below.refl _ _⟩
    case round =>
      obtain ⟨k, hk, rfl, hst, hbr⟩ := hrel
      have HST := Lib.hid hst
      clear hst
      by_cases hkl : k < a.length
      · have hkb : k < b.length := by rw [← hL.out]; exact hkl
        have hdr := below_drew (B := wr.heap.size) wr
        have hbd := below_then hbr hdr
        obtain ⟨r1, c1, hX⟩ := (ha.below hbd).at' k hkl
        obtain ⟨r2, d1, hY⟩ := (hb.below hbd).at' k hkb
        have i1 : (0 : Int) ≤ (k : Int) := by omega
        have i2 : (k : Int) < (a.length : Nat) := by omega
        generalize ha' : a[k]'hkl = x at *
        generalize hb' : b[k]'hkb = y at *
        have HA := Lib.hid ha'
        have HB := Lib.hid hb'
        clear ha' hb'

        go_wp2_with fail
        go_region_held3 (fun w' => w'.cell? (ptr va k) = some r1 ∧ w'.cell? (ptr vb k) = some r2) (exact ⟨c1, d1⟩) (first
          | (go_at_call 23; (with_reducible refine (same_fracs _ _ x y _ hX hY).mono ?_); rintro e9 w9 ⟨⟨r9, rfl, h9⟩, hb9⟩
             have c1 := cell_below hb9 c1
             have d1 := cell_below hb9 d1))
        clear c1 d1 hX hY
        have hbr2 := below_then hbd hb9
        by_cases hxy : x = y
        · obtain rfl : r9 = true := h9.2 hxy
          have HST2 : Hid (∀ (j : Nat) (h1 : j < a.length) (h2 : j < b.length), j < k + 1 → a[j] = b[j]) := Lib.hid (fun j h1 h2 h3 => by
            rcases Nat.lt_or_ge j k with h4 | h4
            · exact HST.out j h1 h2 h4
            · obtain rfl : j = k := by omega
              rw [HA.out, HB.out, hxy])
          clear hxy h9
          go_wp2
          go_roundw
          case rel => exact ⟨k + 1, by omega, by go_num, HST2.out, hbr2⟩
          case measure => simp [intOf]; omega
        · obtain rfl : r9 = false := Bool.eq_false_iff.2 (fun h => hxy (h9.1 h))
          have HXY := Lib.hid hxy
          clear hxy h9
          go_wp2
          go_ret
          exact ⟨⟨false, rfl, by simp; intro h; subst h; exact HXY.out (HA.out.symm.trans HB.out)⟩, hbr2⟩
      · go_wp2_with fail
        go_ret
        refine ⟨⟨true, rfl, by simp; exact list_ext_of hL.out (fun j h1 h2 => HST.out j h1 h2 (by omega))⟩, hbr⟩
  · skip
    have hne : ((a.length : Int) == (b.length : Int)) = false := by simp; omega
    go_enter Tryz.func93, Tryz.ntmps93
    go_wp2_with fail
    go_ret
    exact ⟨⟨false, rfl, by simp; intro h; exact hlen (by rw [h])⟩, Below.refl _ _⟩
end Go.Proofs.YtlpdkbmmbdfoiaaGreat
namespace Go.Proofs.YtlpdkbmmbdfoiaaGreat
set_option linter.unusedVariables false
set_option linter.unusedSimpArgs false
open Go.RowKit

/-- A chain of canonical fractions. -/
structure CQ where
  rates : List (List Rat)
  start : List Rat
  lost : List Bool
theorem CQ.ext_iff' {a b : CQ} : a = b ↔ a.rates = b.rates ∧ a.start = b.start ∧ a.lost = b.lost := by
  cases a; cases b; simp
def ChainC (w : World) (v : Value) (c : CQ) : Prop := ∃ r s l, v = .agg #[r, s, l] ∧ MatC w r c.rates ∧ FracsC w s c.start ∧ BoolsV w l c.lost
theorem ChainC.below {w w' : World} {v : Value} {c : CQ} (h : ChainC w v c) (hb : Below w.heap.size w w') : ChainC w' v c := by
  obtain ⟨r, s, l, rfl, h1, h2, h3⟩ := h; exact ⟨r, s, l, rfl, h1.below hb, h2.below hb, h3.below hb⟩
def CQ.raw (c : CQ) : RC := ⟨c.rates.map fun r => r.map RF.of, c.start.map RF.of, c.lost⟩
theorem MatC.raw {w : World} {v : Value} {m : List (List Rat)} (h : MatC w v m) : MatN w v (m.map fun r => r.map RF.of) :=
  ⟨h.sl, by rw [h.len, List.length_map], fun j hj => by
    obtain ⟨r, h1, h2⟩ := h.at' j (by simpa using hj)
    rw [List.getElem_map]
    exact ⟨r, h1, h2.raw⟩⟩
theorem ChainC.raw {w : World} {v : Value} {c : CQ} (h : ChainC w v c) : ChainN w v c.raw := by
  obtain ⟨r, s, l, rfl, h1, h2, h3⟩ := h; exact ⟨r, s, l, rfl, h1.raw, h2.raw, h3⟩
end Go.Proofs.YtlpdkbmmbdfoiaaGreat
namespace Go.Proofs.YtlpdkbmmbdfoiaaGreat
set_option linter.unusedVariables false
set_option linter.unusedSimpArgs false
open Go.RowKit

/-- What Check answers. -/
def checkP (c : RC) (bl : List Int) : Prop :=
  okB bl ∧ 0 < bl.length ∧ bl.length = c.start.length ∧ validP c ∧ allAgree bl (fun i => bsums bl (rowsQ c i) (cnt bl)) (fun i => c.lost.getD i false)
set_option maxRecDepth 100000 in
set_option maxHeartbeats 1600000 in
theorem check_early (va vb : Value) (c : RC) (bl : List Int) (w : World) (ha : ChainN w va c) (hb : IntsV w vb bl) (hn : ¬ okB bl ∨ ¬ 0 < bl.length ∨ bl.length ≠ c.start.length ∨ ¬ validP c) :
    Calls Tryz.prog 64 #[va, vb] w (fun e w' => e = .returned (.bool false) ∧ Below w.heap.size w w') := by
  obtain ⟨rv, sv, lv, rfl, hr, hs, hl⟩ := id ha
  obtain ⟨ra, rn, rk, rfl, r1, r2, r3⟩ := hr.sl
  obtain ⟨sa, sn, sk, rfl, s1, s2, s3⟩ := hs.sl
  obtain ⟨la, ln, lk, rfl, l1, l2, l3⟩ := CellsV.sl hl
  have hsl : sn = c.start.length := hs.len
  subst hsl
  have sb := CellsV.sl hb
  have lb := hb.len
  have hle := sb.le
  rw [lb] at hle
  have hbl2 : bl.length ≤ 9223372036854775807 := by omega
  clear hle
  unfold maxLen at s2
  have hbx := below_alloc w (.cells #[.slice ra rn rk, .slice sa c.start.length sk, .slice la ln lk] 28)
  have hC := C3.new w 28 (.slice ra rn rk) (.slice sa c.start.length sk) (.slice la ln lk)
  have ha2 := ha.below hbx
  have hb2 := hb.below hbx
  have HN := Lib.hid hn
  have HA := Lib.hid ha2
  clear hn ha2 ha
  have HC := Lib.hid hC
  clear hs
  generalize c.start.length = sn at *
  obtain ⟨_, c0, c1, c2, _, _, _⟩ := id hC
  clear hC
  by_cases h1 : okB bl ∧ 0 < bl.length
  · obtain ⟨h1, h2⟩ := h1
    have H1 := Lib.hid h1
    clear h1
    by_cases h3 : bl.length = sn
    · have HV : Hid (¬ validP c) := Lib.hid (by
        rcases HN.out with h | h | h | h
        · exact absurd H1.out h
        · exact absurd h2 h
        · exact absurd h3 h
        · exact h)
      subst h3
      go_enter Tryz.func64, Tryz.ntmps64
      go_wp2_with (first
        | (go_at_call 65; (with_reducible refine (count_any _ bl _ hb2).mono ?_); rintro e1 w1 ⟨n1, b1, rfl, rfl, hc1, _⟩; obtain ⟨hn1, hb1⟩ := hc1 H1.out; obtain rfl : b1 = true := hb1.trans (decide_eq_true h2); clear hc1 hb1)
        | (go_at_call 68; (with_reducible refine (valid_chain _ c _ HA.out).mono ?_); rintro e2 w2 ⟨⟨b2, rfl, hv2⟩, hbel2⟩; obtain rfl : b2 = false := Bool.eq_false_iff.2 (fun h => HV.out (hv2.1 h)); clear hv2))
      go_ret
      exact ⟨rfl, below_then hbx hbel2⟩
    · have h3b : (((bl.length : Nat) : Int) != (sn : Nat)) = true := by simp; omega
      go_enter Tryz.func64, Tryz.ntmps64
      go_wp2_with (go_at_call 65; (with_reducible refine (count_any _ bl _ hb2).mono ?_); rintro e1 w1 ⟨n1, b1, rfl, rfl, hc1, _⟩; obtain ⟨hn1, hb1⟩ := hc1 H1.out; obtain rfl : b1 = true := hb1.trans (decide_eq_true h2); clear hc1 hb1)
      go_ret
      exact ⟨rfl, hbx⟩
  · have H1 := Lib.hid h1
    clear h1
    go_enter Tryz.func64, Tryz.ntmps64
    go_wp2_with (go_at_call 65; (with_reducible refine (count_any _ bl _ hb2).mono ?_); rintro e1 w1 ⟨n1, b1, rfl, rfl, hc1, hc2⟩; obtain rfl : b1 = false := (by
      by_cases h : okB bl
      · rw [(hc1 h).2]; exact decide_eq_false (fun h2 => H1.out ⟨h, h2⟩)
      · exact (hc2 h).1); clear hc1 hc2)
    go_ret
    exact ⟨rfl, hbx⟩
end Go.Proofs.YtlpdkbmmbdfoiaaGreat
namespace Go.Proofs.YtlpdkbmmbdfoiaaGreat
set_option linter.unusedVariables false

/-- The first member of block b. -/
def firstB (bl : List Int) (b : Nat) : Nat := bl.findIdx (fun x => decide (x = (b : Int)))
theorem firstB_fresh {bl : List Int} (hok : okB bl) {k b : Nat} (hk : bl[k]? = some (b : Int)) (hb : b = cnt (bl.take k)) : firstB bl b = k := by
  obtain ⟨hk1, hk2⟩ := List.getElem?_eq_some_iff.1 hk
  unfold firstB
  rw [List.findIdx_eq hk1]
  refine ⟨by simp [hk2], fun j hj => ?_⟩
  have hj1 : j < bl.length := by omega
  obtain ⟨h2, h3⟩ := hok j _ (List.getElem?_eq_getElem hj1)
  have h4 := cnt_take_mono bl (show j + 1 ≤ k by omega)
  have h5 := cnt_take bl j hj1
  simp only [decide_eq_false_iff_not]
  intro h6
  by_cases h7 : bl[j]'hj1 = (cnt (bl.take j) : Int)
  · rw [if_pos h7] at h5
    omega
  · rw [if_neg h7] at h5
    omega
/-- The quotient. -/
def quo (c : RC) (bl : List Int) : CQ :=
  ⟨(List.range (cnt bl)).map fun b => (bsums bl (rowsQ c (firstB bl b)) (cnt bl)).set b 0, bsums bl (qs c.start) (cnt bl), (List.range (cnt bl)).map fun b => c.lost.getD (firstB bl b) false⟩
end Go.Proofs.YtlpdkbmmbdfoiaaGreat
namespace Go.Proofs.YtlpdkbmmbdfoiaaGreat
set_option linter.unusedVariables false

/-- A small fraction. -/
def smallQ (q : Rat) : Prop := ∃ a b : Nat, a ≤ 4 ∧ 1 ≤ b ∧ b ≤ 4 ∧ q = fq false a b
theorem smallQ.zero : smallQ 0 := ⟨0, 1, by decide, by decide, by decide, by decide⟩
theorem smallQ.cases (P : Rat → Prop) [DecidablePred P] (h : ∀ a, a < 5 → ∀ b, b < 5 → b ≠ 0 → P (fq false a b)) {q : Rat} (hq : smallQ q) : P q := by
  obtain ⟨a, b, h1, h2, h3, rfl⟩ := hq
  exact h a (by omega) b (by omega) (by omega)
theorem smallQ.nonneg {q : Rat} (h : smallQ q) : ¬ q < 0 := smallQ.cases (fun q => ¬ q < 0) (by decide) h
theorem smallQ.wt {q : Rat} (h : smallQ q) : wt q ≤ 6 := smallQ.cases (fun q => Go.Proofs.YtlpdkbmmbdfoiaaGreat.wt q ≤ 6) (by decide) h
theorem smallQ.num {q : Rat} (h : smallQ q) : q.num.natAbs ≤ 4 := smallQ.cases (fun q => q.num.natAbs ≤ 4) (by decide) h
theorem smallQ.den {q : Rat} (h : smallQ q) : q.den ≤ 4 := smallQ.cases (fun q => q.den ≤ 4) (by decide) h
theorem nbits_small {n : Nat} (h : n ≤ 4) : nbits n ≤ 3 := nbits_le.2 (by omega)
theorem nlen_small {n : Nat} (h : n ≤ 4) : nlen n ≤ 4 := nlen_le.2 (by simp [pw]; omega)
theorem smallQ.fits {q : Rat} (h : smallQ q) : fits q := ⟨Nat.le_trans (nbits_small h.num) (by decide), Nat.le_trans (nbits_small h.den) (by decide)⟩
/-- A chain of a tape. -/
structure tapeP (c : CQ) : Prop where
  n2 : 2 ≤ c.start.length
  n5 : c.start.length ≤ 5
  ll : c.lost.length = c.start.length
  rl : c.rates.length = c.start.length
  st : ∀ q ∈ c.start, smallQ q
  sum : lsum c.start = 1
  rows : ∀ (i : Nat) (r : List Rat), c.rates[i]? = some r → r.length = c.start.length ∧ (∀ q ∈ r, smallQ q) ∧ (∀ x : Rat, r[i]? = some x → x = 0) ∧ (c.lost[i]? = some true → ∀ q ∈ r, q = 0)
theorem wts_small {l : List Rat} (h : ∀ q ∈ l, smallQ q) : wts l ≤ 6 * l.length := by
  induction l with
  | nil => simp [wts]
  | cons x l ih =>
    have h1 := (h x (by simp)).wt
    have h2 := ih (fun q hq => h q (by simp [hq]))
    rw [wts_cons, List.length_cons]
    omega
theorem qs_of (l : List Rat) : qs (l.map RF.of) = l := by
  unfold qs
  rw [List.map_map]
  conv => rhs; rw [← List.map_id l]
  exact List.map_congr_left (fun q _ => RF.of_q q)
theorem rowP_small {l : List Rat} {n : Nat} (hn : l.length = n) (hn5 : n ≤ 5) (h : ∀ q ∈ l, smallQ q) : rowP (l.map RF.of) n := by
  refine ⟨fun x hx => ?_, by rw [List.length_map]; exact hn, by rw [qs_of]; have := wts_small h; omega⟩
  obtain ⟨q, hq, rfl⟩ := List.mem_map.1 hx
  have hs := h q hq
  refine ⟨RF.of_ok hs.fits, ?_⟩
  rw [RF.of_q]
  exact ⟨hs.nonneg, nlen_small hs.num, nlen_small hs.den⟩
theorem tapeP.valid {c : CQ} (h : tapeP c) : validP c.raw := by
  obtain ⟨n2, n5, ll, rl, st, sum, rows⟩ := h
  refine ⟨by simp [CQ.raw]; omega, by simp [CQ.raw]; omega, by simp [CQ.raw]; exact ll, by simp [CQ.raw]; exact rl, ?_, fun i r hr => ?_, ?_⟩
  · have := rowP_small (n := c.start.length) rfl n5 st
    simpa [CQ.raw] using this
  · simp only [CQ.raw, List.getElem?_map, Option.map_eq_some_iff] at hr
    obtain ⟨r', hr', rfl⟩ := hr
    obtain ⟨k1, k2, k3, k4⟩ := rows i r' hr'
    refine ⟨?_, fun x hx => ?_, fun hl => ?_⟩
    · have := rowP_small k1 n5 k2
      simpa [CQ.raw] using this
    · rw [List.getElem?_map, Option.map_eq_some_iff] at hx
      obtain ⟨q, hq, rfl⟩ := hx
      rw [RF.of_q, k3 q hq]
      rfl
    · rw [qs_of]
      have h0 := k4 hl
      have : ∀ l : List Rat, (∀ q ∈ l, q = 0) → wts l = 0 := fun l => by
        induction l with
        | nil => intro _; rfl
        | cons x l ih =>
          intro h
          rw [wts_cons, ih (fun q hq => h q (by simp [hq])), h x (by simp)]
          decide
      exact this r' h0
  · have : qs c.raw.start = c.start := qs_of _
    rw [this]; exact sum
end Go.Proofs.YtlpdkbmmbdfoiaaGreat
namespace Go.Proofs.YtlpdkbmmbdfoiaaGreat
set_option linter.unusedVariables false

/-- The first m rates of state i. -/
def RowF (n lo i : Nat) (r : List Rat) (m : Nat) : Prop := r.length = m ∧ (∀ q ∈ r, smallQ q) ∧ (∀ x : Rat, r[i]? = some x → x = 0) ∧ ((n : Int) - lo ≤ i → ∀ q ∈ r, q = 0)
theorem RowF.nil (n lo i : Nat) : RowF n lo i [] 0 := ⟨rfl, fun q h => by simp at h, fun x h => by simp at h, fun _ q h => by simp at h⟩
theorem RowF.snoc {n lo i m : Nat} {r : List Rat} {x : Rat} (h : RowF n lo i r m) (hx : smallQ x) (h1 : i = m → x = 0) (h2 : (n : Int) - lo ≤ i → x = 0) : RowF n lo i (r ++ [x]) (m + 1) := by
  obtain ⟨a, b, c, d⟩ := h
  refine ⟨by simp [a], fun q hq => ?_, fun y hy => ?_, fun hl q hq => ?_⟩
  · rcases List.mem_append.1 hq with h | h
    · exact b q h
    · simp at h; subst h; exact hx
  · rcases Nat.lt_or_ge i r.length with h | h
    · rw [List.getElem?_append_left h] at hy
      exact c y hy
    · have hi : i < (r ++ [x]).length := (List.getElem?_eq_some_iff.1 hy).1
      have hi2 : i = m := by simp at hi; omega
      rw [List.getElem?_append_right h] at hy
      have h0 : i - r.length = 0 := by omega
      rw [h0] at hy
      simp at hy
      rw [← hy]
      exact h1 hi2
  · rcases List.mem_append.1 hq with h | h
    · exact d hl q h
    · simp at h; subst h; exact h2 hl
structure TF (n lo i left : Nat) (rates : List (List Rat)) (start : List Rat) (lost : List Bool) : Prop where
  sl : start.length = i
  ll : lost.length = i
  rl : rates.length = i
  left4 : left ≤ 4
  fin : i = n → left = 0
  sum : lsum start = fq false (4 - left) 4
  st : ∀ q ∈ start, smallQ q
  los : ∀ (j : Nat) (b : Bool), lost[j]? = some b → b = decide ((n : Int) - lo ≤ j)
  rows : ∀ (j : Nat) (r : List Rat), rates[j]? = some r → RowF n lo j r n
theorem TF.zero (n lo : Nat) (hn : 0 < n) : TF n lo 0 4 [] [] [] :=
  ⟨rfl, rfl, rfl, Nat.le_refl _, fun h => by omega, by decide, fun q h => by simp at h, fun j b h => by simp at h, fun j r h => by simp at h⟩
theorem fq_quarter (a b : Nat) : fq false a 4 + fq false b 4 = fq false (a + b) 4 := by
  rw [fq_add_same false a 4 b 4 (by decide) (by decide)]
  unfold fq sgn
  simp only [Bool.false_eq_true, if_false]
  rw [show ((a * 4 + b * 4 : Nat) : Int) = ((a + b : Nat) : Int) * 4 from by omega, show (4 * 4 : Nat) = 4 * 4 from rfl]
  exact Rat.mkRat_mul_right (by decide)
theorem TF.step {n lo i left k : Nat} {rates : List (List Rat)} {start : List Rat} {lost : List Bool} {r : List Rat} (h : TF n lo i left rates start lost) (hk : k ≤ left) (hl : i + 1 = n → k = left) (hr : RowF n lo i r n) :
    TF n lo (i + 1) (left - k) (rates ++ [r]) (start ++ [fq false k 4]) (lost ++ [decide ((n : Int) - lo ≤ i)]) := by
  obtain ⟨sl, ll, rl, l4, fin, sum, st, hlo, rows⟩ := h
  refine ⟨by simp [sl], by simp [ll], by simp [rl], by omega, fun h => by have := hl h; omega, ?_, fun q hq => ?_, fun j b hb => ?_, fun j q hq => ?_⟩
  · rw [lsum_snoc, sum, fq_quarter, show 4 - left + k = 4 - (left - k) from by omega]
  · rcases List.mem_append.1 hq with h | h
    · exact st q h
    · simp at h; subst h; exact ⟨k, 4, by omega, by decide, by decide, rfl⟩
  · rcases Nat.lt_or_ge j lost.length with h | h
    · rw [List.getElem?_append_left h] at hb; exact hlo j b hb
    · have hj : j < (lost ++ [decide ((n : Int) - lo ≤ i)]).length := (List.getElem?_eq_some_iff.1 hb).1
      have hj2 : j = i := by simp at hj; omega
      rw [List.getElem?_append_right h, show j - lost.length = 0 from by omega] at hb
      simp at hb
      rw [← hb, hj2]
  · rcases Nat.lt_or_ge j rates.length with h | h
    · rw [List.getElem?_append_left h] at hq; exact rows j q hq
    · have hj : j < (rates ++ [r]).length := (List.getElem?_eq_some_iff.1 hq).1
      have hj2 : j = i := by simp at hj; omega
      rw [List.getElem?_append_right h, show j - rates.length = 0 from by omega] at hq
      simp at hq
      rw [← hq, hj2]
      exact hr
theorem TF.done {n lo left : Nat} {rates : List (List Rat)} {start : List Rat} {lost : List Bool} (h : TF n lo n left rates start lost) (h2 : 2 ≤ n) (h5 : n ≤ 5) : tapeP ⟨rates, start, lost⟩ := by
  obtain ⟨sl, ll, rl, l4, fin, sum, st, hlo, rows⟩ := h
  refine ⟨by simp [sl, h2], by simp [sl, h5], by simp [sl, ll], by simp [sl, rl], st, ?_, fun i r hr => ?_⟩
  · have := fin rfl
    subst this
    rw [sum]; decide
  · obtain ⟨a, b, c, d⟩ := rows i r hr
    refine ⟨by simp [sl, a], b, c, fun hl => d ?_⟩
    have := hlo i true hl
    simpa using this.symm
end Go.Proofs.YtlpdkbmmbdfoiaaGreat
