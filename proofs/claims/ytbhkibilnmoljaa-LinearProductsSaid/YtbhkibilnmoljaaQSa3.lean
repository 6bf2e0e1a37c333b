/-
  package drydocksame: Fracs, Matrix.
  Ahead of it: package drydocksame: Nat, Ints, Bools. package drydocksame: Frac.
-/
import Derived.Test.YtbhkibilnmoljaaQGn
namespace Go.Proofs.Ytbhkibilnmoljaa
set_option linter.unusedVariables false
set_option linter.unusedSimpArgs false
open Go.RowKit

/-- The answer is b, the world is as it was, but for draws and new blocks. -/
def RSame (w0 : World) (p : Prop) (e : Ending) (w : World) : Prop := (∃ b, e = .returned (.bool b) ∧ (b = true ↔ p)) ∧ Below w0.heap.size w0 w
theorem list_ext_of {α : Type _} {a b : List α} (hl : a.length = b.length) (h : ∀ (j : Nat) (h1 : j < a.length) (h2 : j < b.length), a[j] = b[j]) : a = b := List.ext_getElem hl h
theorem NatV.at' {w : World} {v : Value} {l : List Nat} (h : NatV w v l) (j : Nat) (hj : j < l.length) : w.cell? (ptr v j) = some (.int .u32 (l[j] : Nat)) := h.cell j hj
set_option maxHeartbeats 1600000 in
theorem same_nat (va vb : Value) (a b : List Nat) (w : World) (ha : NatV w va a) (hb : NatV w vb b) :
    Calls Try.prog 51 #[va, vb] w (RSame w (a = b)) := by
  have sa := ha.sl
  have la := ha.len
  have sb := hb.sl
  have lb := hb.len
  have hle := sa.le
  have hle2 := sb.le
  rw [la] at hle
  rw [lb] at hle2
  have hlb : a.length ≤ 9223372036854775807 := by omega
  have hlb2 : b.length ≤ 9223372036854775807 := by omega
  clear hle hle2
  have hw : w.heap.size ≤ w.heap.size := Nat.le_refl _
  by_cases hlen : a.length = b.length
  · skip
    have hL := Lib.hid hlen
    rw [← hlen] at lb
    clear hlen
    go_enter Try.func51, Try.ntmps51
    go_wp2_with fail
    go_loopw [5] (fun u5 wr => ∃ (k : Nat), k ≤ a.length ∧ u5 = .int .i64 k ∧ (∀ (j : Nat) (h1 : j < a.length) (h2 : j < b.length), j < k → a[j] = b[j]) ∧ Below w.heap.size w wr) (fun u5 _ => a.length - (intOf u5).toNat)
    case atStart => exact ⟨0, Nat.zero_le _, rfl, fun j _ _ h => by omega, Below.refl _ _⟩
    case round =>
      obtain ⟨k, hk, rfl, hst, hbr⟩ := hrel
      have HST := Lib.hid hst
      clear hst
      by_cases hkl : k < a.length
      · have hkb : k < b.length := by rw [← hL.out]; exact hkl
        have hc := (ha.below hbr).at' k hkl
        have hd := (hb.below hbr).at' k hkb
        have HX : Hid (∀ (h1 : k < a.length) (h2 : k < b.length), a[k] = b[k] ↔ a[k]'hkl = b[k]'hkb) := Lib.hid (fun _ _ => Iff.rfl)
        have i1 : (0 : Int) ≤ (k : Int) := by omega
        have i2 : (k : Int) < (a.length : Nat) := by omega
        generalize ha' : a[k]'hkl = x at *
        generalize hb' : b[k]'hkb = y at *
        have HA := Lib.hid ha'
        have HB := Lib.hid hb'
        clear ha' hb'
        by_cases hxy : x = y
        · subst hxy
          have HST2 : Hid (∀ (j : Nat) (h1 : j < a.length) (h2 : j < b.length), j < k + 1 → a[j] = b[j]) := Lib.hid (fun j h1 h2 h3 => by
            rcases Nat.lt_or_ge j k with h4 | h4
            · exact HST.out j h1 h2 h4
            · obtain rfl : j = k := by omega
              rw [HA.out, HB.out])
          go_wp2_with fail
          go_quiet (fail)
          have hbd := below_then hbr (below_drewN (B := wr.heap.size) wr nq)
          go_wp2_with fail
          go_roundw
          case rel => exact ⟨k + 1, by omega, by go_num, HST2.out, hbd⟩
          case measure => simp [intOf]; omega
        · skip
          have hxy2 : ((x : Int) == (y : Int)) = false := by first | (simp; omega) | simpa using hxy
          go_wp2_with fail
          go_quiet (fail)
          have hbd := below_then hbr (below_drewN (B := wr.heap.size) wr nq)
          go_wp2_with fail
          go_ret
          exact ⟨⟨false, rfl, by simp; intro h; subst h; exact hxy (HA.out.symm.trans HB.out)⟩, hbd⟩
      · go_wp2_with fail
        go_ret
        refine ⟨⟨true, rfl, by simp; exact list_ext_of hL.out (fun j h1 h2 => HST.out j h1 h2 (by omega))⟩, hbr⟩
  · have hne : ((a.length : Int) == (b.length : Int)) = false := by simp; omega
    go_enter Try.func51, Try.ntmps51
    go_wp2_with fail
    go_ret
    exact ⟨⟨false, rfl, by simp; intro h; exact hlen (by rw [h])⟩, Below.refl _ _⟩
end Go.Proofs.Ytbhkibilnmoljaa
namespace Go.Proofs.Ytbhkibilnmoljaa
set_option linter.unusedVariables false
set_option linter.unusedSimpArgs false
open Go.RowKit

theorem rat_parts {p q : Rat} : p = q ↔ decide (p < 0) = decide (q < 0) ∧ limbs p.num.natAbs = limbs q.num.natAbs ∧ limbs p.den = limbs q.den := by
  constructor
  · rintro rfl; exact ⟨rfl, rfl, rfl⟩
  · rintro ⟨h1, h2, h3⟩
    have e2 := limbs_inj h2
    have e3 := limbs_inj h3
    rw [← fq_self p, ← fq_self q, h1, e2, e3]
set_option maxRecDepth 100000 in
set_option maxHeartbeats 1600000 in
theorem same_frac (va vb : Value) (p q : Rat) (w : World) (ha : FracC w va p) (hb : FracC w vb q) :
    Calls Try.prog 22 #[va, vb] w (RSame w (p = q)) := by
  obtain ⟨a1, a2, rfl, n1, n2⟩ := ha
  obtain ⟨b1, b2, rfl, m1, m2⟩ := hb
  have HP := Lib.hid (@rat_parts p q)
  have n1 := n1.1
  have n2 := n2.1
  have m1 := m1.1
  have m2 := m2.1
  obtain ⟨a1a, a1n, a1c, rfl, _⟩ := n1.sl
  obtain ⟨a2a, a2n, a2c, rfl, _⟩ := n2.sl
  obtain ⟨b1a, b1n, b1c, rfl, _⟩ := m1.sl
  obtain ⟨b2a, b2n, b2c, rfl, _⟩ := m2.sl
  generalize decide (p < 0) = s at *
  generalize decide (q < 0) = t at *
  generalize limbs p.num.natAbs = x at *
  generalize limbs q.num.natAbs = y at *
  generalize limbs p.den = z at *
  generalize limbs q.den = u at *
  have hbx := below_alloc w (.cells #[.bool s, .slice a1a a1n a1c, .slice a2a a2n a2c] 30)
  have hbx := (hbx.alloc hbx.size (.cells #[.bool t, .slice b1a b1n b1c, .slice b2a b2n b2c] 30))
  have n1 := n1.below hbx
  have n2 := n2.below hbx
  have m1 := m1.below hbx
  have m2 := m2.below hbx
  have hC := (C3.new w 30 (.bool s) (.slice a1a a1n a1c) (.slice a2a a2n a2c)).allocS (.cells #[.bool t, .slice b1a b1n b1c, .slice b2a b2n b2c] 30)
  have hD := C3.new (w.alloc (.cells #[.bool s, .slice a1a a1n a1c, .slice a2a a2n a2c] 30)) 30 (.bool t) (.slice b1a b1n b1c) (.slice b2a b2n b2c)
  rw [show (w.alloc (.cells #[.bool s, .slice a1a a1n a1c, .slice a2a a2n a2c] 30)).heap.size = w.heap.size + 1 from by simp] at hD
  by_cases h1 : s = t
  · subst h1
    by_cases hxy : x = y
    · by_cases hzu : z = u
      · have tok : True := trivial
        go_enter Try.func22, Try.ntmps22
        go_wp2_with (first
          | (go_at_call 51; have _t := tok; (with_reducible refine (same_nat _ _ x y _ n1 m1).mono ?_); rintro e1 w1 ⟨⟨r1, rfl, h1⟩, hbel1⟩; obtain rfl : r1 = true := h1.2 hxy; clear h1 tok _t
             have n3 := n2.below hbel1
             have m3 := m2.below hbel1
             obtain ⟨_, c0, c1, c2, _, _, _⟩ := hC.belowS hbel1
             obtain ⟨_, d0, d1, d2, _, _, _⟩ := hD.belowS hbel1)
          | (go_at_call 51; (with_reducible refine (same_nat _ _ z u _ n3 m3).mono ?_); rintro e2 w2 ⟨⟨r2, rfl, h2⟩, hbel2⟩; obtain rfl : r2 = true := h2.2 hzu; clear h2))
        go_ret
        exact ⟨⟨true, rfl, by simp; exact HP.out.2 ⟨by first | rfl | trivial, hxy, hzu⟩⟩, (hbx.trans (hbel1.mono hbx.size)).trans (hbel2.mono (hbx.trans (hbel1.mono hbx.size)).size)⟩
      · have tok : True := trivial
        go_enter Try.func22, Try.ntmps22
        go_wp2_with (first
          | (go_at_call 51; have _t := tok; (with_reducible refine (same_nat _ _ x y _ n1 m1).mono ?_); rintro e1 w1 ⟨⟨r1, rfl, h1⟩, hbel1⟩; obtain rfl : r1 = true := h1.2 hxy; clear h1 tok _t
             have n3 := n2.below hbel1
             have m3 := m2.below hbel1
             obtain ⟨_, c0, c1, c2, _, _, _⟩ := hC.belowS hbel1
             obtain ⟨_, d0, d1, d2, _, _, _⟩ := hD.belowS hbel1)
          | (go_at_call 51; (with_reducible refine (same_nat _ _ z u _ n3 m3).mono ?_); rintro e2 w2 ⟨⟨r2, rfl, h2⟩, hbel2⟩; obtain rfl : r2 = false := Bool.eq_false_iff.2 (fun h => hzu (h2.1 h)); clear h2))
        go_ret
        exact ⟨⟨false, rfl, by simp; exact fun h => hzu (HP.out.1 h).2.2⟩, (hbx.trans (hbel1.mono hbx.size)).trans (hbel2.mono (hbx.trans (hbel1.mono hbx.size)).size)⟩
    · go_enter Try.func22, Try.ntmps22
      go_wp2_with (go_at_call 51; (with_reducible refine (same_nat _ _ x y _ n1 m1).mono ?_); rintro e1 w1 ⟨⟨r1, rfl, h1⟩, hbel1⟩; obtain rfl : r1 = false := Bool.eq_false_iff.2 (fun h => hxy (h1.1 h)); clear h1)
      go_ret
      exact ⟨⟨false, rfl, by simp; exact fun h => hxy (HP.out.1 h).2.1⟩, hbx.trans (hbel1.mono hbx.size)⟩
  · have h2 : (s == t) = false := by simpa using h1
    go_enter Try.func22, Try.ntmps22
    go_wp2_with fail
    go_ret
    exact ⟨⟨false, rfl, by simp; exact fun h => h1 (HP.out.1 h).1⟩, hbx⟩
end Go.Proofs.Ytbhkibilnmoljaa
namespace Go.Proofs.Ytbhkibilnmoljaa
set_option linter.unusedVariables false
set_option linter.unusedSimpArgs false
open Go.RowKit

set_option maxRecDepth 100000 in
set_option maxHeartbeats 1600000 in
theorem same_fracs (va vb : Value) (a b : List Rat) (w : World) (ha : FracsC w va a) (hb : FracsC w vb b) :
    Calls Try.prog 20 #[va, vb] w (RSame w (a = b)) := by
  have sa := ha.sl
  have la := ha.len
  have sb := hb.sl
  have lb := hb.len
  have hle := sa.le
  have hle2 := sb.le
  rw [la] at hle
  rw [lb] at hle2
  have hlb : a.length ≤ 9223372036854775807 := by omega
  have hlb2 : b.length ≤ 9223372036854775807 := by omega
  clear hle hle2
  by_cases hlen : a.length = b.length
  · skip
    have hL := Lib.hid hlen
    rw [← hlen] at lb
    clear hlen
    go_enter Try.func20, Try.ntmps20
    go_wp2_with fail
    go_loopw [5] (fun u5 wr => ∃ (k : Nat), k ≤ a.length ∧ u5 = .int .i64 k ∧ (∀ (j : Nat) (h1 : j < a.length) (h2 : j < b.length), j < k → a[j] = b[j]) ∧ Below w.heap.size w wr) (fun u5 _ => a.length - (intOf u5).toNat)
    case atStart => exact ⟨0, Nat.zero_le _, rfl, fun j _ _ h => by omega, Below.refl _ _⟩
    case round =>
      obtain ⟨k, hk, rfl, hst, hbr⟩ := hrel
      have HST := Lib.hid hst
      clear hst
      by_cases hkl : k < a.length
      · have hkb : k < b.length := by rw [← hL.out]; exact hkl
        have hdr := below_drew (B := wr.heap.size) wr
        have hbd := below_then hbr hdr
        obtain ⟨a1, a2, c1, c2, c3, n1, n2⟩ := (ha.below hbd).at' k hkl
        obtain ⟨b1, b2, d1, d2, d3, m1, m2⟩ := (hb.below hbd).at' k hkb
        have i1 : (0 : Int) ≤ (k : Int) := by omega
        have i2 : (k : Int) < (a.length : Nat) := by omega
        generalize ha' : a[k]'hkl = x at *
        generalize hb' : b[k]'hkb = y at *
        have HA := Lib.hid ha'
        have HB := Lib.hid hb'
        clear ha' hb'
        have hX : FracC wr.drew (.agg #[.bool (decide (x < 0)), a1, a2]) x := ⟨_, _, rfl, n1, n2⟩
        have hY : FracC wr.drew (.agg #[.bool (decide (y < 0)), b1, b2]) y := ⟨_, _, rfl, m1, m2⟩
        clear n1 n2 m1 m2
        go_wp2_with fail
        go_region_held3 (fun w' => w'.cell? (ptr va (k * 3)) = some (.bool (decide (x < 0))) ∧ w'.cell? (ptr va (k * 3 + 1)) = some a1 ∧ w'.cell? (ptr va (k * 3 + 2)) = some a2 ∧ w'.cell? (ptr vb (k * 3)) = some (.bool (decide (y < 0))) ∧ w'.cell? (ptr vb (k * 3 + 1)) = some b1 ∧ w'.cell? (ptr vb (k * 3 + 2)) = some b2) (exact ⟨c1, c2, c3, d1, d2, d3⟩) (first
          | (go_at_call 22; (with_reducible refine (same_frac _ _ x y _ hX hY).mono ?_); rintro e9 w9 ⟨⟨r9, rfl, h9⟩, hb9⟩
             have c1 := cell_below hb9 c1
             have c2 := cell_below hb9 c2
             have c3 := cell_below hb9 c3
             have d1 := cell_below hb9 d1
             have d2 := cell_below hb9 d2
             have d3 := cell_below hb9 d3))
        clear c1 c2 c3 d1 d2 d3 hX hY
        have hbr2 := below_then hbd hb9
        by_cases hxy : x = y
        · obtain rfl : r9 = true := h9.2 hxy
          have HST2 : Hid (∀ (j : Nat) (h1 : j < a.length) (h2 : j < b.length), j < k + 1 → a[j] = b[j]) := Lib.hid (fun j h1 h2 h3 => by
            rcases Nat.lt_or_ge j k with h4 | h4
            · exact HST.out j h1 h2 h4
            · obtain rfl : j = k := by omega
              rw [HA.out, HB.out, hxy])
          clear hxy h9
          go_wp2
          go_roundw
          case rel => exact ⟨k + 1, by omega, by go_num, HST2.out, hbr2⟩
          case measure => simp [intOf]; omega
        · obtain rfl : r9 = false := Bool.eq_false_iff.2 (fun h => hxy (h9.1 h))
          have HXY := Lib.hid hxy
          clear hxy h9
          go_wp2
          go_ret
          exact ⟨⟨false, rfl, by simp; intro h; subst h; exact HXY.out (HA.out.symm.trans HB.out)⟩, hbr2⟩
      · go_wp2_with fail
        go_ret
        refine ⟨⟨true, rfl, by simp; exact list_ext_of hL.out (fun j h1 h2 => HST.out j h1 h2 (by omega))⟩, hbr⟩
  · skip
    have hne : ((a.length : Int) == (b.length : Int)) = false := by simp; omega
    go_enter Try.func20, Try.ntmps20
    go_wp2_with fail
    go_ret
    exact ⟨⟨false, rfl, by simp; intro h; exact hlen (by rw [h])⟩, Below.refl _ _⟩
/-- v reads as a matrix of canonical fractions. -/
structure MatC (w : World) (v : Value) (m : List (List Rat)) : Prop where
  sl : IsSl v
  len : slen v = m.length
  at' : ∀ (j : Nat) (h : j < m.length), ∃ r, w.cell? (ptr v j) = some r ∧ FracsC w r m[j]
theorem MatC.below {w w' : World} {v : Value} {m : List (List Rat)} (h : MatC w v m) (hb : Below w.heap.size w w') : MatC w' v m :=
  ⟨h.sl, h.len, fun j hj => by obtain ⟨r, h1, h2⟩ := h.at' j hj; exact ⟨r, cell_below hb h1, h2.below hb⟩⟩
set_option maxRecDepth 100000 in
set_option maxHeartbeats 1600000 in
theorem same_mat (va vb : Value) (a b : List (List Rat)) (w : World) (ha : MatC w va a) (hb : MatC w vb b) :
    Calls Try.prog 25 #[va, vb] w (RSame w (a = b)) := by
  have sa := ha.sl
  have la := ha.len
  have sb := hb.sl
  have lb := hb.len
  have hle := sa.le
  have hle2 := sb.le
  rw [la] at hle
  rw [lb] at hle2
  have hlb : a.length ≤ 9223372036854775807 := by omega
  have hlb2 : b.length ≤ 9223372036854775807 := by omega
  clear hle hle2
  by_cases hlen : a.length = b.length
  · skip
    have hL := Lib.hid hlen
    rw [← hlen] at lb
    clear hlen
    go_enter Try.func25, Try.ntmps25
    go_wp2_with fail
    go_loopw [5] (fun u5 wr => ∃ (k : Nat), k ≤ a.length ∧ u5 = .int .i64 k ∧ (∀ (j : Nat) (h1 : j < a.length) (h2 : j < b.length), j < k → a[j] = b[j]) ∧ Below w.heap.size w wr) (fun u5 _ => a.length - (intOf u5).toNat)
    case atStart => exact ⟨0, Nat.zero_le _, rfl, fun j _ _ h => by omega, Below.refl _ _⟩
    case round =>
      obtain ⟨k, hk, rfl, hst, hbr⟩ := hrel
      have HST := Lib.hid hst
      clear hst
      by_cases hkl : k < a.length
      · have hkb : k < b.length := by rw [← hL.out]; exact hkl
        have hdr := below_drew (B := wr.heap.size) wr
        have hbd := below_then hbr hdr
        obtain ⟨r1, c1, hX⟩ := (ha.below hbd).at' k hkl
        obtain ⟨r2, d1, hY⟩ := (hb.below hbd).at' k hkb
        have i1 : (0 : Int) ≤ (k : Int) := by omega
        have i2 : (k : Int) < (a.length : Nat) := by omega
        generalize ha' : a[k]'hkl = x at *
        generalize hb' : b[k]'hkb = y at *
        have HA := Lib.hid ha'
        have HB := Lib.hid hb'
        clear ha' hb'

        go_wp2_with fail
        go_region_held3 (fun w' => w'.cell? (ptr va k) = some r1 ∧ w'.cell? (ptr vb k) = some r2) (exact ⟨c1, d1⟩) (first
          | (go_at_call 20; (with_reducible refine (same_fracs _ _ x y _ hX hY).mono ?_); rintro e9 w9 ⟨⟨r9, rfl, h9⟩, hb9⟩
             have c1 := cell_below hb9 c1
             have d1 := cell_below hb9 d1))
        clear c1 d1 hX hY
        have hbr2 := below_then hbd hb9
        by_cases hxy : x = y
        · obtain rfl : r9 = true := h9.2 hxy
          have HST2 : Hid (∀ (j : Nat) (h1 : j < a.length) (h2 : j < b.length), j < k + 1 → a[j] = b[j]) := Lib.hid (fun j h1 h2 h3 => by
            rcases Nat.lt_or_ge j k with h4 | h4
            · exact HST.out j h1 h2 h4
            · obtain rfl : j = k := by omega
              rw [HA.out, HB.out, hxy])
          clear hxy h9
          go_wp2
          go_roundw
          case rel => exact ⟨k + 1, by omega, by go_num, HST2.out, hbr2⟩
          case measure => simp [intOf]; omega
        · obtain rfl : r9 = false := Bool.eq_false_iff.2 (fun h => hxy (h9.1 h))
          have HXY := Lib.hid hxy
          clear hxy h9
          go_wp2
          go_ret
          exact ⟨⟨false, rfl, by simp; intro h; subst h; exact HXY.out (HA.out.symm.trans HB.out)⟩, hbr2⟩
      · go_wp2_with fail
        go_ret
        refine ⟨⟨true, rfl, by simp; exact list_ext_of hL.out (fun j h1 h2 => HST.out j h1 h2 (by omega))⟩, hbr⟩
  · skip
    have hne : ((a.length : Int) == (b.length : Int)) = false := by simp; omega
    go_enter Try.func25, Try.ntmps25
    go_wp2_with fail
    go_ret
    exact ⟨⟨false, rfl, by simp; intro h; exact hlen (by rw [h])⟩, Below.refl _ _⟩
end Go.Proofs.Ytbhkibilnmoljaa
