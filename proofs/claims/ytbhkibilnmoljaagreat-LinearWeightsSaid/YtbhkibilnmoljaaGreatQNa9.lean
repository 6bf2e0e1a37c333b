/-
  package natural: divide, Div, Gcd, Bits.
-/
import Derived.Test.YtbhkibilnmoljaaGreatQMath5
import Derived.Test.YtbhkibilnmoljaaGreatQNa8
namespace Go.Proofs.YtbhkibilnmoljaaGreat
set_option linter.unusedVariables false
set_option linter.unusedSimpArgs false
open Go.RowKit

theorem divide_any (va vb : Value) (m n : Nat) (w : World) (ha : NatC w va m) (hb : NatC w vb n) (hn : n ≠ 0) (hm : nlen m ≤ 512) :
    Calls Tryz.prog 99 #[va, vb] w (RDiv w m n) := by
  rcases Nat.lt_or_ge m n with h | h
  · exact divide_less va vb m n w ha hb h
  · have h0 : nlen n ≠ 0 := fun h' => hn (nlen_eq_zero.1 h')
    rcases Nat.lt_or_ge (nlen n) 2 with h2 | h2
    · exact divide_short va vb m n w ha hb h (by omega) hm
    · exact divide_long va vb m n w ha hb h h2 hm

def RDiv2 (w0 : World) (m n : Nat) (e : Ending) (w : World) : Prop :=
  ∃ q r, e = .returned (.tuple #[q, r, .int .i64 0]) ∧ NatC w q (m / n) ∧ NatC w r (m % n) ∧ Below w0.heap.size w0 w

set_option maxHeartbeats 800000 in
theorem div_any (va vb : Value) (m n : Nat) (w : World) (ha : NatN w va m) (hb : NatN w vb n) (h : n ≠ 0) (hm : nlen m ≤ 512) (hn : nlen n ≤ 512) :
    Calls Tryz.prog 85 #[va, vb] w (RDiv2 w m n) := by
  have HM := Lib.hid hm
  have HN := Lib.hid hn
  have hmb : nlen m ≤ 4294967296 := by omega
  have hnb : nlen n ≤ 4294967296 := by omega
  have hnz : nlen n ≠ 0 := fun h' => h (nlen_eq_zero.1 h')
  clear hm hn
  obtain ⟨sa, ca, ka⟩ := ha.scap
  obtain ⟨sb, cb, kb⟩ := hb.scap
  go_enter Tryz.func85, Tryz.ntmps85
  go_wp2_with (first
    | (go_at_call 98; first | ((with_reducible refine (large_no va m _ ha HM.out).mono ?_); rintro e w' ⟨rfl, rfl⟩) | ((with_reducible refine (large_no vb n _ hb HN.out).mono ?_); rintro e w' ⟨rfl, rfl⟩))
    | (go_at_call 67; refine (length_any vb n _ hb).mono ?_; rintro e w' ⟨rfl, rfl⟩))
  go_region_with (first
    | (go_at_call 67; first | ((with_reducible refine (length_any va m _ ha.drew).mono ?_); rintro e w' ⟨rfl, rfl⟩) | ((with_reducible refine (length_any vb n _ hb.drew).mono ?_); rintro e w' ⟨rfl, rfl⟩))
    | (go_at_call 99; (with_reducible refine (divide_any _ _ m n _ ka.drew kb.drew h HM.out).mono ?_); rintro e w1 ⟨q, r, rfl, hq, hr, hbl⟩))
  go_wp2
  go_ret3
  exact ⟨q, r, rfl, hq, hr, (below_drew w).trans hbl⟩

set_option maxHeartbeats 800000 in
theorem bits_any (v : Value) (n : Nat) (w : World) (h : NatN w v n) :
    Calls Tryz.prog 43 #[v] w fun e w' => e = .returned (.int .i64 (nbits n)) ∧ w' = w := by
  have hln := h.len_le
  by_cases hn : n = 0
  · have hz : nlen n = 0 := nlen_eq_zero.2 hn
    have hb : nbits n = 0 := nbits_eq_zero.2 hn
    have HB := Lib.hid hb
    clear hln hn hb
    go_enter Tryz.func43, Tryz.ntmps43
    go_wp2_with (go_at_call 67; refine (length_any v n _ h).mono ?_; rintro e w' ⟨rfl, rfl⟩)
    go_ret
    exact ⟨by rw [HB.out]; rfl, rfl⟩
  · obtain ⟨t, ht1, ht2, ht3, ht4⟩ := limbs_top hn
    obtain ⟨sv, lv1, lv2⟩ := h.slen
    have hnl : 0 < nlen n := by have : nlen n ≠ 0 := fun h' => hn (nlen_eq_zero.1 h'); omega
    obtain ⟨htl, hte⟩ := List.getElem?_eq_some_iff.1 ht1
    have hc := (h.cells (nlen n - 1) (by omega)).trans (congrArg (fun x : Nat => some (Value.int .u32 (x : Nat))) hte)
    have HT := Lib.hid ht4
    have HN := Lib.hid hn
    have HT2 := Lib.hid ht2
    have htb : nbits t ≤ 32 := nbits_le.2 ht3
    have HB := Lib.hid htb
    clear hn ht1 ht2 ht4 htl hte htb
    obtain ⟨g, hg⟩ : ∃ g, nlen n = g + 1 := ⟨nlen n - 1, by omega⟩
    have hg1 : nlen n - 1 = g := by omega
    rw [hg1] at hc HT
    rw [hg] at lv1 hln
    have HG := Lib.hid hg
    clear hg hg1 hnl
    go_enter Tryz.func43, Tryz.ntmps43
    go_wp2_with (go_at_call 67; refine (length_any v n _ h).mono ?_; rintro e w' ⟨rfl, rfl⟩; rw [HG.out])
    go_loopw [4, 5] (fun u4 u5 wr => ∃ (k y : Nat), u4 = .int .i64 k ∧ u5 = .int .u32 y ∧ y < 4294967296 ∧ k + nbits y = 32 * g + nbits t ∧ wr = w) (fun _ u5 _ => (intOf u5).toNat)
    case atStart => exact ⟨32 * g, t, by go_num, rfl, ht3, rfl, rfl⟩
    case round =>
      obtain ⟨k, y, rfl, rfl, hy, hky, rfl⟩ := hrel
      have hk : k ≤ 137438953504 := by have := HB.out; omega
      by_cases hy0 : 0 < y
      · have HK := Lib.hid hky
        clear hky
        have hy2 : y / 2 < y := by omega
        go_wp2
        go_roundw
        case rel => exact ⟨k + 1, y / 2, by go_num, by go_num, by omega, by have := HK.out; have := nbits_half (n := y) (by omega); omega, trivial⟩
        case measure => simp [intOf]; omega
      · obtain rfl : y = 0 := by omega
        have hfin : nbits n = k := by rw [HT.out, ← hky, nbits_zero, Nat.add_zero]
        have HF := Lib.hid hfin
        clear hfin hky hy0
        go_wp2
        go_ret
        exact ⟨by rw [HF.out]; rfl, rfl⟩

theorem NatC.inj {w : World} {v : Value} {m n : Nat} (h : NatC w v m) (h' : NatC w v n) : m = n := by
  have h1 := h.v.len
  rw [h'.v.len] at h1
  apply limbs_inj
  apply List.ext_getElem h1.symm
  intro j j1 j2
  have e1 := h.v.cell j j1
  rw [h'.v.cell j j2] at e1
  injection e1 with e1
  injection e1 with e1 e2
  exact_mod_cast e2.symm
open Classical in
/-- The number that v reads as. -/
noncomputable def natOf (w : World) (v : Value) : Nat := if h : ∃ n, NatC w v n then h.choose else 0
theorem natOf_eq {w : World} {v : Value} {n : Nat} (h : NatC w v n) : natOf w v = n := by
  have h2 : ∃ n, NatC w v n := ⟨n, h⟩
  unfold natOf
  rw [dif_pos h2]
  exact h2.choose_spec.inj h
/-- A new number with OK. -/
def RNat0 (w0 : World) (n : Nat) (e : Ending) (w : World) : Prop := ∃ r, e = .returned (.tuple #[r, .int .i64 0]) ∧ NatC w r n ∧ Below w0.heap.size w0 w
set_option maxHeartbeats 800000 in
theorem gcd_any (va vb : Value) (m n : Nat) (w : World) (ha : NatN w va m) (hb : NatN w vb n) (hm : nlen m ≤ 512) (hn : nlen n ≤ 512) :
    Calls Tryz.prog 84 #[va, vb] w (RNat0 w (Nat.gcd m n)) := by
  have HM := Lib.hid hm
  have HN := Lib.hid hn
  have hmb : nlen m ≤ 4294967296 := by omega
  have hnb : nlen n ≤ 4294967296 := by omega
  clear hm hn
  go_enter Tryz.func84, Tryz.ntmps84
  go_wp2_with (first
    | (go_at_call 98; first | ((with_reducible refine (large_no va m _ ha HM.out).mono ?_); rintro e w' ⟨rfl, rfl⟩) | ((with_reducible refine (large_no vb n _ hb HN.out).mono ?_); rintro e w' ⟨rfl, rfl⟩))
    | (go_at_call 86; first
      | ((with_reducible refine (trim_any va m _ ha).mono ?_); rintro e w1 ⟨ra, rfl, hra, hb1⟩)
      | ((with_reducible refine (trim_any vb n _ (hb.below hb1)).mono ?_); rintro e w2 ⟨rb, rfl, hrb, hb2⟩)))
  have hra2 := hra.below hb2
  have hbw := hb1.trans (hb2.mono hb1.size)
  go_loopw [0, 1] (fun u0 u1 wr => ∃ (x y : Nat), NatC wr u0 x ∧ NatC wr u1 y ∧ nlen x ≤ 512 ∧ nlen y ≤ 512 ∧ Nat.gcd x y = Nat.gcd m n ∧ Below w.heap.size w wr) (fun _ u1 wr => natOf wr u1)
  case atStart => exact ⟨m, n, hra2, hrb, HM.out, HN.out, rfl, hbw⟩
  case round =>
    obtain ⟨x, y, hx, hy, hx5, hy5, hg, hbr⟩ := hrel
    clear ha hb hra hrb hra2 hb1 hb2 hbw
    obtain ⟨sx, lx⟩ : IsSl u0 ∧ slen u0 = nlen x := ⟨hx.v.sl, hx.v.len⟩
    obtain ⟨sy, ly⟩ : IsSl u1 ∧ slen u1 = nlen y := ⟨hy.v.sl, hy.v.len⟩
    have HX := Lib.hid hx5
    have HY := Lib.hid hy5
    have HG := Lib.hid hg
    have hxb : nlen x ≤ 4294967296 := by omega
    have hyb : nlen y ≤ 4294967296 := by omega
    clear hx5 hy5 hg
    by_cases hy0 : y = 0
    · have hyz : nlen y = 0 := nlen_eq_zero.2 hy0
      have hfin : x = Nat.gcd m n := by rw [← HG.out, hy0, Nat.gcd_zero_right]
      have HF := Lib.hid hfin
      clear hfin hy0
      go_wp2
      go_ret2
      exact ⟨_, rfl, HF.out ▸ hx, hbr⟩
    · have hyz : 0 < nlen y := by have : nlen y ≠ 0 := fun h' => hy0 (nlen_eq_zero.1 h'); omega
      have HY0 := Lib.hid hy0
      clear hy0
      go_wp2_with (go_at_call 99; (with_reducible refine (divide_any _ _ x y _ hx hy HY0.out HX.out).mono ?_); rintro e w3 ⟨q, r, rfl, hq, hr, hbl⟩)
      have hy3 := hy.below hbl
      have hbr3 := hbr.trans (hbl.mono hbr.size)
      go_wp2
      go_roundw
      case rel => exact ⟨y, x % y, hy3, hr, HY.out, Nat.le_trans (nlen_mono (Nat.le_of_lt (Nat.mod_lt _ (Nat.pos_of_ne_zero HY0.out)))) HY.out, by rw [← HG.out, Nat.gcd_comm y, ← Nat.gcd_rec, Nat.gcd_comm], hbr3⟩
      case measure => rw [natOf_eq hr, natOf_eq hy]; exact Nat.mod_lt _ (Nat.pos_of_ne_zero HY0.out)
end Go.Proofs.YtbhkibilnmoljaaGreat
