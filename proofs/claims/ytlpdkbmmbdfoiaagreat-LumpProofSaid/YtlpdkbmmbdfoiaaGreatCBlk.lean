/-
  Variables of three cells (a fraction, a chain).
  Ahead of it: Binary digits. package natural: divide, Div, Gcd, Bits. package natural: Mul. Fractions as rational numbers.
-/
import Derived.Test.YtlpdkbmmbdfoiaaGreatCMath4
import Derived.Test.YtlpdkbmmbdfoiaaGreatCNa8
import Derived.Test.YtlpdkbmmbdfoiaaGreatCMath2
import Derived.Test.YtlpdkbmmbdfoiaaGreatCOwn
import Derived.Laws.ResultCell
namespace Go.Proofs.YtlpdkbmmbdfoiaaGreat
/-- The number of binary digits of n. -/
def nbits (n : Nat) : Nat := if n = 0 then 0 else n.log2 + 1
theorem nbits_zero : nbits 0 = 0 := rfl
theorem nbits_le {n k : Nat} : nbits n ≤ k ↔ n < 2 ^ k := by
  unfold nbits
  split
  · next h => subst h; exact ⟨fun _ => Nat.pow_pos (by decide), fun _ => Nat.zero_le _⟩
  · next h => rw [← Nat.log2_lt h]; omega
theorem nbits_half {n : Nat} (h : n ≠ 0) : nbits n = nbits (n / 2) + 1 := by
  unfold nbits
  rw [if_neg h, Nat.log2_def]
  by_cases h2 : 2 ≤ n
  · rw [if_pos h2, if_neg (by omega)]
  · rw [if_neg h2, if_pos (by omega)]
theorem nbits_pos {n : Nat} : 0 < nbits n ↔ n ≠ 0 := by
  unfold nbits; split <;> omega
theorem nbits_eq_zero {n : Nat} : nbits n = 0 ↔ n = 0 := by
  unfold nbits; split <;> omega
theorem nbits_gt_one {n : Nat} : 1 < nbits n ↔ 1 < n := by
  have : nbits n ≤ 1 ↔ n < 2 := nbits_le
  omega
theorem pw_two (k : Nat) : pw k = 2 ^ (32 * k) := by unfold pw; rw [Nat.pow_mul]
theorem shift_lt {a P t Q : Nat} (h : a < P) : a + P * t < P * Q ↔ t < Q := by
  constructor
  · intro h1
    apply Nat.lt_of_not_le
    intro h2
    have := Nat.mul_le_mul_left P h2
    omega
  · intro h1
    have h2 : P * (t + 1) ≤ P * Q := Nat.mul_le_mul_left P h1
    rw [Nat.mul_add] at h2
    omega
theorem nbits_add {a k t : Nat} (h : a < 2 ^ k) (ht : t ≠ 0) : nbits (a + 2 ^ k * t) = k + nbits t := by
  have hj : ∀ j, nbits (a + 2 ^ k * t) ≤ j ↔ k + nbits t ≤ j := by
    intro j
    have hp := nbits_pos.2 ht
    rcases Nat.lt_or_ge j k with h1 | h1
    · constructor
      · intro h2
        have h3 := nbits_le.1 h2
        have h4 : 2 ^ j ≤ 2 ^ k := Nat.pow_le_pow_right (by decide) (by omega)
        have h5 : 2 ^ k * 1 ≤ 2 ^ k * t := Nat.mul_le_mul_left _ (Nat.pos_of_ne_zero ht)
        generalize 2 ^ k = K at *
        generalize 2 ^ j = J at *
        generalize K * t = Z at *
        omega
      · intro h2; omega
    · obtain ⟨i, rfl⟩ : ∃ i, j = k + i := ⟨j - k, by omega⟩
      rw [nbits_le, Nat.pow_add, shift_lt h, ← nbits_le]
      omega
  have h1 := (hj _).1 (Nat.le_refl _)
  have h2 := (hj _).2 (Nat.le_refl _)
  omega
theorem limbs_top {n : Nat} (h : n ≠ 0) : ∃ t, (limbs n)[nlen n - 1]? = some t ∧ t ≠ 0 ∧ t < 4294967296 ∧ nbits n = 32 * (nlen n - 1) + nbits t := by
  have hl : nlen n ≠ 0 := fun h' => h (nlen_eq_zero.1 h')
  have hlt : nlen n - 1 < (limbs n).length := by unfold nlen at *; omega
  refine ⟨_, List.getElem?_eq_getElem hlt, ?_⟩
  have hc := clen_limbs n
  have ht : (limbs n)[nlen n - 1] ≠ 0 := by
    intro h0
    have e := clen_take_zero (limbs n) (nlen n - 1) hlt h0
    have e2 : nlen n - 1 + 1 = (limbs n).length := by unfold nlen at *; omega
    rw [e2, List.take_length, hc] at e
    have := clen_le ((limbs n).take (nlen n - 1))
    rw [← e, List.length_take] at this
    omega
  refine ⟨ht, lm_limbs n _ (List.getElem_mem _), ?_⟩
  have e := val_split (limbs n) (nlen n - 1) hlt
  have e2 : nlen n - 1 + 1 = (limbs n).length := by unfold nlen at *; omega
  have e3 : val ((limbs n).drop (nlen n - 1 + 1)) = 0 := by rw [e2, List.drop_length]; rfl
  rw [e3, Nat.mul_zero, Nat.add_zero, val_limbs, pw_two] at e
  have hlo : val ((limbs n).take (nlen n - 1)) < 2 ^ (32 * (nlen n - 1)) := by
    have := val_lt (show Lm ((limbs n).take (nlen n - 1)) from fun x hx => lm_limbs n x (List.mem_of_mem_take hx))
    rw [List.length_take, Nat.min_eq_left (by omega), pw_two] at this
    exact this
  generalize (limbs n)[nlen n - 1] = t at *
  generalize val ((limbs n).take (nlen n - 1)) = a at *
  have := nbits_add hlo ht
  rw [← e] at this
  exact this
end Go.Proofs.YtlpdkbmmbdfoiaaGreat
namespace Go.Proofs.YtlpdkbmmbdfoiaaGreat
set_option linter.unusedVariables false
set_option linter.unusedSimpArgs false
open Go.RowKit

theorem divide_any (va vb : Value) (m n : Nat) (w : World) (ha : NatC w va m) (hb : NatC w vb n) (hn : n ≠ 0) (hm : nlen m ≤ 512) :
    Calls Tryz.prog 215 #[va, vb] w (RDiv w m n) := by
  rcases Nat.lt_or_ge m n with h | h
  · exact divide_less va vb m n w ha hb h
  · have h0 : nlen n ≠ 0 := fun h' => hn (nlen_eq_zero.1 h')
    rcases Nat.lt_or_ge (nlen n) 2 with h2 | h2
    · exact divide_short va vb m n w ha hb h (by omega) hm
    · exact divide_long va vb m n w ha hb h h2 hm

def RDiv2 (w0 : World) (m n : Nat) (e : Ending) (w : World) : Prop :=
  ∃ q r, e = .returned (.tuple #[q, r, .int .i64 0]) ∧ NatC w q (m / n) ∧ NatC w r (m % n) ∧ Below w0.heap.size w0 w

set_option maxHeartbeats 800000 in
theorem div_any (va vb : Value) (m n : Nat) (w : World) (ha : NatN w va m) (hb : NatN w vb n) (h : n ≠ 0) (hm : nlen m ≤ 512) (hn : nlen n ≤ 512) :
    Calls Tryz.prog 193 #[va, vb] w (RDiv2 w m n) := by
  have HM := Lib.hid hm
  have HN := Lib.hid hn
  have hmb : nlen m ≤ 4294967296 := by omega
  have hnb : nlen n ≤ 4294967296 := by omega
  have hnz : nlen n ≠ 0 := fun h' => h (nlen_eq_zero.1 h')
  clear hm hn
  obtain ⟨sa, ca, ka⟩ := ha.scap
  obtain ⟨sb, cb, kb⟩ := hb.scap
  go_enter Tryz.func193, Tryz.ntmps193
  go_wp2_with (first
    | (go_at_call 200; first | ((with_reducible refine (large_no va m _ ha HM.out).mono ?_); rintro e w' ⟨rfl, rfl⟩) | ((with_reducible refine (large_no vb n _ hb HN.out).mono ?_); rintro e w' ⟨rfl, rfl⟩))
    | (go_at_call 198; refine (length_any vb n _ hb).mono ?_; rintro e w' ⟨rfl, rfl⟩))
  go_region_with (first
    | (go_at_call 198; first | ((with_reducible refine (length_any va m _ ha.drew).mono ?_); rintro e w' ⟨rfl, rfl⟩) | ((with_reducible refine (length_any vb n _ hb.drew).mono ?_); rintro e w' ⟨rfl, rfl⟩))
    | (go_at_call 215; (with_reducible refine (divide_any _ _ m n _ ka.drew kb.drew h HM.out).mono ?_); rintro e w1 ⟨q, r, rfl, hq, hr, hbl⟩))
  go_wp2
  go_ret3
  exact ⟨q, r, rfl, hq, hr, (below_drew w).trans hbl⟩

set_option maxHeartbeats 800000 in
theorem bits_any (v : Value) (n : Nat) (w : World) (h : NatN w v n) :
    Calls Tryz.prog 156 #[v] w fun e w' => e = .returned (.int .i64 (nbits n)) ∧ w' = w := by
  have hln := h.len_le
  by_cases hn : n = 0
  · have hz : nlen n = 0 := nlen_eq_zero.2 hn
    have hb : nbits n = 0 := nbits_eq_zero.2 hn
    have HB := Lib.hid hb
    clear hln hn hb
    go_enter Tryz.func156, Tryz.ntmps156
    go_wp2_with (go_at_call 198; refine (length_any v n _ h).mono ?_; rintro e w' ⟨rfl, rfl⟩)
    go_ret
    exact ⟨by rw [HB.out]; rfl, rfl⟩
  · obtain ⟨t, ht1, ht2, ht3, ht4⟩ := limbs_top hn
    obtain ⟨sv, lv1, lv2⟩ := h.slen
    have hnl : 0 < nlen n := by have : nlen n ≠ 0 := fun h' => hn (nlen_eq_zero.1 h'); omega
    obtain ⟨htl, hte⟩ := List.getElem?_eq_some_iff.1 ht1
    have hc := (h.cells (nlen n - 1) (by omega)).trans (congrArg (fun x : Nat => some (Value.int .u32 (x : Nat))) hte)
    have HT := Lib.hid ht4
    have HN := Lib.hid hn
    have HT2 := Lib.hid ht2
    have htb : nbits t ≤ 32 := nbits_le.2 ht3
    have HB := Lib.hid htb
    clear hn ht1 ht2 ht4 htl hte htb
    obtain ⟨g, hg⟩ : ∃ g, nlen n = g + 1 := ⟨nlen n - 1, by omega⟩
    have hg1 : nlen n - 1 = g := by omega
    rw [hg1] at hc HT
    rw [hg] at lv1 hln
    have HG := Lib.hid hg
    clear hg hg1 hnl
    go_enter Tryz.func156, Tryz.ntmps156
    go_wp2_with (go_at_call 198; refine (length_any v n _ h).mono ?_; rintro e w' ⟨rfl, rfl⟩; rw [HG.out])
    go_loopw [4, 5] (fun u4 u5 wr => ∃ (k y : Nat), u4 = .int .i64 k ∧ u5 = .int .u32 y ∧ y < 4294967296 ∧ k + nbits y = 32 * g + nbits t ∧ wr = w) (fun _ u5 _ => (intOf u5).toNat)
    case atStart => exact ⟨32 * g, t, by go_num, rfl, ht3, rfl, rfl⟩
    case round =>
      obtain ⟨k, y, rfl, rfl, hy, hky, rfl⟩ := hrel
      have hk : k ≤ 137438953504 := by have := HB.out; omega
      by_cases hy0 : 0 < y
      · have HK := Lib.hid hky
        clear hky
        have hy2 : y / 2 < y := by omega
        go_wp2
        go_roundw
        case rel => exact ⟨k + 1, y / 2, by go_num, by go_num, by omega, by have := HK.out; have := nbits_half (n := y) (by omega); omega, trivial⟩
        case measure => simp [intOf]; omega
      · obtain rfl : y = 0 := by omega
        have hfin : nbits n = k := by rw [HT.out, ← hky, nbits_zero, Nat.add_zero]
        have HF := Lib.hid hfin
        clear hfin hky hy0
        go_wp2
        go_ret
        exact ⟨by rw [HF.out]; rfl, rfl⟩

theorem NatC.inj {w : World} {v : Value} {m n : Nat} (h : NatC w v m) (h' : NatC w v n) : m = n := by
  have h1 := h.v.len
  rw [h'.v.len] at h1
  apply limbs_inj
  apply List.ext_getElem h1.symm
  intro j j1 j2
  have e1 := h.v.cell j j1
  rw [h'.v.cell j j2] at e1
  injection e1 with e1
  injection e1 with e1 e2
  exact_mod_cast e2.symm
open Classical in
/-- The number that v reads as. -/
noncomputable def natOf (w : World) (v : Value) : Nat := if h : ∃ n, NatC w v n then h.choose else 0
theorem natOf_eq {w : World} {v : Value} {n : Nat} (h : NatC w v n) : natOf w v = n := by
  have h2 : ∃ n, NatC w v n := ⟨n, h⟩
  unfold natOf
  rw [dif_pos h2]
  exact h2.choose_spec.inj h
/-- A new number with OK. -/
def RNat0 (w0 : World) (n : Nat) (e : Ending) (w : World) : Prop := ∃ r, e = .returned (.tuple #[r, .int .i64 0]) ∧ NatC w r n ∧ Below w0.heap.size w0 w
set_option maxHeartbeats 800000 in
theorem gcd_any (va vb : Value) (m n : Nat) (w : World) (ha : NatN w va m) (hb : NatN w vb n) (hm : nlen m ≤ 512) (hn : nlen n ≤ 512) :
    Calls Tryz.prog 192 #[va, vb] w (RNat0 w (Nat.gcd m n)) := by
  have HM := Lib.hid hm
  have HN := Lib.hid hn
  have hmb : nlen m ≤ 4294967296 := by omega
  have hnb : nlen n ≤ 4294967296 := by omega
  clear hm hn
  go_enter Tryz.func192, Tryz.ntmps192
  go_wp2_with (first
    | (go_at_call 200; first | ((with_reducible refine (large_no va m _ ha HM.out).mono ?_); rintro e w' ⟨rfl, rfl⟩) | ((with_reducible refine (large_no vb n _ hb HN.out).mono ?_); rintro e w' ⟨rfl, rfl⟩))
    | (go_at_call 194; first
      | ((with_reducible refine (trim_any va m _ ha).mono ?_); rintro e w1 ⟨ra, rfl, hra, hb1⟩)
      | ((with_reducible refine (trim_any vb n _ (hb.below hb1)).mono ?_); rintro e w2 ⟨rb, rfl, hrb, hb2⟩)))
  have hra2 := hra.below hb2
  have hbw := hb1.trans (hb2.mono hb1.size)
  go_loopw [0, 1] (fun u0 u1 wr => ∃ (x y : Nat), NatC wr u0 x ∧ NatC wr u1 y ∧ nlen x ≤ 512 ∧ nlen y ≤ 512 ∧ Nat.gcd x y = Nat.gcd m n ∧ Below w.heap.size w wr) (fun _ u1 wr => natOf wr u1)
  case atStart => exact ⟨m, n, hra2, hrb, HM.out, HN.out, rfl, hbw⟩
  case round =>
    obtain ⟨x, y, hx, hy, hx5, hy5, hg, hbr⟩ := hrel
    clear ha hb hra hrb hra2 hb1 hb2 hbw
    obtain ⟨sx, lx⟩ : IsSl u0 ∧ slen u0 = nlen x := ⟨hx.v.sl, hx.v.len⟩
    obtain ⟨sy, ly⟩ : IsSl u1 ∧ slen u1 = nlen y := ⟨hy.v.sl, hy.v.len⟩
    have HX := Lib.hid hx5
    have HY := Lib.hid hy5
    have HG := Lib.hid hg
    have hxb : nlen x ≤ 4294967296 := by omega
    have hyb : nlen y ≤ 4294967296 := by omega
    clear hx5 hy5 hg
    by_cases hy0 : y = 0
    · have hyz : nlen y = 0 := nlen_eq_zero.2 hy0
      have hfin : x = Nat.gcd m n := by rw [← HG.out, hy0, Nat.gcd_zero_right]
      have HF := Lib.hid hfin
      clear hfin hy0
      go_wp2
      go_ret2
      exact ⟨_, rfl, HF.out ▸ hx, hbr⟩
    · have hyz : 0 < nlen y := by have : nlen y ≠ 0 := fun h' => hy0 (nlen_eq_zero.1 h'); omega
      have HY0 := Lib.hid hy0
      clear hy0
      go_wp2_with (go_at_call 215; (with_reducible refine (divide_any _ _ x y _ hx hy HY0.out HX.out).mono ?_); rintro e w3 ⟨q, r, rfl, hq, hr, hbl⟩)
      have hy3 := hy.below hbl
      have hbr3 := hbr.trans (hbl.mono hbr.size)
      go_wp2
      go_roundw
      case rel => exact ⟨y, x % y, hy3, hr, HY.out, Nat.le_trans (nlen_mono (Nat.le_of_lt (Nat.mod_lt _ (Nat.pos_of_ne_zero HY0.out)))) HY.out, by rw [← HG.out, Nat.gcd_comm y, ← Nat.gcd_rec, Nat.gcd_comm], hbr3⟩
      case measure => rw [natOf_eq hr, natOf_eq hy]; exact Nat.mod_lt _ (Nat.pos_of_ne_zero HY0.out)
end Go.Proofs.YtlpdkbmmbdfoiaaGreat
namespace Go.Proofs.YtlpdkbmmbdfoiaaGreat
set_option linter.unusedVariables false
set_option linter.unusedSimpArgs false
open Go.RowKit

set_option maxHeartbeats 800000 in
theorem mul_any (va vb : Value) (m n : Nat) (w : World) (ha : NatN w va m) (hb : NatN w vb n) (hm : nlen m ≤ 512) (hn : nlen n ≤ 512) :
    Calls Tryz.prog 199 #[va, vb] w (RSized w (m * n)) := by
  have HM := Lib.hid hm
  have HN := Lib.hid hn
  have hmb : nlen m ≤ 4294967296 := by omega
  have hnb : nlen n ≤ 4294967296 := by omega
  clear hm hn
  obtain ⟨sa, ca, ka⟩ := ha.scap
  obtain ⟨sb, cb, kb⟩ := hb.scap
  obtain ⟨i0, hi, hz0, hz1, hz2⟩ := info_parts Tryz.info102
  have hM := make_nat (P := Tryz.prog) 36 142 i0 Tryz.underlying36 hi hz0 hz1 hz2
  go_enter Tryz.func199, Tryz.ntmps199
  go_wp2_with (go_at_call 200; first | ((with_reducible refine (large_no va m _ ha HM.out).mono ?_); rintro e w' ⟨rfl, rfl⟩) | ((with_reducible refine (large_no vb n _ hb HN.out).mono ?_); rintro e w' ⟨rfl, rfl⟩))
  go_quiet ((go_at_call 198; first | with_reducible exact Calls.quiet_of_same ((length_any va m _ (ha.drawn _)).mono fun e w' ⟨h1, h2⟩ => ⟨h1, h2.symm⟩) | with_reducible exact Calls.quiet_of_same ((length_any vb n _ (hb.drawn _)).mono fun e w' ⟨h1, h2⟩ => ⟨h1, h2.symm⟩)))
  have l1 : slen (tk va (nlen m)) = nlen m := ka.1.len
  have l2 : slen (tk vb (nlen n)) = nlen n := kb.1.len
  have s1 := ka.1.sl
  have s2 := kb.1.sl
  clear ha hb sa sb ca cb
  generalize tk va (nlen m) = xa at *
  generalize tk vb (nlen n) = xb at *
  have kb' := kb.drawn nq
  have ka' := ka.drawn nq
  have hbel := below_drewN (B := w.heap.size) w nq
  generalize w.drewN nq = W at *
  clear ka kb
  have hroom : nlen m + nlen n ≤ 35184372088832 := by omega
  go_wp2_with (refine hM _ rfl _ _ rfl W.heap.size _ (nlen m + nlen n) rfl rfl rfl hroom (Nat.le_refl _) ?_; intro v w1 hown hb1 hvb)
  have hbw : Below w.heap.size w w1 := hbel.trans (hb1.mono hbel.size)
  clear hM
  go_loopw [34] (fun u34 wr => ∃ (k : Nat) (o : List Nat), k ≤ nlen m ∧ u34 = .int .i64 k ∧ OwnN wr 142 W.heap.size v o ∧ o.length = nlen m + nlen n ∧
      val (o.take (k + nlen n)) = val ((limbs m).take k) * n ∧ Below W.heap.size W wr) (fun u34 _ => nlen m - (intOf u34).toNat)
  case atStart => exact ⟨0, _, Nat.zero_le _, rfl, hown, by simp, by simp [val, val_replicate], hb1⟩
  case round =>
    obtain ⟨k, o, hk, rfl, hownr, hol, hval, hbr⟩ := hrel
    obtain ⟨wo, rfl⟩ : ∃ wo : World, wo = wr := ⟨_, rfl⟩
    have hcx := ((ka'.below hbr).1).cell
    have HV := Lib.hid hval
    clear hval
    by_cases hkp : k < nlen m
    · have hx := hcx k hkp
      have hx1 : (limbs m)[k]'hkp < 4294967296 := lm_limbs m _ (List.getElem_mem _)
      have HX := Lib.hid (val_take_succ (limbs m) k hkp)
      clear hcx
      generalize (limbs m)[k]'hkp = x at *
      go_wp2
      go_loopw [9, 41] (fun u9 u41 wi => ∃ (j c : Nat) (o : List Nat), j ≤ nlen n ∧ u41 = .int .i64 j ∧ u9 = .int .u64 c ∧ c < 4294967296 ∧ OwnN wi 142 W.heap.size v o ∧ o.length = nlen m + nlen n ∧
        val (o.take (k + nlen n)) + pw (k + j) * c = val ((limbs m).take k) * n + pw k * x * val ((limbs n).take j) ∧ Below W.heap.size W wi) (fun _ u41 _ => nlen n - (intOf u41).toNat)
      case atStart => exact ⟨0, 0, o, Nat.zero_le _, rfl, rfl, by omega, hownr, hol, by rw [HV.out]; simp [val], hbr⟩
      case round =>
        obtain ⟨j, c, p, hj, rfl, rfl, hc, hownp, hpl, hvp, hbi⟩ := hrel
        have HP := Lib.hid hvp
        clear hvp
        have sv := hownp.nat.sl
        have lv : slen v = nlen m + nlen n := by rw [hownp.nat.len, hpl]
        by_cases hjn : j < nlen n
        · have hy := ((kb'.below hbi).1).cell j hjn
          have hy1 : (limbs n)[j]'hjn < 4294967296 := lm_limbs n _ (List.getElem_mem _)
          have HY := Lib.hid (val_take_succ (limbs n) j hjn)
          have hfz := hownp.frozen (k + j) (by omega)
          have hco := hownp.nat.cell (k + j) (by omega)
          have hq1 : p[k + j]'(by omega) < 4294967296 := hownp.lm _ (List.getElem_mem _)
          have HST := fun (z c' : Nat) => Lib.hid (mul_step (o := p) (b := limbs n) (k := k) (j := j) (N := k + nlen n) (R := val ((limbs m).take k) * n) (c := c) (x := x) (z := z) (c' := c') (by omega) (by omega) HY.out HP.out)
          generalize (limbs n)[j]'hjn = y at *
          generalize hqe : p[k + j]'(by omega) = q at *
          obtain ⟨h0', hxy'⟩ := mul_boundI hx1 hy1
          have hT := (mul_bound hx1 hy1 hq1 hc).1
          have HT := Lib.hid hT
          clear hqe hT
          go_wp2
          have HT2 := HT.out
          have e := mul_cast c x y q
          generalize x * y + q + c = t at *
          have hset := hownp.set (k + j) (by omega) (t % 4294967296) (by omega)
          go_roundw
          case rel =>
            rw [e]
            have e2 : ((t : Nat) : Int) / 4294967296 = ((t / 4294967296 : Nat) : Int) := rfl
            rw [e2]
            exact ⟨j + 1, t / 4294967296, _, by omega, by go_num, rfl, div_lt_32 HT2, hset.1, by simp [hpl], (HST (t % 4294967296) (t / 4294967296)).out (by omega), hbi.trans hset.2⟩
          case measure => simp [intOf]; omega
        · obtain rfl : j = nlen n := by omega
          have hfz := hownp.frozen (k + nlen n) (by omega)
          have hco := hownp.nat.cell (k + nlen n) (by omega)
          have hset := hownp.set (k + nlen n) (by omega) c hc
          have hv2 := mul_end (o := p) (a := limbs m) (b := limbs n) (k := k) (n := n) (N := k + nlen n) (c := c) (x := x) (by omega) HX.out (val_limbs n) rfl HP.out
          have HV2 := Lib.hid hv2
          clear hv2
          go_wp2
          go_roundw
          case rel => exact ⟨k + 1, _, by omega, by go_num, hset.1, by simp [hpl], by rw [show k + 1 + nlen n = k + nlen n + 1 from by omega]; exact HV2.out, hbi.trans hset.2⟩
          case measure => simp [intOf]; omega
    · obtain rfl : k = nlen m := by omega
      clear hcx
      have hv2 : val o = m * n := by
        have e := HV.out
        rw [List.take_of_length_le (by omega), List.take_of_length_le (show nlen m ≤ nlen m from Nat.le_refl _), val_limbs] at e
        exact e
      have HS := Lib.hid (sized_any v _ _ hownr.nat (by rw [hol]; have := HM.out; have := HN.out; omega))
      have HV2 := Lib.hid hv2
      clear hv2 HV
      go_wp2_with (go_at_call 201; refine HS.out.mono ?_; rintro e w' ⟨r, er, rfl, hr, hbl⟩)
      go_ret2
      rw [HV2.out] at hr
      exact ⟨r, er, rfl, hr, hbel.trans ((hbr.trans (hbl.mono hbr.size)).mono hbel.size)⟩
end Go.Proofs.YtlpdkbmmbdfoiaaGreat
namespace Go.Proofs.YtlpdkbmmbdfoiaaGreat
/-- A number with a sign. -/
def sgn (neg : Bool) (n : Nat) : Int := if neg then -(n : Int) else n
/-- The fraction of a sign, a numerator and a denominator. -/
def fq (neg : Bool) (n d : Nat) : Rat := mkRat (sgn neg n) d
/-- Numerator and denominator have at most 128 limbs. -/
def fits (q : Rat) : Prop := nbits q.num.natAbs ≤ 4096 ∧ nbits q.den ≤ 4096
instance (q : Rat) : Decidable (fits q) := inferInstanceAs (Decidable (_ ∧ _))
theorem sgn_natAbs (neg : Bool) (n : Nat) : (sgn neg n).natAbs = n := by unfold sgn; split <;> omega
theorem sgn_zero (neg : Bool) : sgn neg 0 = 0 := by unfold sgn; split <;> omega
theorem sgn_div (neg : Bool) (n g : Nat) (h : g ∣ n) : sgn neg n / (g : Int) = sgn neg (n / g) := by
  unfold sgn
  split
  · rw [Int.neg_ediv_of_dvd (Int.natCast_dvd_natCast.2 h)]; simp
  · simp
theorem fq_num (neg : Bool) (n d : Nat) (hd : d ≠ 0) : (fq neg n d).num = sgn neg (n / Nat.gcd n d) := by
  unfold fq
  rw [Rat.num_mkRat, if_neg hd, sgn_natAbs, Nat.gcd_comm, sgn_div _ _ _ (Nat.gcd_dvd_left n d)]
theorem fq_den (neg : Bool) (n d : Nat) (hd : d ≠ 0) : (fq neg n d).den = d / Nat.gcd n d := by
  unfold fq
  rw [Rat.den_mkRat, if_neg hd, sgn_natAbs, Nat.gcd_comm]
theorem fq_natAbs (neg : Bool) (n d : Nat) (hd : d ≠ 0) : (fq neg n d).num.natAbs = n / Nat.gcd n d := by
  rw [fq_num _ _ _ hd, sgn_natAbs]
theorem rat_neg_iff (q : Rat) : q < 0 ↔ q.num < 0 := by
  have := Rat.num_nonneg (q := q)
  rw [← Rat.not_le, ← this]; omega
theorem sgn_neg_iff (neg : Bool) (n : Nat) : sgn neg n < 0 ↔ neg = true ∧ 0 < n := by
  unfold sgn; cases neg <;> simp <;> omega
theorem fq_neg (neg : Bool) (n d : Nat) (hd : d ≠ 0) : decide (fq neg n d < 0) = (neg && decide (0 < n / Nat.gcd n d)) := by
  have : fq neg n d < 0 ↔ neg = true ∧ 0 < n / Nat.gcd n d := by rw [rat_neg_iff, fq_num _ _ _ hd, sgn_neg_iff]
  by_cases h : fq neg n d < 0
  · obtain ⟨h1, h2⟩ := this.1 h
    rw [decide_eq_true h, decide_eq_true h2, h1]; rfl
  · have h2 : ¬ (neg = true ∧ 0 < n / Nat.gcd n d) := fun h' => h (this.2 h')
    rw [decide_eq_false h]
    cases neg
    · simp
    · have : ¬ 0 < n / Nat.gcd n d := fun h' => h2 ⟨rfl, h'⟩
      simp only [Bool.true_and, decide_eq_false this]
theorem fq_self (q : Rat) : fq (decide (q < 0)) q.num.natAbs q.den = q := by
  unfold fq
  have : sgn (decide (q < 0)) q.num.natAbs = q.num := by
    unfold sgn
    have := rat_neg_iff q
    split
    · next h => have := this.1 (by simpa using h); omega
    · next h => have h2 : ¬ q < 0 := by simpa using h
                have : ¬ q.num < 0 := fun h' => h2 (this.2 h')
                omega
  rw [this, Rat.mkRat_self]
theorem fq_add (s t : Bool) (a b c d : Nat) (hb : b ≠ 0) (hd : d ≠ 0) : fq s a b + fq t c d = mkRat (sgn s (a * d) + sgn t (c * b)) (b * d) := by
  unfold fq
  rw [Rat.mkRat_add_mkRat _ _ hb hd]
  congr 2
  · unfold sgn; split <;> simp [Int.neg_mul]
  · unfold sgn; split <;> simp [Int.neg_mul]
theorem fq_add_same (s : Bool) (a b c d : Nat) (hb : b ≠ 0) (hd : d ≠ 0) : fq s a b + fq s c d = fq s (a * d + c * b) (b * d) := by
  rw [fq_add _ _ _ _ _ _ hb hd]
  unfold fq sgn
  congr 1
  split <;> omega
theorem fq_add_ge (s t : Bool) (a b c d : Nat) (hb : b ≠ 0) (hd : d ≠ 0) (hst : (s == t) = false) (h : c * b ≤ a * d) : fq s a b + fq t c d = fq s (a * d - c * b) (b * d) := by
  rw [fq_add _ _ _ _ _ _ hb hd]
  unfold fq sgn
  congr 1
  cases s <;> cases t <;> simp at hst ⊢ <;> omega
theorem fq_add_lt (s t : Bool) (a b c d : Nat) (hb : b ≠ 0) (hd : d ≠ 0) (hst : (s == t) = false) (h : a * d ≤ c * b) : fq s a b + fq t c d = fq t (c * b - a * d) (b * d) := by
  rw [fq_add _ _ _ _ _ _ hb hd]
  unfold fq sgn
  congr 1
  cases s <;> cases t <;> simp at hst ⊢ <;> omega
theorem fq_mul (s t : Bool) (a b c d : Nat) : fq s a b * fq t c d = fq (s != t) (a * c) (b * d) := by
  unfold fq
  rw [Rat.mkRat_mul_mkRat]
  congr 1
  unfold sgn
  cases s <;> cases t <;> simp [Int.neg_mul, Int.mul_neg]
theorem nbits_nlen {n k : Nat} (h : nbits n ≤ 32 * k) : nlen n ≤ k := by
  rw [nlen_le, pw_two]; exact nbits_le.1 h
theorem nlen_nbits {n k : Nat} (h : nlen n ≤ k) : nbits n ≤ 32 * k := by
  rw [nlen_le, pw_two] at h; exact nbits_le.2 h
theorem nbits_mono {m n : Nat} (h : m ≤ n) : nbits m ≤ nbits n := nbits_le.2 (Nat.lt_of_le_of_lt h (nbits_le.1 (Nat.le_refl _)))
theorem nbits_mul {m n : Nat} {j k : Nat} (hm : nbits m ≤ j) (hn : nbits n ≤ k) : nbits (m * n) ≤ j + k := by
  rw [nbits_le] at *
  rw [Nat.pow_add]
  exact Nat.mul_lt_mul'' hm hn
theorem nbits_sum {m n : Nat} {j : Nat} (hm : nbits m ≤ j) (hn : nbits n ≤ j) : nbits (m + n) ≤ j + 1 := by
  rw [nbits_le] at *
  rw [Nat.pow_succ]
  omega
end Go.Proofs.YtlpdkbmmbdfoiaaGreat
namespace Go.Proofs.YtlpdkbmmbdfoiaaGreat
set_option linter.unusedVariables false
set_option linter.unusedSimpArgs false
open Go.RowKit
/-- The block b is a variable of three cells. -/
structure C3 (w : World) (b : Nat) (v0 v1 v2 : Value) : Prop where
  lt : b < w.heap.size
  c0 : w.cell? ⟨b, 0, none⟩ = some v0
  c1 : w.cell? ⟨b, 1, none⟩ = some v1
  c2 : w.cell? ⟨b, 2, none⟩ = some v2
  f0 : w.frozen? ⟨b, 0, none⟩ = false
  f1 : w.frozen? ⟨b, 1, none⟩ = false
  f2 : w.frozen? ⟨b, 2, none⟩ = false
theorem C3.of {w : World} {b : Nat} {v0 v1 v2 : Value} {t : TypeId} (h : w.heap[b]? = some (.cells #[v0, v1, v2] t (0, 0))) : C3 w b v0 v1 v2 := by
  refine ⟨lt_of_block h, ?_, ?_, ?_, ?_, ?_, ?_⟩ <;> simp [World.cell?, World.frozen?, h]
theorem C3.new (w : World) (t : TypeId) (v0 v1 v2 : Value) : C3 (w.alloc (.cells #[v0, v1, v2] t)) w.heap.size v0 v1 v2 :=
  C3.of (t := t) (by show (w.heap.push _)[w.heap.size]? = _; simp)
theorem C3.below {w w' : World} {B b : Nat} {v0 v1 v2 : Value} (h : C3 w b v0 v1 v2) (hb : Below B w w') (hB : b < B) : C3 w' b v0 v1 v2 :=
  ⟨Nat.lt_of_lt_of_le h.lt hb.size, by rw [hb.cell hB]; exact h.c0, by rw [hb.cell hB]; exact h.c1, by rw [hb.cell hB]; exact h.c2, by rw [hb.frozen hB]; exact h.f0, by rw [hb.frozen hB]; exact h.f1, by rw [hb.frozen hB]; exact h.f2⟩
theorem C3.belowS {w w' : World} {b : Nat} {v0 v1 v2 : Value} (h : C3 w b v0 v1 v2) (hb : Below w.heap.size w w') : C3 w' b v0 v1 v2 := h.below hb h.lt
theorem C3.set {w : World} {b : Nat} {v0 v1 v2 : Value} (h : C3 w b v0 v1 v2) (u0 u1 u2 : Value) : C3 (((w.setCell ⟨b, 0, none⟩ u0).setCell ⟨b, 1, none⟩ u1).setCell ⟨b, 2, none⟩ u2) b u0 u1 u2 := by
  obtain ⟨lt, c0, c1, c2, f0, f1, f2⟩ := h
  refine ⟨by simpa [World.setCell] using lt, ?_, ?_, ?_, ?_, ?_, ?_⟩ <;> go_simp
theorem below_set3 {w0 w : World} {B b : Nat} (h : Below B w0 w) (hb : B ≤ b) (u0 u1 u2 : Value) : Below B w0 (((w.setCell ⟨b, 0, none⟩ u0).setCell ⟨b, 1, none⟩ u1).setCell ⟨b, 2, none⟩ u2) :=
  ((h.setCell (p := ⟨b, 0, none⟩) hb u0).setCell (p := ⟨b, 1, none⟩) hb u1).setCell (p := ⟨b, 2, none⟩) hb u2
theorem load_c3 {P : Program} {w : World} {b : Nat} {v0 v1 v2 : Value} {ty : TypeId} (hagg : ∀ w, (isAgg ty).run P w = .ok true w) (hs : ∀ w, (sizeOf ty).run P w = .ok 3 w) (h : C3 w b v0 v1 v2) :
    (loadVar ty ⟨b, 0, none⟩).run P w = .ok (.agg #[v0, v1, v2]) w := by
  obtain ⟨lt, c0, c1, c2, f0, f1, f2⟩ := h
  simp only [loadVar, Sem.run_bind, hagg, hs, Result.andThen_ok]
  go_simp
theorem bodyPost_c3 {P : Program} {fn : Func} {R : Ending → World → Prop} {a : Act} {w : World} {p u : Tmp} {ty : TypeId} {b : Nat} {v0 v1 v2 : Value} (h : fn.results = #[.cell p ty, .tmp u])
    (hp : a.tmps.getD p undef = .pointer (some ⟨b, 0, none⟩)) (hagg : ∀ w, (isAgg ty).run P w = .ok true w) (hs : ∀ w, (sizeOf ty).run P w = .ok 3 w) (hc : C3 w b v0 v1 v2) (hd : a.defers = [])
    (hR : R (.returned (.tuple #[.agg #[v0, v1, v2], a.tmps.getD u undef])) w) : bodyPost P fn R .ret a w := by
  refine bodyPost_ret ?_ hd hR
  rw [results_cell_tmp h, hp]
  simp only [asAddr, Sem.run_pure, Result.andThen_ok, load_c3 hagg hs hc]
end Go.Proofs.YtlpdkbmmbdfoiaaGreat
