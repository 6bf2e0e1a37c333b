/-
  package natural: Mul.
-/
import Derived.Test.YtoldfpkafcefnaaQNa2
namespace Go.Proofs.Ytoldfpkafcefnaa
set_option linter.unusedVariables false
set_option linter.unusedSimpArgs false
open Go.RowKit

set_option maxHeartbeats 800000 in
theorem mul_any (va vb : Value) (m n : Nat) (w : World) (ha : NatN w va m) (hb : NatN w vb n) (hm : nlen m ≤ 512) (hn : nlen n ≤ 512) :
    Calls Try.prog 89 #[va, vb] w (RSized w (m * n)) := by
  have HM := Lib.hid hm
  have HN := Lib.hid hn
  have hmb : nlen m ≤ 4294967296 := by omega
  have hnb : nlen n ≤ 4294967296 := by omega
  clear hm hn
  obtain ⟨sa, ca, ka⟩ := ha.scap
  obtain ⟨sb, cb, kb⟩ := hb.scap
  obtain ⟨i0, hi, hz0, hz1, hz2⟩ := info_parts Try.info102
  have hM := make_nat (P := Try.prog) 48 102 i0 Try.underlying48 hi hz0 hz1 hz2
  go_enter Try.func89, Try.ntmps89
  go_wp2_with (go_at_call 90; first | ((with_reducible refine (large_no va m _ ha HM.out).mono ?_); rintro e w' ⟨rfl, rfl⟩) | ((with_reducible refine (large_no vb n _ hb HN.out).mono ?_); rintro e w' ⟨rfl, rfl⟩))
  go_quiet ((go_at_call 88; first | with_reducible exact Calls.quiet_of_same ((length_any va m _ (ha.drawn _)).mono fun e w' ⟨h1, h2⟩ => ⟨h1, h2.symm⟩) | with_reducible exact Calls.quiet_of_same ((length_any vb n _ (hb.drawn _)).mono fun e w' ⟨h1, h2⟩ => ⟨h1, h2.symm⟩)))
  have l1 : slen (tk va (nlen m)) = nlen m := ka.1.len
  have l2 : slen (tk vb (nlen n)) = nlen n := kb.1.len
  have s1 := ka.1.sl
  have s2 := kb.1.sl
  clear ha hb sa sb ca cb
  generalize tk va (nlen m) = xa at *
  generalize tk vb (nlen n) = xb at *
  have kb' := kb.drawn nq
  have ka' := ka.drawn nq
  have hbel := below_drewN (B := w.heap.size) w nq
  generalize w.drewN nq = W at *
  clear ka kb
  have hroom : nlen m + nlen n ≤ 35184372088832 := by omega
  go_wp2_with (refine hM _ rfl _ _ rfl W.heap.size _ (nlen m + nlen n) rfl rfl rfl hroom (Nat.le_refl _) ?_; intro v w1 hown hb1 hvb)
  have hbw : Below w.heap.size w w1 := hbel.trans (hb1.mono hbel.size)
  clear hM
  go_loopw [34] (fun u34 wr => ∃ (k : Nat) (o : List Nat), k ≤ nlen m ∧ u34 = .int .i64 k ∧ OwnN wr 102 W.heap.size v o ∧ o.length = nlen m + nlen n ∧
      val (o.take (k + nlen n)) = val ((limbs m).take k) * n ∧ Below W.heap.size W wr) (fun u34 _ => nlen m - (intOf u34).toNat)
  case atStart => exact ⟨0, _, Nat.zero_le _, rfl, hown, by simp, by simp [val, val_replicate], hb1⟩
  case round =>
    obtain ⟨k, o, hk, rfl, hownr, hol, hval, hbr⟩ := hrel
    obtain ⟨wo, rfl⟩ : ∃ wo : World, wo = wr := ⟨_, rfl⟩
    have hcx := ((ka'.below hbr).1).cell
    have HV := Lib.hid hval
    clear hval
    by_cases hkp : k < nlen m
    · have hx := hcx k hkp
      have hx1 : (limbs m)[k]'hkp < 4294967296 := lm_limbs m _ (List.getElem_mem _)
      have HX := Lib.hid (val_take_succ (limbs m) k hkp)
      clear hcx
      generalize (limbs m)[k]'hkp = x at *
      go_wp2
      go_loopw [9, 41] (fun u9 u41 wi => ∃ (j c : Nat) (o : List Nat), j ≤ nlen n ∧ u41 = .int .i64 j ∧ u9 = .int .u64 c ∧ c < 4294967296 ∧ OwnN wi 102 W.heap.size v o ∧ o.length = nlen m + nlen n ∧
        val (o.take (k + nlen n)) + pw (k + j) * c = val ((limbs m).take k) * n + pw k * x * val ((limbs n).take j) ∧ Below W.heap.size W wi) (fun _ u41 _ => nlen n - (intOf u41).toNat)
      case atStart => exact ⟨0, 0, o, Nat.zero_le _, rfl, rfl, by omega, hownr, hol, by rw [HV.out]; simp [val], hbr⟩
      case round =>
        obtain ⟨j, c, p, hj, rfl, rfl, hc, hownp, hpl, hvp, hbi⟩ := hrel
        have HP := Lib.hid hvp
        clear hvp
        have sv := hownp.nat.sl
        have lv : slen v = nlen m + nlen n := by rw [hownp.nat.len, hpl]
        by_cases hjn : j < nlen n
        · have hy := ((kb'.below hbi).1).cell j hjn
          have hy1 : (limbs n)[j]'hjn < 4294967296 := lm_limbs n _ (List.getElem_mem _)
          have HY := Lib.hid (val_take_succ (limbs n) j hjn)
          have hfz := hownp.frozen (k + j) (by omega)
          have hco := hownp.nat.cell (k + j) (by omega)
          have hq1 : p[k + j]'(by omega) < 4294967296 := hownp.lm _ (List.getElem_mem _)
          have HST := fun (z c' : Nat) => Lib.hid (mul_step (o := p) (b := limbs n) (k := k) (j := j) (N := k + nlen n) (R := val ((limbs m).take k) * n) (c := c) (x := x) (z := z) (c' := c') (by omega) (by omega) HY.out HP.out)
          generalize (limbs n)[j]'hjn = y at *
          generalize hqe : p[k + j]'(by omega) = q at *
          obtain ⟨h0', hxy'⟩ := mul_boundI hx1 hy1
          have hT := (mul_bound hx1 hy1 hq1 hc).1
          have HT := Lib.hid hT
          clear hqe hT
          go_wp2
          have HT2 := HT.out
          have e := mul_cast c x y q
          generalize x * y + q + c = t at *
          have hset := hownp.set (k + j) (by omega) (t % 4294967296) (by omega)
          go_roundw
          case rel =>
            rw [e]
            have e2 : ((t : Nat) : Int) / 4294967296 = ((t / 4294967296 : Nat) : Int) := rfl
            rw [e2]
            exact ⟨j + 1, t / 4294967296, _, by omega, by go_num, rfl, div_lt_32 HT2, hset.1, by simp [hpl], (HST (t % 4294967296) (t / 4294967296)).out (by omega), hbi.trans hset.2⟩
          case measure => simp [intOf]; omega
        · obtain rfl : j = nlen n := by omega
          have hfz := hownp.frozen (k + nlen n) (by omega)
          have hco := hownp.nat.cell (k + nlen n) (by omega)
          have hset := hownp.set (k + nlen n) (by omega) c hc
          have hv2 := mul_end (o := p) (a := limbs m) (b := limbs n) (k := k) (n := n) (N := k + nlen n) (c := c) (x := x) (by omega) HX.out (val_limbs n) rfl HP.out
          have HV2 := Lib.hid hv2
          clear hv2
          go_wp2
          go_roundw
          case rel => exact ⟨k + 1, _, by omega, by go_num, hset.1, by simp [hpl], by rw [show k + 1 + nlen n = k + nlen n + 1 from by omega]; exact HV2.out, hbi.trans hset.2⟩
          case measure => simp [intOf]; omega
    · obtain rfl : k = nlen m := by omega
      clear hcx
      have hv2 : val o = m * n := by
        have e := HV.out
        rw [List.take_of_length_le (by omega), List.take_of_length_le (show nlen m ≤ nlen m from Nat.le_refl _), val_limbs] at e
        exact e
      have HS := Lib.hid (sized_any v _ _ hownr.nat (by rw [hol]; have := HM.out; have := HN.out; omega))
      have HV2 := Lib.hid hv2
      clear hv2 HV
      go_wp2_with (go_at_call 91; refine HS.out.mono ?_; rintro e w' ⟨r, er, rfl, hr, hbl⟩)
      go_ret2
      rw [HV2.out] at hr
      exact ⟨r, er, rfl, hr, hbel.trans ((hbr.trans (hbl.mono hbr.size)).mono hbel.size)⟩
end Go.Proofs.Ytoldfpkafcefnaa
