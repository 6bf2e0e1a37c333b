/-
  package natural: Sub.
-/
import Derived.Test.YtoldfpkafcefnaaQBits
import Derived.Test.YtoldfpkafcefnaaQNa3
namespace Go.Proofs.Ytoldfpkafcefnaa
set_option linter.unusedVariables false
set_option linter.unusedSimpArgs false
open Go.RowKit

theorem cmp_ge (va vb : Value) (m n : Nat) (w : World) (ha : NatN w va m) (hb : NatN w vb n) (h : n ≤ m) :
    Calls Try.prog 68 #[va, vb] w fun e w' => (∃ c : Int, e = .returned (.int .i64 c) ∧ decide (c < 0) = false) ∧ ∃ k, w' = w.drewN k :=
  (cmp_any va vb m n w ha hb).mono fun _ _ ⟨a, b⟩ => ⟨⟨_, a, decide_eq_false (by unfold cmpN; rw [if_neg (by omega)]; split <;> omega)⟩, b⟩

theorem sub_wrap (x y c : Nat) (hx : x < 4294967296) (hy : y < 4294967296) (hc : c ≤ 1) : ∃ z b : Nat, z < 4294967296 ∧ b ≤ 1 ∧
    IntKind.u64.wrap (IntKind.u64.wrap ((x : Int) - c) - y) % 4294967296 = z ∧ IntKind.u64.wrap (IntKind.u64.wrap ((x : Int) - c) - y) / 9223372036854775808 = b ∧ z + c + y = x + 4294967296 * b := by
  rw [wrap_u64, wrap_u64]
  by_cases h : c + y ≤ x
  · exact ⟨x - c - y, 0, by omega, by omega, by omega, by omega, by omega⟩
  · exact ⟨x + 4294967296 - c - y, 1, by omega, by omega, by omega, by omega, by omega⟩
theorem sub_wrap0 (x c : Nat) (hx : x < 4294967296) (hc : c ≤ 1) : ∃ z b : Nat, z < 4294967296 ∧ b ≤ 1 ∧
    IntKind.u64.wrap ((x : Int) - c) % 4294967296 = z ∧ IntKind.u64.wrap ((x : Int) - c) / 9223372036854775808 = b ∧ z + c + 0 = x + 4294967296 * b := by
  rw [wrap_u64]
  by_cases h : c ≤ x
  · exact ⟨x - c, 0, by omega, by omega, by omega, by omega, by omega⟩
  · exact ⟨x + 4294967296 - c, 1, by omega, by omega, by omega, by omega, by omega⟩

set_option maxHeartbeats 800000 in
theorem sub_any (va vb : Value) (m n : Nat) (w : World) (ha : NatN w va m) (hb : NatN w vb n) (hm : nlen m ≤ 512) (hnm : n ≤ m) :
    Calls Try.prog 69 #[va, vb] w (RSized w (m - n)) := by
  have hn : nlen n ≤ 512 := Nat.le_trans (nlen_mono hnm) hm
  have hnn := nlen_mono hnm
  have HM := Lib.hid hm
  have HN := Lib.hid hn
  clear hm hn
  obtain ⟨sa, ca, ka⟩ := ha.scap
  obtain ⟨sb, cb, kb⟩ := hb.scap
  obtain ⟨i0, hi, hz0, hz1, hz2⟩ := info_parts Try.info102
  have hM := make_nat (P := Try.prog) 48 102 i0 Try.underlying48 hi hz0 hz1 hz2
  go_enter Try.func69, Try.ntmps69
  go_wp2_with (first
    | (go_at_call 90; first | ((with_reducible refine (large_no va m _ ha HM.out).mono ?_); rintro e w' ⟨rfl, rfl⟩) | ((with_reducible refine (large_no vb n _ hb HN.out).mono ?_); rintro e w' ⟨rfl, rfl⟩))
    | (go_at_call 68; refine (cmp_ge va vb m n _ ha hb hnm).mono ?_; rintro e w' ⟨⟨c, rfl, hc⟩, nq0, rfl⟩))
  have ha0 := ha.drawn nq0
  have hb0 := hb.drawn nq0
  have ka0 := ka.drawn nq0
  have kb0 := kb.drawn nq0
  have hbel0 := below_drewN (B := w.heap.size) w nq0
  generalize w.drewN nq0 = W0 at *
  go_quiet ((go_at_call 88; first | with_reducible exact Calls.quiet_of_same ((length_any va m _ (ha0.drawn _)).mono fun e w' ⟨h1, h2⟩ => ⟨h1, h2.symm⟩) | with_reducible exact Calls.quiet_of_same ((length_any vb n _ (hb0.drawn _)).mono fun e w' ⟨h1, h2⟩ => ⟨h1, h2.symm⟩)))
  have l1 : slen (tk va (nlen m)) = nlen m := ka.1.len
  have l2 : slen (tk vb (nlen n)) = nlen n := kb.1.len
  have s1 := ka.1.sl
  have s2 := kb.1.sl
  clear ha hb sa sb ca cb ha0 hb0 ka kb hc
  generalize tk va (nlen m) = xa at *
  generalize tk vb (nlen n) = xb at *
  have kb' := kb0.drawn nq
  have ka' := ka0.drawn nq
  have hbel := hbel0.trans (below_drewN (B := w.heap.size) W0 nq)
  generalize W0.drewN nq = W at *
  have hroom : nlen m ≤ 35184372088832 := by have := HM.out; omega
  have HR := Lib.hid hroom
  clear hroom ka0 kb0 hbel0
  go_wp2_with (refine hM _ rfl _ _ rfl W.heap.size _ (nlen m) rfl rfl rfl HR.out (Nat.le_refl _) ?_; intro v w1 hown hb1 hvb)
  have hbw : Below w.heap.size w w1 := hbel.trans (hb1.mono hbel.size)
  clear hM
  go_loopw [7, 35] (fun u7 u35 wr => ∃ (k c : Nat) (o : List Nat), k ≤ nlen m ∧ u35 = .int .i64 k ∧ u7 = .int .u64 c ∧ c ≤ 1 ∧ OwnN wr 102 W.heap.size v o ∧ o.length = nlen m ∧
      val (o.take k) + val ((limbs n).take k) = val ((limbs m).take k) + pw k * c ∧ Below W.heap.size W wr) (fun _ u35 _ => nlen m - (intOf u35).toNat)
  case atStart => exact ⟨0, 0, _, Nat.zero_le _, rfl, rfl, by omega, hown, by simp, by simp [val], hb1⟩
  case round =>
    obtain ⟨k, c, o, hk, rfl, rfl, hc, hownr, hol, hval, hbr⟩ := hrel
    have hcx := ((ka'.below hbr).1).cell
    have hcy := ((kb'.below hbr).1).cell
    have sv := hownr.nat.sl
    have lv : slen v = nlen m := by rw [hownr.nat.len, hol]
    have HV := Lib.hid hval
    clear hval
    have hkb : k ≤ 4294967296 := by have := HM.out; omega
    by_cases hkp : k < nlen m
    · have hx := hcx k hkp
      have hx1 : (limbs m)[k]'hkp < 4294967296 := lm_limbs m _ (List.getElem_mem _)
      have hfz := hownr.frozen k (by omega)
      have hco := hownr.nat.cell k (by omega)
      have HX := Lib.hid (val_take_succ (limbs m) k hkp)
      clear hcx
      generalize (limbs m)[k]'hkp = x at *
      by_cases hkq : k < nlen n
      · have hy := hcy k hkq
        have hy1 : (limbs n)[k]'hkq < 4294967296 := lm_limbs n _ (List.getElem_mem _)
        have HY := Lib.hid (val_take_succ (limbs n) k hkq)
        clear hcy
        generalize (limbs n)[k]'hkq = y at *
        obtain ⟨z, b, hz, hb, ez, eb, hzz⟩ := sub_wrap x y c hx1 hy1 hc
        have EZ := Lib.hid ez
        have EB := Lib.hid eb
        have HZZ := Lib.hid hzz
        clear ez eb hzz
        go_wp2
        have hset := hownr.set k (by omega) z hz
        go_roundw
        case rel =>
          rw [EZ.out, EB.out]
          exact ⟨k + 1, b, _, by omega, by go_num, rfl, hb, hset.1, by simp [hol], sub_step (by omega) HX.out HY.out HZZ.out HV.out, hbr.trans hset.2⟩
        case measure => simp [intOf]; omega
      · have HY := Lib.hid (take_succ_of_le (limbs n) k (by unfold nlen at hkq; omega))
        clear hcy
        obtain ⟨z, b, hz, hb, ez, eb, hzz⟩ := sub_wrap0 x c hx1 hc
        have EZ := Lib.hid ez
        have EB := Lib.hid eb
        have HZZ := Lib.hid hzz
        clear ez eb hzz
        go_wp2
        have hset := hownr.set k (by omega) z hz
        go_roundw
        case rel =>
          rw [EZ.out, EB.out]
          exact ⟨k + 1, b, _, by omega, by go_num, rfl, hb, hset.1, by simp [hol], sub_step (by omega) HX.out (by rw [HY.out]; rfl) HZZ.out HV.out, hbr.trans hset.2⟩
        case measure => simp [intOf]; omega
    · obtain rfl : k = nlen m := by omega
      clear hcx hcy
      have hv2 : val o = m - n := by
        have e := HV.out
        rw [List.take_of_length_le (by omega), List.take_of_length_le (show nlen m ≤ nlen m from Nat.le_refl _), List.take_of_length_le (show nlen n ≤ nlen m by omega), val_limbs, val_limbs] at e
        have h1 := val_lt hownr.lm
        rw [hol] at h1
        have h2 := pw_pos (nlen m)
        rcases Nat.lt_or_ge c 1 with hc0 | hc0
        · obtain rfl : c = 0 := by omega
          omega
        · obtain rfl : c = 1 := by omega
          omega
      have HS := Lib.hid (sized_any v _ _ hownr.nat (by rw [hol]; omega))
      have HV2 := Lib.hid hv2
      clear hv2 HV
      go_wp2_with (go_at_call 91; refine HS.out.mono ?_; rintro e w' ⟨r, er, rfl, hr, hbl⟩)
      go_ret2
      rw [HV2.out] at hr
      exact ⟨r, er, rfl, hr, hbel.trans ((hbr.trans (hbl.mono hbr.size)).mono hbel.size)⟩
end Go.Proofs.Ytoldfpkafcefnaa
