/-
  package drydockref01: divide, the first two cases.
  Ahead of it: package drydockref01: down.
-/
import Derived.Test.YtbhkibilnmoljaaQRa4
namespace Go.Proofs.Ytbhkibilnmoljaa
set_option linter.unusedVariables false
set_option linter.unusedSimpArgs false
open Go.RowKit

theorem val_drop (a : List Nat) (q : Nat) (h : q ≤ a.length) : val a = val (a.take q) + pw q * val (a.drop q) := by
  have e := val_append (a.take q) (a.drop q)
  rw [List.take_append_drop, List.length_take, Nat.min_eq_left h] at e
  exact e
theorem val_drop_div (a : List Nat) (q : Nat) (ha : Lm a) (h : q ≤ a.length) : val (a.drop q) = val a / pw q := by
  have h1 := val_lt (show Lm (a.take q) from fun x hx => ha x (List.mem_of_mem_take hx))
  rw [List.length_take, Nat.min_eq_left h] at h1
  rw [val_drop a q h, Nat.add_mul_div_left _ _ (pw_pos q), Nat.div_eq_of_lt h1, Nat.zero_add]
theorem or_hi32 (x y : Nat) (hx : x < 4294967296) (hy : y < 4294967296) : bits .or .u64 (x : Int) ((y : Int) * 4294967296) = ((y * 4294967296 + x : Nat) : Int) := by
  have h := or_hi x y 4294967296 32 (by decide) hx (by omega) (by decide)
  rw [show ((4294967296 * y : Nat) : Int) = (y : Int) * 4294967296 from by omega] at h
  rw [h]; congr 1; omega
theorem getD_drop (a : List Nat) (q k : Nat) : (a.drop q).getD k 0 = a.getD (q + k) 0 := by simp [List.getD]
theorem getD_none (l : List Nat) (j : Nat) (hj : l.length ≤ j) : l.getD j 0 = 0 := by simp [List.getD, List.getElem?_eq_none hj]
theorem down_step {o d : List Nat} {k i P a b z : Nat} (hP : P * k = 4294967296) (ho : o.length = i) (hd : val (d.take (i + 1)) = val (d.take i) + pw i * a) (ha : a < 4294967296) (hz : z = ((b * 4294967296 + a) / P) % 4294967296) (c : Nat)
    (hv : P * val o + c = val (d.take i) + pw i * (a % P)) :
    P * val (o ++ [z]) + c = val (d.take (i + 1)) + pw (i + 1) * (b % P) := by
  have h := rest_limb (b := b) k hP ha
  rw [← hz] at h
  rw [val_snoc, hd, pw_succ, ho]
  have h2 : pw i * (P * z + a % P) = pw i * (a + 4294967296 * (b % P)) := by rw [h]
  generalize a % P = x at *
  generalize b % P = y at *
  grind
theorem down_end {o d : List Nat} {P c : Nat} (hP : 0 < P) (hc : c < P) (hv : P * val o + c = val d) : val o = val d / P := by
  rw [← hv, Nat.mul_add_div hP, Nat.div_eq_of_lt hc, Nat.add_zero]
set_option maxHeartbeats 1600000 in
theorem rdown_any (va : Value) (a : List Nat) (n : Nat) (w : World) (ha : NatV w va a) (hl : a.length ≤ 65536) (hn : n ≤ 65536) :
    Calls Try.prog 98 #[va, .int .i64 n] w (RNat w (val a / 2 ^ n)) := by
  obtain ⟨i0, hi, hz0, hz1, hz2⟩ := info_parts Try.info102
  have hA1 := append1_nat (P := Try.prog) 28 94 i0 Try.underlying28 hi hz0 hz1 hz2
  clear hi hz0 hz1 hz2
  have sa := ha.sl
  have la := ha.len
  obtain ⟨q, s, hs, rfl⟩ : ∃ q s, s < 32 ∧ n = 32 * q + s := ⟨n / 32, n % 32, Nat.mod_lt _ (by decide), by omega⟩
  have hP0 : 0 < 2 ^ s := Nat.pow_pos (by decide)
  have hPk : 2 ^ s * 2 ^ (32 - s) = 4294967296 := by rw [← Nat.pow_add, Nat.add_sub_cancel' (by omega)]
  have HP0 := Lib.hid hP0
  have HPK := Lib.hid hPk
  clear hP0 hPk
  have hqb : q ≤ 2048 := by omega
  by_cases hqa : a.length ≤ q
  · have hv : val a / 2 ^ (32 * q + s) = 0 := by
      apply Nat.div_eq_of_lt
      have h1 := val_lt ha.lm
      have h2 := pw_le hqa
      rw [pw_two q] at h2
      have h3 : 2 ^ (32 * q) ≤ 2 ^ (32 * q + s) := Nat.pow_le_pow_right (by decide) (by omega)
      omega
    rw [hv]
    clear hv
    generalize hne : 32 * q + s = n at *
    have e1 : (n : Int) / 32 = (q : Int) := by omega
    clear hne hA1
    go_enter Try.func98, Try.ntmps98
    go_wp2_with fail
    go_ret
    exact ⟨_, rfl, NatC.nil _, Below.refl _ _⟩
  · have hq1 : q < a.length := by omega
    have hfin : ∀ x : Nat, x = val (a.drop q) / 2 ^ s → x = val a / 2 ^ (32 * q + s) := fun x hx => by
      rw [hx, val_drop_div a q ha.lm (by omega), Nat.div_div_eq_div_mul, pw_two, ← Nat.pow_add]
    have HFIN := Lib.hid hfin
    clear hfin
    generalize hne : 32 * q + s = n at *
    have e1 : (n : Int) / 32 = (q : Int) := by omega
    have e2 : (n : Int) % 32 = (s : Int) := by omega
    clear hne
    go_enter Try.func98, Try.ntmps98
    go_wp2_with fail
    clear e1
    go_loopw [5, 6] (fun u5 u6 wr => ∃ (k : Nat) (o : List Nat), q + k ≤ a.length ∧ u6 = .int .i64 ((q + k : Nat) : Int) ∧ OwnN wr 94 w.heap.size u5 o ∧ o.length = k ∧
        2 ^ s * val o + (a.getD q 0) % 2 ^ s = val ((a.drop q).take k) + pw k * ((a.getD (q + k) 0) % 2 ^ s) ∧ Below w.heap.size w wr) (fun _ u6 _ => a.length - (intOf u6).toNat)
    case atStart => exact ⟨0, [], by omega, rfl, OwnN.nil _ _ _, rfl, by simp [val, pw_zero], Below.refl _ _⟩
    case round =>
      obtain ⟨k, o, hk, rfl, hownr, hol, hval, hbr⟩ := hrel
      have HV := Lib.hid hval
      have HOL := Lib.hid hol
      have HO : Hid (o.length + 1 ≤ 4294967296) := Lib.hid (by omega)
      clear hval hol
      by_cases hkp : q + k < a.length
      · have hx := (ha.below hbr).cell (q + k) hkp
        have hx1 := ha.lt (q + k) hkp
        have HK1 : Hid (q + (k + 1) ≤ a.length) := Lib.hid (by omega)
        have hX : val ((a.drop q).take (k + 1)) = val ((a.drop q).take k) + pw k * a[q + k] := by
          rw [val_take_getD, getD_drop, getD_of a _ hkp]
          try rfl
        have hV1 := HV.out
        rw [getD_of a _ hkp] at hV1
        have hSTx := fun (b z : Nat) (hz : z = ((b * 4294967296 + a[q + k]) / 2 ^ s) % 4294967296) => down_step (o := o) (d := a.drop q) (b := b) (z := z) HPK.out HOL.out hX hx1 hz _ hV1
        by_cases hk2 : q + k + 1 < a.length
        · have hy := (ha.below hbr).cell (q + k + 1) hk2
          have hy1 := ha.lt (q + k + 1) hk2
          have hor := or_hi32 a[q + k] a[q + k + 1] hx1 hy1
          have hST := hSTx a[q + k + 1] _ rfl
          rw [← getD_of a _ hk2] at hST
          obtain ⟨e, he⟩ : ∃ e, (a.getD (q + k + 1) 0) * 4294967296 + a[q + k] = e := ⟨_, rfl⟩
          rw [he] at hST
          rw [getD_of a _ hk2] at he
          rw [he] at hor
          have he64 : e < 18446744073709551616 := by omega
          have HST := Lib.hid hST
          have HZC := Lib.hid (cast_shr e s)
          clear hST hSTx hV1 hX HV he
          generalize a[q + k] = x at *
          generalize a[q + k + 1] = y at *
          go_wp2_with (at_builtin; refine hA1 wr rfl _ _ rfl w.heap.size _ u5 o rfl (by exact hownr) _ (e / 2 ^ s % 4294967296) HZC.out (Nat.mod_lt _ (by decide)) rfl (Nat.le_trans HO.out (by decide)) hbr.size ?_; intro v' w1 hown1 hbel1)
          go_roundw
          case rel => exact ⟨k + 1, _, HK1.out, by go_num, hown1, by simp [HOL.out], HST.out, hbr.trans (hbel1.mono (Nat.le_refl _))⟩
          case measure => simp [intOf]; omega
        · have hg : a.getD (q + (k + 1)) 0 = 0 := getD_none _ _ (by omega)
          have hST := hSTx 0 _ rfl
          rw [Nat.zero_mul, Nat.zero_add] at hST
          have HZC := Lib.hid (cast_shr a[q + k] s)
          have HST : Hid (2 ^ s * val (o ++ [a[q + k] / 2 ^ s % 4294967296]) + (a.getD q 0) % 2 ^ s = val ((a.drop q).take (k + 1)) + pw (k + 1) * ((a.getD (q + (k + 1)) 0) % 2 ^ s)) := Lib.hid (by rw [hg]; exact hST)
          clear hST hSTx hV1 hX HV hg
          generalize a[q + k] = e at *
          go_wp2_with (at_builtin; refine hA1 wr rfl _ _ rfl w.heap.size _ u5 o rfl (by exact hownr) _ (e / 2 ^ s % 4294967296) HZC.out (Nat.mod_lt _ (by decide)) rfl (Nat.le_trans HO.out (by decide)) hbr.size ?_; intro v' w1 hown1 hbel1)
          go_roundw
          case rel => exact ⟨k + 1, _, HK1.out, by go_num, hown1, by simp [HOL.out], HST.out, hbr.trans (hbel1.mono (Nat.le_refl _))⟩
          case measure => simp [intOf]; omega
      · have hkl : q + k = a.length := by omega
        have hv2 : val o = val (a.drop q) / 2 ^ s := by
          have h := HV.out
          rw [getD_none a (q + k) (by omega), Nat.zero_mod, Nat.mul_zero, Nat.add_zero, List.take_of_length_le (by rw [List.length_drop]; omega)] at h
          exact down_end HP0.out (Nat.mod_lt _ HP0.out) h
        have HT := rtrim_any _ _ wr (NatN.of_eq (hownr.nat.natN (by have := HO.out; omega)) (HFIN.out _ hv2))
        have HT2 := Lib.hid HT
        clear HT hv2 hkl
        go_wp2_with (go_at_call 52; refine HT2.out.mono ?_; rintro e w2 ⟨r, rfl, hr, hb⟩)
        go_ret
        exact ⟨r, rfl, hr, hbr.trans (hb.mono hbr.size)⟩
end Go.Proofs.Ytbhkibilnmoljaa
namespace Go.Proofs.Ytbhkibilnmoljaa
set_option linter.unusedVariables false
set_option linter.unusedSimpArgs false
open Go.RowKit

theorem rcmp_lt (va vb : Value) (m n : Nat) (w : World) (ha : NatN w va m) (hb : NatN w vb n) (h : m < n) :
    Calls Try.prog 42 #[va, vb] w fun e w' => (∃ c : Int, e = .returned (.int .i64 c) ∧ decide (c < 0) = true) ∧ Below w.heap.size w w' :=
  (rcmp_any va vb m n w ha hb).mono fun _ _ ⟨a, b⟩ => ⟨⟨_, a, by rw [cmpN_lt h]; rfl⟩, b⟩
theorem rcmp_ge (va vb : Value) (m n : Nat) (w : World) (ha : NatN w va m) (hb : NatN w vb n) (h : n ≤ m) :
    Calls Try.prog 42 #[va, vb] w fun e w' => (∃ c : Int, e = .returned (.int .i64 c) ∧ decide (c < 0) = false) ∧ Below w.heap.size w w' :=
  (rcmp_any va vb m n w ha hb).mono fun _ _ ⟨a, b⟩ => ⟨⟨_, a, by unfold cmpN; rw [if_neg (by omega)]; split <;> rfl⟩, b⟩
set_option maxRecDepth 100000 in
set_option maxHeartbeats 800000 in
theorem rdivide_less (va vb : Value) (m n : Nat) (w : World) (ha : NatC w va m) (hb : NatC w vb n) (h : m < n) :
    Calls Try.prog 87 #[va, vb] w (RDiv w m n) := by
  have HQ := Lib.hid (Nat.div_eq_of_lt h)
  have HR := Lib.hid (Nat.mod_eq_of_lt h)
  go_enter Try.func87, Try.ntmps87
  go_wp2_with (first
    | (go_at_call 42; refine (rcmp_lt va vb m n _ ha.nat hb.nat h).mono ?_; rintro e w1 ⟨⟨c, rfl, hc⟩, hb1⟩; have ha1 := ha.nat.below hb1)
    | (go_at_call 52; refine (rtrim_any va m _ ha1).mono ?_; rintro e w' ⟨r, rfl, hr, hbl⟩))
  go_ret2
  exact ⟨_, r, rfl, by rw [HQ.out]; exact NatC.nil _, by rw [HR.out]; exact hr, below_then hb1 hbl⟩

set_option maxRecDepth 100000 in
set_option maxHeartbeats 1600000 in
theorem rdivide_short (va vb : Value) (m d : Nat) (w : World) (ha : NatC w va m) (hb : NatC w vb d) (h : d ≤ m) (hn : nlen d = 1) (hm : nlen m ≤ 512) :
    Calls Try.prog 87 #[va, vb] w (RDiv w m d) := by
  have h1 : d < 4294967296 := by have := nlen_le.1 (Nat.le_of_eq hn); simpa [pw] using this
  have h0 : 0 < d := Nat.pos_of_ne_zero fun e => by rw [e, nlen_zero] at hn; omega
  have hl : limbs d = [d] := by rw [limbs_pos (by omega), Nat.mod_eq_of_lt h1, Nat.div_eq_of_lt h1, limbs_zero]
  have HC := fun (w1 : World) (h : Below w.heap.size w w1) => Lib.hid (show w1.cell? (ptr vb 0) = some (.int .u32 d) by
    have := (hb.v.below h).cell 0 (by rw [hl]; simp)
    simpa [hl] using this)
  have sa := ha.v.sl
  have la : slen va = nlen m := ha.v.len
  have sb := hb.v.sl
  have lb : slen vb = 1 := by rw [hb.v.len, hl]; rfl
  have HM := Lib.hid hm
  have hmb : nlen m ≤ 4294967296 := by omega
  have hroom : nlen m ≤ 35184372088832 := by omega
  obtain ⟨i0, hi, hz0, hz1, hz2⟩ := info_parts Try.info102
  have hM := make_nat (P := Try.prog) 28 94 i0 Try.underlying28 hi hz0 hz1 hz2
  clear hi hz0 hz1 hz2 hl hn hm
  go_enter Try.func87, Try.ntmps87
  go_wp2_with (first
    | (go_at_call 42; refine (rcmp_ge va vb m d _ ha.nat hb.nat h).mono ?_; rintro e w1 ⟨⟨c, rfl, hc⟩, hb1⟩)
    | (refine hM _ rfl _ _ rfl w.heap.size _ (nlen m) rfl rfl rfl hroom hb1.size ?_; intro v w2 hown hb2 hvb))
  have hbw := hb1.trans (hb2.mono hb1.size)
  clear hM hroom hc
  go_loopw [7, 8] (fun u7 u8 wr => ∃ (k r : Nat) (q : List Nat), k ≤ nlen m ∧ u8 = .int .i64 ((k : Int) - 1) ∧ u7 = .int .u64 r ∧ r < d ∧ OwnN wr 94 w.heap.size v q ∧ q.length = nlen m ∧
      val ((limbs m).drop k) = d * val (q.drop k) + r ∧ Below w.heap.size w wr) (fun _ u8 _ => (intOf u8 + 1).toNat)
  case atStart => exact ⟨nlen m, 0, _, Nat.le_refl _, by simp, rfl, h0, hown, by simp, by rw [List.drop_of_length_le (show nlen m ≤ nlen m from Nat.le_refl _), List.drop_of_length_le (by simp)]; rfl, hbw⟩
  case round =>
    obtain ⟨k, r, q, hk, rfl, rfl, hr, hownr, hol, hval, hbr⟩ := hrel
    have sv := hownr.nat.sl
    have lv : slen v = nlen m := by rw [hownr.nat.len, hol]
    have HV := Lib.hid hval
    have HOL := Lib.hid hol
    have hcd := (HC _ hbr).out
    clear hval hol
    by_cases hk0 : 0 < k
    · obtain ⟨j, rfl⟩ : ∃ j, k = j + 1 := ⟨k - 1, by omega⟩
      have hj1 : j < (limbs m).length := by show j < nlen m; omega
      have hx := (ha.v.below hbr).cell j hj1
      have hx1 : (limbs m)[j]'hj1 < 4294967296 := lm_limbs m _ (List.getElem_mem _)
      have hjq : j < q.length := by rw [HOL.out]; omega
      have hfz := hownr.frozen j hjq
      have hco := hownr.nat.cell j hjq
      have HS := Lib.hid (short_step (q := q) (l := limbs m) (k := j) (d := d) (r := r) hjq (val_drop_succ (limbs m) j hj1) h0 HV.out hr)
      have hcd2 : ∀ u, (wr.setCell (ptr v j) u).cell? (ptr vb 0) = some (.int .u32 d) := fun u => (HC _ (hbr.trans (hownr.own.set j (by simpa using hjq) u).2)).out
      have HJQ := Lib.hid hjq
      generalize (limbs m)[j]'hj1 = x at *
      generalize q[j]'hjq = q0 at *
      clear hj1 hjq
      obtain ⟨b1, b2, b3⟩ := short_bound h1 hr hx1
      have hor := or_lo r x (by omega) hx1
      generalize r * 4294967296 + x = t at *
      go_wp2
      have ew := div_limb t d b1
      have hset := hownr.set j HJQ.out (t / d) b1
      go_roundw
      case rel =>
        rw [ew]
        exact ⟨j, t % d, _, by omega, rfl, rfl, b2, hset.1, by simp [HOL.out], HS.out, hbr.trans hset.2⟩
      case measure => simp [intOf]
    · obtain rfl : k = 0 := by omega
      have e := HV.out
      simp only [List.drop_zero] at e
      rw [val_limbs] at e
      have hq : val q = m / d := by rw [e, Nat.mul_add_div h0, Nat.div_eq_of_lt hr, Nat.add_zero]
      have hrr : r = m % d := by rw [e, Nat.mul_add_mod, Nat.mod_eq_of_lt hr]
      have HT := Lib.hid (rtrim_any v (m / d) wr (NatN.of_eq (hownr.nat.natN (by have := HOL.out; omega)) hq))
      have HMK := fun w => Lib.hid (rmake_any r (by omega) w)
      have HR := Lib.hid hrr
      clear hq hrr HV e
      go_wp2_with (first
        | (go_at_call 52; refine HT.out.mono ?_; rintro e w3 ⟨q1, rfl, hq1, hb3⟩)
        | (go_at_call 60; refine (HMK _).out.mono ?_; rintro e w4 ⟨r1, rfl, hr1, hb4⟩))
      go_ret2
      exact ⟨q1, r1, rfl, hq1.below hb4, HR.out ▸ hr1, hbr.trans ((below_then hb3 hb4).mono hbr.size)⟩
end Go.Proofs.Ytbhkibilnmoljaa
