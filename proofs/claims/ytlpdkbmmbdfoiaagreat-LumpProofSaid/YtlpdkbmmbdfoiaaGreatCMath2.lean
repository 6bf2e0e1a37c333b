/-
  More plain facts on limbs: short division, shifts. No program is named here.
  Ahead of it: package natural: length, large, sized, Trim, Make, Cmp. package natural: Cmp, Add, Sub, Mul. package natural: Make, Cmp, Sub. Laws on bits as the walks meet them. No program is named here. package natural: Sub.
-/
import Derived.Test.YtlpdkbmmbdfoiaaGreatCOwn
import Derived.Test.YtlpdkbmmbdfoiaaGreatProg
import Derived.WalkKit
namespace Go.Proofs.YtlpdkbmmbdfoiaaGreat
set_option linter.unusedVariables false
set_option linter.unusedSimpArgs false
open Go.RowKit

/-- v reads as a list of limbs of the number n, canonical or not. -/
def NatN (w : World) (v : Value) (n : Nat) : Prop := ∃ l, NatV w v l ∧ val l = n ∧ l.length ≤ 4294967296
/-- v reads as the canonical list of limbs of n. -/
def NatC (w : World) (v : Value) (n : Nat) : Prop := NatV w v (limbs n) ∧ nlen n ≤ 4294967296
theorem NatC.nat {w : World} {v : Value} {n : Nat} (h : NatC w v n) : NatN w v n := ⟨_, h.1, val_limbs n, h.2⟩
theorem NatC.below {w w' : World} {v : Value} {n : Nat} (h : NatC w v n) (hb : Below w.heap.size w w') : NatC w' v n := ⟨h.1.below hb, h.2⟩
theorem NatN.below {w w' : World} {v : Value} {n : Nat} (h : NatN w v n) (hb : Below w.heap.size w w') : NatN w' v n := by
  obtain ⟨l, h, e⟩ := h; exact ⟨l, h.below hb, e⟩
theorem NatC.nil (w : World) : NatC w (.slice none 0 0) 0 := by unfold NatC; rw [limbs_zero, nlen_zero]; exact ⟨NatV.nil w, by omega⟩
theorem NatN.drawn {w : World} {v : Value} {n : Nat} (h : NatN w v n) (k : Nat) : NatN (w.drewN k) v n := h.below (below_drewN w k)
theorem NatC.drawn {w : World} {v : Value} {n : Nat} (h : NatC w v n) (k : Nat) : NatC (w.drewN k) v n := h.below (below_drewN w k)
theorem NatV.natN {w : World} {v : Value} {l : List Nat} (h : NatV w v l) (hl : l.length ≤ 4294967296) : NatN w v (val l) := ⟨l, h, rfl, hl⟩
theorem nlen_val_le {l : List Nat} (h : Lm l) : nlen (val l) ≤ l.length := by rw [← clen_eq h]; exact clen_le l
theorem NatV.can {w : World} {v : Value} {l : List Nat} (h : NatV w v l) (hl : l.length ≤ 4294967296) : NatC w (Go.Proofs.YtlpdkbmmbdfoiaaGreat.tk v (nlen (val l))) (val l) := by
  refine ⟨?_, Nat.le_trans (nlen_val_le h.lm) hl⟩
  rw [limbs_val h.lm, ← clen_eq h.lm]; exact h.tk _ (clen_le l)
theorem NatV.can3 {w : World} {v : Value} {l : List Nat} (h : NatV w v l) (hl : l.length ≤ 4294967296) : NatC w (Go.Proofs.YtlpdkbmmbdfoiaaGreat.tk3 v (nlen (val l))) (val l) := by
  refine ⟨?_, Nat.le_trans (nlen_val_le h.lm) hl⟩
  rw [limbs_val h.lm, ← clen_eq h.lm]; exact h.tk3 _ (clen_le l)

set_option maxHeartbeats 400000 in
theorem length_v (v : Value) (l : List Nat) (w : World) (h : NatV w v l) :
    Calls Tryz.prog 198 #[v] w fun e w' => e = .returned (.int .i64 (clen l)) ∧ w = w' := by
  have hs := h.sl
  have hlen := h.len
  have hle := hs.le
  go_enter Tryz.func198, Tryz.ntmps198
  go_wp2
  go_loop [3] (fun i => ∃ k : Nat, k ≤ l.length ∧ i = .int .i64 k ∧ clen (l.take k) = clen l) (fun i => (intOf i).toNat)
  case atStart => exact ⟨l.length, Nat.le_refl _, rfl, by rw [List.take_length]⟩
  case round =>
    obtain ⟨k, hk, rfl, hce⟩ := hrel
    have HC := Lib.hid hce; clear hce
    by_cases h0 : 0 < k
    · obtain ⟨j, rfl⟩ : ∃ j, k = j + 1 := ⟨k - 1, by omega⟩
      have hj : j < l.length := by omega
      have hc := h.cell j hj
      go_wp2
      · go_round
        case rel => exact ⟨j, by omega, rfl, by rw [← HC.out, clen_take_zero l j hj (by simp_all)]⟩
        case measure => simp [intOf]
      · go_ret
        exact ⟨by rw [← HC.out, clen_take_pos l j hj (by simp_all)]; simp, rfl⟩
    · have hk0 : k = 0 := by omega
      subst hk0
      go_wp2
      go_ret
      exact ⟨by rw [← HC.out]; simp [clen], rfl⟩
theorem length_any (v : Value) (n : Nat) (w : World) (h : NatN w v n) :
    Calls Tryz.prog 198 #[v] w fun e w' => e = .returned (.int .i64 (nlen n)) ∧ w = w' := by
  obtain ⟨l, h, rfl, _⟩ := h
  rw [← clen_eq h.lm]
  exact length_v v l w h

theorem large_any (v : Value) (n : Nat) (w : World) (h : NatN w v n) :
    Calls Tryz.prog 200 #[v] w fun e w' => e = .returned (.bool (decide (512 < nlen n))) ∧ w = w' := by
  go_enter Tryz.func200, Tryz.ntmps200
  go_wp2_with (go_at_call 198; refine (length_any v n _ h).mono ?_; rintro e w' ⟨rfl, rfl⟩)
  go_ret
  exact ⟨by congr 2; simp; omega, rfl⟩

/-- A number with an error: n and OK, or nil and ErrSize if n has more than 512 limbs. -/
def SizedP (w : World) (r : Value) (er : Int) (n : Nat) : Prop := (nlen n ≤ 512 → er = 0 ∧ NatC w r n) ∧ (512 < nlen n → er = 2 ∧ NatC w r 0)
def RSized (w0 : World) (n : Nat) (e : Ending) (w : World) : Prop :=
  ∃ r er, e = .returned (.tuple #[r, .int .i64 er]) ∧ SizedP w r er n ∧ Below w0.heap.size w0 w
theorem sized_any (v : Value) (l : List Nat) (w : World) (h : NatV w v l) (hll : l.length ≤ 4294967296) :
    Calls Tryz.prog 201 #[v] w (RSized w (val l)) := by
  have hs := h.sl
  have hlen := h.len
  have hle := hs.le
  have hcl := clen_le l
  rw [clen_eq h.lm] at hcl
  have hcs : nlen (val l) ≤ scap v := by omega
  go_enter Tryz.func201, Tryz.ntmps201
  go_wp2_with (go_at_call 198; refine (length_any v (val l) _ (h.natN hll)).mono ?_; rintro e w' ⟨rfl, rfl⟩)
  · go_ret2
    have hbig : ¬ nlen (val l) ≤ 512 := by omega
    exact ⟨_, 2, rfl, ⟨fun h => by omega, fun _ => ⟨rfl, NatC.nil w⟩⟩, Below.refl _ _⟩
  · go_ret2
    have hbig : nlen (val l) ≤ 512 := by omega
    exact ⟨_, 0, rfl, ⟨fun _ => ⟨rfl, h.can3 hll⟩, fun h => by omega⟩, Below.refl _ _⟩

theorem Tryz.info102 : (Tryz.prog.info? 142).map (fun i => (i.zero, i.size, i.bytes)) = some (some (.int .u32 0), 1, 4) := by kernel_rfl

/-- A new canonical number. -/
def RNat (w0 : World) (n : Nat) (e : Ending) (w : World) : Prop := ∃ r, e = .returned r ∧ NatC w r n ∧ Below w0.heap.size w0 w
set_option maxHeartbeats 400000 in
theorem trim_any (v : Value) (n : Nat) (w : World) (h : NatN w v n) :
    Calls Tryz.prog 194 #[v] w (RNat w n) := by
  have hN := h
  obtain ⟨l, hl, HE, hll⟩ := h
  have hs := hl.sl
  have hlen := hl.len
  have hle := hs.le
  have hcan := hl.can hll
  rw [HE] at hcan
  have hcl := nlen_val_le hl.lm
  rw [HE] at hcl
  clear HE
  have hcs : nlen n ≤ scap v := by omega
  obtain ⟨i0, hi, hz0, hz1, hz2⟩ := info_parts Tryz.info102
  have hroom : ([] : List Nat).length + (limbs n).length ≤ 35184372088832 := by have := hcan.2; unfold nlen at this; simp; omega
  have hA := append_nat (P := Tryz.prog) 36 142 i0 Tryz.underlying36 hi hz0 hz1 hz2
  go_enter Tryz.func194, Tryz.ntmps194
  go_wp2_with (first
    | (go_at_call 198; refine (length_any v n _ hN).mono ?_; rintro e w' ⟨rfl, rfl⟩)
    | (at_builtin; refine hA w rfl _ _ rfl w.heap.size _ [] rfl (OwnN.nil _ _ _) _ rfl (limbs n) hcan.1 hroom (Nat.le_refl _) ?_; intro v' w1 hown _ hbel))
  go_ret
  exact ⟨v', rfl, ⟨by simpa using hown.nat, hcan.2⟩, hbel⟩
end Go.Proofs.YtlpdkbmmbdfoiaaGreat
namespace Go.Proofs.YtlpdkbmmbdfoiaaGreat
set_option linter.unusedVariables false
set_option linter.unusedSimpArgs false
open Go.RowKit

theorem large_no (v : Value) (n : Nat) (w : World) (h : NatN w v n) (hn : nlen n ≤ 512) :
    Calls Tryz.prog 200 #[v] w fun e w' => e = .returned (.bool false) ∧ w = w' :=
  (large_any v n w h).mono fun e w' ⟨h1, h2⟩ => ⟨by rw [h1, decide_eq_false (by omega)], h2⟩

theorem NatN.scap {w : World} {v : Value} {n : Nat} (h : NatN w v n) : IsSl v ∧ nlen n ≤ scap v ∧ NatC w (Go.Proofs.YtlpdkbmmbdfoiaaGreat.tk v (nlen n)) n := by
  obtain ⟨l, hl, rfl, hll⟩ := h
  have := hl.len
  have := hl.sl.le
  have := nlen_val_le hl.lm
  exact ⟨hl.sl, by omega, hl.can hll⟩

set_option maxHeartbeats 800000 in
theorem add_any (va vb : Value) (m n : Nat) (w : World) (ha : NatN w va m) (hb : NatN w vb n) (hm : nlen m ≤ 512) (hn : nlen n ≤ 512) :
    Calls Tryz.prog 158 #[va, vb] w (RSized w (m + n)) := by
  obtain ⟨sa, ca, ka⟩ := ha.scap
  obtain ⟨sb, cb, kb⟩ := hb.scap
  obtain ⟨i0, hi, hz0, hz1, hz2⟩ := info_parts Tryz.info102
  have hM := make_nat (P := Tryz.prog) 36 142 i0 Tryz.underlying36 hi hz0 hz1 hz2
  go_enter Tryz.func158, Tryz.ntmps158
  go_wp2_with (go_at_call 200; first | ((with_reducible refine (large_no va m _ ha hm).mono ?_); rintro e w' ⟨rfl, rfl⟩) | ((with_reducible refine (large_no vb n _ hb hn).mono ?_); rintro e w' ⟨rfl, rfl⟩))
  go_quiet ((go_at_call 198; first | with_reducible exact Calls.quiet_of_same ((length_any va m _ (ha.drawn _)).mono fun e w' ⟨h1, h2⟩ => ⟨h1, h2.symm⟩) | with_reducible exact Calls.quiet_of_same ((length_any vb n _ (hb.drawn _)).mono fun e w' ⟨h1, h2⟩ => ⟨h1, h2.symm⟩)))
  have l1 : slen (tk va (nlen m)) = nlen m := ka.1.len
  have l2 : slen (tk vb (nlen n)) = nlen n := kb.1.len
  have s1 := ka.1.sl
  have s2 := kb.1.sl
  clear ha hb sa sb ca cb
  generalize tk va (nlen m) = xa at *
  generalize tk vb (nlen n) = xb at *
  have kb' := kb.drawn nq
  have ka' := ka.drawn nq
  have hbel := below_drewN (B := w.heap.size) w nq
  generalize w.drewN nq = W at *
  by_cases hlt : nlen m < nlen n
  · skip
    go_wp2_with (refine hM _ rfl _ _ rfl W.heap.size _ (nlen n + 1) rfl rfl rfl (by omega) (Nat.le_refl _) ?_; intro v w1 hown hb1 hvb)
    have hbw : Below w.heap.size w w1 := hbel.trans (hb1.mono hbel.size)
    clear hM
    go_loopw [7, 36] (fun u7 u36 wr => ∃ (k c : Nat) (o : List Nat), k ≤ nlen n ∧ u36 = .int .i64 k ∧ u7 = .int .u64 c ∧ c ≤ 1 ∧ OwnN wr 142 W.heap.size v o ∧ o.length = nlen n + 1 ∧
        val (o.take k) + pw k * c = val ((limbs n).take k) + val ((limbs m).take k) ∧ Below W.heap.size W wr) (fun _ u36 _ => nlen n - (intOf u36).toNat)
    case atStart => exact ⟨0, 0, _, Nat.zero_le _, rfl, rfl, by omega, hown, by simp, by simp [val], hb1⟩
    case round =>
      obtain ⟨k, c, o, hk, rfl, rfl, hc, hownr, hol, hval, hbr⟩ := hrel
      have hcx := ((kb'.below hbr).1).cell
      have hcy := ((ka'.below hbr).1).cell
      have sv := hownr.nat.sl
      have lv : slen v = nlen n + 1 := by rw [hownr.nat.len, hol]
      have HV := Lib.hid hval
      clear hval
      by_cases hkp : k < nlen n
      · have hx := hcx k hkp
        have hx1 : (limbs n)[k]'hkp < 4294967296 := lm_limbs n _ (List.getElem_mem _)
        have hfz := hownr.frozen k (by omega)
        have hco := hownr.nat.cell k (by omega)
        clear hcx
        by_cases hkq : k < nlen m
        · have hy := hcy k hkq
          have hy1 : (limbs m)[k]'hkq < 4294967296 := lm_limbs m _ (List.getElem_mem _)
          clear hcy
          have HX := Lib.hid (val_take_succ (limbs n) k hkp)
          have HY := Lib.hid (val_take_succ (limbs m) k hkq)
          generalize (limbs n)[k]'hkp = x at *
          generalize (limbs m)[k]'hkq = y at *
          go_wp2
          have hset := hownr.set k (by omega) ((c + x + y) % 4294967296) (by omega)
          rw [show (((c + x + y) % 4294967296 : Nat) : Int) = ((c : Int) + x + y) % 4294967296 from by omega] at hset
          go_roundw
          case rel => exact ⟨k + 1, (c + x + y) / 4294967296, _, by omega, by go_num, by go_num, by omega, hset.1, by simp [hol], add_step (by omega) HX.out HY.out HV.out, hbr.trans hset.2⟩
          case measure => simp [intOf]; omega
        · have HX := Lib.hid (val_take_succ (limbs n) k hkp)
          have HY := Lib.hid (take_succ_of_le (limbs m) k (by unfold nlen at hkq; omega))
          clear hcy
          generalize (limbs n)[k]'hkp = x at *
          go_wp2
          have hset := hownr.set k (by omega) ((c + x + 0) % 4294967296) (by omega)
          rw [show (((c + x + 0) % 4294967296 : Nat) : Int) = ((c : Int) + x) % 4294967296 from by omega] at hset
          go_roundw
          case rel => exact ⟨k + 1, (c + x + 0) / 4294967296, _, by omega, by go_num, by go_num, by omega, hset.1, by simp [hol], add_step (by omega) HX.out (by rw [HY.out]; rfl) HV.out, hbr.trans hset.2⟩
          case measure => simp [intOf]; omega
      · have hkk : k = nlen n := by omega
        subst hkk
        clear hcx hcy
        have hfz := hownr.frozen (nlen n) (by omega)
        have hco := hownr.nat.cell (nlen n) (by omega)
        have hset := hownr.set (nlen n) (by omega) c (by omega)
        have hv2 : val (o.set (nlen n) c) = m + n := by
          have e := val_set_take o (nlen n) c (by omega)
          rw [List.take_of_length_le (by simp; omega)] at e
          rw [e, HV.out, List.take_of_length_le (show nlen n ≤ nlen n from Nat.le_refl _), List.take_of_length_le (show nlen m ≤ nlen n by omega), val_limbs, val_limbs, Nat.add_comm]
        have HS := Lib.hid (sized_any v _ _ hset.1.nat (by simp; omega))
        have HV2 := Lib.hid hv2
        have HB := Lib.hid (hbr.trans hset.2)
        clear hset hv2 hbr HV
        go_wp2_with (go_at_call 201; refine HS.out.mono ?_; rintro e w' ⟨r, er, rfl, hr, hbl⟩)
        go_ret2
        rw [HV2.out] at hr
        exact ⟨r, er, rfl, hr, hbel.trans ((HB.out.trans (hbl.mono HB.out.size)).mono hbel.size)⟩
  · skip
    go_wp2_with (refine hM _ rfl _ _ rfl W.heap.size _ (nlen m + 1) rfl rfl rfl (by omega) (Nat.le_refl _) ?_; intro v w1 hown hb1 hvb)
    have hbw : Below w.heap.size w w1 := hbel.trans (hb1.mono hbel.size)
    clear hM
    go_loopw [7, 36] (fun u7 u36 wr => ∃ (k c : Nat) (o : List Nat), k ≤ nlen m ∧ u36 = .int .i64 k ∧ u7 = .int .u64 c ∧ c ≤ 1 ∧ OwnN wr 142 W.heap.size v o ∧ o.length = nlen m + 1 ∧
        val (o.take k) + pw k * c = val ((limbs m).take k) + val ((limbs n).take k) ∧ Below W.heap.size W wr) (fun _ u36 _ => nlen m - (intOf u36).toNat)
    case atStart => exact ⟨0, 0, _, Nat.zero_le _, rfl, rfl, by omega, hown, by simp, by simp [val], hb1⟩
    case round =>
      obtain ⟨k, c, o, hk, rfl, rfl, hc, hownr, hol, hval, hbr⟩ := hrel
      have hcx := ((ka'.below hbr).1).cell
      have hcy := ((kb'.below hbr).1).cell
      have sv := hownr.nat.sl
      have lv : slen v = nlen m + 1 := by rw [hownr.nat.len, hol]
      have HV := Lib.hid hval
      clear hval
      by_cases hkp : k < nlen m
      · have hx := hcx k hkp
        have hx1 : (limbs m)[k]'hkp < 4294967296 := lm_limbs m _ (List.getElem_mem _)
        have hfz := hownr.frozen k (by omega)
        have hco := hownr.nat.cell k (by omega)
        clear hcx
        by_cases hkq : k < nlen n
        · have hy := hcy k hkq
          have hy1 : (limbs n)[k]'hkq < 4294967296 := lm_limbs n _ (List.getElem_mem _)
          clear hcy
          have HX := Lib.hid (val_take_succ (limbs m) k hkp)
          have HY := Lib.hid (val_take_succ (limbs n) k hkq)
          generalize (limbs m)[k]'hkp = x at *
          generalize (limbs n)[k]'hkq = y at *
          go_wp2
          have hset := hownr.set k (by omega) ((c + x + y) % 4294967296) (by omega)
          rw [show (((c + x + y) % 4294967296 : Nat) : Int) = ((c : Int) + x + y) % 4294967296 from by omega] at hset
          go_roundw
          case rel => exact ⟨k + 1, (c + x + y) / 4294967296, _, by omega, by go_num, by go_num, by omega, hset.1, by simp [hol], add_step (by omega) HX.out HY.out HV.out, hbr.trans hset.2⟩
          case measure => simp [intOf]; omega
        · have HX := Lib.hid (val_take_succ (limbs m) k hkp)
          have HY := Lib.hid (take_succ_of_le (limbs n) k (by unfold nlen at hkq; omega))
          clear hcy
          generalize (limbs m)[k]'hkp = x at *
          go_wp2
          have hset := hownr.set k (by omega) ((c + x + 0) % 4294967296) (by omega)
          rw [show (((c + x + 0) % 4294967296 : Nat) : Int) = ((c : Int) + x) % 4294967296 from by omega] at hset
          go_roundw
          case rel => exact ⟨k + 1, (c + x + 0) / 4294967296, _, by omega, by go_num, by go_num, by omega, hset.1, by simp [hol], add_step (by omega) HX.out (by rw [HY.out]; rfl) HV.out, hbr.trans hset.2⟩
          case measure => simp [intOf]; omega
      · have hkk : k = nlen m := by omega
        subst hkk
        clear hcx hcy
        have hfz := hownr.frozen (nlen m) (by omega)
        have hco := hownr.nat.cell (nlen m) (by omega)
        have hset := hownr.set (nlen m) (by omega) c (by omega)
        have hv2 : val (o.set (nlen m) c) = m + n := by
          have e := val_set_take o (nlen m) c (by omega)
          rw [List.take_of_length_le (by simp; omega)] at e
          rw [e, HV.out, List.take_of_length_le (show nlen m ≤ nlen m from Nat.le_refl _), List.take_of_length_le (show nlen n ≤ nlen m by omega), val_limbs, val_limbs, Nat.add_comm]
        have HS := Lib.hid (sized_any v _ _ hset.1.nat (by simp; omega))
        have HV2 := Lib.hid hv2
        have HB := Lib.hid (hbr.trans hset.2)
        clear hset hv2 hbr HV
        go_wp2_with (go_at_call 201; refine HS.out.mono ?_; rintro e w' ⟨r, er, rfl, hr, hbl⟩)
        go_ret2
        rw [HV2.out] at hr
        exact ⟨r, er, rfl, hr, hbel.trans ((HB.out.trans (hbl.mono HB.out.size)).mono hbel.size)⟩
end Go.Proofs.YtlpdkbmmbdfoiaaGreat
namespace Go.Proofs.YtlpdkbmmbdfoiaaGreat
set_option linter.unusedVariables false
set_option linter.unusedSimpArgs false
open Go.RowKit

theorem natV_new2 (w : World) (e : TypeId) (x y : Nat) (hx : x < 4294967296) (hy : y < 4294967296) :
    NatV (w.alloc (.cells #[.int .u32 (x : Nat), .int .u32 (y : Nat)] e)) (.slice (some ⟨w.heap.size, 0, none⟩) 2 2) [x, y] := by
  refine ⟨⟨_, 2, 2, rfl, Nat.le_refl _, by simp [maxLen], fun e => by cases e⟩, rfl, fun j hj => ?_, fun z hz => ?_⟩
  · have : j = 0 ∨ j = 1 := by simp at hj; omega
    rcases this with rfl | rfl <;> simp [ptr, base, Addr.add]
  · simp at hz; omega

set_option maxHeartbeats 400000 in
theorem make_any (n : Nat) (hn : n < 18446744073709551616) (w : World) :
    Calls Tryz.prog 187 #[.int .u64 n] w (RNat w n) := by
  have HN := natV_new2 w 142 (n % 4294967296) (n / 4294967296) (by omega) (by omega)
  rw [show ((n % 4294967296 : Nat) : Int) = (n : Int) % 4294967296 from by omega, show ((n / 4294967296 : Nat) : Int) = (n : Int) / 4294967296 from by omega] at HN
  have hv : val [n % 4294967296, n / 4294967296] = n := by simp [val]; omega
  have HL := Lib.hid (length_any _ _ _ (HN.natN (by simp)))
  have HC := Lib.hid (HN.can (by simp))
  have HV := Lib.hid hv
  have hle : nlen n ≤ 2 := nlen_le.2 (by simp [pw]; omega)
  have HB := Lib.hid ((Below.refl w.heap.size w).alloc (Nat.le_refl _) (.cells #[.int .u32 ((n : Int) % 4294967296), .int .u32 ((n : Int) / 4294967296)] 142))
  clear HN hv
  go_enter Tryz.func187, Tryz.ntmps187
  go_wp2_with (go_at_call 198; refine HL.out.mono ?_; rw [HV.out]; rintro e w' ⟨rfl, rfl⟩)
  go_ret
  refine ⟨_, rfl, ?_, HB.out⟩
  have := HC.out
  rw [HV.out] at this
  exact this

theorem NatN.len_le {w : World} {v : Value} {n : Nat} (h : NatN w v n) : nlen n ≤ 4294967296 := by
  obtain ⟨l, hl, rfl, hll⟩ := h; exact Nat.le_trans (nlen_val_le hl.lm) hll
/-- The first limbs of a number are its canonical limbs. -/
theorem NatN.cells {w : World} {v : Value} {n : Nat} (h : NatN w v n) : ∀ (j : Nat) (hj : j < nlen n), w.cell? (ptr v j) = some (.int .u32 ((limbs n)[j]'hj : Nat)) := by
  obtain ⟨l, hl, rfl, hll⟩ := h
  intro j hj
  have := (hl.can hll).1.cell j hj
  rwa [ptr_tk] at this
theorem NatN.slen {w : World} {v : Value} {n : Nat} (h : NatN w v n) : IsSl v ∧ nlen n ≤ Go.Proofs.YtlpdkbmmbdfoiaaGreat.slen v ∧ Go.Proofs.YtlpdkbmmbdfoiaaGreat.slen v ≤ 4294967296 := by
  obtain ⟨l, hl, rfl, hll⟩ := h
  exact ⟨hl.sl, by rw [hl.len]; exact nlen_val_le hl.lm, by rw [hl.len]; exact hll⟩
theorem Calls.drawn_same {P : Program} {f : FuncId} {args : Array Value} {w : World} {R : Ending → Prop}
    (h : Calls P f args w fun e w' => R e ∧ w = w') : Calls P f args w fun e w' => R e ∧ ∃ k, w' = w.drewN k :=
  h.mono fun _ _ ⟨a, b⟩ => ⟨a, 0, b.symm⟩

set_option maxHeartbeats 800000 in
theorem cmp_any (va vb : Value) (m n : Nat) (w : World) (ha : NatN w va m) (hb : NatN w vb n) :
    Calls Tryz.prog 159 #[va, vb] w fun e w' => e = .returned (.int .i64 (cmpN m n)) ∧ ∃ k, w' = w.drewN k := by
  obtain ⟨sa, la, ua⟩ := ha.slen
  obtain ⟨sb, lb, ub⟩ := hb.slen
  have ca := ha.cells
  have cb := hb.cells
  go_enter Tryz.func159, Tryz.ntmps159
  go_wp2_with (go_at_call 198; first | ((with_reducible refine (length_any va m _ ha).mono ?_); rintro e w' ⟨rfl, rfl⟩) | ((with_reducible refine (length_any vb n _ hb).mono ?_); rintro e w' ⟨rfl, rfl⟩))
  · go_ret
    exact ⟨by rw [cmpN_lt (lt_of_nlen (by assumption))]; rfl, 0, rfl⟩
  · go_ret
    exact ⟨by rw [cmpN_gt (lt_of_nlen (by assumption))]; rfl, 0, rfl⟩
  · have he : nlen m = nlen n := by omega
    go_loopw [7] (fun i wr => ∃ k q : Nat, k ≤ nlen m ∧ i = .int .i64 ((k : Int) - 1) ∧ (limbs m).drop k = (limbs n).drop k ∧ wr = w.drewN q) (fun i _ => (intOf i + 1).toNat)
    case atStart => exact ⟨nlen m, 0, Nat.le_refl _, by simp, by rw [List.drop_of_length_le (show nlen m ≤ nlen m from Nat.le_refl _), List.drop_of_length_le (show nlen n ≤ nlen m by omega)], rfl⟩
    case round =>
      obtain ⟨k, q, hk, rfl, hd, rfl⟩ := hrel
      have HD := Lib.hid hd
      have HE := Lib.hid he
      clear hd he
      by_cases hk0 : 0 < k
      · obtain ⟨j, rfl⟩ : ∃ j, k = j + 1 := ⟨k - 1, by omega⟩
        have hj1 : j < nlen m := by omega
        have hj2 : j < nlen n := by have := HE.out; omega
        have h1 := ca j hj1
        have h2 := cb j hj2
        have hlt := val_lt_of_top (lm_limbs m) j hj1 hj2 HD.out
        have hgt := val_lt_of_top (lm_limbs n) j hj2 hj1 HD.out.symm
        have heq := drop_eq_of j hj1 hj2 HD.out
        rw [val_limbs, val_limbs] at hlt hgt
        clear ca cb HD
        generalize (limbs m)[j]'hj1 = x at *
        generalize (limbs n)[j]'hj2 = y at *
        have HL := Lib.hid hlt
        have HG := Lib.hid hgt
        have HQ := Lib.hid heq
        clear hlt hgt heq
        by_cases hxy : x < y
        · go_wp2
          go_quiet (fail)
          go_wp2
          go_ret
          exact ⟨by rw [cmpN_lt (HL.out hxy)]; rfl, _, by first | rfl | (simp only [World.drewN_drewN]; rfl)⟩
        · by_cases hyx : y < x
          · go_wp2
            go_quiet (fail)
            go_wp2
            go_quiet (fail)
            go_wp2
            go_ret
            exact ⟨by rw [cmpN_gt (HG.out hyx)]; rfl, _, by first | rfl | (simp only [World.drewN_drewN]; rfl)⟩
          · go_wp2
            go_quiet (fail)
            go_wp2
            go_quiet (fail)
            go_wp2
            go_roundw
            case rel => exact ⟨j, _, by omega, by go_num, HQ.out (by omega), by first | rfl | (simp only [World.drewN_drewN]; rfl)⟩
            case measure => simp [intOf]
      · obtain rfl : k = 0 := by omega
        have hmn : m = n := limbs_inj (by simpa using HD.out)
        have HM := Lib.hid hmn
        clear hmn
        go_wp2
        go_ret
        exact ⟨by rw [cmpN_eq HM.out]; rfl, _, rfl⟩
end Go.Proofs.YtlpdkbmmbdfoiaaGreat
namespace Go.Proofs.YtlpdkbmmbdfoiaaGreat
set_option linter.unusedVariables false

theorem or_eq_add (a b s : Nat) (h : b < 2 ^ s) : (2 ^ s * a) ||| b = 2 ^ s * a + b := (Nat.two_pow_add_eq_or_of_lt h a).symm
/-- 'r<<32 | x'. -/
theorem or_lo (r x : Nat) (hr : r < 4294967296) (hx : x < 4294967296) : bits .or .u64 ((r : Int) * 4294967296) (x : Int) = ((r * 4294967296 + x : Nat) : Int) := by
  have h := u64_or_nat (4294967296 * r) x (by omega) (by omega)
  rw [show ((4294967296 * r : Nat) : Int) = (r : Int) * 4294967296 from by omega] at h
  rw [h]
  have := or_eq_add r x 32 (by omega)
  rw [show (2 : Nat) ^ 32 = 4294967296 from by decide] at this
  rw [this]
  congr 1
  omega
/-- 'c | x<<s', c below 2^s. -/
theorem or_hi (c x P s : Nat) (hP : P = 2 ^ s) (hc : c < P) (hx : P * x < 18446744073709551616) (hPl : P < 18446744073709551616) : bits .or .u64 (c : Int) ((P * x : Nat) : Int) = ((P * x + c : Nat) : Int) := by
  subst hP
  rw [u64_or_nat c (2 ^ s * x) (by omega) hx, Nat.or_comm, or_eq_add x c s hc]
theorem wrap_u64 (n : Int) : IntKind.u64.wrap n = n % 18446744073709551616 := by
  simp [IntKind.wrap, IntKind.bits, IntKind.signed]
/-- A quotient that fits a limb. -/
theorem div_limb (t d : Nat) (h : t / d < 4294967296) : IntKind.u64.wrap ((t : Int) / d) % 4294967296 = ((t / d : Nat) : Int) := by
  rw [wrap_u64, ← Int.natCast_ediv]; generalize t / d = q at *; omega
/-- 'c | x<<s' for s below 32, c below 2^s. -/
theorem or_up (c x s : Nat) (hs : s < 32) (hc : c < 2 ^ s) (hx : x < 4294967296) : bits .or .u64 (c : Int) (IntKind.u64.wrap ((x : Int) * 2 ^ s)) = ((2 ^ s * x + c : Nat) : Int) := by
  have hP : 2 ^ s ≤ 2 ^ 31 := Nat.pow_le_pow_right (by decide) (by omega)
  have h1 : 2 ^ s * x ≤ 2 ^ 31 * 4294967295 := Nat.mul_le_mul hP (by omega)
  have h2 : ((x : Int) * 2 ^ s) = ((2 ^ s * x : Nat) : Int) := by rw [Int.natCast_mul, Int.natCast_pow]; exact Int.mul_comm _ _
  rw [h2, wrap_u64]
  have h3 : ((2 ^ s * x : Nat) : Int) % 18446744073709551616 = ((2 ^ s * x : Nat) : Int) := by omega
  rw [h3]
  exact or_hi c x (2 ^ s) s rfl hc (by omega) (by omega)
theorem up_bound (c x s : Nat) (hs : s < 32) (hc : c < 2 ^ s) (hx : x < 4294967296) : 2 ^ s * x + c < 18446744073709551616 ∧ (2 ^ s * x + c) / 4294967296 < 2 ^ s := by
  have hP : 2 ^ s ≤ 2 ^ 31 := Nat.pow_le_pow_right (by decide) (by omega)
  have h1 : 2 ^ s * x ≤ 2 ^ 31 * 4294967295 := Nat.mul_le_mul hP (by omega)
  have h2 : 2 ^ s * (x + 1) ≤ 2 ^ s * 4294967296 := Nat.mul_le_mul_left _ (by omega)
  rw [Nat.mul_add, Nat.mul_one] at h2
  refine ⟨by omega, ?_⟩
  rw [Nat.div_lt_iff_lt_mul (by decide)]
  omega
end Go.Proofs.YtlpdkbmmbdfoiaaGreat
namespace Go.Proofs.YtlpdkbmmbdfoiaaGreat
set_option linter.unusedVariables false
set_option linter.unusedSimpArgs false
open Go.RowKit

theorem cmp_ge (va vb : Value) (m n : Nat) (w : World) (ha : NatN w va m) (hb : NatN w vb n) (h : n ≤ m) :
    Calls Tryz.prog 159 #[va, vb] w fun e w' => (∃ c : Int, e = .returned (.int .i64 c) ∧ decide (c < 0) = false) ∧ ∃ k, w' = w.drewN k :=
  (cmp_any va vb m n w ha hb).mono fun _ _ ⟨a, b⟩ => ⟨⟨_, a, decide_eq_false (by unfold cmpN; rw [if_neg (by omega)]; split <;> omega)⟩, b⟩

theorem sub_wrap (x y c : Nat) (hx : x < 4294967296) (hy : y < 4294967296) (hc : c ≤ 1) : ∃ z b : Nat, z < 4294967296 ∧ b ≤ 1 ∧
    IntKind.u64.wrap (IntKind.u64.wrap ((x : Int) - c) - y) % 4294967296 = z ∧ IntKind.u64.wrap (IntKind.u64.wrap ((x : Int) - c) - y) / 9223372036854775808 = b ∧ z + c + y = x + 4294967296 * b := by
  rw [wrap_u64, wrap_u64]
  by_cases h : c + y ≤ x
  · exact ⟨x - c - y, 0, by omega, by omega, by omega, by omega, by omega⟩
  · exact ⟨x + 4294967296 - c - y, 1, by omega, by omega, by omega, by omega, by omega⟩
theorem sub_wrap0 (x c : Nat) (hx : x < 4294967296) (hc : c ≤ 1) : ∃ z b : Nat, z < 4294967296 ∧ b ≤ 1 ∧
    IntKind.u64.wrap ((x : Int) - c) % 4294967296 = z ∧ IntKind.u64.wrap ((x : Int) - c) / 9223372036854775808 = b ∧ z + c + 0 = x + 4294967296 * b := by
  rw [wrap_u64]
  by_cases h : c ≤ x
  · exact ⟨x - c, 0, by omega, by omega, by omega, by omega, by omega⟩
  · exact ⟨x + 4294967296 - c, 1, by omega, by omega, by omega, by omega, by omega⟩

set_option maxHeartbeats 800000 in
theorem sub_any (va vb : Value) (m n : Nat) (w : World) (ha : NatN w va m) (hb : NatN w vb n) (hm : nlen m ≤ 512) (hnm : n ≤ m) :
    Calls Tryz.prog 160 #[va, vb] w (RSized w (m - n)) := by
  have hn : nlen n ≤ 512 := Nat.le_trans (nlen_mono hnm) hm
  have hnn := nlen_mono hnm
  have HM := Lib.hid hm
  have HN := Lib.hid hn
  clear hm hn
  obtain ⟨sa, ca, ka⟩ := ha.scap
  obtain ⟨sb, cb, kb⟩ := hb.scap
  obtain ⟨i0, hi, hz0, hz1, hz2⟩ := info_parts Tryz.info102
  have hM := make_nat (P := Tryz.prog) 36 142 i0 Tryz.underlying36 hi hz0 hz1 hz2
  go_enter Tryz.func160, Tryz.ntmps160
  go_wp2_with (first
    | (go_at_call 200; first | ((with_reducible refine (large_no va m _ ha HM.out).mono ?_); rintro e w' ⟨rfl, rfl⟩) | ((with_reducible refine (large_no vb n _ hb HN.out).mono ?_); rintro e w' ⟨rfl, rfl⟩))
    | (go_at_call 159; refine (cmp_ge va vb m n _ ha hb hnm).mono ?_; rintro e w' ⟨⟨c, rfl, hc⟩, nq0, rfl⟩))
  have ha0 := ha.drawn nq0
  have hb0 := hb.drawn nq0
  have ka0 := ka.drawn nq0
  have kb0 := kb.drawn nq0
  have hbel0 := below_drewN (B := w.heap.size) w nq0
  generalize w.drewN nq0 = W0 at *
  go_quiet ((go_at_call 198; first | with_reducible exact Calls.quiet_of_same ((length_any va m _ (ha0.drawn _)).mono fun e w' ⟨h1, h2⟩ => ⟨h1, h2.symm⟩) | with_reducible exact Calls.quiet_of_same ((length_any vb n _ (hb0.drawn _)).mono fun e w' ⟨h1, h2⟩ => ⟨h1, h2.symm⟩)))
  have l1 : slen (tk va (nlen m)) = nlen m := ka.1.len
  have l2 : slen (tk vb (nlen n)) = nlen n := kb.1.len
  have s1 := ka.1.sl
  have s2 := kb.1.sl
  clear ha hb sa sb ca cb ha0 hb0 ka kb hc
  generalize tk va (nlen m) = xa at *
  generalize tk vb (nlen n) = xb at *
  have kb' := kb0.drawn nq
  have ka' := ka0.drawn nq
  have hbel := hbel0.trans (below_drewN (B := w.heap.size) W0 nq)
  generalize W0.drewN nq = W at *
  have hroom : nlen m ≤ 35184372088832 := by have := HM.out; omega
  have HR := Lib.hid hroom
  clear hroom ka0 kb0 hbel0
  go_wp2_with (refine hM _ rfl _ _ rfl W.heap.size _ (nlen m) rfl rfl rfl HR.out (Nat.le_refl _) ?_; intro v w1 hown hb1 hvb)
  have hbw : Below w.heap.size w w1 := hbel.trans (hb1.mono hbel.size)
  clear hM
  go_loopw [7, 35] (fun u7 u35 wr => ∃ (k c : Nat) (o : List Nat), k ≤ nlen m ∧ u35 = .int .i64 k ∧ u7 = .int .u64 c ∧ c ≤ 1 ∧ OwnN wr 142 W.heap.size v o ∧ o.length = nlen m ∧
      val (o.take k) + val ((limbs n).take k) = val ((limbs m).take k) + pw k * c ∧ Below W.heap.size W wr) (fun _ u35 _ => nlen m - (intOf u35).toNat)
  case atStart => exact ⟨0, 0, _, Nat.zero_le _, rfl, rfl, by omega, hown, by simp, by simp [val], hb1⟩
  case round =>
    obtain ⟨k, c, o, hk, rfl, rfl, hc, hownr, hol, hval, hbr⟩ := hrel
    have hcx := ((ka'.below hbr).1).cell
    have hcy := ((kb'.below hbr).1).cell
    have sv := hownr.nat.sl
    have lv : slen v = nlen m := by rw [hownr.nat.len, hol]
    have HV := Lib.hid hval
    clear hval
    have hkb : k ≤ 4294967296 := by have := HM.out; omega
    by_cases hkp : k < nlen m
    · have hx := hcx k hkp
      have hx1 : (limbs m)[k]'hkp < 4294967296 := lm_limbs m _ (List.getElem_mem _)
      have hfz := hownr.frozen k (by omega)
      have hco := hownr.nat.cell k (by omega)
      have HX := Lib.hid (val_take_succ (limbs m) k hkp)
      clear hcx
      generalize (limbs m)[k]'hkp = x at *
      by_cases hkq : k < nlen n
      · have hy := hcy k hkq
        have hy1 : (limbs n)[k]'hkq < 4294967296 := lm_limbs n _ (List.getElem_mem _)
        have HY := Lib.hid (val_take_succ (limbs n) k hkq)
        clear hcy
        generalize (limbs n)[k]'hkq = y at *
        obtain ⟨z, b, hz, hb, ez, eb, hzz⟩ := sub_wrap x y c hx1 hy1 hc
        have EZ := Lib.hid ez
        have EB := Lib.hid eb
        have HZZ := Lib.hid hzz
        clear ez eb hzz
        go_wp2
        have hset := hownr.set k (by omega) z hz
        go_roundw
        case rel =>
          rw [EZ.out, EB.out]
          exact ⟨k + 1, b, _, by omega, by go_num, rfl, hb, hset.1, by simp [hol], sub_step (by omega) HX.out HY.out HZZ.out HV.out, hbr.trans hset.2⟩
        case measure => simp [intOf]; omega
      · have HY := Lib.hid (take_succ_of_le (limbs n) k (by unfold nlen at hkq; omega))
        clear hcy
        obtain ⟨z, b, hz, hb, ez, eb, hzz⟩ := sub_wrap0 x c hx1 hc
        have EZ := Lib.hid ez
        have EB := Lib.hid eb
        have HZZ := Lib.hid hzz
        clear ez eb hzz
        go_wp2
        have hset := hownr.set k (by omega) z hz
        go_roundw
        case rel =>
          rw [EZ.out, EB.out]
          exact ⟨k + 1, b, _, by omega, by go_num, rfl, hb, hset.1, by simp [hol], sub_step (by omega) HX.out (by rw [HY.out]; rfl) HZZ.out HV.out, hbr.trans hset.2⟩
        case measure => simp [intOf]; omega
    · obtain rfl : k = nlen m := by omega
      clear hcx hcy
      have hv2 : val o = m - n := by
        have e := HV.out
        rw [List.take_of_length_le (by omega), List.take_of_length_le (show nlen m ≤ nlen m from Nat.le_refl _), List.take_of_length_le (show nlen n ≤ nlen m by omega), val_limbs, val_limbs] at e
        have h1 := val_lt hownr.lm
        rw [hol] at h1
        have h2 := pw_pos (nlen m)
        rcases Nat.lt_or_ge c 1 with hc0 | hc0
        · obtain rfl : c = 0 := by omega
          omega
        · obtain rfl : c = 1 := by omega
          omega
      have HS := Lib.hid (sized_any v _ _ hownr.nat (by rw [hol]; omega))
      have HV2 := Lib.hid hv2
      clear hv2 HV
      go_wp2_with (go_at_call 201; refine HS.out.mono ?_; rintro e w' ⟨r, er, rfl, hr, hbl⟩)
      go_ret2
      rw [HV2.out] at hr
      exact ⟨r, er, rfl, hr, hbel.trans ((hbr.trans (hbl.mono hbr.size)).mono hbel.size)⟩
end Go.Proofs.YtlpdkbmmbdfoiaaGreat
namespace Go.Proofs.YtlpdkbmmbdfoiaaGreat
set_option linter.unusedVariables false

theorem val_drop_succ (l : List Nat) (k : Nat) (h : k < l.length) : val (l.drop k) = l[k] + 4294967296 * val (l.drop (k + 1)) := by
  rw [List.drop_eq_getElem_cons h]; rfl
theorem drop_set_of_lt {α : Type} (l : List α) (k : Nat) (z : α) (h : k < l.length) : (l.set k z).drop k = z :: l.drop (k + 1) := by
  rw [List.drop_eq_getElem_cons (by simpa using h), List.drop_set_of_lt (by omega)]
  simp
/-- One round of a short division, from the top: the quotient's upper limbs, the rest. -/
theorem short_step {q l : List Nat} {k d r x : Nat} (hk : k < q.length) (hl : val (l.drop k) = x + 4294967296 * val (l.drop (k + 1))) (hd : 0 < d)
    (hv : val (l.drop (k + 1)) = d * val (q.drop (k + 1)) + r) (hr : r < d) :
    val (l.drop k) = d * val ((q.set k ((r * 4294967296 + x) / d)).drop k) + (r * 4294967296 + x) % d := by
  rw [drop_set_of_lt q k _ hk, hl, hv]
  simp only [val]
  have h := Nat.div_add_mod (r * 4294967296 + x) d
  generalize (r * 4294967296 + x) / d = a at *
  generalize (r * 4294967296 + x) % d = b at *
  grind
theorem short_bound {d r x : Nat} (hd : d < 4294967296) (hr : r < d) (hx : x < 4294967296) : (r * 4294967296 + x) / d < 4294967296 ∧ (r * 4294967296 + x) % d < d ∧ r * 4294967296 + x < 18446744073709551616 := by
  refine ⟨?_, Nat.mod_lt _ (by omega), by omega⟩
  rw [Nat.div_lt_iff_lt_mul (by omega)]
  have : r * 4294967296 + 4294967296 ≤ d * 4294967296 := by omega
  omega
/-- One round of a shift by fewer than 32 bits. -/
theorem up_step {o l : List Nat} {k c x P t : Nat} (hk : k < o.length) (hl : val (l.take (k + 1)) = val (l.take k) + pw k * x) (hv : val (o.take k) + pw k * c = P * val (l.take k)) (ht : t = P * x + c) :
    val ((o.set k (t % 4294967296)).take (k + 1)) + pw (k + 1) * (t / 4294967296) = P * val (l.take (k + 1)) := by
  rw [val_set_take o k _ hk, hl, pw_succ]
  have h : t % 4294967296 + 4294967296 * (t / 4294967296) = t := by omega
  generalize t % 4294967296 = z at *
  generalize t / 4294967296 = d at *
  grind
/-- One round of 'subtract': t is c + f x, z the new limb. -/
theorem subtract_step {p q l : List Nat} {k c bo f x u z c' bo' lo : Nat} (hk : k < q.length) (hp : val (p.take (k + 1)) = val (p.take k) + pw k * u) (hl : val (l.take (k + 1)) = val (l.take k) + pw k * x)
    (ht : 4294967296 * c' + lo = c + f * x) (hz : z + lo + bo = u + 4294967296 * bo')
    (hv : val (q.take k) + f * val (l.take k) = val (p.take k) + pw k * (c + bo)) :
    val ((q.set k z).take (k + 1)) + f * val (l.take (k + 1)) = val (p.take (k + 1)) + pw (k + 1) * (c' + bo') := by
  rw [val_set_take q k _ hk, hp, hl, pw_succ]
  generalize pw k = P at *
  generalize val (q.take k) = Q at *
  generalize val (p.take k) = R at *
  generalize val (l.take k) = L at *
  have h1 : P * (4294967296 * c' + lo) = P * (c + f * x) := by rw [ht]
  have h2 : P * (z + lo + bo) = P * (u + 4294967296 * bo') := by rw [hz]
  grind
theorem subtract_end {p q l : List Nat} {n c bo f z b : Nat} (hq : q.length = n + 1) (hp : p.length = n + 1) (hl : l.length = n) (hpn : p[n]'(by omega) + 4294967296 * b = z + c + bo)
    (hv : val (q.take n) + f * val (l.take n) = val (p.take n) + pw n * (c + bo)) : val (q.set n z) + f * val l = val p + b * pw (n + 1) := by
  have e1 := val_set_take q n z (by omega)
  rw [List.take_of_length_le (by simp; omega)] at e1
  have e2 := val_take_succ p n (by omega)
  rw [List.take_of_length_le (by omega)] at e2
  rw [List.take_of_length_le (by omega : l.length ≤ n)] at hv
  rw [e1, e2, pw_succ]
  generalize p[n]'(by omega) = u at *
  generalize pw n = P at *
  have h2 : P * (u + 4294967296 * b) = P * (z + c + bo) := by rw [hpn]
  grind
theorem seg_set {α : Type} (A p C : List α) (k : Nat) (z : α) (h : k < p.length) : (A ++ p ++ C).set (A.length + k) z = A ++ p.set k z ++ C := by
  rw [List.append_assoc, List.set_append_right _ _ (by omega), Nat.add_sub_cancel_left, List.set_append_left _ _ h, List.append_assoc]
theorem seg_get {α : Type} (A p C : List α) (k : Nat) (h : k < p.length) : (A ++ p ++ C)[A.length + k]? = some p[k] := by
  rw [List.append_assoc, List.getElem?_append_right (by omega), Nat.add_sub_cancel_left, List.getElem?_append_left h, List.getElem?_eq_getElem h]
end Go.Proofs.YtlpdkbmmbdfoiaaGreat
