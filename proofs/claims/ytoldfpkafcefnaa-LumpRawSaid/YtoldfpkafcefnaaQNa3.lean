/-
  package natural: Make, Cmp, Sub.
-/
import Derived.Test.YtoldfpkafcefnaaQNa2
namespace Go.Proofs.Ytoldfpkafcefnaa
set_option linter.unusedVariables false
set_option linter.unusedSimpArgs false
open Go.RowKit

theorem natV_new2 (w : World) (e : TypeId) (x y : Nat) (hx : x < 4294967296) (hy : y < 4294967296) :
    NatV (w.alloc (.cells #[.int .u32 (x : Nat), .int .u32 (y : Nat)] e)) (.slice (some ⟨w.heap.size, 0, none⟩) 2 2) [x, y] := by
  refine ⟨⟨_, 2, 2, rfl, Nat.le_refl _, by simp [maxLen], fun e => by cases e⟩, rfl, fun j hj => ?_, fun z hz => ?_⟩
  · have : j = 0 ∨ j = 1 := by simp at hj; omega
    rcases this with rfl | rfl <;> simp [ptr, base, Addr.add]
  · simp at hz; omega

set_option maxHeartbeats 400000 in
theorem make_any (n : Nat) (hn : n < 18446744073709551616) (w : World) :
    Calls Try.prog 85 #[.int .u64 n] w (RNat w n) := by
  have HN := natV_new2 w 102 (n % 4294967296) (n / 4294967296) (by omega) (by omega)
  rw [show ((n % 4294967296 : Nat) : Int) = (n : Int) % 4294967296 from by omega, show ((n / 4294967296 : Nat) : Int) = (n : Int) / 4294967296 from by omega] at HN
  have hv : val [n % 4294967296, n / 4294967296] = n := by simp [val]; omega
  have HL := Lib.hid (length_any _ _ _ (HN.natN (by simp)))
  have HC := Lib.hid (HN.can (by simp))
  have HV := Lib.hid hv
  have hle : nlen n ≤ 2 := nlen_le.2 (by simp [pw]; omega)
  have HB := Lib.hid ((Below.refl w.heap.size w).alloc (Nat.le_refl _) (.cells #[.int .u32 ((n : Int) % 4294967296), .int .u32 ((n : Int) / 4294967296)] 102))
  clear HN hv
  go_enter Try.func85, Try.ntmps85
  go_wp2_with (go_at_call 88; refine HL.out.mono ?_; rw [HV.out]; rintro e w' ⟨rfl, rfl⟩)
  go_ret
  refine ⟨_, rfl, ?_, HB.out⟩
  have := HC.out
  rw [HV.out] at this
  exact this

theorem NatN.len_le {w : World} {v : Value} {n : Nat} (h : NatN w v n) : nlen n ≤ 4294967296 := by
  obtain ⟨l, hl, rfl, hll⟩ := h; exact Nat.le_trans (nlen_val_le hl.lm) hll
/-- The first limbs of a number are its canonical limbs. -/
theorem NatN.cells {w : World} {v : Value} {n : Nat} (h : NatN w v n) : ∀ (j : Nat) (hj : j < nlen n), w.cell? (ptr v j) = some (.int .u32 ((limbs n)[j]'hj : Nat)) := by
  obtain ⟨l, hl, rfl, hll⟩ := h
  intro j hj
  have := (hl.can hll).1.cell j hj
  rwa [ptr_tk] at this
theorem NatN.slen {w : World} {v : Value} {n : Nat} (h : NatN w v n) : IsSl v ∧ nlen n ≤ Go.Proofs.Ytoldfpkafcefnaa.slen v ∧ Go.Proofs.Ytoldfpkafcefnaa.slen v ≤ 4294967296 := by
  obtain ⟨l, hl, rfl, hll⟩ := h
  exact ⟨hl.sl, by rw [hl.len]; exact nlen_val_le hl.lm, by rw [hl.len]; exact hll⟩
theorem Calls.drawn_same {P : Program} {f : FuncId} {args : Array Value} {w : World} {R : Ending → Prop}
    (h : Calls P f args w fun e w' => R e ∧ w = w') : Calls P f args w fun e w' => R e ∧ ∃ k, w' = w.drewN k :=
  h.mono fun _ _ ⟨a, b⟩ => ⟨a, 0, b.symm⟩

set_option maxHeartbeats 800000 in
theorem cmp_any (va vb : Value) (m n : Nat) (w : World) (ha : NatN w va m) (hb : NatN w vb n) :
    Calls Try.prog 68 #[va, vb] w fun e w' => e = .returned (.int .i64 (cmpN m n)) ∧ ∃ k, w' = w.drewN k := by
  obtain ⟨sa, la, ua⟩ := ha.slen
  obtain ⟨sb, lb, ub⟩ := hb.slen
  have ca := ha.cells
  have cb := hb.cells
  go_enter Try.func68, Try.ntmps68
  go_wp2_with (go_at_call 88; first | ((with_reducible refine (length_any va m _ ha).mono ?_); rintro e w' ⟨rfl, rfl⟩) | ((with_reducible refine (length_any vb n _ hb).mono ?_); rintro e w' ⟨rfl, rfl⟩))
  · go_ret
    exact ⟨by rw [cmpN_lt (lt_of_nlen (by assumption))]; rfl, 0, rfl⟩
  · go_ret
    exact ⟨by rw [cmpN_gt (lt_of_nlen (by assumption))]; rfl, 0, rfl⟩
  · have he : nlen m = nlen n := by omega
    go_loopw [7] (fun i wr => ∃ k q : Nat, k ≤ nlen m ∧ i = .int .i64 ((k : Int) - 1) ∧ (limbs m).drop k = (limbs n).drop k ∧ wr = w.drewN q) (fun i _ => (intOf i + 1).toNat)
    case atStart => exact ⟨nlen m, 0, Nat.le_refl _, by simp, by rw [List.drop_of_length_le (show nlen m ≤ nlen m from Nat.le_refl _), List.drop_of_length_le (show nlen n ≤ nlen m by omega)], rfl⟩
    case round =>
      obtain ⟨k, q, hk, rfl, hd, rfl⟩ := hrel
      have HD := Lib.hid hd
      have HE := Lib.hid he
      clear hd he
      by_cases hk0 : 0 < k
      · obtain ⟨j, rfl⟩ : ∃ j, k = j + 1 := ⟨k - 1, by omega⟩
        have hj1 : j < nlen m := by omega
        have hj2 : j < nlen n := by have := HE.out; omega
        have h1 := ca j hj1
        have h2 := cb j hj2
        have hlt := val_lt_of_top (lm_limbs m) j hj1 hj2 HD.out
        have hgt := val_lt_of_top (lm_limbs n) j hj2 hj1 HD.out.symm
        have heq := drop_eq_of j hj1 hj2 HD.out
        rw [val_limbs, val_limbs] at hlt hgt
        clear ca cb HD
        generalize (limbs m)[j]'hj1 = x at *
        generalize (limbs n)[j]'hj2 = y at *
        have HL := Lib.hid hlt
        have HG := Lib.hid hgt
        have HQ := Lib.hid heq
        clear hlt hgt heq
        by_cases hxy : x < y
        · go_wp2
          go_quiet (fail)
          go_wp2
          go_ret
          exact ⟨by rw [cmpN_lt (HL.out hxy)]; rfl, _, by first | rfl | (simp only [World.drewN_drewN]; rfl)⟩
        · by_cases hyx : y < x
          · go_wp2
            go_quiet (fail)
            go_wp2
            go_quiet (fail)
            go_wp2
            go_ret
            exact ⟨by rw [cmpN_gt (HG.out hyx)]; rfl, _, by first | rfl | (simp only [World.drewN_drewN]; rfl)⟩
          · go_wp2
            go_quiet (fail)
            go_wp2
            go_quiet (fail)
            go_wp2
            go_roundw
            case rel => exact ⟨j, _, by omega, by go_num, HQ.out (by omega), by first | rfl | (simp only [World.drewN_drewN]; rfl)⟩
            case measure => simp [intOf]
      · obtain rfl : k = 0 := by omega
        have hmn : m = n := limbs_inj (by simpa using HD.out)
        have HM := Lib.hid hmn
        clear hmn
        go_wp2
        go_ret
        exact ⟨by rw [cmpN_eq HM.out]; rfl, _, rfl⟩
end Go.Proofs.Ytoldfpkafcefnaa
