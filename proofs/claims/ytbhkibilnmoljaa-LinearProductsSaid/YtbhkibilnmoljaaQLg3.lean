/-
  LinearProducts: for every input the law returns true, and the input reads as it did. No condition.
  Ahead of it: Raw data as lists of limbs of any length. package drydocklaw05: long. LinearProducts: the law function returns true. What came in, read limb by limb. Lifting a law: what came in reads as it did in every later world that only adds to the first; small integers that came in. No law is named here. Lifting a law of raw lists: matrices, lists of fractions and numbers that came in. No law is named here.
-/
import Derived.Test.YtbhkibilnmoljaaQOwF
import Derived.Test.YtbhkibilnmoljaaQLw
import Derived.Test.YtbhkibilnmoljaaQRb9
import Derived.Test.YtbhkibilnmoljaaQBx
import Derived.Test.YtbhkibilnmoljaaQRg6
import Derived.Test.YtbhkibilnmoljaaRows
import Derived.WalkKit
import Derived.ProofKit
import Derived.OpenShut
import Derived.ChangeSlices
import Derived.SizedLaws
import Derived.Deep.Slices
import Derived.Deep.Strs
import Derived.Deep.Grids
namespace Go.Proofs.Ytbhkibilnmoljaa
set_option linter.unusedVariables false
set_option linter.unusedSimpArgs false
open Go.RowKit

/-- A fraction, limb by limb. -/
structure RFL where
  neg : Bool
  a : List Nat
  b : List Nat
def RFL.sz (x : RFL) : Nat := x.a.length + x.b.length
def RFL.ok (x : RFL) : Prop := x.a.length ≤ 35184372088832 ∧ x.b.length ≤ 35184372088832
def RFL.rf (x : RFL) : RF := ⟨x.neg, val x.a, val x.b⟩
def FracLAt (w : World) (v : Value) (k : Nat) (x : RFL) : Prop :=
  ∃ a b, w.cell? (ptr v k) = some (.bool x.neg) ∧ w.cell? (ptr v (k + 1)) = some a ∧ w.cell? (ptr v (k + 2)) = some b ∧ NatV w a x.a ∧ NatV w b x.b
theorem NatV.belowS {w w' : World} {v : Value} {l : List Nat} (h : NatV w v l) (hb : Below w.heap.size w w') : NatV w' v l := ⟨h.sl, h.len, fun j hj => cell_below hb (h.cell j hj), h.lm⟩
theorem FracLAt.below {w w' : World} {v : Value} {k : Nat} {x : RFL} (h : FracLAt w v k x) (hb : Below w.heap.size w w') : FracLAt w' v k x := by
  obtain ⟨a, b, h1, h2, h3, h4, h5⟩ := h
  exact ⟨a, b, cell_below hb h1, cell_below hb h2, cell_below hb h3, h4.belowS hb, h5.belowS hb⟩
structure FracsL (w : World) (v : Value) (l : List RFL) : Prop where
  sl : IsSl v
  len : slen v = l.length
  at' : ∀ (j : Nat) (h : j < l.length), FracLAt w v (j * 3) l[j]
theorem FracsL.below {w w' : World} {v : Value} {l : List RFL} (h : FracsL w v l) (hb : Below w.heap.size w w') : FracsL w' v l := ⟨h.sl, h.len, fun j hj => (h.at' j hj).below hb⟩
structure MatL (w : World) (v : Value) (m : List (List RFL)) : Prop where
  sl : IsSl v
  len : slen v = m.length
  at' : ∀ (j : Nat) (h : j < m.length), ∃ r, w.cell? (ptr v j) = some r ∧ FracsL w r m[j]
theorem MatL.below {w w' : World} {v : Value} {m : List (List RFL)} (h : MatL w v m) (hb : Below w.heap.size w w') : MatL w' v m :=
  ⟨h.sl, h.len, fun j hj => by obtain ⟨r, h1, h2⟩ := h.at' j hj; exact ⟨r, cell_below hb h1, h2.below hb⟩⟩
def RFL.small (x : RFL) : Prop := x.a.length ≤ 300 ∧ x.b.length ≤ 300
theorem FracsL.raw {w : World} {v : Value} {l : List RFL} (h : FracsL w v l) (hs : ∀ x ∈ l, x.small) : FracsN w v (l.map RFL.rf) :=
  ⟨h.sl, by rw [h.len, List.length_map], fun j hj => by
    have hj2 : j < l.length := by simpa using hj
    obtain ⟨a, b, h1, h2, h3, h4, h5⟩ := h.at' j hj2
    obtain ⟨s1, s2⟩ := hs _ (List.getElem_mem hj2)
    rw [List.getElem_map]
    exact ⟨a, b, h1, h2, h3, ⟨_, h4, rfl, by omega⟩, ⟨_, h5, rfl, by omega⟩⟩⟩
theorem MatL.raw {w : World} {v : Value} {m : List (List RFL)} (h : MatL w v m) (hs : ∀ r ∈ m, ∀ x ∈ r, x.small) : MatN w v (m.map fun r => r.map RFL.rf) :=
  ⟨h.sl, by rw [h.len, List.length_map], fun j hj => by
    have hj2 : j < m.length := by simpa using hj
    obtain ⟨r, h1, h2⟩ := h.at' j hj2
    rw [List.getElem_map]
    exact ⟨r, h1, h2.raw (hs _ (List.getElem_mem hj2))⟩⟩
end Go.Proofs.Ytbhkibilnmoljaa
namespace Go.Proofs.Ytbhkibilnmoljaa
set_option linter.unusedVariables false
set_option linter.unusedSimpArgs false
open Go.RowKit

/-- v reads as a list of matrices. -/
structure MatsL (w : World) (v : Value) (ms : List (List (List RFL))) : Prop where
  sl : IsSl v
  len : slen v = ms.length
  at' : ∀ (j : Nat) (h : j < ms.length), ∃ r, w.cell? (ptr v j) = some r ∧ MatL w r ms[j]
def smallX (x : RFL) : Prop := x.a.length ≤ 4 ∧ x.b.length ≤ 4
def smallR (r : List RFL) : Prop := r.length ≤ 30 ∧ ∀ x ∈ r, smallX x
def smallL (m : List (List RFL)) : Prop := ∀ r ∈ m, smallR r
theorem mem_snoc {α : Type} {l : List α} {k : Nat} {p : α → Prop} (hk : k < l.length) (h : ∀ x ∈ l.take k, p x) (hx : p l[k]) : ∀ x ∈ l.take (k + 1), p x := fun x hm => by
  rw [take_snoc l k hk] at hm
  rcases List.mem_append.1 hm with h1 | h1
  · exact h x h1
  · have : x = l[k] := by simpa using h1
    rw [this]; exact hx
def RLong (w0 : World) (ms : List (List (List RFL))) (e : Ending) (w : World) : Prop := ∃ b, e = .returned (.bool b) ∧ w0 = w ∧ (b = false → ∀ m ∈ ms, smallL m)
set_option maxRecDepth 100000 in
set_option maxHeartbeats 6400000 in
theorem long_any (va : Value) (ms : List (List (List RFL))) (w : World) (ha : MatsL w va ms) :
    Calls Try.prog 26 #[va] w (RLong w ms) := by
  have sa := ha.sl
  have la := ha.len
  have hle := sa.le
  rw [la] at hle
  have hlb : ms.length ≤ 9223372036854775807 := by omega
  have HA := Lib.hid ha
  clear ha hle
  go_enter Try.func26, Try.ntmps26
  go_wp2_with fail
  go_loopw [3] (fun u3 wr => ∃ (i : Nat), i ≤ ms.length ∧ u3 = .int .i64 i ∧ w = wr ∧ ∀ m ∈ ms.take i, smallL m) (fun u3 _ => ms.length - (intOf u3).toNat)
  case atStart => exact ⟨0, Nat.zero_le _, rfl, rfl, fun m h => by simp at h⟩
  case round =>
    obtain ⟨i, hi, rfl, rfl, hsm⟩ := hrel
    have HSM := Lib.hid hsm
    clear hsm
    by_cases hil : i < ms.length
    · obtain ⟨r, hcr, hmr⟩ := HA.out.at' i hil
      have HNEXT := Lib.hid (mem_snoc (p := smallL) hil HSM.out)
      obtain ⟨M, hM⟩ : ∃ M, ms[i]'hil = M := ⟨_, rfl⟩
      rw [hM] at hmr HNEXT
      have slr := hmr.sl
      have lnr := hmr.len
      have hMb : M.length ≤ 9223372036854775807 := by have := slr.le; rw [lnr] at this; omega
      obtain ⟨r1, r2, r3, rfl, _⟩ := id slr
      obtain rfl : r2 = M.length := lnr
      have HMR := Lib.hid hmr
      have i1 : (0 : Int) ≤ (i : Int) := by omega
      have i2 : (i : Int) < (ms.length : Nat) := by omega
      clear hM hmr
      by_cases hbig : 30 < M.length
      · go_wp2_with fail
        go_ret
        exact ⟨true, rfl, rfl, fun h => by cases h⟩
      · go_wp2_with fail
        go_loopw [4, 5] (fun u4 u5 wr => ∃ (j N : Nat), j ≤ M.length ∧ u5 = .int .i64 j ∧ u4 = .int .i64 N ∧ N ≤ 30 * j ∧ w = wr ∧ ∀ r ∈ M.take j, smallR r) (fun _ u5 _ => M.length - (intOf u5).toNat)
        case atStart => exact ⟨0, 0, Nat.zero_le _, rfl, rfl, Nat.le_refl _, rfl, fun m h => by simp at h⟩
        case round =>
          obtain ⟨j, N, hj, rfl, rfl, hN, rfl, hsr⟩ := hrel
          have HSR := Lib.hid hsr
          clear hsr
          by_cases hjl : j < M.length
          · obtain ⟨s, hcs, hfs⟩ := HMR.out.at' j hjl
            have HNR := Lib.hid (mem_snoc (p := smallR) hjl HSR.out)
            obtain ⟨l, hl⟩ : ∃ l, M[j]'hjl = l := ⟨_, rfl⟩
            rw [hl] at hfs HNR
            have sls := hfs.sl
            have lns := hfs.len
            have hlb2 : l.length ≤ 9223372036854775807 := by have := sls.le; rw [lns] at this; omega
            obtain ⟨s1, s2, s3, rfl, _⟩ := id sls
            obtain rfl : s2 = l.length := lns
            have HFS := Lib.hid hfs
            have j1 : (0 : Int) ≤ (j : Int) := by omega
            have j2 : (j : Int) < (M.length : Nat) := by omega
            clear hl hfs
            by_cases hbg : 30 < l.length
            · go_wp2_with fail
              go_ret
              exact ⟨true, rfl, rfl, fun h => by cases h⟩
            · go_wp2_with fail
              go_loopw [6] (fun u6 wr => ∃ (k : Nat), k ≤ l.length ∧ u6 = .int .i64 k ∧ w = wr ∧ ∀ x ∈ l.take k, smallX x) (fun u6 _ => l.length - (intOf u6).toNat)
              case atStart => exact ⟨0, Nat.zero_le _, rfl, rfl, fun m h => by simp at h⟩
              case round =>
                obtain ⟨k, hk, rfl, rfl, hsx⟩ := hrel
                have HSX := Lib.hid hsx
                clear hsx
                by_cases hkl : k < l.length
                · obtain ⟨xa, xb, d1, d2, d3, hxa, hxb⟩ := HFS.out.at' k hkl
                  have HNX := Lib.hid (mem_snoc (p := smallX) hkl HSX.out)
                  obtain ⟨x, hx⟩ : ∃ x, l[k]'hkl = x := ⟨_, rfl⟩
                  rw [hx] at d1 hxa hxb HNX
                  have sxa := hxa.sl
                  have sxb := hxb.sl
                  have lxa := hxa.len
                  have lxb := hxb.len
                  obtain ⟨p1, p2, p3, rfl, _⟩ := id sxa
                  obtain ⟨q1, q2, q3, rfl, _⟩ := id sxb
                  obtain ⟨na, hna⟩ : ∃ n, x.a.length = n := ⟨_, rfl⟩
                  obtain ⟨nb, hnb⟩ : ∃ n, x.b.length = n := ⟨_, rfl⟩
                  rw [hna] at lxa
                  rw [hnb] at lxb
                  have HNA := Lib.hid hna
                  have HNB := Lib.hid hnb
                  have k1 : (0 : Int) ≤ (k : Int) := by omega
                  have k2 : (k : Int) < (l.length : Nat) := by omega
                  have l1 : p2 = na := lxa
                  have l2 : q2 = nb := lxb
                  subst l1 l2
                  clear hx hxa hxb hna hnb
                  by_cases ga : 4 < p2
                  · go_wp2_with fail
                    go_ret
                    exact ⟨true, rfl, rfl, fun h => by cases h⟩
                  · by_cases gb : 4 < q2
                    · go_wp2_with fail
                      go_ret
                      exact ⟨true, rfl, rfl, fun h => by cases h⟩
                    · go_wp2_with fail
                      go_roundw
                      case rel => exact ⟨k + 1, hkl, by go_num, trivial, HNX.out ⟨by rw [HNA.out]; omega, by rw [HNB.out]; omega⟩⟩
                      case measure => simp [intOf]; omega
                · obtain rfl : k = l.length := by omega
                  have HALL : Hid (∀ x ∈ l, smallX x) := Lib.hid (by have h := HSX.out; rwa [List.take_length] at h)
                  go_wp2_with fail
                  go_roundw
                  case rel => exact ⟨j + 1, N + l.length, hjl, by go_num, by go_num, by omega, trivial, HNR.out ⟨by omega, HALL.out⟩⟩
                  case measure => simp [intOf]; omega
          · obtain rfl : j = M.length := by omega
            have HALL : Hid (smallL M) := Lib.hid (by have h := HSR.out; rwa [List.take_length] at h)
            by_cases h60 : 60 < N
            · go_wp2_with fail
              go_ret
              exact ⟨true, rfl, rfl, fun h => by cases h⟩
            · go_wp2_with fail
              go_roundw
              case rel => exact ⟨i + 1, hil, by go_num, trivial, HNEXT.out HALL.out⟩
              case measure => simp [intOf]; omega
    · obtain rfl : i = ms.length := by omega
      have HALL : Hid (∀ m ∈ ms, smallL m) := Lib.hid (by have h := HSM.out; rwa [List.take_length] at h)
      go_wp2_with fail
      go_ret
      exact ⟨false, rfl, rfl, fun _ => HALL.out⟩
end Go.Proofs.Ytbhkibilnmoljaa
namespace Go.Proofs.Ytbhkibilnmoljaa
set_option linter.unusedVariables false
set_option linter.unusedSimpArgs false
open Go.RowKit

theorem mat_oneL {w : World} {b : Nat} {r : Value} {q : List RFL} (hb : VarB w b #[r]) (hq : FracsL w r q) : MatL w (.slice (some ⟨b, 0, none⟩) 1 1) [q] := by
  refine ⟨⟨_, 1, 1, rfl, Nat.le_refl _, by simp [maxLen], fun e => by cases e⟩, rfl, fun j hj => ?_⟩
  obtain rfl : j = 0 := by simp at hj; omega
  have hp : ∀ k, ptr (.slice (some ⟨b, 0, none⟩) 1 1) k = ⟨b, k, none⟩ := fun k => by simp only [ptr, base, Addr.add_lit, Nat.zero_add]
  exact ⟨r, by rw [hp]; exact hb.cell 0 rfl, hq⟩
theorem mats_three {w : World} {b : Nat} {r s t : Value} {x y z : List (List RFL)} (hb : VarB w b #[r, s, t]) (h1 : MatL w r x) (h2 : MatL w s y) (h3 : MatL w t z) : MatsL w (.slice (some ⟨b, 0, none⟩) 3 3) [x, y, z] := by
  refine ⟨⟨_, 3, 3, rfl, Nat.le_refl _, by simp [maxLen], fun e => by cases e⟩, rfl, fun j hj => ?_⟩
  have hp : ∀ k, ptr (.slice (some ⟨b, 0, none⟩) 3 3) k = ⟨b, k, none⟩ := fun k => by simp only [ptr, base, Addr.add_lit, Nat.zero_add]
  rcases (show j = 0 ∨ j = 1 ∨ j = 2 by simp at hj; omega) with rfl | rfl | rfl
  · exact ⟨r, by rw [hp]; exact hb.cell 0 rfl, h1⟩
  · exact ⟨s, by rw [hp]; exact hb.cell 1 rfl, h2⟩
  · exact ⟨t, by rw [hp]; exact hb.cell 2 rfl, h3⟩
theorem smallX.small {x : RFL} (h : smallX x) : x.small := ⟨by have := h.1; omega, by have := h.2; omega⟩
set_option maxRecDepth 100000 in
set_option maxHeartbeats 6400000 in
theorem products_law (va vb vv : Value) (a b : List (List RFL)) (v : List RFL) (n : Int) (w : World) (ha : MatL w va a) (hb : MatL w vb b) (hv : FracsL w vv v) :
    Calls Try.prog 7 #[va, vb, vv, .int .i64 n] w (fun e w' => e = .returned (.bool true) ∧ Below w.heap.size w w') := by
  obtain ⟨a1, a2, a3, rfl, _⟩ := id ha.sl
  obtain ⟨b1, b2, b3, rfl, _⟩ := id hb.sl
  obtain ⟨v1, v2, v3, rfl, _⟩ := id hv.sl
  have sa := ha.sl
  have sb := hb.sl
  have sv := hv.sl
  have k1 := below_alloc w (.cells #[.slice v1 v2 v3] 26)
  have k2 := below_alloc (w.alloc (.cells #[.slice v1 v2 v3] 26)) (.cells #[.slice a1 a2 a3, .slice b1 b2 b3, .slice (some ⟨w.heap.size, 0, none⟩) 1 1] 24)
  have k12 := below_then k1 k2
  have hsz : (w.alloc (.cells #[.slice v1 v2 v3] 26)).heap.size = w.heap.size + 1 := by simp
  have hB1 := VarB.new w #[.slice v1 v2 v3] 26
  have hB2 := VarB.new (w.alloc (.cells #[.slice v1 v2 v3] 26)) #[.slice a1 a2 a3, .slice b1 b2 b3, .slice (some ⟨w.heap.size, 0, none⟩) 1 1] 24
  rw [hsz] at hB2
  have HMS := Lib.hid (mats_three hB2 (ha.below k12) (hb.below k12) ((mat_oneL hB1 (hv.below k1)).below k2))
  have HA := Lib.hid ha
  have HB := Lib.hid hb
  have HV := Lib.hid hv
  have HK := Lib.hid k12
  clear ha hb hv k1 k2 k12 hsz hB1 hB2
  go_enter Try.func7, Try.ntmps7
  go_upto_if 26 with (go_at_call 26; (with_reducible refine (long_any _ [a, b, [v]] _ HMS.out).mono ?_); rintro e1 w1 ⟨bb, rfl, hw1, hsm⟩)
  have HKW : Hid (Below w.heap.size w w1) := Lib.hid (by rw [← hw1]; exact HK.out)
  clear HMS hw1
  cases bb with
  | true =>
    go_wp2_with (go_at_call 15; (with_reducible refine (awake_any _).mono ?_); rintro e6 w6 ⟨rfl, hb6⟩)
    go_ret
    exact ⟨rfl, below_then HKW.out hb6⟩
  | false =>
    have hall := hsm rfl
    have hsa : smallL a := hall a (by simp)
    have hsb : smallL b := hall b (by simp)
    have hsv : smallR v := hall [v] (by simp) v (by simp)
    have HNA := Lib.hid ((HA.out.raw fun r hr x hx => ((hsa r hr).2 x hx).small).below HKW.out)
    have HNB := Lib.hid ((HB.out.raw fun r hr x hx => ((hsb r hr).2 x hx).small).below HKW.out)
    have HNV := Lib.hid ((HV.out.raw fun x hx => (hsv.2 x hx).small).below HKW.out)
    have HVL : Hid ((v.map RFL.rf).length ≤ 65536) := Lib.hid (by rw [List.length_map]; have := hsv.1; omega)
    obtain ⟨am, ham⟩ : ∃ m, (a.map fun r => r.map RFL.rf) = m := ⟨_, rfl⟩
    obtain ⟨bm, hbm⟩ : ∃ m, (b.map fun r => r.map RFL.rf) = m := ⟨_, rfl⟩
    obtain ⟨vm, hvm⟩ : ∃ m, v.map RFL.rf = m := ⟨_, rfl⟩
    rw [ham] at HNA
    rw [hbm] at HNB
    rw [hvm] at HNV HVL
    obtain ⟨⟨L1, c1⟩, h1⟩ : ∃ R, mulAns am bm = R := ⟨_, rfl⟩
    obtain ⟨⟨L2, c2⟩, h2⟩ : ∃ R, appAns am vm = R := ⟨_, rfl⟩
    obtain ⟨⟨L3, c3⟩, h3⟩ : ∃ R, oneAns n = R := ⟨_, rfl⟩
    have H1 := Lib.hid h1
    have H2 := Lib.hid h2
    have H3 := Lib.hid h3
    clear hsm hall hsa hsb hsv ham hbm hvm h1 h2 h3
    go_wp2_with (first
      | (go_at_call 21; (with_reducible refine (lmul_any _ _ am bm _ HNA.out HNB.out).mono ?_); rw [H1.out]; rintro e2 w2 ⟨p2, rfl, hm2, hb2⟩
         have HP2 := Lib.hid hm2
         have HA2 := Lib.hid (HNA.out.below hb2)
         have HB2 := Lib.hid (HNB.out.below hb2)
         have HV2 := Lib.hid (HNV.out.below hb2)
         have HK2 := Lib.hid (below_then HKW.out hb2)
         clear hm2 hb2)
      | (go_at_call 27; (with_reducible refine (r5mul_any _ _ am bm _ HA2.out HB2.out).mono ?_); rw [H1.out]; rintro e3 w3 ⟨p3, rfl, hm3, hb3⟩
         have HQ3 := Lib.hid hm3
         have HP3 := Lib.hid (HP2.out.below hb3)
         have HA3 := Lib.hid (HA2.out.below hb3)
         have HV3 := Lib.hid (HV2.out.below hb3)
         have HK3 := Lib.hid (below_then HK2.out hb3)
         clear hm3 hb3)
      | (go_at_call 19; (with_reducible refine (lapply_any _ _ am vm _ HA3.out HV3.out HVL.out).mono ?_); rw [H2.out]; rintro e4 w4 ⟨p4, rfl, hm4, hb4⟩
         have HX4 := Lib.hid hm4
         have HQ4 := Lib.hid (HQ3.out.below hb4)
         have HP4 := Lib.hid (HP3.out.below hb4)
         have HA4 := Lib.hid (HA3.out.below hb4)
         have HV4 := Lib.hid (HV3.out.below hb4)
         have HK4 := Lib.hid (below_then HK3.out hb4)
         clear hm4 hb4)
      | (go_at_call 28; (with_reducible refine (rapply_any _ _ am vm _ HA4.out HV4.out HVL.out).mono ?_); rw [H2.out]; rintro e5 w5 ⟨p5, rfl, hm5, hb5⟩
         have HY5 := Lib.hid hm5
         have HX5 := Lib.hid (HX4.out.below hb5)
         have HQ5 := Lib.hid (HQ4.out.below hb5)
         have HP5 := Lib.hid (HP4.out.below hb5)
         have HK5 := Lib.hid (below_then HK4.out hb5)
         clear hm5 hb5)
      | (go_at_call 29; (with_reducible refine (lident_any n _).mono ?_); rw [H3.out]; rintro e6 w6 ⟨p6, rfl, hm6, hb6⟩
         have HO6 := Lib.hid hm6
         have HY6 := Lib.hid (HY5.out.below hb6)
         have HX6 := Lib.hid (HX5.out.below hb6)
         have HQ6 := Lib.hid (HQ5.out.below hb6)
         have HP6 := Lib.hid (HP5.out.below hb6)
         have HK6 := Lib.hid (below_then HK5.out hb6)
         clear hm6 hb6)
      | (go_at_call 30; (with_reducible refine (rident_any n _).mono ?_); rw [H3.out]; rintro e7 w7 ⟨p7, rfl, hm7, hb7⟩
         have HT7 := Lib.hid hm7
         have HO7 := Lib.hid (HO6.out.below hb7)
         have HY7 := Lib.hid (HY6.out.below hb7)
         have HX7 := Lib.hid (HX6.out.below hb7)
         have HQ7 := Lib.hid (HQ6.out.below hb7)
         have HP7 := Lib.hid (HP6.out.below hb7)
         have HK7 := Lib.hid (below_then HK6.out hb7)
         clear hm7 hb7)
      | (go_at_call 25; first
         | ((with_reducible refine (same_mat p2 p3 _ _ _ HP7.out HQ7.out).mono ?_); rintro e8 w8 ⟨⟨b8, rfl, hb8⟩, hbel8⟩; obtain rfl : b8 = true := hb8.2 rfl; clear hb8
            have HT8 := Lib.hid (HT7.out.below hbel8)
            have HO8 := Lib.hid (HO7.out.below hbel8)
            have HY8 := Lib.hid (HY7.out.below hbel8)
            have HX8 := Lib.hid (HX7.out.below hbel8)
            have HK8 := Lib.hid (below_then HK7.out hbel8)
            clear hbel8)
         | ((with_reducible refine (same_mat p6 p7 _ _ _ HO9.out HT9.out).mono ?_); rintro e10 w10 ⟨⟨b10, rfl, hb10⟩, hbel10⟩; obtain rfl : b10 = true := hb10.2 rfl; clear hb10
            have HK10 := Lib.hid (below_then HK9.out hbel10)
            clear hbel10))
      | (go_at_call 20; (with_reducible refine (same_fracs _ _ _ _ _ HX8.out HY8.out).mono ?_); rintro e9 w9 ⟨⟨b9, rfl, hb9⟩, hbel9⟩; obtain rfl : b9 = true := hb9.2 rfl; clear hb9
         have HT9 := Lib.hid (HT8.out.below hbel9)
         have HO9 := Lib.hid (HO8.out.below hbel9)
         have HK9 := Lib.hid (below_then HK8.out hbel9)
         clear hbel9)
      | (go_at_call 15; (with_reducible refine (awake_any _).mono ?_); rintro e11 w11 ⟨rfl, hb11⟩))
    go_ret
    exact ⟨rfl, below_then HK10.out hb11⟩
end Go.Proofs.Ytbhkibilnmoljaa
namespace Go.Proofs.Ytbhkibilnmoljaa
open Go.ChangeShapes Go.WideShapes Go.ChangeAt Go.RowKit Go.Deep
set_option linter.unusedVariables false
set_option linter.unusedSimpArgs false

section
variable {H : Type} {enc : TypeId × Value → H} {W : World}
theorem Try.cellsU32 : Try.prog.cellsOf 94 = 1 := by kernel_rfl
theorem Try.cellsFrac : Try.prog.cellsOf 30 = 3 := by kernel_rfl
theorem Try.cellsNat : Try.prog.cellsOf 28 = 1 := by kernel_rfl
theorem Try.cellsRow : Try.prog.cellsOf 26 = 1 := by kernel_rfl
theorem Try.cellsMat : Try.prog.cellsOf 24 = 1 := by kernel_rfl
theorem Try.cellsBool : Try.prog.cellsOf 4 = 1 := by kernel_rfl
/-- A number. -/
theorem nat_in0 {fuel : Nat} {cs : List Value} {x : DataW H × List MemPlace} (h : DataW.trod enc Try.prog W 0 (fun _ => true) true fuel 28 cs = some x) :
    ∃ v l, cs = [v] ∧ NatV W v l := by
  rcases open_ints Try.underlying28 Try.underlying94 Try.cellsU32 h with ⟨rfl, rfl⟩ | ⟨a, len, cap, zs, rfl, _, hl, hm, hz, rfl, hcell, hwz⟩
  · exact ⟨_, [], rfl, NatV.nil W⟩
  · simp only [if_true] at hz
    have hb : ∀ n ∈ zs, 0 ≤ n ∧ n < 4294967296 := fun n hn => by
      have := hwz n hn
      simp [Lit.wf, IntKind.min, IntKind.max, IntKind.signed, IntKind.bits] at this
      omega
    refine ⟨_, (zs.take len).map Int.toNat, rfl, ⟨⟨a, len, cap, rfl, hl, hm, fun e => by cases e⟩, by simp [slen]; omega, fun j hj => ?_, fun x hx => ?_⟩⟩
    · have hj2 : j < len := by simp at hj; omega
      have hj3 : j < zs.length := by omega
      have h1 := hcell j hj3
      have h2 := hb _ (List.getElem_mem hj3)
      have e1 : zs.getD j 0 = zs[j] := by simp [List.getD, List.getElem?_eq_getElem hj3]
      rw [e1] at h1
      simp only [ptr, base, List.getElem_map, List.getElem_take]
      rw [h1]
      congr 2
      omega
    · obtain ⟨n, hn, rfl⟩ := List.mem_map.1 hx
      have := hb n (List.mem_of_mem_take hn)
      omega
set_option maxRecDepth 100000 in
/-- A fraction's three cells. -/
theorem frac_in0 {fuel : Nat} {cs : List Value} {x : DataW H × List MemPlace} (h : DataW.trod enc Try.prog W 0 (fun _ => true) true fuel 30 cs = some x) :
    ∃ (y : RFL) (a b : Value), cs = [.bool y.neg, a, b] ∧ NatV W a y.a ∧ NatV W b y.b := by
  obtain ⟨y0, y1, y2, n, rfl, hlen, h0, h1, h2⟩ := trod_struct3 Try.underlying30 h
  rw [Try.cellsFrac] at hlen
  match cs, hlen with
  | [c0, c1, c2], _ =>
    obtain ⟨b, e0, _⟩ := DataW.trod_bool Try.underlying4 h0
    obtain ⟨v1, l1, e1, n1⟩ := nat_in0 h1
    obtain ⟨v2, l2, e2, n2⟩ := nat_in0 h2
    rw [Try.cellsBool] at e0
    rw [Try.cellsNat] at e1 e2
    simp at e0 e1 e2
    subst e0 e1 e2
    exact ⟨⟨b, l1, l2⟩, _, _, rfl, n1, n2⟩
instance : Inhabited RFL := ⟨⟨false, [], []⟩⟩
/-- A list of fractions. -/
theorem fracs_in0 {fuel : Nat} {cs : List Value} {x : DataW H × List MemPlace} (h : DataW.trod enc Try.prog W 0 (fun _ => true) true fuel 26 cs = some x) :
    ∃ v l, cs = [v] ∧ FracsL W v l := by
  rcases open_slice Try.underlying26 h with ⟨rfl, rfl⟩ | ⟨a, len, cap, m, n, D, Pl, rfl, _, hl, hm, hmm, rfl, hx⟩
  · exact ⟨_, [], rfl, ⟨IsSl.nil, rfl, fun j h => by simp at h⟩⟩
  · simp only [if_true] at hmm
    subst hmm
    obtain ⟨Y, hY⟩ := choose_lt (α := RFL) (n := len) (p := fun i y => FracLAt W (.slice (some a) len m) (i * 3) y) (fun i hi => by
      obtain ⟨cs', e1, e2⟩ := hx i (by omega)
      obtain ⟨y, va, vb, rfl, n1, n2⟩ := frac_in0 e2
      rw [Try.cellsFrac] at e1
      have hc := (World.cells?_some e1).2.2
      refine ⟨y, va, vb, ?_, ?_, ?_, n1, n2⟩
      · simpa [ptr, base, add_add] using hc 0 (by omega)
      · simpa [ptr, base, Go.Deep.add_add] using hc 1 (by omega)
      · simpa [ptr, base, Go.Deep.add_add] using hc 2 (by omega))
    refine ⟨_, (List.range len).map Y, rfl, ⟨⟨a, len, m, rfl, hl, hm, fun e => by cases e⟩, by simp [slen], fun j hj => ?_⟩⟩
    simp only [List.getElem_map, List.getElem_range]
    exact hY j (by simpa using hj)
/-- A list of lists of fractions. -/
theorem mat_in0 {fuel : Nat} {cs : List Value} {x : DataW H × List MemPlace} (h : DataW.trod enc Try.prog W 0 (fun _ => true) true fuel 24 cs = some x) :
    ∃ v l, cs = [v] ∧ MatL W v l := by
  rcases open_slice1 Try.underlying24 Try.cellsRow h with ⟨rfl, rfl⟩ | ⟨a, len, cap, m, n, V, D, Pl, rfl, _, hl, hm, hmm, rfl, hx⟩
  · exact ⟨_, [], rfl, ⟨IsSl.nil, rfl, fun j h => by simp at h⟩⟩
  · simp only [if_true] at hmm
    subst hmm
    obtain ⟨Y, hY⟩ := choose_lt (α := List RFL) (n := len) (p := fun i y => FracsL W (V i) y) (fun i hi => by
      obtain ⟨e1, e2⟩ := hx i (by omega)
      obtain ⟨v, l, e3, h3⟩ := fracs_in0 e2
      simp at e3
      subst e3
      exact ⟨l, h3⟩)
    refine ⟨_, (List.range len).map Y, rfl, ⟨⟨a, len, m, rfl, hl, hm, fun e => by cases e⟩, by simp [slen], fun j hj => ?_⟩⟩
    simp only [List.getElem_map, List.getElem_range]
    have hjl : j < len := by simpa using hj
    exact ⟨V j, (hx j (by omega)).1, hY j hjl⟩
end
end Go.Proofs.Ytbhkibilnmoljaa
namespace Go.Proofs.Ytbhkibilnmoljaa
open Go.ChangeShapes Go.WideShapes Go.ChangeAt Go.RowKit
set_option linter.unusedVariables false
set_option linter.unusedSimpArgs false

theorem Try.cellsI8 : Try.prog.cellsOf 37 = 1 := by kernel_rfl
section
variable {H : Type} {enc : TypeId × Value → H} {P : Program}
theorem trodAll_stays (hl : laidOutB P = true) {W W' : World} (hb : Below W.heap.size W W') : ∀ {ts : List TypeId} {vs : List Value} {ds : List (DataW H)} {ps : List MemPlace}, (ts.all fun t => P.readableRec t && decide (t < P.types.size)) = true →
    DataW.TrodAll enc P W 0 (fun _ => true) true ts vs ds ps → (∀ x ∈ ps, x.block < W.heap.size) → DataW.TrodAll enc P W' 0 (fun b => decide (b < W.heap.size)) true ts vs ds ps
  | [], vs, ds, ps, _, h, _ => by
    obtain ⟨rfl, rfl, rfl⟩ := trodAll_nil h
    exact trodAll_mk0
  | t :: ts, vs, ds, ps, hr, h, hlt => by
    obtain ⟨v, vs', d, ds', p, q, rfl, rfl, rfl, h1, h2⟩ := trodAll_cons h
    simp only [List.all_cons, Bool.and_eq_true, decide_eq_true_eq] at hr
    obtain ⟨⟨r1, r2⟩, r3⟩ := hr
    exact trodAll_cons_mk (Below.trod hl r1 r2 h1 hb fun x hx => hlt x (List.mem_append_left _ hx)) (trodAll_stays hl hb (ts := ts) r3 h2 fun x hx => hlt x (List.mem_append_right _ hx))
/-- A slice of small integers that came in. -/
theorem i8_in {W : World} {a : Addr} {len cap : Nat} {zs : List Int} (hl : len ≤ cap) (hm : cap ≤ maxLen) (hz : zs.length = cap) (hcell : ∀ i, i < zs.length → W.cell? (a.add i) = some (.int .i8 (zs.getD i 0))) (hwz : ∀ n ∈ zs, (Lit.int .i8 n).wf = true) :
    I8V W (.slice (some a) len cap) (zs.take len) := by
  have hb : ∀ n ∈ zs, -128 ≤ n ∧ n ≤ 127 := fun n hn => by
    have := hwz n hn
    simp [Lit.wf, IntKind.min, IntKind.max, IntKind.signed, IntKind.bits] at this
    omega
  refine ⟨⟨⟨a, len, cap, rfl, hl, hm, fun e => by cases e⟩, by simp [slen]; omega, fun j hj => ?_⟩, fun x hx => hb x (List.mem_of_mem_take hx)⟩
  have hj2 : j < len := by simp at hj; omega
  have hj3 : j < zs.length := by omega
  have h1 := hcell j hj3
  have e1 : zs.getD j 0 = zs[j] := by simp [List.getD, List.getElem?_eq_getElem hj3]
  rw [e1] at h1
  simp only [ptr, base, List.getElem_map, List.getElem_take]
  exact h1
end
section
variable {H : Type} {enc : TypeId × Value → H}
set_option maxRecDepth 100000 in
theorem u8_came {W : World} {base : Nat} {v : Value} {d : DataW H} {p : List MemPlace} (hv : Value.okWide Try.prog W .any base 5 v) (h : DataW.Trod enc Try.prog W 0 (fun _ => true) true 5 v d p) : ∃ x : Nat, v = .int .u8 x ∧ x < 256 := by
  obtain ⟨n, rfl, rfl, rfl, hwn⟩ := open_int Try.underlying5 hv h
  have hn : 0 ≤ n ∧ n < 256 := by
    simp [Lit.wf, IntKind.min, IntKind.max, IntKind.signed, IntKind.bits] at hwn
    omega
  exact ⟨n.toNat, by congr 1; omega, by omega⟩
set_option maxRecDepth 100000 in
theorem i8_came {W : World} {base : Nat} {v : Value} {d : DataW H} {p : List MemPlace} (hv : Value.okWide Try.prog W .any base 22 v) (h : DataW.Trod enc Try.prog W 0 (fun _ => true) true 22 v d p) : ∃ l, I8V W v l := by
  obtain ⟨a, len, cap, rfl⟩ := okWide_slice Try.underlying22 hv
  obtain ⟨fuel, hf⟩ := h
  rcases open_ints Try.underlying22 Try.underlying37 Try.cellsI8 hf with ⟨hcs, hx⟩ | ⟨a, len', cap', zs, hcs, _, hl, hm, hz, hx, hcell, hwz⟩
  · simp [Value.cells] at hcs
    obtain ⟨rfl, rfl, rfl⟩ := hcs
    exact ⟨[], ⟨IsSl.nil, rfl, fun j h => by simp at h⟩, fun x h => by simp at h⟩
  · simp [Value.cells] at hcs
    obtain ⟨rfl, rfl, rfl⟩ := hcs
    simp only [if_true] at hz
    exact ⟨_, i8_in hl hm hz hcell hwz⟩
end
end Go.Proofs.Ytbhkibilnmoljaa
namespace Go.Proofs.Ytbhkibilnmoljaa
open Go.ChangeShapes Go.WideShapes Go.ChangeAt Go.RowKit
set_option linter.unusedVariables false
set_option linter.unusedSimpArgs false

section
variable {H : Type} {enc : TypeId × Value → H}
set_option maxRecDepth 100000 in
theorem int_came {W : World} {base : Nat} {v : Value} {d : DataW H} {p : List MemPlace} (hv : Value.okWide Try.prog W .any base 3 v) (h : DataW.Trod enc Try.prog W 0 (fun _ => true) true 3 v d p) : ∃ x : Int, v = .int .i64 x := by
  obtain ⟨n, rfl, rfl, rfl, hwn⟩ := open_int Try.underlying3 hv h
  exact ⟨n, rfl⟩
set_option maxRecDepth 100000 in
theorem mat_came {W : World} {base : Nat} {v : Value} {d : DataW H} {p : List MemPlace} (hv : Value.okWide Try.prog W .any base 24 v) (h : DataW.Trod enc Try.prog W 0 (fun _ => true) true 24 v d p) : ∃ l, MatL W v l := by
  obtain ⟨a, len, cap, rfl⟩ := okWide_slice Try.underlying24 hv
  obtain ⟨fuel, hf⟩ := h
  obtain ⟨v, l, e, hm⟩ := mat_in0 hf
  simp [Value.cells] at e
  subst e
  exact ⟨l, hm⟩
set_option maxRecDepth 100000 in
theorem fr_came {W : World} {base : Nat} {v : Value} {d : DataW H} {p : List MemPlace} (hv : Value.okWide Try.prog W .any base 26 v) (h : DataW.Trod enc Try.prog W 0 (fun _ => true) true 26 v d p) : ∃ l, FracsL W v l := by
  obtain ⟨a, len, cap, rfl⟩ := okWide_slice Try.underlying26 hv
  obtain ⟨fuel, hf⟩ := h
  obtain ⟨v, l, e, hm⟩ := fracs_in0 hf
  simp [Value.cells] at e
  subst e
  exact ⟨l, hm⟩
end
end Go.Proofs.Ytbhkibilnmoljaa
namespace Go.Proofs.Ytbhkibilnmoljaa
open Go.ChangeShapes Go.WideShapes Go.ChangeAt Go.RowKit
set_option linter.unusedVariables false
set_option linter.unusedSimpArgs false

set_option maxRecDepth 100000 in
theorem linearProducts_lifted (os : Os) (started : os.Started) (H : Type) (enc : TypeId × Value → H) :
    ReturnsInHanded {} Try.checked os 7 .any (Rows.linearProductsSpec.pre6 enc Try.prog Try.f7 Rows.linearProductsRow.domain false) (Rows.linearProductsSpec.post enc Try.prog Try.f7 false true false false) := by
  refine returnsInHanded_of_change (C := Try.checked) Try.ownK started (by kernel_rfl) Try.func7
    (ChangeSpec.witness6 (enc := enc) (C := Try.checked) false ⟨#[], #[.slice none 0 0, .slice none 0 0, .slice none 0 0, .int .i64 0], []⟩ 8 (by kernel_rfl) (by kernel_rfl) (by kernel_rfl) (by kernel_rfl)) ?_
  intro W base args ds gs before hval0 hW hcnd _
  have hval : ∀ (j : Nat) t v, Try.f7.params[j]? = some t → args[j]? = some v → Value.okWide Try.prog W .any base t v := hval0
  have hW' := hW
  obtain ⟨p, q, hA0, hV, rfl, hfz, hnd⟩ := hW
  have hA : DataW.TrodAll enc Try.prog W 0 (fun _ => true) true Try.f7.params.toList args.toList ds p := hA0
  rw [Try.params7] at hA hval
  obtain ⟨rfl, rfl⟩ := trodVars_none hV
  simp only [List.append_nil] at hW'
  have hback := fun (W' : World) (hb : Below W.heap.size W W') => trodAll_stays (enc := enc) Try.laidOut hb (by kernel_rfl) hA hW'.lt
  obtain ⟨v0, vs0, d0, ds0, p0, q0, e0, rfl, _, h0, hA⟩ := trodAll_cons hA
  obtain ⟨v1, vs1, d1, ds1, p1, q1, rfl, rfl, _, h1, hA⟩ := trodAll_cons hA
  obtain ⟨v2, vs2, d2, ds2, p2, q2, rfl, rfl, _, h2, hA⟩ := trodAll_cons hA
  obtain ⟨v3, vs3, d3, ds3, p3, q3, rfl, rfl, _, h3, hA⟩ := trodAll_cons hA
  obtain ⟨rfl, rfl, _⟩ := trodAll_nil hA
  obtain rfl : args = #[v0, v1, v2, v3] := by cases args; simp_all
  obtain ⟨l0, g0⟩ := mat_came (hval 0 24 v0 rfl rfl) h0
  obtain ⟨l1, g1⟩ := mat_came (hval 1 24 v1 rfl rfl) h1
  obtain ⟨l2, g2⟩ := fr_came (hval 2 26 v2 rfl rfl) h2
  obtain ⟨x3, rfl⟩ := int_came (hval 3 3 v3 rfl rfl) h3
  refine (products_law _ _ _ l0 l1 l2 x3 W g0 g1 g2).mono fun e W' ⟨he, hnx⟩ => ?_
  subst he
  refine ⟨_, rfl, _, _, _, [], p, [], hW', ?_, hback _ hnx, ?_, hnx.frame _, fun h => by cases h⟩
  · exact trodAll_mk1 (shut_bool Try.underlying4 _)
  · rfl
theorem linearProducts_holds : Rows.LinearProductsSaid :=
  OpenClaim.holds_of_wide 7 Try.f7 rfl rfl rfl rfl rfl rfl rfl ⟨rfl, rfl, rfl, rfl, rfl⟩ rfl rfl rfl rfl rfl (by kernel_rfl) Try.func7 (by kernel_rfl)
    (of_decide_eq_true (by kernel_rfl)) (by unfold Func.isWrapper; first | (rw [if_pos (by decide +kernel)]; kernel_rfl) | (rw [if_neg (by decide +kernel)]; exact ⟨rfl, rfl⟩))
    (fun os started H enc _ => linearProducts_lifted os started H enc)
#print axioms linearProducts_holds
end Go.Proofs.Ytbhkibilnmoljaa
