/-
  package drydockref02: Valid, Large, fits, Reduce, Order, Same, Less, Sign, Cmp of any fractions.
  Ahead of it: Six cells kept behind a store; growth in the forms that walks meet. No program is named here. package drydockref02: Valid, Large, fits, times, Mul.
-/
import Derived.Test.YtbhkibilnmoljaaQGn
import Derived.Test.YtbhkibilnmoljaaQRb2
namespace Go.Proofs.Ytbhkibilnmoljaa
set_option linter.unusedVariables false
open Go.RowKit

theorem FracsC.al {w : World} {v : Value} {q : List Rat} {o : Obj} (h : FracsC w v q) : FracsC (w.alloc o) v q := h.below (below_alloc w o)
theorem C3.dr {w : World} {b : Nat} {v0 v1 v2 : Value} (h : C3 w b v0 v1 v2) : C3 w.drew b v0 v1 v2 := h.belowS (below_drew w)
theorem keep6 {w : World} {a1 a2 a3 a4 a5 a6 : Addr} {x1 x2 x3 x4 x5 x6 : Value} (h : w.cell? a1 = some x1 ∧ w.cell? a2 = some x2 ∧ w.cell? a3 = some x3 ∧ w.cell? a4 = some x4 ∧ w.cell? a5 = some x5 ∧ w.cell? a6 = some x6) {p : Addr}
    (h1 : p.block ≠ a1.block) (h2 : p.block ≠ a2.block) (h3 : p.block ≠ a3.block) (h4 : p.block ≠ a4.block) (h5 : p.block ≠ a5.block) (h6 : p.block ≠ a6.block) (u : Value) :
    (w.setCell p u).cell? a1 = some x1 ∧ (w.setCell p u).cell? a2 = some x2 ∧ (w.setCell p u).cell? a3 = some x3 ∧ (w.setCell p u).cell? a4 = some x4 ∧ (w.setCell p u).cell? a5 = some x5 ∧ (w.setCell p u).cell? a6 = some x6 := by
  have key : ∀ a x, w.cell? a = some x → p.block ≠ a.block → (w.setCell p u).cell? a = some x := fun a x ha hp => by
    rw [World.cell?_setCell_other _ _ _ _ (fun e => hp (by rw [e]))]; exact ha
  obtain ⟨k1, k2, k3, k4, k5, k6⟩ := h
  exact ⟨key _ _ k1 h1, key _ _ k2 h2, key _ _ k3 h3, key _ _ k4 h4, key _ _ k5 h5, key _ _ k6 h6⟩
theorem cmpR_self_iff (p q : Rat) : cmpR p q = 0 ↔ p = q := by
  unfold cmpR
  constructor
  · intro h
    split at h
    · omega
    · split at h
      · omega
      · next h1 h2 => exact Rat.le_antisymm (Rat.not_lt.1 h2) (Rat.not_lt.1 h1)
  · rintro rfl
    rw [if_neg (Rat.lt_irrefl), if_neg (Rat.lt_irrefl)]
end Go.Proofs.Ytbhkibilnmoljaa
namespace Go.Proofs.Ytbhkibilnmoljaa
set_option linter.unusedVariables false
set_option linter.unusedSimpArgs false
open Go.RowKit

set_option maxHeartbeats 800000 in
theorem r2times_any (va vb : Value) (m n : Nat) (w : World) (ha : NatN w va m) (hb : NatN w vb n) (hm : nlen m ≤ 128) (hn : nlen n ≤ 128) :
    Calls Try.prog 40 #[va, vb] w (RNat w (m * n)) := by
  have HM := Lib.hid (show nlen m ≤ 512 by omega)
  have HN := Lib.hid (show nlen n ≤ 512 by omega)
  have HMN : Hid (nlen (m * n) ≤ 512) := Lib.hid (by
    have h1 := nlen_le.1 hm
    have h2 := nlen_le.1 hn
    refine nlen_le.2 ?_
    have h3 : m * n ≤ pw 128 * pw 128 := Nat.mul_le_mul (by omega) (by omega)
    have h4 : pw 128 * pw 128 < pw 512 := by decide +kernel
    omega)
  clear hm hn
  go_enter Try.func40, Try.ntmps40
  go_wp2_with (go_at_call 72; (with_reducible refine (rmul_any _ _ m n _ ha hb HM.out HN.out).mono ?_); rintro e1 w1 ⟨r, er, rfl, hr, hb1⟩)
  go_ret
  exact ⟨r, rfl, (hr.1 HMN.out).2, hb1⟩
set_option maxHeartbeats 800000 in
theorem r2valid_can (v : Value) (q : Rat) (w : World) (h : FracC w v q) (hf : fits q) :
    Calls Try.prog 37 #[v] w fun e w' => e = .returned (.bool true) ∧ Below w.heap.size w w' := by
  obtain ⟨a, b, rfl, ha, hb⟩ := h
  obtain ⟨n1, n2⟩ := okN_nlen (fits_okN hf)
  have hd0 : 0 < nlen q.den := by
    rcases Nat.eq_zero_or_pos (nlen q.den) with h | h
    · have h1 := nlen_le.1 (Nat.le_of_eq h)
      have h2 := q.den_nz
      simp [pw] at h1
      omega
    · exact h
  have hd1 : decide ((0 : Int) < (nlen q.den : Nat)) = true := decide_eq_true (by omega)
  have hd2 : decide (((nlen q.den : Nat) : Int) ≤ 128) = true := decide_eq_true (by omega)
  have hd3 : decide (((nlen q.num.natAbs : Nat) : Int) ≤ 128) = true := decide_eq_true (by omega)
  obtain ⟨aa, al, ak, rfl, _⟩ := id ha.v.sl
  obtain ⟨ba, bl, bk, rfl, _⟩ := id hb.v.sl
  have hbx := below_alloc w (.cells #[.bool (decide (q < 0)), .slice aa al ak, .slice ba bl bk] 30)
  have hC := C3.new w 30 (.bool (decide (q < 0))) (.slice aa al ak) (.slice ba bl bk)
  have HC := Lib.hid hC
  have HA := Lib.hid (ha.below hbx)
  have HB := Lib.hid (hb.below hbx)
  obtain ⟨_, c0, c1, c2, _, _, _⟩ := id hC
  clear hC hf hd1 hd2 hd3
  go_enter Try.func37, Try.ntmps37
  go_wp2_with (first
    | (go_at_call 52; (with_reducible refine (rtrim_any _ q.den _ HB.out.nat).mono ?_); rintro e1 w1 ⟨r1, rfl, hr1, hb1⟩
       have s1 := hr1.v.sl
       have l1 : slen r1 = nlen q.den := hr1.v.len
       obtain ⟨_, c0, c1, c2, _, _, _⟩ := HC.out.belowS hb1)
    | (go_at_call 52; (with_reducible refine (rtrim_any _ q.den _ (HB.out.below hb1).nat).mono ?_); rintro e2 w2 ⟨r2, rfl, hr2, hb2⟩
       have s2 := hr2.v.sl
       have l2 : slen r2 = nlen q.den := hr2.v.len
       obtain ⟨_, c0, c1, c2, _, _, _⟩ := HC.out.belowS (below_then hb1 hb2))
    | (go_at_call 52; (with_reducible refine (rtrim_any _ q.num.natAbs _ ((HA.out.below hb1).below hb2).nat).mono ?_); rintro e3 w3 ⟨r3, rfl, hr3, hb3⟩
       have s3 := hr3.v.sl
       have l3 : slen r3 = nlen q.num.natAbs := hr3.v.len))
  go_ret
  refine ⟨?_, below_then (below_then (below_then hbx hb1) hb2) hb3⟩
  congr 2
  simp
  omega
set_option maxHeartbeats 800000 in
theorem r2large_can (v : Value) (q : Rat) (w : World) (h : FracC w v q) (hf : fits q) :
    Calls Try.prog 69 #[v] w fun e w' => e = .returned (.bool false) ∧ Below w.heap.size w w' := by
  obtain ⟨a, b, rfl, ha, hb⟩ := h
  obtain ⟨n1, n2⟩ := okN_nlen (fits_okN hf)
  obtain ⟨aa, al, ak, rfl, _⟩ := id ha.v.sl
  obtain ⟨ba, bl, bk, rfl, _⟩ := id hb.v.sl
  have e1 : al = nlen q.num.natAbs := ha.v.len
  have e2 : bl = nlen q.den := hb.v.len
  have n1' : al ≤ 128 := by omega
  have n2' : bl ≤ 128 := by omega
  have h1 : ¬ (128 < al) := by omega
  have h2 : ¬ (128 < bl) := by omega
  have hbx := below_alloc w (.cells #[.bool (decide (q < 0)), .slice aa al ak, .slice ba bl bk] 30)
  have hC := C3.new w 30 (.bool (decide (q < 0))) (.slice aa al ak) (.slice ba bl bk)
  obtain ⟨_, c0, c1, c2, _, _, _⟩ := id hC
  clear hC hf n1 n2 e1 e2
  go_enter Try.func69, Try.ntmps69
  go_wp2_with fail
  go_ret
  refine ⟨?_, hbx⟩
  congr 2
  simp
  omega
set_option maxHeartbeats 800000 in
theorem r2fits_can (v : Value) (q : Rat) (w : World) (h : FracC w v q) (hf : fits q) : Calls Try.prog 38 #[v] w (RF0 w q) := by
  obtain ⟨a, b, rfl, ha, hb⟩ := id h
  obtain ⟨aa, al, ak, rfl, _⟩ := id ha.v.sl
  obtain ⟨ba, bl, bk, rfl, _⟩ := id hb.v.sl
  have hbx := below_alloc w (.cells #[.bool (decide (q < 0)), .slice aa al ak, .slice ba bl bk] 30)
  have hb2 := below_alloc (w.alloc (.cells #[.bool (decide (q < 0)), .slice aa al ak, .slice ba bl bk] 30)) (.cells #[.bool false, .slice none 0 0, .slice none 0 0] 30)
  have hC := (C3.new w 30 (.bool (decide (q < 0))) (.slice aa al ak) (.slice ba bl bk)).belowS hb2
  have hR := C3.newB (b := w.heap.size + 1) (w.alloc (.cells #[.bool (decide (q < 0)), .slice aa al ak, .slice ba bl bk] 30)) 30 (.bool false) (.slice none 0 0) (.slice none 0 0) (by simp)
  have HC := Lib.hid hC
  have HR := Lib.hid hR
  have HF := Lib.hid hf
  have HQ := Lib.hid ((h.below hbx).below hb2)
  have hbb := below_then hbx hb2
  obtain ⟨_, c0, c1, c2, _, _, _⟩ := id hC
  clear hC hR hf h ha hb
  go_enter Try.func38, Try.ntmps38
  go_wp2_with (go_at_call 69; (with_reducible refine (r2large_can _ q _ HQ.out HF.out).mono ?_); rintro e1 w1 ⟨rfl, hb1⟩
               obtain ⟨_, c0, c1, c2, _, _, _⟩ := HC.out.belowS hb1
               have HR1 := Lib.hid (HR.out.belowS hb1)
               obtain ⟨_, d0, d1, d2, d3, d4, d5⟩ := HR1.out)
  refine bodyPost_c3 rfl rfl Try.aggF Try.sizeF (HR1.out.set _ _ _) rfl ?_
  exact ⟨_, rfl, (HQ.out.below hb1).set3 HR1.out (fun z => by simp) (fun z => by simp) _ _ _, below_set3 (below_then hbb hb1) (Nat.le_succ _) _ _ _⟩
theorem fq_mul_self (p q : Rat) : fq (decide (p < 0) != decide (q < 0)) (p.num.natAbs * q.num.natAbs) (p.den * q.den) = p * q := by rw [← fq_mul, fq_self, fq_self]
theorem fq_mul_self' (p q : Rat) : fq (!(decide (p < 0) == decide (q < 0))) (p.num.natAbs * q.num.natAbs) (p.den * q.den) = p * q := fq_mul_self p q
theorem keep6b {X Y : World} {a1 a2 a3 a4 a5 a6 : Addr} {x1 x2 x3 x4 x5 x6 : Value} (h : X.cell? a1 = some x1 ∧ X.cell? a2 = some x2 ∧ X.cell? a3 = some x3 ∧ X.cell? a4 = some x4 ∧ X.cell? a5 = some x5 ∧ X.cell? a6 = some x6) (hb : Below X.heap.size X Y) :
    Y.cell? a1 = some x1 ∧ Y.cell? a2 = some x2 ∧ Y.cell? a3 = some x3 ∧ Y.cell? a4 = some x4 ∧ Y.cell? a5 = some x5 ∧ Y.cell? a6 = some x6 := by
  obtain ⟨k1, k2, k3, k4, k5, k6⟩ := h
  exact ⟨cell_below hb k1, cell_below hb k2, cell_below hb k3, cell_below hb k4, cell_below hb k5, cell_below hb k6⟩
set_option maxRecDepth 100000 in
set_option maxHeartbeats 1600000 in
theorem r2mul_can (va vb : Value) (p q : Rat) (w : World) (ha : FracC w va p) (hb : FracC w vb q) (hp : fits p) (hq : fits q) (hf : fits (p * q)) : Calls Try.prog 13 #[va, vb] w (RF0 w (p * q)) := by
  obtain ⟨a1, a2, rfl, n1, n2⟩ := id ha
  obtain ⟨b1, b2, rfl, m1, m2⟩ := id hb
  obtain ⟨x1, y1, z1, rfl, _⟩ := id n1.v.sl
  obtain ⟨x2, y2, z2, rfl, _⟩ := id n2.v.sl
  obtain ⟨x3, y3, z3, rfl, _⟩ := id m1.v.sl
  obtain ⟨x4, y4, z4, rfl, _⟩ := id m2.v.sl
  have k1 := below_alloc w (.cells #[.bool (decide (p < 0)), .slice x1 y1 z1, .slice x2 y2 z2] 30)
  have k2 := below_alloc (w.alloc (.cells #[.bool (decide (p < 0)), .slice x1 y1 z1, .slice x2 y2 z2] 30)) (.cells #[.bool (decide (q < 0)), .slice x3 y3 z3, .slice x4 y4 z4] 30)
  have k3 := below_alloc ((w.alloc (.cells #[.bool (decide (p < 0)), .slice x1 y1 z1, .slice x2 y2 z2] 30)).alloc (.cells #[.bool (decide (q < 0)), .slice x3 y3 z3, .slice x4 y4 z4] 30)) (.cells #[.bool false, .slice none 0 0, .slice none 0 0] 30)
  have H3 := three_boxes w 30 (.bool (decide (p < 0))) (.slice x1 y1 z1) (.slice x2 y2 z2) (.bool (decide (q < 0))) (.slice x3 y3 z3) (.slice x4 y4 z4) (.bool false) (.slice none 0 0) (.slice none 0 0) _ rfl
  obtain ⟨hA, hB, hR, hbw⟩ := H3
  have HA := Lib.hid hA
  have HB := Lib.hid hB
  have HR := Lib.hid hR
  have HAP := Lib.hid (ha.below hbw)
  have HBQ := Lib.hid (hb.below hbw)
  have HP := Lib.hid hp
  have HQ := Lib.hid hq
  have HPQ := Lib.hid hf
  have HL := Lib.hid (And.intro (okN_nlen (fits_okN hp)) (okN_nlen (fits_okN hq)))
  obtain ⟨_, c0, c1, c2, _, _, _⟩ := id hA
  obtain ⟨_, d0, d1, d2, _, _, _⟩ := id hB
  clear hA hB hR ha hb n1 n2 m1 m2 hp hq hf k1 k2 k3
  go_enter Try.func13, Try.ntmps13
  go_upto_region 3 with (first
    | (go_at_call 37; (with_reducible refine (r2valid_can _ p _ HAP.out HP.out).mono ?_); rintro e1 w1 ⟨rfl, hb1⟩
       obtain ⟨_, c0, c1, c2, _, _, _⟩ := HA.out.belowS hb1
       obtain ⟨_, d0, d1, d2, _, _, _⟩ := HB.out.belowS hb1)
    | (go_at_call 37; (with_reducible refine (r2valid_can _ q _ (HBQ.out.below hb1) HQ.out).mono ?_); rintro e2 w2 ⟨rfl, hb2⟩))
  have b12 := below_then hb1 hb2
  have hD := below_drew (B := w2.heap.size) w2
  have b1D := below_then b12 hD
  obtain ⟨_, q1, q2, q3, _, _, _⟩ := HA.out.belowS b1D
  obtain ⟨_, r1, r2, r3, _, _, _⟩ := HB.out.belowS b1D
  have HRD := Lib.hid (HR.out.belowS b1D)
  have HAD := Lib.hid (HAP.out.below b1D)
  have HBD := Lib.hid (HBQ.out.below b1D)
  have hbwD := below_then hbw b1D
  obtain ⟨u1, u2, hu, nA, nB⟩ := HAD.out
  injection hu with hu
  injection hu with hu
  simp only [List.cons.injEq, and_true, true_and] at hu
  obtain ⟨rfl, rfl⟩ := hu
  obtain ⟨u1, u2, hu, mA, mB⟩ := HBD.out
  injection hu with hu
  injection hu with hu
  simp only [List.cons.injEq, and_true, true_and] at hu
  obtain ⟨rfl, rfl⟩ := hu
  have kA : w.heap.size + 1 + 1 ≠ w.heap.size := by omega
  have kB : w.heap.size + 1 + 1 ≠ w.heap.size + 1 := by omega
  have HNN := Lib.hid (And.intro nA (And.intro nB (And.intro mA mB)))
  have HDZ : Hid (p.den * q.den ≠ 0) := Lib.hid (Nat.mul_ne_zero p.den_nz q.den_nz)
  have HN5 : Hid (nlen (p.num.natAbs * q.num.natAbs) ≤ 512) := Lib.hid (Nat.le_trans (nlen_mul HL.out.1.1 HL.out.2.1) (by decide))
  have HD5 : Hid (nlen (p.den * q.den) ≤ 512) := Lib.hid (Nat.le_trans (nlen_mul HL.out.1.2 HL.out.2.2) (by decide))
  clear nA nB mA mB c0 c1 c2 d0 d1 d2
  go_region_held3 (fun w' => w'.cell? ⟨w.heap.size, 0, none⟩ = some (.bool (decide (p < 0))) ∧ w'.cell? ⟨w.heap.size, 1, none⟩ = some (.slice x1 y1 z1) ∧ w'.cell? ⟨w.heap.size, 2, none⟩ = some (.slice x2 y2 z2) ∧ w'.cell? ⟨w.heap.size + 1, 0, none⟩ = some (.bool (decide (q < 0))) ∧ w'.cell? ⟨w.heap.size + 1, 1, none⟩ = some (.slice x3 y3 z3) ∧ w'.cell? ⟨w.heap.size + 1, 2, none⟩ = some (.slice x4 y4 z4)) (first
    | with_reducible exact ⟨q1, q2, q3, r1, r2, r3⟩
    | with_reducible exact keep6b (by assumption) (by assumption)
    | with_reducible exact keep6 (keep6 (keep6 (by assumption) kA kA kA kB kB kB _) kA kA kA kB kB kB _) kA kA kA kB kB kB _) (first
    | (go_at_call 40; (with_reducible refine (r2times_any _ _ p.num.natAbs q.num.natAbs _ HNN.out.1.nat HNN.out.2.2.1.nat HL.out.1.1 HL.out.2.1).mono ?_); rintro e3 w3 ⟨v3, rfl, hv3, hb3⟩)
    | (go_at_call 40; (with_reducible refine (r2times_any _ _ p.den q.den _ (HNN.out.2.1.below hb3).nat (HNN.out.2.2.2.below hb3).nat HL.out.1.2 HL.out.2.2).mono ?_); rintro e4 w4 ⟨v4, rfl, hv4, hb4⟩)
    | (go_at_call 39; (with_reducible refine (r2lowest_any _ _ _ (p.num.natAbs * q.num.natAbs) (p.den * q.den) _ (hv3.below hb4).nat hv4.nat HDZ.out HN5.out HD5.out).mono ?_); rintro e5 w5 ⟨v5, rfl, hv5, hb5⟩)
    | (go_at_call 38; (with_reducible refine (r2fits_can _ (p * q) _ (by (have h9 := hv5; rw [fq_mul_self'] at h9; exact h9)) HPQ.out).mono ?_); rintro e6 w6 ⟨v6, rfl, hv6, hb6⟩
       obtain ⟨t9, x9, y9, rfl, ⟨a91, l91, k91, rfl, _⟩, ⟨a92, l92, k92, rfl, _⟩⟩ := hv6.isF
       have HR6 := Lib.hid ((((HRD.out.belowS hb3).belowS hb4).belowS hb5).belowS hb6)
       obtain ⟨_, g0, g1, g2, g3, g4, g5⟩ := HR6.out))
  have hbE := below_then (below_then (below_then (below_then hbwD hb3) hb4) hb5) hb6
  go_wp2_with fail
  refine bodyPost_c3 rfl rfl Try.aggF Try.sizeF (HR6.out.set _ _ _) rfl ?_
  exact ⟨_, rfl, hv6.set3 HR6.out (fun z => by simp) (fun z => by simp) _ _ _, below_set3 hbE (Nat.le_trans (Nat.le_succ _) (Nat.le_succ _)) _ _ _⟩
end Go.Proofs.Ytbhkibilnmoljaa
namespace Go.Proofs.Ytbhkibilnmoljaa
set_option linter.unusedVariables false
set_option linter.unusedSimpArgs false
open Go.RowKit

theorem nlen_pos_iff {d : Nat} : 0 < nlen d ↔ d ≠ 0 := by
  constructor
  · intro h e; subst e; have := nlen_eq_zero.2 (rfl : (0 : Nat) = 0); omega
  · intro h; have : nlen d ≠ 0 := fun e => h (nlen_eq_zero.1 e); omega
theorem okN_iff (n d : Nat) : okN n d ↔ 0 < nlen d ∧ nlen d ≤ 128 ∧ nlen n ≤ 128 := by
  constructor
  · intro h; exact ⟨nlen_pos_iff.2 h.1, nbits_nlen (k := 128) h.2.1, nbits_nlen (k := 128) h.2.2⟩
  · intro h; exact ⟨nlen_pos_iff.1 h.1, nlen_nbits (k := 128) h.2.1, nlen_nbits (k := 128) h.2.2⟩
set_option maxHeartbeats 800000 in
theorem r2valid_any (v : Value) (s : Bool) (n d : Nat) (w : World) (h : FracN w v s n d) :
    Calls Try.prog 37 #[v] w fun e w' => e = .returned (.bool (decide (okN n d))) ∧ Below w.heap.size w w' := by
  obtain ⟨a, b, rfl, ha, hb⟩ := h
  obtain ⟨aa, al, ak, rfl, _⟩ := id ha.slen.1
  obtain ⟨ba, bl, bk, rfl, _⟩ := id hb.slen.1
  have hbx := below_alloc w (.cells #[.bool s, .slice aa al ak, .slice ba bl bk] 30)
  have hC := C3.new w 30 (.bool s) (.slice aa al ak) (.slice ba bl bk)
  have HC := Lib.hid hC
  have HA := Lib.hid (ha.below hbx)
  have HB := Lib.hid (hb.below hbx)
  have HO := Lib.hid (okN_iff n d)
  obtain ⟨D, hD⟩ : ∃ D, nlen d = D := ⟨_, rfl⟩
  obtain ⟨M, hM⟩ : ∃ M, nlen n = M := ⟨_, rfl⟩
  have HD := Lib.hid hD
  have HM := Lib.hid hM
  obtain ⟨_, c0, c1, c2, _, _, _⟩ := id hC
  clear hC ha hb hD hM
  have HOB : Hid (decide (okN n d) = (decide (0 < D) && (decide (D ≤ 128) && decide (M ≤ 128)))) := Lib.hid (by
    rw [Bool.eq_iff_iff]
    simp only [Bool.and_eq_true, decide_eq_true_eq]
    rw [HO.out, HD.out, HM.out])
  by_cases g1 : 0 < D
  · by_cases g2 : D ≤ 128
    · skip
      go_enter Try.func37, Try.ntmps37
      go_wp2_with (first
        | (go_at_call 52; (with_reducible refine (rtrim_any _ d _ HB.out).mono ?_); rintro e1 w1 ⟨r1, rfl, hr1, hb1⟩
           have s1 := hr1.v.sl
           have l1 : slen r1 = D := hr1.v.len.trans HD.out
           have hbb := below_then hbx hb1
           obtain ⟨_, c0, c1, c2, _, _, _⟩ := HC.out.belowS hb1)
        | (go_at_call 52; (with_reducible refine (rtrim_any _ d _ (HB.out.below hb1)).mono ?_); rintro e2 w2 ⟨r2, rfl, hr2, hb2⟩
           have s2 := hr2.v.sl
           have l2 : slen r2 = D := hr2.v.len.trans HD.out
           have hb12 := below_then hb1 hb2
           have hbb := below_then hbx hb12
           obtain ⟨_, c0, c1, c2, _, _, _⟩ := HC.out.belowS hb12)
        | (go_at_call 52; (with_reducible refine (rtrim_any _ n _ (HA.out.below hb12)).mono ?_); rintro e3 w3 ⟨r3, rfl, hr3, hb3⟩
           have s3 := hr3.v.sl
           have l3 : slen r3 = M := hr3.v.len.trans HM.out
           have hbb := below_then hbb hb3))
      go_ret
      refine ⟨?_, hbb⟩
      rw [HOB.out]
      simp [g1, g2]
      omega
    · skip
      go_enter Try.func37, Try.ntmps37
      go_wp2_with (first
        | (go_at_call 52; (with_reducible refine (rtrim_any _ d _ HB.out).mono ?_); rintro e1 w1 ⟨r1, rfl, hr1, hb1⟩
           have s1 := hr1.v.sl
           have l1 : slen r1 = D := hr1.v.len.trans HD.out
           have hbb := below_then hbx hb1
           obtain ⟨_, c0, c1, c2, _, _, _⟩ := HC.out.belowS hb1)
        | (go_at_call 52; (with_reducible refine (rtrim_any _ d _ (HB.out.below hb1)).mono ?_); rintro e2 w2 ⟨r2, rfl, hr2, hb2⟩
           have s2 := hr2.v.sl
           have l2 : slen r2 = D := hr2.v.len.trans HD.out
           have hb12 := below_then hb1 hb2
           have hbb := below_then hbx hb12
           obtain ⟨_, c0, c1, c2, _, _, _⟩ := HC.out.belowS hb12)
        | (go_at_call 52; (with_reducible refine (rtrim_any _ n _ (HA.out.below hb12)).mono ?_); rintro e3 w3 ⟨r3, rfl, hr3, hb3⟩
           have s3 := hr3.v.sl
           have l3 : slen r3 = M := hr3.v.len.trans HM.out
           have hbb := below_then hbb hb3))
      go_ret
      refine ⟨?_, hbb⟩
      rw [HOB.out]
      simp [g1, g2]
  · skip
    go_enter Try.func37, Try.ntmps37
    go_wp2_with (first
      | (go_at_call 52; (with_reducible refine (rtrim_any _ d _ HB.out).mono ?_); rintro e1 w1 ⟨r1, rfl, hr1, hb1⟩
         have s1 := hr1.v.sl
         have l1 : slen r1 = D := hr1.v.len.trans HD.out
         have hbb := below_then hbx hb1
         obtain ⟨_, c0, c1, c2, _, _, _⟩ := HC.out.belowS hb1)
      | (go_at_call 52; (with_reducible refine (rtrim_any _ d _ (HB.out.below hb1)).mono ?_); rintro e2 w2 ⟨r2, rfl, hr2, hb2⟩
         have s2 := hr2.v.sl
         have l2 : slen r2 = D := hr2.v.len.trans HD.out
         have hb12 := below_then hb1 hb2
         have hbb := below_then hbx hb12
         obtain ⟨_, c0, c1, c2, _, _, _⟩ := HC.out.belowS hb12)
      | (go_at_call 52; (with_reducible refine (rtrim_any _ n _ (HA.out.below hb12)).mono ?_); rintro e3 w3 ⟨r3, rfl, hr3, hb3⟩
         have s3 := hr3.v.sl
         have l3 : slen r3 = M := hr3.v.len.trans HM.out
         have hbb := below_then hbb hb3))
    go_ret
    refine ⟨?_, hbb⟩
    rw [HOB.out]
    simp [g1]
theorem r2valid_ok (v : Value) (s : Bool) (n d : Nat) (w : World) (h : FracN w v s n d) (hk : okN n d) :
    Calls Try.prog 37 #[v] w fun e w' => e = .returned (.bool true) ∧ Below w.heap.size w w' :=
  (r2valid_any v s n d w h).mono fun e w' ⟨h1, h2⟩ => ⟨by rw [h1, decide_eq_true hk], h2⟩
theorem r2valid_no (v : Value) (s : Bool) (n d : Nat) (w : World) (h : FracN w v s n d) (hk : ¬ okN n d) :
    Calls Try.prog 37 #[v] w fun e w' => e = .returned (.bool false) ∧ Below w.heap.size w w' :=
  (r2valid_any v s n d w h).mono fun e w' ⟨h1, h2⟩ => ⟨by rw [h1, decide_eq_false hk], h2⟩
end Go.Proofs.Ytbhkibilnmoljaa
