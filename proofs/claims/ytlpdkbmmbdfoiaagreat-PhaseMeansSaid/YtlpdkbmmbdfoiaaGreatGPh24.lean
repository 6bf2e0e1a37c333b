/-
  package phase: First, of valid laws.
-/
import Derived.Test.YtlpdkbmmbdfoiaaGreatGPh23
set_option linter.unusedVariables false
set_option linter.unusedSimpArgs false
namespace Go.Proofs.YtlpdkbmmbdfoiaaGreat
open Go.RowKit
def fiRow (a b : LQ) (t : Nat) (G : Nat → Rat) : Mx := fun r c => if r < t then bfr a b r c else if r = t then G c else 0
def fiSf (a b : LQ) (t : Nat) : Nat → Rat := fun r => if r < t then bfS a b r else 0
def fiEf (a b : LQ) (t : Nat) : Nat → Rat := fun r => if r < t then fiE a b r else 0
def fi1 (a : LQ) (m i j k : Nat) : Nat → Rat := fun c => if c % m = j ∧ c / m < k then rtQ a i (c / m) else 0
def fi2 (a b : LQ) (m i j k : Nat) : Nat → Rat := fun c => (if c % m = j then rtQ a i (c / m) else 0) + if c / m = i ∧ c % m < k then rtQ b j (c % m) else 0
section
variable {a b : LQ} {t r c m i j k : Nat} {G H : Nat → Rat}
theorem fiRow_zero (r c : Nat) : (0 : Rat) = fiRow a b 0 (fun _ => 0) r c := by
 unfold fiRow
 rw [if_neg (by omega)]
 split <;> rfl
theorem fiRow_congr (h : ∀ c, c < t → G c = H c) (hc : c < t) : fiRow a b i G r c = fiRow a b i H r c := by
 unfold fiRow
 by_cases h1 : r < i
 ·rw [if_pos h1, if_pos h1]
 ·rw [if_neg h1, if_neg h1, h c hc]
theorem fiRow_put {x : Nat} (h : ∀ y, y ≠ x → G y = H y) (hne : ¬ (r = t ∧ c = x)) : fiRow a b t G r c = fiRow a b t H r c := by
 unfold fiRow
 by_cases h1 : r < t
 ·rw [if_pos h1, if_pos h1]
 ·rw [if_neg h1, if_neg h1]
  by_cases h2 : r = t
  ·rw [if_pos h2, if_pos h2, h c (fun e => hne ⟨h2, e⟩)]
  ·rw [if_neg h2, if_neg h2]
theorem fiRow_at : fiRow a b t G t c = G c := by
 unfold fiRow
 rw [if_neg (Nat.lt_irrefl t), if_pos rfl]
theorem fiRow_next {N : Nat} (h : ∀ c, c < N → G c = bfr a b t c) (hc : c < N) : fiRow a b t G r c = fiRow a b (t + 1) (fun _ => 0) r c := by
 unfold fiRow
 by_cases h1 : r < t
 ·rw [if_pos h1, if_pos (by omega)]
 ·rw [if_neg h1]
  by_cases h2 : r = t
  ·subst h2
   rw [if_pos rfl, if_pos (by omega)]
   exact h c hc
  ·rw [if_neg h2, if_neg (by omega)]
   split <;> rfl
theorem fiSf_put (h : r ≠ t) : fiSf a b t r = fiSf a b (t + 1) r := by
 unfold fiSf
 by_cases h1 : r < t
 ·rw [if_pos h1, if_pos (by omega)]
 ·rw [if_neg h1, if_neg (by omega)]
theorem fiSf_at : fiSf a b (t + 1) t = bfS a b t := by unfold fiSf; rw [if_pos (by omega)]
theorem fiEf_put (h : r ≠ t) : fiEf a b t r = fiEf a b (t + 1) r := by
 unfold fiEf
 by_cases h1 : r < t
 ·rw [if_pos h1, if_pos (by omega)]
 ·rw [if_neg h1, if_neg (by omega)]
theorem fiEf_at : fiEf a b (t + 1) t = fiE a b t := by unfold fiEf; rw [if_pos (by omega)]
theorem fi1_zero (c : Nat) : (0 : Rat) = fi1 a m i j 0 c := by unfold fi1; rw [if_neg (fun h => absurd h.2 (Nat.not_lt_zero _))]
theorem fi1_put (hj : j < m) (h : c ≠ k * m + j) : fi1 a m i j k c = fi1 a m i j (k + 1) c := by
 unfold fi1
 by_cases h1 : c % m = j ∧ c / m < k
 ·rw [if_pos h1, if_pos ⟨h1.1, by omega⟩]
 ·rw [if_neg h1]
  by_cases h2 : c % m = j ∧ c / m < k + 1
  ·exfalso
   have h3 : c / m = k := Nat.le_antisymm (Nat.lt_succ_iff.1 h2.2) (Nat.not_lt.1 fun h => h1 ⟨h2.1, h⟩)
   exact h (by rw [← h3, ← h2.1]; exact at_eq.symm)
  ·rw [if_neg h2]
theorem fi1_at (hj : j < m) : fi1 a m i j k (k * m + j) + rtQ a i k = fi1 a m i j (k + 1) (k * m + j) := by
 unfold fi1
 rw [zbe hj, zyf hj, if_neg (fun h => absurd h.2 (Nat.lt_irrefl _)), if_pos ⟨rfl, Nat.lt_succ_self _⟩, Rat.zero_add]
theorem fi_meet {n : Nat} (hc : c < n * m) : fi1 a m i j n c = fi2 a b m i j 0 c := by
 have h4 : c / m < n := Nat.div_lt_of_lt_mul (by rw [Nat.mul_comm]; exact hc)
 unfold fi1 fi2
 rw [if_neg (show ¬ (c / m = i ∧ c % m < 0) from fun h => absurd h.2 (Nat.not_lt_zero _)), Rat.add_zero]
 by_cases h : c % m = j
 ·rw [if_pos ⟨h, h4⟩, if_pos h]
 ·rw [if_neg (fun e => h e.1), if_neg h]
theorem fi2_put (h : c ≠ i * m + k) : fi2 a b m i j k c = fi2 a b m i j (k + 1) c := by
 unfold fi2
 congr 1
 by_cases h1 : c / m = i ∧ c % m < k
 ·rw [if_pos h1, if_pos ⟨h1.1, by omega⟩]
 ·rw [if_neg h1]
  by_cases h2 : c / m = i ∧ c % m < k + 1
  ·exfalso
   have h3 : c % m = k := Nat.le_antisymm (Nat.lt_succ_iff.1 h2.2) (Nat.not_lt.1 fun h => h1 ⟨h2.1, h⟩)
   exact h (by rw [← h3, ← h2.1]; exact at_eq.symm)
  ·rw [if_neg h2]
theorem fi2_at (hk : k < m) : fi2 a b m i j k (i * m + k) + rtQ b j k = fi2 a b m i j (k + 1) (i * m + k) := by
 unfold fi2
 rw [zbe hk, zyf hk, if_neg (show ¬ (i = i ∧ k < k) from fun h => absurd h.2 (Nat.lt_irrefl _)), if_pos (show i = i ∧ k < k + 1 from ⟨rfl, Nat.lt_succ_self _⟩), Rat.add_zero]
theorem fi2_all (ha : zxb a) (hb : zxb b) (hi : i < a.start.length) (hj : j < b.start.length) (hc : c < bfN a b) : fi2 a b b.start.length i j b.start.length c = bfr a b (i * b.start.length + j) c := by
 obtain ⟨c1, c2⟩ := zjj hb hc
 unfold fi2 bfr
 rw [zbe hj, zyf hj]
 by_cases h : c = i * b.start.length + j
 ·have e1 : c / b.start.length = i := by rw [h, zbe hj]
  have e2 : c % b.start.length = j := by rw [h, zyf hj]
  rw [if_pos h, e1, e2, if_pos rfl, if_pos ⟨rfl, hj⟩, ha.rt_diag hi, hb.rt_diag hj]
  grind
 ·rw [if_neg h]
  by_cases h1 : c % b.start.length = j
  ·have h2 : ¬ c / b.start.length = i := fun e => h (by rw [← e, ← h1]; exact at_eq.symm)
   rw [if_pos h1, if_pos h1, if_neg (fun e => h2 e.1), Rat.add_zero]
  ·rw [if_neg h1, if_neg h1]
   by_cases h2 : c / b.start.length = i
   ·rw [if_pos ⟨h2, c2⟩, if_pos h2, Rat.zero_add]
   ·rw [if_neg (fun e => h2 e.1), if_neg h2, Rat.zero_add]
theorem fi1_lim (ha : zxb a) (hi : i < a.start.length) (hc : c < a.start.length * m) : zvg (fi1 a m i j k c) := by
 unfold fi1
 split
 ·exact ha.rt_lim hi (Nat.div_lt_of_lt_mul (by rw [Nat.mul_comm]; exact hc))
 ·exact zfi
theorem fi2_fits (ha : zxb a) (hb : zxb b) (hi : i < a.start.length) (hj : j < b.start.length) (hk : k < b.start.length) : fits (fi2 a b b.start.length i j k (i * b.start.length + k)) ∧ fits (fi2 a b b.start.length i j (k + 1) (i * b.start.length + k)) := by
 have e : fi2 a b b.start.length i j k (i * b.start.length + k) = 0 := by
  unfold fi2
  rw [zbe hk, zyf hk, if_neg (show ¬ (i = i ∧ k < k) from fun h => absurd h.2 (Nat.lt_irrefl _)), ha.rt_diag hi]
  split <;> decide +kernel
 refine ⟨by rw [e]; decide, ?_⟩
 rw [← fi2_at hk, e, Rat.zero_add]
 exact (hb.rt_lim hj hk).fits
end
theorem wrap_sm (a b : Nat) (h : a * b ≤ 16) : IntKind.i64.wrap ((a : Int) * (b : Int)) = ((a * b : Nat) : Int) := by
 rw [← Int.natCast_mul]
 generalize a * b = m at *
 rw [zge (by omega) (by omega)]
theorem wrap_sa (a b c : Nat) (h : a + b = c) (hc : c ≤ 100) : IntKind.i64.wrap ((a : Int) + (b : Int)) = ((c : Nat) : Int) := by
 rw [zge (by omega) (by omega)]; omega
set_option maxRecDepth 100000 in
set_option maxHeartbeats 12800000 in
theorem pfir_any (va vb : Value) (a b : LQ) (w : World) (ha : zgm w va a) (hb : zgm w vb b) (hla : zxb a) (hlb : zxb b) (hN : a.start.length * b.start.length ≤ 4) (hls : zxb (firL a b)) :
 Calls Tryz.prog 57 #[va, vb] w (RLawS w (firL a b)) := by
 obtain ⟨svA, rvA, evA, rfl, hsA, hrA, heA⟩ := id ha
 obtain ⟨saA, snA, skA, rfl, -⟩ := id hsA.sl
 obtain ⟨raA, rnA, rkA, rfl, -⟩ := id hrA.sl
 obtain ⟨eaA, enA, ekA, rfl, -⟩ := id heA.sl
 obtain ⟨svB, rvB, evB, rfl, hsB, hrB, heB⟩ := id hb
 obtain ⟨saB, snB, skB, rfl, -⟩ := id hsB.sl
 obtain ⟨raB, rnB, rkB, rfl, -⟩ := id hrB.sl
 obtain ⟨eaB, enB, ekB, rfl, -⟩ := id heB.sl
 obtain ⟨n, hn⟩ : ∃ n, a.start.length = n := ⟨_, rfl⟩
 obtain ⟨m, hm⟩ : ∃ m, b.start.length = m := ⟨_, rfl⟩
 obtain rfl : snA = n := hsA.len.trans hn
 obtain rfl : rnA = snA := (hrA.len.trans hla.rl).trans hn
 obtain rfl : enA = rnA := (heA.len.trans hla.el).trans hn
 obtain rfl : snB = m := hsB.len.trans hm
 obtain rfl : rnB = snB := (hrB.len.trans hlb.rl).trans hm
 obtain rfl : enB = rnB := (heB.len.trans hlb.el).trans hm
 have n1 : 1 ≤ enA := by rw [← hn]; exact hla.n1
 have m1 : 1 ≤ enB := by rw [← hm]; exact hlb.n1
 have n4 : enA ≤ 4 := by rw [← hn]; exact hla.n4
 have m4 : enB ≤ 4 := by rw [← hm]; exact hlb.n4
 obtain ⟨N, hNN⟩ : ∃ N, enA * enB = N := ⟨_, rfl⟩
 have hN4 : N ≤ 4 := by rw [← hNN, ← hn, ← hm]; exact hN
 have hN1 : 1 ≤ N := by rw [← hNN]; exact Nat.mul_pos n1 m1
 obtain ⟨hc1, hc2, hc3, hbw⟩ := law_box3 w 52 (.string { data := #[] }) (.slice saA enA skA) (.slice raA enA rkA) (.slice eaA enA ekA) (.string { data := #[] }) (.slice saB enB skB) (.slice raB enB rkB) (.slice eaB enB ekB) (.string { data := #[] }) (.slice none 0 0) (.slice none 0 0) (.slice none 0 0)
 have HC1 := zH hc1
 have HC2 := zH hc2
 have HC3 := zH hc3
 have HBW := zH hbw
 have HA := zH (ha.below hbw)
 have HB := zH (hb.below hbw)
 have HSA := zH (hsA.below hbw)
 have HEA := zH (heA.below hbw)
 have HSB := zH (hsB.below hbw)
 have HEB := zH (heB.below hbw)
 have HLA := zH hla
 have HLB := zH hlb
 have HLS := zH hls
 have HNA := zH hn
 have HNB := zH hm
 have HNN := zH hNN
 have ssA := hsA.sl
 have seA := heA.sl
 have ssB := hsB.sl
 have seB := heB.sl
 have srA := hrA.sl
 have srB := hrB.sl
 have hab : a.start.length * b.start.length ≤ 4 := by rw [hn, hm, hNN]; exact hN4
 have HAB := zH hab
 have hwN : IntKind.i64.wrap ((enA : Int) * (enB : Int)) = ((N : Nat) : Int) := by rw [wrap_sm enA enB (by rw [hNN]; omega), hNN]
 have HRA := zH (hrA.below hbw)
 have HRB := zH (hrB.below hbw)
 clear hc1 hc2 hc3 hbw hsA hrA heA hsB hrB heB hla hlb hls hn hm hNN ha hb hN hab
 go_enter Tryz.func57, Tryz.ntmps57
 go_upto_region 1 with fail
 generalize ((w.alloc (.cells #[.string { data := #[] }, .slice saA enA skA, .slice raA enA rkA, .slice eaA enA ekA] 52)).alloc (.cells #[.string { data := #[] }, .slice saB enB skB, .slice raB enB rkB, .slice eaB enB ekB] 52)).alloc (.cells #[.string { data := #[] }, .slice none 0 0, .slice none 0 0, .slice none 0 0] 52) = W2 at *
 obtain ⟨-, c0, c1, c2, c3, -, -, -, -⟩ := HC1.out
 obtain ⟨-, d0, d1, d2, d3, -, -, -, -⟩ := HC2.out
 have tok1 : True := trivial
 go_upto_region 6 with (first
  |(go_at_call 101; (with_reducible refine (ppair_product _ _ a b _ HA.out.lawC HB.out.lawC HLA.out HLB.out HAB.out).mono ?_); rintro e3 w3 ⟨rfl, hb3⟩
    have HB3 := zH hb3
    clear c0 c1 c2 c3 d0 d1 d2 d3
    obtain ⟨-, c0, c1, c2, c3, -, -, -, -⟩ := HC1.out.belowS hb3
    obtain ⟨-, d0, d1, d2, d3, -, -, -, -⟩ := HC2.out.belowS hb3
    clear hb3)
  |(go_at_call 87; (try rw [hwN]); (with_reducible refine (blank_any N _ hN1 hN4).mono ?_); rintro e5 w5 ⟨vs, ve, vr, rs, rfl, hl5, hb5⟩
    obtain ⟨s1, s2, s3, rfl, _⟩ := id hl5.s.sl
    obtain ⟨r1, r2, r3, rfl, _⟩ := id hl5.ra.sl
    obtain ⟨e1, e2, e3, rfl, _⟩ := id hl5.e.sl
    have hs2 : s2 = N := (by have h := hl5.s.fracs.len; rw [zwa] at h; exact h)
    have he2 : e2 = N := (by have h := hl5.e.fracs.len; rw [zwa] at h; exact h)
    have hr2 : r2 = N := (by have h := hl5.ra.len; rw [hl5.rl, List.length_replicate] at h; exact h)
    rw [hs2] at hl5 ⊢; rw [he2] at hl5 ⊢; rw [hr2] at hl5 ⊢
    have hba := zca w5 (.cells #[.string { data := #[] }, .slice s1 N s3, .slice r1 N r3, .slice e1 N e3] 52)
    have HC8 := zH (C4.new w5 52 (.string { data := #[] }) (.slice s1 N s3) (.slice r1 N r3) (.slice e1 N e3))
    have HLT := zH ((hl5.below hba).mono HB3.out.size).lawT
    have HBR := zH (zaa HB3.out (zaa hb5 hba))
    clear hl5 hb5 hba c0 c1 c2 c3 d0 d1 d2 d3 hs2 he2 hr2))
 obtain ⟨b8, hb8⟩ : ∃ b, w5.heap.size = b := ⟨_, rfl⟩
 rw [hb8] at HC8 ⊢
 clear hb8 HB3
 generalize w5.alloc (.cells #[.string { data := #[] }, .slice s1 N s3, .slice r1 N r3, .slice e1 N e3] 52) = W6 at *
 obtain ⟨-, c0, c1, c2, c3, -, -, -, -⟩ := HC1.out.belowS HBR.out
 go_wp2_with fail
 clear c0 c1 c2 c3
 go_loopg [35] (enA) (fun g u35 wr => ∃ (i : Nat), i ≤ enA ∧ g = enA - i ∧ u35 = .int .i64 i ∧ zmo wr W2.heap.size (.slice s1 N s3) (.slice e1 N e3) (.slice r1 N r3) rs N (fiSf a b (i * enB)) (fiEf a b (i * enB)) (fiRow a b (i * enB) (fun _ => 0)) ∧ C4 wr b8 (.string { data := #[] }) (.slice s1 N s3) (.slice r1 N r3) (.slice e1 N e3) ∧ Below W2.heap.size W2 wr)
 case atStart => exact ⟨0, Nat.zero_le _, rfl, rfl, by rw [Nat.zero_mul]; exact HLT.out.congr (fun r _ => by unfold fiSf; rw [if_neg (by omega)]) (fun r _ => by unfold fiEf; rw [if_neg (by omega)]) (fun r c _ _ => fiRow_zero r c), HC8.out, HBR.out⟩
 case round =>
  obtain ⟨i, hin, hgi, rfl, hlt, hc8, hbr⟩ := hrel
  obtain ⟨wx, hwx⟩ : ∃ w6, w6 = wr := ⟨_, rfl⟩
  subst hwx
  have HGi := zH hgi
  have HLT := zH hlt
  have HC8 := zH hc8
  have HBR := zH hbr
  clear hgi hlt hc8 hbr
  by_cases hil : i < enA
  ·have i1 : (0 : Int) ≤ (i : Int) := by omega
   have i2 : (i : Int) < (enA : Nat) := by omega
   have HIA : Hid (i < a.start.length) := zH (by rw [HNA.out]; exact hil)
   obtain ⟨M1, hM1⟩ : ∃ M1, i * enB = M1 := ⟨_, rfl⟩
   have hM4 : M1 + enB ≤ 4 := by
    have h1 : (i + 1) * enB ≤ enA * enB := Nat.mul_le_mul_right _ hil
    rw [Nat.succ_mul, hM1, HNN.out] at h1
    exact Nat.le_trans h1 hN4
   have hMN : M1 + enB ≤ N := by
    have h1 : (i + 1) * enB ≤ enA * enB := Nat.mul_le_mul_right _ hil
    rw [Nat.succ_mul, hM1, HNN.out] at h1
    exact h1
   have hwa1 : IntKind.i64.wrap ((i : Int) * (enB : Int)) = ((M1 : Nat) : Int) := by rw [wrap_sm i enB (by rw [hM1]; omega), hM1]
   have HM1 := zH hM1
   rw [hM1] at HLT
   clear hM1
   obtain ⟨-, d0, d1, d2, d3, -, -, -, -⟩ := HC2.out.belowS HBR.out
   go_wp2_with fail
   clear d0 d1 d2 d3
   go_loopg [41] (enB) (fun g u41 wr => ∃ (j : Nat), j ≤ enB ∧ g = enB - j ∧ u41 = .int .i64 j ∧ zmo wr W2.heap.size (.slice s1 N s3) (.slice e1 N e3) (.slice r1 N r3) rs N (fiSf a b (M1 + j)) (fiEf a b (M1 + j)) (fiRow a b (M1 + j) (fun _ => 0)) ∧ C4 wr b8 (.string { data := #[] }) (.slice s1 N s3) (.slice r1 N r3) (.slice e1 N e3) ∧ Below W2.heap.size W2 wr)
   case atStart => exact ⟨0, Nat.zero_le _, rfl, rfl, HLT.out, HC8.out, HBR.out⟩
   case round =>
    clear HLT HC8 HBR
    obtain ⟨j, hjn, hgj, rfl, hlt, hc8, hbr⟩ := hrel
    obtain ⟨wy, hwx⟩ : ∃ w6, w6 = wr := ⟨_, rfl⟩
    subst hwx
    have HGj := zH hgj
    have HLT := zH hlt
    have HC8 := zH hc8
    have HBR := zH hbr
    clear hgj hlt hc8 hbr
    by_cases hjl : j < enB
    ·have j1 : (0 : Int) ≤ (j : Int) := by omega
     have j2 : (j : Int) < (enB : Nat) := by omega
     have HJB : Hid (j < b.start.length) := zH (by rw [HNB.out]; exact hjl)
     obtain ⟨A, hA⟩ : ∃ A, M1 + j = A := ⟨_, rfl⟩
     have hAN : A < N := by omega
     have hwa2 : IntKind.i64.wrap ((M1 : Int) + (j : Int)) = ((A : Nat) : Int) := wrap_sa M1 j A hA (by omega)
     have a1 : (0 : Int) ≤ (A : Int) := by omega
     have a2 : (A : Int) < (N : Nat) := by omega
     have HAE : Hid (A = i * b.start.length + j) := zH (by rw [← hA, ← HM1.out, HNB.out])
     have HAJ := zH hA
     rw [hA] at HLT
     have HLX : Hid (fits (stQ a i) ∧ fits (stQ b j) ∧ fits (stQ a i * stQ b j) ∧ fits (exQ a i) ∧ fits (exQ b j) ∧ fits (exQ a i + exQ b j)) := zH (by
      have hA2 : A < bfN a b := by rw [HAE.out]; exact zao HIA.out HJB.out
      have hl := HLS.out.st_lim (i := A) (by rw [show (firL a b).start.length = bfN a b from zjo]; exact hA2)
      have he := HLS.out.ex_lim (i := A) (by rw [show (firL a b).start.length = bfN a b from zjo]; exact hA2)
      rw [show stQ (firL a b) A = bfS a b A from fn_st hA2] at hl
      rw [show exQ (firL a b) A = fiE a b A from fn_ex hA2] at he
      unfold bfS at hl
      unfold fiE at he
      rw [HAE.out, zbe HJB.out, zyf HJB.out] at hl he
      exact ⟨(HLA.out.st_lim HIA.out).fits, (HLB.out.st_lim HJB.out).fits, hl.fits, (HLA.out.ex_lim HIA.out).fits, (HLB.out.ex_lim HJB.out).fits, he.fits⟩)
     have HSV : Hid (bfS a b A = stQ a i * stQ b j ∧ fiE a b A = exQ a i + exQ b j) := zH (by
      unfold bfS fiE
      rw [HAE.out, zbe HJB.out, zyf HJB.out]
      exact ⟨rfl, rfl⟩)
     clear hA
     obtain ⟨ts, as1, ls1, ks1, as2, ls2, ks2, g1, g2, g3, hfs⟩ := (HSA.out.below HBR.out).cellsAt (k := i) HIA.out
     have HFX : Hid (zqa wy (.agg #[.bool ts, .slice as1 ls1 ks1, .slice as2 ls2 ks2]) (stQ a i)) := zH hfs
     obtain ⟨us, bs1, ms1, os1, bs2, ms2, os2, h1, h2, h3, hft⟩ := (HSB.out.below HBR.out).cellsAt (k := j) HJB.out
     have HFY : Hid (zqa wy (.agg #[.bool us, .slice bs1 ms1 os1, .slice bs2 ms2 os2]) (stQ b j)) := zH hft
     clear hfs hft
     go_upto_region 13 with fail
     obtain ⟨-, c0, c1, c2, c3, -, -, -, -⟩ := HC1.out.belowS HBR.out
     obtain ⟨-, d0, d1, d2, d3, -, -, -, -⟩ := HC2.out.belowS HBR.out
     obtain ⟨-, q0, q1, q2, q3, -, -, -, -⟩ := HC8.out
     have hbD := zja (B := wy.heap.size) wy
     have HLD := zH (HLT.out.below hbD)
     have HCD := zH (HC8.out.belowS hbD)
     have HBD := zH (zfa HBR.out hbD HBR.out.size)
     have HFD := zH (HFX.out.below hbD)
     have HFE := zH (HFY.out.below hbD)
     refine wpL.start 15 (fun w' => w'.cell? ⟨b8, 1, none⟩ = some (.slice s1 N s3) ∧ w'.cell? ⟨w.heap.size, 1, none⟩ = some (.slice saA enA skA) ∧ w'.cell? (ptr (.slice saA enA skA) (i * 3)) = some (.bool ts) ∧ w'.cell? (ptr (.slice saA enA skA) (i * 3 + 1)) = some (.slice as1 ls1 ks1) ∧ w'.cell? (ptr (.slice saA enA skA) (i * 3 + 2)) = some (.slice as2 ls2 ks2) ∧ w'.cell? ⟨w.heap.size + 1, 1, none⟩ = some (.slice saB enB skB) ∧ w'.cell? (ptr (.slice saB enB skB) (j * 3)) = some (.bool us) ∧ w'.cell? (ptr (.slice saB enB skB) (j * 3 + 1)) = some (.slice bs1 ms1 os1) ∧ w'.cell? (ptr (.slice saB enB skB) (j * 3 + 2)) = some (.slice bs2 ms2 os2)) (by kernel_rfl) ⟨zba hbD q1, zba hbD c1, zba hbD g1, zba hbD g2, zba hbD g3, zba hbD d1, zba hbD h1, zba hbD h2, zba hbD h3⟩ (fun hHeld => ?_)
     clear hbD HLT HC8 HBR c0 c1 c2 c3 d0 d1 d2 d3 q0 q1 q2 q3 g1 g2 g3 h1 h2 h3
     generalize wy.drew = wd at *
     refine wpL.u 0 ?_
     refine wpL.t 1 ?_
     refine wpL.u 2 ?_
     refine wpL.u 3 ?_
     refine wpL.t 4 ?_
     refine wpL.u 5 ?_
     refine wpL.u 6 ?_
     refine wpL.t 7 ?_
     refine wpL.u 8 ?_
     refine wpL.t 9 ?_
     refine wpL.u 10 ?_
     refine wpL.u 11 ?_
     refine wpL.t 12 ?_
     (refine wpL.oo 13 ?_; intro K hK)
     refine zxa 97 #[.agg #[.bool ts, .slice as1 ls1 ks1, .slice as2 ls2 ks2], .agg #[.bool us, .slice bs1 ms1 os1, .slice bs2 ms2 os2]] ?_ ?_ (zmp _ _ _ _ _ HFD.out HFE.out HLX.out.1 HLX.out.2.1 HLX.out.2.2.1) ?_
     ·rfl
     ·go_simp
     rintro e7 w7 ⟨v7, rfl, hv7, hb7⟩
     obtain ⟨t7, x7, y7, rfl, ⟨a71, l71, k71, rfl, _⟩, ⟨a72, l72, k72, rfl, _⟩⟩ := hv7.isF
     have hH7 := (And.intro (zba hb7 hHeld.1) (And.intro (zba hb7 hHeld.2.1) (And.intro (zba hb7 hHeld.2.2.1) (And.intro (zba hb7 hHeld.2.2.2.1) (And.intro (zba hb7 hHeld.2.2.2.2.1) (And.intro (zba hb7 hHeld.2.2.2.2.2.1) (And.intro (zba hb7 hHeld.2.2.2.2.2.2.1) (And.intro (zba hb7 hHeld.2.2.2.2.2.2.2.1) (zba hb7 hHeld.2.2.2.2.2.2.2.2)))))))))
     refine ⟨_, rfl, ?_⟩
     refine hK.out _ _ (fun _ => hH7) ?_
     clear hK K hHeld
     try simp only [Act.put, List.setIfInBounds_toArray, List.set_cons_zero, List.set_cons_succ]
     have L7 := HLD.out.below hb7
     have C7 := HCD.out.belowS hb7
     have B7 := zfa HBD.out hb7 HBD.out.size
     have hput := L7.putS (s' := fiSf a b (A + 1)) hAN (fun r _ hr => fiSf_put hr) (by rw [fiSf_at, HSV.out.1]; exact hv7)
     have hrow := L7.s
     have hjR := show A < (zib N (fiSf a b A)).length by rw [zea]; exact hAN
     have hl0 := Nat.lt_of_le_of_lt (Nat.zero_le _) hjR
     obtain ⟨z0, y1, y2, y3, y4, y5, _⟩ := hrow.fracs.at' A hjR
     have f0 := hrow.frozen (A * 3) (by omega)
     have f1 := hrow.frozen (A * 3 + 1) (by omega)
     have f2 := hrow.frozen (A * 3 + 2) (by omega)
     have HCP := zH (C7.put hrow hl0 A (.bool t7) (.slice a71 l71 k71) (.slice a72 l72 k72))
     have HLP := zH hput.1
     have HBP := zH (B7.trans hput.2)
     have slo := hrow.sl
     have n01 := hrow.inj hl0 (show A * 3 ≠ A * 3 + 1 by omega)
     have n02 := hrow.inj hl0 (show A * 3 ≠ A * 3 + 2 by omega)
     have n12 := hrow.inj hl0 (show A * 3 + 1 ≠ A * 3 + 2 by omega)
     clear L7 C7 B7 hput hrow HLD HCD HBD hb7 y5 hv7 HFD HFE
     (refine wpL.oo 14 ?_; intro K hK)
     rw [if_pos (by rfl)]
     go_simp
     refine hK.out _ _ (fun _ => hH7) ?_
     clear hK K
     try simp only [Act.put, List.setIfInBounds_toArray, List.set_cons_zero, List.set_cons_succ]
     (refine wpL.oo 15 ?_; intro K hK)
     rw [if_pos (by rfl)]
     go_simp
     refine hK.out _ _ (fun h => by first | cases h | simp at h) ?_
     clear hK K y2 y3 y4 f0 f1 f2 n01 n02 n12 hH7
     refine wpL.done (by kernel_rfl) ?_ _
     clear HFX HFY
     generalize ((w7.setCell (ptr (.slice s1 N s3) (A * 3)) (.bool t7)).setCell (ptr (.slice s1 N s3) (A * 3 + 1)) (.slice a71 l71 k71)).setCell (ptr (.slice s1 N s3) (A * 3 + 2)) (.slice a72 l72 k72) = w8 at *
     have HLT := HLP
     have HC8 := HCP
     have HBR := HBP
     clear HLP HCP HBP
     obtain ⟨ts, as1, ls1, ks1, as2, ls2, ks2, g1, g2, g3, hfs⟩ := (HEA.out.below HBR.out).cellsAt (k := i) (by rw [HLA.out.el]; exact HIA.out)
     have HFX : Hid (zqa w8 (.agg #[.bool ts, .slice as1 ls1 ks1, .slice as2 ls2 ks2]) (exQ a i)) := zH hfs
     obtain ⟨us, bs1, ms1, os1, bs2, ms2, os2, h1, h2, h3, hft⟩ := (HEB.out.below HBR.out).cellsAt (k := j) (by rw [HLB.out.el]; exact HJB.out)
     have HFY : Hid (zqa w8 (.agg #[.bool us, .slice bs1 ms1 os1, .slice bs2 ms2 os2]) (exQ b j)) := zH hft
     clear hfs hft
     go_upto_region 14 with fail
     obtain ⟨-, c0, c1, c2, c3, -, -, -, -⟩ := HC1.out.belowS HBR.out
     obtain ⟨-, d0, d1, d2, d3, -, -, -, -⟩ := HC2.out.belowS HBR.out
     obtain ⟨-, q0, q1, q2, q3, -, -, -, -⟩ := HC8.out
     have hbD := zja (B := w8.heap.size) w8
     have HLD := zH (HLT.out.below hbD)
     have HCD := zH (HC8.out.belowS hbD)
     have HBD := zH (zfa HBR.out hbD HBR.out.size)
     have HFD := zH (HFX.out.below hbD)
     have HFE := zH (HFY.out.below hbD)
     refine wpL.start 15 (fun w' => w'.cell? ⟨b8, 3, none⟩ = some (.slice e1 N e3) ∧ w'.cell? ⟨w.heap.size, 3, none⟩ = some (.slice eaA enA ekA) ∧ w'.cell? (ptr (.slice eaA enA ekA) (i * 3)) = some (.bool ts) ∧ w'.cell? (ptr (.slice eaA enA ekA) (i * 3 + 1)) = some (.slice as1 ls1 ks1) ∧ w'.cell? (ptr (.slice eaA enA ekA) (i * 3 + 2)) = some (.slice as2 ls2 ks2) ∧ w'.cell? ⟨w.heap.size + 1, 3, none⟩ = some (.slice eaB enB ekB) ∧ w'.cell? (ptr (.slice eaB enB ekB) (j * 3)) = some (.bool us) ∧ w'.cell? (ptr (.slice eaB enB ekB) (j * 3 + 1)) = some (.slice bs1 ms1 os1) ∧ w'.cell? (ptr (.slice eaB enB ekB) (j * 3 + 2)) = some (.slice bs2 ms2 os2)) (by kernel_rfl) ⟨zba hbD q3, zba hbD c3, zba hbD g1, zba hbD g2, zba hbD g3, zba hbD d3, zba hbD h1, zba hbD h2, zba hbD h3⟩ (fun hHeld => ?_)
     clear hbD HLT HC8 HBR c0 c1 c2 c3 d0 d1 d2 d3 q0 q1 q2 q3 g1 g2 g3 h1 h2 h3
     generalize w8.drew = wd at *
     refine wpL.u 0 ?_
     refine wpL.t 1 ?_
     refine wpL.u 2 ?_
     refine wpL.u 3 ?_
     refine wpL.t 4 ?_
     refine wpL.u 5 ?_
     refine wpL.u 6 ?_
     refine wpL.t 7 ?_
     refine wpL.u 8 ?_
     refine wpL.t 9 ?_
     refine wpL.u 10 ?_
     refine wpL.u 11 ?_
     refine wpL.t 12 ?_
     (refine wpL.oo 13 ?_; intro K hK)
     refine zxa 94 #[.agg #[.bool ts, .slice as1 ls1 ks1, .slice as2 ls2 ks2], .agg #[.bool us, .slice bs1 ms1 os1, .slice bs2 ms2 os2]] ?_ ?_ (pplus_can _ _ _ _ _ HFD.out HFE.out HLX.out.2.2.2.1 HLX.out.2.2.2.2.1 HLX.out.2.2.2.2.2) ?_
     ·rfl
     ·go_simp
     rintro e7 w7 ⟨v7, rfl, hv7, hb7⟩
     obtain ⟨t7, x7, y7, rfl, ⟨a71, l71, k71, rfl, _⟩, ⟨a72, l72, k72, rfl, _⟩⟩ := hv7.isF
     have hH7 := (And.intro (zba hb7 hHeld.1) (And.intro (zba hb7 hHeld.2.1) (And.intro (zba hb7 hHeld.2.2.1) (And.intro (zba hb7 hHeld.2.2.2.1) (And.intro (zba hb7 hHeld.2.2.2.2.1) (And.intro (zba hb7 hHeld.2.2.2.2.2.1) (And.intro (zba hb7 hHeld.2.2.2.2.2.2.1) (And.intro (zba hb7 hHeld.2.2.2.2.2.2.2.1) (zba hb7 hHeld.2.2.2.2.2.2.2.2)))))))))
     refine ⟨_, rfl, ?_⟩
     refine hK.out _ _ (fun _ => hH7) ?_
     clear hK K hHeld
     try simp only [Act.put, List.setIfInBounds_toArray, List.set_cons_zero, List.set_cons_succ]
     have L7 := HLD.out.below hb7
     have C7 := HCD.out.belowS hb7
     have B7 := zfa HBD.out hb7 HBD.out.size
     have hput := L7.putE (e' := fiEf a b (A + 1)) hAN (fun r _ hr => fiEf_put hr) (by rw [fiEf_at, HSV.out.2]; exact hv7)
     have hrow := L7.e
     have hjR := show A < (zib N (fiEf a b A)).length by rw [zea]; exact hAN
     have hl0 := Nat.lt_of_le_of_lt (Nat.zero_le _) hjR
     obtain ⟨z0, y1, y2, y3, y4, y5, _⟩ := hrow.fracs.at' A hjR
     have f0 := hrow.frozen (A * 3) (by omega)
     have f1 := hrow.frozen (A * 3 + 1) (by omega)
     have f2 := hrow.frozen (A * 3 + 2) (by omega)
     have HCP := zH (C7.put hrow hl0 A (.bool t7) (.slice a71 l71 k71) (.slice a72 l72 k72))
     have HLP := zH hput.1
     have HBP := zH (B7.trans hput.2)
     have slo := hrow.sl
     have n01 := hrow.inj hl0 (show A * 3 ≠ A * 3 + 1 by omega)
     have n02 := hrow.inj hl0 (show A * 3 ≠ A * 3 + 2 by omega)
     have n12 := hrow.inj hl0 (show A * 3 + 1 ≠ A * 3 + 2 by omega)
     clear L7 C7 B7 hput hrow HLD HCD HBD hb7 y5 hv7 HFD HFE
     (refine wpL.oo 14 ?_; intro K hK)
     rw [if_pos (by rfl)]
     go_simp
     refine hK.out _ _ (fun _ => hH7) ?_
     clear hK K
     try simp only [Act.put, List.setIfInBounds_toArray, List.set_cons_zero, List.set_cons_succ]
     (refine wpL.oo 15 ?_; intro K hK)
     rw [if_pos (by rfl)]
     go_simp
     refine hK.out _ _ (fun h => by first | cases h | simp at h) ?_
     clear hK K y2 y3 y4 f0 f1 f2 n01 n02 n12 hH7
     refine wpL.done (by kernel_rfl) ?_ _
     clear HFX HFY
     generalize ((w7.setCell (ptr (.slice e1 N e3) (A * 3)) (.bool t7)).setCell (ptr (.slice e1 N e3) (A * 3 + 1)) (.slice a71 l71 k71)).setCell (ptr (.slice e1 N e3) (A * 3 + 2)) (.slice a72 l72 k72) = w9 at *
     have HLT := HLP
     have HC8 := HCP
     have HBR := HBP
     clear HLP HCP HBP
     have hi1 : i < a.rates.length := by rw [HLA.out.rl]; exact HIA.out
     obtain ⟨row, hcr, hrow⟩ := HRA.out.at' i hi1
     obtain ⟨o1, o2, o3, rfl, _⟩ := id hrow.sl
     have hrl2 : (a.rates[i]'hi1).length = enA := (HLA.out.row i hi1).1.trans HNA.out
     obtain rfl : enA = o2 := (hrow.len.trans hrl2).symm
     have HROW := zH hrow
     have HRL2 := zH hrl2
     have srow := hrow.sl
     have hcr := zba HBR.out hcr
     have HRG : Hid (a.rates.getD i [] = a.rates[i]'hi1) := zH (by rw [List.getD_eq_getElem?_getD, List.getElem?_eq_getElem hi1]; rfl)
     obtain ⟨-, c0, c1, c2, c3, -, -, -, -⟩ := HC1.out.belowS HBR.out
     clear hrow hrl2
     go_wp2_with fail
     clear hcr c0 c1 c2 c3
     go_loopg [85] (enA) (fun g u85 wr => ∃ (k : Nat), k ≤ enA ∧ g = enA - k ∧ u85 = .int .i64 k ∧ zmo wr W2.heap.size (.slice s1 N s3) (.slice e1 N e3) (.slice r1 N r3) rs N (fiSf a b (A + 1)) (fiEf a b (A + 1)) (fiRow a b A (fi1 a enB i j (k))) ∧ C4 wr b8 (.string { data := #[] }) (.slice s1 N s3) (.slice r1 N r3) (.slice e1 N e3) ∧ Below W2.heap.size W2 wr)
     case atStart => exact ⟨0, Nat.zero_le _, rfl, rfl, HLT.out.congr (fun _ _ => rfl) (fun _ _ => rfl) (fun r c _ hc => fiRow_congr (t := N) (fun c _ => fi1_zero c) hc), HC8.out, HBR.out⟩
     case round =>
      clear HLT HC8 HBR
      obtain ⟨k, hkn, hgk, rfl, hlt, hc8, hbr⟩ := hrel
      obtain ⟨wa, hwx⟩ : ∃ w6, w6 = wr := ⟨_, rfl⟩
      subst hwx
      have HGk := zH hgk
      have HLT := zH hlt
      have HC8 := zH hc8
      have HBR := zH hbr
      clear hgk hlt hc8 hbr
      by_cases hkl : k < enA
      ·have k1' : (0 : Int) ≤ (k : Int) := by omega
       have k2' : (k : Int) < (enA : Nat) := by omega
       obtain ⟨M2, hM2⟩ : ∃ M2, k * enB = M2 := ⟨_, rfl⟩
       obtain ⟨C, hC⟩ : ∃ C, M2 + j = C := ⟨_, rfl⟩
       have hCN : C < N := by
        have h1 : (k + 1) * enB ≤ enA * enB := Nat.mul_le_mul_right _ hkl
        rw [Nat.succ_mul, hM2, HNN.out] at h1
        omega
       have hwb1 : IntKind.i64.wrap ((k : Int) * (enB : Int)) = ((M2 : Nat) : Int) := by rw [wrap_sm k enB (by rw [hM2]; omega), hM2]
       have hwb2 : IntKind.i64.wrap ((M2 : Int) + (j : Int)) = ((C : Nat) : Int) := wrap_sa M2 j C hC (by omega)
       have HCE : Hid (C = k * enB + j) := zH (by rw [← hC, ← hM2])
       have HLY : Hid (fits (fi1 a enB i j k C) ∧ fits (rtQ a i k) ∧ fits (fi1 a enB i j k C + rtQ a i k)) := zH (by
        have hc2 : C < a.start.length * enB := by rw [HNA.out, HNN.out]; exact hCN
        have g1 := fi1_lim (m := enB) (j := j) (k := k) HLA.out HIA.out hc2
        have g2 := fi1_lim (m := enB) (j := j) (k := k + 1) HLA.out HIA.out hc2
        refine ⟨g1.fits, (HLA.out.rt_lim HIA.out (by rw [HNA.out]; exact hkl)).fits, ?_⟩
        rw [HCE.out] at g2 ⊢
        rw [fi1_at hjl]
        exact g2.fits)
       clear hM2 hC
       have c1' : (0 : Int) ≤ (C : Int) := by omega
       have c2' : (C : Int) < (N : Nat) := by omega
       have hkr : k < (a.rates[i]'hi1).length := by rw [HRL2.out]; exact hkl
       obtain ⟨ts, as1, ls1, ks1, as2, ls2, ks2, g1, g2, g3, hfs⟩ := (HROW.out.below HBR.out).cellsAt (k := k) hkr
       have hxe : (a.rates[i]'hi1).getD k 0 = rtQ a i k := by unfold rtQ; rw [HRG.out]
       rw [hxe] at hfs
       have hb11 := zca wa (.cells #[.bool ts, .slice as1 ls1 ks1, .slice as2 ls2 ks2] 38)
       have HC11 := zH (C3.new wa 38 (.bool ts) (.slice as1 ls1 ks1) (.slice as2 ls2 ks2))
       have HFX := zH (hfs.below hb11)
       replace HLT := zH (HLT.out.below hb11)
       replace HC8 := zH (HC8.out.belowS hb11)
       replace HBR := zH (zfa HBR.out hb11 HBR.out.size)
       obtain ⟨b11, hb11e⟩ : ∃ b, wa.heap.size = b := ⟨_, rfl⟩
       have HBE := zH hb11e
       clear hxe hfs hb11 hb11e
       go_upto_region 18 with fail
       clear g1 g2 g3
       rw [HBE.out] at HC11 ⊢
       clear HBE
       generalize wa.alloc (.cells #[.bool ts, .slice as1 ls1 ks1, .slice as2 ls2 ks2] 38) = wv at *
       have hi9 : A < rs.length := by rw [HLT.out.rsl]; exact hAN
       have s2c := HLT.out.ra.cell A hi9
       have hRi : A < (zwo N (fiRow a b A (fi1 a enB i j (k)))).length := by rw [zdo]; exact hAN
       have hrw := HLT.out.rows A hi9 hRi
       obtain ⟨z1, z2, z3, ho, _⟩ := id hrw.sl
       have hz2 : z2 = N := by have h := hrw.fracs.len; rw [ho, zeo, zea] at h; exact h
       rw [hz2] at ho
       clear hz2
       rw [ho] at s2c hrw
       have HO := zH ho
       have hcl : C < ((zwo N (fiRow a b A (fi1 a enB i j (k))))[A]'hRi).length := by rw [zeo, zea]; exact hCN
       obtain ⟨us, bs1, ms1, os1, bs2, ms2, os2, h1, h2, h3, hft⟩ := hrw.fracs.cellsAt (k := C) hcl
       have hve : ((zwo N (fiRow a b A (fi1 a enB i j (k))))[A]'hRi).getD C 0 = (fi1 a enB i j (k)) C := by rw [zeo, zgo hCN, fiRow_at]
       rw [hve] at hft
       have HFY := zH hft
       have srz := hrw.sl
       have sr1 := HLT.out.ra.sl
       clear hft hve hrw ho hcl
       obtain ⟨_, e0', e1', e2', _, _, _⟩ := HC11.out
       obtain ⟨-, q0, q1, q2, q3, -, -, -, -⟩ := HC8.out
       have hbD := zja (B := wv.heap.size) wv
       have HLD := zH (HLT.out.below hbD)
       have HCD := zH (HC8.out.belowS hbD)
       have HBD := zH (zfa HBR.out hbD HBR.out.size)
       have HFD := zH (HFX.out.below hbD)
       have HFE := zH (HFY.out.below hbD)
       refine wpL.start 25 (fun w' => w'.cell? ⟨b8, 2, none⟩ = some (.slice r1 N r3) ∧ w'.cell? (ptr (.slice r1 N r3) A) = some (.slice z1 N z3) ∧ w'.cell? (ptr (.slice z1 N z3) (C * 3)) = some (.bool us) ∧ w'.cell? (ptr (.slice z1 N z3) (C * 3 + 1)) = some (.slice bs1 ms1 os1) ∧ w'.cell? (ptr (.slice z1 N z3) (C * 3 + 2)) = some (.slice bs2 ms2 os2) ∧ w'.cell? ⟨b11, 0, none⟩ = some (.bool ts) ∧ w'.cell? ⟨b11, 1, none⟩ = some (.slice as1 ls1 ks1) ∧ w'.cell? ⟨b11, 2, none⟩ = some (.slice as2 ls2 ks2)) (by kernel_rfl) ⟨zba hbD q2, zba hbD s2c, zba hbD h1, zba hbD h2, zba hbD h3, zba hbD e0', zba hbD e1', zba hbD e2'⟩ (fun hHeld => ?_)
       clear hbD HLT HC8 HBR q0 q1 q2 q3 h1 h2 h3 s2c e0' e1' e2' HC11
       generalize wv.drew = wd at *
       refine wpL.u 0 ?_
       refine wpL.t 1 ?_
       refine wpL.u 2 ?_
       refine wpL.u 3 ?_
       refine wpL.t 4 ?_
       refine wpL.u 5 ?_
       refine wpL.u 6 ?_
       refine wpL.u 7 ?_
       refine wpL.u 8 ?_
       refine wpL.u 9 ?_
       refine wpL.u 10 ?_
       refine wpL.t 11 ?_
       refine wpL.u 12 ?_
       refine wpL.u 13 ?_
       refine wpL.t 14 ?_
       refine wpL.u 15 ?_
       refine wpL.u 16 ?_
       refine wpL.u 17 ?_
       refine wpL.u 18 ?_
       refine wpL.u 19 ?_
       refine wpL.u 20 ?_
       refine wpL.t 21 ?_
       refine wpL.t 22 ?_
       (refine wpL.oo 23 ?_; intro K hK)
       refine zxa 94 #[.agg #[.bool us, .slice bs1 ms1 os1, .slice bs2 ms2 os2], .agg #[.bool ts, .slice as1 ls1 ks1, .slice as2 ls2 ks2]] ?_ ?_ (pplus_can _ _ _ _ _ HFE.out HFD.out HLY.out.1 HLY.out.2.1 HLY.out.2.2) ?_
       ·rfl
       ·go_simp
       rintro e7 w7 ⟨v7, rfl, hv7, hb7⟩
       obtain ⟨t7, x7, y7, rfl, ⟨a71, l71, k71, rfl, _⟩, ⟨a72, l72, k72, rfl, _⟩⟩ := hv7.isF
       have hH7 := (And.intro (zba hb7 hHeld.1) (And.intro (zba hb7 hHeld.2.1) (And.intro (zba hb7 hHeld.2.2.1) (And.intro (zba hb7 hHeld.2.2.2.1) (And.intro (zba hb7 hHeld.2.2.2.2.1) (And.intro (zba hb7 hHeld.2.2.2.2.2.1) (And.intro (zba hb7 hHeld.2.2.2.2.2.2.1) (zba hb7 hHeld.2.2.2.2.2.2.2))))))))
       refine ⟨_, rfl, ?_⟩
       refine hK.out _ _ (fun _ => hH7) ?_
       clear hK K hHeld
       try simp only [Act.put, List.setIfInBounds_toArray, List.set_cons_zero, List.set_cons_succ]
       have L7 := HLD.out.below hb7
       have C7 := HCD.out.belowS hb7
       have B7 := zfa HBD.out hb7 HBD.out.size
       have hput := L7.putR (g := fiRow a b A (fi1 a enB i j (k + 1))) hi9 hCN (fun r c _ _ hne => fiRow_put (x := C) (fun y hy => fi1_put hjl (by rw [← HCE.out]; exact hy)) hne) (by rw [fiRow_at, HCE.out, ← fi1_at hjl, ← HCE.out]; exact hv7)
       rw [HO.out] at hput
       have hrow := L7.rows A hi9 hRi
       rw [HO.out] at hrow
       have hjR := show C < ((zwo N (fiRow a b A (fi1 a enB i j (k))))[A]'hRi).length by rw [zeo, zea]; exact hCN
       have hl0 := Nat.lt_of_le_of_lt (Nat.zero_le _) hjR
       obtain ⟨z0, y1, y2, y3, y4, y5, _⟩ := hrow.fracs.at' C hjR
       have f0 := hrow.frozen (C * 3) (by omega)
       have f1 := hrow.frozen (C * 3 + 1) (by omega)
       have f2 := hrow.frozen (C * 3 + 2) (by omega)
       have HCP := zH (C7.put hrow hl0 C (.bool t7) (.slice a71 l71 k71) (.slice a72 l72 k72))
       have HLP := zH hput.1
       have HBP := zH (B7.trans hput.2)
       have slo := hrow.sl
       have n01 := hrow.inj hl0 (show C * 3 ≠ C * 3 + 1 by omega)
       have n02 := hrow.inj hl0 (show C * 3 ≠ C * 3 + 2 by omega)
       have n12 := hrow.inj hl0 (show C * 3 + 1 ≠ C * 3 + 2 by omega)
       clear L7 C7 B7 hput hrow HLD HCD HBD hb7 y5 hv7 HFD HFE
       (refine wpL.oo 24 ?_; intro K hK)
       rw [if_pos (by rfl)]
       go_simp
       refine hK.out _ _ (fun _ => hH7) ?_
       clear hK K
       try simp only [Act.put, List.setIfInBounds_toArray, List.set_cons_zero, List.set_cons_succ]
       (refine wpL.oo 25 ?_; intro K hK)
       rw [if_pos (by rfl)]
       go_simp
       refine hK.out _ _ (fun h => by first | cases h | simp at h) ?_
       clear hK K y2 y3 y4 f0 f1 f2 n01 n02 n12 hH7
       refine wpL.done (by kernel_rfl) ?_ _
       go_wp2_with fail
       go_roundg (enA - (k + 1))
       case measure => (have := HGk.out; omega)
       case rel => exact ⟨k + 1, by omega, rfl, by go_num, HLP.out, HCP.out, HBP.out⟩
      ·obtain rfl : enA = k := by omega
       have HLT2 : Hid (zmo wa W2.heap.size (.slice s1 N s3) (.slice e1 N e3) (.slice r1 N r3) rs N (fiSf a b (A + 1)) (fiEf a b (A + 1)) (fiRow a b A (fi2 a b enB i j 0))) := zH (HLT.out.congr (fun _ _ => rfl) (fun _ _ => rfl) (fun r c _ hc => fiRow_congr (t := N) (fun c hc => fi_meet (by rw [HNN.out]; exact hc)) hc))
       have HLT := HLT2
       clear HLT2 HROW HRL2 HRG srow hi1
       have hi1 : j < b.rates.length := by rw [HLB.out.rl]; exact HJB.out
       obtain ⟨row, hcr, hrow⟩ := HRB.out.at' j hi1
       obtain ⟨o1, o2, o3, rfl, _⟩ := id hrow.sl
       have hrl2 : (b.rates[j]'hi1).length = enB := (HLB.out.row j hi1).1.trans HNB.out
       obtain rfl : enB = o2 := (hrow.len.trans hrl2).symm
       have HROW := zH hrow
       have HRL2 := zH hrl2
       have srow := hrow.sl
       have hcr := zba HBR.out hcr
       have HRG : Hid (b.rates.getD j [] = b.rates[j]'hi1) := zH (by rw [List.getD_eq_getElem?_getD, List.getElem?_eq_getElem hi1]; rfl)
       obtain ⟨-, c0, c1, c2, c3, -, -, -, -⟩ := HC2.out.belowS HBR.out
       clear hrow hrl2
       go_wp2_with fail
       clear hcr c0 c1 c2 c3
       go_loopg [122] (enB) (fun g u122 wr => ∃ (k : Nat), k ≤ enB ∧ g = enB - k ∧ u122 = .int .i64 k ∧ zmo wr W2.heap.size (.slice s1 N s3) (.slice e1 N e3) (.slice r1 N r3) rs N (fiSf a b (A + 1)) (fiEf a b (A + 1)) (fiRow a b A (fi2 a b enB i j (k))) ∧ C4 wr b8 (.string { data := #[] }) (.slice s1 N s3) (.slice r1 N r3) (.slice e1 N e3) ∧ Below W2.heap.size W2 wr)
       case atStart => exact ⟨0, Nat.zero_le _, rfl, rfl, HLT.out, HC8.out, HBR.out⟩
       case round =>
        clear HLT HC8 HBR
        obtain ⟨k, hkn, hgk, rfl, hlt, hc8, hbr⟩ := hrel
        obtain ⟨wb, hwx⟩ : ∃ w6, w6 = wr := ⟨_, rfl⟩
        subst hwx
        have HGk := zH hgk
        have HLT := zH hlt
        have HC8 := zH hc8
        have HBR := zH hbr
        clear hgk hlt hc8 hbr
        by_cases hkl : k < enB
        ·have k1' : (0 : Int) ≤ (k : Int) := by omega
         have k2' : (k : Int) < (enB : Nat) := by omega
         obtain ⟨C, hC⟩ : ∃ C, M1 + k = C := ⟨_, rfl⟩
         have hCN : C < N := by omega
         have hwb2 : IntKind.i64.wrap ((M1 : Int) + (k : Int)) = ((C : Nat) : Int) := wrap_sa M1 k C hC (by omega)
         have HCE : Hid (C = i * enB + k) := zH (by rw [← hC, ← HM1.out])
         have HLY : Hid (fits (fi2 a b enB i j k C) ∧ fits (rtQ b j k) ∧ fits (fi2 a b enB i j k C + rtQ b j k)) := zH (by
          have g := fi2_fits (k := k) HLA.out HLB.out HIA.out HJB.out (by rw [HNB.out]; exact hkl)
          rw [HNB.out, ← HCE.out] at g
          refine ⟨g.1, (HLB.out.rt_lim HJB.out (by rw [HNB.out]; exact hkl)).fits, ?_⟩
          rw [HCE.out, fi2_at hkl, ← HCE.out]
          exact g.2)
         clear hC
         have c1' : (0 : Int) ≤ (C : Int) := by omega
         have c2' : (C : Int) < (N : Nat) := by omega
         have hkr : k < (b.rates[j]'hi1).length := by rw [HRL2.out]; exact hkl
         obtain ⟨ts, as1, ls1, ks1, as2, ls2, ks2, g1, g2, g3, hfs⟩ := (HROW.out.below HBR.out).cellsAt (k := k) hkr
         have hxe : (b.rates[j]'hi1).getD k 0 = rtQ b j k := by unfold rtQ; rw [HRG.out]
         rw [hxe] at hfs
         have hb11 := zca wb (.cells #[.bool ts, .slice as1 ls1 ks1, .slice as2 ls2 ks2] 38)
         have HC11 := zH (C3.new wb 38 (.bool ts) (.slice as1 ls1 ks1) (.slice as2 ls2 ks2))
         have HFX := zH (hfs.below hb11)
         replace HLT := zH (HLT.out.below hb11)
         replace HC8 := zH (HC8.out.belowS hb11)
         replace HBR := zH (zfa HBR.out hb11 HBR.out.size)
         obtain ⟨b11, hb11e⟩ : ∃ b, wb.heap.size = b := ⟨_, rfl⟩
         have HBE := zH hb11e
         clear hxe hfs hb11 hb11e
         go_upto_region 23 with fail
         clear g1 g2 g3
         rw [HBE.out] at HC11 ⊢
         clear HBE
         generalize wb.alloc (.cells #[.bool ts, .slice as1 ls1 ks1, .slice as2 ls2 ks2] 38) = wv at *
         have hi9 : A < rs.length := by rw [HLT.out.rsl]; exact hAN
         have s2c := HLT.out.ra.cell A hi9
         have hRi : A < (zwo N (fiRow a b A (fi2 a b enB i j (k)))).length := by rw [zdo]; exact hAN
         have hrw := HLT.out.rows A hi9 hRi
         obtain ⟨z1, z2, z3, ho, _⟩ := id hrw.sl
         have hz2 : z2 = N := by have h := hrw.fracs.len; rw [ho, zeo, zea] at h; exact h
         rw [hz2] at ho
         clear hz2
         rw [ho] at s2c hrw
         have HO := zH ho
         have hcl : C < ((zwo N (fiRow a b A (fi2 a b enB i j (k))))[A]'hRi).length := by rw [zeo, zea]; exact hCN
         obtain ⟨us, bs1, ms1, os1, bs2, ms2, os2, h1, h2, h3, hft⟩ := hrw.fracs.cellsAt (k := C) hcl
         have hve : ((zwo N (fiRow a b A (fi2 a b enB i j (k))))[A]'hRi).getD C 0 = (fi2 a b enB i j (k)) C := by rw [zeo, zgo hCN, fiRow_at]
         rw [hve] at hft
         have HFY := zH hft
         have srz := hrw.sl
         have sr1 := HLT.out.ra.sl
         clear hft hve hrw ho hcl
         obtain ⟨_, e0', e1', e2', _, _, _⟩ := HC11.out
         obtain ⟨-, q0, q1, q2, q3, -, -, -, -⟩ := HC8.out
         have hbD := zja (B := wv.heap.size) wv
         have HLD := zH (HLT.out.below hbD)
         have HCD := zH (HC8.out.belowS hbD)
         have HBD := zH (zfa HBR.out hbD HBR.out.size)
         have HFD := zH (HFX.out.below hbD)
         have HFE := zH (HFY.out.below hbD)
         refine wpL.start 25 (fun w' => w'.cell? ⟨b8, 2, none⟩ = some (.slice r1 N r3) ∧ w'.cell? (ptr (.slice r1 N r3) A) = some (.slice z1 N z3) ∧ w'.cell? (ptr (.slice z1 N z3) (C * 3)) = some (.bool us) ∧ w'.cell? (ptr (.slice z1 N z3) (C * 3 + 1)) = some (.slice bs1 ms1 os1) ∧ w'.cell? (ptr (.slice z1 N z3) (C * 3 + 2)) = some (.slice bs2 ms2 os2) ∧ w'.cell? ⟨b11, 0, none⟩ = some (.bool ts) ∧ w'.cell? ⟨b11, 1, none⟩ = some (.slice as1 ls1 ks1) ∧ w'.cell? ⟨b11, 2, none⟩ = some (.slice as2 ls2 ks2)) (by kernel_rfl) ⟨zba hbD q2, zba hbD s2c, zba hbD h1, zba hbD h2, zba hbD h3, zba hbD e0', zba hbD e1', zba hbD e2'⟩ (fun hHeld => ?_)
         clear hbD HLT HC8 HBR q0 q1 q2 q3 h1 h2 h3 s2c e0' e1' e2' HC11
         generalize wv.drew = wd at *
         refine wpL.u 0 ?_
         refine wpL.t 1 ?_
         refine wpL.u 2 ?_
         refine wpL.u 3 ?_
         refine wpL.t 4 ?_
         refine wpL.u 5 ?_
         refine wpL.u 6 ?_
         refine wpL.u 7 ?_
         refine wpL.u 8 ?_
         refine wpL.u 9 ?_
         refine wpL.u 10 ?_
         refine wpL.t 11 ?_
         refine wpL.u 12 ?_
         refine wpL.u 13 ?_
         refine wpL.t 14 ?_
         refine wpL.u 15 ?_
         refine wpL.u 16 ?_
         refine wpL.u 17 ?_
         refine wpL.u 18 ?_
         refine wpL.u 19 ?_
         refine wpL.u 20 ?_
         refine wpL.t 21 ?_
         refine wpL.t 22 ?_
         (refine wpL.oo 23 ?_; intro K hK)
         refine zxa 94 #[.agg #[.bool us, .slice bs1 ms1 os1, .slice bs2 ms2 os2], .agg #[.bool ts, .slice as1 ls1 ks1, .slice as2 ls2 ks2]] ?_ ?_ (pplus_can _ _ _ _ _ HFE.out HFD.out HLY.out.1 HLY.out.2.1 HLY.out.2.2) ?_
         ·rfl
         ·go_simp
         rintro e7 w7 ⟨v7, rfl, hv7, hb7⟩
         obtain ⟨t7, x7, y7, rfl, ⟨a71, l71, k71, rfl, _⟩, ⟨a72, l72, k72, rfl, _⟩⟩ := hv7.isF
         have hH7 := (And.intro (zba hb7 hHeld.1) (And.intro (zba hb7 hHeld.2.1) (And.intro (zba hb7 hHeld.2.2.1) (And.intro (zba hb7 hHeld.2.2.2.1) (And.intro (zba hb7 hHeld.2.2.2.2.1) (And.intro (zba hb7 hHeld.2.2.2.2.2.1) (And.intro (zba hb7 hHeld.2.2.2.2.2.2.1) (zba hb7 hHeld.2.2.2.2.2.2.2))))))))
         refine ⟨_, rfl, ?_⟩
         refine hK.out _ _ (fun _ => hH7) ?_
         clear hK K hHeld
         try simp only [Act.put, List.setIfInBounds_toArray, List.set_cons_zero, List.set_cons_succ]
         have L7 := HLD.out.below hb7
         have C7 := HCD.out.belowS hb7
         have B7 := zfa HBD.out hb7 HBD.out.size
         have hput := L7.putR (g := fiRow a b A (fi2 a b enB i j (k + 1))) hi9 hCN (fun r c _ _ hne => fiRow_put (x := C) (fun y hy => fi2_put (by rw [← HCE.out]; exact hy)) hne) (by rw [fiRow_at, HCE.out, ← fi2_at hkl, ← HCE.out]; exact hv7)
         rw [HO.out] at hput
         have hrow := L7.rows A hi9 hRi
         rw [HO.out] at hrow
         have hjR := show C < ((zwo N (fiRow a b A (fi2 a b enB i j (k))))[A]'hRi).length by rw [zeo, zea]; exact hCN
         have hl0 := Nat.lt_of_le_of_lt (Nat.zero_le _) hjR
         obtain ⟨z0, y1, y2, y3, y4, y5, _⟩ := hrow.fracs.at' C hjR
         have f0 := hrow.frozen (C * 3) (by omega)
         have f1 := hrow.frozen (C * 3 + 1) (by omega)
         have f2 := hrow.frozen (C * 3 + 2) (by omega)
         have HCP := zH (C7.put hrow hl0 C (.bool t7) (.slice a71 l71 k71) (.slice a72 l72 k72))
         have HLP := zH hput.1
         have HBP := zH (B7.trans hput.2)
         have slo := hrow.sl
         have n01 := hrow.inj hl0 (show C * 3 ≠ C * 3 + 1 by omega)
         have n02 := hrow.inj hl0 (show C * 3 ≠ C * 3 + 2 by omega)
         have n12 := hrow.inj hl0 (show C * 3 + 1 ≠ C * 3 + 2 by omega)
         clear L7 C7 B7 hput hrow HLD HCD HBD hb7 y5 hv7 HFD HFE
         (refine wpL.oo 24 ?_; intro K hK)
         rw [if_pos (by rfl)]
         go_simp
         refine hK.out _ _ (fun _ => hH7) ?_
         clear hK K
         try simp only [Act.put, List.setIfInBounds_toArray, List.set_cons_zero, List.set_cons_succ]
         (refine wpL.oo 25 ?_; intro K hK)
         rw [if_pos (by rfl)]
         go_simp
         refine hK.out _ _ (fun h => by first | cases h | simp at h) ?_
         clear hK K y2 y3 y4 f0 f1 f2 n01 n02 n12 hH7
         refine wpL.done (by kernel_rfl) ?_ _
         go_wp2_with fail
         go_roundg (enB - (k + 1))
         case measure => (have := HGk.out; omega)
         case rel => exact ⟨k + 1, by omega, rfl, by go_num, HLP.out, HCP.out, HBP.out⟩
        ·obtain rfl : enB = k := by omega
         have hLN : zmo wb W2.heap.size (.slice s1 N s3) (.slice e1 N e3) (.slice r1 N r3) rs N (fiSf a b (M1 + (j + 1))) (fiEf a b (M1 + (j + 1))) (fiRow a b (M1 + (j + 1)) (fun _ => 0)) := by
          rw [← Nat.add_assoc, HAJ.out]
          refine HLT.out.congr (fun _ _ => rfl) (fun _ _ => rfl) (fun r c _ hc => fiRow_next (N := N) (fun c hc => ?_) hc)
          have h := fi2_all HLA.out HLB.out HIA.out HJB.out (c := c) (by show c < a.start.length * b.start.length; rw [HNA.out, HNB.out, HNN.out]; exact hc)
          rw [HNB.out] at h
          rw [HAE.out, HNB.out]
          exact h
         have HLN := zH hLN
         clear hLN
         go_wp2_with fail
         go_roundg (enB - (j + 1))
         case measure => (have := HGj.out; omega)
         case rel => exact ⟨j + 1, by omega, rfl, by go_num, HLN.out, HC8.out, HBR.out⟩
    ·obtain rfl : enB = j := by omega
     go_wp2_with fail
     go_roundg (enA - (i + 1))
     case measure => (have := HGi.out; omega)
     case rel => exact ⟨i + 1, by omega, rfl, by go_num, by rw [Nat.succ_mul, HM1.out]; exact HLT.out, HC8.out, HBR.out⟩
  ·obtain rfl : enA = i := by omega
   rw [HNN.out] at HLT
   have hfn : zmo wx W2.heap.size (.slice s1 N s3) (.slice e1 N e3) (.slice r1 N r3) rs N (bfS a b) (fiE a b) (bfr a b) := HLT.out.congr (fun r hr => by unfold fiSf; rw [if_pos hr]) (fun r hr => by unfold fiEf; rw [if_pos hr]) (fun r c hr hc => by unfold fiRow; rw [if_pos hr])
   have HLF := zH hfn
   have hsL : firL a b = fnL N (bfS a b) (fiE a b) (bfr a b) := by unfold firL bfN; rw [HNA.out, HNB.out, HNN.out]
   have HSL := zH hsL
   have HCH : Hid (∀ w0, Below wx.heap.size wx w0 → Calls Tryz.prog 104 #[.agg #[.string { data := #[] }, .slice s1 N s3, .slice r1 N r3, .slice e1 N e3]] w0 (fun e w' => e = .returned (.tuple #[.agg #[.string { data := #[] }, .slice s1 N s3, .slice r1 N r3, .slice e1 N e3], .int .i64 0]) ∧ Below w0.heap.size w0 w')) := zH (fun w0 h => pchecked_ok _ (fnL N (bfS a b) (fiE a b) (bfr a b)) w0 ((HLF.out.below h).lawE) (by rw [← HSL.out]; exact HLS.out))
   clear hfn hsL
   obtain ⟨-, q0, q1, q2, q3, -, -, -, -⟩ := HC8.out
   go_wp2_with (first
    |(go_at_call 104; (with_reducible refine (HCH.out _ (Below.refl _ _)).mono ?_); rintro e9 w9 ⟨rfl, hb9⟩
      have HT9 := zH (HC3.out.belowS (zaa HBR.out hb9))
      have HB9 := zH (zaa HBW.out (zaa HBR.out hb9))
      have HL9 := zH (HLF.out.below hb9)
      clear q0 q1 q2 q3
      obtain ⟨-, q0, q1, q2, q3, f0, f1, f2, f3⟩ := HT9.out
      clear hb9))
   refine zzd rfl rfl Tryz.aggL Tryz.sizeL (HT9.out.set _ _ _ _) rfl ?_
   refine ⟨_, rfl, ?_, zqd HB9.out (Nat.le_succ_of_le (Nat.le_succ _)) _ _ _ _⟩
   rw [HSL.out]
   exact (zmo.set4' HL9.out hN1 HT9.out).lawE
end Go.Proofs.YtlpdkbmmbdfoiaaGreat
