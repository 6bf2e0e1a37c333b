/-
  package phase: Mix, of valid laws.
-/
import Derived.Test.YtlpdkbmmbdfoiaaGreatGPh22
import Derived.Test.YtlpdkbmmbdfoiaaGreatGPh12
set_option linter.unusedVariables false
set_option linter.unusedSimpArgs false
namespace Go.Proofs.YtlpdkbmmbdfoiaaGreat
open Go.RowKit
theorem cmpR_gt (p q : Rat) : 0 < cmpR p q ↔ q < p := by
 unfold cmpR
 by_cases h1 : p < q
 ·rw [if_pos h1]
  exact ⟨fun h => absurd h (by decide), fun h => absurd h1 (Rat.not_lt.2 (Rat.le_of_lt h))⟩
 ·rw [if_neg h1]
  by_cases h2 : q < p
  ·rw [if_pos h2]; exact ⟨fun _ => h2, fun _ => by decide⟩
  ·rw [if_neg h2]; exact ⟨fun h => absurd h (by decide), fun h => absurd h h2⟩
theorem mix_box (w : World) (t u : TypeId) (q0 q1 q2 x0 x1 x2 x3 y0 y1 y2 y3 z0 z1 z2 z3 : Value) (W : World) (hW : W = (((w.alloc (.cells #[q0, q1, q2] u)).alloc (.cells #[x0, x1, x2, x3] t)).alloc (.cells #[y0, y1, y2, y3] t)).alloc (.cells #[z0, z1, z2, z3] t)) :
 C3 W w.heap.size q0 q1 q2 ∧ C4 W (w.heap.size + 1) x0 x1 x2 x3 ∧ C4 W (w.heap.size + 1 + 1) y0 y1 y2 y3 ∧ C4 W (w.heap.size + 1 + 1 + 1) z0 z1 z2 z3 ∧ Below w.heap.size w W := by
 obtain ⟨h1, h2, h3, h4⟩ := law_box3 (w.alloc (.cells #[q0, q1, q2] u)) t x0 x1 x2 x3 y0 y1 y2 y3 z0 z1 z2 z3
 have hz1 : (w.alloc (.cells #[q0, q1, q2] u)).heap.size = w.heap.size + 1 := by show (w.heap.push _).size = _; rw [Array.size_push]
 rw [← hW] at h1 h2 h3 h4
 have h5 := (C3.new w u q0 q1 q2).belowS h4
 rw [hz1] at h1 h2 h3
 exact ⟨h5, h1, h2, h3, zaa (zca w _) h4⟩
def mxSf (a b : LQ) (p : Rat) (n i k : Nat) : Nat → Rat := fun r => if r < n then (if r < i then p * stQ a r else 0) else if r < n + k then (1 - p) * stQ b (r - n) else 0
def mxEf (a b : LQ) (n i k : Nat) : Nat → Rat := fun r => if r < n then (if r < i then exQ a r else 0) else if r < n + k then exQ b (r - n) else 0
section
variable {a b : LQ} {p : Rat} {n i k r : Nat}
theorem mxSf_puta (h : r ≠ i) : mxSf a b p n i k r = mxSf a b p n (i + 1) k r := by
 unfold mxSf
 by_cases h1 : r < n
 ·rw [if_pos h1, if_pos h1]
  by_cases h2 : r < i
  ·rw [if_pos h2, if_pos (by omega)]
  ·rw [if_neg h2, if_neg (by omega)]
 ·rw [if_neg h1, if_neg h1]
theorem mxSf_ata (h : i < n) : mxSf a b p n (i + 1) k i = p * stQ a i := by unfold mxSf; rw [if_pos h, if_pos (by omega)]
theorem mxSf_putb (h : r ≠ n + k) : mxSf a b p n i k r = mxSf a b p n i (k + 1) r := by
 unfold mxSf
 by_cases h1 : r < n
 ·rw [if_pos h1, if_pos h1]
 ·rw [if_neg h1, if_neg h1]
  by_cases h2 : r < n + k
  ·rw [if_pos h2, if_pos (by omega)]
  ·rw [if_neg h2, if_neg (by omega)]
theorem mxSf_atb : mxSf a b p n i (k + 1) (n + k) = (1 - p) * stQ b k := by unfold mxSf; rw [if_neg (by omega), if_pos (by omega), Nat.add_sub_cancel_left]
theorem mxEf_puta (h : r ≠ i) : mxEf a b n i k r = mxEf a b n (i + 1) k r := by
 unfold mxEf
 by_cases h1 : r < n
 ·rw [if_pos h1, if_pos h1]
  by_cases h2 : r < i
  ·rw [if_pos h2, if_pos (by omega)]
  ·rw [if_neg h2, if_neg (by omega)]
 ·rw [if_neg h1, if_neg h1]
theorem mxEf_ata (h : i < n) : mxEf a b n (i + 1) k i = exQ a i := by unfold mxEf; rw [if_pos h, if_pos (by omega)]
theorem mxEf_putb (h : r ≠ n + k) : mxEf a b n i k r = mxEf a b n i (k + 1) r := by
 unfold mxEf
 by_cases h1 : r < n
 ·rw [if_pos h1, if_pos h1]
 ·rw [if_neg h1, if_neg h1]
  by_cases h2 : r < n + k
  ·rw [if_pos h2, if_pos (by omega)]
  ·rw [if_neg h2, if_neg (by omega)]
theorem mxEf_atb : mxEf a b n i (k + 1) (n + k) = exQ b k := by unfold mxEf; rw [if_neg (by omega), if_pos (by omega), Nat.add_sub_cancel_left]
theorem mxSf_zero (n r : Nat) : (0 : Rat) = mxSf a b p n 0 0 r := by
 unfold mxSf
 by_cases h1 : r < n
 ·rw [if_pos h1, if_neg (by omega)]
 ·rw [if_neg h1, if_neg (by omega)]
theorem mxEf_zero (n r : Nat) : (0 : Rat) = mxEf a b n 0 0 r := by
 unfold mxEf
 by_cases h1 : r < n
 ·rw [if_pos h1, if_neg (by omega)]
 ·rw [if_neg h1, if_neg (by omega)]
theorem mx_all {r c : Nat} (hr : r < a.start.length + b.start.length) (hc : c < a.start.length + b.start.length) : plA (plA (fun _ _ => 0) (rtQ a) a.start.length 0) (rtQ b) b.start.length a.start.length r c = mxR a b r c := by
 unfold mxR plA
 by_cases h1 : r < a.start.length
 ·by_cases h2 : c < a.start.length
  ·rw [if_neg (by omega), if_pos (by omega), if_pos h1, if_pos h2, Nat.sub_zero, Nat.sub_zero]
  ·rw [if_neg (by omega), if_neg (by omega), if_pos h1, if_neg h2]
 ·by_cases h2 : c < a.start.length
  ·rw [if_neg (by omega), if_neg (by omega), if_neg h1, if_pos h2]
  ·rw [if_pos (by omega), if_neg h1, if_neg h2]
end
set_option maxRecDepth 100000 in
set_option maxHeartbeats 12800000 in
theorem pmix_any (vp va vb : Value) (p : Rat) (a b : LQ) (w : World) (hp : zqa w vp p) (ha : zgm w va a) (hb : zgm w vb b) (hla : zxb a) (hlb : zxb b) (hN : a.start.length + b.start.length ≤ 4) (hpf : fits p) (hqf : fits (1 - p)) (h0 : 0 ≤ p) (h1 : p ≤ 1) (hls : zxb (mixL a b p)) :
 Calls Tryz.prog 56 #[vp, va, vb] w (RLawS w (mixL a b p)) := by
 obtain ⟨svA, rvA, evA, rfl, hsA, hrA, heA⟩ := id ha
 obtain ⟨saA, snA, skA, rfl, -⟩ := id hsA.sl
 obtain ⟨raA, rnA, rkA, rfl, -⟩ := id hrA.sl
 obtain ⟨eaA, enA, ekA, rfl, -⟩ := id heA.sl
 obtain ⟨svB, rvB, evB, rfl, hsB, hrB, heB⟩ := id hb
 obtain ⟨saB, snB, skB, rfl, -⟩ := id hsB.sl
 obtain ⟨raB, rnB, rkB, rfl, -⟩ := id hrB.sl
 obtain ⟨eaB, enB, ekB, rfl, -⟩ := id heB.sl
 obtain ⟨n, hn⟩ : ∃ n, a.start.length = n := ⟨_, rfl⟩
 obtain ⟨m, hm⟩ : ∃ m, b.start.length = m := ⟨_, rfl⟩
 obtain rfl : snA = n := hsA.len.trans hn
 obtain rfl : rnA = snA := (hrA.len.trans hla.rl).trans hn
 obtain rfl : enA = rnA := (heA.len.trans hla.el).trans hn
 obtain rfl : snB = m := hsB.len.trans hm
 obtain rfl : rnB = snB := (hrB.len.trans hlb.rl).trans hm
 obtain rfl : enB = rnB := (heB.len.trans hlb.el).trans hm
 have n1 : 1 ≤ enA := by rw [← hn]; exact hla.n1
 have m1 : 1 ≤ enB := by rw [← hm]; exact hlb.n1
 have n4 : enA ≤ 4 := by rw [← hn]; exact hla.n4
 have m4 : enB ≤ 4 := by rw [← hm]; exact hlb.n4
 obtain ⟨tp, xp, yp, rfl, ⟨p1, p2, p3, rfl, _⟩, ⟨p4, p5, p6, rfl, _⟩⟩ := hp.isF
 obtain ⟨N, hNN⟩ : ∃ N, enA + enB = N := ⟨_, rfl⟩
 have hN4 : N ≤ 4 := by rw [← hNN, ← hn, ← hm]; exact hN
 have hN1 : 1 ≤ N := by omega
 obtain ⟨hc0, hc1, hc2, hc3, hbw⟩ := mix_box w 52 38 (.bool tp) (.slice p1 p2 p3) (.slice p4 p5 p6) (.string { data := #[] }) (.slice saA enA skA) (.slice raA enA rkA) (.slice eaA enA ekA) (.string { data := #[] }) (.slice saB enB skB) (.slice raB enB rkB) (.slice eaB enB ekB) (.string { data := #[] }) (.slice none 0 0) (.slice none 0 0) (.slice none 0 0) _ rfl
 have HC0 := zH hc0
 have HC1 := zH hc1
 have HC2 := zH hc2
 have HC3 := zH hc3
 have HBW := zH hbw
 have HP := zH (hp.below hbw)
 have HA := zH (ha.below hbw)
 have HB := zH (hb.below hbw)
 have HSA := zH (hsA.below hbw)
 have HEA := zH (heA.below hbw)
 have HSB := zH (hsB.below hbw)
 have HEB := zH (heB.below hbw)
 have HPF := zH (And.intro hpf hqf)
 have HLA := zH hla
 have HLB := zH hlb
 have HLS := zH hls
 have HNA := zH hn
 have HNB := zH hm
 have HNN := zH hNN
 have ssA := hsA.sl
 have seA := heA.sl
 have ssB := hsB.sl
 have seB := heB.sl
 have srA := hrA.sl
 have srB := hrB.sl
 have hab : a.start.length + b.start.length ≤ 4 := by rw [hn, hm, hNN]; exact hN4
 have HAB := zH hab
 have hwN : IntKind.i64.wrap ((enA : Int) + (enB : Int)) = ((N : Nat) : Int) := by rw [zge (by omega) (by omega)]; omega
 have hd1 : decide (cmpR p 0 < 0) = false := decide_eq_false fun h => absurd ((cmpR_lt p 0).1 h) (Rat.not_lt.2 h0)
 have hd2 : decide (0 < cmpR p 1) = false := decide_eq_false fun h => absurd ((cmpR_gt p 1).1 h) (Rat.not_lt.2 h1)
 clear hc0 hc1 hc2 hc3 hbw hsA hrA heA hsB hrB heB hla hlb hls hn hm hNN ha hb hN hab hp hpf hqf h0 h1
 go_enter Tryz.func56, Tryz.ntmps56
 go_upto_region 1 with fail
 generalize (((w.alloc (.cells #[.bool tp, .slice p1 p2 p3, .slice p4 p5 p6] 38)).alloc (.cells #[.string { data := #[] }, .slice saA enA skA, .slice raA enA rkA, .slice eaA enA ekA] 52)).alloc (.cells #[.string { data := #[] }, .slice saB enB skB, .slice raB enB rkB, .slice eaB enB ekB] 52)).alloc (.cells #[.string { data := #[] }, .slice none 0 0, .slice none 0 0, .slice none 0 0] 52) = W2 at *
 have HB0 := zH (Below.refl W2.heap.size W2)
 obtain ⟨_, c0, c1, c2, _, _, _⟩ := HC0.out.belowS HB0.out
 have hbD := zja (B := W2.heap.size) W2
 have HPD := zH ((HP.out.below HB0.out).below hbD)
 have HBD := zH (zfa HB0.out hbD (HB0.out).size)
 refine wpL.start 7 (fun w' => w'.cell? ⟨w.heap.size, 0, none⟩ = some (.bool tp) ∧ w'.cell? ⟨w.heap.size, 1, none⟩ = some (.slice p1 p2 p3) ∧ w'.cell? ⟨w.heap.size, 2, none⟩ = some (.slice p4 p5 p6)) (by kernel_rfl) ⟨zba hbD c0, zba hbD c1, zba hbD c2⟩ (fun hHeld => ?_)
 clear c0 c1 c2 hbD
 generalize W2.drew = wd at *
 refine wpL.t 0 ?_
 (refine wpL.oo 1 ?_; intro K hK)
 refine zxa 88 #[.int .i64 0] ?_ ?_ (zqe wd) ?_
 ·rfl
 ·go_simp
 rintro e5 w5 ⟨v5, rfl, hv5, hb5⟩
 have hH5 := And.intro (zba hb5 hHeld.1) (And.intro (zba hb5 hHeld.2.1) (zba hb5 hHeld.2.2))
 refine ⟨_, rfl, ?_⟩
 refine hK.out _ _ (fun _ => hH5) ?_
 replace HPD := zH (HPD.out.below hb5)
 replace HBD := zH (zfa HBD.out hb5 HBD.out.size)
 clear hK K hHeld hb5
 try simp only [Act.put, List.setIfInBounds_toArray, List.set_cons_zero, List.set_cons_succ]
 (refine wpL.oo 2 ?_; intro K hK)
 refine zxa 130 #[.agg #[.bool tp, .slice p1 p2 p3, .slice p4 p5 p6], v5] ?_ ?_ (cmp_can _ _ p 0 _ HPD.out hv5 HPF.out.1 (by decide)) ?_
 ·rfl
 ·go_simp
 rintro e6 w6 ⟨rfl, hb6⟩
 have hHeld := And.intro (zba hb6 hH5.1) (And.intro (zba hb6 hH5.2.1) (zba hb6 hH5.2.2))
 refine ⟨_, rfl, ?_⟩
 refine hK.out _ _ (fun _ => hHeld) ?_
 replace HBD := zH (zfa HBD.out hb6 HBD.out.size)
 clear hK K hH5 hb6 HPD hv5
 try simp only [Act.put, List.setIfInBounds_toArray, List.set_cons_zero, List.set_cons_succ]
 refine wpL.u 3 ?_
 refine wpL.u 4 ?_
 refine wpL.u 5 ?_
 refine wpL.u 6 ?_
 clear hHeld
 (refine wpL.oo 7 ?_; intro K hK)
 rw [if_pos (by rfl)]
 go_simp
 refine hK.out _ _ (fun h => by first | cases h | simp at h) ?_
 clear hK K
 refine wpL.done (by kernel_rfl) ?_ _
 try simp only [Act.put, List.setIfInBounds_toArray, List.set_cons_zero, List.set_cons_succ]
 have HB1 := HBD
 clear HBD HB0
 obtain ⟨wz, hwz⟩ : ∃ wz, wz = w6 := ⟨_, rfl⟩
 subst hwz
 go_upto_region 2 with fail
 obtain ⟨_, c0, c1, c2, _, _, _⟩ := HC0.out.belowS HB1.out
 have hbD := zja (B := wz.heap.size) wz
 have HPD := zH ((HP.out.below HB1.out).below hbD)
 have HBD := zH (zfa HB1.out hbD (HB1.out).size)
 refine wpL.start 7 (fun w' => w'.cell? ⟨w.heap.size, 0, none⟩ = some (.bool tp) ∧ w'.cell? ⟨w.heap.size, 1, none⟩ = some (.slice p1 p2 p3) ∧ w'.cell? ⟨w.heap.size, 2, none⟩ = some (.slice p4 p5 p6)) (by kernel_rfl) ⟨zba hbD c0, zba hbD c1, zba hbD c2⟩ (fun hHeld => ?_)
 clear c0 c1 c2 hbD
 generalize wz.drew = wd at *
 refine wpL.t 0 ?_
 (refine wpL.oo 1 ?_; intro K hK)
 refine zxa 88 #[.int .i64 1] ?_ ?_ (zxk wd) ?_
 ·rfl
 ·go_simp
 rintro e5 w5 ⟨v5, rfl, hv5, hb5⟩
 have hH5 := And.intro (zba hb5 hHeld.1) (And.intro (zba hb5 hHeld.2.1) (zba hb5 hHeld.2.2))
 refine ⟨_, rfl, ?_⟩
 refine hK.out _ _ (fun _ => hH5) ?_
 replace HPD := zH (HPD.out.below hb5)
 replace HBD := zH (zfa HBD.out hb5 HBD.out.size)
 clear hK K hHeld hb5
 try simp only [Act.put, List.setIfInBounds_toArray, List.set_cons_zero, List.set_cons_succ]
 (refine wpL.oo 2 ?_; intro K hK)
 refine zxa 130 #[.agg #[.bool tp, .slice p1 p2 p3, .slice p4 p5 p6], v5] ?_ ?_ (cmp_can _ _ p 1 _ HPD.out hv5 HPF.out.1 (by decide)) ?_
 ·rfl
 ·go_simp
 rintro e6 w6 ⟨rfl, hb6⟩
 have hHeld := And.intro (zba hb6 hH5.1) (And.intro (zba hb6 hH5.2.1) (zba hb6 hH5.2.2))
 refine ⟨_, rfl, ?_⟩
 refine hK.out _ _ (fun _ => hHeld) ?_
 replace HBD := zH (zfa HBD.out hb6 HBD.out.size)
 clear hK K hH5 hb6 HPD hv5
 try simp only [Act.put, List.setIfInBounds_toArray, List.set_cons_zero, List.set_cons_succ]
 refine wpL.u 3 ?_
 refine wpL.u 4 ?_
 refine wpL.u 5 ?_
 refine wpL.u 6 ?_
 clear hHeld
 (refine wpL.oo 7 ?_; intro K hK)
 rw [if_pos (by rfl)]
 go_simp
 refine hK.out _ _ (fun h => by first | cases h | simp at h) ?_
 clear hK K
 refine wpL.done (by kernel_rfl) ?_ _
 try simp only [Act.put, List.setIfInBounds_toArray, List.set_cons_zero, List.set_cons_succ]
 clear HB1
 obtain ⟨W5, hW5⟩ : ∃ w, w = w6 := ⟨_, rfl⟩
 subst hW5
 have HB5 := HBD
 clear HBD
 obtain ⟨-, c0, c1, c2, c3, -, -, -, -⟩ := HC1.out.belowS HB5.out
 obtain ⟨-, d0, d1, d2, d3, -, -, -, -⟩ := HC2.out.belowS HB5.out
 go_upto_region 10 with (first
  |(go_at_call 101; (with_reducible refine (ppair_both _ _ a b _ (HA.out.below HB5.out).lawC (HB.out.below HB5.out).lawC HLA.out HLB.out HAB.out).mono ?_); rintro e3 w3 ⟨rfl, hb3⟩
    have HB3 := zH (zfa HB5.out hb3 HB5.out.size)
    clear c0 c1 c2 c3 d0 d1 d2 d3
    obtain ⟨-, c0, c1, c2, c3, -, -, -, -⟩ := HC1.out.belowS HB3.out
    obtain ⟨-, d0, d1, d2, d3, -, -, -, -⟩ := HC2.out.belowS HB3.out
    clear hb3)
  |(go_at_call 87; (try rw [hwN]); (with_reducible refine (blank_any N _ hN1 hN4).mono ?_); rintro e5 w5 ⟨vs, ve, vr, rs, rfl, hl5, hb5⟩
    obtain ⟨s1, s2, s3, rfl, _⟩ := id hl5.s.sl
    obtain ⟨r1, r2, r3, rfl, _⟩ := id hl5.ra.sl
    obtain ⟨e1, e2, e3, rfl, _⟩ := id hl5.e.sl
    have hs2 : s2 = N := (by have h := hl5.s.fracs.len; rw [zwa] at h; exact h)
    have he2 : e2 = N := (by have h := hl5.e.fracs.len; rw [zwa] at h; exact h)
    have hr2 : r2 = N := (by have h := hl5.ra.len; rw [hl5.rl, List.length_replicate] at h; exact h)
    rw [hs2] at hl5 ⊢; rw [he2] at hl5 ⊢; rw [hr2] at hl5 ⊢
    have hba := zca w5 (.cells #[.string { data := #[] }, .slice s1 N s3, .slice r1 N r3, .slice e1 N e3] 52)
    have HC8 := zH (C4.new w5 52 (.string { data := #[] }) (.slice s1 N s3) (.slice r1 N r3) (.slice e1 N e3))
    have HLT := zH ((hl5.below hba).mono HB3.out.size).lawT
    have HBR := zH (zaa HB3.out (zaa hb5 hba))
    clear hl5 hb5 hba c0 c1 c2 c3 d0 d1 d2 d3 hs2 he2 hr2))
 obtain ⟨b8, hb8⟩ : ∃ b, w5.heap.size = b := ⟨_, rfl⟩
 rw [hb8] at HC8 ⊢
 clear hb8 HB3 hd1 hd2
 generalize w5.alloc (.cells #[.string { data := #[] }, .slice s1 N s3, .slice r1 N r3, .slice e1 N e3] 52) = W6 at *
 obtain ⟨-, c0, c1, c2, c3, -, -, -, -⟩ := HC1.out.belowS HBR.out
 obtain ⟨-, d0, d1, d2, d3, -, -, -, -⟩ := HC2.out.belowS HBR.out
 obtain ⟨-, g0, g1, g2, g3, -, -, -, -⟩ := HC8.out
 have HPA : Hid (∀ w0 s e f, zmo w0 W2.heap.size (.slice s1 N s3) (.slice e1 N e3) (.slice r1 N r3) rs N s e f → C4 w0 b8 (.string { data := #[] }) (.slice s1 N s3) (.slice r1 N r3) (.slice e1 N e3) → Below W2.heap.size W2 w0 → Calls Tryz.prog 103 #[.agg #[.string { data := #[] }, .slice s1 N s3, .slice r1 N r3, .slice e1 N e3], .agg #[.string { data := #[] }, .slice saA enA skA, .slice raA enA rkA, .slice eaA enA ekA], .int .i64 0] w0 (RPlace W2 (.slice s1 N s3) (.slice e1 N e3) (.slice r1 N r3) rs N s e (plA f (rtQ a) a.start.length 0) b8 { data := #[] } (.slice s1 N s3) (.slice r1 N r3) (.slice e1 N e3))) := zH (fun w0 s e f h1 h2 h3 => znp W2 w0 _ _ _ _ rs N 0 s e f a b8 _ _ _ _ h1 h2 h3 HA.out HLA.out hN4 (by have h4 := HNA.out; have h5 := HNN.out; omega))
 have HPB : Hid (∀ w0 s e f, zmo w0 W2.heap.size (.slice s1 N s3) (.slice e1 N e3) (.slice r1 N r3) rs N s e f → C4 w0 b8 (.string { data := #[] }) (.slice s1 N s3) (.slice r1 N r3) (.slice e1 N e3) → Below W2.heap.size W2 w0 → Calls Tryz.prog 103 #[.agg #[.string { data := #[] }, .slice s1 N s3, .slice r1 N r3, .slice e1 N e3], .agg #[.string { data := #[] }, .slice saB enB skB, .slice raB enB rkB, .slice eaB enB ekB], .int .i64 (enA : Nat)] w0 (RPlace W2 (.slice s1 N s3) (.slice e1 N e3) (.slice r1 N r3) rs N s e (plA f (rtQ b) b.start.length enA) b8 { data := #[] } (.slice s1 N s3) (.slice r1 N r3) (.slice e1 N e3))) := zH (fun w0 s e f h1 h2 h3 => znp W2 w0 _ _ _ _ rs N enA s e f b b8 _ _ _ _ h1 h2 h3 HB.out HLB.out hN4 (by have h4 := HNB.out; have h5 := HNN.out; omega))
 go_upto_region 12 with (first
  |(go_at_call 103; (with_reducible refine (HPA.out _ _ _ _ HLT.out HC8.out HBR.out).mono ?_); rintro e61 w61 ⟨rfl, hl61, hc61, hb61⟩
    clear c0 c1 c2 c3 d0 d1 d2 d3 g0 g1 g2 g3 HPA
    have HL61 := zH hl61
    have HC61 := zH hc61
    have HB61 := zH hb61
    obtain ⟨-, d0, d1, d2, d3, -, -, -, -⟩ := HC2.out.belowS hb61
    obtain ⟨-, g0, g1, g2, g3, -, -, -, -⟩ := HC61.out
    clear hl61 hc61 hb61 HLT HC8 HBR)
  |(go_at_call 103; (with_reducible refine (HPB.out _ _ _ _ HL61.out HC61.out HB61.out).mono ?_); rintro e62 w62 ⟨rfl, hl62, hc62, hb62⟩
    clear d0 d1 d2 d3 g0 g1 g2 g3 HPB
    have HLT := zH hl62
    have HC8 := zH hc62
    have HBR := zH hb62
    clear hl62 hc62 hb62 HL61 HC61 HB61))
 rw [HNA.out] at HLT
 obtain ⟨-, c0, c1, c2, c3, -, -, -, -⟩ := HC1.out.belowS HBR.out
 go_wp2_with fail
 clear c0 c1 c2 c3
 obtain ⟨F, hF⟩ : ∃ F, plA (plA (fun _ _ => 0) (rtQ a) enA 0) (rtQ b) b.start.length enA = F := ⟨_, rfl⟩
 have HFF := zH hF
 rw [hF] at HLT
 clear hF
 go_loopg [70] (enA) (fun g u70 wr => ∃ (i : Nat), i ≤ enA ∧ g = enA - i ∧ u70 = .int .i64 i ∧ zmo wr W2.heap.size (.slice s1 N s3) (.slice e1 N e3) (.slice r1 N r3) rs N (mxSf a b p enA i 0) (mxEf a b enA i 0) F ∧ C4 wr b8 (.string { data := #[] }) (.slice s1 N s3) (.slice r1 N r3) (.slice e1 N e3) ∧ Below W2.heap.size W2 wr)
 case atStart => exact ⟨0, Nat.zero_le _, rfl, rfl, HLT.out.congr (fun r _ => mxSf_zero enA r) (fun r _ => mxEf_zero enA r) (fun _ _ _ _ => rfl), HC8.out, HBR.out⟩
 case round =>
  obtain ⟨i, hin, hgi, rfl, hlt, hc8, hbr⟩ := hrel
  obtain ⟨wx, hwx⟩ : ∃ w6, w6 = wr := ⟨_, rfl⟩
  subst hwx
  have HGi := zH hgi
  have HLT := zH hlt
  have HC8 := zH hc8
  have HBR := zH hbr
  clear hgi hlt hc8 hbr
  by_cases hil : i < enA
  ·have i1 : (0 : Int) ≤ (i : Int) := by omega
   have i2 : (i : Int) < (enA : Nat) := by omega
   have i3 : (i : Int) < (N : Nat) := by have h := HNN.out; omega
   have hiN : i < N := by have h := HNN.out; omega
   have HIA : Hid (i < a.start.length) := zH (by rw [HNA.out]; exact hil)
   have HLX : Hid (fits (stQ a i) ∧ fits (p * stQ a i) ∧ fits (exQ a i)) := zH ⟨(HLA.out.st_lim HIA.out).fits, by
    have hl := HLS.out.st_lim (i := i) (by rw [show (mixL a b p).start.length = a.start.length + b.start.length from zjo]; have h := HIA.out; omega)
    rw [show stQ (mixL a b p) i = mxS a b p i from fn_st (by have h := HIA.out; omega), (mx_lt HIA.out).1] at hl
    exact hl.fits, (HLA.out.ex_lim HIA.out).fits⟩
   obtain ⟨ts, as1, ls1, ks1, as2, ls2, ks2, g1, g2, g3, hfs⟩ := (HSA.out.below HBR.out).cellsAt (k := i) HIA.out
   have HFX : Hid (zqa wx (.agg #[.bool ts, .slice as1 ls1 ks1, .slice as2 ls2 ks2]) (stQ a i)) := zH hfs
   clear hfs
   have HPX : Hid (zqa wx (.agg #[.bool tp, .slice p1 p2 p3, .slice p4 p5 p6]) p) := zH (HP.out.below HBR.out)
   go_upto_region 15 with fail
   obtain ⟨-, c0, c1, c2, c3, -, -, -, -⟩ := HC1.out.belowS HBR.out
   obtain ⟨_, o0, o1, o2, _, _, _⟩ := HC0.out.belowS HBR.out
   obtain ⟨-, q0, q1, q2, q3, -, -, -, -⟩ := HC8.out
   have hbD := zja (B := wx.heap.size) wx
   have HLD := zH (HLT.out.below hbD)
   have HCD := zH (HC8.out.belowS hbD)
   have HBD := zH (zfa HBR.out hbD HBR.out.size)
   have HFD := zH (HFX.out.below hbD)
   have HPD := zH (HPX.out.below hbD)
   refine wpL.start 14 (fun w' => w'.cell? ⟨b8, 1, none⟩ = some (.slice s1 N s3) ∧ w'.cell? ⟨w.heap.size, 0, none⟩ = some (.bool tp) ∧ w'.cell? ⟨w.heap.size, 1, none⟩ = some (.slice p1 p2 p3) ∧ w'.cell? ⟨w.heap.size, 2, none⟩ = some (.slice p4 p5 p6) ∧ w'.cell? ⟨w.heap.size + 1, 1, none⟩ = some (.slice saA enA skA) ∧ w'.cell? (ptr (.slice saA enA skA) (i * 3)) = some (.bool ts) ∧ w'.cell? (ptr (.slice saA enA skA) (i * 3 + 1)) = some (.slice as1 ls1 ks1) ∧ w'.cell? (ptr (.slice saA enA skA) (i * 3 + 2)) = some (.slice as2 ls2 ks2)) (by kernel_rfl) ⟨zba hbD q1, zba hbD o0, zba hbD o1, zba hbD o2, zba hbD c1, zba hbD g1, zba hbD g2, zba hbD g3⟩ (fun hHeld => ?_)
   clear hbD HLT HC8 HBR c0 c1 c2 c3 q0 q1 q2 q3 g1 g2 g3 o0 o1 o2
   generalize wx.drew = wd at *
   refine wpL.u 0 ?_
   refine wpL.t 1 ?_
   refine wpL.u 2 ?_
   refine wpL.t 3 ?_
   refine wpL.u 4 ?_
   refine wpL.t 5 ?_
   refine wpL.u 6 ?_
   refine wpL.u 7 ?_
   refine wpL.t 8 ?_
   (refine wpL.oo 9 ?_; intro K hK)
   refine zxa 131 #[.agg #[.bool tp, .slice p1 p2 p3, .slice p4 p5 p6], .agg #[.bool ts, .slice as1 ls1 ks1, .slice as2 ls2 ks2]] ?_ ?_ (zbl _ _ _ _ _ HPD.out HFD.out HPF.out.1 HLX.out.1 HLX.out.2.1) ?_
   ·rfl
   ·go_simp
   rintro e7 w7 ⟨v7, rfl, hv7, hb7⟩
   obtain ⟨t7, x7, y7, rfl, ⟨a71, l71, k71, rfl, _⟩, ⟨a72, l72, k72, rfl, _⟩⟩ := hv7.isF
   have hH7 := (And.intro (zba hb7 hHeld.1) (And.intro (zba hb7 hHeld.2.1) (And.intro (zba hb7 hHeld.2.2.1) (And.intro (zba hb7 hHeld.2.2.2.1) (And.intro (zba hb7 hHeld.2.2.2.2.1) (And.intro (zba hb7 hHeld.2.2.2.2.2.1) (And.intro (zba hb7 hHeld.2.2.2.2.2.2.1) (zba hb7 hHeld.2.2.2.2.2.2.2))))))))
   refine ⟨_, rfl, ?_⟩
   refine hK.out _ _ (fun _ => hH7) ?_
   clear hK K hHeld
   try simp only [Act.put, List.setIfInBounds_toArray, List.set_cons_zero, List.set_cons_succ]
   have hHeld := hH7
   refine wpL.u 10 ?_
   refine wpL.u 11 ?_
   refine wpL.u 12 ?_
   clear hHeld
   have L7 := HLD.out.below hb7
   have C7 := HCD.out.belowS hb7
   have B7 := zfa HBD.out hb7 HBD.out.size
   have hput := L7.putS (s' := mxSf a b p enA (i + 1) 0) hiN (fun r _ hr => mxSf_puta hr) (by rw [mxSf_ata hil]; exact hv7)
   have hrow := L7.s
   have hjR := show i < (zib N (mxSf a b p enA i 0)).length by rw [zea]; exact hiN
   have hl0 := Nat.lt_of_le_of_lt (Nat.zero_le _) hjR
   obtain ⟨z0, y1, y2, y3, y4, y5, _⟩ := hrow.fracs.at' i hjR
   have f0 := hrow.frozen (i * 3) (by omega)
   have f1 := hrow.frozen (i * 3 + 1) (by omega)
   have f2 := hrow.frozen (i * 3 + 2) (by omega)
   have HCP := zH (C7.put hrow hl0 i (.bool t7) (.slice a71 l71 k71) (.slice a72 l72 k72))
   have HLP := zH hput.1
   have HBP := zH (B7.trans hput.2)
   have slo := hrow.sl
   have n01 := hrow.inj hl0 (show i * 3 ≠ i * 3 + 1 by omega)
   have n02 := hrow.inj hl0 (show i * 3 ≠ i * 3 + 2 by omega)
   have n12 := hrow.inj hl0 (show i * 3 + 1 ≠ i * 3 + 2 by omega)
   clear L7 C7 B7 hput hrow HLD HCD HBD hb7 y5 hv7 HFD HPD
   (refine wpL.oo 13 ?_; intro K hK)
   rw [if_pos (by rfl)]
   go_simp
   refine hK.out _ _ (fun _ => hH7) ?_
   clear hK K
   try simp only [Act.put, List.setIfInBounds_toArray, List.set_cons_zero, List.set_cons_succ]
   (refine wpL.oo 14 ?_; intro K hK)
   rw [if_pos (by rfl)]
   go_simp
   refine hK.out _ _ (fun h => by first | cases h | simp at h) ?_
   clear hK K y2 y3 y4 f0 f1 f2 n01 n02 n12 hH7
   try simp only [Act.put, List.setIfInBounds_toArray, List.set_cons_zero, List.set_cons_succ]
   (refine wpL.oo 15 ?_; intro K hK)
   rw [if_pos (by rfl)]
   go_simp
   refine hK.out _ _ (fun h => by first | cases h | simp at h) ?_
   clear hK K
   refine wpL.done (by kernel_rfl) ?_ _
   try simp only [Act.put, List.setIfInBounds_toArray, List.set_cons_zero, List.set_cons_succ]
   clear HFX HPX
   generalize ((w7.setCell (ptr (.slice s1 N s3) (i * 3)) (.bool t7)).setCell (ptr (.slice s1 N s3) (i * 3 + 1)) (.slice a71 l71 k71)).setCell (ptr (.slice s1 N s3) (i * 3 + 2)) (.slice a72 l72 k72) = w8 at *
   have HLT := HLP
   have HC8 := HCP
   have HBR := HBP
   clear HLP HCP HBP
   obtain ⟨ts, as1, ls1, ks1, as2, ls2, ks2, g1, g2, g3, hfs⟩ := (HEA.out.below HBR.out).cellsAt (k := i) (by rw [HLA.out.el]; exact HIA.out)
   have HFX : Hid (zqa w8 (.agg #[.bool ts, .slice as1 ls1 ks1, .slice as2 ls2 ks2]) (exQ a i)) := zH hfs
   clear hfs
   go_upto_region 18 with fail
   obtain ⟨-, c0, c1, c2, c3, -, -, -, -⟩ := HC1.out.belowS HBR.out
   obtain ⟨-, q0, q1, q2, q3, -, -, -, -⟩ := HC8.out
   have hbD := zja (B := w8.heap.size) w8
   have HLD := zH (HLT.out.below hbD)
   have HCD := zH (HC8.out.belowS hbD)
   have HBD := zH (zfa HBR.out hbD HBR.out.size)
   have HFD := zH (HFX.out.below hbD)
   refine wpL.start 13 (fun w' => w'.cell? ⟨b8, 3, none⟩ = some (.slice e1 N e3) ∧ w'.cell? ⟨w.heap.size + 1, 3, none⟩ = some (.slice eaA enA ekA) ∧ w'.cell? (ptr (.slice eaA enA ekA) (i * 3)) = some (.bool ts) ∧ w'.cell? (ptr (.slice eaA enA ekA) (i * 3 + 1)) = some (.slice as1 ls1 ks1) ∧ w'.cell? (ptr (.slice eaA enA ekA) (i * 3 + 2)) = some (.slice as2 ls2 ks2)) (by kernel_rfl) ⟨zba hbD q3, zba hbD c3, zba hbD g1, zba hbD g2, zba hbD g3⟩ (fun hHeld => ?_)
   clear hbD HLT HC8 HBR c0 c1 c2 c3 q0 q1 q2 q3 g1 g2 g3
   generalize w8.drew = wd at *
   refine wpL.u 0 ?_
   refine wpL.t 1 ?_
   refine wpL.u 2 ?_
   refine wpL.u 3 ?_
   refine wpL.t 4 ?_
   refine wpL.u 5 ?_
   refine wpL.u 6 ?_
   refine wpL.t 7 ?_
   (refine wpL.oo 8 ?_; intro K hK)
   refine zxa 89 #[.agg #[.bool ts, .slice as1 ls1 ks1, .slice as2 ls2 ks2]] ?_ ?_ (zoo _ _ _ HFD.out HLX.out.2.2) ?_
   ·rfl
   ·go_simp
   rintro e7 w7 ⟨v7, rfl, hv7, hb7⟩
   obtain ⟨t7, x7, y7, rfl, ⟨a71, l71, k71, rfl, _⟩, ⟨a72, l72, k72, rfl, _⟩⟩ := hv7.isF
   have hH7 := (And.intro (zba hb7 hHeld.1) (And.intro (zba hb7 hHeld.2.1) (And.intro (zba hb7 hHeld.2.2.1) (And.intro (zba hb7 hHeld.2.2.2.1) (zba hb7 hHeld.2.2.2.2)))))
   refine ⟨_, rfl, ?_⟩
   refine hK.out _ _ (fun _ => hH7) ?_
   clear hK K hHeld
   try simp only [Act.put, List.setIfInBounds_toArray, List.set_cons_zero, List.set_cons_succ]
   have hHeld := hH7
   refine wpL.u 9 ?_
   refine wpL.u 10 ?_
   refine wpL.u 11 ?_
   clear hHeld
   have L7 := HLD.out.below hb7
   have C7 := HCD.out.belowS hb7
   have B7 := zfa HBD.out hb7 HBD.out.size
   have hput := L7.putE (e' := mxEf a b enA (i + 1) 0) hiN (fun r _ hr => mxEf_puta hr) (by rw [mxEf_ata hil]; exact hv7)
   have hrow := L7.e
   have hjR := show i < (zib N (mxEf a b enA i 0)).length by rw [zea]; exact hiN
   have hl0 := Nat.lt_of_le_of_lt (Nat.zero_le _) hjR
   obtain ⟨z0, y1, y2, y3, y4, y5, _⟩ := hrow.fracs.at' i hjR
   have f0 := hrow.frozen (i * 3) (by omega)
   have f1 := hrow.frozen (i * 3 + 1) (by omega)
   have f2 := hrow.frozen (i * 3 + 2) (by omega)
   have HCP := zH (C7.put hrow hl0 i (.bool t7) (.slice a71 l71 k71) (.slice a72 l72 k72))
   have HLP := zH hput.1
   have HBP := zH (B7.trans hput.2)
   have slo := hrow.sl
   have n01 := hrow.inj hl0 (show i * 3 ≠ i * 3 + 1 by omega)
   have n02 := hrow.inj hl0 (show i * 3 ≠ i * 3 + 2 by omega)
   have n12 := hrow.inj hl0 (show i * 3 + 1 ≠ i * 3 + 2 by omega)
   clear L7 C7 B7 hput hrow HLD HCD HBD hb7 y5 hv7 HFD
   (refine wpL.oo 12 ?_; intro K hK)
   rw [if_pos (by rfl)]
   go_simp
   refine hK.out _ _ (fun _ => hH7) ?_
   clear hK K
   try simp only [Act.put, List.setIfInBounds_toArray, List.set_cons_zero, List.set_cons_succ]
   (refine wpL.oo 13 ?_; intro K hK)
   rw [if_pos (by rfl)]
   go_simp
   refine hK.out _ _ (fun h => by first | cases h | simp at h) ?_
   clear hK K y2 y3 y4 f0 f1 f2 n01 n02 n12 hH7
   refine wpL.done (by kernel_rfl) ?_ _
   go_wp2_with fail
   go_roundg (enA - (i + 1))
   case measure => (have := HGi.out; omega)
   case rel => exact ⟨i + 1, by omega, rfl, by go_num, HLP.out, HCP.out, HBP.out⟩
  ·obtain rfl : i = enA := by omega
   obtain ⟨-, d0, d1, d2, d3, -, -, -, -⟩ := HC2.out.belowS HBR.out
   go_wp2_with fail
   clear d0 d1 d2 d3
   go_loopg [107] (enB) (fun g u107 wr => ∃ (k : Nat), k ≤ enB ∧ g = enB - k ∧ u107 = .int .i64 k ∧ zmo wr W2.heap.size (.slice s1 N s3) (.slice e1 N e3) (.slice r1 N r3) rs N (mxSf a b p i i k) (mxEf a b i i k) F ∧ C4 wr b8 (.string { data := #[] }) (.slice s1 N s3) (.slice r1 N r3) (.slice e1 N e3) ∧ Below W2.heap.size W2 wr)
   case atStart => exact ⟨0, Nat.zero_le _, rfl, rfl, HLT.out, HC8.out, HBR.out⟩
   case round =>
    clear HLT HC8 HBR
    obtain ⟨k, hkn, hgk, rfl, hlt, hc8, hbr⟩ := hrel
    obtain ⟨wy, hwx⟩ : ∃ w6, w6 = wr := ⟨_, rfl⟩
    subst hwx
    have HGk := zH hgk
    have HLT := zH hlt
    have HC8 := zH hc8
    have HBR := zH hbr
    clear hgk hlt hc8 hbr
    by_cases hkl : k < enB
    ·have k1 : (0 : Int) ≤ (k : Int) := by omega
     have k2 : (k : Int) < (enB : Nat) := by omega
     obtain ⟨ck, hck⟩ : ∃ x, i + k = x := ⟨_, rfl⟩
     have hckN : ck < N := by have h := HNN.out; omega
     have hwk : IntKind.i64.wrap ((i : Int) + (k : Int)) = ((ck : Nat) : Int) := by rw [← hck]; exact zro i k (by have h := HNN.out; omega)
     have k3 : (0 : Int) ≤ (ck : Int) := by omega
     have k4 : (ck : Int) < (N : Nat) := by omega
     have HCK := zH hck
     have HKB : Hid (k < b.start.length) := zH (by rw [HNB.out]; exact hkl)
     have HLX : Hid (fits (stQ b k) ∧ fits ((1 - p) * stQ b k) ∧ fits (exQ b k)) := zH ⟨(HLB.out.st_lim HKB.out).fits, by
      have hl := HLS.out.st_lim (i := a.start.length + k) (by rw [show (mixL a b p).start.length = a.start.length + b.start.length from zjo]; have h := HKB.out; omega)
      rw [show stQ (mixL a b p) (a.start.length + k) = mxS a b p (a.start.length + k) from fn_st (by have h := HKB.out; omega), (mx_ge k).1] at hl
      exact hl.fits, (HLB.out.ex_lim HKB.out).fits⟩
     clear hck
     obtain ⟨ts, as1, ls1, ks1, as2, ls2, ks2, g1, g2, g3, hfs⟩ := (HSB.out.below HBR.out).cellsAt (k := k) HKB.out
     have HFX : Hid (zqa wy (.agg #[.bool ts, .slice as1 ls1 ks1, .slice as2 ls2 ks2]) (stQ b k)) := zH hfs
     clear hfs
     have HPX : Hid (zqa wy (.agg #[.bool tp, .slice p1 p2 p3, .slice p4 p5 p6]) p) := zH (HP.out.below HBR.out)
     go_upto_region 23 with fail
     obtain ⟨-, d0, d1, d2, d3, -, -, -, -⟩ := HC2.out.belowS HBR.out
     obtain ⟨_, o0, o1, o2, _, _, _⟩ := HC0.out.belowS HBR.out
     obtain ⟨-, q0, q1, q2, q3, -, -, -, -⟩ := HC8.out
     have hbD := zja (B := wy.heap.size) wy
     have HLD := zH (HLT.out.below hbD)
     have HCD := zH (HC8.out.belowS hbD)
     have HBD := zH (zfa HBR.out hbD HBR.out.size)
     have HFD := zH (HFX.out.below hbD)
     have HPD := zH (HPX.out.below hbD)
     refine wpL.start 18 (fun w' => w'.cell? ⟨b8, 1, none⟩ = some (.slice s1 N s3) ∧ w'.cell? ⟨w.heap.size, 0, none⟩ = some (.bool tp) ∧ w'.cell? ⟨w.heap.size, 1, none⟩ = some (.slice p1 p2 p3) ∧ w'.cell? ⟨w.heap.size, 2, none⟩ = some (.slice p4 p5 p6) ∧ w'.cell? ⟨w.heap.size + 1 + 1, 1, none⟩ = some (.slice saB enB skB) ∧ w'.cell? (ptr (.slice saB enB skB) (k * 3)) = some (.bool ts) ∧ w'.cell? (ptr (.slice saB enB skB) (k * 3 + 1)) = some (.slice as1 ls1 ks1) ∧ w'.cell? (ptr (.slice saB enB skB) (k * 3 + 2)) = some (.slice as2 ls2 ks2)) (by kernel_rfl) ⟨zba hbD q1, zba hbD o0, zba hbD o1, zba hbD o2, zba hbD d1, zba hbD g1, zba hbD g2, zba hbD g3⟩ (fun hHeld => ?_)
     clear hbD HLT HC8 HBR d0 d1 d2 d3 q0 q1 q2 q3 g1 g2 g3 o0 o1 o2
     generalize wy.drew = wd at *
     refine wpL.u 0 ?_
     refine wpL.t 1 ?_
     refine wpL.u 2 ?_
     refine wpL.u 3 ?_
     refine wpL.u 4 ?_
     try rw [hwk]
     refine wpL.t 6 ?_
     refine wpL.u 8 ?_
     refine wpL.t 9 ?_
     refine wpL.u 10 ?_
     refine wpL.u 11 ?_
     refine wpL.t 12 ?_
     (refine wpL.oo 5 ?_; intro K hK)
     refine zxa 88 #[.int .i64 1] ?_ ?_ (zxk wd) ?_
     ·rfl
     ·go_simp
     rintro e5 w5 ⟨v5, rfl, hv5, hb5⟩
     have hH5 := (And.intro (zba hb5 hHeld.1) (And.intro (zba hb5 hHeld.2.1) (And.intro (zba hb5 hHeld.2.2.1) (And.intro (zba hb5 hHeld.2.2.2.1) (And.intro (zba hb5 hHeld.2.2.2.2.1) (And.intro (zba hb5 hHeld.2.2.2.2.2.1) (And.intro (zba hb5 hHeld.2.2.2.2.2.2.1) (zba hb5 hHeld.2.2.2.2.2.2.2))))))))
     refine ⟨_, rfl, ?_⟩
     refine hK.out _ _ (fun _ => hH5) ?_
     replace HLD := zH (HLD.out.below hb5)
     replace HCD := zH (HCD.out.belowS hb5)
     replace HBD := zH (zfa HBD.out hb5 HBD.out.size)
     replace HFD := zH (HFD.out.below hb5)
     replace HPD := zH (HPD.out.below hb5)
     clear hK K hHeld hb5
     have hHeld := hH5
     clear hH5
     try simp only [Act.put, List.setIfInBounds_toArray, List.set_cons_zero, List.set_cons_succ]
     (refine wpL.oo 7 ?_; intro K hK)
     refine zxa 96 #[v5, .agg #[.bool tp, .slice p1 p2 p3, .slice p4 p5 p6]] ?_ ?_ (zyi _ _ 1 p _ hv5 HPD.out (by decide) HPF.out.1 HPF.out.2) ?_
     ·rfl
     ·go_simp
     rintro e6 w6 ⟨v6, rfl, hv6, hb6⟩
     have hH6 := (And.intro (zba hb6 hHeld.1) (And.intro (zba hb6 hHeld.2.1) (And.intro (zba hb6 hHeld.2.2.1) (And.intro (zba hb6 hHeld.2.2.2.1) (And.intro (zba hb6 hHeld.2.2.2.2.1) (And.intro (zba hb6 hHeld.2.2.2.2.2.1) (And.intro (zba hb6 hHeld.2.2.2.2.2.2.1) (zba hb6 hHeld.2.2.2.2.2.2.2))))))))
     refine ⟨_, rfl, ?_⟩
     refine hK.out _ _ (fun _ => hH6) ?_
     replace HLD := zH (HLD.out.below hb6)
     replace HCD := zH (HCD.out.belowS hb6)
     replace HBD := zH (zfa HBD.out hb6 HBD.out.size)
     replace HFD := zH (HFD.out.below hb6)
     replace HPD := zH (HPD.out.below hb6)
     clear hK K hHeld hb6
     have hHeld := hH6
     clear hH6
     try simp only [Act.put, List.setIfInBounds_toArray, List.set_cons_zero, List.set_cons_succ]
     (refine wpL.oo 13 ?_; intro K hK)
     refine zxa 131 #[v6, .agg #[.bool ts, .slice as1 ls1 ks1, .slice as2 ls2 ks2]] ?_ ?_ (zbl _ _ _ _ _ hv6 HFD.out HPF.out.2 HLX.out.1 HLX.out.2.1) ?_
     ·rfl
     ·go_simp
     rintro e7 w7 ⟨v7, rfl, hv7, hb7⟩
     obtain ⟨t7, x7, y7, rfl, ⟨a71, l71, k71, rfl, _⟩, ⟨a72, l72, k72, rfl, _⟩⟩ := hv7.isF
     have hH7 := (And.intro (zba hb7 hHeld.1) (And.intro (zba hb7 hHeld.2.1) (And.intro (zba hb7 hHeld.2.2.1) (And.intro (zba hb7 hHeld.2.2.2.1) (And.intro (zba hb7 hHeld.2.2.2.2.1) (And.intro (zba hb7 hHeld.2.2.2.2.2.1) (And.intro (zba hb7 hHeld.2.2.2.2.2.2.1) (zba hb7 hHeld.2.2.2.2.2.2.2))))))))
     refine ⟨_, rfl, ?_⟩
     refine hK.out _ _ (fun _ => hH7) ?_
     clear hK K hHeld
     try simp only [Act.put, List.setIfInBounds_toArray, List.set_cons_zero, List.set_cons_succ]
     have hHeld := hH7
     refine wpL.u 14 ?_
     refine wpL.u 15 ?_
     refine wpL.u 16 ?_
     clear hHeld
     have L7 := HLD.out.below hb7
     have C7 := HCD.out.belowS hb7
     have B7 := zfa HBD.out hb7 HBD.out.size
     have hput := L7.putS (s' := mxSf a b p i i (k + 1)) hckN (fun r _ hr => mxSf_putb (by rw [HCK.out]; exact hr)) (by rw [← HCK.out, mxSf_atb]; exact hv7)
     have hrow := L7.s
     have hjR := show ck < (zib N (mxSf a b p i i k)).length by rw [zea]; exact hckN
     have hl0 := Nat.lt_of_le_of_lt (Nat.zero_le _) hjR
     obtain ⟨z0, y1, y2, y3, y4, y5, _⟩ := hrow.fracs.at' ck hjR
     have f0 := hrow.frozen (ck * 3) (by omega)
     have f1 := hrow.frozen (ck * 3 + 1) (by omega)
     have f2 := hrow.frozen (ck * 3 + 2) (by omega)
     have HCP := zH (C7.put hrow hl0 ck (.bool t7) (.slice a71 l71 k71) (.slice a72 l72 k72))
     have HLP := zH hput.1
     have HBP := zH (B7.trans hput.2)
     have slo := hrow.sl
     have n01 := hrow.inj hl0 (show ck * 3 ≠ ck * 3 + 1 by omega)
     have n02 := hrow.inj hl0 (show ck * 3 ≠ ck * 3 + 2 by omega)
     have n12 := hrow.inj hl0 (show ck * 3 + 1 ≠ ck * 3 + 2 by omega)
     clear L7 C7 B7 hput hrow HLD HCD HBD hb7 y5 hv7 HFD HPD
     (refine wpL.oo 17 ?_; intro K hK)
     rw [if_pos (by rfl)]
     go_simp
     refine hK.out _ _ (fun _ => hH7) ?_
     clear hK K
     try simp only [Act.put, List.setIfInBounds_toArray, List.set_cons_zero, List.set_cons_succ]
     (refine wpL.oo 18 ?_; intro K hK)
     rw [if_pos (by rfl)]
     go_simp
     refine hK.out _ _ (fun h => by first | cases h | simp at h) ?_
     clear hK K y2 y3 y4 f0 f1 f2 n01 n02 n12 hH7
     try simp only [Act.put, List.setIfInBounds_toArray, List.set_cons_zero, List.set_cons_succ]
     (refine wpL.oo 19 ?_; intro K hK)
     rw [if_pos (by rfl)]
     go_simp
     refine hK.out _ _ (fun h => by first | cases h | simp at h) ?_
     clear hK K
     refine wpL.done (by kernel_rfl) ?_ _
     try simp only [Act.put, List.setIfInBounds_toArray, List.set_cons_zero, List.set_cons_succ]
     clear HFX HPX hv5 hv6
     generalize ((w7.setCell (ptr (.slice s1 N s3) (ck * 3)) (.bool t7)).setCell (ptr (.slice s1 N s3) (ck * 3 + 1)) (.slice a71 l71 k71)).setCell (ptr (.slice s1 N s3) (ck * 3 + 2)) (.slice a72 l72 k72) = w8 at *
     have HLT := HLP
     have HC8 := HCP
     have HBR := HBP
     clear HLP HCP HBP
     obtain ⟨ts, as1, ls1, ks1, as2, ls2, ks2, g1, g2, g3, hfs⟩ := (HEB.out.below HBR.out).cellsAt (k := k) (by rw [HLB.out.el]; exact HKB.out)
     have HFX : Hid (zqa w8 (.agg #[.bool ts, .slice as1 ls1 ks1, .slice as2 ls2 ks2]) (exQ b k)) := zH hfs
     clear hfs
     go_upto_region 26 with fail
     obtain ⟨-, d0, d1, d2, d3, -, -, -, -⟩ := HC2.out.belowS HBR.out
     obtain ⟨-, q0, q1, q2, q3, -, -, -, -⟩ := HC8.out
     have hbD := zja (B := w8.heap.size) w8
     have HLD := zH (HLT.out.below hbD)
     have HCD := zH (HC8.out.belowS hbD)
     have HBD := zH (zfa HBR.out hbD HBR.out.size)
     have HFD := zH (HFX.out.below hbD)
     refine wpL.start 15 (fun w' => w'.cell? ⟨b8, 3, none⟩ = some (.slice e1 N e3) ∧ w'.cell? ⟨w.heap.size + 1 + 1, 3, none⟩ = some (.slice eaB enB ekB) ∧ w'.cell? (ptr (.slice eaB enB ekB) (k * 3)) = some (.bool ts) ∧ w'.cell? (ptr (.slice eaB enB ekB) (k * 3 + 1)) = some (.slice as1 ls1 ks1) ∧ w'.cell? (ptr (.slice eaB enB ekB) (k * 3 + 2)) = some (.slice as2 ls2 ks2)) (by kernel_rfl) ⟨zba hbD q3, zba hbD d3, zba hbD g1, zba hbD g2, zba hbD g3⟩ (fun hHeld => ?_)
     clear hbD HLT HC8 HBR d0 d1 d2 d3 q0 q1 q2 q3 g1 g2 g3
     generalize w8.drew = wd at *
     refine wpL.u 0 ?_
     refine wpL.t 1 ?_
     refine wpL.u 2 ?_
     refine wpL.u 3 ?_
     refine wpL.u 4 ?_
     try rw [hwk]
     refine wpL.u 5 ?_
     refine wpL.t 6 ?_
     refine wpL.u 7 ?_
     refine wpL.u 8 ?_
     refine wpL.t 9 ?_
     (refine wpL.oo 10 ?_; intro K hK)
     refine zxa 89 #[.agg #[.bool ts, .slice as1 ls1 ks1, .slice as2 ls2 ks2]] ?_ ?_ (zoo _ _ _ HFD.out HLX.out.2.2) ?_
     ·rfl
     ·go_simp
     rintro e7 w7 ⟨v7, rfl, hv7, hb7⟩
     obtain ⟨t7, x7, y7, rfl, ⟨a71, l71, k71, rfl, _⟩, ⟨a72, l72, k72, rfl, _⟩⟩ := hv7.isF
     have hH7 := (And.intro (zba hb7 hHeld.1) (And.intro (zba hb7 hHeld.2.1) (And.intro (zba hb7 hHeld.2.2.1) (And.intro (zba hb7 hHeld.2.2.2.1) (zba hb7 hHeld.2.2.2.2)))))
     refine ⟨_, rfl, ?_⟩
     refine hK.out _ _ (fun _ => hH7) ?_
     clear hK K hHeld
     try simp only [Act.put, List.setIfInBounds_toArray, List.set_cons_zero, List.set_cons_succ]
     have hHeld := hH7
     refine wpL.u 11 ?_
     refine wpL.u 12 ?_
     refine wpL.u 13 ?_
     clear hHeld
     have L7 := HLD.out.below hb7
     have C7 := HCD.out.belowS hb7
     have B7 := zfa HBD.out hb7 HBD.out.size
     have hput := L7.putE (e' := mxEf a b i i (k + 1)) hckN (fun r _ hr => mxEf_putb (by rw [HCK.out]; exact hr)) (by rw [← HCK.out, mxEf_atb]; exact hv7)
     have hrow := L7.e
     have hjR := show ck < (zib N (mxEf a b i i k)).length by rw [zea]; exact hckN
     have hl0 := Nat.lt_of_le_of_lt (Nat.zero_le _) hjR
     obtain ⟨z0, y1, y2, y3, y4, y5, _⟩ := hrow.fracs.at' ck hjR
     have f0 := hrow.frozen (ck * 3) (by omega)
     have f1 := hrow.frozen (ck * 3 + 1) (by omega)
     have f2 := hrow.frozen (ck * 3 + 2) (by omega)
     have HCP := zH (C7.put hrow hl0 ck (.bool t7) (.slice a71 l71 k71) (.slice a72 l72 k72))
     have HLP := zH hput.1
     have HBP := zH (B7.trans hput.2)
     have slo := hrow.sl
     have n01 := hrow.inj hl0 (show ck * 3 ≠ ck * 3 + 1 by omega)
     have n02 := hrow.inj hl0 (show ck * 3 ≠ ck * 3 + 2 by omega)
     have n12 := hrow.inj hl0 (show ck * 3 + 1 ≠ ck * 3 + 2 by omega)
     clear L7 C7 B7 hput hrow HLD HCD HBD hb7 y5 hv7 HFD
     (refine wpL.oo 14 ?_; intro K hK)
     rw [if_pos (by rfl)]
     go_simp
     refine hK.out _ _ (fun _ => hH7) ?_
     clear hK K
     try simp only [Act.put, List.setIfInBounds_toArray, List.set_cons_zero, List.set_cons_succ]
     (refine wpL.oo 15 ?_; intro K hK)
     rw [if_pos (by rfl)]
     go_simp
     refine hK.out _ _ (fun h => by first | cases h | simp at h) ?_
     clear hK K y2 y3 y4 f0 f1 f2 n01 n02 n12 hH7
     refine wpL.done (by kernel_rfl) ?_ _
     go_wp2_with fail
     go_roundg (enB - (k + 1))
     case measure => (have := HGk.out; omega)
     case rel => exact ⟨k + 1, by omega, rfl, by go_num, HLP.out, HCP.out, HBP.out⟩
    ·obtain rfl : k = enB := by omega
     have hfn : zmo wy W2.heap.size (.slice s1 N s3) (.slice e1 N e3) (.slice r1 N r3) rs N (mxS a b p) (mxE a b) (mxR a b) := HLT.out.congr (fun r hr => by
      unfold mxSf mxS
      rw [HNA.out]
      by_cases h : r < i
      ·rw [if_pos h, if_pos h, if_pos h]
      ·rw [if_neg h, if_neg h, if_pos (by have h := HNN.out; omega)]) (fun r hr => by
      unfold mxEf mxE
      rw [HNA.out]
      by_cases h : r < i
      ·rw [if_pos h, if_pos h, if_pos h]
      ·rw [if_neg h, if_neg h, if_pos (by have h := HNN.out; omega)]) (fun r c hr hc => by
      have h := mx_all (a := a) (b := b) (r := r) (c := c) (by rw [HNA.out, HNB.out, HNN.out]; exact hr) (by rw [HNA.out, HNB.out, HNN.out]; exact hc)
      rw [HNA.out, HFF.out] at h
      exact h)
     have HLF := zH hfn
     have hsL : mixL a b p = fnL N (mxS a b p) (mxE a b) (mxR a b) := by unfold mixL; rw [HNA.out, HNB.out, HNN.out]
     have HSL := zH hsL
     have HCH : Hid (∀ w0, Below wy.heap.size wy w0 → Calls Tryz.prog 104 #[.agg #[.string { data := #[] }, .slice s1 N s3, .slice r1 N r3, .slice e1 N e3]] w0 (fun e w' => e = .returned (.tuple #[.agg #[.string { data := #[] }, .slice s1 N s3, .slice r1 N r3, .slice e1 N e3], .int .i64 0]) ∧ Below w0.heap.size w0 w')) := zH (fun w0 h => pchecked_ok _ (fnL N (mxS a b p) (mxE a b) (mxR a b)) w0 ((HLF.out.below h).lawE) (by rw [← HSL.out]; exact HLS.out))
     clear hfn hsL
     obtain ⟨-, q0, q1, q2, q3, -, -, -, -⟩ := HC8.out
     go_wp2_with (first
      |(go_at_call 104; (with_reducible refine (HCH.out _ (Below.refl _ _)).mono ?_); rintro e9 w9 ⟨rfl, hb9⟩
        have HT9 := zH (HC3.out.belowS (zaa HBR.out hb9))
        have HB9 := zH (zaa HBW.out (zaa HBR.out hb9))
        have HL9 := zH (HLF.out.below hb9)
        clear q0 q1 q2 q3
        obtain ⟨-, q0, q1, q2, q3, f0, f1, f2, f3⟩ := HT9.out
        clear hb9))
     refine zzd rfl rfl Tryz.aggL Tryz.sizeL (HT9.out.set _ _ _ _) rfl ?_
     refine ⟨_, rfl, ?_, zqd HB9.out (Nat.le_succ_of_le (Nat.le_succ_of_le (Nat.le_succ _))) _ _ _ _⟩
     rw [HSL.out]
     exact (zmo.set4' HL9.out hN1 HT9.out).lawE
end Go.Proofs.YtlpdkbmmbdfoiaaGreat
