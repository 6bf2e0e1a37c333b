/-
  package phase: Sum, of valid laws.
-/
import Derived.Test.YtlpdkbmmbdfoiaaGreatGPh12
import Derived.Test.YtlpdkbmmbdfoiaaGreatGPh18
import Derived.Test.YtlpdkbmmbdfoiaaGreatGPs2
set_option linter.unusedVariables false
set_option linter.unusedSimpArgs false
namespace Go.Proofs.YtlpdkbmmbdfoiaaGreat
open Go.RowKit
def RLawS (w0 : World) (l : LQ) (e : Ending) (w : World) : Prop := ∃ v, e = .returned (.tuple #[v, .int .i64 0]) ∧ zgm w v l ∧ Below w0.heap.size w0 w
theorem law_box3 (w : World) (t : TypeId) (x0 x1 x2 x3 y0 y1 y2 y3 z0 z1 z2 z3 : Value) : C4 (((w.alloc (.cells #[x0, x1, x2, x3] t)).alloc (.cells #[y0, y1, y2, y3] t)).alloc (.cells #[z0, z1, z2, z3] t)) w.heap.size x0 x1 x2 x3 ∧ C4 (((w.alloc (.cells #[x0, x1, x2, x3] t)).alloc (.cells #[y0, y1, y2, y3] t)).alloc (.cells #[z0, z1, z2, z3] t)) (w.heap.size + 1) y0 y1 y2 y3 ∧
 C4 (((w.alloc (.cells #[x0, x1, x2, x3] t)).alloc (.cells #[y0, y1, y2, y3] t)).alloc (.cells #[z0, z1, z2, z3] t)) (w.heap.size + 1 + 1) z0 z1 z2 z3 ∧ Below w.heap.size w (((w.alloc (.cells #[x0, x1, x2, x3] t)).alloc (.cells #[y0, y1, y2, y3] t)).alloc (.cells #[z0, z1, z2, z3] t)) := by
 obtain ⟨h1, h2, h3⟩ := law_box2 w t x0 x1 x2 x3 y0 y1 y2 y3
 have hbb := zca ((w.alloc (.cells #[x0, x1, x2, x3] t)).alloc (.cells #[y0, y1, y2, y3] t)) (.cells #[z0, z1, z2, z3] t)
 have hz1 : ((w.alloc (.cells #[x0, x1, x2, x3] t)).alloc (.cells #[y0, y1, y2, y3] t)).heap.size = w.heap.size + 1 + 1 := by show ((w.heap.push _).push _).size = _; rw [Array.size_push, Array.size_push]
 have h4 := C4.new ((w.alloc (.cells #[x0, x1, x2, x3] t)).alloc (.cells #[y0, y1, y2, y3] t)) t z0 z1 z2 z3
 rw [hz1] at h4
 exact ⟨h1.belowS hbb, h2.belowS hbb, h4, zaa h3 hbb⟩
theorem zmo.lawE {w : World} {B n : Nat} {vs ve vr : Value} {rs : List Value} {s e : Nat → Rat} {f : Mx} (h : zmo w B vs ve vr rs n s e f) : zgm w (.agg #[.string { data := #[] }, vs, vr, ve]) (fnL n s e f) := by
 obtain ⟨nm, s', r', e', h1, h2, h3, h4⟩ := h.lawC (.string { data := #[] })
 injection h1 with h1
 simp at h1
 obtain ⟨-, rfl, rfl, rfl⟩ := h1
 exact ⟨_, _, _, rfl, h2, h3, h4⟩
def smF (a b : LQ) (n i k : Nat) : Mx := fun r c => if n ≤ c ∧ (r < i ∨ (r = i ∧ c < n + k)) then exQ a r * stQ b (c - n) else plA (plA (fun _ _ => 0) (rtQ a) n 0) (rtQ b) b.start.length n r c
theorem smF_zero {a b : LQ} {n : Nat} (r c : Nat) : plA (plA (fun _ _ => 0) (rtQ a) n 0) (rtQ b) b.start.length n r c = smF a b n 0 0 r c := by
 unfold smF
 rw [if_neg (by omega)]
theorem smF_put {a b : LQ} {n i k : Nat} {r c : Nat} (h : ¬ (r = i ∧ c = n + k)) : smF a b n i k r c = smF a b n i (k + 1) r c := by
 unfold smF
 by_cases h1 : n ≤ c ∧ (r < i ∨ (r = i ∧ c < n + k))
 ·rw [if_pos h1, if_pos (by omega)]
 ·rw [if_neg h1, if_neg (by omega)]
theorem smF_at {a b : LQ} {n i k : Nat} : smF a b n i (k + 1) i (n + k) = exQ a i * stQ b k := by
 unfold smF
 rw [if_pos (by omega), Nat.add_sub_cancel_left]
theorem smF_row {a b : LQ} {n m i : Nat} {r c : Nat} (hc : c < n + m) : smF a b n i m r c = smF a b n (i + 1) 0 r c := by
 unfold smF
 by_cases h1 : n ≤ c ∧ (r < i ∨ (r = i ∧ c < n + m))
 ·rw [if_pos h1, if_pos (by omega)]
 ·rw [if_neg h1, if_neg (by omega)]
theorem smF_all {a b : LQ} {r c : Nat} (hr : r < a.start.length + b.start.length) (hc : c < a.start.length + b.start.length) : smF a b a.start.length a.start.length 0 r c = smR a b r c := by
 unfold smF smR plA
 by_cases h1 : r < a.start.length
 ·by_cases h2 : c < a.start.length
  ·rw [if_neg (by omega), if_neg (by omega), if_pos (by omega), if_pos h1, if_pos h2, Nat.sub_zero, Nat.sub_zero]
  ·rw [if_pos (by omega), if_pos h1, if_neg h2]
 ·by_cases h2 : c < a.start.length
  ·rw [if_neg (by omega), if_neg (by omega), if_neg (by omega), if_neg h1, if_pos h2]
  ·rw [if_neg (by omega), if_pos (by omega), if_neg h1, if_neg h2]
def smSf (a : LQ) (i : Nat) : Nat → Rat := fun r => if r < i then stQ a r else 0
def smEf (b : LQ) (n k : Nat) : Nat → Rat := fun r => if n ≤ r ∧ r < n + k then exQ b (r - n) else 0
theorem smSf_put {a : LQ} {i k : Nat} (h : k ≠ i) : smSf a i k = smSf a (i + 1) k := by
 unfold smSf
 by_cases h1 : k < i
 ·rw [if_pos h1, if_pos (by omega)]
 ·rw [if_neg h1, if_neg (by omega)]
theorem smSf_at {a : LQ} {i : Nat} : smSf a (i + 1) i = stQ a i := by unfold smSf; rw [if_pos (by omega)]
theorem smEf_put {b : LQ} {n k r : Nat} (h : r ≠ n + k) : smEf b n k r = smEf b n (k + 1) r := by
 unfold smEf
 by_cases h1 : n ≤ r ∧ r < n + k
 ·rw [if_pos h1, if_pos (by omega)]
 ·rw [if_neg h1, if_neg (by omega)]
theorem smEf_at {b : LQ} {n k : Nat} : smEf b n (k + 1) (n + k) = exQ b k := by unfold smEf; rw [if_pos (by omega), Nat.add_sub_cancel_left]
theorem zmo.set4' {w : World} {B n b : Nat} {vs ve vr : Value} {rs : List Value} {s e : Nat → Rat} {f : Mx} {x : ByteArray} {v1 v2 v3 : Value} (h : zmo w B vs ve vr rs n s e f) (hn : 1 ≤ n) (hc : C4 w b (.string x) (.slice none 0 0) (.slice none 0 0) (.slice none 0 0)) {y : ByteArray} :
 zmo ((((w.setCell ⟨b, 0, none⟩ (.string y)).setCell ⟨b, 1, none⟩ v1).setCell ⟨b, 2, none⟩ v2).setCell ⟨b, 3, none⟩ v3) B vs ve vr rs n s e f :=
 zve.set4 h ⟨by rw [zea]; exact hn, by rw [zea]; exact hn, fun j hj => by rw [zeo, zea]; exact hn, fun e => absurd (e ▸ h.rsl : ([] : List Value).length = n) (by simp; omega)⟩ hc (fun z => by simp) (fun z => by simp) (fun z => by simp) _ _ _ _
set_option maxRecDepth 100000 in
set_option maxHeartbeats 12800000 in
theorem psum_any (va vb : Value) (a b : LQ) (w : World) (ha : zgm w va a) (hb : zgm w vb b) (hla : zxb a) (hlb : zxb b) (hN : a.start.length + b.start.length ≤ 4) (hls : zxb (zno a b)) :
 Calls Tryz.prog 35 #[va, vb] w (RLawS w (zno a b)) := by
 obtain ⟨svA, rvA, evA, rfl, hsA, hrA, heA⟩ := id ha
 obtain ⟨saA, snA, skA, rfl, -⟩ := id hsA.sl
 obtain ⟨raA, rnA, rkA, rfl, -⟩ := id hrA.sl
 obtain ⟨eaA, enA, ekA, rfl, -⟩ := id heA.sl
 obtain ⟨svB, rvB, evB, rfl, hsB, hrB, heB⟩ := id hb
 obtain ⟨saB, snB, skB, rfl, -⟩ := id hsB.sl
 obtain ⟨raB, rnB, rkB, rfl, -⟩ := id hrB.sl
 obtain ⟨eaB, enB, ekB, rfl, -⟩ := id heB.sl
 obtain ⟨n, hn⟩ : ∃ n, a.start.length = n := ⟨_, rfl⟩
 obtain ⟨m, hm⟩ : ∃ m, b.start.length = m := ⟨_, rfl⟩
 obtain rfl : snA = n := hsA.len.trans hn
 obtain rfl : rnA = snA := (hrA.len.trans hla.rl).trans hn
 obtain rfl : enA = rnA := (heA.len.trans hla.el).trans hn
 obtain rfl : snB = m := hsB.len.trans hm
 obtain rfl : rnB = snB := (hrB.len.trans hlb.rl).trans hm
 obtain rfl : enB = rnB := (heB.len.trans hlb.el).trans hm
 have n1 : 1 ≤ enA := by rw [← hn]; exact hla.n1
 have m1 : 1 ≤ enB := by rw [← hm]; exact hlb.n1
 have n4 : enA ≤ 4 := by rw [← hn]; exact hla.n4
 have m4 : enB ≤ 4 := by rw [← hm]; exact hlb.n4
 obtain ⟨N, hNN⟩ : ∃ N, enA + enB = N := ⟨_, rfl⟩
 have hN4 : N ≤ 4 := by rw [← hNN, ← hn, ← hm]; exact hN
 have hN1 : 1 ≤ N := by omega
 obtain ⟨hc1, hc2, hc3, hbw⟩ := law_box3 w 52 (.string { data := #[] }) (.slice saA enA skA) (.slice raA enA rkA) (.slice eaA enA ekA) (.string { data := #[] }) (.slice saB enB skB) (.slice raB enB rkB) (.slice eaB enB ekB) (.string { data := #[] }) (.slice none 0 0) (.slice none 0 0) (.slice none 0 0)
 have HC1 := zH hc1
 have HC2 := zH hc2
 have HC3 := zH hc3
 have HBW := zH hbw
 have HA := zH (ha.below hbw)
 have HB := zH (hb.below hbw)
 have HSA := zH (hsA.below hbw)
 have HEA := zH (heA.below hbw)
 have HSB := zH (hsB.below hbw)
 have HEB := zH (heB.below hbw)
 have HLA := zH hla
 have HLB := zH hlb
 have HLS := zH hls
 have HNA := zH hn
 have HNB := zH hm
 have HNN := zH hNN
 have ssA := hsA.sl
 have seA := heA.sl
 have ssB := hsB.sl
 have seB := heB.sl
 have srA := hrA.sl
 have srB := hrB.sl
 have hab : a.start.length + b.start.length ≤ 4 := by rw [hn, hm, hNN]; exact hN4
 have HAB := zH hab
 have hwN : IntKind.i64.wrap ((enA : Int) + (enB : Int)) = ((N : Nat) : Int) := by rw [zge (by omega) (by omega)]; omega
 clear hc1 hc2 hc3 hbw hsA hrA heA hsB hrB heB hla hlb hls hn hm hNN ha hb hN hab
 go_enter Tryz.func35, Tryz.ntmps35
 go_upto_region 1 with fail
 generalize ((w.alloc (.cells #[.string { data := #[] }, .slice saA enA skA, .slice raA enA rkA, .slice eaA enA ekA] 52)).alloc (.cells #[.string { data := #[] }, .slice saB enB skB, .slice raB enB rkB, .slice eaB enB ekB] 52)).alloc (.cells #[.string { data := #[] }, .slice none 0 0, .slice none 0 0, .slice none 0 0] 52) = W2 at *
 obtain ⟨-, c0, c1, c2, c3, -, -, -, -⟩ := HC1.out
 obtain ⟨-, d0, d1, d2, d3, -, -, -, -⟩ := HC2.out
 have tok1 : True := trivial
 go_upto_region 6 with (first
  |(go_at_call 101; (with_reducible refine (ppair_both _ _ a b _ HA.out.lawC HB.out.lawC HLA.out HLB.out HAB.out).mono ?_); rintro e3 w3 ⟨rfl, hb3⟩
    have HB3 := zH hb3
    clear c0 c1 c2 c3 d0 d1 d2 d3
    obtain ⟨-, c0, c1, c2, c3, -, -, -, -⟩ := HC1.out.belowS hb3
    obtain ⟨-, d0, d1, d2, d3, -, -, -, -⟩ := HC2.out.belowS hb3
    clear hb3)
  |(go_at_call 87; (try rw [hwN]); (with_reducible refine (blank_any N _ hN1 hN4).mono ?_); rintro e5 w5 ⟨vs, ve, vr, rs, rfl, hl5, hb5⟩
    obtain ⟨s1, s2, s3, rfl, _⟩ := id hl5.s.sl
    obtain ⟨r1, r2, r3, rfl, _⟩ := id hl5.ra.sl
    obtain ⟨e1, e2, e3, rfl, _⟩ := id hl5.e.sl
    have hs2 : s2 = N := (by have h := hl5.s.fracs.len; rw [zwa] at h; exact h)
    have he2 : e2 = N := (by have h := hl5.e.fracs.len; rw [zwa] at h; exact h)
    have hr2 : r2 = N := (by have h := hl5.ra.len; rw [hl5.rl, List.length_replicate] at h; exact h)
    rw [hs2] at hl5 ⊢; rw [he2] at hl5 ⊢; rw [hr2] at hl5 ⊢
    have hba := zca w5 (.cells #[.string { data := #[] }, .slice s1 N s3, .slice r1 N r3, .slice e1 N e3] 52)
    have HC8 := zH (C4.new w5 52 (.string { data := #[] }) (.slice s1 N s3) (.slice r1 N r3) (.slice e1 N e3))
    have HLT := zH ((hl5.below hba).mono HB3.out.size).lawT
    have HBR := zH (zaa HB3.out (zaa hb5 hba))
    clear hl5 hb5 hba c0 c1 c2 c3 d0 d1 d2 d3 hs2 he2 hr2))
 obtain ⟨b8, hb8⟩ : ∃ b, w5.heap.size = b := ⟨_, rfl⟩
 rw [hb8] at HC8 ⊢
 clear hb8 HB3
 generalize w5.alloc (.cells #[.string { data := #[] }, .slice s1 N s3, .slice r1 N r3, .slice e1 N e3] 52) = W6 at *
 obtain ⟨-, c0, c1, c2, c3, -, -, -, -⟩ := HC1.out.belowS HBR.out
 obtain ⟨-, d0, d1, d2, d3, -, -, -, -⟩ := HC2.out.belowS HBR.out
 obtain ⟨-, g0, g1, g2, g3, -, -, -, -⟩ := HC8.out
 have HPA : Hid (∀ w0 s e f, zmo w0 W2.heap.size (.slice s1 N s3) (.slice e1 N e3) (.slice r1 N r3) rs N s e f → C4 w0 b8 (.string { data := #[] }) (.slice s1 N s3) (.slice r1 N r3) (.slice e1 N e3) → Below W2.heap.size W2 w0 → Calls Tryz.prog 103 #[.agg #[.string { data := #[] }, .slice s1 N s3, .slice r1 N r3, .slice e1 N e3], .agg #[.string { data := #[] }, .slice saA enA skA, .slice raA enA rkA, .slice eaA enA ekA], .int .i64 0] w0 (RPlace W2 (.slice s1 N s3) (.slice e1 N e3) (.slice r1 N r3) rs N s e (plA f (rtQ a) a.start.length 0) b8 { data := #[] } (.slice s1 N s3) (.slice r1 N r3) (.slice e1 N e3))) := zH (fun w0 s e f h1 h2 h3 => znp W2 w0 _ _ _ _ rs N 0 s e f a b8 _ _ _ _ h1 h2 h3 HA.out HLA.out hN4 (by have h4 := HNA.out; have h5 := HNN.out; omega))
 have HPB : Hid (∀ w0 s e f, zmo w0 W2.heap.size (.slice s1 N s3) (.slice e1 N e3) (.slice r1 N r3) rs N s e f → C4 w0 b8 (.string { data := #[] }) (.slice s1 N s3) (.slice r1 N r3) (.slice e1 N e3) → Below W2.heap.size W2 w0 → Calls Tryz.prog 103 #[.agg #[.string { data := #[] }, .slice s1 N s3, .slice r1 N r3, .slice e1 N e3], .agg #[.string { data := #[] }, .slice saB enB skB, .slice raB enB rkB, .slice eaB enB ekB], .int .i64 (enA : Nat)] w0 (RPlace W2 (.slice s1 N s3) (.slice e1 N e3) (.slice r1 N r3) rs N s e (plA f (rtQ b) b.start.length enA) b8 { data := #[] } (.slice s1 N s3) (.slice r1 N r3) (.slice e1 N e3))) := zH (fun w0 s e f h1 h2 h3 => znp W2 w0 _ _ _ _ rs N enA s e f b b8 _ _ _ _ h1 h2 h3 HB.out HLB.out hN4 (by have h4 := HNB.out; have h5 := HNN.out; omega))
 go_upto_region 8 with (first
  |(go_at_call 103; (with_reducible refine (HPA.out _ _ _ _ HLT.out HC8.out HBR.out).mono ?_); rintro e61 w61 ⟨rfl, hl61, hc61, hb61⟩
    clear c0 c1 c2 c3 d0 d1 d2 d3 g0 g1 g2 g3 HPA
    have HL61 := zH hl61
    have HC61 := zH hc61
    have HB61 := zH hb61
    obtain ⟨-, d0, d1, d2, d3, -, -, -, -⟩ := HC2.out.belowS hb61
    obtain ⟨-, g0, g1, g2, g3, -, -, -, -⟩ := HC61.out
    clear hl61 hc61 hb61 HLT HC8 HBR)
  |(go_at_call 103; (with_reducible refine (HPB.out _ _ _ _ HL61.out HC61.out HB61.out).mono ?_); rintro e62 w62 ⟨rfl, hl62, hc62, hb62⟩
    clear d0 d1 d2 d3 g0 g1 g2 g3 HPB
    have HLT := zH hl62
    have HC8 := zH hc62
    have HBR := zH hb62
    clear hl62 hc62 hb62 HL61 HC61 HB61))
 rw [HNA.out] at HLT
 obtain ⟨-, c0, c1, c2, c3, -, -, -, -⟩ := HC1.out.belowS HBR.out
 go_wp2_with fail
 clear c0 c1 c2 c3
 go_loopg [38] (enA) (fun g u38 wr => ∃ (i : Nat), i ≤ enA ∧ g = enA - i ∧ u38 = .int .i64 i ∧ zmo wr W2.heap.size (.slice s1 N s3) (.slice e1 N e3) (.slice r1 N r3) rs N (smSf a i) (fun _ => 0) (smF a b enA i 0) ∧ C4 wr b8 (.string { data := #[] }) (.slice s1 N s3) (.slice r1 N r3) (.slice e1 N e3) ∧ Below W2.heap.size W2 wr)
 case atStart => exact ⟨0, Nat.zero_le _, rfl, rfl, HLT.out.congr (fun _ _ => by unfold smSf; rw [if_neg (by omega)]) (fun _ _ => rfl) (fun r c _ _ => smF_zero r c), HC8.out, HBR.out⟩
 case round =>
  obtain ⟨i, hin, hgi, rfl, hlt, hc8, hbr⟩ := hrel
  obtain ⟨wx, hwx⟩ : ∃ w6, w6 = wr := ⟨_, rfl⟩
  subst hwx
  have HGi := zH hgi
  have HLT := zH hlt
  have HC8 := zH hc8
  have HBR := zH hbr
  clear hgi hlt hc8 hbr
  by_cases hil : i < enA
  ·have i1 : (0 : Int) ≤ (i : Int) := by omega
   have i2 : (i : Int) < (enA : Nat) := by omega
   have i3 : (i : Int) < (N : Nat) := by have h := HNN.out; omega
   have hiN : i < N := by have h := HNN.out; omega
   have HIA : Hid (i < a.start.length) := zH (by rw [HNA.out]; exact hil)
   obtain ⟨ts, as1, ls1, ks1, as2, ls2, ks2, g1, g2, g3, hfs⟩ := (HSA.out.below HBR.out).cellsAt (k := i) HIA.out
   have HFX : Hid (zqa wx (.agg #[.bool ts, .slice as1 ls1 ks1, .slice as2 ls2 ks2]) (stQ a i)) := zH hfs
   have HLX : Hid (fits (stQ a i)) := zH (HLA.out.st_lim HIA.out).fits
   clear hfs
   go_upto_region 11 with fail
   obtain ⟨-, c0, c1, c2, c3, -, -, -, -⟩ := HC1.out.belowS HBR.out
   obtain ⟨-, q0, q1, q2, q3, -, -, -, -⟩ := HC8.out
   have hbD := zja (B := wx.heap.size) wx
   have HLD := zH (HLT.out.below hbD)
   have HCD := zH (HC8.out.belowS hbD)
   have HBD := zH (zfa HBR.out hbD HBR.out.size)
   have HFD := zH (HFX.out.below hbD)
   refine wpL.start 13 (fun w' => w'.cell? ⟨b8, 1, none⟩ = some (.slice s1 N s3) ∧ w'.cell? ⟨w.heap.size, 1, none⟩ = some (.slice saA enA skA) ∧ w'.cell? (ptr (.slice saA enA skA) (i * 3)) = some (.bool ts) ∧ w'.cell? (ptr (.slice saA enA skA) (i * 3 + 1)) = some (.slice as1 ls1 ks1) ∧ w'.cell? (ptr (.slice saA enA skA) (i * 3 + 2)) = some (.slice as2 ls2 ks2)) (by kernel_rfl) ⟨zba hbD q1, zba hbD c1, zba hbD g1, zba hbD g2, zba hbD g3⟩ (fun hHeld => ?_)
   clear hbD HLT HC8 HBR c0 c1 c2 c3 q0 q1 q2 q3 g1 g2 g3
   generalize wx.drew = wd at *
   refine wpL.u 0 ?_
   refine wpL.t 1 ?_
   refine wpL.u 2 ?_
   refine wpL.u 3 ?_
   refine wpL.t 4 ?_
   refine wpL.u 5 ?_
   refine wpL.u 6 ?_
   refine wpL.t 7 ?_
   (refine wpL.oo 8 ?_; intro K hK)
   refine zxa 89 #[.agg #[.bool ts, .slice as1 ls1 ks1, .slice as2 ls2 ks2]] ?_ ?_ (zoo _ _ _ HFD.out HLX.out) ?_
   ·rfl
   ·go_simp
   rintro e7 w7 ⟨v7, rfl, hv7, hb7⟩
   obtain ⟨t7, x7, y7, rfl, ⟨a71, l71, k71, rfl, _⟩, ⟨a72, l72, k72, rfl, _⟩⟩ := hv7.isF
   have hH7 := (And.intro (zba hb7 hHeld.1) (And.intro (zba hb7 hHeld.2.1) (And.intro (zba hb7 hHeld.2.2.1) (And.intro (zba hb7 hHeld.2.2.2.1) (zba hb7 hHeld.2.2.2.2)))))
   refine ⟨_, rfl, ?_⟩
   refine hK.out _ _ (fun _ => hH7) ?_
   clear hK K hHeld
   try simp only [Act.put, List.setIfInBounds_toArray, List.set_cons_zero, List.set_cons_succ]
   have hHeld := hH7
   refine wpL.u 9 ?_
   refine wpL.u 10 ?_
   refine wpL.u 11 ?_
   clear hHeld
   have L7 := HLD.out.below hb7
   have C7 := HCD.out.belowS hb7
   have B7 := zfa HBD.out hb7 HBD.out.size
   have hput := L7.putS (s' := smSf a (i + 1)) hiN (fun k _ hk => smSf_put hk) (by rw [smSf_at]; exact hv7)
   have hrow := L7.s
   have hjR := show i < (zib N (smSf a i)).length by rw [zea]; exact hiN
   have hl0 := Nat.lt_of_le_of_lt (Nat.zero_le _) hjR
   obtain ⟨z0, y1, y2, y3, y4, y5, _⟩ := hrow.fracs.at' i hjR
   have f0 := hrow.frozen (i * 3) (by omega)
   have f1 := hrow.frozen (i * 3 + 1) (by omega)
   have f2 := hrow.frozen (i * 3 + 2) (by omega)
   have HCP := zH (C7.put hrow hl0 i (.bool t7) (.slice a71 l71 k71) (.slice a72 l72 k72))
   have HLP := zH hput.1
   have HBP := zH (B7.trans hput.2)
   have slo := hrow.sl
   have n01 := hrow.inj hl0 (show i * 3 ≠ i * 3 + 1 by omega)
   have n02 := hrow.inj hl0 (show i * 3 ≠ i * 3 + 2 by omega)
   have n12 := hrow.inj hl0 (show i * 3 + 1 ≠ i * 3 + 2 by omega)
   clear L7 C7 B7 hput hrow HLD HCD HBD hb7 y5 hv7 HFD
   (refine wpL.oo 12 ?_; intro K hK)
   rw [if_pos (by rfl)]
   go_simp
   refine hK.out _ _ (fun _ => hH7) ?_
   clear hK K
   try simp only [Act.put, List.setIfInBounds_toArray, List.set_cons_zero, List.set_cons_succ]
   (refine wpL.oo 13 ?_; intro K hK)
   rw [if_pos (by rfl)]
   go_simp
   refine hK.out _ _ (fun h => by first | cases h | simp at h) ?_
   clear hK K y2 y3 y4 f0 f1 f2 n01 n02 n12 hH7
   refine wpL.done (by kernel_rfl) ?_ _
   clear HFX HLX
   generalize ((w7.setCell (ptr (.slice s1 N s3) (i * 3)) (.bool t7)).setCell (ptr (.slice s1 N s3) (i * 3 + 1)) (.slice a71 l71 k71)).setCell (ptr (.slice s1 N s3) (i * 3 + 2)) (.slice a72 l72 k72) = w8 at *
   obtain ⟨-, d0, d1, d2, d3, -, -, -, -⟩ := HC2.out.belowS HBP.out
   go_wp2_with fail
   clear d0 d1 d2 d3
   go_loopg [57] (enB) (fun g u57 wr => ∃ (k : Nat), k ≤ enB ∧ g = enB - k ∧ u57 = .int .i64 k ∧ zmo wr W2.heap.size (.slice s1 N s3) (.slice e1 N e3) (.slice r1 N r3) rs N (smSf a (i + 1)) (fun _ => 0) (smF a b enA i k) ∧ C4 wr b8 (.string { data := #[] }) (.slice s1 N s3) (.slice r1 N r3) (.slice e1 N e3) ∧ Below W2.heap.size W2 wr)
   case atStart => exact ⟨0, Nat.zero_le _, rfl, rfl, HLP.out, HCP.out, HBP.out⟩
   case round =>
    clear HLP HCP HBP
    obtain ⟨k, hkn, hgk, rfl, hlt, hc8, hbr⟩ := hrel
    obtain ⟨wy, hwx⟩ : ∃ w6, w6 = wr := ⟨_, rfl⟩
    subst hwx
    have HGk := zH hgk
    have HLT := zH hlt
    have HC8 := zH hc8
    have HBR := zH hbr
    clear hgk hlt hc8 hbr
    by_cases hkl : k < enB
    ·have k1 : (0 : Int) ≤ (k : Int) := by omega
     have k2 : (k : Int) < (enB : Nat) := by omega
     obtain ⟨ck, hck⟩ : ∃ x, enA + k = x := ⟨_, rfl⟩
     have hckN : ck < N := by have h := HNN.out; omega
     have hwk : IntKind.i64.wrap ((enA : Int) + (k : Int)) = ((ck : Nat) : Int) := by rw [← hck]; exact zro enA k (by have h := HNN.out; omega)
     have k3 : (0 : Int) ≤ (ck : Int) := by omega
     have k4 : (ck : Int) < (N : Nat) := by omega
     have HCK := zH hck
     have HKB : Hid (k < b.start.length) := zH (by rw [HNB.out]; exact hkl)
     obtain ⟨ts, as1, ls1, ks1, as2, ls2, ks2, g1, g2, g3, hfs⟩ := (HEA.out.below HBR.out).cellsAt (k := i) (by rw [HLA.out.el]; exact HIA.out)
     have HFX : Hid (zqa wy (.agg #[.bool ts, .slice as1 ls1 ks1, .slice as2 ls2 ks2]) (exQ a i)) := zH hfs
     obtain ⟨us, bs1, ms1, os1, bs2, ms2, os2, h1, h2, h3, hft⟩ := (HSB.out.below HBR.out).cellsAt (k := k) HKB.out
     have HFY : Hid (zqa wy (.agg #[.bool us, .slice bs1 ms1 os1, .slice bs2 ms2 os2]) (stQ b k)) := zH hft
     have HLX : Hid (fits (exQ a i) ∧ fits (stQ b k) ∧ fits (exQ a i * stQ b k)) := zH ⟨(HLA.out.ex_lim HIA.out).fits, (HLB.out.st_lim HKB.out).fits, by
      have hl := HLS.out.rt_lim (i := i) (j := enA + k) (by rw [show (zno a b).start.length = a.start.length + b.start.length from zjo]; have h := HIA.out; omega) (by rw [show (zno a b).start.length = a.start.length + b.start.length from zjo, HNA.out]; have h := HKB.out; omega)
      rw [show rtQ (zno a b) i (enA + k) = smR a b i (enA + k) from fn_rt (by have h := HIA.out; omega) (by rw [HNA.out]; have h := HKB.out; omega), ← HNA.out, smR_ab HIA.out] at hl
      exact hl.fits⟩
     have hi9 : i < rs.length := by rw [HLT.out.rsl]; exact hiN
     have s2c := HLT.out.ra.cell i hi9
     have hRi : i < (zwo N (smF a b enA i k)).length := by rw [zdo]; exact hiN
     have hrw := HLT.out.rows i hi9 hRi
     obtain ⟨z1, z2, z3, ho, _⟩ := id hrw.sl
     obtain rfl : z2 = N := by have h := hrw.fracs.len; rw [ho, zeo, zea] at h; exact h
     rw [ho] at s2c
     have HO := zH ho
     have sR := HLT.out.ra.sl
     clear hfs hft hck hrw ho
     go_upto_region 15 with fail
     obtain ⟨-, c0, c1, c2, c3, -, -, -, -⟩ := HC1.out.belowS HBR.out
     obtain ⟨-, d0, d1, d2, d3, -, -, -, -⟩ := HC2.out.belowS HBR.out
     obtain ⟨-, q0, q1, q2, q3, -, -, -, -⟩ := HC8.out
     have hbD := zja (B := wy.heap.size) wy
     have HLD := zH (HLT.out.below hbD)
     have HCD := zH (HC8.out.belowS hbD)
     have HBD := zH (zfa HBR.out hbD HBR.out.size)
     have HFD := zH (HFX.out.below hbD)
     have HFE := zH (HFY.out.below hbD)
     refine wpL.start 20 (fun w' => w'.cell? ⟨b8, 2, none⟩ = some (.slice r1 z2 r3) ∧ w'.cell? (ptr (.slice r1 z2 r3) i) = some (.slice z1 z2 z3) ∧ w'.cell? ⟨w.heap.size, 3, none⟩ = some (.slice eaA enA ekA) ∧ w'.cell? (ptr (.slice eaA enA ekA) (i * 3)) = some (.bool ts) ∧ w'.cell? (ptr (.slice eaA enA ekA) (i * 3 + 1)) = some (.slice as1 ls1 ks1) ∧ w'.cell? (ptr (.slice eaA enA ekA) (i * 3 + 2)) = some (.slice as2 ls2 ks2) ∧ w'.cell? ⟨w.heap.size + 1, 1, none⟩ = some (.slice saB enB skB) ∧ w'.cell? (ptr (.slice saB enB skB) (k * 3)) = some (.bool us) ∧ w'.cell? (ptr (.slice saB enB skB) (k * 3 + 1)) = some (.slice bs1 ms1 os1) ∧ w'.cell? (ptr (.slice saB enB skB) (k * 3 + 2)) = some (.slice bs2 ms2 os2)) (by kernel_rfl) ⟨zba hbD q2, zba hbD s2c, zba hbD c3, zba hbD g1, zba hbD g2, zba hbD g3, zba hbD d1, zba hbD h1, zba hbD h2, zba hbD h3⟩ (fun hHeld => ?_)
     clear hbD HLT HC8 HBR c0 c1 c2 c3 d0 d1 d2 d3 q0 q1 q2 q3 g1 g2 g3 h1 h2 h3 s2c
     generalize wy.drew = wd at *
     refine wpL.u 0 ?_
     refine wpL.t 1 ?_
     refine wpL.u 2 ?_
     refine wpL.u 3 ?_
     refine wpL.t 4 ?_
     refine wpL.u 5 ?_
     refine wpL.u 6 ?_
     refine wpL.u 7 ?_
     try rw [hwk]
     refine wpL.u 8 ?_
     refine wpL.t 9 ?_
     refine wpL.u 10 ?_
     refine wpL.u 11 ?_
     refine wpL.t 12 ?_
     refine wpL.u 13 ?_
     refine wpL.t 14 ?_
     refine wpL.u 15 ?_
     refine wpL.u 16 ?_
     refine wpL.t 17 ?_
     (refine wpL.oo 18 ?_; intro K hK)
     refine zxa 97 #[.agg #[.bool ts, .slice as1 ls1 ks1, .slice as2 ls2 ks2], .agg #[.bool us, .slice bs1 ms1 os1, .slice bs2 ms2 os2]] ?_ ?_ (zmp _ _ _ _ _ HFD.out HFE.out HLX.out.1 HLX.out.2.1 HLX.out.2.2) ?_
     ·rfl
     ·go_simp
     rintro e7 w7 ⟨v7, rfl, hv7, hb7⟩
     obtain ⟨t7, x7, y7, rfl, ⟨a71, l71, k71, rfl, _⟩, ⟨a72, l72, k72, rfl, _⟩⟩ := hv7.isF
     have hH7 := (And.intro (zba hb7 hHeld.1) (And.intro (zba hb7 hHeld.2.1) (And.intro (zba hb7 hHeld.2.2.1) (And.intro (zba hb7 hHeld.2.2.2.1) (And.intro (zba hb7 hHeld.2.2.2.2.1) (And.intro (zba hb7 hHeld.2.2.2.2.2.1) (And.intro (zba hb7 hHeld.2.2.2.2.2.2.1) (And.intro (zba hb7 hHeld.2.2.2.2.2.2.2.1) (And.intro (zba hb7 hHeld.2.2.2.2.2.2.2.2.1) (zba hb7 hHeld.2.2.2.2.2.2.2.2.2))))))))))
     refine ⟨_, rfl, ?_⟩
     refine hK.out _ _ (fun _ => hH7) ?_
     clear hK K hHeld
     try simp only [Act.put, List.setIfInBounds_toArray, List.set_cons_zero, List.set_cons_succ]
     have L7 := HLD.out.below hb7
     have C7 := HCD.out.belowS hb7
     have B7 := zfa HBD.out hb7 HBD.out.size
     have hput := L7.putR (g := smF a b enA i (k + 1)) hi9 hckN (fun r c _ _ hne => smF_put (by rw [HCK.out]; exact hne)) (by rw [← HCK.out, smF_at]; exact hv7)
     rw [HO.out] at hput
     have hrow := L7.rows i hi9 hRi
     rw [HO.out] at hrow
     have hjR := show ck < ((zwo z2 (smF a b enA i k))[i]'hRi).length by rw [zeo, zea]; exact hckN
     have hl0 := Nat.lt_of_le_of_lt (Nat.zero_le _) hjR
     obtain ⟨z0, y1, y2, y3, y4, y5, _⟩ := hrow.fracs.at' ck hjR
     have f0 := hrow.frozen (ck * 3) (by omega)
     have f1 := hrow.frozen (ck * 3 + 1) (by omega)
     have f2 := hrow.frozen (ck * 3 + 2) (by omega)
     have HCP := zH (C7.put hrow hl0 ck (.bool t7) (.slice a71 l71 k71) (.slice a72 l72 k72))
     have HLP := zH hput.1
     have HBP := zH (B7.trans hput.2)
     have slo := hrow.sl
     have n01 := hrow.inj hl0 (show ck * 3 ≠ ck * 3 + 1 by omega)
     have n02 := hrow.inj hl0 (show ck * 3 ≠ ck * 3 + 2 by omega)
     have n12 := hrow.inj hl0 (show ck * 3 + 1 ≠ ck * 3 + 2 by omega)
     clear L7 C7 B7 hput hrow HLD HCD HBD hb7 y5 hv7 HFD HFE
     (refine wpL.oo 19 ?_; intro K hK)
     rw [if_pos (by rfl)]
     go_simp
     refine hK.out _ _ (fun _ => hH7) ?_
     clear hK K
     try simp only [Act.put, List.setIfInBounds_toArray, List.set_cons_zero, List.set_cons_succ]
     (refine wpL.oo 20 ?_; intro K hK)
     rw [if_pos (by rfl)]
     go_simp
     refine hK.out _ _ (fun h => by first | cases h | simp at h) ?_
     clear hK K y2 y3 y4 f0 f1 f2 n01 n02 n12 hH7
     refine wpL.done (by kernel_rfl) ?_ _
     go_wp2_with fail
     go_roundg (enB - (k + 1))
     case measure => (have := HGk.out; omega)
     case rel => exact ⟨k + 1, by omega, rfl, by go_num, HLP.out, HCP.out, HBP.out⟩
    ·obtain rfl : k = enB := by omega
     go_wp2_with fail
     go_roundg (enA - (i + 1))
     case measure => (have := HGi.out; omega)
     case rel => exact ⟨i + 1, by omega, rfl, by go_num, HLT.out.congr (fun _ _ => rfl) (fun _ _ => rfl) (fun r c _ hc => smF_row (by have h := HNN.out; omega)), HC8.out, HBR.out⟩
  ·obtain rfl : i = enA := by omega
   obtain ⟨-, d0, d1, d2, d3, -, -, -, -⟩ := HC2.out.belowS HBR.out
   go_wp2_with fail
   clear d0 d1 d2 d3
   go_loopg [85] (enB) (fun g u85 wr => ∃ (k : Nat), k ≤ enB ∧ g = enB - k ∧ u85 = .int .i64 k ∧ zmo wr W2.heap.size (.slice s1 N s3) (.slice e1 N e3) (.slice r1 N r3) rs N (smSf a i) (smEf b i k) (smF a b i i 0) ∧ C4 wr b8 (.string { data := #[] }) (.slice s1 N s3) (.slice r1 N r3) (.slice e1 N e3) ∧ Below W2.heap.size W2 wr)
   case atStart => exact ⟨0, Nat.zero_le _, rfl, rfl, HLT.out.congr (fun _ _ => rfl) (fun r _ => by unfold smEf; rw [if_neg (by omega)]) (fun _ _ _ _ => rfl), HC8.out, HBR.out⟩
   case round =>
    clear HLT HC8 HBR
    obtain ⟨k, hkn, hgk, rfl, hlt, hc8, hbr⟩ := hrel
    obtain ⟨wy, hwx⟩ : ∃ w6, w6 = wr := ⟨_, rfl⟩
    subst hwx
    have HGk := zH hgk
    have HLT := zH hlt
    have HC8 := zH hc8
    have HBR := zH hbr
    clear hgk hlt hc8 hbr
    by_cases hkl : k < enB
    ·have k1 : (0 : Int) ≤ (k : Int) := by omega
     have k2 : (k : Int) < (enB : Nat) := by omega
     obtain ⟨ck, hck⟩ : ∃ x, i + k = x := ⟨_, rfl⟩
     have hckN : ck < N := by have h := HNN.out; omega
     have hwk : IntKind.i64.wrap ((i : Int) + (k : Int)) = ((ck : Nat) : Int) := by rw [← hck]; exact zro i k (by have h := HNN.out; omega)
     have k3 : (0 : Int) ≤ (ck : Int) := by omega
     have k4 : (ck : Int) < (N : Nat) := by omega
     have HCK := zH hck
     have HKB : Hid (k < b.start.length) := zH (by rw [HNB.out]; exact hkl)
     obtain ⟨ts, as1, ls1, ks1, as2, ls2, ks2, g1, g2, g3, hfs⟩ := (HEB.out.below HBR.out).cellsAt (k := k) (by rw [HLB.out.el]; exact HKB.out)
     have HFX : Hid (zqa wy (.agg #[.bool ts, .slice as1 ls1 ks1, .slice as2 ls2 ks2]) (exQ b k)) := zH hfs
     have HLX : Hid (fits (exQ b k)) := zH (HLB.out.ex_lim HKB.out).fits
     clear hfs hck
     go_upto_region 21 with fail
     obtain ⟨-, d0, d1, d2, d3, -, -, -, -⟩ := HC2.out.belowS HBR.out
     obtain ⟨-, q0, q1, q2, q3, -, -, -, -⟩ := HC8.out
     have hbD := zja (B := wy.heap.size) wy
     have HLD := zH (HLT.out.below hbD)
     have HCD := zH (HC8.out.belowS hbD)
     have HBD := zH (zfa HBR.out hbD HBR.out.size)
     have HFD := zH (HFX.out.below hbD)
     refine wpL.start 15 (fun w' => w'.cell? ⟨b8, 3, none⟩ = some (.slice e1 N e3) ∧ w'.cell? ⟨w.heap.size + 1, 3, none⟩ = some (.slice eaB enB ekB) ∧ w'.cell? (ptr (.slice eaB enB ekB) (k * 3)) = some (.bool ts) ∧ w'.cell? (ptr (.slice eaB enB ekB) (k * 3 + 1)) = some (.slice as1 ls1 ks1) ∧ w'.cell? (ptr (.slice eaB enB ekB) (k * 3 + 2)) = some (.slice as2 ls2 ks2)) (by kernel_rfl) ⟨zba hbD q3, zba hbD d3, zba hbD g1, zba hbD g2, zba hbD g3⟩ (fun hHeld => ?_)
     clear hbD HLT HC8 HBR d0 d1 d2 d3 q0 q1 q2 q3 g1 g2 g3
     generalize wy.drew = wd at *
     refine wpL.u 0 ?_
     refine wpL.t 1 ?_
     refine wpL.u 2 ?_
     refine wpL.u 3 ?_
     refine wpL.u 4 ?_
     try rw [hwk]
     refine wpL.u 5 ?_
     refine wpL.t 6 ?_
     refine wpL.u 7 ?_
     refine wpL.u 8 ?_
     refine wpL.t 9 ?_
     (refine wpL.oo 10 ?_; intro K hK)
     refine zxa 89 #[.agg #[.bool ts, .slice as1 ls1 ks1, .slice as2 ls2 ks2]] ?_ ?_ (zoo _ _ _ HFD.out HLX.out) ?_
     ·rfl
     ·go_simp
     rintro e7 w7 ⟨v7, rfl, hv7, hb7⟩
     obtain ⟨t7, x7, y7, rfl, ⟨a71, l71, k71, rfl, _⟩, ⟨a72, l72, k72, rfl, _⟩⟩ := hv7.isF
     have hH7 := (And.intro (zba hb7 hHeld.1) (And.intro (zba hb7 hHeld.2.1) (And.intro (zba hb7 hHeld.2.2.1) (And.intro (zba hb7 hHeld.2.2.2.1) (zba hb7 hHeld.2.2.2.2)))))
     refine ⟨_, rfl, ?_⟩
     refine hK.out _ _ (fun _ => hH7) ?_
     clear hK K hHeld
     try simp only [Act.put, List.setIfInBounds_toArray, List.set_cons_zero, List.set_cons_succ]
     have hHeld := hH7
     refine wpL.u 11 ?_
     refine wpL.u 12 ?_
     refine wpL.u 13 ?_
     clear hHeld
     have L7 := HLD.out.below hb7
     have C7 := HCD.out.belowS hb7
     have B7 := zfa HBD.out hb7 HBD.out.size
     have hput := L7.putE (e' := smEf b i (k + 1)) hckN (fun r _ hr => smEf_put (by rw [HCK.out]; exact hr)) (by rw [← HCK.out, smEf_at]; exact hv7)
     have hrow := L7.e
     have hjR := show ck < (zib N (smEf b i k)).length by rw [zea]; exact hckN
     have hl0 := Nat.lt_of_le_of_lt (Nat.zero_le _) hjR
     obtain ⟨z0, y1, y2, y3, y4, y5, _⟩ := hrow.fracs.at' ck hjR
     have f0 := hrow.frozen (ck * 3) (by omega)
     have f1 := hrow.frozen (ck * 3 + 1) (by omega)
     have f2 := hrow.frozen (ck * 3 + 2) (by omega)
     have HCP := zH (C7.put hrow hl0 ck (.bool t7) (.slice a71 l71 k71) (.slice a72 l72 k72))
     have HLP := zH hput.1
     have HBP := zH (B7.trans hput.2)
     have slo := hrow.sl
     have n01 := hrow.inj hl0 (show ck * 3 ≠ ck * 3 + 1 by omega)
     have n02 := hrow.inj hl0 (show ck * 3 ≠ ck * 3 + 2 by omega)
     have n12 := hrow.inj hl0 (show ck * 3 + 1 ≠ ck * 3 + 2 by omega)
     clear L7 C7 B7 hput hrow HLD HCD HBD hb7 y5 hv7 HFD
     (refine wpL.oo 14 ?_; intro K hK)
     rw [if_pos (by rfl)]
     go_simp
     refine hK.out _ _ (fun _ => hH7) ?_
     clear hK K
     try simp only [Act.put, List.setIfInBounds_toArray, List.set_cons_zero, List.set_cons_succ]
     (refine wpL.oo 15 ?_; intro K hK)
     rw [if_pos (by rfl)]
     go_simp
     refine hK.out _ _ (fun h => by first | cases h | simp at h) ?_
     clear hK K y2 y3 y4 f0 f1 f2 n01 n02 n12 hH7
     refine wpL.done (by kernel_rfl) ?_ _
     go_wp2_with fail
     go_roundg (enB - (k + 1))
     case measure => (have := HGk.out; omega)
     case rel => exact ⟨k + 1, by omega, rfl, by go_num, HLP.out, HCP.out, HBP.out⟩
    ·obtain rfl : k = enB := by omega
     have hfn : zmo wy W2.heap.size (.slice s1 N s3) (.slice e1 N e3) (.slice r1 N r3) rs N (smS a) (smE a b) (smR a b) := HLT.out.congr (fun r hr => by
      unfold smSf smS
      rw [HNA.out]) (fun r hr => by
      unfold smEf smE
      rw [HNA.out]
      by_cases h : r < i
      ·rw [if_pos h, if_neg (by omega)]
      ·rw [if_neg h, if_pos (by have h := HNN.out; omega)]) (fun r c hr hc => by
      have h := smF_all (a := a) (b := b) (r := r) (c := c) (by rw [HNA.out, HNB.out, HNN.out]; exact hr) (by rw [HNA.out, HNB.out, HNN.out]; exact hc)
      rw [HNA.out] at h
      exact h)
     have HLF := zH hfn
     have hsL : zno a b = fnL N (smS a) (smE a b) (smR a b) := by unfold zno; rw [HNA.out, HNB.out, HNN.out]
     have HSL := zH hsL
     have HCH : Hid (∀ w0, Below wy.heap.size wy w0 → Calls Tryz.prog 104 #[.agg #[.string { data := #[] }, .slice s1 N s3, .slice r1 N r3, .slice e1 N e3]] w0 (fun e w' => e = .returned (.tuple #[.agg #[.string { data := #[] }, .slice s1 N s3, .slice r1 N r3, .slice e1 N e3], .int .i64 0]) ∧ Below w0.heap.size w0 w')) := zH (fun w0 h => pchecked_ok _ (fnL N (smS a) (smE a b) (smR a b)) w0 ((HLF.out.below h).lawE) (by rw [← HSL.out]; exact HLS.out))
     clear hfn hsL
     obtain ⟨-, q0, q1, q2, q3, -, -, -, -⟩ := HC8.out
     go_wp2_with (first
      |(go_at_call 104; (with_reducible refine (HCH.out _ (Below.refl _ _)).mono ?_); rintro e9 w9 ⟨rfl, hb9⟩
        have HT9 := zH (HC3.out.belowS (zaa HBR.out hb9))
        have HB9 := zH (zaa HBW.out (zaa HBR.out hb9))
        have HL9 := zH (HLF.out.below hb9)
        clear q0 q1 q2 q3
        obtain ⟨-, q0, q1, q2, q3, f0, f1, f2, f3⟩ := HT9.out
        clear hb9))
     refine zzd rfl rfl Tryz.aggL Tryz.sizeL (HT9.out.set _ _ _ _) rfl ?_
     refine ⟨_, rfl, ?_, zqd HB9.out (Nat.le_succ_of_le (Nat.le_succ _)) _ _ _ _⟩
     rw [HSL.out]
     exact (zmo.set4' HL9.out hN1 HT9.out).lawE
end Go.Proofs.YtlpdkbmmbdfoiaaGreat
