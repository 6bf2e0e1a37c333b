/-
  package phase: both, product, pair of valid laws.
-/
import Derived.Test.YtlpdkbmmbdfoiaaGreatGPs2
import Derived.Test.YtlpdkbmmbdfoiaaGreatGPh12
import Derived.Test.YtlpdkbmmbdfoiaaGreatFPh15
import Derived.Test.YtlpdkbmmbdfoiaaGreatFTa6
set_option linter.unusedVariables false
set_option linter.unusedSimpArgs false
namespace Go.Proofs.YtlpdkbmmbdfoiaaGreat
open Go.RowKit
theorem zro (a b : Nat) (h : a + b ≤ 8) : IntKind.i64.wrap ((a : Int) + (b : Int)) = ((a + b : Nat) : Int) := by
 rw [zge (by omega) (by omega)]; omega
def RPlace (W0 : World) (vs ve vr : Value) (rs : List Value) (n : Nat) (s e : Nat → Rat) (f : Mx) (b : Nat) (nm : ByteArray) (u1 u2 u3 : Value) (en : Ending) (w : World) : Prop :=
 en = .returned (.tuple #[]) ∧ zmo w W0.heap.size vs ve vr rs n s e f ∧ C4 w b (.string nm) u1 u2 u3 ∧ Below W0.heap.size W0 w
set_option maxRecDepth 100000 in
set_option maxHeartbeats 6400000 in
theorem znp (W0 w : World) (vs ve vr va : Value) (rs : List Value) (n at' : Nat) (s e : Nat → Rat) (f : Mx) (a : LQ) (b : Nat) (nm : ByteArray) (u1 u2 u3 : Value) (hl : zmo w W0.heap.size vs ve vr rs n s e f) (hc : C4 w b (.string nm) u1 u2 u3) (hb : Below W0.heap.size W0 w) (ha : zgm W0 va a) (hla : zxb a) (hn : n ≤ 4) (hat : at' + a.start.length ≤ n) :
 Calls Tryz.prog 103 #[.agg #[.string { data := #[] }, vs, vr, ve], va, .int .i64 (at' : Nat)] w (RPlace W0 vs ve vr rs n s e (plA f (rtQ a) a.start.length at') b nm u1 u2 u3) := by
 obtain ⟨svA, rvA, evA, rfl, hsA, hrA, heA⟩ := ha
 obtain ⟨saA, snA, skA, rfl, -⟩ := id hsA.sl
 obtain ⟨raA, rnA, rkA, rfl, -⟩ := id hrA.sl
 obtain ⟨eaA, enA, ekA, rfl, -⟩ := id heA.sl
 obtain ⟨s1, s2, s3, rfl, -⟩ := id hl.s.sl
 obtain ⟨r1, r2, r3, rfl, -⟩ := id hl.ra.sl
 obtain ⟨e1, e2, e3, rfl, -⟩ := id hl.e.sl
 have hr2 : r2 = n := by have h := hl.ra.len; rw [hl.rl, zdo] at h; exact h
 subst hr2
 obtain ⟨m, hm⟩ : ∃ m, a.start.length = m := ⟨_, rfl⟩
 have hrnA : rnA = m := by rw [← hm, ← hla.rl]; exact hrA.len
 subst hrnA
 have m1 : 1 ≤ rnA := by rw [← hm]; exact hla.n1
 rw [hm] at hat ⊢
 have hba := zca w (.cells #[.string { data := #[] }, .slice s1 s2 s3, .slice r1 r2 r3, .slice e1 e2 e3] 52)
 have hbb := zca (w.alloc (.cells #[.string { data := #[] }, .slice s1 s2 s3, .slice r1 r2 r3, .slice e1 e2 e3] 52)) (.cells #[.string { data := #[] }, .slice saA snA skA, .slice raA rnA rkA, .slice eaA enA ekA] 52)
 have hbc := zaa hba hbb
 have hz1 : (w.alloc (.cells #[.string { data := #[] }, .slice s1 s2 s3, .slice r1 r2 r3, .slice e1 e2 e3] 52)).heap.size = w.heap.size + 1 := by show (w.heap.push _).size = _; rw [Array.size_push]
 have HC1 := zH ((C4.new w 52 (.string { data := #[] }) (.slice s1 s2 s3) (.slice r1 r2 r3) (.slice e1 e2 e3)).belowS hbb)
 have hc2 := C4.new (w.alloc (.cells #[.string { data := #[] }, .slice s1 s2 s3, .slice r1 r2 r3, .slice e1 e2 e3] 52)) 52 (.string { data := #[] }) (.slice saA snA skA) (.slice raA rnA rkA) (.slice eaA enA ekA)
 rw [hz1] at hc2
 have HC2 := zH hc2
 have HC0 := zH (hc.belowS hbc)
 have HBW := zH (zfa hb hbc hb.size)
 have HL := zH (hl.below hbc)
 have HR := zH hrA
 have HLA := zH hla
 have HM := zH hm
 have sr1 := hl.ra.sl
 have srA := hrA.sl
 clear hl hc hb hsA hrA heA hla hm hba hbb hbc hz1 hc2
 go_enter Tryz.func103, Tryz.ntmps103
 go_upto_region 1 with fail
 obtain ⟨ba, hba⟩ : ∃ x, w.heap.size = x := ⟨_, rfl⟩
 rw [hba] at HC1 HC2 ⊢
 clear hba
 generalize (w.alloc (.cells #[.string { data := #[] }, .slice s1 s2 s3, .slice r1 r2 r3, .slice e1 e2 e3] 52)).alloc (.cells #[.string { data := #[] }, .slice saA snA skA, .slice raA rnA rkA, .slice eaA enA ekA] 52) = W2 at *
 obtain ⟨-, c0, c1, c2, c3, -, -, -, -⟩ := HC2.out
 go_wp2_with fail
 clear c0 c1 c2 c3
 go_loopg [13] (rnA) (fun g u13 wr => ∃ (i : Nat), i ≤ rnA ∧ g = rnA - i ∧ u13 = .int .i64 i ∧ zmo wr W0.heap.size (.slice s1 s2 s3) (.slice e1 e2 e3) (.slice r1 r2 r3) rs r2 s e (plF f (rtQ a) rnA at' i 0) ∧ C4 wr b (.string nm) u1 u2 u3 ∧ C4 wr ba (.string { data := #[] }) (.slice s1 s2 s3) (.slice r1 r2 r3) (.slice e1 e2 e3) ∧ Below W0.heap.size W0 wr)
 case atStart => exact ⟨0, Nat.zero_le _, rfl, rfl, HL.out.congr (fun _ _ => rfl) (fun _ _ => rfl) (fun r c _ _ => plF_zero r c), HC0.out, HC1.out, HBW.out⟩
 case round =>
  obtain ⟨i, hin, hg, rfl, hlt, hc0, hc1, hbr⟩ := hrel
  obtain ⟨wx, hwx⟩ : ∃ w6, w6 = wr := ⟨_, rfl⟩
  subst hwx
  have HG := zH hg
  have HLT := zH hlt
  have HC0 := zH hc0
  have HC1 := zH hc1
  have HBR := zH hbr
  clear hg hlt hc0 hc1 hbr
  by_cases hil : i < rnA
  ·have i1 : (0 : Int) ≤ (i : Int) := by omega
   have i2 : (i : Int) < (rnA : Nat) := by omega
   have hi1 : i < a.rates.length := by rw [HLA.out.rl, HM.out]; exact hil
   obtain ⟨row, hcr, hrow⟩ := HR.out.at' i hi1
   obtain ⟨o1, o2, o3, rfl, _⟩ := id hrow.sl
   have hrl2 : (a.rates[i]'hi1).length = rnA := (HLA.out.row i hi1).1.trans HM.out
   have ho2 : o2 = rnA := hrow.len.trans hrl2
   subst ho2
   have HROW := zH hrow
   have HRL2 := zH hrl2
   have srow := hrow.sl
   have hcr := zba HBR.out hcr
   have HRG : Hid (a.rates.getD i [] = a.rates[i]'hi1) := zH (by rw [List.getD_eq_getElem?_getD, List.getElem?_eq_getElem hi1]; rfl)
   clear hrow hrl2
   go_wp2_with fail
   clear hcr
   go_loopg [20] (o2) (fun g u20 wr => ∃ (k : Nat), k ≤ o2 ∧ g = o2 - k ∧ u20 = .int .i64 k ∧ zmo wr W0.heap.size (.slice s1 s2 s3) (.slice e1 e2 e3) (.slice r1 r2 r3) rs r2 s e (plF f (rtQ a) o2 at' i k) ∧ C4 wr b (.string nm) u1 u2 u3 ∧ C4 wr ba (.string { data := #[] }) (.slice s1 s2 s3) (.slice r1 r2 r3) (.slice e1 e2 e3) ∧ Below W0.heap.size W0 wr)
   case atStart => exact ⟨0, Nat.zero_le _, rfl, rfl, HLT.out, HC0.out, HC1.out, HBR.out⟩
   case round =>
    obtain ⟨k, hkn, hgk, rfl, hlt, hc0, hc1, hbr⟩ := hrel
    obtain ⟨w8, hw8⟩ : ∃ wb, wb = wr := ⟨_, rfl⟩
    subst hw8
    have HGK := zH hgk
    have HLT := zH hlt
    have HC0 := zH hc0
    have HC1 := zH hc1
    have HBR := zH hbr
    clear hgk hlt hc0 hc1 hbr
    by_cases hkl : k < o2
    ·have j1 : (0 : Int) ≤ (k : Int) := by omega
     have j2 : (k : Int) < (o2 : Nat) := by omega
     have hai : at' + i < r2 := by omega
     have hak : at' + k < r2 := by omega
     have HAK : Hid (at' + i ≤ 8 ∧ at' + k ≤ 8) := zH ⟨by omega, by omega⟩
     have hkr : k < (a.rates[i]'hi1).length := by rw [HRL2.out]; exact hkl
     obtain ⟨ts, as1, ls1, ks1, as2, ls2, ks2, g1, g2, g3, hfs⟩ := (HROW.out.below HBR.out).cellsAt (k := k) hkr
     have hxe : (a.rates[i]'hi1).getD k 0 = rtQ a i k := by unfold rtQ; rw [HRG.out]
     rw [hxe] at hfs
     have HLX : Hid (zvg (rtQ a i k)) := zH (HLA.out.rt_lim (by rw [HM.out]; exact hil) (by rw [HM.out]; exact hkl))
     have hb11 := zca w8 (.cells #[.bool ts, .slice as1 ls1 ks1, .slice as2 ls2 ks2] 38)
     have HC11 := zH (C3.new w8 38 (.bool ts) (.slice as1 ls1 ks1) (.slice as2 ls2 ks2))
     have HF11 := zH (hfs.below hb11)
     replace HLT := zH (HLT.out.below hb11)
     replace HC0 := zH (HC0.out.belowS hb11)
     replace HC1 := zH (HC1.out.belowS hb11)
     replace HBR := zH (zfa HBR.out hb11 HBR.out.size)
     obtain ⟨b11, hb11e⟩ : ∃ b, w8.heap.size = b := ⟨_, rfl⟩
     have HBE := zH hb11e
     clear hxe hfs hb11 hb11e
     go_upto_region 7 with fail
     clear g1 g2 g3
     rw [HBE.out] at HC11 ⊢
     clear HBE
     generalize w8.alloc (.cells #[.bool ts, .slice as1 ls1 ks1, .slice as2 ls2 ks2] 38) = W9 at *
     obtain ⟨ri, hri⟩ : ∃ x, at' + i = x := ⟨_, rfl⟩
     obtain ⟨ck, hck⟩ : ∃ x, at' + k = x := ⟨_, rfl⟩
     have hwi : IntKind.i64.wrap ((at' : Int) + (i : Int)) = ((ri : Nat) : Int) := by rw [← hri]; exact zro at' i HAK.out.1
     have hwk : IntKind.i64.wrap ((at' : Int) + (k : Int)) = ((ck : Nat) : Int) := by rw [← hck]; exact zro at' k HAK.out.2
     rw [hri] at hai
     rw [hck] at hak
     have hi9 : ri < rs.length := by rw [HLT.out.rsl]; exact hai
     have s2c := HLT.out.ra.cell ri hi9
     have hRi : ri < (zwo r2 (plF f (rtQ a) o2 at' i k)).length := by rw [zdo]; exact hai
     have hrw := HLT.out.rows ri hi9 hRi
     obtain ⟨z1, z2, z3, ho, _⟩ := id hrw.sl
     have hz2 : z2 = r2 := by have h := hrw.fracs.len; rw [ho, zeo, zea] at h; exact h
     subst hz2
     rw [ho] at s2c
     have HO := zH ho
     have HRI := zH hri
     have HCK := zH hck
     have q1 : (0 : Int) ≤ ((ri : Nat) : Int) := by omega
     have q2 : ((ri : Nat) : Int) < ((z2 : Nat) : Int) := by omega
     have q3 : (0 : Int) ≤ ((ck : Nat) : Int) := by omega
     have q4 : ((ck : Nat) : Int) < ((z2 : Nat) : Int) := by omega
     obtain ⟨-, d0, d1, d2, -, -, -⟩ := HC11.out
     obtain ⟨-, c0, c1, c2, c3, -, -, -, -⟩ := HC1.out
     have hbD := zja (B := W9.heap.size) W9
     have HLD := zH (HLT.out.below hbD)
     have HCD0 := zH (HC0.out.belowS hbD)
     have HCD1 := zH (HC1.out.belowS hbD)
     have HBD := zH (zfa HBR.out hbD HBR.out.size)
     have HFD := zH (HF11.out.below hbD)
     refine wpL.start 16 (fun w' => w'.cell? ⟨ba, 2, none⟩ = some (.slice r1 z2 r3) ∧ w'.cell? (ptr (.slice r1 z2 r3) ri) = some (.slice z1 z2 z3) ∧ w'.cell? ⟨b11, 0, none⟩ = some (.bool ts) ∧ w'.cell? ⟨b11, 1, none⟩ = some (.slice as1 ls1 ks1) ∧ w'.cell? ⟨b11, 2, none⟩ = some (.slice as2 ls2 ks2)) (by kernel_rfl) ⟨zba hbD c2, zba hbD s2c, zba hbD d0, zba hbD d1, zba hbD d2⟩ (fun hHeld => ?_)
     clear c0 c1 c2 c3 d0 d1 d2 hbD HLT HC0 HC1 HBR HF11 HC11 ho hrw s2c hri hck
     generalize W9.drew = wd at *
     refine wpL.u 0 ?_
     refine wpL.t 1 ?_
     refine wpL.u 2 ?_
     refine wpL.u 3 ?_
     refine wpL.u 4 ?_
     try rw [hwi]
     refine wpL.u 5 ?_
     refine wpL.t 6 ?_
     refine wpL.u 7 ?_
     refine wpL.u 8 ?_
     refine wpL.u 9 ?_
     try rw [hwk]
     refine wpL.t 10 ?_
     (refine wpL.oo 11 ?_; intro K hK)
     refine zxa 89 #[.agg #[.bool ts, .slice as1 ls1 ks1, .slice as2 ls2 ks2]] ?_ ?_ (zoo _ _ _ HFD.out HLX.out.fits) ?_
     ·rfl
     ·go_simp
     rintro e7 w7 ⟨v7, rfl, hv7, hb7⟩
     obtain ⟨t7, x7, y7, rfl, ⟨a71, l71, k71, rfl, _⟩, ⟨a72, l72, k72, rfl, _⟩⟩ := hv7.isF
     have hH7 := And.intro (zba hb7 hHeld.1) (And.intro (zba hb7 hHeld.2.1) (And.intro (zba hb7 hHeld.2.2.1) (And.intro (zba hb7 hHeld.2.2.2.1) (zba hb7 hHeld.2.2.2.2))))
     refine ⟨_, rfl, ?_⟩
     refine hK.out _ _ (fun _ => hH7) ?_
     clear hK K hHeld
     try simp only [Act.put, List.setIfInBounds_toArray, List.set_cons_zero, List.set_cons_succ]
     have hHeld := hH7
     refine wpL.u 12 ?_
     refine wpL.u 13 ?_
     refine wpL.u 14 ?_
     clear hHeld
     have L7 := HLD.out.below hb7
     have C7 := HCD0.out.belowS hb7
     have D7 := HCD1.out.belowS hb7
     have B7 := zfa HBD.out hb7 HBD.out.size
     have hput := L7.putR (g := plF f (rtQ a) o2 at' i (k + 1)) hi9 hak (fun r c _ _ hne => plF_put hkl (by rw [HRI.out, HCK.out]; exact hne)) (by rw [← HRI.out, ← HCK.out, plF_at hkl]; exact hv7)
     rw [HO.out] at hput
     have hrow := L7.rows ri hi9 hRi
     rw [HO.out] at hrow
     have hjR : ck < ((zwo z2 (plF f (rtQ a) o2 at' i k))[ri]'hRi).length := by rw [zeo, zea]; exact hak
     have hl0 : 0 < ((zwo z2 (plF f (rtQ a) o2 at' i k))[ri]'hRi).length := Nat.lt_of_le_of_lt (Nat.zero_le _) hjR
     obtain ⟨z0, y1, y2, y3, y4, y5, _⟩ := hrow.fracs.at' ck hjR
     have f0 := hrow.frozen (ck * 3) (by omega)
     have f1 := hrow.frozen (ck * 3 + 1) (by omega)
     have f2 := hrow.frozen (ck * 3 + 2) (by omega)
     have HCP0 := zH (C7.put hrow hl0 ck (.bool t7) (.slice a71 l71 k71) (.slice a72 l72 k72))
     have HCP1 := zH (D7.put hrow hl0 ck (.bool t7) (.slice a71 l71 k71) (.slice a72 l72 k72))
     have HLP := zH hput.1
     have HBP := zH (B7.trans hput.2)
     have slo := hrow.sl
     have n01 := hrow.inj hl0 (show ck * 3 ≠ ck * 3 + 1 by omega)
     have n02 := hrow.inj hl0 (show ck * 3 ≠ ck * 3 + 2 by omega)
     have n12 := hrow.inj hl0 (show ck * 3 + 1 ≠ ck * 3 + 2 by omega)
     clear L7 C7 D7 B7 hput hrow HLD HCD0 HCD1 HBD hb7 y5 hv7 HFD
     (refine wpL.oo 15 ?_; intro K hK)
     rw [if_pos (by rfl)]
     go_simp
     refine hK.out _ _ (fun _ => hH7) ?_
     clear hK K
     try simp only [Act.put, List.setIfInBounds_toArray, List.set_cons_zero, List.set_cons_succ]
     (refine wpL.oo 16 ?_; intro K hK)
     rw [if_pos (by rfl)]
     go_simp
     refine hK.out _ _ (fun h => by first | cases h | simp at h) ?_
     clear hK K y2 y3 y4 f0 f1 f2 n01 n02 n12 hH7
     refine wpL.done (by kernel_rfl) ?_ _
     go_wp2_with fail
     go_roundg (o2 - (k + 1))
     case measure => (have := HGK.out; omega)
     case rel => exact ⟨k + 1, by omega, rfl, by go_num, HLP.out, HCP0.out, HCP1.out, HBP.out⟩
    ·obtain rfl : k = o2 := by omega
     go_wp2_with fail
     go_roundg (k - (i + 1))
     case measure => (have := HG.out; omega)
     case rel => exact ⟨i + 1, by omega, rfl, by go_num, HLT.out.congr (fun _ _ => rfl) (fun _ _ => rfl) (fun r c _ _ => plF_row r c), HC0.out, HC1.out, HBR.out⟩
  ·obtain rfl : i = rnA := by omega
   go_wp2_with fail
   go_end0
   exact ⟨rfl, HLT.out.congr (fun _ _ => rfl) (fun _ _ => rfl) (fun r c _ _ => plF_all r c), HC0.out, HBR.out⟩
set_option maxRecDepth 100000 in
theorem pfn_both (m n : Nat) (hm : m ≤ 4) (hn : n ≤ 4) (w : World) : Calls Tryz.prog 102 #[.int .i64 (m : Nat), .int .i64 (n : Nat)] w (fun e w' => e = .returned (.int .i64 ((m + n : Nat) : Int)) ∧ Below w.heap.size w w') := by
 have hw2 : wrap64 ((m : Int) + (n : Int)) = ((m + n : Nat) : Int) := by rw [← Int.natCast_add]; exact zoi (by omega)
 go_enter Tryz.func102, Tryz.ntmps102
 go_wp2_with fail
 go_ret
 exact ⟨by first | rfl | simp, Below.refl _ _⟩
set_option maxRecDepth 100000 in
theorem pfn_product (m n : Nat) (hm : m ≤ 4) (hn : n ≤ 4) (w : World) : Calls Tryz.prog 132 #[.int .i64 (m : Nat), .int .i64 (n : Nat)] w (fun e w' => e = .returned (.int .i64 ((m * n : Nat) : Int)) ∧ Below w.heap.size w w') := by
 have h1 : m * n ≤ 16 := Nat.mul_le_mul hm hn
 have hw2 : wrap64 ((m : Int) * (n : Int)) = ((m * n : Nat) : Int) := by rw [← Int.natCast_mul]; exact zoi (by omega)
 go_enter Tryz.func132, Tryz.ntmps132
 go_wp2_with fail
 go_ret
 exact ⟨by first | rfl | simp, Below.refl _ _⟩
set_option maxRecDepth 100000 in
set_option maxHeartbeats 3200000 in
theorem ppair_both (va vb : Value) (a b : LQ) (w : World) (ha : zhm w va a) (hb : zhm w vb b) (hla : zxb a) (hlb : zxb b) (hs : a.start.length + b.start.length ≤ 4) :
 Calls Tryz.prog 101 #[va, vb, .func (.func 102) #[] #[]] w (fun e w' => e = .returned (.int .i64 0) ∧ Below w.heap.size w w') := by
 obtain ⟨nma, sa, ska, ra, rka, ea, eka, rfl, -, -, -⟩ := ha.parts hla
 obtain ⟨nmb, sb, skb, rb, rkb, eb, ekb, rfl, -, -, -⟩ := hb.parts hlb
 obtain ⟨m, hm⟩ : ∃ m, a.start.length = m := ⟨_, rfl⟩
 obtain ⟨n, hn⟩ : ∃ n, b.start.length = n := ⟨_, rfl⟩
 have hm4 : m ≤ 4 := by rw [← hm]; exact hla.n4
 have hn4 : n ≤ 4 := by rw [← hn]; exact hlb.n4
 rw [hm] at ha hs ⊢
 rw [hn] at hb hs ⊢
 have hba := zca w (.cells #[nma, .slice sa m ska, .slice ra m rka, .slice ea m eka] 52)
 have hbb := zca (w.alloc (.cells #[nma, .slice sa m ska, .slice ra m rka, .slice ea m eka] 52)) (.cells #[nmb, .slice sb n skb, .slice rb n rkb, .slice eb n ekb] 52)
 have hz1 : (w.alloc (.cells #[nma, .slice sa m ska, .slice ra m rka, .slice ea m eka] 52)).heap.size = w.heap.size + 1 := by show (w.heap.push _).size = _; rw [Array.size_push]
 have HC1 := zH ((C4.new w 52 nma (.slice sa m ska) (.slice ra m rka) (.slice ea m eka)).belowS hbb)
 have hcb := C4.new (w.alloc (.cells #[nma, .slice sa m ska, .slice ra m rka, .slice ea m eka] 52)) 52 nmb (.slice sb n skb) (.slice rb n rkb) (.slice eb n ekb)
 rw [hz1] at hcb
 have HC2 := zH hcb
 have HB := zH (zaa hba hbb)
 have HA := zH (ha.below HB.out)
 have HBB := zH (hb.below HB.out)
 have HLA := zH hla
 have HLB := zH hlb
 have hs2 : decide ((4 : Int) < ((m + n : Nat) : Int)) = false := decide_eq_false (by omega)
 clear ha hb hla hlb hba hbb hz1 hcb hm hn
 go_enter Tryz.func101, Tryz.ntmps101
 go_upto_region 1 with fail
 generalize (w.alloc (.cells #[nma, .slice sa m ska, .slice ra m rka, .slice ea m eka] 52)).alloc (.cells #[nmb, .slice sb n skb, .slice rb n rkb, .slice eb n ekb] 52) = W2 at *
 obtain ⟨-, c0, c1, c2, c3, -, -, -, -⟩ := HC1.out
 obtain ⟨-, d0, d1, d2, d3, -, -, -, -⟩ := HC2.out
 go_wp2_with (first
  |(go_at_call 58; (with_reducible refine (zbh _ a _ HA.out HLA.out).mono ?_); rintro e4 w4 ⟨rfl, hb4⟩
    clear c0 c1 c2 c3 d0 d1 d2 d3
    replace HBB := zH (HBB.out.below hb4); replace HB := zH (zaa HB.out hb4); replace HC1 := zH (HC1.out.belowS hb4); replace HC2 := zH (HC2.out.belowS hb4)
    obtain ⟨-, d0, d1, d2, d3, -, -, -, -⟩ := HC2.out
    clear hb4)
  |(go_at_call 58; (with_reducible refine (zbh _ b _ HBB.out HLB.out).mono ?_); rintro e5 w5 ⟨rfl, hb5⟩
    clear d0 d1 d2 d3
    replace HB := zH (zaa HB.out hb5)
    replace HC1 := zH (HC1.out.belowS hb5); replace HC2 := zH (HC2.out.belowS hb5)
    obtain ⟨-, c0, c1, c2, c3, -, -, -, -⟩ := HC1.out
    obtain ⟨-, d0, d1, d2, d3, -, -, -, -⟩ := HC2.out
    clear hb5)
  |(go_at_call 102; (with_reducible refine (pfn_both m n hm4 hn4 _).mono ?_); rintro e6 w6 ⟨rfl, hb6⟩
    replace HB := zH (zaa HB.out hb6)
    clear c0 c1 c2 c3 d0 d1 d2 d3 hb6))
 go_ret
 exact ⟨rfl, HB.out⟩
set_option maxRecDepth 100000 in
set_option maxHeartbeats 3200000 in
theorem ppair_product (va vb : Value) (a b : LQ) (w : World) (ha : zhm w va a) (hb : zhm w vb b) (hla : zxb a) (hlb : zxb b) (hs : a.start.length * b.start.length ≤ 4) :
 Calls Tryz.prog 101 #[va, vb, .func (.func 132) #[] #[]] w (fun e w' => e = .returned (.int .i64 0) ∧ Below w.heap.size w w') := by
 obtain ⟨nma, sa, ska, ra, rka, ea, eka, rfl, -, -, -⟩ := ha.parts hla
 obtain ⟨nmb, sb, skb, rb, rkb, eb, ekb, rfl, -, -, -⟩ := hb.parts hlb
 obtain ⟨m, hm⟩ : ∃ m, a.start.length = m := ⟨_, rfl⟩
 obtain ⟨n, hn⟩ : ∃ n, b.start.length = n := ⟨_, rfl⟩
 have hm4 : m ≤ 4 := by rw [← hm]; exact hla.n4
 have hn4 : n ≤ 4 := by rw [← hn]; exact hlb.n4
 rw [hm] at ha hs ⊢
 rw [hn] at hb hs ⊢
 have hba := zca w (.cells #[nma, .slice sa m ska, .slice ra m rka, .slice ea m eka] 52)
 have hbb := zca (w.alloc (.cells #[nma, .slice sa m ska, .slice ra m rka, .slice ea m eka] 52)) (.cells #[nmb, .slice sb n skb, .slice rb n rkb, .slice eb n ekb] 52)
 have hz1 : (w.alloc (.cells #[nma, .slice sa m ska, .slice ra m rka, .slice ea m eka] 52)).heap.size = w.heap.size + 1 := by show (w.heap.push _).size = _; rw [Array.size_push]
 have HC1 := zH ((C4.new w 52 nma (.slice sa m ska) (.slice ra m rka) (.slice ea m eka)).belowS hbb)
 have hcb := C4.new (w.alloc (.cells #[nma, .slice sa m ska, .slice ra m rka, .slice ea m eka] 52)) 52 nmb (.slice sb n skb) (.slice rb n rkb) (.slice eb n ekb)
 rw [hz1] at hcb
 have HC2 := zH hcb
 have HB := zH (zaa hba hbb)
 have HA := zH (ha.below HB.out)
 have HBB := zH (hb.below HB.out)
 have HLA := zH hla
 have HLB := zH hlb
 have hs2 : decide ((4 : Int) < ((m * n : Nat) : Int)) = false := decide_eq_false (by omega)
 clear ha hb hla hlb hba hbb hz1 hcb hm hn
 go_enter Tryz.func101, Tryz.ntmps101
 go_upto_region 1 with fail
 generalize (w.alloc (.cells #[nma, .slice sa m ska, .slice ra m rka, .slice ea m eka] 52)).alloc (.cells #[nmb, .slice sb n skb, .slice rb n rkb, .slice eb n ekb] 52) = W2 at *
 obtain ⟨-, c0, c1, c2, c3, -, -, -, -⟩ := HC1.out
 obtain ⟨-, d0, d1, d2, d3, -, -, -, -⟩ := HC2.out
 go_wp2_with (first
  |(go_at_call 58; (with_reducible refine (zbh _ a _ HA.out HLA.out).mono ?_); rintro e4 w4 ⟨rfl, hb4⟩
    clear c0 c1 c2 c3 d0 d1 d2 d3
    replace HBB := zH (HBB.out.below hb4); replace HB := zH (zaa HB.out hb4); replace HC1 := zH (HC1.out.belowS hb4); replace HC2 := zH (HC2.out.belowS hb4)
    obtain ⟨-, d0, d1, d2, d3, -, -, -, -⟩ := HC2.out
    clear hb4)
  |(go_at_call 58; (with_reducible refine (zbh _ b _ HBB.out HLB.out).mono ?_); rintro e5 w5 ⟨rfl, hb5⟩
    clear d0 d1 d2 d3
    replace HB := zH (zaa HB.out hb5)
    replace HC1 := zH (HC1.out.belowS hb5); replace HC2 := zH (HC2.out.belowS hb5)
    obtain ⟨-, c0, c1, c2, c3, -, -, -, -⟩ := HC1.out
    obtain ⟨-, d0, d1, d2, d3, -, -, -, -⟩ := HC2.out
    clear hb5)
  |(go_at_call 132; (with_reducible refine (pfn_product m n hm4 hn4 _).mono ?_); rintro e6 w6 ⟨rfl, hb6⟩
    replace HB := zH (zaa HB.out hb6)
    clear c0 c1 c2 c3 d0 d1 d2 d3 hb6))
 go_ret
 exact ⟨rfl, HB.out⟩
end Go.Proofs.YtlpdkbmmbdfoiaaGreat
