/-
  package fleet: ends, of a valid law.
-/
import Derived.Test.YtlpdkbmmbdfoiaaGreatFPk0
set_option linter.unusedVariables false
set_option linter.unusedSimpArgs false
namespace Go.Proofs.YtlpdkbmmbdfoiaaGreat
open Go.RowKit
theorem zkc {bs : List Bool} {i t : Nat} {b : Bool} (hi : i < bs.length) : (bs.set i b).getD t false = if t = i then b else bs.getD t false := by
 rw [List.getD_eq_getElem?_getD, List.getElem?_set]
 by_cases e : i = t
 ·subst e
  rw [if_pos rfl, if_pos hi, if_pos rfl]
  rfl
 ·rw [if_neg e, if_neg (fun h => e h.symm), List.getD_eq_getElem?_getD]
theorem fends1_any (b : Bool) (w : World) : Calls Tryz.prog 189 #[.bool b] w (fun e w' => e = .returned (.bool b) ∧ w' = w) := by
 go_enter Tryz.func189, Tryz.ntmps189
 go_wp2_with fail
 go_ret
 exact ⟨rfl, rfl⟩
set_option maxRecDepth 100000 in
set_option maxHeartbeats 1600000 in
theorem fallB_ok (va : Value) (l : List Bool) (w : World) (ha : zcm w va l) (hl : ∀ t, t < l.length → l.getD t false = true) (hn : l.length ≤ 1000) :
 Calls Tryz.prog 188 #[va, .func (.func 189) #[] #[]] w (fun e w' => e = .returned (.bool true) ∧ Below w.heap.size w w') := by
 have sx := zhc.sl ha
 obtain ⟨xa, xn, xk, rfl, _⟩ := id sx
 have hxn : xn = l.length := by have h := zhc.len ha; rwa [List.length_map] at h
 obtain ⟨n, hnn⟩ : ∃ n, l.length = n := ⟨_, rfl⟩
 rw [hnn] at hxn hn
 subst hxn
 have HN := zH hnn
 have HA := zH ha
 have HL := zH hl
 clear hnn ha hl
 go_enter Tryz.func188, Tryz.ntmps188
 go_wp2_with fail
 go_loopg [9] (xn) (fun g u9 wr => ∃ (k : Nat), k ≤ xn ∧ g = xn - k ∧ u9 = .int .i64 k ∧ Below w.heap.size w wr)
 case atStart => exact ⟨0, Nat.zero_le _, rfl, rfl, Below.refl _ _⟩
 case round =>
  obtain ⟨k, hk, hg, rfl, hbr⟩ := hrel
  obtain ⟨wb, hwb⟩ : ∃ wb, wb = wr := ⟨_, rfl⟩
  subst hwb
  have HG := zH hg
  have HBR := zH hbr
  clear hg hbr
  by_cases hkl : k < xn
  ·have hk2 : k < l.length := by rw [HN.out]; exact hkl
   have q1 := (HA.out.below HBR.out).at' k hk2
   have hlq := HL.out k hk2
   rw [zrn hk2] at hlq
   rw [hlq] at q1
   have i1 : (0 : Int) ≤ (k : Int) := by omega
   have i2 : (k : Int) < (xn : Nat) := by omega
   clear hlq
   go_wp2_with (first
    |(go_at_call 189; (with_reducible refine (fends1_any true _).mono ?_); rintro e4 w4 ⟨rfl, rfl⟩))
   go_roundg (xn - (k + 1))
   case measure => (have := HG.out; omega)
   case rel => exact ⟨k + 1, by omega, rfl, by go_num, HBR.out⟩
  ·obtain rfl : k = xn := by omega
   go_wp2_with fail
   go_ret
   exact ⟨rfl, HBR.out⟩
set_option maxRecDepth 100000 in
set_option maxHeartbeats 6400000 in
theorem fends_ok (va : Value) (l : LQ) (w : World) (ha : zhm w va l) (hl : zxb l) : Calls Tryz.prog 138 #[va] w (fun e w' => e = .returned (.bool true) ∧ Below w.heap.size w w') := by
 obtain ⟨i0, hi, hz0, hz1, hz2⟩ := info_parts Tryz.infoBool
 have hM := make_E2 (P := Tryz.prog) 26 4 i0 _ 1 Tryz.underlying26 hi hz0 hz1 hz2 (by decide) rfl
 clear hi hz0 hz1 hz2
 obtain ⟨nm, sv, rv, ev, rfl, hs, hr, he⟩ := id ha
 obtain ⟨ra, rn, rk, rfl, _⟩ := id hr.sl
 obtain ⟨sa, sn, sk, rfl, _⟩ := id hs.sl
 obtain ⟨ea, en, ek, rfl, _⟩ := id he.sl
 have hba := zca w (.cells #[nm, .slice sa sn sk, .slice ra rn rk, .slice ea en ek] 52)
 have HC := zH (C4.new w 52 nm (.slice sa sn sk) (.slice ra rn rk) (.slice ea en ek))
 have HR := zH (hr.below hba)
 have HE := zH (he.below hba)
 have HBW := zH hba
 have hen : en = l.start.length := he.len.trans hl.el
 obtain ⟨n, hnn⟩ : ∃ n, l.start.length = n := ⟨_, rfl⟩
 have HN := zH hnn
 have hrn : rn = l.start.length := hr.len.trans hl.rl
 have HRN : Hid (rn = n) := zH (by rw [← hnn]; exact hrn)
 rw [hnn] at hen
 subst hen
 have hn4 : en ≤ 128 := by rw [← hnn]; have := hl.n4; omega
 have HL := zH hl
 obtain ⟨d, hd⟩ := hl.ends
 have HD := zH hd
 have srt := hr.sl
 have sxt := he.sl
 clear hd hs hr he ha hl hba hnn hrn
 go_enter Tryz.func138, Tryz.ntmps138
 go_upto_region 1 with fail
 obtain ⟨b, hb⟩ : ∃ b, w.heap.size = b := ⟨_, rfl⟩
 rw [hb] at HC ⊢
 have HBE := zH hb
 clear hb
 generalize w.alloc (.cells #[nm, .slice sa sn sk, .slice ra rn rk, .slice ea en ek] 52) = W1 at *
 obtain ⟨_, c0, c1, c2, c3, _, _, _, _⟩ := HC.out
 go_wp2_with (refine hM W1 rfl _ _ rfl en rfl rfl hn4 ?_; intro vL w6 hO6 hb6
              have HO6 := zH hO6
              have HB6 := zH hb6
              have slL := hO6.sl
              have lnL : slen vL = en := by have h := hO6.len; rwa [List.length_replicate] at h
              obtain ⟨vb1, vb2, vb3, rfl, _⟩ := id slL
              obtain rfl : vb2 = en := lnL
              clear hO6 hb6)
 clear hM c0 c1 c2 c3
 go_loopg [4] (vb2 + 1) (fun g u4 wr => ∃ (r : Nat) (bs : List Bool), r ≤ vb2 + 1 ∧ g = vb2 + 1 - r ∧ u4 = .int .i64 r ∧ zce wr 4 W1.heap.size (.slice vb1 vb2 vb3) (bs.map Value.bool) ∧ bs.length = vb2 ∧ (∀ t, t < vb2 → d t < r → bs.getD t false = true) ∧ Below W1.heap.size W1 wr)
 case atStart => exact ⟨0, List.replicate vb2 false, by omega, rfl, rfl, by rw [List.map_replicate]; exact HO6.out, by simp, fun t _ h => by omega, HB6.out⟩
 case round =>
  obtain ⟨r, bs, hrn, hg, rfl, ho, hbl, hP, hbr⟩ := hrel
  obtain ⟨W2, hw2⟩ : ∃ w2, w2 = wr := ⟨_, rfl⟩
  subst hw2
  have HG := zH hg
  have HO := zH ho
  have HP1 := zH hP
  have HBL := zH hbl
  have HBR := zH hbr
  clear hg ho hP hbl hbr HO6 HB6
  by_cases hrl : r ≤ vb2
  ·go_wp2_with fail
   go_loopg [20] (vb2) (fun g u20 wr => ∃ (i : Nat) (bs : List Bool), i ≤ vb2 ∧ g = vb2 - i ∧ u20 = .int .i64 i ∧ zce wr 4 W1.heap.size (.slice vb1 vb2 vb3) (bs.map Value.bool) ∧ bs.length = vb2 ∧ (∀ t, t < vb2 → d t < r → bs.getD t false = true) ∧ (∀ t, t < i → d t ≤ r → bs.getD t false = true) ∧ Below W1.heap.size W1 wr)
   case atStart => exact ⟨0, bs, by omega, rfl, rfl, HO.out, HBL.out, HP1.out, fun t h => by omega, HBR.out⟩
   case round =>
    clear HO HP1 HBL HBR
    obtain ⟨i, bs, hin, hg, rfl, ho, hbl, hP, hQ, hbr⟩ := hrel
    obtain ⟨W3, hw2⟩ : ∃ w2, w2 = wr := ⟨_, rfl⟩
    subst hw2
    have HGI := zH hg
    have HO := zH ho
    have HP1 := zH hP
    have HP2 := zH hQ
    have HBL := zH hbl
    have HBR := zH hbr
    clear hg ho hP hQ hbl hbr
    by_cases hil : i < vb2
    ·have hib : i < bs.length := by rw [HBL.out]; exact hil
     have hie : i < l.exit.length := by rw [HL.out.el, HN.out]; exact hil
     have hir : i < l.rates.length := by rw [HL.out.rl, HN.out]; exact hil
     have hio : i < (bs.map Value.bool).length := by rw [List.length_map]; exact hib
     obtain ⟨rw1, hrv, hrow⟩ := HR.out.at' i hir
     obtain ⟨rl1, rl2, rl3⟩ := HL.out.row i hir
     have HRE : Hid (l.rates.getD i [] = l.rates[i]'hir) := zH (by rw [List.getD_eq_getElem?_getD, List.getElem?_eq_getElem hir]; rfl)
     rw [← HRE.out] at hrow rl1 rl2
     obtain ⟨ua, un, uk, rfl, _⟩ := id hrow.sl
     have srow := hrow.sl
     have HROW := zH hrow
     have HRV := zH hrv
     have HRL := zH rl2
     have HRLN : Hid ((l.rates.getD i []).length = vb2) := zH (by rw [rl1, HN.out])
     have hun : un = vb2 := by rw [← HRLN.out]; exact hrow.len
     subst hun
     obtain ⟨ts, as1, ls1, ks1, as2, ls2, ks2, g1, g2, g3, hfs⟩ := (HE.out.below HBR.out).cellsAt (k := i) hie
     have hlq : zvg (l.exit.getD i 0) := by
      rw [List.getD_eq_getElem?_getD, List.getElem?_eq_getElem hie]
      exact HL.out.ex _ (List.getElem_mem hie)
     obtain ⟨q, hq⟩ : ∃ q, l.exit.getD i 0 = q := ⟨_, rfl⟩
     rw [hq] at hlq hfs
     have HQ := zH hq
     have HFS := zH hfs
     have HLA := zH hlq.above
     have q1 := HO.out.cell i hio
     rw [List.getElem_map] at q1
     have hxe : bs.getD i false = bs[i]'hib := zrn hib
     obtain ⟨x, hx⟩ : ∃ x, bs[i]'hib = x := ⟨_, rfl⟩
     rw [hx] at q1 hxe
     have HXE := zH hxe
     have f1 := HO.out.frozen i hio
     have HIB := zH hib
     have HIO := zH hio
     obtain ⟨_, c0, c1, c2, c3, _, _, _, _⟩ := HC.out.belowS HBR.out
     have i1 : (0 : Int) ≤ (i : Int) := by omega
     have i2 : (i : Int) < (un : Nat) := by omega
     have i3 : (i : Int) < (rn : Nat) := by have := HRN.out; omega
     clear hrv hrow rl1 rl2 rl3 hfs hlq hq hx hxe hie hib hio
     go_upto_region 8 with fail
     go_cut [] (fun wy => ∃ bs' : List Bool, zce wy 4 W1.heap.size (.slice vb1 un vb3) (bs'.map Value.bool) ∧ bs'.length = un ∧ (∀ t, t < un → d t < r → bs'.getD t false = true) ∧ (∀ t, t < i → d t ≤ r → bs'.getD t false = true) ∧ (0 < q → bs'.getD i false = true) ∧ Below W1.heap.size W1 wy)
     case first =>
      cases x with
      | true =>
        go_wp2_with fail
        go_meet
        case rel =>
         have hs4 := HO.out.set i HIO.out (.bool true)
         refine ⟨bs.set i true, by rw [List.map_set]; exact hs4.1, by rw [List.length_set]; exact HBL.out, fun t ht hdt => ?_, fun t ht hdt => ?_, fun _ => ?_, HBR.out.trans hs4.2⟩
         ·rw [zkc HIB.out]
          split
          ·rfl
          ·exact HP1.out t ht hdt
         ·rw [zkc HIB.out]
          split
          ·rfl
          ·exact HP2.out t ht hdt
         ·rw [zkc HIB.out, if_pos rfl]
      | false =>
        go_wp2_with (first
         |(go_at_call 136; (with_reducible refine (ztf _ q _ HFS.out).mono ?_); rw [HLA.out]; rintro e7 w7 ⟨rfl, hb7⟩
           have ho3 := HO.out.below hb7
           have q1 := ho3.cell i HIO.out
           have f1 := ho3.frozen i HIO.out
           have HO3 := zH ho3
           have HB7 := zH (zaa HBR.out hb7)
           clear ho3 hb7))
        go_meet
        case rel =>
         have hs4 := HO3.out.set i HIO.out (.bool (decide (0 < q)))
         refine ⟨bs.set i (decide (0 < q)), by rw [List.map_set]; exact hs4.1, by rw [List.length_set]; exact HBL.out, fun t ht hdt => ?_, fun t ht hdt => ?_, fun h => ?_, HB7.out.trans hs4.2⟩
         ·rw [zkc HIB.out]
          split
          ·rename_i e
           subst e
           have := HP1.out t ht hdt
           rw [HXE.out] at this
           cases this
          ·exact HP1.out t ht hdt
         ·rw [zkc HIB.out, if_neg (by omega)]
          exact HP2.out t ht hdt
         ·rw [zkc HIB.out, if_pos rfl]
          exact decide_eq_true h
     case rest =>
      clear HO HP1 HP2 HBL HBR HXE HIB HIO q1 f1 g1 g2 g3 c0 c1 c2 c3 HFS HLA
      obtain ⟨bs, ho, hbl, hP, hQ, hR3, hbr⟩ := hcut
      obtain ⟨W4, hw2⟩ : ∃ w2, w2 = wc := ⟨_, rfl⟩
      subst hw2
      have HO := zH ho
      have HP1 := zH hP
      have HP2 := zH hQ
      have HP3 := zH hR3
      have HBL := zH hbl
      have HBR := zH hbr
      obtain ⟨_, c0, c1, c2, c3, _, _, _, _⟩ := HC.out.belowS hbr
      have hri := zba hbr HRV.out
      clear ho hP hQ hR3 hbl hbr
      go_wp2_with fail
      clear c0 c1 c2 c3 hri
      go_loopg [44] (un) (fun g u44 wr => ∃ (k : Nat) (bs : List Bool), k ≤ un ∧ g = un - k ∧ u44 = .int .i64 k ∧ zce wr 4 W1.heap.size (.slice vb1 un vb3) (bs.map Value.bool) ∧ bs.length = un ∧ (∀ t, t < un → d t < r → bs.getD t false = true) ∧ (∀ t, t < i → d t ≤ r → bs.getD t false = true) ∧ ((0 < q ∨ ∃ j, j < k ∧ 0 < (l.rates.getD i []).getD j 0 ∧ d j < r) → bs.getD i false = true) ∧ Below W1.heap.size W1 wr)
      case atStart => exact ⟨0, bs, by omega, rfl, rfl, HO.out, HBL.out, HP1.out, HP2.out, fun h => by rcases h with h | ⟨j, h, _⟩; exact HP3.out h; omega, HBR.out⟩
      case round =>
       clear HO HP1 HP2 HP3 HBL HBR
       obtain ⟨k, bs, hkn, hg, rfl, ho, hbl, hP, hQ, hR3, hbr⟩ := hrel
       obtain ⟨W5, hw2⟩ : ∃ w2, w2 = wr := ⟨_, rfl⟩
       subst hw2
       have HGK := zH hg
       have HO := zH ho
       have HP1 := zH hP
       have HP2 := zH hQ
       have HP3 := zH hR3
       have HBL := zH hbl
       have HBR := zH hbr
       clear hg ho hP hQ hR3 hbl hbr
       by_cases hkl : k < un
       ·have hib : i < bs.length := by rw [HBL.out]; exact hil
        have hkb : k < bs.length := by rw [HBL.out]; exact hkl
        have hio : i < (bs.map Value.bool).length := by rw [List.length_map]; exact hib
        have hko : k < (bs.map Value.bool).length := by rw [List.length_map]; exact hkb
        have hkr : k < (l.rates.getD i []).length := by rw [HRLN.out]; exact hkl
        obtain ⟨ts, as1, ls1, ks1, as2, ls2, ks2, g1, g2, g3, hfs⟩ := (HROW.out.below HBR.out).cellsAt (k := k) hkr
        have hlq : zvg ((l.rates.getD i []).getD k 0) := by
         rw [List.getD_eq_getElem?_getD, List.getElem?_eq_getElem hkr]
         exact HRL.out _ (List.getElem_mem hkr)
        obtain ⟨s, hs⟩ : ∃ s, (l.rates.getD i []).getD k 0 = s := ⟨_, rfl⟩
        rw [hs] at hlq hfs
        have HS := zH hs
        have HLA := zH hlq.above
        have hba := zca W5 (.cells #[.bool ts, .slice as1 ls1 ks1, .slice as2 ls2 ks2] 38)
        have HFS := zH (hfs.below hba)
        have HO5 := zH (HO.out.below hba)
        have HB5 := zH (zaa HBR.out hba)
        have q1 := HO5.out.cell i hio
        rw [List.getElem_map] at q1
        have hxe : bs.getD i false = bs[i]'hib := zrn hib
        obtain ⟨x, hx⟩ : ∃ x, bs[i]'hib = x := ⟨_, rfl⟩
        rw [hx] at q1 hxe
        have HXE := zH hxe
        have hye : bs.getD k false = bs[k]'hkb := zrn hkb
        obtain ⟨y, hy⟩ : ∃ y, bs[k]'hkb = y := ⟨_, rfl⟩
        rw [hy] at hye
        have HYE := zH hye
        have HYM : Hid ((bs.map Value.bool)[k]'hko = .bool y) := zH (by rw [List.getElem_map, hy])
        have f1 := HO5.out.frozen i hio
        obtain ⟨_, p0, p1, p2, _, _, _⟩ := C3.new W5 38 (.bool ts) (.slice as1 ls1 ks1) (.slice as2 ls2 ks2)
        have HIB := zH hib
        have HIO := zH hio
        have HKO := zH hko
        have j1 : (0 : Int) ≤ (k : Int) := by omega
        have j2 : (k : Int) < (un : Nat) := by omega
        clear hfs hlq hs hba hx hxe hy hye hib hio hkr
        cases x with
        | true =>
          go_wp2_with fail
          go_roundg (un - (k + 1))
          case measure => (have := HGK.out; omega)
          case rel =>
           have hs4 := HO5.out.set i HIO.out (.bool true)
           refine ⟨k + 1, bs.set i true, by omega, rfl, by go_num, by rw [List.map_set]; exact hs4.1, by rw [List.length_set]; exact HBL.out, fun t ht hdt => ?_, fun t ht hdt => ?_, fun _ => ?_, HB5.out.trans hs4.2⟩
           ·rw [zkc HIB.out]
            split
            ·rfl
            ·exact HP1.out t ht hdt
           ·rw [zkc HIB.out]
            split
            ·rfl
            ·exact HP2.out t ht hdt
           ·rw [zkc HIB.out, if_pos rfl]
        | false =>
          have HNO : Hid (¬ (0 < q ∨ ∃ j, j < k ∧ 0 < (l.rates.getD i []).getD j 0 ∧ d j < r)) := zH (fun h => by have := HP3.out h; rw [HXE.out] at this; cases this)
          by_cases hs0 : 0 < s
          ·have HDS : Hid (decide (0 < s) = true) := zH (decide_eq_true hs0)
           go_wp2_with (first
            |(go_at_call 136; (with_reducible refine (ztf _ s _ HFS.out).mono ?_); rw [HLA.out, HDS.out]; rintro e7 w7 ⟨rfl, hb7⟩
              have ho3 := HO5.out.below hb7
              have q1 := ho3.cell i HIO.out
              have q2 := ho3.cell k HKO.out
              rw [HYM.out] at q2
              have f1 := ho3.frozen i HIO.out
              have HO3 := zH ho3
              have HB7 := zH (zaa HB5.out hb7)
              clear ho3 hb7))
           go_roundg (un - (k + 1))
           case measure => (have := HGK.out; omega)
           case rel =>
            have hs4 := HO3.out.set i HIO.out (.bool y)
            refine ⟨k + 1, bs.set i y, by omega, rfl, by go_num, by rw [List.map_set]; exact hs4.1, by rw [List.length_set]; exact HBL.out, fun t ht hdt => ?_, fun t ht hdt => ?_, fun h => ?_, HB7.out.trans hs4.2⟩
            ·rw [zkc HIB.out]
             split
             ·rename_i e
              subst e
              have := HP1.out t ht hdt
              rw [HXE.out] at this
              cases this
             ·exact HP1.out t ht hdt
            ·rw [zkc HIB.out, if_neg (by omega)]
             exact HP2.out t ht hdt
            ·rw [zkc HIB.out, if_pos rfl]
             rcases h with h | ⟨j, hj, h1, h2⟩
             ·exact absurd (Or.inl h) HNO.out
             ·by_cases e : j = k
              ·subst e
               rw [← HYE.out]
               exact HP1.out j (by omega) h2
              ·exact absurd (Or.inr ⟨j, by omega, h1, h2⟩) HNO.out
          ·have HDS : Hid (decide (0 < s) = false) := zH (decide_eq_false hs0)
           go_wp2_with (first
            |(go_at_call 136; (with_reducible refine (ztf _ s _ HFS.out).mono ?_); rw [HLA.out, HDS.out]; rintro e7 w7 ⟨rfl, hb7⟩
              have ho3 := HO5.out.below hb7
              have q1 := ho3.cell i HIO.out
              have f1 := ho3.frozen i HIO.out
              have HO3 := zH ho3
              have HB7 := zH (zaa HB5.out hb7)
              clear ho3 hb7))
           go_roundg (un - (k + 1))
           case measure => (have := HGK.out; omega)
           case rel =>
            have hs4 := HO3.out.set i HIO.out (.bool false)
            refine ⟨k + 1, bs.set i false, by omega, rfl, by go_num, by rw [List.map_set]; exact hs4.1, by rw [List.length_set]; exact HBL.out, fun t ht hdt => ?_, fun t ht hdt => ?_, fun h => ?_, HB7.out.trans hs4.2⟩
            ·rw [zkc HIB.out]
             split
             ·rename_i e
              subst e
              have := HP1.out t ht hdt
              rw [HXE.out] at this
              cases this
             ·exact HP1.out t ht hdt
            ·rw [zkc HIB.out, if_neg (by omega)]
             exact HP2.out t ht hdt
            ·exfalso
             rcases h with h | ⟨j, hj, h1, h2⟩
             ·exact HNO.out (Or.inl h)
             ·by_cases e : j = k
              ·subst e
               rw [HS.out] at h1
               exact hs0 h1
              ·exact HNO.out (Or.inr ⟨j, by omega, h1, h2⟩)
       ·obtain rfl : k = un := by omega
        have HEND : Hid (d i ≤ r → bs.getD i false = true) := zH (fun hdi => by
         have h1 := HD.out i (by rw [HN.out]; exact hil)
         rcases h1.2 with h2 | ⟨j, h2, h3, h4⟩
         ·exact HP3.out (Or.inl (by rw [← HQ.out]; exact h2))
         ·exact HP3.out (Or.inr ⟨j, by rw [← HN.out]; exact h2, h3, by omega⟩))
        go_wp2_with fail
        go_roundg (k - (i + 1))
        case measure => (have := HGI.out; omega)
        case rel =>
         refine ⟨i + 1, bs, by omega, rfl, by go_num, HO.out, HBL.out, HP1.out, fun t ht hdt => ?_, HBR.out⟩
         by_cases e : t = i
         ·subst e; exact HEND.out hdt
         ·exact HP2.out t (by omega) hdt
    ·obtain rfl : i = vb2 := by omega
     go_wp2_with fail
     go_roundg (i + 1 - (r + 1))
     case measure => (have := HG.out; omega)
     case rel => exact ⟨r + 1, bs, by omega, rfl, by go_num, HO.out, HBL.out, fun t ht hdt => HP2.out t ht (by omega), HBR.out⟩
  ·have HDN : Hid (∀ t, t < vb2 → d t ≤ vb2) := zH (fun t ht => by have := (HD.out t (by rw [HN.out]; exact ht)).1; rwa [HN.out] at this)
   have hb0 : zcm W2 (.slice vb1 vb2 vb3) bs := ⟨HO.out.sl, HO.out.len, fun j hj => HO.out.cell j hj⟩
   have HB0 := zH hb0
   go_wp2_with (first
    |(go_at_call 188; (with_reducible refine (fallB_ok _ bs _ HB0.out (fun t ht => HP1.out t (by rw [← HBL.out]; exact ht) (by have := HDN.out t (by rw [← HBL.out]; exact ht); omega)) (by rw [HBL.out]; omega)).mono ?_); rintro e9 w9 ⟨rfl, hb9⟩))
   go_ret
   exact ⟨rfl, HBW.out.trans ((zaa HBR.out hb9).mono HBW.out.size)⟩
end Go.Proofs.YtlpdkbmmbdfoiaaGreat
