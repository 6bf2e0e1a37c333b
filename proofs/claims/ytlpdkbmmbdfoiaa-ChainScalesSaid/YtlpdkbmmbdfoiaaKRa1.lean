/-
  package drydockref01: Trim, Make, large, Cmp.
-/
import Derived.Test.YtlpdkbmmbdfoiaaKCh1
import Derived.Test.YtlpdkbmmbdfoiaaKRm
import Derived.Test.YtlpdkbmmbdfoiaaKGn
import Derived.Test.YtlpdkbmmbdfoiaaKNa4
set_option linter.unusedVariables false
set_option linter.unusedSimpArgs false
namespace Go.Proofs.Ytlpdkbmmbdfoiaa
open Go.RowKit
set_option maxRecDepth 100000 in
set_option maxHeartbeats 3200000 in
theorem zhd (va : Value) (m : List (List RF)) (w : World) (ha : MatN w va m) (hok : ∀ l ∈ m, ∀ x ∈ l, x.ok) (hl : ∀ l ∈ m, l.length ≤ 65536) (hm : m.length ≤ 65536) :
 Calls Try.prog 75 #[va] w fun e w' => e = .returned (.int .i64 (zfi m)) ∧ Below w.heap.size w w' := by
 have sa := ha.sl
 have la := ha.len
 have HOK := zH hok
 have HL := zH hl
 clear hok hl
 go_enter Try.func75, Try.ntmps75
 go_wp2_with fail
 go_loopw [3, 13] (fun u3 u13 wr => ∃ (k : Nat), k ≤ m.length ∧ u13 = .int .i64 k ∧ u3 = .int .i64 (zfi (m.take k)) ∧ Below w.heap.size w wr) (fun _ u13 _ => m.length - (intOf u13).toNat)
 case atStart => exact ⟨0, Nat.zero_le _, rfl, rfl, Below.refl _ _⟩
 case round =>
  obtain ⟨k, hk, rfl, rfl, hb⟩ := hrel
  by_cases hkm : k < m.length
  ·obtain ⟨rv, hrc, hrv⟩ := (ha.below hb).at' k hkm
   have hW : zfi (m.take k) ≤ 536870912 * 65536 := by
    have h1 := wtsM_le (m.take k) (fun l h => HOK.out l (List.mem_of_mem_take h)) (fun l h => HL.out l (List.mem_of_mem_take h))
    rw [List.length_take] at h1; omega
   have hlk := HL.out m[k] (List.getElem_mem hkm)
   have HOKL := zH (HOK.out m[k] (List.getElem_mem hkm))
   have HTM := zH (wtsM_take m k hkm)
   generalize m[k]'hkm = l at *
   generalize zfi (m.take k) = W0 at *
   have srv := hrv.sl
   have lrv := hrv.len
   obtain ⟨wo, rfl⟩ : ∃ wo : World, wo = wr := ⟨_, rfl⟩
   go_wp2_with fail
   go_loopw [3, 19] (fun u3 u19 wi => ∃ (j : Nat), j ≤ l.length ∧ u19 = .int .i64 j ∧ u3 = .int .i64 ((W0 + wts (qs (l.take j)) : Nat) : Int) ∧ Below wo.heap.size wo wi) (fun _ u19 _ => l.length - (intOf u19).toNat)
   case atStart => exact ⟨0, Nat.zero_le _, rfl, by simp [qs, wts], Below.refl _ _⟩
   case round =>
    obtain ⟨j, hj, rfl, rfl, hbi⟩ := hrel
    by_cases hjl : j < l.length
    ·obtain ⟨xa, xb, c1, c2, c3, hxa, hxb⟩ := (hrv.below hbi).at' j hjl
     obtain ⟨c1a, c1l, c1k, rfl, _⟩ := hxa.slen.1
     obtain ⟨c2a, c2l, c2k, rfl, _⟩ := hxb.slen.1
     have HX := zH (HOKL.out l[j] (List.getElem_mem hjl))
     have HTS := zH (wts_qs l j hjl)
     have hWj : wts (qs (l.take j)) ≤ 8192 * 65536 := by
      have h1 := wts_le (l.take j) (fun x h => HOKL.out x (List.mem_of_mem_take h))
      rw [List.length_take] at h1; omega
     generalize l[j]'hjl = x at *
     generalize wts (qs (l.take j)) = W1 at *
     have hA : FracN (wr.alloc (.cells #[.bool x.neg, .slice c1a c1l c1k, .slice c2a c2l c2k] 32)) (.agg #[.bool x.neg, .slice c1a c1l c1k, .slice c2a c2l c2k]) x.neg x.n x.d := ⟨_, _, rfl, hxa.below (below_alloc _ _), hxb.below (below_alloc _ _)⟩
     have hb1 := below_then hbi (below_alloc wr (.cells #[.bool x.neg, .slice c1a c1l c1k, .slice c2a c2l c2k] 32))
     obtain ⟨hf1, hf2⟩ := RF.fits HX.out
     have hn0 := zkb (n := x.q.num.natAbs)
     have hd1 := zyc (n := x.q.den)
     have hd0 := x.q.den_nz
     obtain ⟨bn, hbn⟩ : ∃ bn, zka x.q.num.natAbs = bn := ⟨_, rfl⟩
     obtain ⟨bd, hbd⟩ : ∃ bd, zka x.q.den = bd := ⟨_, rfl⟩
     rw [hbn] at hf1 hn0
     rw [hbd] at hf2 hd1
     have HBN := zH hbn
     have HBD := zH hbd
     clear hbn hbd hxa hxb
     by_cases hz : x.q.num = 0
     ·have hbz : bn = 0 := by have := hn0.1; omega
      have HW := zH (wt_zero hz)
      subst hbz
      clear hz hn0 hd1 hd0
      go_wp2_with (first
       |(go_at_call 88; (with_reducible refine (zqb _ x _ hA HX.out).mono ?_); rintro e w7 ⟨v, rfl, hv, hb7⟩
         obtain ⟨xa2, xb2, rfl, hxa2, hxb2⟩ := hv
         obtain ⟨y1, y2, y3, rfl, _⟩ := hxa2.v.sl
         obtain ⟨y4, y5, y6, rfl, _⟩ := hxb2.v.sl
         have hxa3 := (hxa2.below (below_alloc w7 (.cells #[.bool (decide (x.q < 0)), .slice y1 y2 y3, .slice y4 y5 y6] 32))).nat
         have hxb3 := (hxb2.below (below_alloc w7 (.cells #[.bool (decide (x.q < 0)), .slice y1 y2 y3, .slice y4 y5 y6] 32))).nat
         have hb8 := below_then (below_then hb1 hb7) (below_alloc w7 (.cells #[.bool (decide (x.q < 0)), .slice y1 y2 y3, .slice y4 y5 y6] 32)))
       |(go_at_call 91; first
         |((with_reducible refine (zja _ _ _ hxa3).mono ?_); rintro e w' ⟨rfl, rfl⟩; rw [HBN.out])
         |((with_reducible refine (zja _ _ _ hxb3).mono ?_); rintro e w' ⟨rfl, rfl⟩; rw [HBD.out])))
      go_roundw
      case rel => exact ⟨j + 1, hjl, by go_num, by rw [HTS.out, HW.out]; go_num, hb8⟩
      case measure => simp [intOf]; omega
     ·have hbz : 0 < bn := hn0.2 (by omega)
      have hbz2 : (((bn : Nat) : Int) == 0) = false := by simp; omega
      by_cases hd : x.q.den = 1
      ·have HW := zH (wt_int hz hd)
       have hbd1 : ¬ 1 < bd := fun h => by have := hd1.1 h; omega
       clear hz hn0 hd1 hd0 hd
       go_wp2_with (first
        |(go_at_call 88; (with_reducible refine (zqb _ x _ hA HX.out).mono ?_); rintro e w7 ⟨v, rfl, hv, hb7⟩
          obtain ⟨xa2, xb2, rfl, hxa2, hxb2⟩ := hv
          obtain ⟨y1, y2, y3, rfl, _⟩ := hxa2.v.sl
          obtain ⟨y4, y5, y6, rfl, _⟩ := hxb2.v.sl
          have hxa3 := (hxa2.below (below_alloc w7 (.cells #[.bool (decide (x.q < 0)), .slice y1 y2 y3, .slice y4 y5 y6] 32))).nat
          have hxb3 := (hxb2.below (below_alloc w7 (.cells #[.bool (decide (x.q < 0)), .slice y1 y2 y3, .slice y4 y5 y6] 32))).nat
          have hb8 := below_then (below_then hb1 hb7) (below_alloc w7 (.cells #[.bool (decide (x.q < 0)), .slice y1 y2 y3, .slice y4 y5 y6] 32)))
        |(go_at_call 91; first
          |((with_reducible refine (zja _ _ _ hxa3).mono ?_); rintro e w' ⟨rfl, rfl⟩; rw [HBN.out])
          |((with_reducible refine (zja _ _ _ hxb3).mono ?_); rintro e w' ⟨rfl, rfl⟩; rw [HBD.out])))
       go_roundw
       case rel => exact ⟨j + 1, hjl, by go_num, by rw [HTS.out, HW.out, HBN.out]; go_num, hb8⟩
       case measure => simp [intOf]; omega
      ·have HW := zH (wt_frac hz hd)
       have hbd1 : 1 < bd := hd1.2 (by omega)
       clear hz hn0 hd1 hd0 hd
       go_wp2_with (first
        |(go_at_call 88; (with_reducible refine (zqb _ x _ hA HX.out).mono ?_); rintro e w7 ⟨v, rfl, hv, hb7⟩
          obtain ⟨xa2, xb2, rfl, hxa2, hxb2⟩ := hv
          obtain ⟨y1, y2, y3, rfl, _⟩ := hxa2.v.sl
          obtain ⟨y4, y5, y6, rfl, _⟩ := hxb2.v.sl
          have hxa3 := (hxa2.below (below_alloc w7 (.cells #[.bool (decide (x.q < 0)), .slice y1 y2 y3, .slice y4 y5 y6] 32))).nat
          have hxb3 := (hxb2.below (below_alloc w7 (.cells #[.bool (decide (x.q < 0)), .slice y1 y2 y3, .slice y4 y5 y6] 32))).nat
          have hb8 := below_then (below_then hb1 hb7) (below_alloc w7 (.cells #[.bool (decide (x.q < 0)), .slice y1 y2 y3, .slice y4 y5 y6] 32)))
        |(go_at_call 91; first
          |((with_reducible refine (zja _ _ _ hxa3).mono ?_); rintro e w' ⟨rfl, rfl⟩; rw [HBN.out])
          |((with_reducible refine (zja _ _ _ hxb3).mono ?_); rintro e w' ⟨rfl, rfl⟩; rw [HBD.out])))
       go_roundw
       case rel => exact ⟨j + 1, hjl, by go_num, by rw [HTS.out, HW.out, HBN.out, HBD.out]; go_num, hb8⟩
       case measure => simp [intOf]; omega
    ·obtain rfl : j = l.length := by omega
     rw [List.take_length]
     go_wp2_with fail
     go_roundw
     case rel => exact ⟨k + 1, hkm, by go_num, by rw [HTM.out], hb.trans (hbi.mono hb.size)⟩
     case measure => simp [intOf]; omega
  ·obtain rfl : k = m.length := by omega
   rw [List.take_length]
   go_wp2_with fail
   go_ret
   exact ⟨rfl, hb⟩
def zcl (x : RF) : Prop := x.ok ∧ ¬ x.q < 0 ∧ zaa x.q.num.natAbs ≤ 4 ∧ zaa x.q.den ≤ 4
instance (x : RF) : Decidable (zcl x) := inferInstanceAs (Decidable (_ ∧ _ ∧ _ ∧ _))
def zii (l : List RF) (n : Nat) : Prop := (∀ x ∈ l, zcl x) ∧ l.length = n ∧ wts (qs l) ≤ 3800
instance (l : List RF) (n : Nat) : Decidable (zii l n) := inferInstanceAs (Decidable (_ ∧ _ ∧ _))
set_option maxRecDepth 100000 in
set_option maxHeartbeats 3200000 in
theorem zjh (va : Value) (l : List RF) (n : Nat) (w : World) (ha : zgc w va l) (hn : n ≤ 65536) :
 Calls Try.prog 73 #[va, .int .i64 n] w fun e w' => e = .returned (.bool (decide (zii l n))) ∧ Below w.heap.size w w' := by
 have sa := ha.sl
 have la := ha.len
 have hle := sa.le
 rw [la] at hle
 have hlb : l.length ≤ 9223372036854775807 := by omega
 clear hle
 go_enter Try.func73, Try.ntmps73
 go_wp2_with fail
 go_loopw [11] (fun u11 wr => ∃ (k : Nat), k ≤ l.length ∧ u11 = .int .i64 k ∧ (∀ x ∈ l.take k, zcl x) ∧ Below w.heap.size w wr) (fun u11 _ => l.length - (intOf u11).toNat)
 case atStart => exact ⟨0, Nat.zero_le _, rfl, by simp, Below.refl _ _⟩
 case round =>
  obtain ⟨k, hk, rfl, hpl, hb⟩ := hrel
  have HPL := zH hpl
  clear hpl
  by_cases hkl : k < l.length
  ·obtain ⟨xa, xb, c1, c2, c3, hxa, hxb⟩ := (ha.below hb).at' k hkl
   obtain ⟨c1a, c1l, c1k, rfl, _⟩ := hxa.slen.1
   obtain ⟨c2a, c2l, c2k, rfl, _⟩ := hxb.slen.1
   have HBADx : Hid (¬ zcl l[k] → ¬ zii l n) := zH (fun h h' => h (h'.1 _ (List.getElem_mem hkl)))
   have HNEXT : Hid (zcl l[k] → ∀ x ∈ l.take (k + 1), zcl x) := zH (fun h x hx => by
    rw [zjb l k hkl, List.mem_append, List.mem_singleton] at hx
    rcases hx with hx | rfl
    ·exact HPL.out x hx
    ·exact h)
   generalize l[k]'hkl = x at *
   have hA : FracN (wr.alloc (.cells #[.bool x.neg, .slice c1a c1l c1k, .slice c2a c2l c2k] 32)) (.agg #[.bool x.neg, .slice c1a c1l c1k, .slice c2a c2l c2k]) x.neg x.n x.d := ⟨_, _, rfl, hxa.below (below_alloc _ _), hxb.below (below_alloc _ _)⟩
   have hb1 := below_then hb (below_alloc wr (.cells #[.bool x.neg, .slice c1a c1l c1k, .slice c2a c2l c2k] 32))
   clear hxa hxb
   by_cases hx : x.ok
   ·have HX := zH hx
    clear hx
    by_cases h1 : x.q < 0
    ·have HBAD := zH (HBADx.out (fun h => h.2.1 h1))
     have hd1 : decide (x.q < 0) = true := decide_eq_true h1
     clear h1
     go_wp2_with (go_at_call 88; (with_reducible refine (zqb _ x _ hA HX.out).mono ?_); rintro e w7 ⟨v, rfl, hv, hb7⟩
                  obtain ⟨xa2, xb2, rfl, hxa2, hxb2⟩ := hv
                  have z1 : slen xa2 = zaa x.q.num.natAbs := hxa2.v.len
                  have z2 : slen xb2 = zaa x.q.den := hxb2.v.len
                  obtain ⟨y1, y2, y3, rfl, _⟩ := hxa2.v.sl
                  obtain ⟨y4, y5, y6, rfl, _⟩ := hxb2.v.sl
                  have z3 : y2 = zaa x.q.num.natAbs := z1
                  have z4 : y5 = zaa x.q.den := z2
                  subst z3 z4
                  clear z1 z2
                  have hb8 := fun o => below_then (below_then hb1 hb7) (below_alloc w7 o))
     go_ret
     exact ⟨by rw [decide_eq_false HBAD.out]; rfl, hb8 _⟩
    ·have hd1 : decide (x.q < 0) = false := decide_eq_false h1
     have H1 := zH h1
     clear h1
     by_cases h2 : 4 < zaa x.q.num.natAbs
     ·have HBAD := zH (HBADx.out (fun h => by have := h.2.2.1; omega))
      go_wp2_with (go_at_call 88; (with_reducible refine (zqb _ x _ hA HX.out).mono ?_); rintro e w7 ⟨v, rfl, hv, hb7⟩
                   obtain ⟨xa2, xb2, rfl, hxa2, hxb2⟩ := hv
                   have z1 : slen xa2 = zaa x.q.num.natAbs := hxa2.v.len
                   have z2 : slen xb2 = zaa x.q.den := hxb2.v.len
                   obtain ⟨y1, y2, y3, rfl, _⟩ := hxa2.v.sl
                   obtain ⟨y4, y5, y6, rfl, _⟩ := hxb2.v.sl
                   have z3 : y2 = zaa x.q.num.natAbs := z1
                   have z4 : y5 = zaa x.q.den := z2
                   subst z3 z4
                   clear z1 z2
                   have hb8 := fun o => below_then (below_then hb1 hb7) (below_alloc w7 o))
      go_ret
      exact ⟨by rw [decide_eq_false HBAD.out]; rfl, hb8 _⟩
     ·by_cases h3 : 4 < zaa x.q.den
      ·have HBAD := zH (HBADx.out (fun h => by have := h.2.2.2; omega))
       go_wp2_with (go_at_call 88; (with_reducible refine (zqb _ x _ hA HX.out).mono ?_); rintro e w7 ⟨v, rfl, hv, hb7⟩
                    obtain ⟨xa2, xb2, rfl, hxa2, hxb2⟩ := hv
                    have z1 : slen xa2 = zaa x.q.num.natAbs := hxa2.v.len
                    have z2 : slen xb2 = zaa x.q.den := hxb2.v.len
                    obtain ⟨y1, y2, y3, rfl, _⟩ := hxa2.v.sl
                    obtain ⟨y4, y5, y6, rfl, _⟩ := hxb2.v.sl
                    have z3 : y2 = zaa x.q.num.natAbs := z1
                    have z4 : y5 = zaa x.q.den := z2
                    subst z3 z4
                    clear z1 z2
                    have hb8 := fun o => below_then (below_then hb1 hb7) (below_alloc w7 o))
       go_ret
       exact ⟨by rw [decide_eq_false HBAD.out]; rfl, hb8 _⟩
      ·have HGOOD := zH (HNEXT.out ⟨HX.out, H1.out, by omega, by omega⟩)
       go_wp2_with (go_at_call 88; (with_reducible refine (zqb _ x _ hA HX.out).mono ?_); rintro e w7 ⟨v, rfl, hv, hb7⟩
                    obtain ⟨xa2, xb2, rfl, hxa2, hxb2⟩ := hv
                    have z1 : slen xa2 = zaa x.q.num.natAbs := hxa2.v.len
                    have z2 : slen xb2 = zaa x.q.den := hxb2.v.len
                    obtain ⟨y1, y2, y3, rfl, _⟩ := hxa2.v.sl
                    obtain ⟨y4, y5, y6, rfl, _⟩ := hxb2.v.sl
                    have z3 : y2 = zaa x.q.num.natAbs := z1
                    have z4 : y5 = zaa x.q.den := z2
                    subst z3 z4
                    clear z1 z2
                    have hb8 := fun o => below_then (below_then hb1 hb7) (below_alloc w7 o))
       go_roundw
       case rel => exact ⟨k + 1, hkl, by go_num, HGOOD.out, hb8 _⟩
       case measure => simp [intOf]; omega
   ·have HX := zH hx
    have HBAD := zH (HBADx.out (fun h => hx h.1))
    clear hx
    go_wp2_with (go_at_call 88; (with_reducible refine (zzk _ x.neg x.n x.d _ hA).mono ?_); rintro e w7 ⟨v, er, rfl, hb7, _, hv⟩
                 obtain ⟨rfl, hvz⟩ := hv HX.out
                 have hvz2 : v = .agg #[.bool false, .slice none 0 0, .slice none 0 0] := hvz
                 clear hvz
                 subst hvz2
                 have hb8 := fun o => below_then (below_then hb1 hb7) (below_alloc w7 o))
    go_ret
    exact ⟨by rw [decide_eq_false HBAD.out]; rfl, hb8 _⟩
  ·obtain rfl : k = l.length := by omega
   have hpl := HPL.out
   rw [List.take_length] at hpl
   by_cases hln : l.length = n
   ·have hlb2 : l.length ≤ 65536 := by omega
    obtain ⟨av, al, ak, rfl, _⟩ := ha.sl
    have e9 : al = l.length := la
    subst e9
    have HD : Hid (decide (zii l n) = decide (((wts (qs l) : Nat) : Int) ≤ 3800)) := zH (by
     by_cases h : wts (qs l) ≤ 3800
     ·rw [decide_eq_true (show zii l n from ⟨hpl, hln, h⟩), decide_eq_true (by omega)]
     ·rw [decide_eq_false (fun h' : zii l n => h h'.2.2), decide_eq_false (by omega)])
    have HOK : Hid (∀ l' ∈ [l], ∀ x ∈ l', x.ok) := zH (fun l' h x hx => by simp at h; subst h; exact (hpl x hx).1)
    have HLL : Hid (∀ l' ∈ [l], l'.length ≤ 65536) := zH (fun l' h => by simp at h; subst h; exact hlb2)
    have HM : Hid (MatN (wr.alloc (.cells #[.slice av l.length ak] 23)) (.slice (some ⟨wr.heap.size, 0, none⟩) 1 1) [l]) := zH ⟨⟨_, 1, 1, rfl, Nat.le_refl _, by simp [maxLen], fun e => by cases e⟩, rfl, fun j hj => by
     have hj0 : j = 0 := by simp at hj; omega
     subst hj0
     exact ⟨_, by simp [ptr, base, Addr.add], (ha.below hb).below (below_alloc _ _)⟩⟩
    have hb2 := below_then hb (below_alloc wr (.cells #[.slice av l.length ak] 23))
    have hlnb : (((l.length : Nat) : Int) == (n : Nat)) = true := by simp [hln]
    have HW1 := zH (zee l)
    have HLEN : Hid ([l].length ≤ 65536) := zH (by simp)
    clear hpl hln
    go_wp2_with (go_at_call 75; (with_reducible refine (zhd _ [l] _ HM.out HOK.out HLL.out HLEN.out).mono ?_); rintro e w3 ⟨rfl, hb3⟩; rw [HW1.out])
    go_ret
    exact ⟨by rw [HD.out]; rfl, below_then hb2 hb3⟩
   ·have HBAD : Hid (¬ zii l n) := zH (fun h => hln h.2.1)
    have hlnb : (((l.length : Nat) : Int) == (n : Nat)) = false := by simp; omega
    clear hln hpl
    go_wp2_with fail
    go_ret
    exact ⟨by rw [decide_eq_false HBAD.out]; rfl, hb⟩
theorem keep6 {w : World} {a1 a2 a3 a4 a5 a6 : Addr} {x1 x2 x3 x4 x5 x6 : Value} (h : w.cell? a1 = some x1 ∧ w.cell? a2 = some x2 ∧ w.cell? a3 = some x3 ∧ w.cell? a4 = some x4 ∧ w.cell? a5 = some x5 ∧ w.cell? a6 = some x6) {p : Addr}
 (h1 : p.block ≠ a1.block) (h2 : p.block ≠ a2.block) (h3 : p.block ≠ a3.block) (h4 : p.block ≠ a4.block) (h5 : p.block ≠ a5.block) (h6 : p.block ≠ a6.block) (u : Value) :
 (w.setCell p u).cell? a1 = some x1 ∧ (w.setCell p u).cell? a2 = some x2 ∧ (w.setCell p u).cell? a3 = some x3 ∧ (w.setCell p u).cell? a4 = some x4 ∧ (w.setCell p u).cell? a5 = some x5 ∧ (w.setCell p u).cell? a6 = some x6 := by
 have key : ∀ a x, w.cell? a = some x → p.block ≠ a.block → (w.setCell p u).cell? a = some x := fun a x ha hp => by
  rw [World.cell?_setCell_other _ _ _ _ (fun e => hp (by rw [e]))]; exact ha
 obtain ⟨k1, k2, k3, k4, k5, k6⟩ := h
 exact ⟨key _ _ k1 h1, key _ _ k2 h2, key _ _ k3 h3, key _ _ k4 h4, key _ _ k5 h5, key _ _ k6 h6⟩
theorem cmpR_self_iff (p q : Rat) : cmpR p q = 0 ↔ p = q := by
 unfold cmpR
 constructor
 ·intro h
  split at h
  ·omega
  ·split at h
   ·omega
   ·next h1 h2 => exact Rat.le_antisymm (Rat.not_lt.1 h2) (Rat.not_lt.1 h1)
 ·rintro rfl
  rw [if_neg (Rat.lt_irrefl), if_neg (Rat.lt_irrefl)]
def zqf (c : RC) (i : Nat) (r : List RF) : Prop := zii r c.start.length ∧ (∀ x, r[i]? = some x → x.q.num = 0) ∧ (c.lost[i]? = some true → wts (qs r) = 0)
def zla (c : RC) : Prop := 1 ≤ c.start.length ∧ c.start.length ≤ 128 ∧ c.lost.length = c.start.length ∧ c.rates.length = c.start.length ∧ zii c.start c.start.length ∧
 (∀ i r, c.rates[i]? = some r → zqf c i r) ∧ zsb (qs c.start) = 1
theorem zii.fits {l : List RF} {n : Nat} (h : zii l n) (k : Nat) : fits (zsb (qs (l.take k))) := by
 have h1 : ∀ q ∈ qs l, 0 ≤ q := fun q hq => by
  obtain ⟨x, hx, rfl⟩ := List.mem_map.1 hq
  exact Rat.not_lt.1 (h.1 x hx).2.1
 rw [← qs_take]
 exact lsum_fits (List.take_sublist k _) h1 h.2.2
theorem zii.ok {l : List RF} {n : Nat} (h : zii l n) : ∀ x ∈ l, x.ok := fun x hx => (h.1 x hx).1
theorem cmp_can (va vb : Value) (p q : Rat) (w : World) (ha : FracC w va p) (hb : FracC w vb q) (hp : fits p) (hq : fits q) :
 Calls Try.prog 57 #[va, vb] w fun en w' => en = .returned (.tuple #[.int .i64 (cmpR p q), .int .i64 0]) ∧ Below w.heap.size w w' := by
 have h := cmp_frac va vb _ _ _ _ _ _ w ha.raw hb.raw (zab hp) (zab hq)
 rw [fq_self, fq_self] at h
 exact h
set_option maxHeartbeats 1600000 in
theorem valid_false1 (va : Value) (c : RC) (w : World) (ha : ChainN w va c) (h : c.start.length < 1 ∨ 128 < c.start.length ∨ c.lost.length ≠ c.start.length ∨ c.rates.length ≠ c.start.length ∨ ¬ zii c.start c.start.length) :
 Calls Try.prog 39 #[va] w fun e w' => e = .returned (.bool false) ∧ Below w.heap.size w w' := by
 obtain ⟨rv, sv, lv, rfl, hr, hs, hl⟩ := ha
 obtain ⟨ra, rn, rk, rfl, r1, r2, r3⟩ := hr.sl
 obtain ⟨sa, sn, sk, rfl, s1, s2, s3⟩ := hs.sl
 obtain ⟨la, ln, lk, rfl, l1, l2, l3⟩ := CellsV.sl hl
 have hrl : rn = c.rates.length := hr.len
 have hsl : sn = c.start.length := hs.len
 have hll : ln = c.lost.length := hl.len
 subst hrl hsl hll
 unfold maxLen at r2 s2 l2
 have hbx := below_alloc w (.cells #[.slice ra c.rates.length rk, .slice sa c.start.length sk, .slice la c.lost.length lk] 45)
 have hs' := hs.below hbx
 generalize c.start.length = n at *
 generalize c.lost.length = nl at *
 generalize c.rates.length = nr at *
 by_cases h1 : n < 1
 ·go_enter Try.func39, Try.ntmps39
  go_wp2_with fail
  go_ret
  exact ⟨rfl, hbx⟩
 ·by_cases h2 : 128 < n
  ·go_enter Try.func39, Try.ntmps39
   go_wp2_with fail
   go_ret
   exact ⟨rfl, hbx⟩
  ·by_cases h3 : nl = n
   ·by_cases h4 : nr = n
    ·have h5 : ¬ zii c.start n := by
      rcases h with h | h | h | h | h
      ·omega
      ·omega
      ·omega
      ·omega
      ·exact h
     have H5 := zH h5
     subst h3 h4
     clear h h5
     go_enter Try.func39, Try.ntmps39
     go_wp2_with (go_at_call 73; (with_reducible refine (zjh _ c.start nr _ hs' (by omega)).mono ?_); rintro e w1 ⟨rfl, hb1⟩; rw [decide_eq_false H5.out])
     go_ret
     exact ⟨rfl, below_then hbx hb1⟩
    ·have h4b : (((nr : Nat) : Int) != (n : Nat)) = true := by simp; omega
     subst h3
     clear h
     go_enter Try.func39, Try.ntmps39
     go_wp2_with fail
     go_ret
     exact ⟨rfl, hbx⟩
   ·have h3b : (((nl : Nat) : Int) != (n : Nat)) = true := by simp; omega
    clear h
    go_enter Try.func39, Try.ntmps39
    go_wp2_with fail
    go_ret
    exact ⟨rfl, hbx⟩
@[go_sem] theorem slen_slice (a : Option Addr) (n c : Nat) : slen (.slice a n c) = n := rfl
theorem RF.num_zero {x : RF} (h : x.ok) : x.q.num = 0 ↔ x.n = 0 := by
 have e : x.q.num.natAbs = x.n / Nat.gcd x.n x.d := zad _ _ _ h.1
 constructor
 ·intro h0
  have h1 : x.n / Nat.gcd x.n x.d = 0 := by rw [← e, h0]; rfl
  rcases Nat.eq_zero_or_pos x.n with h2 | h2
  ·exact h2
  ·have := Nat.div_pos (Nat.le_of_dvd h2 (Nat.gcd_dvd_left x.n x.d)) (Nat.gcd_pos_of_pos_left _ h2)
   omega
 ·intro h0
  rw [h0, Nat.zero_div] at e
  omega
theorem RF.above_pos {x : RF} (h : x.ok) (h0 : ¬ x.q < 0) (hn : x.q.num ≠ 0) : (!x.neg && !decide (x.n = 0)) = true := by
 have hn2 : x.n ≠ 0 := fun e => hn ((RF.num_zero h).2 e)
 have e : decide (x.q < 0) = (x.neg && decide (0 < x.n / Nat.gcd x.n x.d)) := fq_neg _ _ _ h.1
 have h1 : 0 < x.n / Nat.gcd x.n x.d := Nat.div_pos (Nat.le_of_dvd (Nat.pos_of_ne_zero hn2) (Nat.gcd_dvd_left _ _)) (Nat.gcd_pos_of_pos_left _ (Nat.pos_of_ne_zero hn2))
 rw [decide_eq_false h0, decide_eq_true h1, Bool.and_true] at e
 rw [← e, decide_eq_false hn2]; rfl
theorem RF.above_zero {x : RF} (h : x.ok) (hn : x.q.num = 0) : (!x.neg && !decide (x.n = 0)) = false := by
 rw [decide_eq_true ((RF.num_zero h).1 hn)]; simp
def zci (w0 : World) (c : RC) (e : Ending) (w : World) : Prop := (∃ b, e = .returned (.bool b) ∧ (b = true ↔ zla c)) ∧ Below w0.heap.size w0 w
theorem zci.no {w0 w : World} {c : RC} (h : ¬ zla c) (hb : Below w0.heap.size w0 w) : zci w0 c (.returned (.bool false)) w := ⟨⟨false, rfl, by simp [h]⟩, hb⟩
theorem matN_one (w : World) (ea : Option Addr) (ek : Nat) (l : List RF) (h : zgc w (.slice ea l.length ek) l) :
 MatN (w.alloc (.cells #[.slice ea l.length ek] 23)) (.slice (some ⟨w.heap.size, 0, none⟩) 1 1) [l] :=
 ⟨⟨_, 1, 1, rfl, Nat.le_refl _, by simp [maxLen], fun e => by cases e⟩, rfl, fun j hj => by
   have hj0 : j = 0 := by simp at hj; omega
   subst hj0
   exact ⟨_, by simp [ptr, base, Addr.add], h.below (below_alloc _ _)⟩⟩
set_option maxRecDepth 100000 in
set_option maxHeartbeats 3200000 in
theorem valid_rest (va : Value) (c : RC) (w : World) (ha : ChainN w va c) (h1 : 1 ≤ c.start.length) (h2 : c.start.length ≤ 128) (h3 : c.lost.length = c.start.length) (h4 : c.rates.length = c.start.length) (h5 : zii c.start c.start.length) :
 Calls Try.prog 39 #[va] w (zci w c) := by
 obtain ⟨rv, sv, lv, rfl, hr, hs, hl⟩ := ha
 obtain ⟨ra, rn, rk, rfl, r1, r2, r3⟩ := hr.sl
 obtain ⟨sa, sn, sk, rfl, s1, s2, s3⟩ := hs.sl
 obtain ⟨la, ln, lk, rfl, l1, l2, l3⟩ := CellsV.sl hl
 have hrl : rn = c.start.length := hr.len.trans h4
 have hsl : sn = c.start.length := hs.len
 have hll : ln = c.start.length := hl.len.trans h3
 subst hrl hsl hll
 clear r1 r2 r3 s1 s2 s3 l1 l2 l3
 have hbx := below_alloc w (.cells #[.slice ra c.start.length rk, .slice sa c.start.length sk, .slice la c.start.length lk] 45)
 have hs' := hs.below hbx
 have hr' := hr.below hbx
 have hl' := hl.below hbx
 have hc3 := C3.new w 45 (.slice ra c.start.length rk) (.slice sa c.start.length sk) (.slice la c.start.length lk)
 have H3 := zH h3
 have H4 := zH h4
 have H5 := zH h5
 have HVAL : Hid (zla c ↔ (∀ i r, c.rates[i]? = some r → zqf c i r) ∧ zsb (qs c.start) = 1) := zH ⟨fun h => ⟨h.2.2.2.2.2.1, h.2.2.2.2.2.2⟩, fun h => ⟨h1, h2, h3, h4, h5, h.1, h.2⟩⟩
 clear h3 h4 h5 hs hr hl
 generalize hn : c.start.length = n at *
 have HSTP : Hid (∀ i r, (zii r n ∧ (∀ x, r[i]? = some x → x.q.num = 0) ∧ (c.lost[i]? = some true → wts (qs r) = 0)) ↔ zqf c i r) := zH (fun i r => by unfold zqf; rw [hn])
 have HNE := zH hn
 have HN6 : Hid (n ≤ 65536) := zH (by omega)
 clear hn
 go_enter Try.func39, Try.ntmps39
 go_wp2_with fail
 have hd1 : decide ((n : Int) < 1) = false := decide_eq_false (by omega)
 have hd2 : decide ((128 : Int) < (n : Int)) = false := decide_eq_false (by omega)
 generalize hW : w.alloc (.cells #[.slice ra n rk, .slice sa n sk, .slice la n lk] 45) = W at *
 clear hW
 have HC3 := zH hc3
 obtain ⟨_, b0, b1, b2, b3, b4, b5⟩ := hc3
 go_wp2_with (go_at_call 73; (with_reducible refine (zjh _ c.start n _ hs' HN6.out).mono ?_); rintro e w1 ⟨rfl, hb1⟩; rw [decide_eq_true H5.out]; obtain ⟨_, f0, f1, f2, f3, f4, f5⟩ := HC3.out.belowS hb1)
 clear b0 b1 b2 b3 b4 b5 f0 f1 f2 f3 f4 f5 hd1 hd2
 have slR := hr'.sl
 have slS := hs'.sl
 have slL : IsSl (.slice la n lk) := CellsV.sl hl'
 go_loopw [43] (fun u43 wr => ∃ (k : Nat), k ≤ n ∧ u43 = .int .i64 k ∧ (∀ i r, i < k → c.rates[i]? = some r → zqf c i r) ∧ Below W.heap.size W wr) (fun u43 _ => n - (intOf u43).toNat)
 case atStart => exact ⟨0, Nat.zero_le _, rfl, fun i r h => by omega, hb1⟩
 case round =>
  obtain ⟨k, hk, rfl, hst, hb⟩ := hrel
  clear hb1
  have HST := zH hst
  clear hst
  have HC := zH (HC3.out.belowS hb)
  obtain ⟨_, b0, b1, b2, b3, b4, b5⟩ := HC3.out.belowS hb
  by_cases hkn : k < n
  ·have hkr : k < c.rates.length := by rw [H4.out]; exact hkn
   have hkl : k < c.lost.length := by rw [H3.out]; exact hkn
   obtain ⟨rv, hrc, hrw⟩ := (hr'.below hb).at' k hkr
   have hlc := (hl'.below hb).at' k hkl
   have HRK : Hid (c.rates[k]? = some (c.rates[k]'hkr)) := zH (List.getElem?_eq_getElem hkr)
   have HLK : Hid (c.lost[k]? = some (c.lost[k]'hkl)) := zH (List.getElem?_eq_getElem hkl)
   generalize c.rates[k]'hkr = l at *
   generalize c.lost[k]'hkl = lo at *
   have HNO : Hid (¬ zqf c k l → ¬ zla c) := zH (fun h h' => h ((HVAL.out.1 h').1 k l HRK.out))
   have HYES : Hid (zqf c k l → ∀ i r, i < k + 1 → c.rates[i]? = some r → zqf c i r) := zH (fun h i r hi hr => by
    rcases Nat.lt_or_ge i k with h6 | h6
    ·exact HST.out i r h6 hr
    ·obtain rfl : i = k := by omega
     rw [HRK.out] at hr
     injection hr with hr
     subst hr
     exact h)
   clear hkr hkl
   obtain ⟨ea, en, ek, rfl, e1, e2, e3⟩ := hrw.sl
   have slW := hrw.sl
   have hen : en = l.length := hrw.len
   subst hen
   by_cases hrow : zii l n
   ·have hll : l.length = n := hrow.2.1
    have hkl : k < l.length := by omega
    obtain ⟨xa, xb, c1, c2, c3, hxa, hxb⟩ := hrw.at' k hkl
    obtain ⟨c1a, c1l, c1k, rfl, _⟩ := hxa.slen.1
    obtain ⟨c2a, c2l, c2k, rfl, _⟩ := hxb.slen.1
    have HXK : Hid (l[k]? = some (l[k]'hkl)) := zH (List.getElem?_eq_getElem hkl)
    have HXP := zH (hrow.1 _ (List.getElem_mem hkl))
    have HROW := zH hrow
    have HLL := zH hll
    generalize l[k]'hkl = x at *
    have hxN : FracN wr (.agg #[.bool x.neg, .slice c1a c1l c1k, .slice c2a c2l c2k]) x.neg x.n x.d := ⟨_, _, rfl, hxa, hxb⟩
    clear hrow hll hxa hxb
    by_cases hz : x.q.num = 0
    ·have HAB := zH (RF.above_zero HXP.out.1 hz)
     have HXZ : Hid (∀ y, l[k]? = some y → y.q.num = 0) := zH (fun y hy => by rw [HXK.out] at hy; injection hy with hy; rw [← hy]; exact hz)
     clear hz
     rcases lo with _ | _
     ·have HOK := zH (HYES.out ((HSTP.out k l).1 ⟨HROW.out, HXZ.out, fun h => by rw [HLK.out] at h; injection h with h; cases h⟩))
      go_wp2_with (first
       |(go_at_call 73; (with_reducible refine (zjh _ l n _ hrw HN6.out).mono ?_); rintro e w1 ⟨rfl, hb1⟩; rw [decide_eq_true HROW.out]
         have d1 := cell_below hb1 c1
         have d2 := cell_below hb1 c2
         have d3 := cell_below hb1 c3
         )
       |(go_at_call 74; (with_reducible refine (zod _ x.neg x.n x.d _ (hxN.below hb1)).mono ?_); rintro e w2 ⟨rfl, hb2⟩; rw [HAB.out]
         obtain ⟨_, f0, f1, f2, f3, f4, f5⟩ := (HC.out.belowS hb1).belowS hb2
         have hlc2 := cell_below (below_then hb1 hb2) hlc
         ))
      go_roundw
      case rel => exact ⟨k + 1, hkn, by go_num, HOK.out, below_then (below_then hb hb1) hb2⟩
      case measure => simp [intOf]; omega
     ·have HWT : Hid (wts (qs l) = 0 → ∀ i r, i < k + 1 → c.rates[i]? = some r → zqf c i r) := zH (fun h => HYES.out ((HSTP.out k l).1 ⟨HROW.out, HXZ.out, fun _ => h⟩))
      have HWF : Hid (0 < wts (qs l) → ¬ zla c) := zH (fun h => HNO.out (fun h' => by have := ((HSTP.out k l).2 h').2.2 HLK.out; omega))
      have HOKS : Hid (∀ l' ∈ [l], ∀ x ∈ l', x.ok) := zH (fun l' h x hx => by simp at h; subst h; exact (HROW.out.1 x hx).1)
      have HLLS : Hid (∀ l' ∈ [l], l'.length ≤ 65536) := zH (fun l' h => by simp at h; subst h; have := HLL.out; omega)
      have HLEN : Hid ([l].length ≤ 65536) := zH (by simp)
      have HW1 := zH (zee l)
      go_wp2_with (first
       |(go_at_call 73; (with_reducible refine (zjh _ l n _ hrw HN6.out).mono ?_); rintro e w1 ⟨rfl, hb1⟩; rw [decide_eq_true HROW.out]
         have d1 := cell_below hb1 c1
         have d2 := cell_below hb1 c2
         have d3 := cell_below hb1 c3
         )
       |(go_at_call 74; (with_reducible refine (zod _ x.neg x.n x.d _ (hxN.below hb1)).mono ?_); rintro e w2 ⟨rfl, hb2⟩; rw [HAB.out]
         obtain ⟨_, f0, f1, f2, f3, f4, f5⟩ := (HC.out.belowS hb1).belowS hb2
         have hlc2 := cell_below (below_then hb1 hb2) hlc
         have hb4 := below_then (below_then hb1 hb2) (below_alloc w2 (.cells #[.slice ea l.length ek] 23))
         have HM := zH (matN_one w2 ea ek l (hrw.below (below_then hb1 hb2)))
         )
       |(go_at_call 75; (with_reducible refine (zhd _ [l] _ HM.out HOKS.out HLLS.out HLEN.out).mono ?_); rintro e w3 ⟨rfl, hb3⟩; rw [HW1.out]))
      ·go_ret
       exact zci.no (HWF.out (by assumption)) (hbx.trans ((below_then (below_then hb hb4) hb3).mono hbx.size))
      ·go_roundw
       case rel => exact ⟨k + 1, hkn, by go_num, HWT.out (by omega), below_then (below_then hb hb4) hb3⟩
       case measure => simp [intOf]; omega
    ·have HB := zH (HNO.out (fun h => hz (h.2.1 x HXK.out)))
     have HAB := zH (RF.above_pos HXP.out.1 HXP.out.2.1 hz)
     clear hz
     go_wp2_with (first
      |(go_at_call 73; (with_reducible refine (zjh _ l n _ hrw HN6.out).mono ?_); rintro e w1 ⟨rfl, hb1⟩; rw [decide_eq_true HROW.out]
        have d1 := cell_below hb1 c1
        have d2 := cell_below hb1 c2
        have d3 := cell_below hb1 c3)
      |(go_at_call 74; (with_reducible refine (zod _ x.neg x.n x.d _ (hxN.below hb1)).mono ?_); rintro e w2 ⟨rfl, hb2⟩; rw [HAB.out]))
     go_ret
     exact zci.no HB.out (hbx.trans ((below_then (below_then hb hb1) hb2).mono hbx.size))
   ·have HB := zH (HNO.out (fun h => hrow ((HSTP.out k l).2 h).1))
    have HR := zH hrow
    clear hrow
    go_wp2_with (go_at_call 73; (with_reducible refine (zjh _ l n _ hrw HN6.out).mono ?_); rintro e w1 ⟨rfl, hb1⟩; rw [decide_eq_false HR.out])
    go_ret
    exact zci.no HB.out (hbx.trans ((below_then hb hb1).mono hbx.size))
  ·obtain rfl : k = n := by omega
   have HALL : Hid (∀ i r, c.rates[i]? = some r → zqf c i r) := zH (fun i r h => HST.out i r (by
    obtain ⟨h6, _⟩ := List.getElem?_eq_some_iff.1 h
    have := H4.out; omega) h)
   have HOKS : Hid (∀ x ∈ c.start, x.ok) := zH H5.out.ok
   have HFIT : Hid (∀ j, j ≤ c.start.length → fits (zsb (qs (c.start.take j)))) := zH (fun j _ => H5.out.fits j)
   have HFS : Hid (fits (zsb (qs c.start))) := zH (by have h6 := H5.out.fits c.start.length; rw [List.take_length] at h6; exact h6)
   go_wp2_with (go_at_call 55; (with_reducible refine (sum_frac _ c.start _ (hs'.below hb) HOKS.out HFIT.out).mono ?_); rintro e w1 ⟨v, rfl, hv, hb1⟩
                obtain ⟨t9, x9, y9, rfl, ⟨a1, l91, k1, rfl, _⟩, ⟨a2, l92, k2, rfl, _⟩⟩ := hv.isF)
   have hv6 := hv.below (below_alloc w1 (.cells #[.bool t9, .slice a1 l91 k1, .slice a2 l92 k2] 32))
   have hc6 := C3.new w1 32 (.bool t9) (.slice a1 l91 k1) (.slice a2 l92 k2)
   have hb6 := below_then (below_then hb hb1) (below_alloc w1 (.cells #[.bool t9, .slice a1 l91 k1, .slice a2 l92 k2] 32))
   generalize w1.alloc (.cells #[.bool t9, .slice a1 l91 k1, .slice a2 l92 k2] 32) = W6 at *
   have hdr := below_drew (B := W6.heap.size) W6
   have hv7 := hv6.below hdr
   have HC7 := zH (hc6.belowS hdr)
   have hb7 := below_then hb6 hdr
   clear hv hv6 hb1 hb6 hb b0 b1 b2 b3 b4 b5 hs' hr' hl'
   obtain ⟨_, q1, q2, q3, q4, q5, q6⟩ := hc6.belowS hdr
   clear hc6
   generalize w1.heap.size = B6 at *
   have HF1 := zH zhm
   go_region_held3 (fun w' => w'.cell? ⟨B6, 0, none⟩ = some (.bool t9) ∧ w'.cell? ⟨B6, 1, none⟩ = some (.slice a1 l91 k1) ∧ w'.cell? ⟨B6, 2, none⟩ = some (.slice a2 l92 k2)) (exact ⟨q1, q2, q3⟩) (first
    |(go_at_call 41; (with_reducible refine (znh _).mono ?_); rintro e8 w8 ⟨v1, rfl, hv1, hb8⟩
      obtain ⟨_, q1, q2, q3, q4, q5, q6⟩ := HC7.out.belowS hb8
      have HC8 := zH (HC7.out.belowS hb8)
      have hv8 := hv7.below hb8)
    |(go_at_call 57; (with_reducible refine (cmp_can _ v1 _ _ _ hv8 hv1 HFS.out HF1.out).mono ?_); rintro e9 w9 ⟨rfl, hb9⟩
      obtain ⟨_, q1, q2, q3, q4, q5, q6⟩ := HC8.out.belowS hb9))
   go_wp2
   go_ret
   refine ⟨⟨_, rfl, ?_⟩, hbx.trans ((below_then (below_then hb7 hb8) hb9).mono hbx.size)⟩
   rw [HVAL.out]
   have h9 := cmpR_self_iff (zsb (qs c.start)) 1
   exact ⟨fun h => ⟨HALL.out, h9.1 (by simpa using h)⟩, fun h => by simpa using h9.2 h.2⟩
theorem zfe (va : Value) (c : RC) (w : World) (ha : ChainN w va c) : Calls Try.prog 39 #[va] w (zci w c) := by
 by_cases h : c.start.length < 1 ∨ 128 < c.start.length ∨ c.lost.length ≠ c.start.length ∨ c.rates.length ≠ c.start.length ∨ ¬ zii c.start c.start.length
 ·refine (valid_false1 va c w ha h).mono fun e w' ⟨h1, h2⟩ => ?_
  rw [h1]
  refine zci.no (fun hv => ?_) h2
  obtain ⟨v1, v2, v3, v4, v5, _⟩ := hv
  rcases h with h | h | h | h | h
  ·omega
  ·omega
  ·exact h v3
  ·exact h v4
  ·exact h v5
 ·exact valid_rest va c w ha (Nat.le_of_not_lt fun h1 => h (Or.inl h1)) (Nat.le_of_not_lt fun h1 => h (Or.inr (Or.inl h1))) (Decidable.of_not_not fun h1 => h (Or.inr (Or.inr (Or.inl h1)))) (Decidable.of_not_not fun h1 => h (Or.inr (Or.inr (Or.inr (Or.inl h1))))) (Decidable.of_not_not fun h1 => h (Or.inr (Or.inr (Or.inr (Or.inr h1)))))
def RNatO (w0 : World) (n : Nat) (e : Ending) (w : World) : Prop := ∃ r, e = .returned r ∧ zmb w 94 w0.heap.size r (limbs n) ∧ zaa n ≤ 4294967296 ∧ Below w0.heap.size w0 w
theorem RNatO.nat {w0 : World} {n : Nat} {e : Ending} {w : World} (h : RNatO w0 n e w) : RNat w0 n e w := by
 obtain ⟨r, h1, h2, h3, h4⟩ := h; exact ⟨r, h1, ⟨h2.nat, h3⟩, h4⟩
theorem zxd (l : List Nat) (j : Nat) (hj : j < l.length) : l.getD j 0 = l[j] := by simp [List.getD, hj]
set_option maxHeartbeats 400000 in
theorem zbj (v : Value) (n : Nat) (w : World) (h : zya w v n) :
 Calls Try.prog 66 #[v] w (RNatO w n) := by
 obtain ⟨l, hl, HE, hll⟩ := h
 have hs := hl.sl
 have hlen := hl.len
 have hle := hs.le
 have hcan := hl.can hll
 rw [HE] at hcan
 have hce : clen l = zaa n := by rw [zth hl.lm, HE]
 have hcl := zbb hl.lm
 rw [HE] at hcl
 have HCE := zH hce
 clear HE hce
 have HLL := zH hll
 clear hll
 have hcs : zaa n ≤ scap v := by omega
 obtain ⟨i0, hi, hz0, hz1, hz2⟩ := info_parts Try.info102
 have hroom : ([] : List Nat).length + (limbs n).length ≤ 35184372088832 := by have := hcan.2; unfold zaa at this; simp; omega
 have hA := zuh (P := Try.prog) 30 94 i0 Try.underlying30 hi hz0 hz1 hz2
 have HR := zH hroom
 have HN := zH hcan
 clear hroom hcan hi hz0 hz1 hz2
 go_enter Try.func66, Try.ntmps66
 go_wp2
 go_loop [3] (fun i => ∃ k : Nat, k ≤ l.length ∧ i = .int .i64 k ∧ clen (l.take k) = clen l) (fun i => (intOf i).toNat)
 case atStart => exact ⟨l.length, Nat.le_refl _, by simp [hlen], by rw [List.take_length]⟩
 case round =>
  obtain ⟨k, hk, rfl, hce⟩ := hrel
  have HC := zH hce; clear hce
  by_cases h1 : 0 < k ∧ l.getD (k - 1) 0 = 0
  ·obtain ⟨h0, hx⟩ := h1
   obtain ⟨j, rfl⟩ : ∃ j, k = j + 1 := ⟨k - 1, by omega⟩
   have hj : j < l.length := by omega
   rw [Nat.add_sub_cancel, zxd _ _ hj] at hx
   have hc := hl.cell j hj
   have HZ := zH (zyd l j hj hx)
   rw [hx] at hc
   clear hx
   go_wp2_with fail
   go_round
   case rel => exact ⟨j, by omega, rfl, by rw [← HC.out, HZ.out]⟩
   case measure => simp [intOf]
  ·have e : zaa n = k := by
    rw [← HCE.out, ← HC.out]
    by_cases h0 : 0 < k
    ·obtain ⟨j, rfl⟩ : ∃ j, k = j + 1 := ⟨k - 1, by omega⟩
     have hj : j < l.length := by omega
     exact zdh l j hj (fun hx => h1 ⟨h0, by rw [Nat.add_sub_cancel, zxd _ _ hj, hx]⟩)
    ·obtain rfl : k = 0 := by omega
     rfl
   rw [e] at HN hcs hcl
   have hc : 0 < k → ∃ x : Nat, w.cell? (ptr v (k - 1)) = some (.int .u32 x) ∧ (((x : Nat) : Int) == 0) = false := fun h0 => by
    have hj : k - 1 < l.length := by omega
    refine ⟨_, hl.cell (k - 1) hj, ?_⟩
    have : l[k - 1] ≠ 0 := fun hx => h1 ⟨h0, by rw [zxd _ _ hj, hx]⟩
    have : ((l[k - 1] : Nat) : Int) ≠ 0 := by omega
    simpa using this
   clear h1 e
   rcases Nat.eq_zero_or_pos k with h0 | h0
   ·clear hc
    subst h0
    go_wp2_with (at_builtin; refine hA w rfl _ _ rfl w.heap.size _ [] rfl (zmb.nil _ _ _) _ rfl (limbs n) HN.out.1 HR.out (Nat.le_refl _) ?_; intro v' w1 hown _ hbel)
    go_ret
    exact ⟨v', rfl, by simpa using hown, HN.out.2, hbel⟩
   ·obtain ⟨x, hx, hx3⟩ := hc h0
    clear hc
    go_wp2_with (at_builtin; refine hA w rfl _ _ rfl w.heap.size _ [] rfl (zmb.nil _ _ _) _ rfl (limbs n) HN.out.1 HR.out (Nat.le_refl _) ?_; intro v' w1 hown _ hbel)
    go_ret
    exact ⟨v', rfl, by simpa using hown, HN.out.2, hbel⟩
theorem zia (v : Value) (n : Nat) (w : World) (h : zya w v n) :
 Calls Try.prog 66 #[v] w (RNat w n) := (zbj v n w h).mono fun _ _ h => h.nat
set_option maxHeartbeats 400000 in
theorem zlc (n : Nat) (hn : n < 18446744073709551616) (w : World) :
 Calls Try.prog 37 #[.int .u64 n] w (RNat w n) := by
 have HN := zoj w 94 (n % 4294967296) (n / 4294967296) (by omega) (by omega)
 rw [show ((n % 4294967296 : Nat) : Int) = (n : Int) % 4294967296 from by omega, show ((n / 4294967296 : Nat) : Int) = (n : Int) / 4294967296 from by omega] at HN
 have hv : val [n % 4294967296, n / 4294967296] = n := by simp [val]; omega
 have HL := HN.natN (by simp)
 rw [hv] at HL
 have HT := zH (zia _ _ _ HL)
 have HB := zH ((Below.refl w.heap.size w).alloc (Nat.le_refl _) (.cells #[.int .u32 ((n : Int) % 4294967296), .int .u32 ((n : Int) / 4294967296)] 94))
 clear HN hv HL
 go_enter Try.func37, Try.ntmps37
 go_wp2_with (go_at_call 66; refine HT.out.mono ?_; rintro e w1 ⟨r, rfl, hr, hb⟩)
 go_ret
 exact ⟨_, rfl, hr, HB.out.trans (hb.mono HB.out.size)⟩
theorem zyk (v : Value) (n : Nat) (w : World) (h : zya w v n) :
 Calls Try.prog 103 #[v] w fun e w' => e = .returned (.bool (decide (512 < zaa n))) ∧ Below w.heap.size w w' := by
 go_enter Try.func103, Try.ntmps103
 go_wp2_with (go_at_call 66; refine (zia v n _ h).mono ?_; rintro e w1 ⟨r, rfl, hr, hb⟩; have h1 := hr.1.sl; have h2 : slen r = zaa n := hr.1.len)
 go_ret
 exact ⟨by congr 2; simp; omega, hb⟩
theorem zae (v : Value) (n : Nat) (w : World) (h : zya w v n) (hn : zaa n ≤ 512) :
 Calls Try.prog 103 #[v] w fun e w' => e = .returned (.bool false) ∧ Below w.heap.size w w' :=
 (zyk v n w h).mono fun e w' ⟨h1, h2⟩ => ⟨by rw [h1, decide_eq_false (by omega)], h2⟩
set_option maxHeartbeats 800000 in
theorem zqd (va vb : Value) (m n : Nat) (w : World) (ha : zya w va m) (hb : zya w vb n) :
 Calls Try.prog 71 #[va, vb] w fun e w' => e = .returned (.int .i64 (zik m n)) ∧ Below w.heap.size w w' := by
 go_enter Try.func71, Try.ntmps71
 go_wp2_with (go_at_call 66; first
  |((with_reducible refine (zia va m _ ha).mono ?_); rintro e w1 ⟨ra, rfl, hra, hb1⟩)
  |((with_reducible refine (zia vb n _ (hb.below hb1)).mono ?_); rintro e w2 ⟨rb, rfl, hrb, hb2⟩
    have h1 := (hra.below hb2).1.sl
    have h2 : slen ra = zaa m := (hra.below hb2).1.len
    have h3 := hrb.1.sl
    have h4 : slen rb = zaa n := hrb.1.len
    have h5 : zaa m ≤ 4294967296 := hra.2))
 ·go_ret
  exact ⟨by rw [zdf (znf (by assumption))]; rfl, hb1.trans (hb2.mono hb1.size)⟩
 ·have hne : ((zaa m : Nat) : Int) ≠ zaa n := by simpa using ‹((zaa m : Int) != (zaa n : Int)) = true›
  have hlt : ¬ zaa m < zaa n := by assumption
  go_ret
  exact ⟨by rw [zhk (znf (by omega))]; rfl, hb1.trans (hb2.mono hb1.size)⟩
 ·have he : zaa m = zaa n := by
   have : ((zaa m : Nat) : Int) = zaa n := by simpa using ‹((zaa m : Int) != (zaa n : Int)) = false›
   omega
  have HB := zH (hb1.trans (hb2.mono hb1.size))
  have ca := (hra.below hb2).1.cell
  have cb := hrb.1.cell
  have hln := hrb.2
  clear ha hb hb1 hb2 hra hrb
  have HE := zH he
  rw [← he] at hln
  clear he
  go_loopw [5] (fun i wr => ∃ k q : Nat, k ≤ zaa m ∧ i = .int .i64 ((k : Int) - 1) ∧ (limbs m).drop k = (limbs n).drop k ∧ wr = w2.drewN q) (fun i _ => (intOf i + 1).toNat)
  case atStart => exact ⟨zaa m, 0, Nat.le_refl _, by simp, by rw [List.drop_of_length_le (show zaa m ≤ zaa m from Nat.le_refl _), List.drop_of_length_le (show zaa n ≤ zaa m by have := HE.out; omega)], rfl⟩
  case round =>
   obtain ⟨k, q, hk, rfl, hd, rfl⟩ := hrel
   have HD := zH hd
   clear hd
   by_cases hk0 : 0 < k
   ·obtain ⟨j, rfl⟩ : ∃ j, k = j + 1 := ⟨k - 1, by omega⟩
    have hj1 : j < zaa m := by omega
    have hj2 : j < zaa n := by have := HE.out; omega
    have h7 := ca j hj1
    have h8 := cb j hj2
    have hlt := zed (zza m) j hj1 hj2 HD.out
    have hgt := zed (zza n) j hj2 hj1 HD.out.symm
    have heq := zkl j hj1 hj2 HD.out
    rw [zca, zca] at hlt hgt
    clear ca cb HD
    generalize (limbs m)[j]'hj1 = x at *
    generalize (limbs n)[j]'hj2 = y at *
    have HL := zH hlt
    have HG := zH hgt
    have HQ := zH heq
    clear hlt hgt heq
    by_cases hxy : x < y
    ·go_wp2
     go_quiet (fail)
     go_wp2
     go_ret
     exact ⟨by rw [zdf (HL.out hxy)]; rfl, by first | exact HB.out.trans ((below_drewN _ _).mono HB.out.size) | (simp only [World.drewN_drewN]; exact HB.out.trans ((below_drewN _ _).mono HB.out.size))⟩
    ·by_cases hyx : y < x
     ·go_wp2
      go_quiet (fail)
      go_wp2
      go_quiet (fail)
      go_wp2
      go_ret
      exact ⟨by rw [zhk (HG.out hyx)]; rfl, by first | exact HB.out.trans ((below_drewN _ _).mono HB.out.size) | (simp only [World.drewN_drewN]; exact HB.out.trans ((below_drewN _ _).mono HB.out.size))⟩
     ·go_wp2
      go_quiet (fail)
      go_wp2
      go_quiet (fail)
      go_wp2
      go_roundw
      case rel => exact ⟨j, _, by omega, by go_num, HQ.out (by omega), by first | rfl | (simp only [World.drewN_drewN]; rfl)⟩
      case measure => simp [intOf]
   ·obtain rfl : k = 0 := by omega
    have hmn : m = n := zaf (by simpa using HD.out)
    have HM := zH hmn
    clear hmn
    go_wp2
    go_ret
    exact ⟨by rw [cmpN_eq HM.out]; rfl, HB.out.trans ((below_drewN _ _).mono HB.out.size)⟩
end Go.Proofs.Ytlpdkbmmbdfoiaa
