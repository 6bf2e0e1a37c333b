/-
  Tape.Chain, the inner loop's state. No code is walked here.
-/
import Derived.Test.YtlpdkbmmbdfoiaaGreatSPh4
import Derived.Test.YtlpdkbmmbdfoiaaGreatSEl1
import Derived.Test.YtlpdkbmmbdfoiaaGreatSSz3
import Derived.Test.YtlpdkbmmbdfoiaaGreatSPk0
import Derived.Test.YtlpdkbmmbdfoiaaGreatSFr6
import Derived.Test.YtlpdkbmmbdfoiaaGreatSTk
import Derived.Test.YtlpdkbmmbdfoiaaGreatSFr3a
import Derived.RegionTactic
import Derived.ChangeAlike
import Derived.Lib.SliceRun
set_option linter.unusedVariables false
set_option linter.unusedSimpArgs false
namespace Go.Proofs.YtlpdkbmmbdfoiaaGreat
open Go.RowKit
theorem zqg.wt {q : Rat} (h : zqg q) : Go.Proofs.YtlpdkbmmbdfoiaaGreat.wt q ≤ 64 := by
 unfold Go.Proofs.YtlpdkbmmbdfoiaaGreat.wt
 have h1 := h.2.1
 have h2 := h.2.2
 split
 ·omega
 ·split <;> omega
theorem lim_sum {l m : List Rat} (hs : l.Sublist m) (hl : ∀ q ∈ m, zqg q) (hn : m.length ≤ 40) : fits (zwg l) :=
 lsum_fits hs (fun q hq => (hl q hq).1) (by
  have := wts_all3 (l := m) (K := 64) fun q hq => (hl q hq).wt
  omega)
theorem zjn (va : Value) (l : List Rat) (w : World) (ha : zza w va l) (hl : ∀ q ∈ l, zqg q) (hn : l.length ≤ 40) : Calls Tryz.prog 137 #[va] w (RF0 w (zwg l)) := by
 have h := sum_frac va (l.map RF.of) w ha.raw (fun x hx => by obtain ⟨y, hy, rfl⟩ := List.mem_map.1 hx; exact RF.of_ok (hl y hy).fits) (fun k hk => by
  rw [← List.map_take, zoh]
  exact lim_sum (List.take_sublist _ _) hl hn)
 rw [zoh] at h
 exact h
set_option maxRecDepth 100000 in
set_option maxHeartbeats 1600000 in
theorem zrm (w : World) (nm : Value) : Calls Tryz.prog 58 #[.agg #[nm, .slice none 0 0, .slice none 0 0, .slice none 0 0]] w (fun e w' => e = .returned (.bool false) ∧ Below w.heap.size w w') := by
 obtain ⟨_, c0, c1, c2, c3, _, _, _, _⟩ := C4.new w 52 nm (.slice none 0 0) (.slice none 0 0) (.slice none 0 0)
 have HB := zH (zca w (.cells #[nm, .slice none 0 0, .slice none 0 0, .slice none 0 0] 52))
 go_enter Tryz.func58, Tryz.ntmps58
 go_wp2_with (first
  |(go_at_call 133; (with_reducible refine (fin_any 0 1 4 _).mono ?_); rintro e4 w4 ⟨rfl, rfl⟩))
 go_ret
 exact ⟨rfl, HB.out⟩
set_option maxRecDepth 100000 in
set_option maxHeartbeats 6400000 in
theorem zsg (va : Value) (l : LQ) (w : World) (ha : zxl w va l) (hl : zkc l) : Calls Tryz.prog 58 #[va] w (fun e w' => e = .returned (.bool true) ∧ Below w.heap.size w w') := by
 obtain ⟨nm, sv, rv, ev, rfl, hs, hr, he⟩ := id ha
 obtain ⟨ra, rn, rk, rfl, _⟩ := id hr.sl
 obtain ⟨sa, sn, sk, rfl, _⟩ := id hs.sl
 obtain ⟨ea, en, ek, rfl, _⟩ := id he.sl
 have hba := zca w (.cells #[nm, .slice sa sn sk, .slice ra rn rk, .slice ea en ek] 52)
 have HC := zH (C4.new w 52 nm (.slice sa sn sk) (.slice ra rn rk) (.slice ea en ek))
 have HA := zH (ha.below hba)
 have HS := zH (hs.below hba)
 have HR := zH (hr.below hba)
 have HE := zH (he.below hba)
 have HBW := zH hba
 have hsn : sn = l.start.length := hs.len
 have hen : en = l.start.length := he.len.trans hl.el
 have hrn : rn = l.start.length := hr.len.trans hl.rl
 obtain ⟨n, hnn⟩ : ∃ n, l.start.length = n := ⟨_, rfl⟩
 have HN := zH hnn
 rw [hnn] at hen hsn hrn
 have n1 : 1 ≤ n := by rw [← hnn]; exact hl.n1
 have n4 : n ≤ 4 := by rw [← hnn]; exact hl.n4
 obtain rfl : en = n := hen
 obtain rfl : sn = en := hsn
 obtain rfl : rn = sn := hrn
 have HL := zH hl
 have srt := hr.sl
 have sxt := he.sl
 have sst := hs.sl
 have hin : (decide ((1 : Int) ≤ (rn : Nat)) && decide (((rn : Nat) : Int) ≤ 4)) = true := by
  rw [decide_eq_true (show (1 : Int) ≤ (rn : Nat) by omega), decide_eq_true (show ((rn : Nat) : Int) ≤ 4 by omega)]; rfl
 have HIN := zH hin
 clear hs hr he ha hl hba hnn hin
 go_enter Tryz.func58, Tryz.ntmps58
 go_upto_region 1 with fail
 obtain ⟨b, hb⟩ : ∃ b, w.heap.size = b := ⟨_, rfl⟩
 rw [hb] at HC ⊢
 clear hb
 generalize w.alloc (.cells #[nm, .slice sa rn sk, .slice ra rn rk, .slice ea rn ek] 52) = W1 at *
 obtain ⟨_, c0, c1, c2, c3, _, _, _, _⟩ := HC.out
 go_upto_region 4 with (first
  |(go_at_call 133; (with_reducible refine (fin_any _ _ _ _).mono ?_); rw [HIN.out]; rintro e4 w4 ⟨rfl, hw4⟩; rw [hw4]; clear hw4)
  |(go_at_call 134; (with_reducible refine (fall_ok _ l.start W1 HS.out HL.out.st (by have := HL.out.n4; omega)).mono ?_); rintro e5 w5 ⟨rfl, hb5⟩
    have HB5 := zH hb5
    clear c0 c1 c2 c3
    obtain ⟨_, c0, c1, c2, c3, _, _, _, _⟩ := HC.out.belowS hb5
    clear hb5)
  |(go_at_call 134; (with_reducible refine (fall_ok _ l.exit w5 (HE.out.below HB5.out) HL.out.ex (by have := HL.out.n4; have := HL.out.el; omega)).mono ?_); rintro e6 w6 ⟨rfl, hb6⟩
    have HB6 := zH (zaa HB5.out hb6)
    clear c0 c1 c2 c3
    obtain ⟨_, c0, c1, c2, c3, _, _, _, _⟩ := HC.out.belowS HB6.out
    clear hb6))
 go_wp2_with fail
 clear c0 c1 c2 c3
 go_loopg [47] (rn) (fun g u47 wr => ∃ (k : Nat), k ≤ rn ∧ g = rn - k ∧ u47 = .int .i64 k ∧ Below W1.heap.size W1 wr)
 case atStart => exact ⟨0, Nat.zero_le _, rfl, rfl, HB6.out⟩
 case round =>
  obtain ⟨k, hk, hg, rfl, hbr⟩ := hrel
  obtain ⟨wb, hwb⟩ : ∃ wb, wb = wr := ⟨_, rfl⟩
  subst hwb
  have HG := zH hg
  have HBR := zH hbr
  clear hg hbr
  by_cases hkl : k < rn
  ·have hir : k < l.rates.length := by rw [HL.out.rl, HN.out]; exact hkl
   obtain ⟨rw1, hrv, hrow⟩ := HR.out.at' k hir
   obtain ⟨rl1, rl2, rl3⟩ := HL.out.row k hir
   obtain ⟨ua, un, uk, rfl, _⟩ := id hrow.sl
   have srow := hrow.sl
   have hun : un = rn := by have h := hrow.len; rw [rl1, HN.out] at h; exact h
   subst hun
   have hkr : k < (l.rates[k]'hir).length := by rw [rl1, HN.out]; exact hkl
   obtain ⟨ts, as1, ls1, ks1, as2, ls2, ks2, g1, g2, g3, hfs⟩ := (hrow.below HBR.out).cellsAt (k := k) hkr
   rw [rl3] at hfs
   have HROW := zH hrow
   have HRL := zH rl2
   have HRLN : Hid ((l.rates[k]'hir).length ≤ 1000) := zH (by rw [rl1, HN.out]; omega)
   have HFS := zH hfs
   have hri := zba HBR.out hrv
   have S0 := zH (And.intro g1 (And.intro g2 g3))
   have i1 : (0 : Int) ≤ (k : Int) := by omega
   have i2 : (k : Int) < (un : Nat) := by omega
   clear hrv hrow rl1 rl2 rl3 hfs g1 g2 g3
   go_wp2_with (first
    |(go_at_call 134; (with_reducible refine (fall_ok _ _ _ (HROW.out.below HBR.out) HRL.out HRLN.out).mono ?_); rintro e5 w5 ⟨rfl, hb5⟩
      have HB5 := zH hb5
      have g1 := zba hb5 S0.out.1
      have g2 := zba hb5 S0.out.2.1
      have g3 := zba hb5 S0.out.2.2
      clear hb5)
    |(go_at_call 136; (with_reducible refine (zlf _ 0 _ (HFS.out.below HB5.out)).mono ?_); rintro e7 w7 ⟨rfl, hb7⟩
      have HB7 := zH (zaa HBR.out (zaa HB5.out hb7))
      clear hb7))
   go_roundg (un - (k + 1))
   case measure => (have := HG.out; omega)
   case rel => exact ⟨k + 1, by omega, rfl, by go_num, HB7.out⟩
  ·have HSUM : Hid (zwg l.start = 1) := zH HL.out.sum
   have HNL : Hid (l.start.length ≤ 40) := zH (by have := HL.out.n4; omega)
   obtain rfl : k = rn := by omega
   obtain ⟨_, c0, c1, c2, c3, _, _, _, _⟩ := HC.out.belowS HBR.out
   go_upto_region 11 with (first
    |(go_at_call 137; (with_reducible refine (zjn _ l.start _ (HS.out.below HBR.out) HL.out.st HNL.out).mono ?_); rw [HSUM.out]; rintro e8 w8 ⟨v8, rfl, hv8, hb8⟩
      obtain ⟨t8, x8, y8, rfl, ⟨a81, l81, k81, rfl, _⟩, ⟨a82, l82, k82, rfl, _⟩⟩ := hv8.isF
      have hba := zca w8 (.cells #[.bool t8, .slice a81 l81 k81, .slice a82 l82 k82] 38)
      have hbb := zaa hb8 hba
      have HC8 := zH (C3.new w8 38 (.bool t8) (.slice a81 l81 k81) (.slice a82 l82 k82))
      have HF8 := zH (hv8.below hba)
      have HB8 := zH (zaa HBR.out hbb)
      clear hv8 hb8 hba hbb c0 c1 c2 c3))
   obtain ⟨b8, hb8⟩ : ∃ b, w8.heap.size = b := ⟨_, rfl⟩
   rw [hb8] at HC8 ⊢
   clear hb8
   generalize w8.alloc (.cells #[.bool t8, .slice a81 l81 k81, .slice a82 l82 k82] 38) = W8 at *
   go_upto_region 12 with (first
    |(go_at_call 67; (with_reducible refine (make_11 _).mono ?_); rintro e9 w9 ⟨v9, rfl, hv9, hb9⟩
      obtain ⟨t9, x9, y9, rfl, ⟨a91, l91, k91, rfl, _⟩, ⟨a92, l92, k92, rfl, _⟩⟩ := hv9.isF
      have hba := zca w9 (.cells #[.bool t9, .slice a91 l91 k91, .slice a92 l92 k92] 38)
      have hbb := zaa hb9 hba
      have HC9 := zH (C3.new w9 38 (.bool t9) (.slice a91 l91 k91) (.slice a92 l92 k92))
      have HF9 := zH (hv9.below hba)
      replace HC8 := zH (HC8.out.belowS hbb)
      replace HF8 := zH (HF8.out.below hbb)
      replace HB8 := zH (zaa HB8.out hbb)
      clear hv9 hb9 hba hbb))
   obtain ⟨b9, hb9⟩ : ∃ b, w9.heap.size = b := ⟨_, rfl⟩
   rw [hb9] at HC9 ⊢
   clear hb9
   generalize w9.alloc (.cells #[.bool t9, .slice a91 l91 k91, .slice a92 l92 k92] 38) = W9 at *
   obtain ⟨_, d0, d1, d2, _, _, _⟩ := HC8.out
   obtain ⟨_, p0, p1, p2, _, _, _⟩ := HC9.out
   obtain ⟨_, c0, c1, c2, c3, _, _, _, _⟩ := HC.out.belowS HB8.out
   go_wp2_with (first
    |(go_at_call 130; (with_reducible refine (cmp_can _ _ 1 1 _ HF8.out HF9.out (by decide) (by decide)).mono ?_); rw [(zmn 1 1).2 rfl]; rintro e10 w10 ⟨rfl, hb10⟩
      have HB10 := zH (zaa HB8.out hb10)
      clear c0 c1 c2 c3 d0 d1 d2 p0 p1 p2
      obtain ⟨_, c0, c1, c2, c3, _, _, _, _⟩ := HC.out.belowS HB10.out
      clear hb10)
    |(go_at_call 138; (with_reducible refine (fends_ok _ l _ (HA.out.below HB10.out) HL.out).mono ?_); rintro e11 w11 ⟨rfl, hb11⟩
      have HB11 := zH (zaa HB10.out hb11)
      clear hb11))
   go_ret
   exact ⟨rfl, HBW.out.trans (HB11.out.mono HBW.out.size)⟩
set_option maxRecDepth 100000 in
set_option maxHeartbeats 3200000 in
theorem blank1_any (b n : Nat) (w : World) (hc : w.cell? ⟨b, 0, none⟩ = some (.int .i64 (n : Nat))) (hn1 : 1 ≤ n) (hn : n ≤ 4) :
 Calls Tryz.prog 164 #[.pointer (some ⟨b, 0, none⟩)] w (fun e w' => ∃ v, e = .returned v ∧ zkb w' 38 w.heap.size v n ∧ (∀ t, t < n → zbg w' v t 0) ∧ Below w.heap.size w w') := by
 obtain ⟨i0, hi, hz0, hz1, hz2⟩ := info_parts Tryz.infoF
 have hM := zgn (P := Tryz.prog) 25 38 i0 Tryz.underlying25 hi hz0 hz1 (by rw [hz2]; decide)
 clear hi hz0 hz1 hz2
 go_enter Tryz.func164, Tryz.ntmps164
 go_wp2_with (refine hM w rfl _ _ rfl w.heap.size _ n rfl rfl rfl (by omega) (Nat.le_refl _) ?_
              intro vO w5 hO5 hb5 hvO
              have HO5 := zH hO5
              have HB5 := zH hb5
              have slO := hO5.sl
              have lnO := hO5.len
              clear hO5 hb5)
 clear hM
 go_loopg [8] (n) (fun g u8 wr => ∃ (i : Nat), i ≤ n ∧ g = n - i ∧ u8 = .int .i64 i ∧ zkb wr 38 w.heap.size vO n ∧ (∀ t, t < i → zbg wr vO t 0) ∧ Below w.heap.size w wr)
 case atStart => exact ⟨0, Nat.zero_le _, rfl, rfl, HO5.out, fun t h => by omega, HB5.out⟩
 case round =>
  obtain ⟨i, hin, hg, rfl, ho, he, hbr⟩ := hrel
  obtain ⟨w6, hw6⟩ : ∃ w6, w6 = wr := ⟨_, rfl⟩
  subst hw6
  have HG := zH hg
  have HE := zH he
  have HO := zH ho
  have HBR := zH hbr
  clear he hg HO5 HB5
  by_cases hil : i < n
  ·have i1 : (0 : Int) ≤ (i : Int) := by omega
   have i2 : (i : Int) < (n : Nat) := by omega
   clear ho hbr
   go_wp2_with (first
    |(go_at_call 88; (with_reducible refine (zie _).mono ?_); rintro e31 w31 ⟨v31, rfl, hv31, hb31⟩
      obtain ⟨t6, x31, y31, rfl, ⟨a61, l61, k61, rfl, _⟩, ⟨a62, l62, k62, rfl, _⟩⟩ := hv31.isF
      have ho3 := HO.out.below hb31
      obtain ⟨c0, d0, _⟩ := ho3.cell (i * 3) (by omega)
      obtain ⟨c1, d1, _⟩ := ho3.cell (i * 3 + 1) (by omega)
      obtain ⟨c2, d2, _⟩ := ho3.cell (i * 3 + 2) (by omega)
      have f0 := ho3.frozen (i * 3)
      have f1 := ho3.frozen (i * 3 + 1)
      have f2 := ho3.frozen (i * 3 + 2)
      have n01 := ho3.inj (show i * 3 ≠ i * 3 + 1 by omega)
      have n02 := ho3.inj (show i * 3 ≠ i * 3 + 2 by omega)
      have n12 := ho3.inj (show i * 3 + 1 ≠ i * 3 + 2 by omega)
      have HS3 := zH (ho3.set3 i (.bool t6) (.slice a61 l61 k61) (.slice a62 l62 k62) (fun z => by simp) (fun z => by simp) (fun z => by simp))
      have HE3 := zH (fun t ht => (HE.out t ht).below hb31)
      have HO3 := zH ho3
      have HV6 := zH hv31
      have HB3 := zH (zda HBR.out hb31 HBR.out.size)
      clear ho3 hv31 hb31))
   go_roundg (n - (i + 1))
   case measure => (have := HG.out; omega)
   case rel =>
    refine ⟨i + 1, by omega, rfl, by go_num, HS3.out.1, fun t ht => ?_, HB3.out.trans HS3.out.2⟩
    rcases Nat.lt_or_ge t i with h6 | h6
    ·exact zbg.set3_other HO3.out hil (by omega) (HE3.out t h6) _ _ _ (fun z => by simp) (fun z => by simp)
    ·obtain rfl : t = i := by omega
     exact zbg.set3 HO3.out hil HV6.out
  ·obtain rfl : i = n := by omega
   go_wp2_with fail
   go_ret
   exact ⟨vO, rfl, HO.out, HE.out, HBR.out⟩
def zkd (s : Bool) (n d : Nat) : Prop := okN n d ∧ 0 < fq s n d ∧ zta (fq s n d).num.natAbs ≤ 32 ∧ zta (fq s n d).den ≤ 32
def bytes (l : List Nat) : List Value := l.map fun x : Nat => Value.int .u8 (x : Nat)
theorem zpg {w w' : World} {B : Nat} {u : Value} (hg : w.grownBy w' u.ownBlock) (hB : B ≤ w.heap.size) (hu : ∀ k, u.ownBlock = some k → B ≤ k ∧ k < w.heap.size) : Below B w w' := zla hg hB (fun k hk => (hu k hk).1)
section
variable {w w' : World} {bt : Nat} {l : List Nat} {B b5 : Nat} {vr vs vl : Value} {rs : List Value} {rates : List (List Rat)} {start : List Rat} {lost : List Bool}
end
theorem zuc.over {w : World} {e : TypeId} {B size n : Nat} {v : Value} {xs : List Value} (h : zuc w e B size v n xs) {p : Addr} (hp : v.ownBlock = none ∨ v.ownBlock ≠ some p.block) (u : Value) : zuc (w.setCell p u) e B size v n xs := by
 have key : ∀ g, v.ownBlock = some g → (w.setCell p u).heap[g]? = w.heap[g]? := fun g hg => Below.heap_setCell _ _ _ _ (by
  intro e; rcases hp with h1 | h1
  ·rw [hg] at h1; cases h1
  ·exact h1 (by rw [hg, e]))
 refine ⟨⟨h.own.1, ?_⟩, fun g hg cur e' fz hc => ?_⟩
 ·rcases h.own.2 with h' | ⟨g, cap, cur, rfl, hb, hg, rest⟩
  ·exact .inl h'
  ·exact .inr ⟨g, cap, cur, rfl, hb, by rw [key g rfl]; exact hg, rest⟩
 ·rw [key g hg] at hc
  exact h.nl g hg cur e' fz hc
theorem zbb.over {w : World} {e : TypeId} {B : Nat} {v : Value} {q : List Rat} (h : zbb w e B v q) {p : Addr} {x : Value} (hp : v.ownBlock = none ∨ v.ownBlock ≠ some p.block) (hc : w.cell? p = some x) (hx : ∀ z, x ≠ .int .u32 z) (u : Value) : zbb (w.setCell p u) e B v q := by
 obtain ⟨xs, h1, h2⟩ := h
 refine ⟨xs, h1.over hp u, fun j hj => ?_⟩
 obtain ⟨a, b, e1, e2, e3, e4, e5⟩ := h2 j hj
 exact ⟨a, b, e1, e2, e3, ⟨e4.1.over hc hx u, e4.2⟩, ⟨e5.1.over hc hx u, e5.2⟩⟩
section
variable {w0 wA w w' : World} {bt B b5 : Nat} {l : List Nat} {vr vs vl rv : Value} {row : List Rat}
end
end Go.Proofs.YtlpdkbmmbdfoiaaGreat
