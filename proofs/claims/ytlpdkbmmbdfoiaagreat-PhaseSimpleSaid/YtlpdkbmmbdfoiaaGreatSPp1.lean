/-
  The system of equations of a law of phases. No program is walked here.
-/
import Derived.Test.YtlpdkbmmbdfoiaaGreatSLi11
import Derived.Test.YtlpdkbmmbdfoiaaGreatSEl2
import Derived.Test.YtlpdkbmmbdfoiaaGreatSSm4
import Derived.Test.YtlpdkbmmbdfoiaaGreatSLi9
import Derived.Test.YtlpdkbmmbdfoiaaGreatSPh13
import Derived.Test.YtlpdkbmmbdfoiaaGreatSDt2
import Derived.Test.YtlpdkbmmbdfoiaaGreatSSz3
set_option linter.unusedVariables false
set_option linter.unusedSimpArgs false
namespace Go.Proofs.YtlpdkbmmbdfoiaaGreat
open Go.RowKit
set_option maxRecDepth 100000 in
set_option maxHeartbeats 3200000 in
theorem column_own (va : Value) (n m k : Nat) (A : Mx) (w : World) (ha : zol w va n m A) (hk : k < m) (hn : n ≤ 1000) (hm : m ≤ 1000) :
 Calls Tryz.prog 170 #[va, .int .i64 k] w fun e w' => ∃ v, e = .returned v ∧ zza w' v (zfb n (fun i => A i k)) ∧ Below w.heap.size w w' ∧ w.heap.size ≤ (base v).block := by
 have sa := ha.sl
 have la := ha.len
 obtain ⟨i0, hi, hz0, hz1, hz2⟩ := info_parts Tryz.infoF
 have hM := zgn (P := Tryz.prog) 25 38 i0 Tryz.underlying25 hi hz0 hz1 (by rw [hz2]; decide)
 clear hi hz0 hz1 hz2
 go_enter Tryz.func170, Tryz.ntmps170
 go_wp2_with (refine hM _ rfl _ _ rfl w.heap.size _ n rfl rfl rfl (by omega) (Nat.le_refl _) ?_; intro v w1 hown hb1 hvb; have sv := hown.sl; have lv := hown.len)
 clear hM
 go_loopw [12] (fun u12 wr => ∃ (i : Nat), i ≤ n ∧ u12 = .int .i64 i ∧ zkb wr 38 w.heap.size v n ∧ (∀ j, j < i → zbg wr v j (A j k)) ∧ Below w.heap.size w wr) (fun u12 _ => n - (intOf u12).toNat)
 case atStart => exact ⟨0, Nat.zero_le _, rfl, hown, fun j h => by omega, hb1⟩
 case round =>
  obtain ⟨i, hin, rfl, ho, he, hbr⟩ := hrel
  clear hown hb1
  have HE := zH he
  clear he
  by_cases hil : i < n
  ·obtain ⟨ri, hc1, hr1⟩ := (ha.below hbr).row i hil
   have slI := hr1.sl
   have lnI : slen ri = m := by rw [hr1.len, zfa]
   obtain ⟨ea, eb, g1, g2, g3, g4, g5⟩ := hr1.at' k (by rw [zfa]; exact hk)
   rw [ztb] at g1 g4 g5
   obtain ⟨ea1, ea2, ea3, rfl, _⟩ := g4.v.sl
   obtain ⟨eb1, eb2, eb3, rfl, _⟩ := g5.v.sl
   have hF : zya wr (.agg #[.bool (decide (A i k < 0)), .slice ea1 ea2 ea3, .slice eb1 eb2 eb3]) (A i k) := ⟨_, _, rfl, g4, g5⟩
   obtain ⟨c0, d0, _⟩ := ho.cell (i * 3) (by omega)
   obtain ⟨c1, d1, _⟩ := ho.cell (i * 3 + 1) (by omega)
   obtain ⟨c2, d2, _⟩ := ho.cell (i * 3 + 2) (by omega)
   have f0 := ho.frozen (i * 3)
   have f1 := ho.frozen (i * 3 + 1)
   have f2 := ho.frozen (i * 3 + 2)
   have n01 := ho.inj (show i * 3 ≠ i * 3 + 1 by omega)
   have n02 := ho.inj (show i * 3 ≠ i * 3 + 2 by omega)
   have n12 := ho.inj (show i * 3 + 1 ≠ i * 3 + 2 by omega)
   have hs3 := ho.set3 i (.bool (decide (A i k < 0))) (.slice ea1 ea2 ea3) (.slice eb1 eb2 eb3) (fun z => by simp) (fun z => by simp) (fun z => by simp)
   have HS3 := zH hs3
   have HF := zH hF
   have HO := zH ho
   clear hs3 hr1 g4 g5 hF ho
   have i1 : (0 : Int) ≤ (i : Int) := by omega
   have i2 : (i : Int) < (n : Nat) := by omega
   have i3 : (0 : Int) ≤ (k : Int) := by omega
   have i4 : (k : Int) < (m : Nat) := by omega
   go_wp2_with fail
   go_roundw
   case rel =>
    refine ⟨i + 1, hil, by go_num, HS3.out.1, fun j hj => ?_, hbr.trans HS3.out.2⟩
    rcases Nat.lt_or_ge j i with h6 | h6
    ·exact zbg.set3_other HO.out hil (by omega) (HE.out j h6) _ _ _ (fun z => by simp) (fun z => by simp)
    ·obtain rfl : j = i := by omega
     exact zbg.set3 HO.out hil HF.out
   case measure => simp [intOf]; omega
  ·obtain rfl : i = n := by omega
   go_wp2_with fail
   go_ret
   exact ⟨v, rfl, ho.fracs (zfa _ _) (fun j hj => by rw [zfa] at hj; rw [ztb]; exact HE.out j hj), hbr, ho.block.1⟩
def rawV (n : Nat) (b : Nat → Rat) : List RF := (zfb n b).map RF.of
@[go_sem] theorem slen_lit (a : Option Addr) (n c : Nat) : slen (.slice a n c) = n := rfl
theorem column_zero (va : Value) (n : Nat) (A : Mx) (w : World) (ha : zol w va n 1 A) (hn : n ≤ 1000) :
 Calls Tryz.prog 170 #[va, .int .i64 0] w fun e w' => ∃ v, e = .returned v ∧ zza w' v (zfb n (fun i => A i 0)) ∧ Below w.heap.size w w' ∧ w.heap.size ≤ (base v).block :=
 column_own va n 1 0 A w ha (by decide) hn (by decide)
def RSolveO (w0 : World) (n : Nat) (S : St) (e : Ending) (w : World) : Prop :=
 ∃ v er, e = .returned (.tuple #[v, .int .i64 er]) ∧ Below w0.heap.size w0 w ∧ (S.r < n → v = .slice none 0 0 ∧ er = 9) ∧ (¬ S.r < n → er = 0 ∧ zza w v (zfb n (fun i => S.A i n / S.A i i)) ∧ w0.heap.size ≤ (base v).block)
structure RowsW (w : World) (B : Nat) (v : Value) (rs : List Value) (n k : Nat) (b : Nat → Rat) : Prop where
 own : zuc w 25 B 1 v n rs
 row : ∀ (i : Nat) (h : i < rs.length), i < k → zza w rs[i] [b i] ∧ (base rs[i]).block ≠ (base v).block
theorem rawV_ok {n : Nat} {b : Nat → Rat} (hf : ∀ i, i < n → fits (b i)) : ∀ x ∈ rawV n b, x.ok := by
 intro x hx
 obtain ⟨q, hq, rfl⟩ := List.mem_map.1 hx
 obtain ⟨j, hj, rfl⟩ := List.mem_map.1 hq
 exact RF.of_ok (hf j (List.mem_range.1 hj))
theorem zgk (n : Nat) (b : Nat → Rat) : (rawV n b).length = n := by unfold rawV; rw [List.length_map, zfa]
theorem zuc.cell_ne {w : World} {e : TypeId} {B size n : Nat} {v : Value} {xs : List Value} (h : zuc w e B size v n xs) (j : Nat) (hj : j < xs.length) (z : Int) : xs[j] ≠ .int .u32 z := by
 rcases h.own.2 with ⟨rfl, h0⟩ | ⟨g, cap, cur, rfl, hb, hg, hn, hm, hs, ht⟩
 ·have := h.own.1; rw [h0] at this; omega
 ·refine h.nl g rfl cur e _ hg xs[j] ?_ z
  rw [← List.take_append_drop (n * size) cur.toList, ht]
  exact List.mem_append_left _ (List.getElem_mem hj)
set_option maxRecDepth 100000 in
set_option maxHeartbeats 6400000 in
theorem solve_own (va vb : Value) (n : Nat) (A : Mx) (b : Nat → Rat) (w : World) (ha : zol w va n n A) (hb : zza w vb (zfb n b)) (hn1 : 1 ≤ n) (hn : n ≤ 24) (hf : fitM n n A) (hfb : ∀ i, i < n → fits (b i)) (hw : wtF n n A + wts (qs (rawV n b)) ≤ 1900)
 (hX : slimE false n (n + 1) n (zpa n A (fun i _ => b i))) (hq : ∀ i, i < n → (elim false n (zpa n A (fun i _ => b i)) n).r = n → (elim false n (zpa n A (fun i _ => b i)) n).A i i ≠ 0 ∧ fits ((elim false n (zpa n A (fun i _ => b i)) n).A i n / (elim false n (zpa n A (fun i _ => b i)) n).A i i)) :
 Calls Tryz.prog 98 #[va, vb] w (RSolveO w n (elim false n (zpa n A (fun i _ => b i)) n)) := by
 obtain ⟨i4, hi4, hz4, hs4, hy4⟩ := info_parts Tryz.infoRow
 have hMR := zth (P := Tryz.prog) 24 25 i4 Tryz.underlying24 hi4 hz4 hs4 hy4
 clear hi4 hz4 hs4 hy4
 have hvec : vecP (rawV n b) n := ⟨rawV_ok hfb, zgk n b⟩
 have HV := zH hvec
 have HF := zH hf
 have HFB := zH hfb
 have HX := zH hX
 have HQ := zH hq
 have hwi : (wtF n n A : Int) + (wts (qs (rawV n b)) : Nat) ≤ 1900 := by omega
 obtain ⟨W1, hW1⟩ : ∃ W, wtF n n A = W := ⟨_, rfl⟩
 obtain ⟨W2, hW2⟩ : ∃ W, wts (qs (rawV n b)) = W := ⟨_, rfl⟩
 rw [hW1, hW2] at hwi
 have HW1 := zH hW1
 have HW2 : Hid (wtsM [rawV n b] = W2) := zH (by rw [wtsM_one]; exact hW2)
 have HRB : Hid (zci w vb (rawV n b)) := zH hb.raw
 obtain ⟨vb1, vb2, vb3, rfl, _⟩ := id hb.sl
 have sa := ha.sl
 have la := ha.len
 have sb := hb.sl
 have lb : slen (.slice vb1 vb2 vb3) = n := by rw [hb.len, zfa]
 have hvb2 : vb2 = n := lb
 subst hvb2
 have HA := zH ha
 have HB := zH hb
 have i65 : vb2 ≤ 65536 := by omega
 have i1000 : vb2 ≤ 1000 := by omega
 have HO1 : Hid (∀ l ∈ [rawV vb2 b], ∀ x ∈ l, x.ok) := zH (fun l hl x hx => by
  have : l = rawV vb2 b := by simpa using hl
  subst this; exact hvec.1 x hx)
 have HO2 : Hid (∀ l ∈ [rawV vb2 b], l.length ≤ 65536) := zH (fun l hl => by
  have : l = rawV vb2 b := by simpa using hl
  subst this; rw [zgk]; exact i65)
 have HO3 : Hid ([rawV vb2 b].length ≤ 65536) := zH (by simp)
 clear hW1 hW2 ha hb hf hfb hX hq hw hvec lb
 go_enter Tryz.func98, Tryz.ntmps98
 go_wp2_with (first
  |(go_at_call 166; (with_reducible refine (square_lin va vb2 vb2 A _ HA.out hn1 hn hn1 hn HF.out rfl).mono ?_); rintro e1 w1 ⟨rfl, hb1⟩)
  |(go_at_call 167; (with_reducible refine (zvg _ (rawV vb2 b) vb2 _ (HRB.out.below hb1) i65).mono ?_); rw [decide_eq_true HV.out]; rintro e2 w2 ⟨rfl, hb2⟩
    have hB2 := zaa hb1 hb2)
  |(go_at_call 168; first
    |((with_reducible refine (weight_lin va vb2 vb2 A _ (HA.out.below hB2) hn hn HF.out).mono ?_); rw [HW1.out]; rintro e3 w3 ⟨rfl, hb3⟩
      have hB3 := zaa hB2 hb3
      have hb4 := zca w3 (.cells #[.slice vb1 vb2 vb3] 25)
      have hM4 := mat_one (zbf.new w3 #[.slice vb1 vb2 vb3] 25) (HRB.out.below (zaa hB3 hb4)))
    |((with_reducible refine (zuk _ [rawV vb2 b] _ hM4 HO1.out HO2.out HO3.out).mono ?_); rw [HW2.out]; rintro e5 w5 ⟨rfl, hb5⟩
      have hB5 := zaa (zaa hB3 hb4) hb5
      clear hM4))
  |(refine hMR w5 rfl _ _ rfl w5.heap.size _ vb2 rfl rfl rfl (by omega) (Nat.le_refl _) ?_; intro vL w6 hO6 hb6
    have HO6 := zH hO6
    have HB6 := zH hb6
    have HB5 := zH hB5
    have slL := hO6.sl
    have lnL := hO6.len
    clear hO6 hb6 hB5 hb5 hb4 hB3 hb3 hB2 hb2 hb1))
 go_loopg [35] (vb2) (fun g u35 wr => ∃ (k : Nat) (rs : List Value), k ≤ vb2 ∧ g = vb2 - k ∧ u35 = .int .i64 k ∧ RowsW wr w5.heap.size vL rs vb2 k b ∧ Below w5.heap.size w5 wr)
 case atStart => exact ⟨0, _, Nat.zero_le _, rfl, rfl, ⟨HO6.out, fun i h h2 => by omega⟩, HB6.out⟩
 case round =>
  obtain ⟨k, rs, hk, hg, rfl, hR, hbr⟩ := hrel
  obtain ⟨w2, hw2⟩ : ∃ w2, w2 = wr := ⟨_, rfl⟩
  subst hw2
  have HG := zH hg
  have HR := zH hR
  have HBR := zH hbr
  have hBw2 := zda HB5.out hbr HB5.out.size
  clear HO6 HB6 hg
  by_cases hkl : k < vb2
  ·have hkd : k < (zfb vb2 b).length := by rw [zfa]; exact hkl
   obtain ⟨ea, eb, g1, g2, g3, g4, g5⟩ := (HB.out.below hBw2).at' k hkd
   rw [ztb] at g1 g4 g5
   obtain ⟨ea1, ea2, ea3, rfl, _⟩ := g4.v.sl
   obtain ⟨eb1, eb2, eb3, rfl, _⟩ := g5.v.sl
   have hF : zya w2 (.agg #[.bool (decide (b k < 0)), .slice ea1 ea2 ea3, .slice eb1 eb2 eb3]) (b k) := ⟨_, _, rfl, g4, g5⟩
   have hbA := zca w2 (.cells #[.bool (decide (b k < 0)), .slice ea1 ea2 ea3, .slice eb1 eb2 eb3] 38)
   have hbB := zaa hbA (zca (w2.alloc (.cells #[.bool (decide (b k < 0)), .slice ea1 ea2 ea3, .slice eb1 eb2 eb3] 38)) (.cells #[.bool (decide (b k < 0)), .slice ea1 ea2 ea3, .slice eb1 eb2 eb3] 38))
   have hsz : (w2.alloc (.cells #[.bool (decide (b k < 0)), .slice ea1 ea2 ea3, .slice eb1 eb2 eb3] 38)).heap.size = w2.heap.size + 1 := by simp
   have hVN := zbf.new (w2.alloc (.cells #[.bool (decide (b k < 0)), .slice ea1 ea2 ea3, .slice eb1 eb2 eb3] 38)) #[.bool (decide (b k < 0)), .slice ea1 ea2 ea3, .slice eb1 eb2 eb3] 38
   rw [hsz] at hVN
   have hNew := fracs_one hVN (hF.below hbB)
   have hRl : rs.length = vb2 := by have := hR.own.clen; omega
   have hkr : k < rs.length := by rw [hRl]; exact hkl
   obtain ⟨s1, s2⟩ := (hR.own.below hbB).set1 k hkr (.slice (some ⟨w2.heap.size + 1, 0, none⟩) 1 1) (fun z => by simp)
   have hcL := (hR.own.below hbB).cell k hkr
   have hfL := (hR.own.below hbB).frozen k hkr
   have hnl : ∀ z, rs[k]'hkr ≠ .int .u32 z := by
    obtain ⟨g, hg1, _, _, _, _⟩ := hR.own.blk (by omega)
    intro z e
    have hx := hR.own
    exact (zuc.cell_ne hx k hkr z) e
   have hLlt : (base vL).block < w2.heap.size := by obtain ⟨g, _, e2, _, e3, _⟩ := hR.own.blk (by omega); omega
   have hLge : w5.heap.size ≤ (base vL).block := by obtain ⟨g, _, e2, e3, _, _⟩ := hR.own.blk (by omega); omega
   have hpL : (ptr vL k).block = (base vL).block := zra _ _
   have hRS : RowsW (((w2.alloc (.cells #[.bool (decide (b k < 0)), .slice ea1 ea2 ea3, .slice eb1 eb2 eb3] 38)).alloc (.cells #[.bool (decide (b k < 0)), .slice ea1 ea2 ea3, .slice eb1 eb2 eb3] 38)).setCell (ptr vL k) (.slice (some ⟨w2.heap.size + 1, 0, none⟩) 1 1)) w5.heap.size vL (rs.set k (.slice (some ⟨w2.heap.size + 1, 0, none⟩) 1 1)) vb2 (k + 1) b := by
    refine ⟨s1, fun i hi hik => ?_⟩
    have hi0 : i < rs.length := by simpa using hi
    by_cases h1 : i = k
    ·subst h1
     rw [List.getElem_set_self]
     have hb0 : (base (.slice (some ⟨w2.heap.size + 1, 0, none⟩) 1 1)).block = w2.heap.size + 1 := rfl
     exact ⟨hNew.setc (by rw [hb0, hpL]; omega) hcL hnl _, by rw [hb0]; omega⟩
    ·rw [List.getElem_set_ne (fun e => h1 e.symm)]
     obtain ⟨r1, r2⟩ := hR.row i hi0 (by omega)
     exact ⟨(r1.below hbB).setc (by rw [hpL]; exact r2) hcL hnl _, r2⟩
   have HRS := zH hRS
   have hBS : Below w5.heap.size w5 (((w2.alloc (.cells #[.bool (decide (b k < 0)), .slice ea1 ea2 ea3, .slice eb1 eb2 eb3] 38)).alloc (.cells #[.bool (decide (b k < 0)), .slice ea1 ea2 ea3, .slice eb1 eb2 eb3] 38)).setCell (ptr vL k) (.slice (some ⟨w2.heap.size + 1, 0, none⟩) 1 1)) := (zaa hbr hbB).setCell (by rw [hpL]; exact hLge) _
   have HBS := zH hBS
   clear hR hbr g4 g5 hF hbA hbB hVN hNew s1 s2 hnl hRS hBS hsz hBw2 hRl
   have i1 : (0 : Int) ≤ (k : Int) := by omega
   have i2 : (k : Int) < (vb2 : Nat) := by omega
   go_wp2_with fail
   go_roundg (vb2 - (k + 1))
   case measure => (have := HG.out; omega)
   case rel => exact ⟨k + 1, _, by omega, rfl, by go_num, HRS.out, HBS.out⟩
  ·obtain rfl : k = vb2 := by omega
   have hML : zol w2 vL k 1 (fun i _ => b i) := ⟨hR.own.sl, hR.own.len, fun i hi => by
    have hi2 : i < rs.length := by have := hR.own.clen; omega
    refine ⟨rs[i], hR.own.cell i hi2, ?_⟩
    have h := (hR.row i hi2 hi).1
    exact h⟩
   obtain ⟨l1, l2, l3, rfl, hl3⟩ := id hML.sl
   obtain ⟨bd, rfl⟩ : ∃ bd, l1 = some bd := by
    cases l1 with
    | none => exfalso; have h1 := hML.len; have h2 := hl3.2.2 rfl; have h3 : l2 = k := h1; omega
    | some bd => exact ⟨bd, rfl⟩
   have HML := zH hML
   have HQ1 : Hid (∀ i, i < k → (elim false k (zpa k A (fun i _ => b i)) k).r = k → (elim false k (zpa k A (fun i _ => b i)) k).A i i ≠ 0 ∧ ∀ j, j < 1 → fits ((elim false k (zpa k A (fun i _ => b i)) k).A i (k + j) / (elim false k (zpa k A (fun i _ => b i)) k).A i i)) := zH (fun i hi h => ⟨(HQ.out i hi h).1, fun j hj => by
    obtain rfl : j = 0 := by omega
    exact (HQ.out i hi h).2⟩)
   have hA2 := HA.out.below hBw2
   have HBW := zH hBw2
   clear hR hbr hML hBw2 hkl hl3
   by_cases hrk : (elim false k (zpa k A (fun i _ => b i)) k).r < k
   ·go_wp2_with (go_at_call 169; (with_reducible refine (right_lin va bd l2 l3 k 1 A (fun i _ => b i) _ hA2 HML.out hn1 hn (Nat.le_refl _) (by omega) HX.out HQ1.out).mono ?_); rintro e7 w7 ⟨v7, er7, rfl, hb7, hs7, _⟩; obtain ⟨rfl, rfl⟩ := hs7 hrk; clear hs7)
    go_ret2
    exact ⟨_, 9, rfl, zaa HBW.out hb7, fun _ => ⟨rfl, rfl⟩, fun h => absurd hrk h⟩
   ·go_wp2_with (first
     |(go_at_call 169; (with_reducible refine (right_lin va bd l2 l3 k 1 A (fun i _ => b i) _ hA2 HML.out hn1 hn (Nat.le_refl _) (by omega) HX.out HQ1.out).mono ?_); rintro e7 w7 ⟨v7, er7, rfl, hb7, _, hs7⟩; obtain ⟨rfl, hm7⟩ := hs7 hrk; clear hs7)
     |(go_at_call 170; (with_reducible refine (column_zero v7 k _ _ hm7 i1000).mono ?_); rintro e8 w8 ⟨v8, rfl, hf8, hb8, hn8⟩))
    go_ret2
    exact ⟨v8, 0, rfl, zaa (zaa HBW.out hb7) hb8, fun h => absurd h hrk, fun _ => ⟨rfl, hf8, Nat.le_trans (zaa HBW.out hb7).size hn8⟩⟩
section
variable {n : Nat} {A : Mx} {b : Nat → Rat}
def solE (n : Nat) (A : Mx) (b : Nat → Rat) (i : Nat) : Rat := (elim false n (zpa n A (fun i _ => b i)) n).A i n / (elim false n (zpa n A (fun i _ => b i)) n).A i i
theorem sol_eq (h : (elim false n (zpa n A (fun i _ => b i)) n).r = n) : ∀ i, i < n → sg n (fun j => A i j * solE n A b j) = b i := by
 intro i hi
 exact zel (A := A) (B := fun i _ => b i) h (c := 1) (q := 0) (by omega) i hi
end
structure SysOk (n : Nat) (A : Mx) (b x : Nat → Rat) : Prop where
 n1 : 1 ≤ n
 n24 : n ≤ 24
 fA : fitM n n A
 fb : ∀ i, i < n → fits (b i)
 fx : ∀ i, i < n → fits (x i)
 w : wtF n n A + wts (zfb n b) ≤ 1900
 reg : dt n A ≠ 0
 slim : slimE false n (n + 1) n (zpa n A (fun i _ => b i))
 eq : ∀ i, i < n → sg n (fun j => A i j * x j) = b i
theorem solve_reg (va vb : Value) (n : Nat) (A : Mx) (b x : Nat → Rat) (w : World) (ha : zol w va n n A) (hb : zza w vb (zfb n b)) (h : SysOk n A b x) :
 Calls Tryz.prog 98 #[va, vb] w fun e w' => ∃ v, e = .returned (.tuple #[v, .int .i64 0]) ∧ zza w' v (zfb n x) ∧ Below w.heap.size w w' ∧ w.heap.size ≤ (base v).block := by
 have hr := zye (B := fun i _ => b i) h.reg
 have hx : ∀ i, i < n → solE n A b i = x i := fun i hi => by
  rw [zei h.reg (sol_eq hr) hi, zei h.reg h.eq hi]
 refine (solve_own va vb n A b w ha hb h.n1 h.n24 h.fA h.fb (by have := h.w; unfold rawV; rw [zoh]; exact this) h.slim (fun i hi _ => ?_)).mono fun e w' ⟨v, er, he, hbl, _, h2⟩ => ?_
 ·exact ⟨(zxc hr n (Nat.le_refl _)).2.1 i hi, by have h3 := hx i hi; unfold solE at h3; rw [h3]; exact h.fx i hi⟩
 ·obtain ⟨rfl, h4, h5⟩ := h2 (by rw [hr]; exact Nat.lt_irrefl n)
  refine ⟨v, he, ?_, hbl, h5⟩
  have e1 : zfb n (fun i => (elim false n (zpa n A fun i _ => b i) n).A i n / (elim false n (zpa n A fun i _ => b i) n).A i i) = zfb n x := zve fun i hi => hx i hi
  rw [e1] at h4
  exact h4
end Go.Proofs.YtlpdkbmmbdfoiaaGreat
namespace Go.Proofs.YtlpdkbmmbdfoiaaGreat
def rtQ (l : LQ) : Mx := fun i j => (l.rates.getD i []).getD j 0
def exQ (l : LQ) (i : Nat) : Rat := l.exit.getD i 0
def stQ (l : LQ) (i : Nat) : Rat := l.start.getD i 0
def phA (l : LQ) : Mx := fun i j => if i = j then zpf l i else 0 - rtQ l i j
section
variable {l : LQ}
theorem zkc.rget (h : zkc l) {i : Nat} (hi : i < l.start.length) : l.rates.getD i [] = l.rates[i]'(h.rlen hi) := by
 rw [List.getD_eq_getElem?_getD, List.getElem?_eq_getElem (h.rlen hi)]; rfl
theorem zkc.rowlen (h : zkc l) {i : Nat} (hi : i < l.start.length) : (l.rates.getD i []).length = l.start.length := by
 rw [h.rget hi]; exact (h.row i (h.rlen hi)).1
theorem zzk {q : List Rat} {i : Nat} (hi : i < q.length) : q.getD i 0 ∈ q := by
 rw [List.getD_eq_getElem?_getD, List.getElem?_eq_getElem hi]; exact List.getElem_mem hi
theorem zkc.rt_lim (h : zkc l) {i j : Nat} (hi : i < l.start.length) (hj : j < l.start.length) : zqg (rtQ l i j) := by
 have h1 : j < (l.rates.getD i []).length := by rw [h.rowlen hi]; exact hj
 have h2 := zzk h1
 rw [h.rget hi] at h2
 unfold rtQ
 rw [h.rget hi]
 exact (h.row i (h.rlen hi)).2.1 _ h2
theorem zkc.ex_lim (h : zkc l) {i : Nat} (hi : i < l.start.length) : zqg (exQ l i) := h.ex _ (zzk (by rw [h.el]; exact hi))
theorem zkc.st_lim (h : zkc l) {i : Nat} (hi : i < l.start.length) : zqg (stQ l i) := h.st _ (zzk hi)
theorem zkc.rt_diag (h : zkc l) {i : Nat} (hi : i < l.start.length) : rtQ l i i = 0 := by
 unfold rtQ
 rw [h.rget hi]
 exact (h.row i (h.rlen hi)).2.2
theorem zkc.out_sg (h : zkc l) {i : Nat} (hi : i < l.start.length) : zpf l i = sg l.start.length (rtQ l i) + exQ l i := by
 unfold zpf
 rw [zvk, lsum_sg, h.rowlen hi]
 rfl
theorem zkc.escP (h : zkc l) : ∀ i, i < l.start.length → ∃ k, esc l.start.length (rtQ l) (zpf l) k i := by
 obtain ⟨d, hd⟩ := h.ends
 have key : ∀ m i, i < l.start.length → d i ≤ m → ∃ k, esc l.start.length (rtQ l) (zpf l) k i := by
  intro m
  induction m with
  | zero =>
    intro i hi hm
    obtain ⟨_, h1 | ⟨j, _, _, h4⟩⟩ := hd i hi
    ·refine ⟨0, ?_⟩
     show sg _ _ < _
     rw [h.out_sg hi]
     have h1' : 0 < exQ l i := h1
     grind
    ·omega
  | succ m ih =>
    intro i hi hm
    obtain ⟨_, h1 | ⟨j, h2, h3, h4⟩⟩ := hd i hi
    ·refine ⟨0, ?_⟩
     show sg _ _ < _
     rw [h.out_sg hi]
     have h1' : 0 < exQ l i := h1
     grind
    ·obtain ⟨k, hk⟩ := ih j h2 (by omega)
     exact ⟨k + 1, Or.inr ⟨j, h2, h3, hk⟩⟩
 intro i hi
 exact key _ i hi (Nat.le_refl _)
theorem phA_mm (l : LQ) : phA l = mmA (rtQ l) (zpf l) := by
 funext i j
 unfold phA mmA
 split
 ·rfl
 ·grind
theorem zkc.le_out (h : zkc l) {i : Nat} (hi : i < l.start.length) : sg l.start.length (rtQ l i) ≤ zpf l i := by
 rw [h.out_sg hi]
 have := (h.ex_lim hi).1
 grind
theorem zkc.reg (h : zkc l) : dt l.start.length (phA l) ≠ 0 := by
 rw [phA_mm]
 exact mm_dt (fun i hi => h.rt_diag hi) (fun i j hi hj => (h.rt_lim hi hj).1) (fun i hi => h.le_out hi) h.escP
def zhm (l : LQ) : Nat → Nat → Rat
 | 0 => fun _ => 1
 | m + 1 => solE l.start.length (phA l) (zhm l m)
theorem zkc.mom_eq (h : zkc l) (m : Nat) : ∀ i, i < l.start.length → sg l.start.length (fun j => phA l i j * zhm l (m + 1) j) = zhm l m i :=
 sol_eq (zye (B := fun i _ => zhm l m i) h.reg)
structure MomP (l : LQ) (n : Nat) (f : Nat) : Prop where
 sys : ∀ m, m < n → SysOk l.start.length (phA l) (zhm l m) (zhm l (m + 1))
 sca : ScaP l.start (zfb l.start.length (zhm l n)) f
structure SmL (D B : Nat) (l : LQ) : Prop where
 r : ∀ i j, i < l.start.length → j < l.start.length → over D B (rtQ l i j)
 e : ∀ i, i < l.start.length → over D B (exQ l i)
theorem SmL.out {D B : Nat} (hs : SmL D B l) (h : zkc l) (hD : D ≠ 0) {i : Nat} (hi : i < l.start.length) : over D (5 * B) (zpf l i) := by
 rw [h.out_sg hi]
 refine (over.add hD (over.sg hD fun j hj => hs.r i j hi hj) (hs.e i hi)).mono ?_
 have h1 := Nat.mul_le_mul_right B h.n4
 omega
theorem SmL.phA {D B : Nat} (hs : SmL D B l) (h : zkc l) (hD : D ≠ 0) : overT l.start.length l.start.length D (5 * B) (phA l) := fun i j hi hj => by
 unfold Go.Proofs.YtlpdkbmmbdfoiaaGreat.phA
 split
 ·exact hs.out h hD hi
 ·exact (over.sub hD (over.zero D 0) (hs.r i j hi hj)).mono (by omega)
end
end Go.Proofs.YtlpdkbmmbdfoiaaGreat
