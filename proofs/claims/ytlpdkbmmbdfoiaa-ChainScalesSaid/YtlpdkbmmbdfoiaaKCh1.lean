/-
  package chain: number, above, weight, row.
-/
import Derived.Test.YtlpdkbmmbdfoiaaKLi11
import Derived.Test.YtlpdkbmmbdfoiaaKDt3
import Derived.Test.YtlpdkbmmbdfoiaaKRep
import Derived.Test.YtlpdkbmmbdfoiaaKLi9
import Derived.Test.YtlpdkbmmbdfoiaaKOwF
import Derived.Test.YtlpdkbmmbdfoiaaKGn
set_option linter.unusedVariables false
set_option linter.unusedSimpArgs false
namespace Go.Proofs.Ytlpdkbmmbdfoiaa
open Go.RowKit
set_option maxRecDepth 100000 in
set_option maxHeartbeats 3200000 in
theorem column_own (va : Value) (n m k : Nat) (A : Mx) (w : World) (ha : MatF w va n m A) (hk : k < m) (hn : n ≤ 1000) (hm : m ≤ 1000) :
 Calls Try.prog 65 #[va, .int .i64 k] w fun e w' => ∃ v, e = .returned v ∧ FracsC w' v (rowL n (fun i => A i k)) ∧ Below w.heap.size w w' ∧ w.heap.size ≤ (base v).block := by
 have sa := ha.sl
 have la := ha.len
 obtain ⟨i0, hi, hz0, hz1, hz2⟩ := info_parts Try.infoF
 have hM := zph (P := Try.prog) 23 32 i0 Try.underlying23 hi hz0 hz1 (by rw [hz2]; decide)
 clear hi hz0 hz1 hz2
 go_enter Try.func65, Try.ntmps65
 go_wp2_with (refine hM _ rfl _ _ rfl w.heap.size _ n rfl rfl rfl (by omega) (Nat.le_refl _) ?_; intro v w1 hown hb1 hvb; have sv := hown.sl; have lv := hown.len)
 clear hM
 go_loopw [12] (fun u12 wr => ∃ (i : Nat), i ≤ n ∧ u12 = .int .i64 i ∧ OwnFr wr 32 w.heap.size v n ∧ (∀ j, j < i → ElemC wr v j (A j k)) ∧ Below w.heap.size w wr) (fun u12 _ => n - (intOf u12).toNat)
 case atStart => exact ⟨0, Nat.zero_le _, rfl, hown, fun j h => by omega, hb1⟩
 case round =>
  obtain ⟨i, hin, rfl, ho, he, hbr⟩ := hrel
  clear hown hb1
  have HE := zH he
  clear he
  by_cases hil : i < n
  ·obtain ⟨ri, hc1, hr1⟩ := (ha.below hbr).row i hil
   have slI := hr1.sl
   have lnI : slen ri = m := by rw [hr1.len, rowL_length]
   obtain ⟨ea, eb, g1, g2, g3, g4, g5⟩ := hr1.at' k (by rw [rowL_length]; exact hk)
   rw [rowL_get] at g1 g4 g5
   obtain ⟨ea1, ea2, ea3, rfl, _⟩ := g4.v.sl
   obtain ⟨eb1, eb2, eb3, rfl, _⟩ := g5.v.sl
   have hF : FracC wr (.agg #[.bool (decide (A i k < 0)), .slice ea1 ea2 ea3, .slice eb1 eb2 eb3]) (A i k) := ⟨_, _, rfl, g4, g5⟩
   obtain ⟨c0, d0, _⟩ := ho.cell (i * 3) (by omega)
   obtain ⟨c1, d1, _⟩ := ho.cell (i * 3 + 1) (by omega)
   obtain ⟨c2, d2, _⟩ := ho.cell (i * 3 + 2) (by omega)
   have f0 := ho.frozen (i * 3)
   have f1 := ho.frozen (i * 3 + 1)
   have f2 := ho.frozen (i * 3 + 2)
   have n01 := ho.inj (show i * 3 ≠ i * 3 + 1 by omega)
   have n02 := ho.inj (show i * 3 ≠ i * 3 + 2 by omega)
   have n12 := ho.inj (show i * 3 + 1 ≠ i * 3 + 2 by omega)
   have hs3 := ho.set3 i (.bool (decide (A i k < 0))) (.slice ea1 ea2 ea3) (.slice eb1 eb2 eb3) (fun z => by simp) (fun z => by simp) (fun z => by simp)
   have HS3 := zH hs3
   have HF := zH hF
   have HO := zH ho
   clear hs3 hr1 g4 g5 hF ho
   have i1 : (0 : Int) ≤ (i : Int) := by omega
   have i2 : (i : Int) < (n : Nat) := by omega
   have i3 : (0 : Int) ≤ (k : Int) := by omega
   have i4 : (k : Int) < (m : Nat) := by omega
   go_wp2_with fail
   go_roundw
   case rel =>
    refine ⟨i + 1, hil, by go_num, HS3.out.1, fun j hj => ?_, hbr.trans HS3.out.2⟩
    rcases Nat.lt_or_ge j i with h6 | h6
    ·exact ElemC.set3_other HO.out hil (by omega) (HE.out j h6) _ _ _ (fun z => by simp) (fun z => by simp)
    ·obtain rfl : j = i := by omega
     exact ElemC.set3 HO.out hil HF.out
   case measure => simp [intOf]; omega
  ·obtain rfl : i = n := by omega
   go_wp2_with fail
   go_ret
   exact ⟨v, rfl, ho.fracs (rowL_length _ _) (fun j hj => by rw [rowL_length] at hj; rw [rowL_get]; exact HE.out j hj), hbr, ho.block.1⟩
def zal (n : Nat) (b : Nat → Rat) : List RF := (rowL n b).map RF.of
@[go_sem] theorem slen_lit (a : Option Addr) (n c : Nat) : slen (.slice a n c) = n := rfl
theorem column_zero (va : Value) (n : Nat) (A : Mx) (w : World) (ha : MatF w va n 1 A) (hn : n ≤ 1000) :
 Calls Try.prog 65 #[va, .int .i64 0] w fun e w' => ∃ v, e = .returned v ∧ FracsC w' v (rowL n (fun i => A i 0)) ∧ Below w.heap.size w w' ∧ w.heap.size ≤ (base v).block :=
 column_own va n 1 0 A w ha (by decide) hn (by decide)
def RSolveO (w0 : World) (n : Nat) (S : St) (e : Ending) (w : World) : Prop :=
 ∃ v er, e = .returned (.tuple #[v, .int .i64 er]) ∧ Below w0.heap.size w0 w ∧ (S.r < n → v = .slice none 0 0 ∧ er = 9) ∧ (¬ S.r < n → er = 0 ∧ FracsC w v (rowL n (fun i => S.A i n / S.A i i)) ∧ w0.heap.size ≤ (base v).block)
structure RowsW (w : World) (B : Nat) (v : Value) (rs : List Value) (n k : Nat) (b : Nat → Rat) : Prop where
 own : OwnR w 23 B 1 v n rs
 row : ∀ (i : Nat) (h : i < rs.length), i < k → FracsC w rs[i] [b i] ∧ (base rs[i]).block ≠ (base v).block
theorem rawV_ok {n : Nat} {b : Nat → Rat} (hf : ∀ i, i < n → fits (b i)) : ∀ x ∈ zal n b, x.ok := by
 intro x hx
 obtain ⟨q, hq, rfl⟩ := List.mem_map.1 hx
 obtain ⟨j, hj, rfl⟩ := List.mem_map.1 hq
 exact RF.of_ok (hf j (List.mem_range.1 hj))
theorem zvf (n : Nat) (b : Nat → Rat) : (zal n b).length = n := by unfold zal; rw [List.length_map, rowL_length]
theorem OwnR.cell_ne {w : World} {e : TypeId} {B size n : Nat} {v : Value} {xs : List Value} (h : OwnR w e B size v n xs) (j : Nat) (hj : j < xs.length) (z : Int) : xs[j] ≠ .int .u32 z := by
 rcases h.own.2 with ⟨rfl, h0⟩ | ⟨g, cap, cur, rfl, hb, hg, hn, hm, hs, ht⟩
 ·have := h.own.1; rw [h0] at this; omega
 ·refine h.nl g rfl cur e _ hg xs[j] ?_ z
  rw [← List.take_append_drop (n * size) cur.toList, ht]
  exact List.mem_append_left _ (List.getElem_mem hj)
set_option maxRecDepth 100000 in
set_option maxHeartbeats 6400000 in
theorem solve_own (va vb : Value) (n : Nat) (A : Mx) (b : Nat → Rat) (w : World) (ha : MatF w va n n A) (hb : FracsC w vb (rowL n b)) (hn1 : 1 ≤ n) (hn : n ≤ 24) (hf : fitM n n A) (hfb : ∀ i, i < n → fits (b i)) (hw : wtF n n A + wts (qs (zal n b)) ≤ 1900)
 (hX : slimE false n (n + 1) n (zga n A (fun i _ => b i))) (hq : ∀ i, i < n → (elim false n (zga n A (fun i _ => b i)) n).r = n → (elim false n (zga n A (fun i _ => b i)) n).A i i ≠ 0 ∧ fits ((elim false n (zga n A (fun i _ => b i)) n).A i n / (elim false n (zga n A (fun i _ => b i)) n).A i i)) :
 Calls Try.prog 28 #[va, vb] w (RSolveO w n (elim false n (zga n A (fun i _ => b i)) n)) := by
 obtain ⟨i4, hi4, hz4, hs4, hy4⟩ := info_parts Try.infoRow
 have hMR := zwg (P := Try.prog) 24 23 i4 Try.underlying24 hi4 hz4 hs4 hy4
 clear hi4 hz4 hs4 hy4
 have hvec : vecP (zal n b) n := ⟨rawV_ok hfb, zvf n b⟩
 have HV := zH hvec
 have HF := zH hf
 have HFB := zH hfb
 have HX := zH hX
 have HQ := zH hq
 have hwi : (wtF n n A : Int) + (wts (qs (zal n b)) : Nat) ≤ 1900 := by omega
 obtain ⟨W1, hW1⟩ : ∃ W, wtF n n A = W := ⟨_, rfl⟩
 obtain ⟨W2, hW2⟩ : ∃ W, wts (qs (zal n b)) = W := ⟨_, rfl⟩
 rw [hW1, hW2] at hwi
 have HW1 := zH hW1
 have HW2 : Hid (zfi [zal n b] = W2) := zH (by rw [zee]; exact hW2)
 have HRB : Hid (zgc w vb (zal n b)) := zH hb.raw
 obtain ⟨vb1, vb2, vb3, rfl, _⟩ := id hb.sl
 have sa := ha.sl
 have la := ha.len
 have sb := hb.sl
 have lb : slen (.slice vb1 vb2 vb3) = n := by rw [hb.len, rowL_length]
 have hvb2 : vb2 = n := lb
 subst hvb2
 have HA := zH ha
 have HB := zH hb
 have i65 : vb2 ≤ 65536 := by omega
 have i1000 : vb2 ≤ 1000 := by omega
 have HO1 : Hid (∀ l ∈ [zal vb2 b], ∀ x ∈ l, x.ok) := zH (fun l hl x hx => by
  have : l = zal vb2 b := by simpa using hl
  subst this; exact hvec.1 x hx)
 have HO2 : Hid (∀ l ∈ [zal vb2 b], l.length ≤ 65536) := zH (fun l hl => by
  have : l = zal vb2 b := by simpa using hl
  subst this; rw [zvf]; exact i65)
 have HO3 : Hid ([zal vb2 b].length ≤ 65536) := zH (by simp)
 clear hW1 hW2 ha hb hf hfb hX hq hw hvec lb
 go_enter Try.func28, Try.ntmps28
 go_wp2_with (first
  |(go_at_call 61; (with_reducible refine (square_lin va vb2 vb2 A _ HA.out hn1 hn hn1 hn HF.out rfl).mono ?_); rintro e1 w1 ⟨rfl, hb1⟩)
  |(go_at_call 62; (with_reducible refine (zxf _ (zal vb2 b) vb2 _ (HRB.out.below hb1) i65).mono ?_); rw [decide_eq_true HV.out]; rintro e2 w2 ⟨rfl, hb2⟩
    have hB2 := below_then hb1 hb2)
  |(go_at_call 63; first
    |((with_reducible refine (weight_lin va vb2 vb2 A _ (HA.out.below hB2) hn hn HF.out).mono ?_); rw [HW1.out]; rintro e3 w3 ⟨rfl, hb3⟩
      have hB3 := below_then hB2 hb3
      have hb4 := below_alloc w3 (.cells #[.slice vb1 vb2 vb3] 23)
      have hM4 := mat_one (zpe.new w3 #[.slice vb1 vb2 vb3] 23) (HRB.out.below (below_then hB3 hb4)))
    |((with_reducible refine (zsj _ [zal vb2 b] _ hM4 HO1.out HO2.out HO3.out).mono ?_); rw [HW2.out]; rintro e5 w5 ⟨rfl, hb5⟩
      have hB5 := below_then (below_then hB3 hb4) hb5
      clear hM4))
  |(refine hMR w5 rfl _ _ rfl w5.heap.size _ vb2 rfl rfl rfl (by omega) (Nat.le_refl _) ?_; intro vL w6 hO6 hb6
    have HO6 := zH hO6
    have HB6 := zH hb6
    have HB5 := zH hB5
    have slL := hO6.sl
    have lnL := hO6.len
    clear hO6 hb6 hB5 hb5 hb4 hB3 hb3 hB2 hb2 hb1))
 go_loopg [35] (vb2) (fun g u35 wr => ∃ (k : Nat) (rs : List Value), k ≤ vb2 ∧ g = vb2 - k ∧ u35 = .int .i64 k ∧ RowsW wr w5.heap.size vL rs vb2 k b ∧ Below w5.heap.size w5 wr)
 case atStart => exact ⟨0, _, Nat.zero_le _, rfl, rfl, ⟨HO6.out, fun i h h2 => by omega⟩, HB6.out⟩
 case round =>
  obtain ⟨k, rs, hk, hg, rfl, hR, hbr⟩ := hrel
  obtain ⟨w2, hw2⟩ : ∃ w2, w2 = wr := ⟨_, rfl⟩
  subst hw2
  have HG := zH hg
  have HR := zH hR
  have HBR := zH hbr
  have hBw2 := below_then2 HB5.out hbr HB5.out.size
  clear HO6 HB6 hg
  by_cases hkl : k < vb2
  ·have hkd : k < (rowL vb2 b).length := by rw [rowL_length]; exact hkl
   obtain ⟨ea, eb, g1, g2, g3, g4, g5⟩ := (HB.out.below hBw2).at' k hkd
   rw [rowL_get] at g1 g4 g5
   obtain ⟨ea1, ea2, ea3, rfl, _⟩ := g4.v.sl
   obtain ⟨eb1, eb2, eb3, rfl, _⟩ := g5.v.sl
   have hF : FracC w2 (.agg #[.bool (decide (b k < 0)), .slice ea1 ea2 ea3, .slice eb1 eb2 eb3]) (b k) := ⟨_, _, rfl, g4, g5⟩
   have hbA := below_alloc w2 (.cells #[.bool (decide (b k < 0)), .slice ea1 ea2 ea3, .slice eb1 eb2 eb3] 32)
   have hbB := below_then hbA (below_alloc (w2.alloc (.cells #[.bool (decide (b k < 0)), .slice ea1 ea2 ea3, .slice eb1 eb2 eb3] 32)) (.cells #[.bool (decide (b k < 0)), .slice ea1 ea2 ea3, .slice eb1 eb2 eb3] 32))
   have hsz : (w2.alloc (.cells #[.bool (decide (b k < 0)), .slice ea1 ea2 ea3, .slice eb1 eb2 eb3] 32)).heap.size = w2.heap.size + 1 := by simp
   have hVN := zpe.new (w2.alloc (.cells #[.bool (decide (b k < 0)), .slice ea1 ea2 ea3, .slice eb1 eb2 eb3] 32)) #[.bool (decide (b k < 0)), .slice ea1 ea2 ea3, .slice eb1 eb2 eb3] 32
   rw [hsz] at hVN
   have hNew := fracs_one hVN (hF.below hbB)
   have hRl : rs.length = vb2 := by have := hR.own.clen; omega
   have hkr : k < rs.length := by rw [hRl]; exact hkl
   obtain ⟨s1, s2⟩ := (hR.own.below hbB).set1 k hkr (.slice (some ⟨w2.heap.size + 1, 0, none⟩) 1 1) (fun z => by simp)
   have hcL := (hR.own.below hbB).cell k hkr
   have hfL := (hR.own.below hbB).frozen k hkr
   have hnl : ∀ z, rs[k]'hkr ≠ .int .u32 z := by
    obtain ⟨g, hg1, _, _, _, _⟩ := hR.own.blk (by omega)
    intro z e
    have hx := hR.own
    exact (OwnR.cell_ne hx k hkr z) e
   have hLlt : (base vL).block < w2.heap.size := by obtain ⟨g, _, e2, _, e3, _⟩ := hR.own.blk (by omega); omega
   have hLge : w5.heap.size ≤ (base vL).block := by obtain ⟨g, _, e2, e3, _, _⟩ := hR.own.blk (by omega); omega
   have hpL : (ptr vL k).block = (base vL).block := zfa _ _
   have hRS : RowsW (((w2.alloc (.cells #[.bool (decide (b k < 0)), .slice ea1 ea2 ea3, .slice eb1 eb2 eb3] 32)).alloc (.cells #[.bool (decide (b k < 0)), .slice ea1 ea2 ea3, .slice eb1 eb2 eb3] 32)).setCell (ptr vL k) (.slice (some ⟨w2.heap.size + 1, 0, none⟩) 1 1)) w5.heap.size vL (rs.set k (.slice (some ⟨w2.heap.size + 1, 0, none⟩) 1 1)) vb2 (k + 1) b := by
    refine ⟨s1, fun i hi hik => ?_⟩
    have hi0 : i < rs.length := by simpa using hi
    by_cases h1 : i = k
    ·subst h1
     rw [List.getElem_set_self]
     have hb0 : (base (.slice (some ⟨w2.heap.size + 1, 0, none⟩) 1 1)).block = w2.heap.size + 1 := rfl
     exact ⟨hNew.setc (by rw [hb0, hpL]; omega) hcL hnl _, by rw [hb0]; omega⟩
    ·rw [List.getElem_set_ne (fun e => h1 e.symm)]
     obtain ⟨r1, r2⟩ := hR.row i hi0 (by omega)
     exact ⟨(r1.below hbB).setc (by rw [hpL]; exact r2) hcL hnl _, r2⟩
   have HRS := zH hRS
   have hBS : Below w5.heap.size w5 (((w2.alloc (.cells #[.bool (decide (b k < 0)), .slice ea1 ea2 ea3, .slice eb1 eb2 eb3] 32)).alloc (.cells #[.bool (decide (b k < 0)), .slice ea1 ea2 ea3, .slice eb1 eb2 eb3] 32)).setCell (ptr vL k) (.slice (some ⟨w2.heap.size + 1, 0, none⟩) 1 1)) := (below_then hbr hbB).setCell (by rw [hpL]; exact hLge) _
   have HBS := zH hBS
   clear hR hbr g4 g5 hF hbA hbB hVN hNew s1 s2 hnl hRS hBS hsz hBw2 hRl
   have i1 : (0 : Int) ≤ (k : Int) := by omega
   have i2 : (k : Int) < (vb2 : Nat) := by omega
   go_wp2_with fail
   go_roundg (vb2 - (k + 1))
   case measure => (have := HG.out; omega)
   case rel => exact ⟨k + 1, _, by omega, rfl, by go_num, HRS.out, HBS.out⟩
  ·obtain rfl : k = vb2 := by omega
   have hML : MatF w2 vL k 1 (fun i _ => b i) := ⟨hR.own.sl, hR.own.len, fun i hi => by
    have hi2 : i < rs.length := by have := hR.own.clen; omega
    refine ⟨rs[i], hR.own.cell i hi2, ?_⟩
    have h := (hR.row i hi2 hi).1
    exact h⟩
   obtain ⟨l1, l2, l3, rfl, hl3⟩ := id hML.sl
   obtain ⟨bd, rfl⟩ : ∃ bd, l1 = some bd := by
    cases l1 with
    | none => exfalso; have h1 := hML.len; have h2 := hl3.2.2 rfl; have h3 : l2 = k := h1; omega
    | some bd => exact ⟨bd, rfl⟩
   have HML := zH hML
   have HQ1 : Hid (∀ i, i < k → (elim false k (zga k A (fun i _ => b i)) k).r = k → (elim false k (zga k A (fun i _ => b i)) k).A i i ≠ 0 ∧ ∀ j, j < 1 → fits ((elim false k (zga k A (fun i _ => b i)) k).A i (k + j) / (elim false k (zga k A (fun i _ => b i)) k).A i i)) := zH (fun i hi h => ⟨(HQ.out i hi h).1, fun j hj => by
    obtain rfl : j = 0 := by omega
    exact (HQ.out i hi h).2⟩)
   have hA2 := HA.out.below hBw2
   have HBW := zH hBw2
   clear hR hbr hML hBw2 hkl hl3
   by_cases hrk : (elim false k (zga k A (fun i _ => b i)) k).r < k
   ·go_wp2_with (go_at_call 64; (with_reducible refine (right_lin va bd l2 l3 k 1 A (fun i _ => b i) _ hA2 HML.out hn1 hn (Nat.le_refl _) (by omega) HX.out HQ1.out).mono ?_); rintro e7 w7 ⟨v7, er7, rfl, hb7, hs7, _⟩; obtain ⟨rfl, rfl⟩ := hs7 hrk; clear hs7)
    go_ret2
    exact ⟨_, 9, rfl, below_then HBW.out hb7, fun _ => ⟨rfl, rfl⟩, fun h => absurd hrk h⟩
   ·go_wp2_with (first
     |(go_at_call 64; (with_reducible refine (right_lin va bd l2 l3 k 1 A (fun i _ => b i) _ hA2 HML.out hn1 hn (Nat.le_refl _) (by omega) HX.out HQ1.out).mono ?_); rintro e7 w7 ⟨v7, er7, rfl, hb7, _, hs7⟩; obtain ⟨rfl, hm7⟩ := hs7 hrk; clear hs7)
     |(go_at_call 65; (with_reducible refine (column_zero v7 k _ _ hm7 i1000).mono ?_); rintro e8 w8 ⟨v8, rfl, hf8, hb8, hn8⟩))
    go_ret2
    exact ⟨v8, 0, rfl, below_then (below_then HBW.out hb7) hb8, fun h => absurd h hrk, fun _ => ⟨rfl, hf8, Nat.le_trans (below_then HBW.out hb7).size hn8⟩⟩
section
variable {n : Nat} {A : Mx} {b : Nat → Rat}
def solE (n : Nat) (A : Mx) (b : Nat → Rat) (i : Nat) : Rat := (elim false n (zga n A (fun i _ => b i)) n).A i n / (elim false n (zga n A (fun i _ => b i)) n).A i i
theorem sol_eq (h : (elim false n (zga n A (fun i _ => b i)) n).r = n) : ∀ i, i < n → sg n (fun j => A i j * solE n A b j) = b i := by
 intro i hi
 exact zbk (A := A) (B := fun i _ => b i) h (c := 1) (q := 0) (by omega) i hi
end
end Go.Proofs.Ytlpdkbmmbdfoiaa
namespace Go.Proofs.Ytlpdkbmmbdfoiaa
theorem zsl {n : Nat} {l : List Nat} {f : Nat → Rat} (hp : l.Pairwise (· < ·)) (hb : ∀ x, x ∈ l → x < n) : sg n f = sg l.length (fun i => f (l.getD i 0)) + sg n fun t => if t ∈ l then 0 else f t := by
 have h1 := zzi (n := n) (l := l) (f := fun t => if t ∈ l then f t else 0) hp hb (fun t ht h => by simp [h])
 have h2 : sg l.length (fun i => f (l.getD i 0)) = sg l.length fun i => if l.getD i 0 ∈ l then f (l.getD i 0) else 0 := zea fun i hi => by rw [if_pos (zna hi)]
 rw [h2, ← h1, ← zre]
 refine zea fun t ht => ?_
 by_cases h : t ∈ l
 ·simp [h, Rat.add_zero]
 ·simp [h, Rat.zero_add]
theorem zuk {l : List Nat} (hp : l.Pairwise (· < ·)) {i : Nat} (hi : i < l.length) : l.idxOf (l.getD i 0) = i := by
 have hn : l.Nodup := hp.imp (fun h => Nat.ne_of_lt h)
 rw [List.getD_eq_getElem?_getD, List.getElem?_eq_getElem hi]
 exact List.Nodup.idxOf_getElem hn i hi
theorem LK.eq {n : Nat} {r : Mx} {lost : Nat → Prop} {l : List Nat} (hm : MC n r lost) (h : LK n r lost l) {X b : Nat → Rat} {i : Nat} (hi : i < l.length) (he : sg n (r (l.getD i 0)) * X (l.getD i 0) = b (l.getD i 0) + sg n fun t => r (l.getD i 0) t * X t) :
 sg l.length (fun j => mmA (fun i j => r (l.getD i 0) (l.getD j 0)) (fun i => sg n (r (l.getD i 0))) i j * X (l.getD j 0)) = b (l.getD i 0) + sg n fun t => if t ∈ l then 0 else r (l.getD i 0) t * X t := by
 rw [mmA_row (n := l.length) (r := fun i j => r (l.getD i 0) (l.getD j 0)) (o := fun i => sg n (r (l.getD i 0))) (fun i hi => hm.d _ (h.lt _ (zna hi))) hi, he, zsl (l := l) h.so h.lt]
 grind
theorem LK.ex {n : Nat} {r : Mx} {lost : Nat → Prop} {l : List Nat} (hm : MC n r lost) (h : LK n r lost l) (z b : Nat → Rat) : ∃ X : Nat → Rat, (∀ t, t ∉ l → X t = z t) ∧ ∀ s, s ∈ l → sg n (r s) * X s = b s + sg n fun t => r s t * X t := by
 have hdt := h.dt hm
 have hx := sol_eq (b := fun i => b (l.getD i 0) + sg n fun t => if t ∈ l then 0 else r (l.getD i 0) t * z t) (zye (B := fun i _ => b (l.getD i 0) + sg n fun t => if t ∈ l then 0 else r (l.getD i 0) t * z t) hdt)
 generalize solE l.length (mmA (fun i j => r (l.getD i 0) (l.getD j 0)) fun i => sg n (r (l.getD i 0))) (fun i => b (l.getD i 0) + sg n fun t => if t ∈ l then 0 else r (l.getD i 0) t * z t) = x at hx
 refine ⟨fun t => if t ∈ l then x (l.idxOf t) else z t, fun t ht => by simp [ht], fun s hs => ?_⟩
 obtain ⟨i, hi, rfl⟩ := zem hs
 have h1 := hx i hi
 show sg n (r (l.getD i 0)) * (if l.getD i 0 ∈ l then x (l.idxOf (l.getD i 0)) else z (l.getD i 0)) = b (l.getD i 0) + sg n fun t => r (l.getD i 0) t * (if t ∈ l then x (l.idxOf t) else z t)
 rw [mmA_row (n := l.length) (r := fun i j => r (l.getD i 0) (l.getD j 0)) (o := fun i => sg n (r (l.getD i 0))) (fun i hi => hm.d _ (h.lt _ (zna hi))) hi] at h1
 have e1 : sg l.length (fun j => r (l.getD i 0) (l.getD j 0) * (if l.getD j 0 ∈ l then x (l.idxOf (l.getD j 0)) else z (l.getD j 0))) = sg l.length fun j => r (l.getD i 0) (l.getD j 0) * x j := zea fun j hj => by
  rw [if_pos (zna hj), zuk h.so hj]
 have e2 : (sg n fun t => if t ∈ l then 0 else r (l.getD i 0) t * (if t ∈ l then x (l.idxOf t) else z t)) = sg n fun t => if t ∈ l then 0 else r (l.getD i 0) t * z t := zea fun t _ => by
  by_cases ht : t ∈ l <;> simp [ht]
 rw [zsl (l := l) h.so h.lt (f := fun t => r (l.getD i 0) t * if t ∈ l then x (l.idxOf t) else z t), e1, e2, if_pos (zna hi), zuk h.so hi]
 grind
def RC1 (n : Nat) (r : Mx) (S : Nat → Prop) : Nat → Prop := Clo n S fun i j => 0 < r i j
theorem FT.back {n : Nat} {r : Mx} {lost : Nat → Prop} {s t : Nat} (h : FT n r lost t) (hs : s < n) (hp : 0 < r s t) : FT n r lost s := Clo.step h hs hp
structure HitF (n : Nat) (r : Mx) (lost : Nat → Prop) (H : Nat → Rat) : Prop where
 one : ∀ s, s < n → lost s → H s = 1
 no : ∀ s, s < n → ¬ FT n r lost s → H s = 0
 eq : ∀ s, s < n → ¬ lost s → sg n (r s) * H s = sg n fun t => r s t * H t
structure TimeF (n : Nat) (r : Mx) (lost : Nat → Prop) (U : Nat → Prop) (T : Nat → Rat) : Prop where
 zero : ∀ s, s < n → lost s → T s = 0
 eq : ∀ s, s < n → ¬ lost s → U s → sg n (r s) * T s = 1 + sg n fun t => r s t * T t
open Classical in
/-- The states below n with a property, in order. -/
noncomputable def lsP (n : Nat) (p : Nat → Prop) : List Nat := (List.range n).filter fun s => decide (p s)
theorem zdb {n : Nat} {p : Nat → Prop} {s : Nat} : s ∈ lsP n p ↔ s < n ∧ p s := by
 classical
 unfold lsP
 rw [List.mem_filter, List.mem_range, decide_eq_true_iff]
theorem lsP_so (n : Nat) (p : Nat → Prop) : (lsP n p).Pairwise (· < ·) := List.Pairwise.filter _ List.pairwise_lt_range
theorem hit_ex {n : Nat} {r : Mx} {lost : Nat → Prop} (hm : MC n r lost) : ∃ H, HitF n r lost H := by
 classical
 have hl : LK n r lost (lsP n fun s => FT n r lost s ∧ ¬ lost s) := {
  so := lsP_so _ _
  lt := fun s h => (zdb.1 h).1
  nl := fun s h => (zdb.1 h).2.2
  ft := fun s h => (zdb.1 h).2.1
  cl := fun s t h ht hp => by
   by_cases h1 : lost t
   ·exact Or.inr (Or.inl h1)
   ·by_cases h2 : FT n r lost t
    ·exact Or.inl (zdb.2 ⟨ht, h2, h1⟩)
    ·exact Or.inr (Or.inr h2) }
 obtain ⟨H, h1, h2⟩ := hl.ex hm (fun s => if lost s then 1 else 0) (fun _ => 0)
 have hno : ∀ s, s < n → ¬ FT n r lost s → H s = 0 := fun s hs h => by
  rw [h1 s (fun hmem => h (zdb.1 hmem).2.1), if_neg (fun hl => h (Clo.base hs hl))]
 refine ⟨H, fun s hs h => by rw [h1 s (fun hmem => (zdb.1 hmem).2.2 h), if_pos h], hno, fun s hs h => ?_⟩
 by_cases hf : FT n r lost s
 ·rw [h2 s (zdb.2 ⟨hs, hf, h⟩), Rat.zero_add]
 ·rw [hno s hs hf, Rat.mul_zero]
  refine (sg_zero' fun t ht => ?_).symm
  by_cases hp : 0 < r s t
  ·rw [hno t ht (fun h3 => hf (h3.back hs hp)), Rat.mul_zero]
  ·have := hm.nn s t hs ht
   have : r s t = 0 := by grind
   rw [this, Rat.zero_mul]
def znl (n : Nat) (r : Mx) (lost : Nat → Prop) (s : Nat) : Prop := ∀ t, RC1 n r (fun j => j = s) t → FT n r lost t
theorem RC1.of {n : Nat} {r : Mx} {s t : Nat} (hs : s < n) (ht : t < n) (hp : 0 < r s t) : ∀ {u : Nat}, RC1 n r (fun j => j = t) u → RC1 n r (fun j => j = s) u := by
 intro u h
 induction h with
 | base hi hS => subst hS; exact Clo.step (Clo.base hs rfl) hi hp
 | step hc hj hL ih => exact Clo.step ih hj hL
theorem znl.step {n : Nat} {r : Mx} {lost : Nat → Prop} {s t : Nat} (h : znl n r lost s) (hs : s < n) (ht : t < n) (hp : 0 < r s t) : znl n r lost t := fun u hu => h u (RC1.of hs ht hp hu)
theorem znl.ft {n : Nat} {r : Mx} {lost : Nat → Prop} {s : Nat} (h : znl n r lost s) (hs : s < n) : FT n r lost s := h s (Clo.base hs rfl)
theorem sure_lk (n : Nat) (r : Mx) (lost : Nat → Prop) : LK n r lost (lsP n fun s => znl n r lost s ∧ ¬ lost s) where
 so := lsP_so _ _
 lt := fun s h => (zdb.1 h).1
 nl := fun s h => (zdb.1 h).2.2
 ft := fun s h => (zdb.1 h).2.1.ft (zdb.1 h).1
 cl := fun s t h ht hp => by
  have h0 := zdb.1 h
  by_cases h1 : lost t
  ·exact Or.inr (Or.inl h1)
  ·exact Or.inl (zdb.2 ⟨ht, h0.2.1.step h0.1 ht hp, h1⟩)
end Go.Proofs.Ytlpdkbmmbdfoiaa
namespace Go.Proofs.Ytlpdkbmmbdfoiaa
open Go.RowKit
set_option maxRecDepth 100000 in
set_option maxHeartbeats 1600000 in
theorem cmp_frac (va vb : Value) (s t : Bool) (n d m e : Nat) (w : World) (ha : FracN w va s n d) (hb : FracN w vb t m e) (h1 : okN n d) (h2 : okN m e) :
 Calls Try.prog 57 #[va, vb] w fun en w' => en = .returned (.tuple #[.int .i64 (cmpR (fq s n d) (fq t m e)), .int .i64 0]) ∧ Below w.heap.size w w' := by
 have hA := ha
 have hB := hb
 obtain ⟨xn, xd, rfl, hxn, hxd⟩ := ha
 obtain ⟨yn, yd, rfl, hyn, hyd⟩ := hb
 obtain ⟨an, ln, kn, rfl, _⟩ := hxn.slen.1
 obtain ⟨ad, ld, kd, rfl, _⟩ := hxd.slen.1
 obtain ⟨am, lm, km, rfl, _⟩ := hyn.slen.1
 obtain ⟨ae, le, ke, rfl, _⟩ := hyd.slen.1
 have K1 := zH h1
 have K2 := zH h2
 have HR := zH (cmpR_eq s t n d m e h1.1 h2.1)
 clear h1 h2
 go_enter Try.func57, Try.ntmps57
 go_wp2_with fail
 obtain ⟨W, hW⟩ : ∃ W, W = ((w.alloc (.cells #[.bool s, .slice an ln kn, .slice ad ld kd] 32)).alloc (.cells #[.bool t, .slice am lm km, .slice ae le ke] 32)) := ⟨_, rfl⟩
 obtain ⟨bx, byy, hbw⟩ := zzd w 32 _ _ _ _ _ _ W hW
 rw [← hW]
 clear hW
 have HBX := zH bx
 have HBY := zH byy
 obtain ⟨_, q1, q2, q3, q4, q5, q6⟩ := bx
 obtain ⟨_, r1, r2, r3, r4, r5, r6⟩ := byy
 go_wp2_with (first
  |(go_at_call 76; first
    |((with_reducible refine (zjc _ s n d _ (hA.below hbw) K1.out).mono ?_); rintro e9 w1 ⟨rfl, hv1⟩
      obtain ⟨_, f1, f2, f3, f4, f5, f6⟩ := HBY.out.belowS hv1
      have hbw1 := below_then hbw hv1)
    |((with_reducible refine (zjc _ t m e _ (hB.below hbw1) K2.out).mono ?_); rintro e9 w2 ⟨rfl, hv2⟩
      have hbx2 := (HBX.out.belowS hv1).belowS hv2
      have hby2 := (HBY.out.belowS hv1).belowS hv2
      have hbw2 := below_then hbw1 hv2)))
 clear q1 q2 q3 q4 q5 q6 r1 r2 r3 r4 r5 r6 f1 f2 f3 f4 f5 f6
 have hd2 := below_drew (B := w2.heap.size) w2
 have hD := hbw2.trans (hd2.mono hbw2.size)
 have hbx3 := hbx2.belowS hd2
 have hby3 := hby2.belowS hd2
 clear hbx2 hby2 hbw2 hv1 hv2 hbw hbw1 HBX HBY hd2
 have HX3 := zH hbx3
 have HY3 := zH hby3
 obtain ⟨_, q1, q2, q3, q4, q5, q6⟩ := hbx3
 obtain ⟨_, r1, r2, r3, r4, r5, r6⟩ := hby3
 have g1 := hxn.below hD
 have g2 := hxd.below hD
 have g3 := hyn.below hD
 have g4 := hyd.below hD
 have l1 := zH (zob K1.out)
 have l2 := zH (zob K2.out)
 have T1 := zH (Nat.le_trans l1.out.1 (show 128 ≤ 256 by decide))
 have T2 := zH (Nat.le_trans l2.out.2 (show 128 ≤ 256 by decide))
 have T3 := zH (Nat.le_trans l2.out.1 (show 128 ≤ 256 by decide))
 have T4 := zH (Nat.le_trans l1.out.2 (show 128 ≤ 256 by decide))
 have tok1 : True := trivial
 go_region_held3 (fun w' => w'.cell? ⟨w.heap.size, 1, none⟩ = some (.slice an ln kn) ∧ w'.cell? ⟨w.heap.size, 2, none⟩ = some (.slice ad ld kd) ∧ w'.cell? ⟨w.heap.size + 1, 1, none⟩ = some (.slice am lm km) ∧ w'.cell? ⟨w.heap.size + 1, 2, none⟩ = some (.slice ae le ke)) (exact ⟨q2, q3, r2, r3⟩) (first
  |(go_at_call 77; have _t := tok1; clear tok1 _t; (with_reducible refine (zta _ _ n e _ g1 g4 T1.out T2.out).mono ?_); rintro e9 w3 ⟨p1, rfl, hp1, hp2⟩
    have X4 := HX3.out.belowS hp2
    have Y4 := HY3.out.belowS hp2
    have HX4 := zH X4
    have HY4 := zH Y4
    obtain ⟨_, q1, q2, q3, q4, q5, q6⟩ := X4
    obtain ⟨_, r1, r2, r3, r4, r5, r6⟩ := Y4)
  |(go_at_call 77; (with_reducible refine (zta _ _ m d _ (g3.below hp2) (g2.below hp2) T3.out T4.out).mono ?_); rintro e9 w4 ⟨p3, rfl, hp3, hp4⟩
    have hp24 := below_then hp2 hp4
    have hp14 := hp1.below hp4
    have X5 := HX4.out.belowS hp4
    have Y5 := HY4.out.belowS hp4
    have HX5 := zH X5
    have HY5 := zH Y5
    obtain ⟨_, q1, q2, q3, q4, q5, q6⟩ := X5
    obtain ⟨_, r1, r2, r3, r4, r5, r6⟩ := Y5)
  |(go_at_call 80; (with_reducible refine (zgk p1 p3 (n * e) (m * d) _ hp14.nat hp3.nat).mono ?_); rintro e9 w5 ⟨rfl, k9, rfl⟩
    have hp5 := below_drewN (B := w4.heap.size) w4 k9
    have hp26 := below_then hp24 hp5
    have X6 := HX5.out.belowS hp5
    have Y6 := HY5.out.belowS hp5
    have HX6 := zH X6
    have HY6 := zH Y6
    obtain ⟨_, q1, q2, q3, q4, q5, q6⟩ := X6
    obtain ⟨_, r1, r2, r3, r4, r5, r6⟩ := Y6))
 have hdw : Below w.heap.size w (w4.drewN k9) := hD.trans (hp26.mono hD.size)
 clear q1 q2 q3 q4 q5 q6 r1 r2 r3 r4 r5 r6 hp5 hp26 hp24 hp14 hp1 hp3 hp2 hp4 hD g1 g2 g3 g4 HX3 HY3 HX4 HY4 HX5 HY5 T1 T2 T3 T4
 generalize w4.drewN k9 = W4 at *
 have hcb : -1 ≤ zik (n * e) (m * d) ∧ zik (n * e) (m * d) ≤ 1 := by unfold zik; split <;> (try split) <;> omega
 obtain ⟨hcb1, hcb2⟩ := hcb
 generalize hcn : zik (n * e) (m * d) = c at *
 have HCN := zH hcn
 clear hcn
 have hd2 := below_drew (B := W4.heap.size) W4
 have hD := hdw.trans (hd2.mono hdw.size)
 have hbx3 := HX6.out.belowS hd2
 have hby3 := HY6.out.belowS hd2
 have HX7 := zH hbx3
 have HY7 := zH hby3
 clear HX6 HY6
 go_wp2_with fail
 obtain ⟨_, q1, q2, q3, q4, q5, q6⟩ := hbx3
 obtain ⟨_, r1, r2, r3, r4, r5, r6⟩ := hby3
 rcases s with _ | _ <;> rcases t with _ | _
 ·go_region
  all_goals
   go_wp2
   all_goals
    go_ret2
    exact ⟨by rw [HR.out]; simp [*], hD⟩
 ·go_region_law (refine zsa 94 #[.agg #[.bool true, .slice am lm km, .slice ae le ke]] ?_ ?_ (zcg _ true m e _ (hB.below hD)) ?_; go_simp; go_simp; rintro e9 w5 ⟨rfl, hz1⟩; refine ⟨_, rfl, ?_⟩; obtain ⟨_, q1, q2, q3, q4, q5, q6⟩ := HX7.out.belowS hz1; obtain ⟨_, r1, r2, r3, r4, r5, r6⟩ := HY7.out.belowS hz1)
  all_goals
   go_wp2
   all_goals
    go_ret2
    exact ⟨by rw [HR.out]; simp [*], hD.trans (hz1.mono hD.size)⟩
 ·go_region_law (refine zsa 94 #[.agg #[.bool true, .slice an ln kn, .slice ad ld kd]] ?_ ?_ (zcg _ true n d _ (hA.below hD)) ?_; go_simp; go_simp; rintro e9 w5 ⟨rfl, hz1⟩; refine ⟨_, rfl, ?_⟩; obtain ⟨_, q1, q2, q3, q4, q5, q6⟩ := HX7.out.belowS hz1; obtain ⟨_, r1, r2, r3, r4, r5, r6⟩ := HY7.out.belowS hz1)
  all_goals
   go_wp2
   all_goals
    go_ret2
    exact ⟨by rw [HR.out]; simp [*], hD.trans (hz1.mono hD.size)⟩
 ·go_region_held3 (fun w' => w'.cell? ⟨w.heap.size, 0, none⟩ = some (.bool true) ∧ w'.cell? ⟨w.heap.size, 1, none⟩ = some (.slice an ln kn) ∧ w'.cell? ⟨w.heap.size, 2, none⟩ = some (.slice ad ld kd) ∧ w'.cell? ⟨w.heap.size + 1, 0, none⟩ = some (.bool true) ∧ w'.cell? ⟨w.heap.size + 1, 1, none⟩ = some (.slice am lm km) ∧ w'.cell? ⟨w.heap.size + 1, 2, none⟩ = some (.slice ae le ke)) (exact ⟨q1, q2, q3, r1, r2, r3⟩) (first
  |(go_at_call 94; (with_reducible refine (zcg _ true n d _ (hA.below hD)).mono ?_); rintro e9 w5 ⟨rfl, hz1⟩
    have X8 := HX7.out.belowS hz1
    have Y8 := HY7.out.belowS hz1
    have HX8 := zH X8
    have HY8 := zH Y8
    obtain ⟨_, q1, q2, q3, q4, q5, q6⟩ := X8
    obtain ⟨_, r1, r2, r3, r4, r5, r6⟩ := Y8)
  |(go_at_call 94; (with_reducible refine (zcg _ true m e _ ((hB.below hD).below hz1)).mono ?_); rintro e9 w6 ⟨rfl, hz2⟩
    have X9 := HX8.out.belowS hz2
    have Y9 := HY8.out.belowS hz2
    obtain ⟨_, q1, q2, q3, q4, q5, q6⟩ := X9
    obtain ⟨_, r1, r2, r3, r4, r5, r6⟩ := Y9))
  all_goals
   go_wp2
   all_goals
    go_ret2
    exact ⟨by rw [HR.out]; simp [*], hD.trans ((below_then hz1 hz2).mono hD.size)⟩
set_option maxHeartbeats 800000 in
theorem zld (w : World) : Calls Try.prog 41 #[.int .i64 0] w (RF1 w 0) := by
 go_enter Try.func41, Try.ntmps41
 go_wp2_with (go_at_call 56; (with_reducible refine (make_01 _).mono ?_); rintro e w1 ⟨v, rfl, hv, hb1⟩
              obtain ⟨t9, x9, y9, rfl, ⟨a1, l91, k1, rfl, _⟩, ⟨a2, l92, k2, rfl, _⟩⟩ := hv.isF
              have hr := ((C3.new w 32 (.bool false) (.slice none 0 0) (.slice none 0 0)).belowS hb1).allocS (.cells #[.bool t9, .slice a1 l91 k1, .slice a2 l92 k2] 32)
              have hv2 := hv.below (below_alloc w1 (.cells #[.bool t9, .slice a1 l91 k1, .slice a2 l92 k2] 32))
              have hb2 := below_then (below_then (below_alloc w (.cells #[.bool false, .slice none 0 0, .slice none 0 0] 32)) hb1) (below_alloc w1 (.cells #[.bool t9, .slice a1 l91 k1, .slice a2 l92 k2] 32))
              have HR := zH hr
              obtain ⟨_, d1, d2, d3, d4, d5, d6⟩ := hr)
 refine bodyPost_c1 rfl rfl Try.aggF Try.sizeF (HR.out.set _ _ _) rfl ?_
 exact ⟨_, rfl, hv2.set3 HR.out (fun z => by simp) (fun z => by simp) _ _ _, below_set3 hb2 (Nat.le_refl _) _ _ _⟩
set_option maxHeartbeats 800000 in
theorem znh (w : World) : Calls Try.prog 41 #[.int .i64 1] w (RF1 w 1) := by
 go_enter Try.func41, Try.ntmps41
 go_wp2_with (go_at_call 56; (with_reducible refine (make_11 _).mono ?_); rintro e w1 ⟨v, rfl, hv, hb1⟩
              obtain ⟨t9, x9, y9, rfl, ⟨a1, l91, k1, rfl, _⟩, ⟨a2, l92, k2, rfl, _⟩⟩ := hv.isF
              have hr := ((C3.new w 32 (.bool false) (.slice none 0 0) (.slice none 0 0)).belowS hb1).allocS (.cells #[.bool t9, .slice a1 l91 k1, .slice a2 l92 k2] 32)
              have hv2 := hv.below (below_alloc w1 (.cells #[.bool t9, .slice a1 l91 k1, .slice a2 l92 k2] 32))
              have hb2 := below_then (below_then (below_alloc w (.cells #[.bool false, .slice none 0 0, .slice none 0 0] 32)) hb1) (below_alloc w1 (.cells #[.bool t9, .slice a1 l91 k1, .slice a2 l92 k2] 32))
              have HR := zH hr
              obtain ⟨_, d1, d2, d3, d4, d5, d6⟩ := hr)
 refine bodyPost_c1 rfl rfl Try.aggF Try.sizeF (HR.out.set _ _ _) rfl ?_
 exact ⟨_, rfl, hv2.set3 HR.out (fun z => by simp) (fun z => by simp) _ _ _, below_set3 hb2 (Nat.le_refl _) _ _ _⟩
set_option maxHeartbeats 400000 in
theorem zod (v : Value) (s : Bool) (n d : Nat) (w : World) (h : FracN w v s n d) :
 Calls Try.prog 74 #[v] w fun e w' => e = .returned (.bool (!s && !decide (n = 0))) ∧ Below w.heap.size w w' := by
 obtain ⟨a, b, rfl, ha, hb⟩ := h
 rcases s with _ | _
 ·go_enter Try.func74, Try.ntmps74
  go_wp2_with (go_at_call 91; refine (zja _ n _ (ha.below (below_alloc _ _))).mono ?_; rintro e w' ⟨rfl, rfl⟩)
  go_ret
  refine ⟨?_, below_alloc _ _⟩
  have e : decide ((0 : Int) < (zka n : Nat)) = !decide (n = 0) := by
   by_cases h0 : n = 0
   ·subst h0; rfl
   ·have := zkb.2 h0; rw [decide_eq_true (by omega), decide_eq_false h0]; rfl
  first | (rw [show (!false && !decide (n = 0)) = decide ((0 : Int) < (zka n : Nat)) from by rw [e]; rfl]; rfl) | (simp [← e])
 ·go_enter Try.func74, Try.ntmps74
  go_wp2_with fail
  go_ret
  exact ⟨rfl, below_alloc _ _⟩
end Go.Proofs.Ytlpdkbmmbdfoiaa
