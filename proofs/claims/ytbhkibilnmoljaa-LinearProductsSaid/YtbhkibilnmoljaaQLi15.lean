/-
  package linear: Apply.
  Ahead of it: package linear: dot.
-/
import Derived.Test.YtbhkibilnmoljaaQLi13
namespace Go.Proofs.Ytbhkibilnmoljaa
set_option linter.unusedVariables false
set_option linter.unusedSimpArgs false
open Go.RowKit

theorem lsum_rowL (n : Nat) (f : Nat → Rat) : lsum (rowL n f) = sg n f := by
  rw [lsum_sg, rowL_length]
  exact sg_congr fun j hj => by
    rw [List.getD_eq_getElem?_getD, List.getElem?_eq_getElem (by rw [rowL_length]; exact hj), rowL_get]; rfl
theorem rowL_take (n k : Nat) (f : Nat → Rat) (h : k ≤ n) : (rowL n f).take k = rowL k f := by
  unfold rowL; rw [← List.map_take, List.take_range, Nat.min_eq_left h]
theorem qs_of (l : List Rat) : qs (l.map RF.of) = l := by
  unfold qs; rw [List.map_map]
  have : (RF.q ∘ RF.of) = id := by funext q; exact RF.of_q q
  rw [this, List.map_id]
set_option maxRecDepth 100000 in
set_option maxHeartbeats 3200000 in
theorem dot_can (vu vv : Value) (n : Nat) (a b : Nat → Rat) (w : World) (hu : FracsC w vu (rowL n a)) (hv : FracsC w vv (rowL n b)) (hn : n ≤ 1000) (hfa : ∀ k, k < n → fits (a k)) (hfb : ∀ k, k < n → fits (b k))
    (hp : ∀ k, k < n → fits (a k * b k)) (hs : ∀ k, k ≤ n → fits (sg k fun j => a j * b j)) :
    Calls Try.prog 50 #[vu, vv] w (RF0 w (sg n fun j => a j * b j)) := by
  have su := hu.sl
  have lu : slen vu = n := by rw [hu.len, rowL_length]
  have sv := hv.sl
  have lv : slen vv = n := by rw [hv.len, rowL_length]
  obtain ⟨i0, hi, hz0, hz1, hz2⟩ := info_parts Try.infoF
  have hM := make_fr (P := Try.prog) 26 30 i0 Try.underlying26 hi hz0 hz1 (by rw [hz2]; decide)
  clear hi hz0 hz1 hz2
  have HU := Lib.hid hu
  have HV := Lib.hid hv
  have HFA := Lib.hid hfa
  have HFB := Lib.hid hfb
  have HP := Lib.hid hp
  have HS := Lib.hid hs
  have hb0 := below_alloc w (.cells #[.bool false, .slice none 0 0, .slice none 0 0] 30)
  have HR0 := Lib.hid (C3.new w 30 (.bool false) (.slice none 0 0) (.slice none 0 0))
  have hsz0 : (w.alloc (.cells #[.bool false, .slice none 0 0, .slice none 0 0] 30)).heap.size = w.heap.size + 1 := by simp
  have HSZ := Lib.hid hsz0
  clear hu hv hfa hfb hp hs hsz0
  go_enter Try.func50, Try.ntmps50
  go_upto_region 1 with fail
  obtain ⟨W0, hW0⟩ : ∃ W0, w.alloc (.cells #[.bool false, .slice none 0 0, .slice none 0 0] 30) = W0 := ⟨_, rfl⟩
  rw [hW0] at hb0 HR0 HSZ ⊢
  clear hW0
  have hB0 : w.heap.size ≤ W0.heap.size := hb0.size
  go_wp2_with (refine hM W0 rfl _ _ rfl W0.heap.size _ n rfl rfl rfl (by omega) (Nat.le_refl _) ?_; intro vl w1 hown hb1 hvb; have sl := hown.sl; have ll := hown.len)
  clear hM
  go_loopg [15] (n) (fun g u15 wr => ∃ (k : Nat), k ≤ n ∧ g = n - k ∧ u15 = .int .i64 k ∧ OwnFr wr 30 W0.heap.size vl n ∧ (∀ j, j < k → ElemC wr vl j (a j * b j)) ∧ Below W0.heap.size W0 wr)
  case atStart => exact ⟨0, Nat.zero_le _, rfl, rfl, hown, fun j h => by omega, hb1⟩
  case round =>
    obtain ⟨k, hk, hg, rfl, ho, he, hbr⟩ := hrel
    obtain ⟨w2, hw2⟩ : ∃ w2, w2 = wr := ⟨_, rfl⟩
    subst hw2
    clear hown hb1
    have HE := Lib.hid he
    have HG := Lib.hid hg
    have HO := Lib.hid ho
    have HBR := Lib.hid hbr
    have hbw := hb0.trans (hbr.mono hB0)
    clear he hg
    by_cases hkn : k < n
    · obtain ⟨ea, eb, g1, g2, g3, g4, g5⟩ := (HU.out.below hbw).at' k (by rw [rowL_length]; exact hkn)
      obtain ⟨ec, ed, g6, g7, g8, g9, g10⟩ := (HV.out.below hbw).at' k (by rw [rowL_length]; exact hkn)
      rw [rowL_get] at g1 g4 g5 g6 g9 g10
      obtain ⟨ea1, ea2, ea3, rfl, _⟩ := g4.v.sl
      obtain ⟨eb1, eb2, eb3, rfl, _⟩ := g5.v.sl
      obtain ⟨ec1, ec2, ec3, rfl, _⟩ := g9.v.sl
      obtain ⟨ed1, ed2, ed3, rfl, _⟩ := g10.v.sl
      have HFU : Hid (FracC w2 (.agg #[.bool (decide (a k < 0)), .slice ea1 ea2 ea3, .slice eb1 eb2 eb3]) (a k)) := Lib.hid ⟨_, _, rfl, g4, g5⟩
      have HFV : Hid (FracC w2 (.agg #[.bool (decide (b k < 0)), .slice ec1 ec2 ec3, .slice ed1 ed2 ed3]) (b k)) := Lib.hid ⟨_, _, rfl, g9, g10⟩
      have S0 := Lib.hid (And.intro g1 (And.intro g2 (And.intro g3 (And.intro g6 (And.intro g7 g8)))))
      have HF1 := Lib.hid (HFA.out k hkn)
      have HF2 := Lib.hid (HFB.out k hkn)
      have HF3 := Lib.hid (HP.out k hkn)
      have i1 : (0 : Int) ≤ (k : Int) := by omega
      have i2 : (k : Int) < (n : Nat) := by omega
      clear g4 g5 g9 g10 ho hbr hbw
      go_wp2_with fail
      go_cut [8, 9] (fun u8 u9 wy => ∃ (b8 : Nat) (t' : Bool) (x' y' : Value), u8 = .pointer (some ⟨b8, 0, none⟩) ∧ u9 = .int .i64 0 ∧ C3 wy b8 (.bool t') x' y' ∧ FracC wy (.agg #[.bool t', x', y']) (a k * b k) ∧ Below w2.heap.size w2 wy)
      case first =>
        go_region_held3 (fun w' => w'.cell? (ptr vu (k * 3)) = some (.bool (decide (a k < 0))) ∧ w'.cell? (ptr vu (k * 3 + 1)) = some (.slice ea1 ea2 ea3) ∧ w'.cell? (ptr vu (k * 3 + 2)) = some (.slice eb1 eb2 eb3) ∧ w'.cell? (ptr vv (k * 3)) = some (.bool (decide (b k < 0))) ∧ w'.cell? (ptr vv (k * 3 + 1)) = some (.slice ec1 ec2 ec3) ∧ w'.cell? (ptr vv (k * 3 + 2)) = some (.slice ed1 ed2 ed3) ∧ Below w2.heap.size w2 w') (first
          | with_reducible exact kp6a S0.out (below_drew _)
          | with_reducible exact kp6w (by assumption) (below_alloc _ _)
          | with_reducible exact kp6w (by assumption) (by assumption)
          | with_reducible exact kp6a S0.out (below_then hB31 (below_alloc _ _))
          | with_reducible exact kp6s S0.out hB31 (Nat.le_refl _) _ _ _) (first
          | (go_at_call 78; (with_reducible refine (mul_can _ _ (a k) (b k) _ (HFU.out.below (kp6c (by assumption))) (HFV.out.below (kp6c (by assumption))) HF1.out HF2.out HF3.out).mono ?_); rintro e31 w31 ⟨v31, rfl, hv31, hb31⟩
             obtain ⟨t31, x31, y31, rfl, ⟨a311, l311, k311, rfl, _⟩, ⟨a312, l312, k312, rfl, _⟩⟩ := hv31.isF
             have hB31 := below_then (kp6c (by assumption)) hb31
             have hc5 := (fun (p : Addr) hp => hb31.cell (p := p) hp)
             have hf5 := (fun (p : Addr) hp => hb31.frozen (p := p) hp)
             have zq := hb31.size
             (try simp only [sizeA, sizeD] at zq)
             (try have z1 : w2.heap.size < w31.heap.size := (by omega))))
        all_goals
          have hE := kp6c (by assumption)
          go_wp2_with fail
          go_meet
          case rel =>
            first
              | exact ⟨_, _, _, _, rfl, rfl, C3.new w31 _ _ _ _, hv31.below (below_alloc _ _), hE⟩
              | exact ⟨_, _, _, _, rfl, rfl, ((C3.newB (b := w2.heap.size) w2.drew 30 (.bool false) (.slice none 0 0) (.slice none 0 0) rfl).belowS hb31).set _ _ _, hv31.set3 ((C3.newB (b := w2.heap.size) w2.drew 30 (.bool false) (.slice none 0 0) (.slice none 0 0) rfl).belowS hb31) (fun z => by simp) (fun z => by simp) _ _ _, hE⟩
              | exact ⟨_, _, _, _, rfl, rfl, (((C3.newB (b := w2.heap.size) w2 30 (.bool false) (.slice none 0 0) (.slice none 0 0) rfl).belowS (below_drew _)).belowS hb31).set _ _ _, hv31.set3 (((C3.newB (b := w2.heap.size) w2 30 (.bool false) (.slice none 0 0) (.slice none 0 0) rfl).belowS (below_drew _)).belowS hb31) (fun z => by simp) (fun z => by simp) _ _ _, hE⟩
      case rest =>
        obtain ⟨b8, t6, x6, y6, rfl, rfl, hC6, hv6, hb6⟩ := hcut
        obtain ⟨w3, hw3⟩ : ∃ w3, w3 = wc := ⟨_, rfl⟩
        subst hw3
        obtain ⟨_, _, _, hF6, ⟨a61, l61, k61, rfl, _⟩, ⟨a62, l62, k62, rfl, _⟩⟩ := id hv6.isF
        injection hF6 with hF6
        injection hF6 with hF6
        simp only [List.cons.injEq, and_true, Value.bool.injEq] at hF6
        obtain ⟨rfl, rfl, rfl⟩ := hF6
        have ho3 := HO.out.below hb6
        obtain ⟨c0, d0, _⟩ := ho3.cell (k * 3) (by omega)
        obtain ⟨c1, d1, _⟩ := ho3.cell (k * 3 + 1) (by omega)
        obtain ⟨c2, d2, _⟩ := ho3.cell (k * 3 + 2) (by omega)
        have f0 := ho3.frozen (k * 3)
        have f1 := ho3.frozen (k * 3 + 1)
        have f2 := ho3.frozen (k * 3 + 2)
        have n01 := ho3.inj (show k * 3 ≠ k * 3 + 1 by omega)
        have n02 := ho3.inj (show k * 3 ≠ k * 3 + 2 by omega)
        have n12 := ho3.inj (show k * 3 + 1 ≠ k * 3 + 2 by omega)
        have HS3 := Lib.hid (ho3.set3 k (.bool t6) (.slice a61 l61 k61) (.slice a62 l62 k62) (fun z => by simp) (fun z => by simp) (fun z => by simp))
        have HE3 := Lib.hid (fun j hj => (HE.out j hj).below hb6)
        have HO3 := Lib.hid ho3
        have HV6 := Lib.hid hv6
        have HB3 := Lib.hid (below_then2 HBR.out hb6 HBR.out.size)
        obtain ⟨_, q1, q2, q3, _, _, _⟩ := hC6
        clear ho3 hv6 hb6 g1 g2 g3 g6 g7 g8
        go_wp2_with fail
        go_roundg (n - (k + 1))
        case measure => (have := HG.out; omega)
        case rel =>
          refine ⟨k + 1, by omega, rfl, by go_num, HS3.out.1, fun j hj => ?_, HB3.out.trans HS3.out.2⟩
          rcases Nat.lt_or_ge j k with h6 | h6
          · exact ElemC.set3_other HO3.out hkn (by omega) (HE3.out j h6) _ _ _ (fun z => by simp) (fun z => by simp)
          · obtain rfl : j = k := by omega
            exact ElemC.set3 HO3.out hkn HV6.out
    · obtain rfl : k = n := by omega
      have hfr : FracsC w2 vl (rowL k fun j => a j * b j) := ho.fracs (rowL_length _ _) (fun j hj => by rw [rowL_length] at hj; rw [rowL_get]; exact HE.out j hj)
      have hraw := hfr.raw
      have HOK : Hid (∀ x ∈ (rowL k fun j => a j * b j).map RF.of, x.ok) := Lib.hid (fun x hx => by
        obtain ⟨q, hq, rfl⟩ := List.mem_map.1 hx
        obtain ⟨j, hj, rfl⟩ := List.mem_map.1 hq
        exact RF.of_ok (HP.out j (List.mem_range.1 hj)))
      have HFT : Hid (∀ j, j ≤ ((rowL k fun j => a j * b j).map RF.of).length → fits (lsum (qs (((rowL k fun j => a j * b j).map RF.of).take j)))) := Lib.hid (fun j hj => by
        rw [List.length_map, rowL_length] at hj
        rw [← List.map_take, qs_of, rowL_take _ _ _ hj, lsum_rowL]
        exact HS.out j hj)
      have HVAL : Hid (lsum (qs ((rowL k fun j => a j * b j).map RF.of)) = sg k fun j => a j * b j) := Lib.hid (by rw [qs_of, lsum_rowL])
      have HR2 := Lib.hid (HR0.out.below hbr HR0.out.lt)
      have HBW := Lib.hid hbw
      clear hfr ho hbr hbw
      go_wp2_with (go_at_call 79; (with_reducible refine (sum_frac vl _ _ hraw HOK.out HFT.out).mono ?_); rw [HVAL.out]; rintro e5 w5 ⟨v5, rfl, hv5, hb5⟩
                   obtain ⟨t9, x9, y9, rfl, ⟨a1, l91, k91, rfl, _⟩, ⟨a2, l92, k92, rfl, _⟩⟩ := hv5.isF
                   have HR5 := Lib.hid (HR2.out.belowS hb5)
                   obtain ⟨_, c0, c1, c2, f0, f1, f2⟩ := HR5.out)
      refine bodyPost_c3 rfl rfl Try.aggF Try.sizeF (HR5.out.set _ _ _) rfl ?_
      exact ⟨_, rfl, hv5.set3 HR5.out (fun z => by simp) (fun z => by simp) _ _ _, below_set3 (below_then HBW.out hb5) (Nat.le_refl _) _ _ _⟩
end Go.Proofs.Ytbhkibilnmoljaa
namespace Go.Proofs.Ytbhkibilnmoljaa
set_option linter.unusedVariables false
set_option linter.unusedSimpArgs false
open Go.RowKit

set_option maxRecDepth 100000 in
set_option maxHeartbeats 3200000 in
theorem apply_lin (va vb : Value) (n m : Nat) (A : Mx) (b : Nat → Rat) (w : World) (ha : MatF w va n m A) (hb : FracsC w vb (rowL m b)) (hn1 : 1 ≤ n) (hn : n ≤ 24) (hm1 : 1 ≤ m) (hm : m ≤ 24) (hf : fitM n m A) (hfb : ∀ i, i < m → fits (b i))
    (hw : wtF n m A + wts (qs (rawV m b)) ≤ 3800) (hp : ∀ i k, i < n → k < m → fits (A i k * b k)) (hs : ∀ i k, i < n → k ≤ m → fits (sg k fun j => A i j * b j)) :
    Calls Try.prog 19 #[va, vb] w fun e w' => ∃ v, e = .returned (.tuple #[v, .int .i64 0]) ∧ FracsC w' v (rowL n fun i => sg m fun j => A i j * b j) ∧ Below w.heap.size w w' := by
  obtain ⟨i0, hi, hz0, hz1, hz2⟩ := info_parts Try.infoF
  have hM := make_fr (P := Try.prog) 26 30 i0 Try.underlying26 hi hz0 hz1 (by rw [hz2]; decide)
  clear hi hz0 hz1 hz2
  have hvec : vecP (rawV m b) m := ⟨rawV_ok hfb, rawV_length m b⟩
  have HV := Lib.hid hvec
  have HF := Lib.hid hf
  have HFB := Lib.hid hfb
  have HP := Lib.hid hp
  have HS := Lib.hid hs
  have hwi : (wtF n m A : Int) + (wts (qs (rawV m b)) : Nat) ≤ 3800 := by omega
  obtain ⟨W1, hW1⟩ : ∃ W, wtF n m A = W := ⟨_, rfl⟩
  obtain ⟨W2, hW2⟩ : ∃ W, wts (qs (rawV m b)) = W := ⟨_, rfl⟩
  rw [hW1, hW2] at hwi
  have HW1 := Lib.hid hW1
  have HW2 : Hid (wtsM [rawV m b] = W2) := Lib.hid (by rw [wtsM_one]; exact hW2)
  have HRB : Hid (FracsN w vb (rawV m b)) := Lib.hid hb.raw
  obtain ⟨vb1, vb2, vb3, rfl, _⟩ := id hb.sl
  have sa := ha.sl
  have la := ha.len
  have sb := hb.sl
  have lb : slen (.slice vb1 vb2 vb3) = m := by rw [hb.len, rowL_length]
  have hvb2 : vb2 = m := lb
  subst hvb2
  have HA := Lib.hid ha
  have HB := Lib.hid hb
  have i65 : vb2 ≤ 65536 := by omega
  have i1000 : vb2 ≤ 1000 := by omega
  have HO1 : Hid (∀ l ∈ [rawV vb2 b], ∀ x ∈ l, x.ok) := Lib.hid (fun l hl x hx => by
    have : l = rawV vb2 b := by simpa using hl
    subst this; exact hvec.1 x hx)
  have HO2 : Hid (∀ l ∈ [rawV vb2 b], l.length ≤ 65536) := Lib.hid (fun l hl => by
    have : l = rawV vb2 b := by simpa using hl
    subst this; rw [rawV_length]; exact i65)
  have HO3 : Hid ([rawV vb2 b].length ≤ 65536) := Lib.hid (by simp)
  clear hW1 hW2 ha hb hf hfb hp hs hw hvec lb
  go_enter Try.func19, Try.ntmps19
  go_wp2_with (first
    | (go_at_call 33; (with_reducible refine (shape_lin va n vb2 A _ HA.out hn1 hn hm1 hm HF.out).mono ?_); rintro e1 w1 ⟨rfl, hb1⟩)
    | (go_at_call 47; (with_reducible refine (lvector_any _ (rawV vb2 b) vb2 _ (HRB.out.below hb1) i65).mono ?_); rw [decide_eq_true HV.out]; rintro e2 w2 ⟨rfl, hb2⟩
       have hB2 := below_then hb1 hb2)
    | (go_at_call 34; first
       | ((with_reducible refine (weight_lin va n vb2 A _ (HA.out.below hB2) hn hm HF.out).mono ?_); rw [HW1.out]; rintro e3 w3 ⟨rfl, hb3⟩
          have hB3 := below_then hB2 hb3
          have hb4 := below_alloc w3 (.cells #[.slice vb1 vb2 vb3] 26)
          have hM4 := mat_one (VarB.new w3 #[.slice vb1 vb2 vb3] 26) (HRB.out.below (below_then hB3 hb4)))
       | ((with_reducible refine (lweight_any _ [rawV vb2 b] _ hM4 HO1.out HO2.out HO3.out).mono ?_); rw [HW2.out]; rintro e5 w5 ⟨rfl, hb5⟩
          have hB5 := below_then (below_then hB3 hb4) hb5
          clear hM4))
    | (refine hM w5 rfl _ _ rfl w5.heap.size _ n rfl rfl rfl (by omega) (Nat.le_refl _) ?_; intro vL w6 hO6 hb6 hv6
       have HO6 := Lib.hid hO6
       have HB6 := Lib.hid hb6
       have HB5 := Lib.hid hB5
       have slL := hO6.sl
       have lnL := hO6.len
       clear hO6 hb6 hB5 hb5 hb4 hB3 hb3 hB2 hb2 hb1))
  clear hM
  go_loopg [41] (n) (fun g u41 wr => ∃ (i : Nat), i ≤ n ∧ g = n - i ∧ u41 = .int .i64 i ∧ OwnFr wr 30 w5.heap.size vL n ∧ (∀ j, j < i → ElemC wr vL j (sg vb2 fun k => A j k * b k)) ∧ Below w5.heap.size w5 wr)
  case atStart => exact ⟨0, Nat.zero_le _, rfl, rfl, HO6.out, fun j h => by omega, HB6.out⟩
  case round =>
    obtain ⟨i, hin, hg, rfl, ho, he, hbr⟩ := hrel
    obtain ⟨w2, hw2⟩ : ∃ w2, w2 = wr := ⟨_, rfl⟩
    subst hw2
    have HG := Lib.hid hg
    have HE := Lib.hid he
    have HO := Lib.hid ho
    have HBR := Lib.hid hbr
    have hBw2 := below_then2 HB5.out hbr HB5.out.size
    clear he hg HO6 HB6
    by_cases hil : i < n
    · obtain ⟨ri, hc1, hr1⟩ := (HA.out.below hBw2).row i hil
      obtain ⟨ri1, ri2, ri3, rfl, _⟩ := id hr1.sl
      have S0 := Lib.hid (And.intro hc1 hc1)
      have HR1 := Lib.hid hr1
      have HBv := Lib.hid (HB.out.below hBw2)
      have HF1 : Hid (∀ k, k < vb2 → fits (A i k)) := Lib.hid (fun k hk => HF.out i k hil hk)
      have HP1 : Hid (∀ k, k < vb2 → fits (A i k * b k)) := Lib.hid (fun k hk => HP.out i k hil hk)
      have HS1 : Hid (∀ k, k ≤ vb2 → fits (sg k fun j => A i j * b j)) := Lib.hid (fun k hk => HS.out i k hil hk)
      have i1 : (0 : Int) ≤ (i : Int) := by omega
      have i2 : (i : Int) < (n : Nat) := by omega
      clear ho hbr hBw2 hr1
      go_wp2_with (go_at_call 50; (with_reducible refine (dot_can _ _ vb2 (A i) b _ HR1.out HBv.out i1000 HF1.out HFB.out HP1.out HS1.out).mono ?_); rintro e31 w31 ⟨v31, rfl, hv31, hb31⟩
                   obtain ⟨t6, x31, y31, rfl, ⟨a61, l61, k61, rfl, _⟩, ⟨a62, l62, k62, rfl, _⟩⟩ := hv31.isF
                   have hb6 := below_then hb31 (below_alloc w31 (.cells #[.bool t6, .slice a61 l61 k61, .slice a62 l62 k62] 30))
                   have hv6 := hv31.below (below_alloc w31 (.cells #[.bool t6, .slice a61 l61 k61, .slice a62 l62 k62] 30))
                   have ho3 := HO.out.below hb6
                   obtain ⟨c0, d0, _⟩ := ho3.cell (i * 3) (by omega)
                   obtain ⟨c1, d1, _⟩ := ho3.cell (i * 3 + 1) (by omega)
                   obtain ⟨c2, d2, _⟩ := ho3.cell (i * 3 + 2) (by omega)
                   have f0 := ho3.frozen (i * 3)
                   have f1 := ho3.frozen (i * 3 + 1)
                   have f2 := ho3.frozen (i * 3 + 2)
                   have n01 := ho3.inj (show i * 3 ≠ i * 3 + 1 by omega)
                   have n02 := ho3.inj (show i * 3 ≠ i * 3 + 2 by omega)
                   have n12 := ho3.inj (show i * 3 + 1 ≠ i * 3 + 2 by omega)
                   have HS3 := Lib.hid (ho3.set3 i (.bool t6) (.slice a61 l61 k61) (.slice a62 l62 k62) (fun z => by simp) (fun z => by simp) (fun z => by simp))
                   have HE3 := Lib.hid (fun j hj => (HE.out j hj).below hb6)
                   have HO3 := Lib.hid ho3
                   have HV6 := Lib.hid hv6
                   have HB3 := Lib.hid (below_then2 HBR.out hb6 HBR.out.size)
                   clear ho3 hv6 hb6 hc1 hv31 hb31)
      go_roundg (n - (i + 1))
      case measure => (have := HG.out; omega)
      case rel =>
        refine ⟨i + 1, by omega, rfl, by go_num, HS3.out.1, fun j hj => ?_, HB3.out.trans HS3.out.2⟩
        rcases Nat.lt_or_ge j i with h6 | h6
        · exact ElemC.set3_other HO3.out hil (by omega) (HE3.out j h6) _ _ _ (fun z => by simp) (fun z => by simp)
        · obtain rfl : j = i := by omega
          exact ElemC.set3 HO3.out hil HV6.out
    · obtain rfl : i = n := by omega
      go_wp2_with fail
      go_ret2
      exact ⟨_, rfl, HO.out.fracs (rowL_length _ _) (fun j hj => by rw [rowL_length] at hj; rw [rowL_get]; exact HE.out j hj), hBw2⟩
end Go.Proofs.Ytbhkibilnmoljaa
