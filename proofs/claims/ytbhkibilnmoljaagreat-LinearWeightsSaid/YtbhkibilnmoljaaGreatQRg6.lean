/-
  package drydockref05: Mul.
-/
import Derived.Test.YtbhkibilnmoljaaGreatQRg5
namespace Go.Proofs.YtbhkibilnmoljaaGreat
set_option linter.unusedVariables false
set_option linter.unusedSimpArgs false
open Go.RowKit


set_option maxRecDepth 100000 in
set_option maxHeartbeats 12800000 in
theorem rmul_valid (va vb : Value) (a b : List (List RF)) (n m c : Nat) (w : World) (hna : MatN w va a) (hnb : MatN w vb b) (hok : mulP a b) (hn' : a.length = n) (hm' : cols a = m) (hc' : cols b = c) (hw : wtsM a + wtsM b ≤ 3800) :
    Calls Tryz.prog 12 #[va, vb] w fun e w' => ∃ v, e = .returned (.tuple #[v, .int .i64 0]) ∧ MatF w' v n c (mulM m (rQ a) (rQ b)) ∧ Below w.heap.size w w' := by
  have hn1 : 1 ≤ n := by rw [← hn']; exact hok.1.1
  have hn : n ≤ 24 := by rw [← hn']; exact hok.1.2.1
  have hm1 : 1 ≤ m := by rw [← hm']; exact hok.1.2.2.1
  have hm : m ≤ 24 := by rw [← hm']; exact hok.1.2.2.2.1
  have hc1 : 1 ≤ c := by rw [← hc']; exact hok.2.1.2.2.1
  have hc : c ≤ 24 := by rw [← hc']; exact hok.2.1.2.2.2.1
  have hbm : b.length = m := by rw [← hm']; exact hok.2.2.symm
  have ha : MatR w va n m (rX a) := by
    have h := hna.toR hok.1.cols
    rw [hn', hm'] at h; exact h
  have hb : MatR w vb m c (rX b) := by
    have h := hnb.toR hok.2.1.cols
    rw [hbm, hc'] at h; exact h
  have HFA : Hid (∀ i j, i < n → j < m → (rX a i j).ok) := Lib.hid fun i j hi hj => hok.1.ok (by omega) (by omega)
  have HFB : Hid (∀ i j, i < m → j < c → (rX b i j).ok) := Lib.hid fun i j hi hj => hok.2.1.ok (by omega) (by omega)
  have HP : Hid (∀ i k, i < n → k < c → ∀ j, j < m → fits ((rX a i j).q * (rX b j k).q)) := Lib.hid fun i k hi hk j hj => (hok.fits hw (i := i) (k := k) (by omega) (by omega)).1 j (by omega)
  have HS : Hid (∀ i k, i < n → k < c → ∀ j, j ≤ m → fits (sg j fun l => (rX a i l).q * (rX b l k).q)) := Lib.hid fun i k hi hk j hj => (hok.fits hw (i := i) (k := k) (by omega) (by omega)).2 j (by omega)
  have HNA := Lib.hid hna
  have HNB := Lib.hid hnb
  have HSA := Lib.hid (And.intro hok.1 (And.intro hn' hm'))
  have HSB := Lib.hid (And.intro hok.2.1 (And.intro hbm hc'))
  have sa := ha.sl
  have la := ha.len
  have sb := hb.sl
  have lb := hb.len
  have HA := Lib.hid ha
  have HB := Lib.hid hb
  have hwi : (wtsM a : Int) + (wtsM b : Nat) ≤ 3800 := by omega
  obtain ⟨W1, hW1⟩ : ∃ W, wtsM a = W := ⟨_, rfl⟩
  obtain ⟨W2, hW2⟩ : ∃ W, wtsM b = W := ⟨_, rfl⟩
  rw [hW1, hW2] at hwi
  have HW1 := Lib.hid hW1
  have HW2 := Lib.hid hW2
  obtain ⟨i3, hi3, hz3, hs3, hy3⟩ := info_parts Tryz.infoF
  have hAP := append1_fr (P := Tryz.prog) 27 25 i3 Tryz.underlying27 hi3 hz3 hs3 hy3
  obtain ⟨i4, hi4, hz4, hs4, hy4⟩ := info_parts Tryz.infoRow
  have hAR := append1_one (P := Tryz.prog) 28 27 i4 _ 24 Tryz.underlying28 hi4 hz4 hs4 hy4 (by decide) rfl (fun z => by simp)
  clear hi3 hz3 hs3 hy3 hi4 hz4 hs4 hy4
  clear hW1 hW2 ha hb hw hna hnb hok hn' hm' hc' hbm
  go_enter Tryz.func12, Tryz.ntmps12
  go_wp2_with (first
    | (go_at_call 22; first
       | ((with_reducible refine (rshape_ok va a n m _ HNA.out HSA.out.1 HSA.out.2.1 HSA.out.2.2).mono ?_); rintro e1 w1 ⟨rfl, hb1⟩)
       | ((with_reducible refine (rshape_ok vb b m c _ (HNB.out.below hb1) HSB.out.1 HSB.out.2.1 HSB.out.2.2).mono ?_); rintro e2 w2 ⟨rfl, hb2⟩
          have hB2 := below_then hb1 hb2))
    | (go_at_call 24; first
       | ((with_reducible refine (rweights_any va a _ (HNA.out.below hB2) HSA.out.1).mono ?_); rw [HW1.out]; rintro e3 w3 ⟨rfl, hb3⟩
          have hB3 := below_then hB2 hb3)
       | ((with_reducible refine (rweights_any vb b _ (HNB.out.below hB3) HSB.out.1).mono ?_); rw [HW2.out]; rintro e4 w4 ⟨rfl, hb4⟩
          have HB4 := Lib.hid (below_then hB3 hb4)
          clear hb4 hB3 hb3 hB2 hb2 hb1)))
  go_loopg [12, 13] (n) (fun g u12 u13 wr => ∃ (i : Nat) (rs : List Value), i ≤ n ∧ g = n - i ∧ u13 = .int .i64 i ∧ rs.length = i ∧ MkM wr w4.heap.size u12 rs c (mulM m (rQ a) (rQ b)) ∧ Below w4.heap.size w4 wr)
  case atStart => exact ⟨0, [], Nat.zero_le _, rfl, rfl, rfl, ⟨OwnR.nil _ _ _ _, fun j h => by simp at h, Nat.le_refl _⟩, Below.refl _ _⟩
  case round =>
    obtain ⟨i, rs, hin, hg, rfl, hrs, hmk, hbr⟩ := hrel
    obtain ⟨w5, hw5⟩ : ∃ w5, w5 = wr := ⟨_, rfl⟩
    subst hw5
    have HG := Lib.hid hg
    have HRS := Lib.hid hrs
    have HM := Lib.hid hmk
    have HB5 := Lib.hid hbr
    have svr := hmk.ra.sl
    clear hg hrs hmk
    by_cases hil : i < n
    · have i1 : (0 : Int) ≤ (i : Int) := by omega
      have i2 : (i : Int) < (n : Nat) := by omega
      go_wp2_with fail
      go_loopg [14, 15] (c) (fun g u14 u15 wi => ∃ (k : Nat), k ≤ c ∧ g = c - k ∧ u15 = .int .i64 k ∧ FrRow wi 25 w5.heap.size u14 (rowL k (mulM m (rQ a) (rQ b) i)) ∧ Below w5.heap.size w5 wi)
      case atStart => exact ⟨0, Nat.zero_le _, rfl, rfl, FrRow.nil _ _ _, Below.refl _ _⟩
      case round =>
        obtain ⟨k, hk, hgk, rfl, hfr, hbi⟩ := hrel
        obtain ⟨wb, hwb⟩ : ∃ wb, wb = wr := ⟨_, rfl⟩
        subst hwb
        have HGK := Lib.hid hgk
        have HFR := Lib.hid hfr
        have HBI := Lib.hid hbi
        have srow := hfr.sl
        have hrl : (rowL k (mulM m (rQ a) (rQ b) i)).length ≤ 1000 := by rw [rowL_length]; omega
        clear hgk hfr
        by_cases hkn : k < c
        · have k1' : (0 : Int) ≤ (k : Int) := by omega
          have k2' : (k : Int) < (c : Nat) := by omega
          clear hbi
          go_wp2_with (go_at_call 35; (with_reducible refine (r2int_zero _).mono ?_); rintro e13 w13 ⟨v13, rfl, hv13, hb13⟩
                       obtain ⟨t13, x13, y13, rfl, ⟨a131, l131, k131, rfl, q131⟩, ⟨a132, l132, k132, rfl, q132⟩⟩ := hv13.isF
                       have hb14 := below_then hb13 (below_alloc w13 (.cells #[.bool t13, .slice a131 l131 k131, .slice a132 l132 k132] 25))
                       have hv14 := hv13.below (below_alloc w13 (.cells #[.bool t13, .slice a131 l131 k131, .slice a132 l132 k132] 25))
                       have h1314 := hb13.size
                       have HC1 := Lib.hid (C3.new w13 25 (.bool t13) (.slice a131 l131 k131) (.slice a132 l132 k132)))
          obtain ⟨b5, hb5⟩ : ∃ b, w13.heap.size = b := ⟨_, rfl⟩
          rw [hb5] at HC1 h1314
          rw [hb5]
          clear hb5
          go_loopg [17] (m) (fun g u17 wr => ∃ (q : Nat) (t' : Bool) (a1 a2 : Option Addr) (l1 k1 l2 k2 : Nat), q ≤ m ∧ g = m - q ∧ u17 = .int .i64 q ∧ C3 wr b5 (.bool t') (.slice a1 l1 k1) (.slice a2 l2 k2) ∧ FracC wr (.agg #[.bool t', .slice a1 l1 k1, .slice a2 l2 k2]) (sg q fun j => (rX a i j).q * (rX b j k).q) ∧ Below wb.heap.size wb wr)
          case atStart => exact ⟨0, _, _, _, _, _, _, _, Nat.zero_le _, rfl, rfl, HC1.out, hv14, hb14⟩
          case round =>
            obtain ⟨q, t', a1, a2, l1, k1, l2, k2, hq, hgq, rfl, hc3, hvq, hbq⟩ := hrel
            obtain ⟨wq, hwq⟩ : ∃ wq, wq = wr := ⟨_, rfl⟩
            subst hwq
            have HGQ := Lib.hid hgq
            have HC3 := Lib.hid hc3
            have HVQ := Lib.hid hvq
            have HBQ := Lib.hid hbq
            have hBW := below_then2 HB4.out (below_then2 HB5.out (below_then2 HBI.out hbq HBI.out.size) HB5.out.size) HB4.out.size
            clear hgq hv14 hb14 HC1
            by_cases hqm : q < m
            · obtain ⟨ra, hca, hra⟩ := (HA.out.below hBW).row i hil
              obtain ⟨rb, hcb, hrb⟩ := (HB.out.below hBW).row q hqm
              have sra := hra.sl
              have lra : slen ra = m := by rw [hra.len, rowF_length]
              have srb := hrb.sl
              have lrb : slen rb = c := by rw [hrb.len, rowF_length]
              obtain ⟨ra1, ra2, ra3, rfl, _⟩ := id sra
              obtain ⟨rb1, rb2, rb3, rfl, _⟩ := id srb
              obtain ⟨ea, eb, g1, g2, g3, g4, g5⟩ := hra.at' q (by rw [rowF_length]; exact hqm)
              obtain ⟨ec, ed, g6, g7, g8, g9, g10⟩ := hrb.at' k (by rw [rowF_length]; exact hkn)
              rw [rowF_get] at g1 g4 g5 g6 g9 g10
              obtain ⟨ea1, ea2, ea3, rfl, _⟩ := g4.slen.1
              obtain ⟨eb1, eb2, eb3, rfl, _⟩ := g5.slen.1
              obtain ⟨ec1, ec2, ec3, rfl, _⟩ := g9.slen.1
              obtain ⟨ed1, ed2, ed3, rfl, _⟩ := g10.slen.1
              have hbD := below_drew (B := wq.heap.size) wq
              have HFU : Hid (FracN wq.drew (.agg #[.bool (rX a i q).neg, .slice ea1 ea2 ea3, .slice eb1 eb2 eb3]) (rX a i q).neg (rX a i q).n (rX a i q).d) := Lib.hid ⟨_, _, rfl, g4.below hbD, g5.below hbD⟩
              have HFV : Hid (FracN wq.drew (.agg #[.bool (rX b q k).neg, .slice ec1 ec2 ec3, .slice ed1 ed2 ed3]) (rX b q k).neg (rX b q k).n (rX b q k).d) := Lib.hid ⟨_, _, rfl, g9.below hbD, g10.below hbD⟩
              have HCD := Lib.hid (HC3.out.belowS hbD)
              have HVD := Lib.hid (HVQ.out.below hbD)
              obtain ⟨_, p1, p2, p3, _, _, _⟩ := id hc3
              have s1 := cell_below hbD p1
              have s2 := cell_below hbD p2
              have s3 := cell_below hbD p3
              have s4 := cell_below hbD hca
              have s5 := cell_below hbD g1
              have s6 := cell_below hbD g2
              have s7 := cell_below hbD g3
              have s8 := cell_below hbD hcb
              have s9 := cell_below hbD g6
              have s10 := cell_below hbD g7
              have s11 := cell_below hbD g8
              have HF1 := Lib.hid (HFA.out i q hil hqm)
              have HF2 := Lib.hid (HFB.out q k hqm hkn)
              have HF3 := Lib.hid (HP.out i k hil hkn q hqm)
              have HF4 := Lib.hid (HS.out i k hil hkn q hq)
              have HF5 : Hid (fits ((sg q fun j => (rX a i j).q * (rX b j k).q) + (rX a i q).q * (rX b q k).q)) := Lib.hid (HS.out i k hil hkn (q + 1) hqm)
              have q1' : (0 : Int) ≤ (q : Int) := by omega
              have q2' : (q : Int) < (m : Nat) := by omega
              clear g1 g2 g3 g4 g5 g6 g7 g8 g9 g10 hBW hc3 hvq hbq p1 p2 p3 hra hrb hca hcb
              go_wp2_with fail
              refine wpN.start [17] (fun w' => w'.cell? ⟨b5, 0, none⟩ = some (.bool t') ∧ w'.cell? ⟨b5, 1, none⟩ = some (.slice a1 l1 k1) ∧ w'.cell? ⟨b5, 2, none⟩ = some (.slice a2 l2 k2) ∧ w'.cell? (ptr va i) = some (.slice ra1 ra2 ra3) ∧ w'.cell? (ptr (.slice ra1 ra2 ra3) (q * 3)) = some (.bool (rX a i q).neg) ∧ w'.cell? (ptr (.slice ra1 ra2 ra3) (q * 3 + 1)) = some (.slice ea1 ea2 ea3) ∧ w'.cell? (ptr (.slice ra1 ra2 ra3) (q * 3 + 2)) = some (.slice eb1 eb2 eb3) ∧ w'.cell? (ptr vb q) = some (.slice rb1 rb2 rb3) ∧ w'.cell? (ptr (.slice rb1 rb2 rb3) (k * 3)) = some (.bool (rX b q k).neg) ∧ w'.cell? (ptr (.slice rb1 rb2 rb3) (k * 3 + 1)) = some (.slice ec1 ec2 ec3) ∧ w'.cell? (ptr (.slice rb1 rb2 rb3) (k * 3 + 2)) = some (.slice ed1 ed2 ed3)) (by kernel_rfl) ⟨s1, s2, s3, s4, s5, s6, s7, s8, s9, s10, s11⟩ (fun hHeld => ?_)
              (refine wpN.take 0 (by kernel_rfl) (by kernel_rfl) (by kernel_rfl) (by kernel_rfl) (by kernel_rfl) (by assumption) (by kernel_rfl) ?_; intro oi hoi; simp only [List.getElem?_toArray, List.getElem?_cons_succ, List.getElem?_cons_zero, Option.some.injEq] at hoi; subst hoi)
              first
                | (refine ⟨undef, fun _ _ _ h => h, Or.inr ⟨by rfl, rfl⟩, ?_⟩; simp only [Act.put, List.setIfInBounds_toArray, List.set_cons_zero, List.set_cons_succ])
                | (refine ⟨?_, fun _ _ _ h => h, Or.inl ⟨by rfl, ?_⟩, ?_⟩; rotate_left; focus (intro w hSw; (try dsimp only at hSw); go_simp; try with_reducible rfl)
                   simp only [Act.put, List.setIfInBounds_toArray, List.set_cons_zero, List.set_cons_succ])
                | fail "op 0"
              (refine wpN.take 1 (by kernel_rfl) (by kernel_rfl) (by kernel_rfl) (by kernel_rfl) (by kernel_rfl) (by assumption) (by kernel_rfl) ?_; intro oi hoi; simp only [List.getElem?_toArray, List.getElem?_cons_succ, List.getElem?_cons_zero, Option.some.injEq] at hoi; subst hoi)
              first
                | (refine ⟨undef, fun _ _ _ h => h, Or.inr ⟨by rfl, rfl⟩, ?_⟩; simp only [Act.put, List.setIfInBounds_toArray, List.set_cons_zero, List.set_cons_succ])
                | (refine ⟨?_, fun _ _ _ h => h, Or.inl ⟨by rfl, ?_⟩, ?_⟩; rotate_left; focus (intro w hSw; (try dsimp only at hSw); go_simp; try with_reducible rfl)
                   simp only [Act.put, List.setIfInBounds_toArray, List.set_cons_zero, List.set_cons_succ])
                | fail "op 1"
              (refine wpN.take 2 (by kernel_rfl) (by kernel_rfl) (by kernel_rfl) (by kernel_rfl) (by kernel_rfl) (by assumption) (by kernel_rfl) ?_; intro oi hoi; simp only [List.getElem?_toArray, List.getElem?_cons_succ, List.getElem?_cons_zero, Option.some.injEq] at hoi; subst hoi)
              first
                | (refine ⟨undef, fun _ _ _ h => h, Or.inr ⟨by rfl, rfl⟩, ?_⟩; simp only [Act.put, List.setIfInBounds_toArray, List.set_cons_zero, List.set_cons_succ])
                | (refine ⟨?_, fun _ _ _ h => h, Or.inl ⟨by rfl, ?_⟩, ?_⟩; rotate_left; focus (intro w hSw; (try dsimp only at hSw); go_simp; try with_reducible rfl)
                   simp only [Act.put, List.setIfInBounds_toArray, List.set_cons_zero, List.set_cons_succ])
                | fail "op 2"
              (refine wpN.take 3 (by kernel_rfl) (by kernel_rfl) (by kernel_rfl) (by kernel_rfl) (by kernel_rfl) (by assumption) (by kernel_rfl) ?_; intro oi hoi; simp only [List.getElem?_toArray, List.getElem?_cons_succ, List.getElem?_cons_zero, Option.some.injEq] at hoi; subst hoi)
              first
                | (refine ⟨undef, fun _ _ _ h => h, Or.inr ⟨by rfl, rfl⟩, ?_⟩; simp only [Act.put, List.setIfInBounds_toArray, List.set_cons_zero, List.set_cons_succ])
                | (refine ⟨?_, fun _ _ _ h => h, Or.inl ⟨by rfl, ?_⟩, ?_⟩; rotate_left; focus (intro w hSw; (try dsimp only at hSw); go_simp; try with_reducible rfl)
                   simp only [Act.put, List.setIfInBounds_toArray, List.set_cons_zero, List.set_cons_succ])
                | fail "op 3"
              (refine wpN.take 4 (by kernel_rfl) (by kernel_rfl) (by kernel_rfl) (by kernel_rfl) (by kernel_rfl) (by assumption) (by kernel_rfl) ?_; intro oi hoi; simp only [List.getElem?_toArray, List.getElem?_cons_succ, List.getElem?_cons_zero, Option.some.injEq] at hoi; subst hoi)
              first
                | (refine ⟨undef, fun _ _ _ h => h, Or.inr ⟨by rfl, rfl⟩, ?_⟩; simp only [Act.put, List.setIfInBounds_toArray, List.set_cons_zero, List.set_cons_succ])
                | (refine ⟨?_, fun _ _ _ h => h, Or.inl ⟨by rfl, ?_⟩, ?_⟩; rotate_left; focus (intro w hSw; (try dsimp only at hSw); go_simp; try with_reducible rfl)
                   simp only [Act.put, List.setIfInBounds_toArray, List.set_cons_zero, List.set_cons_succ])
                | fail "op 4"
              (refine wpN.take 5 (by kernel_rfl) (by kernel_rfl) (by kernel_rfl) (by kernel_rfl) (by kernel_rfl) (by assumption) (by kernel_rfl) ?_; intro oi hoi; simp only [List.getElem?_toArray, List.getElem?_cons_succ, List.getElem?_cons_zero, Option.some.injEq] at hoi; subst hoi)
              first
                | (refine ⟨undef, fun _ _ _ h => h, Or.inr ⟨by rfl, rfl⟩, ?_⟩; simp only [Act.put, List.setIfInBounds_toArray, List.set_cons_zero, List.set_cons_succ])
                | (refine ⟨?_, fun _ _ _ h => h, Or.inl ⟨by rfl, ?_⟩, ?_⟩; rotate_left; focus (intro w hSw; (try dsimp only at hSw); go_simp; try with_reducible rfl)
                   simp only [Act.put, List.setIfInBounds_toArray, List.set_cons_zero, List.set_cons_succ])
                | fail "op 5"
              (refine wpN.take 6 (by kernel_rfl) (by kernel_rfl) (by kernel_rfl) (by kernel_rfl) (by kernel_rfl) (by assumption) (by kernel_rfl) ?_; intro oi hoi; simp only [List.getElem?_toArray, List.getElem?_cons_succ, List.getElem?_cons_zero, Option.some.injEq] at hoi; subst hoi)
              first
                | (refine ⟨undef, fun _ _ _ h => h, Or.inr ⟨by rfl, rfl⟩, ?_⟩; simp only [Act.put, List.setIfInBounds_toArray, List.set_cons_zero, List.set_cons_succ])
                | (refine ⟨?_, fun _ _ _ h => h, Or.inl ⟨by rfl, ?_⟩, ?_⟩; rotate_left; focus (intro w hSw; (try dsimp only at hSw); go_simp; try with_reducible rfl)
                   simp only [Act.put, List.setIfInBounds_toArray, List.set_cons_zero, List.set_cons_succ])
                | fail "op 6"
              (refine wpN.take 7 (by kernel_rfl) (by kernel_rfl) (by kernel_rfl) (by kernel_rfl) (by kernel_rfl) (by assumption) (by kernel_rfl) ?_; intro oi hoi; simp only [List.getElem?_toArray, List.getElem?_cons_succ, List.getElem?_cons_zero, Option.some.injEq] at hoi; subst hoi)
              first
                | (refine ⟨undef, fun _ _ _ h => h, Or.inr ⟨by rfl, rfl⟩, ?_⟩; simp only [Act.put, List.setIfInBounds_toArray, List.set_cons_zero, List.set_cons_succ])
                | (refine ⟨?_, fun _ _ _ h => h, Or.inl ⟨by rfl, ?_⟩, ?_⟩; rotate_left; focus (intro w hSw; (try dsimp only at hSw); go_simp; try with_reducible rfl)
                   simp only [Act.put, List.setIfInBounds_toArray, List.set_cons_zero, List.set_cons_succ])
                | fail "op 7"
              (refine wpN.take 8 (by kernel_rfl) (by kernel_rfl) (by kernel_rfl) (by kernel_rfl) (by kernel_rfl) (by assumption) (by kernel_rfl) ?_; intro oi hoi; simp only [List.getElem?_toArray, List.getElem?_cons_succ, List.getElem?_cons_zero, Option.some.injEq] at hoi; subst hoi)
              first
                | (refine ⟨undef, fun _ _ _ h => h, Or.inr ⟨by rfl, rfl⟩, ?_⟩; simp only [Act.put, List.setIfInBounds_toArray, List.set_cons_zero, List.set_cons_succ])
                | (refine ⟨?_, fun _ _ _ h => h, Or.inl ⟨by rfl, ?_⟩, ?_⟩; rotate_left; focus (intro w hSw; (try dsimp only at hSw); go_simp; try with_reducible rfl)
                   simp only [Act.put, List.setIfInBounds_toArray, List.set_cons_zero, List.set_cons_succ])
                | fail "op 8"
              (refine wpN.take 9 (by kernel_rfl) (by kernel_rfl) (by kernel_rfl) (by kernel_rfl) (by kernel_rfl) (by assumption) (by kernel_rfl) ?_; intro oi hoi; simp only [List.getElem?_toArray, List.getElem?_cons_succ, List.getElem?_cons_zero, Option.some.injEq] at hoi; subst hoi)
              first
                | (refine ⟨undef, fun _ _ _ h => h, Or.inr ⟨by rfl, rfl⟩, ?_⟩; simp only [Act.put, List.setIfInBounds_toArray, List.set_cons_zero, List.set_cons_succ])
                | (refine ⟨?_, fun _ _ _ h => h, Or.inl ⟨by rfl, ?_⟩, ?_⟩; rotate_left; focus (intro w hSw; (try dsimp only at hSw); go_simp; try with_reducible rfl)
                   simp only [Act.put, List.setIfInBounds_toArray, List.set_cons_zero, List.set_cons_succ])
                | fail "op 9"
              (refine wpN.take 10 (by kernel_rfl) (by kernel_rfl) (by kernel_rfl) (by kernel_rfl) (by kernel_rfl) (by assumption) (by kernel_rfl) ?_; intro oi hoi; simp only [List.getElem?_toArray, List.getElem?_cons_succ, List.getElem?_cons_zero, Option.some.injEq] at hoi; subst hoi)
              first
                | (refine ⟨undef, fun _ _ _ h => h, Or.inr ⟨by rfl, rfl⟩, ?_⟩; simp only [Act.put, List.setIfInBounds_toArray, List.set_cons_zero, List.set_cons_succ])
                | (refine ⟨?_, fun _ _ _ h => h, Or.inl ⟨by rfl, ?_⟩, ?_⟩; rotate_left; focus (intro w hSw; (try dsimp only at hSw); go_simp; try with_reducible rfl)
                   simp only [Act.put, List.setIfInBounds_toArray, List.set_cons_zero, List.set_cons_succ])
                | fail "op 10"
              (refine wpN.take 11 (by kernel_rfl) (by kernel_rfl) (by kernel_rfl) (by kernel_rfl) (by kernel_rfl) (by assumption) (by kernel_rfl) ?_; intro oi hoi; simp only [List.getElem?_toArray, List.getElem?_cons_succ, List.getElem?_cons_zero, Option.some.injEq] at hoi; subst hoi)
              first
                | (refine ⟨undef, fun _ _ _ h => h, Or.inr ⟨by rfl, rfl⟩, ?_⟩; simp only [Act.put, List.setIfInBounds_toArray, List.set_cons_zero, List.set_cons_succ])
                | (refine ⟨?_, fun _ _ _ h => h, Or.inl ⟨by rfl, ?_⟩, ?_⟩; rotate_left; focus (intro w hSw; (try dsimp only at hSw); go_simp; try with_reducible rfl)
                   simp only [Act.put, List.setIfInBounds_toArray, List.set_cons_zero, List.set_cons_succ])
                | fail "op 11"
              (refine wpN.take 12 (by kernel_rfl) (by kernel_rfl) (by kernel_rfl) (by kernel_rfl) (by kernel_rfl) (by assumption) (by kernel_rfl) ?_; intro oi hoi; simp only [List.getElem?_toArray, List.getElem?_cons_succ, List.getElem?_cons_zero, Option.some.injEq] at hoi; subst hoi)
              first
                | (refine ⟨undef, fun _ _ _ h => h, Or.inr ⟨by rfl, rfl⟩, ?_⟩; simp only [Act.put, List.setIfInBounds_toArray, List.set_cons_zero, List.set_cons_succ])
                | (refine ⟨?_, fun _ _ _ h => h, Or.inl ⟨by rfl, ?_⟩, ?_⟩; rotate_left; focus (intro w hSw; (try dsimp only at hSw); go_simp; try with_reducible rfl)
                   simp only [Act.put, List.setIfInBounds_toArray, List.set_cons_zero, List.set_cons_succ])
                | fail "op 12"
              (refine wpN.take 13 (by kernel_rfl) (by kernel_rfl) (by kernel_rfl) (by kernel_rfl) (by kernel_rfl) (by assumption) (by kernel_rfl) ?_; intro oi hoi; simp only [List.getElem?_toArray, List.getElem?_cons_succ, List.getElem?_cons_zero, Option.some.injEq] at hoi; subst hoi)
              first
                | (refine ⟨undef, fun _ _ _ h => h, Or.inr ⟨by rfl, rfl⟩, ?_⟩; simp only [Act.put, List.setIfInBounds_toArray, List.set_cons_zero, List.set_cons_succ])
                | (refine ⟨?_, fun _ _ _ h => h, Or.inl ⟨by rfl, ?_⟩, ?_⟩; rotate_left; focus (intro w hSw; (try dsimp only at hSw); go_simp; try with_reducible rfl)
                   simp only [Act.put, List.setIfInBounds_toArray, List.set_cons_zero, List.set_cons_succ])
                | fail "op 13"
              (refine wpN.take 14 (by kernel_rfl) (by kernel_rfl) (by kernel_rfl) (by kernel_rfl) (by kernel_rfl) (by assumption) (by kernel_rfl) ?_; intro oi hoi; simp only [List.getElem?_toArray, List.getElem?_cons_succ, List.getElem?_cons_zero, Option.some.injEq] at hoi; subst hoi)
              first
                | (refine ⟨undef, fun _ _ _ h => h, Or.inr ⟨by rfl, rfl⟩, ?_⟩; simp only [Act.put, List.setIfInBounds_toArray, List.set_cons_zero, List.set_cons_succ])
                | (refine ⟨?_, fun _ _ _ h => h, Or.inl ⟨by rfl, ?_⟩, ?_⟩; rotate_left; focus (intro w hSw; (try dsimp only at hSw); go_simp; try with_reducible rfl)
                   simp only [Act.put, List.setIfInBounds_toArray, List.set_cons_zero, List.set_cons_succ])
                | fail "op 14"
              (refine wpN.one 15 (by kernel_rfl) (by kernel_rfl) ?_; intro oi hoi K hK; simp only [List.getElem?_toArray, List.getElem?_cons_succ, List.getElem?_cons_zero, Option.some.injEq] at hoi; subst hoi)
              refine step_callg 37 #[.agg #[.bool (rX a i q).neg, .slice ea1 ea2 ea3, .slice eb1 eb2 eb3], .agg #[.bool (rX b q k).neg, .slice ec1 ec2 ec3, .slice ed1 ed2 ed3]] ?_ ?_ (r5mul_raw _ _ (rX a i q) (rX b q k) _ HFU.out HFV.out HF1.out HF2.out HF3.out) ?_
              · rfl
              · go_simp
              rintro e9 w9 ⟨v9, rfl, hv9, hb9⟩
              refine ⟨_, rfl, ?_⟩
              have hNew : (fun w' => w'.cell? ⟨b5, 0, none⟩ = some (.bool t') ∧ w'.cell? ⟨b5, 1, none⟩ = some (.slice a1 l1 k1) ∧ w'.cell? ⟨b5, 2, none⟩ = some (.slice a2 l2 k2) ∧ w'.cell? (ptr va i) = some (.slice ra1 ra2 ra3) ∧ w'.cell? (ptr (.slice ra1 ra2 ra3) (q * 3)) = some (.bool (rX a i q).neg) ∧ w'.cell? (ptr (.slice ra1 ra2 ra3) (q * 3 + 1)) = some (.slice ea1 ea2 ea3) ∧ w'.cell? (ptr (.slice ra1 ra2 ra3) (q * 3 + 2)) = some (.slice eb1 eb2 eb3) ∧ w'.cell? (ptr vb q) = some (.slice rb1 rb2 rb3) ∧ w'.cell? (ptr (.slice rb1 rb2 rb3) (k * 3)) = some (.bool (rX b q k).neg) ∧ w'.cell? (ptr (.slice rb1 rb2 rb3) (k * 3 + 1)) = some (.slice ec1 ec2 ec3) ∧ w'.cell? (ptr (.slice rb1 rb2 rb3) (k * 3 + 2)) = some (.slice ed1 ed2 ed3)) w9 := ⟨cell_below hb9 s1, cell_below hb9 s2, cell_below hb9 s3, cell_below hb9 s4, cell_below hb9 s5, cell_below hb9 s6, cell_below hb9 s7, cell_below hb9 s8, cell_below hb9 s9, cell_below hb9 s10, cell_below hb9 s11⟩
              refine hK.out _ _ (fun _ => hNew) ?_
              clear hK K hHeld s1 s2 s3 s4 s5 s6 s7 s8 s9 s10 s11
              try simp only [Act.put, List.setIfInBounds_toArray, List.set_cons_zero, List.set_cons_succ]
              obtain ⟨s1, s2, s3, s4, s5, s6, s7, s8, s9, s10, s11⟩ := hNew
              (refine wpN.one 16 (by kernel_rfl) (by kernel_rfl) ?_; intro oi hoi K hK; simp only [List.getElem?_toArray, List.getElem?_cons_succ, List.getElem?_cons_zero, Option.some.injEq] at hoi; subst hoi)
              refine step_callg 36 #[.agg #[.bool t', .slice a1 l1 k1, .slice a2 l2 k2], v9] ?_ ?_ (r5add_can _ _ _ _ _ (HVD.out.below hb9) hv9 HF4.out HF3.out HF5.out) ?_
              · rfl
              · go_simp
              rintro e10 w10 ⟨v10, rfl, hv10, hb10⟩
              obtain ⟨t9, x9, y9, rfl, ⟨a91, l91, k91, rfl, _⟩, ⟨a92, l92, k92, rfl, _⟩⟩ := hv10.isF
              refine ⟨_, rfl, ?_⟩
              have hNew : (fun w' => w'.cell? ⟨b5, 0, none⟩ = some (.bool t') ∧ w'.cell? ⟨b5, 1, none⟩ = some (.slice a1 l1 k1) ∧ w'.cell? ⟨b5, 2, none⟩ = some (.slice a2 l2 k2) ∧ w'.cell? (ptr va i) = some (.slice ra1 ra2 ra3) ∧ w'.cell? (ptr (.slice ra1 ra2 ra3) (q * 3)) = some (.bool (rX a i q).neg) ∧ w'.cell? (ptr (.slice ra1 ra2 ra3) (q * 3 + 1)) = some (.slice ea1 ea2 ea3) ∧ w'.cell? (ptr (.slice ra1 ra2 ra3) (q * 3 + 2)) = some (.slice eb1 eb2 eb3) ∧ w'.cell? (ptr vb q) = some (.slice rb1 rb2 rb3) ∧ w'.cell? (ptr (.slice rb1 rb2 rb3) (k * 3)) = some (.bool (rX b q k).neg) ∧ w'.cell? (ptr (.slice rb1 rb2 rb3) (k * 3 + 1)) = some (.slice ec1 ec2 ec3) ∧ w'.cell? (ptr (.slice rb1 rb2 rb3) (k * 3 + 2)) = some (.slice ed1 ed2 ed3)) w10 := ⟨cell_below hb10 s1, cell_below hb10 s2, cell_below hb10 s3, cell_below hb10 s4, cell_below hb10 s5, cell_below hb10 s6, cell_below hb10 s7, cell_below hb10 s8, cell_below hb10 s9, cell_below hb10 s10, cell_below hb10 s11⟩
              refine hK.out _ _ (fun _ => hNew) ?_
              clear hK K s1 s2 s3 s4 s5 s6 s7 s8 s9 s10 s11 hNew
              try simp only [Act.put, List.setIfInBounds_toArray, List.set_cons_zero, List.set_cons_succ]
              have HC10 := Lib.hid ((HCD.out.belowS hb9).belowS hb10)
              have HV10 := Lib.hid hv10
              have hbA := below_then (below_then hbD hb9) hb10
              have HB10 := Lib.hid (below_then2 HBQ.out hbA HBQ.out.size)
              obtain ⟨_, c0, c1, c2, f0, f1, f2⟩ := HC10.out
              clear hv10 hb10 hv9 hb9 hbD hbA
              (refine wpN.one 17 (by kernel_rfl) (by kernel_rfl) ?_; intro oi hoi K hK; simp only [List.getElem?_toArray, List.getElem?_cons_succ, List.getElem?_cons_zero, Option.some.injEq] at hoi; subst hoi)
              rw [if_pos (by rfl)]
              go_simp
              refine hK.out _ _ (fun h => by cases h) ?_
              clear hK K c0 c1 c2 f0 f1 f2
              refine wpN.done (by kernel_rfl) ?_ _
              go_wp2_with fail
              go_roundg (m - (q + 1))
              case measure => (have := HGQ.out; omega)
              case rel => exact ⟨q + 1, _, _, _, _, _, _, _, by omega, rfl, by go_num, HC10.out.set _ _ _, HV10.out.set3 HC10.out (fun z => by simp) (fun z => by simp) _ _ _, below_set3 HB10.out h1314 _ _ _⟩
            · obtain rfl : m = q := by omega
              obtain ⟨_, d0, d1, d2, _, _, _⟩ := id hc3
              have hfr5 := HFR.out.moves (Moves.below (B := w5.heap.size) hbq) (Nat.le_refl _)
              have hsz5 : w5.heap.size ≤ wq.heap.size := Nat.le_trans HBI.out.size hbq.size
              go_wp2_with (first
                | (at_builtin; refine hAP wq rfl _ _ rfl w5.heap.size _ u14 (rowL k (mulM m (rQ a) (rQ b) i)) rfl hfr5 _ _ _ _ hvq rfl hrl hsz5 ?_; intro v4' w50 ho50 hg50 hn50 hq50 sv50
                   have hg5 : Below w5.heap.size wq w50 := below_of_grown hg50 hsz5 (fun k hk => (hfr5.block k hk).1)
                   have HO50 := Lib.hid ho50))
              go_roundg (c - (k + 1))
              case measure => (have := HGK.out; omega)
              case rel => exact ⟨k + 1, by omega, rfl, by go_num, by rw [← rowL_snoc]; exact HO50.out, (below_then2 HBI.out hbq HBI.out.size).trans hg5⟩
        · obtain rfl : c = k := by omega
          obtain ⟨a11, l11, k11, rfl, _⟩ := id srow
          have hm5 := HM.out.below hbi
          have hra := hm5.ra
          have hsz5 := hm5.sz
          have hlen : rs.length ≤ 1000 := by rw [HRS.out]; omega
          have HM5 := Lib.hid hm5
          have HR5 : Hid (FrRow wb 25 w4.heap.size (.slice a11 l11 k11) (rowL c (mulM m (rQ a) (rQ b) rs.length))) := Lib.hid (by rw [HRS.out]; exact HFR.out.mono HB5.out.size)
          clear hm5
          go_wp2_with (first
            | (at_builtin; refine hAR _ rfl _ _ rfl w4.heap.size _ u12 rs rfl hra (.slice a11 l11 k11) rfl (fun z => by simp) rfl hlen hsz5 ?_; intro v5' w21 ho21 hg21 hn21 hq21 sv21
               have hG := HM5.out.push HR5.out ho21 hg21 hn21
               have HG5 := Lib.hid hG
               clear hG))
          go_roundg (n - (i + 1))
          case measure => (have := HG.out; omega)
          case rel => exact ⟨i + 1, _, by omega, rfl, by go_num, by rw [List.length_append, HRS.out]; rfl, HG5.out.1, (below_then2 HB5.out hbi HB5.out.size).trans HG5.out.2⟩
    · obtain rfl : n = i := by omega
      go_wp2_with fail
      go_ret2
      exact ⟨_, rfl, by have h := HM.out.mat; rw [HRS.out] at h; exact h, below_then2 HB4.out hbr HB4.out.size⟩
set_option maxRecDepth 100000 in
set_option maxHeartbeats 3200000 in
theorem r5mul_any (va vb : Value) (a b : List (List RF)) (w : World) (ha : MatN w va a) (hb : MatN w vb b) : Calls Tryz.prog 12 #[va, vb] w (RAnsM w (mulAns a b)) := by
  by_cases hok : mulP a b
  · by_cases hw : 3800 < wtsM a + wtsM b
    · have HANS : Hid (mulAns a b = ([], 2)) := Lib.hid (by unfold mulAns; rw [if_pos hok, if_pos hw])
      have HA := Lib.hid ha
      have HB := Lib.hid hb
      have HSA := Lib.hid hok.1
      have HSB := Lib.hid hok.2.1
      have hl1 := wtsM_lim hok.1
      have hl2 := wtsM_lim hok.2.1
      obtain ⟨n, hn⟩ : ∃ n, a.length = n := ⟨_, rfl⟩
      obtain ⟨m, hm⟩ : ∃ n, cols a = n := ⟨_, rfl⟩
      obtain ⟨c, hc⟩ : ∃ n, cols b = n := ⟨_, rfl⟩
      have hbm : b.length = m := by rw [← hm]; exact hok.2.2.symm
      have HN := Lib.hid (And.intro hn (And.intro hm (And.intro hbm hc)))
      obtain ⟨W1, hW1⟩ : ∃ W, wtsM a = W := ⟨_, rfl⟩
      obtain ⟨W2, hW2⟩ : ∃ W, wtsM b = W := ⟨_, rfl⟩
      rw [hW1, hW2] at hw
      rw [hW1] at hl1
      rw [hW2] at hl2
      have HW1 := Lib.hid hW1
      have HW2 := Lib.hid hW2
      have hwi : (3800 : Int) < (W1 : Int) + (W2 : Nat) := by omega
      clear ha hb hok hW1 hW2 hw hn hm hc hbm
      go_enter Tryz.func12, Tryz.ntmps12
      go_wp2_with (first
        | (go_at_call 22; first
           | ((with_reducible refine (rshape_ok va a n m _ HA.out HSA.out HN.out.1 HN.out.2.1).mono ?_); rintro e1 w1 ⟨rfl, hb1⟩)
           | ((with_reducible refine (rshape_ok vb b m c _ (HB.out.below hb1) HSB.out HN.out.2.2.1 HN.out.2.2.2).mono ?_); rintro e2 w2 ⟨rfl, hb2⟩
              have hB2 := below_then hb1 hb2))
        | (go_at_call 24; first
           | ((with_reducible refine (rweights_any va a _ (HA.out.below hB2) HSA.out).mono ?_); rw [HW1.out]; rintro e3 w3 ⟨rfl, hb3⟩
              have hB3 := below_then hB2 hb3)
           | ((with_reducible refine (rweights_any vb b _ (HB.out.below hB3) HSB.out).mono ?_); rw [HW2.out]; rintro e4 w4 ⟨rfl, hb4⟩)))
      go_ret2
      rw [HANS.out]
      exact ⟨_, rfl, MatC.nil _, below_then hB3 hb4⟩
    · refine (rmul_valid va vb a b _ _ _ w ha hb hok rfl rfl rfl (by omega)).mono ?_
      rintro e w' ⟨v, rfl, h1, h2⟩
      refine ⟨v, ?_, ?_, h2⟩
      · unfold mulAns; rw [if_pos hok, if_neg hw]; rfl
      · unfold mulAns; rw [if_pos hok, if_neg hw]; exact h1.matC
  · have HANS : Hid (mulAns a b = ([], 1)) := Lib.hid (by unfold mulAns; rw [if_neg hok])
    have HA := Lib.hid ha
    have HB := Lib.hid hb
    by_cases hsa : shapeP a
    · by_cases hsb : shapeP b
      · have hne : cols a ≠ b.length := fun e => hok ⟨hsa, hsb, e⟩
        obtain ⟨n, hn⟩ : ∃ n, a.length = n := ⟨_, rfl⟩
        obtain ⟨m, hm⟩ : ∃ n, cols a = n := ⟨_, rfl⟩
        obtain ⟨k, hk⟩ : ∃ n, b.length = n := ⟨_, rfl⟩
        obtain ⟨c, hc⟩ : ∃ n, cols b = n := ⟨_, rfl⟩
        rw [hm, hk] at hne
        have hne2 : ((m : Int) != (k : Int)) = true := by simp; omega
        have HN := Lib.hid (And.intro hn (And.intro hm (And.intro hk hc)))
        have HSA := Lib.hid hsa
        have HSB := Lib.hid hsb
        clear ha hb hok hsa hsb hne hn hm hk hc
        go_enter Tryz.func12, Tryz.ntmps12
        go_wp2_with (first
          | (go_at_call 22; first
             | ((with_reducible refine (rshape_ok va a n m _ HA.out HSA.out HN.out.1 HN.out.2.1).mono ?_); rintro e1 w1 ⟨rfl, hb1⟩)
             | ((with_reducible refine (rshape_ok vb b k c _ (HB.out.below hb1) HSB.out HN.out.2.2.1 HN.out.2.2.2).mono ?_); rintro e2 w2 ⟨rfl, hb2⟩
                have hB2 := below_then hb1 hb2)))
        go_ret2
        rw [HANS.out]
        exact ⟨_, rfl, MatC.nil _, hB2⟩
      · have HSA := Lib.hid hsa
        have HSB := Lib.hid hsb
        obtain ⟨n, hn⟩ : ∃ n, a.length = n := ⟨_, rfl⟩
        obtain ⟨m, hm⟩ : ∃ n, cols a = n := ⟨_, rfl⟩
        have HN := Lib.hid (And.intro hn hm)
        clear ha hb hok hsa hsb hn hm
        go_enter Tryz.func12, Tryz.ntmps12
        go_wp2_with (first
          | (go_at_call 22; first
             | ((with_reducible refine (rshape_ok va a n m _ HA.out HSA.out HN.out.1 HN.out.2).mono ?_); rintro e1 w1 ⟨rfl, hb1⟩)
             | ((with_reducible refine (rshape_no vb b _ (HB.out.below hb1) HSB.out).mono ?_); rintro e2 w2 ⟨rfl, hb2⟩
                have hB2 := below_then hb1 hb2)))
        go_ret2
        rw [HANS.out]
        exact ⟨_, rfl, MatC.nil _, hB2⟩
    · have HSA := Lib.hid hsa
      have hbs : ∃ p q t, ∀ w0, MatN w0 vb b → Calls Tryz.prog 22 #[vb] w0 fun e w' => e = .returned (.tuple #[.int .i64 (p : Nat), .int .i64 (q : Nat), .bool t]) ∧ Below w0.heap.size w0 w' := by
        by_cases hsb : shapeP b
        · exact ⟨_, _, true, fun w0 h => rshape_ok vb b _ _ w0 h hsb rfl rfl⟩
        · exact ⟨0, 0, false, fun w0 h => rshape_no vb b w0 h hsb⟩
      obtain ⟨p, q, t, hsh⟩ := hbs
      clear ha hb hok hsa
      go_enter Tryz.func12, Tryz.ntmps12
      go_wp2_with (first
        | (go_at_call 22; first
           | ((with_reducible refine (rshape_no va a _ HA.out HSA.out).mono ?_); rintro e1 w1 ⟨rfl, hb1⟩)
           | ((with_reducible refine (hsh _ (HB.out.below hb1)).mono ?_); rintro e2 w2 ⟨rfl, hb2⟩
              have hB2 := below_then hb1 hb2)))
      go_ret2
      rw [HANS.out]
      exact ⟨_, rfl, MatC.nil _, hB2⟩
end Go.Proofs.YtbhkibilnmoljaaGreat
