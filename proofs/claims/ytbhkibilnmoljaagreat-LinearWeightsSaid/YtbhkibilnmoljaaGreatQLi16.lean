/-
  package linear: Mul.
-/
import Derived.Test.YtbhkibilnmoljaaGreatQMu1
import Derived.Test.YtbhkibilnmoljaaGreatQRwM
namespace Go.Proofs.YtbhkibilnmoljaaGreat
set_option linter.unusedVariables false
set_option linter.unusedSimpArgs false
open Go.RowKit

theorem set3_cell {w : World} {v : Value} {k : Nat} {p : Addr} (hp : p.block ≠ (base v).block) (x y z : Value) {u : Value} (h : w.cell? p = some u) :
    (((w.setCell (ptr v k) x).setCell (ptr v (k + 1)) y).setCell (ptr v (k + 2)) z).cell? p = some u := by
  have hne : ∀ j, ptr v j ≠ p := fun j e => hp (by rw [← e, ptr_block])
  rw [World.cell?_setCell_other _ _ _ _ (hne _), World.cell?_setCell_other _ _ _ _ (hne _), World.cell?_setCell_other _ _ _ _ (hne _)]
  exact h
theorem FracsC.blk {w : World} {v : Value} {q : List Rat} (h : FracsC w v q) (hq : 0 < q.length) : (base v).block < w.heap.size := by
  obtain ⟨_, _, h1, _⟩ := h.at' 0 hq
  have := World.block_lt_of_cell? w _ h1
  rwa [ptr_block] at this
/-- The rows that are finished lie below the block of the row in the making. -/
theorem RowsM.low {w : World} {B n k c g : Nat} {v : Value} {rs : List Value} {A : Mx} (h : RowsM w B v rs n k (fun i => rowL c (A i))) (hc : 1 ≤ c) (hg : w.heap.size ≤ g) (u : Value) : ∀ (i : Nat) (hi : i < (rs.set k u).length), i < k → (base (rs.set k u)[i]).block ≠ g := by
  intro i hi hik
  have hi2 : i < rs.length := by simpa using hi
  rw [List.getElem_set_ne (by omega)]
  have := (h.row i hi2 hik).1.blk (by rw [rowL_length]; omega)
  omega
set_option maxRecDepth 100000 in
set_option maxHeartbeats 3200000 in
theorem mul_lin (va vb : Value) (n m c : Nat) (A Bm : Mx) (w : World) (ha : MatF w va n m A) (hb : MatF w vb m c Bm) (hn1 : 1 ≤ n) (hn : n ≤ 24) (hm1 : 1 ≤ m) (hm : m ≤ 24) (hc1 : 1 ≤ c) (hc : c ≤ 24) (hfA : fitM n m A) (hfB : fitM m c Bm)
    (hw : wtF n m A + wtF m c Bm ≤ 3800) (hp : ∀ i k, i < n → k < c → ∀ j, j < m → fits (A i j * Bm j k)) (hs : ∀ i k, i < n → k < c → ∀ j, j ≤ m → fits (sg j fun l => A i l * Bm l k)) :
    Calls Tryz.prog 11 #[va, vb] w fun e w' => ∃ v, e = .returned (.tuple #[v, .int .i64 0]) ∧ MatF w' v n c (mulM m A Bm) ∧ Below w.heap.size w w' := by
  obtain ⟨i0, hi, hz0, hz1, hz2⟩ := info_parts Tryz.infoF
  have hM := make_fr (P := Tryz.prog) 27 25 i0 Tryz.underlying27 hi hz0 hz1 (by rw [hz2]; decide)
  clear hi hz0 hz1 hz2
  obtain ⟨i4, hi4, hz4, hs4, hy4⟩ := info_parts Tryz.infoRow
  have hMR := make_rows (P := Tryz.prog) 28 27 i4 Tryz.underlying28 hi4 hz4 hs4 hy4
  clear hi4 hz4 hs4 hy4
  have HFA := Lib.hid hfA
  have HFB := Lib.hid hfB
  have HP := Lib.hid hp
  have HS := Lib.hid hs
  have hwi : (wtF n m A : Int) + (wtF m c Bm : Nat) ≤ 3800 := by omega
  obtain ⟨W1, hW1⟩ : ∃ W, wtF n m A = W := ⟨_, rfl⟩
  obtain ⟨W2, hW2⟩ : ∃ W, wtF m c Bm = W := ⟨_, rfl⟩
  rw [hW1, hW2] at hwi
  have HW1 := Lib.hid hW1
  have HW2 := Lib.hid hW2
  have sa := ha.sl
  have la := ha.len
  have sb := hb.sl
  have lb := hb.len
  have HA := Lib.hid ha
  have HB := Lib.hid hb
  clear hW1 hW2 ha hb hfA hfB hp hs hw
  have tok1 : True := trivial
  have tok2 : True := trivial
  go_enter Tryz.func11, Tryz.ntmps11
  go_wp2_with (first
    | (go_at_call 31; have _t := tok1; (with_reducible refine (shape_lin va n m A _ HA.out hn1 hn hm1 hm HFA.out).mono ?_); rintro e1 w1 ⟨rfl, hb1⟩; clear tok1 _t)
    | (go_at_call 31; have _t := tok2; (with_reducible refine (shape_lin vb m c Bm _ (HB.out.below hb1) hm1 hm hc1 hc HFB.out).mono ?_); rintro e2 w2 ⟨rfl, hb2⟩; clear tok2 _t
       have hB2 := below_then hb1 hb2
       have tok3 : True := trivial
       have tok4 : True := trivial)
    | (go_at_call 19; have _t := tok3; (with_reducible refine (weight_lin va n m A _ (HA.out.below hB2) hn hm HFA.out).mono ?_); rw [HW1.out]; rintro e3 w3 ⟨rfl, hb3⟩; clear tok3 _t
       have hB3 := below_then hB2 hb3)
    | (go_at_call 19; have _t := tok4; (with_reducible refine (weight_lin vb m c Bm _ (HB.out.below hB3) hm hc HFB.out).mono ?_); rw [HW2.out]; rintro e5 w5 ⟨rfl, hb5⟩; clear tok4 _t
       have hB5 := below_then hB3 hb5)
    | (refine hMR w5 rfl _ _ rfl w5.heap.size _ n rfl rfl rfl (by omega) (Nat.le_refl _) ?_; intro vO w6 hO6 hb6
       have HO6 := Lib.hid hO6
       have HB6 := Lib.hid hb6
       have HB5 := Lib.hid hB5
       have slO := hO6.sl
       have lnO := hO6.len
       clear hO6 hb6 hB5 hb5 hB3 hb3 hB2 hb2 hb1))
  clear hMR
  go_loopg [53] (n) (fun g u53 wr => ∃ (i : Nat) (rs : List Value), i ≤ n ∧ g = n - i ∧ u53 = .int .i64 i ∧ RowsM wr w5.heap.size vO rs n i (fun i => rowL c (mulM m A Bm i)) ∧ Below w5.heap.size w5 wr)
  case atStart => exact ⟨0, _, Nat.zero_le _, rfl, rfl, RowsM.start HO6.out, HB6.out⟩
  case round =>
    obtain ⟨i, rs, hin, hg, rfl, hR, hbr⟩ := hrel
    obtain ⟨w2, hw2⟩ : ∃ w2, w2 = wr := ⟨_, rfl⟩
    subst hw2
    have HG := Lib.hid hg
    have HR := Lib.hid hR
    have HBR := Lib.hid hbr
    have hBw2 := below_then2 HB5.out hbr HB5.out.size
    have HBW := Lib.hid hBw2
    have hBsz : w5.heap.size ≤ w2.heap.size := hbr.size
    clear hg HO6 HB6 hbr hBw2
    by_cases hil : i < n
    · have hir : i < rs.length := by rw [hR.rl]; exact hil
      have i1 : (0 : Int) ≤ (i : Int) := by omega
      have i2 : (i : Int) < (n : Nat) := by omega
      clear hR
      go_wp2_with (refine hM w2 rfl _ _ rfl w2.heap.size _ c rfl rfl rfl (by omega) (Nat.le_refl _) ?_; intro vI w6 hO6 hb6 hv6
                   obtain ⟨gI, _, rfl, _⟩ := id hO6
                   have slI := hO6.sl
                   have lnI := hO6.len
                   have hR6 := HR.out.below hb6
                   have c6 := hR6.own.cell i hir
                   have f6 := hR6.own.frozen i hir)
      have hPut := hR6.put i hil (Nat.le_refl _) (u := .slice (some ⟨gI, 0, none⟩) c c) (fun z => by simp)
      have hlt2 := HR.out.vblock (by omega)
      have hpO : (ptr vO i).block = (base vO).block := ptr_block _ _
      have hgI : w2.heap.size ≤ gI := hO6.block.1
      have hOS := hO6.overM (p := ptr vO i) (by rw [hpO]; have : (base (.slice (some ⟨gI, 0, none⟩) c c)).block = gI := rfl; omega) (.slice (some ⟨gI, 0, none⟩) c c)
      have HPUT := Lib.hid hPut
      have HOS := Lib.hid hOS
      have hBS := HBR.out.trans ((hb6.mono hBsz).trans hPut.2)
      have HBS := Lib.hid hBS
      have HLOW := Lib.hid (HR.out.low hc1 hgI (.slice (some ⟨gI, 0, none⟩) c c))
      clear hPut hOS hBS hR6 c6 f6 hO6 hb6 hv6
      go_loopg [66] (c) (fun g u66 wr => ∃ (k : Nat), k ≤ c ∧ g = c - k ∧ u66 = .int .i64 k ∧ OwnFr wr 25 w2.heap.size (.slice (some ⟨gI, 0, none⟩) c c) c ∧ (∀ j, j < k → ElemC wr (.slice (some ⟨gI, 0, none⟩) c c) j (mulM m A Bm i j)) ∧ RowsM wr w5.heap.size vO (rs.set i (.slice (some ⟨gI, 0, none⟩) c c)) n i (fun i => rowL c (mulM m A Bm i)) ∧ Below w5.heap.size w5 wr)
      case atStart => exact ⟨0, Nat.zero_le _, rfl, rfl, HOS.out, fun j h => by omega, HPUT.out.1, HBS.out⟩
      case round =>
        obtain ⟨k, hkc, hg, rfl, ho, he, hR, hbr⟩ := hrel
        obtain ⟨w3, hw3⟩ : ∃ w3, w3 = wr := ⟨_, rfl⟩
        subst hw3
        have HG2 := Lib.hid hg
        have HE := Lib.hid he
        have HO := Lib.hid ho
        have HR2 := Lib.hid hR
        have HBR2 := Lib.hid hbr
        have hBw3 := below_then2 HB5.out hbr HB5.out.size
        have hsz3 : gI < w3.heap.size := ho.block.2
        clear hg he HOS HPUT HBS
        by_cases hkl : k < c
        · obtain ⟨ra, hca, hra⟩ := (HA.out.below hBw3).row i hil
          obtain ⟨ra1, ra2, ra3, rfl, _⟩ := id hra.sl
          have S0 := Lib.hid (And.intro hca hca)
          have HRA := Lib.hid hra
          have HBv := Lib.hid (HB.out.below hBw3)
          have HF1 : Hid (∀ j, j < m → fits (A i j)) := Lib.hid (fun j hj => HFA.out i j hil hj)
          have HF2 : Hid (∀ j, j < m → fits (Bm j k)) := Lib.hid (fun j hj => HFB.out j k hj hkl)
          have HP1 : Hid (∀ j, j < m → fits (A i j * Bm j k)) := Lib.hid (fun j hj => HP.out i k hil hkl j hj)
          have HS1 : Hid (∀ j, j ≤ m → fits (sg j fun l => A i l * Bm l k)) := Lib.hid (fun j hj => HS.out i k hil hkl j hj)
          have j1 : (0 : Int) ≤ (k : Int) := by omega
          have j2 : (k : Int) < (c : Nat) := by omega
          have i1000 : m ≤ 1000 := by omega
          have i1000c : c ≤ 1000 := by omega
          clear ho hR hbr hBw3 hra
          go_wp2_with fail
          go_cut [15, 16] (fun u15 u16 wy => ∃ (b8 : Nat) (t' : Bool) (x' y' : Value), u15 = .pointer (some ⟨b8, 0, none⟩) ∧ u16 = .int .i64 0 ∧ w3.heap.size ≤ b8 ∧ C3 wy b8 (.bool t') x' y' ∧ FracC wy (.agg #[.bool t', x', y']) (mulM m A Bm i k) ∧ Below w3.heap.size w3 wy)
          case first =>
            go_region_held3 (fun w' => w'.cell? (ptr va i) = some (.slice ra1 ra2 ra3) ∧ w'.cell? (ptr va i) = some (.slice ra1 ra2 ra3) ∧ Below w3.heap.size w3 w') (first
              | with_reducible exact kp2a S0.out (below_drew _)
              | with_reducible exact kp2w (by assumption) (below_alloc _ _)
              | with_reducible exact kp2w (by assumption) (by assumption)
              | with_reducible exact kp2a S0.out (below_then hB31 (below_alloc _ _))
              | with_reducible exact kp2s S0.out hB31 (Nat.le_refl _) _ _ _
              | with_reducible exact kp2s S0.out hB31 hB30.size _ _ _) (first
              | (go_at_call 21; (with_reducible refine (column_lin vb m c k Bm _ (HBv.out.below (kp2c (by assumption))) hkl i1000 i1000c).mono ?_); rintro e30 w30 ⟨v30, rfl, hv30, hb30⟩
                 obtain ⟨v301, v302, v303, rfl, _⟩ := id hv30.sl
                 have hB30 := below_then (kp2c (by assumption)) hb30
                 have hc4 := (fun (p : Addr) hp => hb30.cell (p := p) hp)
                 have hf4 := (fun (p : Addr) hp => hb30.frozen (p := p) hp)
                 have zp := hb30.size
                 (try simp only [sizeA, sizeD] at zp)
                 (try have z0 : w3.heap.size < w30.heap.size := (by omega)))
              | (go_at_call 34; (with_reducible refine (dot_can _ _ m (A i) (fun j => Bm j k) _ (HRA.out.below (kp2c (by assumption))) (hv30.below (by first | exact Below.refl _ _ | exact below_alloc _ _)) i1000 HF1.out HF2.out HP1.out HS1.out).mono ?_); rintro e31 w31 ⟨v31, rfl, hv31, hb31⟩
                 obtain ⟨t31, x31, y31, rfl, ⟨a311, l311, k311, rfl, _⟩, ⟨a312, l312, k312, rfl, _⟩⟩ := hv31.isF
                 have hB31 := below_then (kp2c (by assumption)) hb31
                 have hc5 := (fun (p : Addr) hp => hb31.cell (p := p) hp)
                 have hf5 := (fun (p : Addr) hp => hb31.frozen (p := p) hp)
                 have zq := hb31.size
                 (try simp only [sizeA, sizeD] at zq)
                 (try have z1 : w30.heap.size < w31.heap.size := (by omega))))
            all_goals
              have hE := kp2c (by assumption)
              go_wp2_with fail
              go_meet
              case rel =>
                first
                  | exact ⟨_, _, _, _, rfl, rfl, hB31.size, C3.new w31 _ _ _ _, hv31.below (below_alloc _ _), hE⟩
                  | exact ⟨_, _, _, _, rfl, rfl, hB30.size, ((C3.newB (b := w30.heap.size) w30 25 (.bool false) (.slice none 0 0) (.slice none 0 0) rfl).belowS hb31).set _ _ _, hv31.set3 ((C3.newB (b := w30.heap.size) w30 25 (.bool false) (.slice none 0 0) (.slice none 0 0) rfl).belowS hb31) (fun z => by simp) (fun z => by simp) _ _ _, hE⟩
                  | exact ⟨_, _, _, _, rfl, rfl, Nat.le_refl _, (((C3.newB (b := w3.heap.size) w3.drew 25 (.bool false) (.slice none 0 0) (.slice none 0 0) rfl).belowS hb30).belowS hb31).set _ _ _, hv31.set3 (((C3.newB (b := w3.heap.size) w3.drew 25 (.bool false) (.slice none 0 0) (.slice none 0 0) rfl).belowS hb30).belowS hb31) (fun z => by simp) (fun z => by simp) _ _ _, hE⟩
          case rest =>
            obtain ⟨b8, t6, x6, y6, rfl, rfl, hb8, hC6, hv6, hb6⟩ := hcut
            obtain ⟨w4, hw4⟩ : ∃ w4, w4 = wc := ⟨_, rfl⟩
            subst hw4
            obtain ⟨_, _, _, hF6, ⟨a61, l61, k61, rfl, _⟩, ⟨a62, l62, k62, rfl, _⟩⟩ := id hv6.isF
            injection hF6 with hF6
            injection hF6 with hF6
            simp only [List.cons.injEq, and_true, Value.bool.injEq] at hF6
            obtain ⟨rfl, rfl, rfl⟩ := hF6
            have ho3 := HO.out.below hb6
            have hR3 := HR2.out.below hb6
            have hirs : i < (rs.set i (.slice (some ⟨gI, 0, none⟩) c c)).length := by rw [List.length_set]; exact hir
            have cO := hR3.own.cell i hirs
            rw [List.getElem_set_self] at cO
            have fO := hR3.own.frozen i hirs
            obtain ⟨c0, d0, _⟩ := ho3.cell (k * 3) (by omega)
            obtain ⟨c1, d1, _⟩ := ho3.cell (k * 3 + 1) (by omega)
            obtain ⟨c2, d2, _⟩ := ho3.cell (k * 3 + 2) (by omega)
            have f0 := ho3.frozen (k * 3)
            have f1 := ho3.frozen (k * 3 + 1)
            have f2 := ho3.frozen (k * 3 + 2)
            have n01 := ho3.inj (show k * 3 ≠ k * 3 + 1 by omega)
            have n02 := ho3.inj (show k * 3 ≠ k * 3 + 2 by omega)
            have n12 := ho3.inj (show k * 3 + 1 ≠ k * 3 + 2 by omega)
            have hbI : (base (.slice (some ⟨gI, 0, none⟩) c c)).block = gI := rfl
            have hbO : (base (.slice (some ⟨gI, 0, none⟩) c c)).block ≠ (base vO).block := by rw [hbI]; omega
            have HS3 := Lib.hid (ho3.set3 k (.bool t6) (.slice a61 l61 k61) (.slice a62 l62 k62) (fun z => by simp) (fun z => by simp) (fun z => by simp))
            have HR4 := Lib.hid (hR3.set3 ho3 hbO HLOW.out k hkl (.bool t6) (.slice a61 l61 k61) (.slice a62 l62 k62) (fun z => by simp) (fun z => by simp))
            have HE3 := Lib.hid (fun j hj => (HE.out j hj).below hb6)
            have HO3 := Lib.hid ho3
            have HV6 := Lib.hid hv6
            have HB3 := Lib.hid (below_then2 HBR2.out hb6 HBR2.out.size)
            obtain ⟨_, q1, q2, q3, _, _, _⟩ := hC6
            have hbO2 : (ptr vO i).block ≠ (base (.slice (some ⟨gI, 0, none⟩) c c)).block := by rw [hpO, hbI]; omega
            have hb8I : b8 ≠ (base (.slice (some ⟨gI, 0, none⟩) c c)).block := by rw [hbI]; omega
            have HK18 := Lib.hid (And.intro (set3_cell (w := w4) (k := k * 3) hbO2 (.bool t6) (.slice a61 l61 k61) (.slice a62 l62 k62) cO) (And.intro (set3_cell (w := w4) (k := k * 3) (p := ⟨b8, 0, none⟩) hb8I (.bool t6) (.slice a61 l61 k61) (.slice a62 l62 k62) q1) (And.intro (set3_cell (w := w4) (k := k * 3) (p := ⟨b8, 1, none⟩) hb8I (.bool t6) (.slice a61 l61 k61) (.slice a62 l62 k62) q2) (set3_cell (w := w4) (k := k * 3) (p := ⟨b8, 2, none⟩) hb8I (.bool t6) (.slice a61 l61 k61) (.slice a62 l62 k62) q3))))
            clear hbO hbO2 hb8I ho3 hR3 hv6 hb6 hca
            go_wp2_with fail
            go_region_held3 (fun w' => w'.cell? (ptr vO i) = some (.slice (some ⟨gI, 0, none⟩) c c) ∧ w'.cell? ⟨b8, 0, none⟩ = some (.bool t6) ∧ w'.cell? ⟨b8, 1, none⟩ = some (.slice a61 l61 k61) ∧ w'.cell? ⟨b8, 2, none⟩ = some (.slice a62 l62 k62)) (first
              | exact ⟨cO, q1, q2, q3⟩
              | exact HK18.out) (fail)
            go_wp2_with fail
            go_roundg (c - (k + 1))
            case measure => (have := HG2.out; omega)
            case rel =>
              have hbd := below_drew (B := (((w4.setCell (ptr (.slice (some ⟨gI, 0, none⟩) c c) (k * 3)) (.bool t6)).setCell (ptr (.slice (some ⟨gI, 0, none⟩) c c) (k * 3 + 1)) (.slice a61 l61 k61)).setCell (ptr (.slice (some ⟨gI, 0, none⟩) c c) (k * 3 + 2)) (.slice a62 l62 k62)).heap.size) (((w4.setCell (ptr (.slice (some ⟨gI, 0, none⟩) c c) (k * 3)) (.bool t6)).setCell (ptr (.slice (some ⟨gI, 0, none⟩) c c) (k * 3 + 1)) (.slice a61 l61 k61)).setCell (ptr (.slice (some ⟨gI, 0, none⟩) c c) (k * 3 + 2)) (.slice a62 l62 k62))
              refine ⟨k + 1, by omega, rfl, by go_num, HS3.out.1.below hbd, fun j hj => ElemC.below ?_ hbd, HR4.out.below hbd, below_then2 (HB3.out.trans (HS3.out.2.mono hBsz)) hbd (HB3.out.trans (HS3.out.2.mono hBsz)).size⟩
              rcases Nat.lt_or_ge j k with h6 | h6
              · exact ElemC.set3_other HO3.out hkl (by omega) (HE3.out j h6) _ _ _ (fun z => by simp) (fun z => by simp)
              · obtain rfl : j = k := by omega
                exact ElemC.set3 HO3.out hkl HV6.out
        · obtain rfl : k = c := by omega
          have hirs : i < (rs.set i (.slice (some ⟨gI, 0, none⟩) k k)).length := by rw [List.length_set]; exact hir
          have hbI : (base (.slice (some ⟨gI, 0, none⟩) k k)).block = gI := rfl
          have HD := Lib.hid (hR.done hirs (by rw [List.getElem_set_self]; exact ho.fracs (rowL_length _ _) (fun j hj => by rw [rowL_length] at hj; rw [rowL_get]; exact HE.out j hj)) (by rw [List.getElem_set_self, hbI]; omega))
          clear ho hR
          go_wp2_with fail
          go_roundg (n - (i + 1))
          case measure => (have := HG.out; omega)
          case rel => exact ⟨i + 1, _, by omega, rfl, by go_num, HD.out, HBR2.out⟩
    · obtain rfl : i = n := by omega
      go_wp2_with fail
      go_ret2
      exact ⟨_, rfl, hR.mat, HBW.out⟩
end Go.Proofs.YtbhkibilnmoljaaGreat
