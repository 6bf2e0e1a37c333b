/-
  Products of matrices of raw fractions whose weights add up to at most 3800: nothing is large. No program is walked here.
  Ahead of it: package linear, of raw fractions: column, dot. Small systems of equations: what Solve, Det and Apply need of them. No program is named here. package drydocksame: Nat, Ints, Bools. package drydocksame: Frac. package drydocksame: Fracs, Matrix. Products of matrices of small numbers: what Mul needs, and a matrix as a list of lists.
-/
import Derived.Test.YtbhkibilnmoljaaGreatQGn
import Derived.Test.YtbhkibilnmoljaaGreatQLi10
import Derived.Test.YtbhkibilnmoljaaGreatQLi16
import Derived.Test.YtbhkibilnmoljaaGreatQMu1
import Derived.Test.YtbhkibilnmoljaaGreatQRwM
namespace Go.Proofs.YtbhkibilnmoljaaGreat
set_option linter.unusedVariables false
set_option linter.unusedSimpArgs false
open Go.RowKit

/-- The list of the first n values. -/
def rowF (n : Nat) (x : Nat → RF) : List RF := (List.range n).map x
theorem rowF_length (n : Nat) (x : Nat → RF) : (rowF n x).length = n := by simp [rowF]
theorem rowF_get (n : Nat) (x : Nat → RF) (j : Nat) (h : j < (rowF n x).length) : (rowF n x)[j] = x j := by simp [rowF]
def rf0 : RF := ⟨false, 0, 1⟩
theorem rowF_of (l : List RF) : rowF l.length (fun j => l.getD j rf0) = l := by
  refine List.ext_getElem (by rw [rowF_length]) fun j h1 h2 => ?_
  rw [rowF_get]
  simp [List.getD, List.getElem?_eq_getElem h2]
/-- v reads as a matrix of raw fractions. -/
structure MatR (w : World) (v : Value) (n m : Nat) (X : Nat → Nat → RF) : Prop where
  sl : IsSl v
  len : slen v = n
  row : ∀ i, i < n → ∃ r, w.cell? (ptr v i) = some r ∧ FracsN w r (rowF m (X i))
theorem MatR.below {w w' : World} {v : Value} {n m : Nat} {X : Nat → Nat → RF} (h : MatR w v n m X) (hb : Below w.heap.size w w') : MatR w' v n m X :=
  ⟨h.sl, h.len, fun i hi => by obtain ⟨r, h1, h2⟩ := h.row i hi; exact ⟨r, cell_below hb h1, h2.below hb⟩⟩
theorem mul_raw (va vb : Value) (x y : RF) (w : World) (ha : FracN w va x.neg x.n x.d) (hb : FracN w vb y.neg y.n y.d) (hx : x.ok) (hy : y.ok) (hf : fits (x.q * y.q)) : Calls Tryz.prog 56 #[va, vb] w (RF0 w (x.q * y.q)) :=
  (mul_frac va vb _ _ _ _ _ _ w ha hb hx hy).mono fun _ _ h => h.ok rfl hf
section
variable {w : World} {e : TypeId} {B n : Nat} {v : Value}
theorem NatN.over1 (h : OwnFr w e B v n) {x : Value} {m : Nat} (hx : NatN w x m) (j : Nat) (hj : j < n * 3) (u : Value) : NatN (w.setCell (Go.Proofs.YtbhkibilnmoljaaGreat.ptr v j) u) x m := by
  obtain ⟨c, h1, h2⟩ := h.cell j hj
  exact hx.over h1 h2 u
theorem NatN.over3 (h : OwnFr w e B v n) {c : Value} {m : Nat} (hc : NatN w c m) (i : Nat) (hi : i < n) (x y z : Value) (hx : ∀ k, x ≠ .int .u32 k) (hy : ∀ k, y ≠ .int .u32 k) :
    NatN (((w.setCell (Go.Proofs.YtbhkibilnmoljaaGreat.ptr v (i * 3)) x).setCell (Go.Proofs.YtbhkibilnmoljaaGreat.ptr v (i * 3 + 1)) y).setCell (Go.Proofs.YtbhkibilnmoljaaGreat.ptr v (i * 3 + 2)) z) c m := by
  have h1 := h.set (i * 3) x hx
  have h2 := h1.1.set (i * 3 + 1) y hy
  exact NatN.over1 h2.1 (NatN.over1 h1.1 (NatN.over1 h hc _ (by omega) _) _ (by omega) _) _ (by omega) _
theorem FracAt.set3_other (h : OwnFr w e B v n) {i j : Nat} (hi : i < n) (hij : i ≠ j) {q : RF} (hj : FracAt w v (j * 3) q) (x y z : Value) (hx : ∀ k, x ≠ .int .u32 k) (hy : ∀ k, y ≠ .int .u32 k) :
    FracAt (((w.setCell (Go.Proofs.YtbhkibilnmoljaaGreat.ptr v (i * 3)) x).setCell (Go.Proofs.YtbhkibilnmoljaaGreat.ptr v (i * 3 + 1)) y).setCell (Go.Proofs.YtbhkibilnmoljaaGreat.ptr v (i * 3 + 2)) z) v (j * 3) q := by
  obtain ⟨a, b, h1, h2, h3, h4, h5⟩ := hj
  refine ⟨a, b, ?_, ?_, ?_, NatN.over3 h h4 i hi x y z hx hy, NatN.over3 h h5 i hi x y z hx hy⟩
  · rw [cell_set3_other h i _ (by omega) (by omega) (by omega)]; exact h1
  · rw [cell_set3_other h i _ (by omega) (by omega) (by omega)]; exact h2
  · rw [cell_set3_other h i _ (by omega) (by omega) (by omega)]; exact h3
theorem FracAt.set3 (h : OwnFr w e B v n) {i : Nat} (hi : i < n) {q : RF} {x y z : Value} (hf : FracN w (.agg #[x, y, z]) q.neg q.n q.d) :
    FracAt (((w.setCell (Go.Proofs.YtbhkibilnmoljaaGreat.ptr v (i * 3)) x).setCell (Go.Proofs.YtbhkibilnmoljaaGreat.ptr v (i * 3 + 1)) y).setCell (Go.Proofs.YtbhkibilnmoljaaGreat.ptr v (i * 3 + 2)) z) v (i * 3) q := by
  obtain ⟨a, b, ha, h4, h5⟩ := hf
  injection ha with ha
  injection ha with ha
  simp only [List.cons.injEq, and_true] at ha
  obtain ⟨rfl, rfl, rfl⟩ := ha
  have nx : ∀ k, Value.bool q.neg ≠ .int .u32 k := fun k => by simp
  have ny : ∀ k, y ≠ .int .u32 k := fun k => by obtain ⟨a1, n1, c1, e1, _⟩ := h4.slen.1; subst e1; simp
  obtain ⟨c0, d0, _⟩ := h.cell (i * 3) (by omega)
  obtain ⟨c1, d1, _⟩ := h.cell (i * 3 + 1) (by omega)
  obtain ⟨c2, d2, _⟩ := h.cell (i * 3 + 2) (by omega)
  have n01 := h.inj (show i * 3 ≠ i * 3 + 1 by omega)
  have n02 := h.inj (show i * 3 ≠ i * 3 + 2 by omega)
  have n12 := h.inj (show i * 3 + 1 ≠ i * 3 + 2 by omega)
  refine ⟨y, z, ?_, ?_, ?_, NatN.over3 h h4 i hi _ _ _ nx ny, NatN.over3 h h5 i hi _ _ _ nx ny⟩
  · rw [World.cell?_setCell_other _ _ _ _ n02.symm, World.cell?_setCell_other _ _ _ _ n01.symm]
    exact World.cell?_setCell_same _ _ _ d0
  · rw [World.cell?_setCell_other _ _ _ _ n12.symm]
    exact World.cell?_setCell_same _ _ _ (u := c1) (by rw [World.cell?_setCell_other _ _ _ _ n01]; exact d1)
  · exact World.cell?_setCell_same _ _ _ (u := c2) (by rw [World.cell?_setCell_other _ _ _ _ n12, World.cell?_setCell_other _ _ _ _ n02]; exact d2)
theorem OwnFr.fracsN (h : OwnFr w e B v n) {l : List RF} (hl : l.length = n) (he : ∀ j (hj : j < l.length), FracAt w v (j * 3) l[j]) : FracsN w v l :=
  ⟨h.sl, by rw [h.len, hl], he⟩
end
set_option maxRecDepth 100000 in
set_option maxHeartbeats 3200000 in
theorem column_raw (va : Value) (n m k : Nat) (X : Nat → Nat → RF) (w : World) (ha : MatR w va n m X) (hk : k < m) (hn : n ≤ 1000) (hm : m ≤ 1000) :
    Calls Tryz.prog 21 #[va, .int .i64 k] w fun e w' => ∃ v, e = .returned v ∧ FracsN w' v (rowF n (fun i => X i k)) ∧ Below w.heap.size w w' := by
  have sa := ha.sl
  have la := ha.len
  obtain ⟨i0, hi, hz0, hz1, hz2⟩ := info_parts Tryz.infoF
  have hM := make_fr (P := Tryz.prog) 27 25 i0 Tryz.underlying27 hi hz0 hz1 (by rw [hz2]; decide)
  clear hi hz0 hz1 hz2
  go_enter Tryz.func21, Tryz.ntmps21
  go_wp2_with (refine hM _ rfl _ _ rfl w.heap.size _ n rfl rfl rfl (by omega) (Nat.le_refl _) ?_; intro v w1 hown hb1 hvb; have sv := hown.sl; have lv := hown.len)
  clear hM
  go_loopw [12] (fun u12 wr => ∃ (i : Nat), i ≤ n ∧ u12 = .int .i64 i ∧ OwnFr wr 25 w.heap.size v n ∧ (∀ j, j < i → FracAt wr v (j * 3) (X j k)) ∧ Below w.heap.size w wr) (fun u12 _ => n - (intOf u12).toNat)
  case atStart => exact ⟨0, Nat.zero_le _, rfl, hown, fun j h => by omega, hb1⟩
  case round =>
    obtain ⟨i, hin, rfl, ho, he, hbr⟩ := hrel
    clear hown hb1
    have HE := Lib.hid he
    clear he
    by_cases hil : i < n
    · obtain ⟨ri, hc1, hr1⟩ := (ha.below hbr).row i hil
      have slI := hr1.sl
      have lnI : slen ri = m := by rw [hr1.len, rowF_length]
      obtain ⟨ea, eb, g1, g2, g3, g4, g5⟩ := hr1.at' k (by rw [rowF_length]; exact hk)
      rw [rowF_get] at g1 g4 g5
      obtain ⟨ea1, ea2, ea3, rfl, _⟩ := g4.slen.1
      obtain ⟨eb1, eb2, eb3, rfl, _⟩ := g5.slen.1
      have hF : FracN wr (.agg #[.bool (X i k).neg, .slice ea1 ea2 ea3, .slice eb1 eb2 eb3]) (X i k).neg (X i k).n (X i k).d := ⟨_, _, rfl, g4, g5⟩
      obtain ⟨c0, d0, _⟩ := ho.cell (i * 3) (by omega)
      obtain ⟨c1, d1, _⟩ := ho.cell (i * 3 + 1) (by omega)
      obtain ⟨c2, d2, _⟩ := ho.cell (i * 3 + 2) (by omega)
      have f0 := ho.frozen (i * 3)
      have f1 := ho.frozen (i * 3 + 1)
      have f2 := ho.frozen (i * 3 + 2)
      have n01 := ho.inj (show i * 3 ≠ i * 3 + 1 by omega)
      have n02 := ho.inj (show i * 3 ≠ i * 3 + 2 by omega)
      have n12 := ho.inj (show i * 3 + 1 ≠ i * 3 + 2 by omega)
      have hs3 := ho.set3 i (.bool (X i k).neg) (.slice ea1 ea2 ea3) (.slice eb1 eb2 eb3) (fun z => by simp) (fun z => by simp) (fun z => by simp)
      have HS3 := Lib.hid hs3
      have HF := Lib.hid hF
      have HO := Lib.hid ho
      clear hs3 hr1 g4 g5 hF ho
      have i1 : (0 : Int) ≤ (i : Int) := by omega
      have i2 : (i : Int) < (n : Nat) := by omega
      have i3 : (0 : Int) ≤ (k : Int) := by omega
      have i4 : (k : Int) < (m : Nat) := by omega
      go_wp2_with fail
      go_roundw
      case rel =>
        refine ⟨i + 1, hil, by go_num, HS3.out.1, fun j hj => ?_, hbr.trans HS3.out.2⟩
        rcases Nat.lt_or_ge j i with h6 | h6
        · exact FracAt.set3_other HO.out hil (by omega) (HE.out j h6) _ _ _ (fun z => by simp) (fun z => by simp)
        · obtain rfl : j = i := by omega
          exact FracAt.set3 HO.out hil HF.out
      case measure => simp [intOf]; omega
    · obtain rfl : i = n := by omega
      go_wp2_with fail
      go_ret
      exact ⟨v, rfl, ho.fracsN (rowF_length _ _) (fun j hj => by rw [rowF_length] at hj; rw [rowF_get]; exact HE.out j hj), hbr⟩
set_option maxRecDepth 100000 in
set_option maxHeartbeats 3200000 in
theorem dot_raw (vu vv : Value) (n : Nat) (a b : Nat → RF) (w : World) (hu : FracsN w vu (rowF n a)) (hv : FracsN w vv (rowF n b)) (hn : n ≤ 1000) (hfa : ∀ k, k < n → (a k).ok) (hfb : ∀ k, k < n → (b k).ok)
    (hp : ∀ k, k < n → fits ((a k).q * (b k).q)) (hs : ∀ k, k ≤ n → fits (sg k fun j => (a j).q * (b j).q)) :
    Calls Tryz.prog 34 #[vu, vv] w (RF0 w (sg n fun j => (a j).q * (b j).q)) := by
  have su := hu.sl
  have lu : slen vu = n := by rw [hu.len, rowF_length]
  have sv := hv.sl
  have lv : slen vv = n := by rw [hv.len, rowF_length]
  obtain ⟨i0, hi, hz0, hz1, hz2⟩ := info_parts Tryz.infoF
  have hM := make_fr (P := Tryz.prog) 27 25 i0 Tryz.underlying27 hi hz0 hz1 (by rw [hz2]; decide)
  clear hi hz0 hz1 hz2
  have HU := Lib.hid hu
  have HV := Lib.hid hv
  have HFA := Lib.hid hfa
  have HFB := Lib.hid hfb
  have HP := Lib.hid hp
  have HS := Lib.hid hs
  have hb0 := below_alloc w (.cells #[.bool false, .slice none 0 0, .slice none 0 0] 25)
  have HR0 := Lib.hid (C3.new w 25 (.bool false) (.slice none 0 0) (.slice none 0 0))
  have hsz0 : (w.alloc (.cells #[.bool false, .slice none 0 0, .slice none 0 0] 25)).heap.size = w.heap.size + 1 := by simp
  have HSZ := Lib.hid hsz0
  clear hu hv hfa hfb hp hs hsz0
  go_enter Tryz.func34, Tryz.ntmps34
  go_upto_region 1 with fail
  obtain ⟨W0, hW0⟩ : ∃ W0, w.alloc (.cells #[.bool false, .slice none 0 0, .slice none 0 0] 25) = W0 := ⟨_, rfl⟩
  rw [hW0] at hb0 HR0 HSZ ⊢
  clear hW0
  have hB0 : w.heap.size ≤ W0.heap.size := hb0.size
  go_wp2_with (refine hM W0 rfl _ _ rfl W0.heap.size _ n rfl rfl rfl (by omega) (Nat.le_refl _) ?_; intro vl w1 hown hb1 hvb; have sl := hown.sl; have ll := hown.len)
  clear hM
  go_loopg [15] (n) (fun g u15 wr => ∃ (k : Nat), k ≤ n ∧ g = n - k ∧ u15 = .int .i64 k ∧ OwnFr wr 25 W0.heap.size vl n ∧ (∀ j, j < k → ElemC wr vl j ((a j).q * (b j).q)) ∧ Below W0.heap.size W0 wr)
  case atStart => exact ⟨0, Nat.zero_le _, rfl, rfl, hown, fun j h => by omega, hb1⟩
  case round =>
    obtain ⟨k, hk, hg, rfl, ho, he, hbr⟩ := hrel
    obtain ⟨w2, hw2⟩ : ∃ w2, w2 = wr := ⟨_, rfl⟩
    subst hw2
    clear hown hb1
    have HE := Lib.hid he
    have HG := Lib.hid hg
    have HO := Lib.hid ho
    have HBR := Lib.hid hbr
    have hbw := hb0.trans (hbr.mono hB0)
    clear he hg
    by_cases hkn : k < n
    · obtain ⟨ea, eb, g1, g2, g3, g4, g5⟩ := (HU.out.below hbw).at' k (by rw [rowF_length]; exact hkn)
      obtain ⟨ec, ed, g6, g7, g8, g9, g10⟩ := (HV.out.below hbw).at' k (by rw [rowF_length]; exact hkn)
      rw [rowF_get] at g1 g4 g5 g6 g9 g10
      obtain ⟨ea1, ea2, ea3, rfl, _⟩ := g4.slen.1
      obtain ⟨eb1, eb2, eb3, rfl, _⟩ := g5.slen.1
      obtain ⟨ec1, ec2, ec3, rfl, _⟩ := g9.slen.1
      obtain ⟨ed1, ed2, ed3, rfl, _⟩ := g10.slen.1
      have HFU : Hid (FracN w2 (.agg #[.bool (a k).neg, .slice ea1 ea2 ea3, .slice eb1 eb2 eb3]) (a k).neg (a k).n (a k).d) := Lib.hid ⟨_, _, rfl, g4, g5⟩
      have HFV : Hid (FracN w2 (.agg #[.bool (b k).neg, .slice ec1 ec2 ec3, .slice ed1 ed2 ed3]) (b k).neg (b k).n (b k).d) := Lib.hid ⟨_, _, rfl, g9, g10⟩
      have S0 := Lib.hid (And.intro g1 (And.intro g2 (And.intro g3 (And.intro g6 (And.intro g7 g8)))))
      have HF1 := Lib.hid (HFA.out k hkn)
      have HF2 := Lib.hid (HFB.out k hkn)
      have HF3 := Lib.hid (HP.out k hkn)
      have i1 : (0 : Int) ≤ (k : Int) := by omega
      have i2 : (k : Int) < (n : Nat) := by omega
      clear g4 g5 g9 g10 ho hbr hbw
      go_wp2_with fail
      go_cut [8, 9] (fun u8 u9 wy => ∃ (b8 : Nat) (t' : Bool) (x' y' : Value), u8 = .pointer (some ⟨b8, 0, none⟩) ∧ u9 = .int .i64 0 ∧ C3 wy b8 (.bool t') x' y' ∧ FracC wy (.agg #[.bool t', x', y']) ((a k).q * (b k).q) ∧ Below w2.heap.size w2 wy)
      case first =>
        go_region_held3 (fun w' => w'.cell? (ptr vu (k * 3)) = some (.bool ((a k).neg)) ∧ w'.cell? (ptr vu (k * 3 + 1)) = some (.slice ea1 ea2 ea3) ∧ w'.cell? (ptr vu (k * 3 + 2)) = some (.slice eb1 eb2 eb3) ∧ w'.cell? (ptr vv (k * 3)) = some (.bool ((b k).neg)) ∧ w'.cell? (ptr vv (k * 3 + 1)) = some (.slice ec1 ec2 ec3) ∧ w'.cell? (ptr vv (k * 3 + 2)) = some (.slice ed1 ed2 ed3) ∧ Below w2.heap.size w2 w') (first
          | with_reducible exact kp6a S0.out (below_drew _)
          | with_reducible exact kp6w (by assumption) (below_alloc _ _)
          | with_reducible exact kp6w (by assumption) (by assumption)
          | with_reducible exact kp6a S0.out (below_then hB31 (below_alloc _ _))
          | with_reducible exact kp6s S0.out hB31 (Nat.le_refl _) _ _ _) (first
          | (go_at_call 56; (with_reducible refine (mul_raw _ _ (a k) (b k) _ (HFU.out.below (kp6c (by assumption))) (HFV.out.below (kp6c (by assumption))) HF1.out HF2.out HF3.out).mono ?_); rintro e31 w31 ⟨v31, rfl, hv31, hb31⟩
             obtain ⟨t31, x31, y31, rfl, ⟨a311, l311, k311, rfl, _⟩, ⟨a312, l312, k312, rfl, _⟩⟩ := hv31.isF
             have hB31 := below_then (kp6c (by assumption)) hb31
             have hc5 := (fun (p : Addr) hp => hb31.cell (p := p) hp)
             have hf5 := (fun (p : Addr) hp => hb31.frozen (p := p) hp)
             have zq := hb31.size
             (try simp only [sizeA, sizeD] at zq)
             (try have z1 : w2.heap.size < w31.heap.size := (by omega))))
        all_goals
          have hE := kp6c (by assumption)
          go_wp2_with fail
          go_meet
          case rel =>
            first
              | exact ⟨_, _, _, _, rfl, rfl, C3.new w31 _ _ _ _, hv31.below (below_alloc _ _), hE⟩
              | exact ⟨_, _, _, _, rfl, rfl, ((C3.newB (b := w2.heap.size) w2.drew 25 (.bool false) (.slice none 0 0) (.slice none 0 0) rfl).belowS hb31).set _ _ _, hv31.set3 ((C3.newB (b := w2.heap.size) w2.drew 25 (.bool false) (.slice none 0 0) (.slice none 0 0) rfl).belowS hb31) (fun z => by simp) (fun z => by simp) _ _ _, hE⟩
              | exact ⟨_, _, _, _, rfl, rfl, (((C3.newB (b := w2.heap.size) w2 25 (.bool false) (.slice none 0 0) (.slice none 0 0) rfl).belowS (below_drew _)).belowS hb31).set _ _ _, hv31.set3 (((C3.newB (b := w2.heap.size) w2 25 (.bool false) (.slice none 0 0) (.slice none 0 0) rfl).belowS (below_drew _)).belowS hb31) (fun z => by simp) (fun z => by simp) _ _ _, hE⟩
      case rest =>
        obtain ⟨b8, t6, x6, y6, rfl, rfl, hC6, hv6, hb6⟩ := hcut
        obtain ⟨w3, hw3⟩ : ∃ w3, w3 = wc := ⟨_, rfl⟩
        subst hw3
        obtain ⟨_, _, _, hF6, ⟨a61, l61, k61, rfl, _⟩, ⟨a62, l62, k62, rfl, _⟩⟩ := id hv6.isF
        injection hF6 with hF6
        injection hF6 with hF6
        simp only [List.cons.injEq, and_true, Value.bool.injEq] at hF6
        obtain ⟨rfl, rfl, rfl⟩ := hF6
        have ho3 := HO.out.below hb6
        obtain ⟨c0, d0, _⟩ := ho3.cell (k * 3) (by omega)
        obtain ⟨c1, d1, _⟩ := ho3.cell (k * 3 + 1) (by omega)
        obtain ⟨c2, d2, _⟩ := ho3.cell (k * 3 + 2) (by omega)
        have f0 := ho3.frozen (k * 3)
        have f1 := ho3.frozen (k * 3 + 1)
        have f2 := ho3.frozen (k * 3 + 2)
        have n01 := ho3.inj (show k * 3 ≠ k * 3 + 1 by omega)
        have n02 := ho3.inj (show k * 3 ≠ k * 3 + 2 by omega)
        have n12 := ho3.inj (show k * 3 + 1 ≠ k * 3 + 2 by omega)
        have HS3 := Lib.hid (ho3.set3 k (.bool t6) (.slice a61 l61 k61) (.slice a62 l62 k62) (fun z => by simp) (fun z => by simp) (fun z => by simp))
        have HE3 := Lib.hid (fun j hj => (HE.out j hj).below hb6)
        have HO3 := Lib.hid ho3
        have HV6 := Lib.hid hv6
        have HB3 := Lib.hid (below_then2 HBR.out hb6 HBR.out.size)
        obtain ⟨_, q1, q2, q3, _, _, _⟩ := hC6
        clear ho3 hv6 hb6 g1 g2 g3 g6 g7 g8
        go_wp2_with fail
        go_roundg (n - (k + 1))
        case measure => (have := HG.out; omega)
        case rel =>
          refine ⟨k + 1, by omega, rfl, by go_num, HS3.out.1, fun j hj => ?_, HB3.out.trans HS3.out.2⟩
          rcases Nat.lt_or_ge j k with h6 | h6
          · exact ElemC.set3_other HO3.out hkn (by omega) (HE3.out j h6) _ _ _ (fun z => by simp) (fun z => by simp)
          · obtain rfl : j = k := by omega
            exact ElemC.set3 HO3.out hkn HV6.out
    · obtain rfl : k = n := by omega
      have hfr : FracsC w2 vl (rowL k fun j => (a j).q * (b j).q) := ho.fracs (rowL_length _ _) (fun j hj => by rw [rowL_length] at hj; rw [rowL_get]; exact HE.out j hj)
      have hraw := hfr.raw
      have HOK : Hid (∀ x ∈ (rowL k fun j => (a j).q * (b j).q).map RF.of, x.ok) := Lib.hid (fun x hx => by
        obtain ⟨q, hq, rfl⟩ := List.mem_map.1 hx
        obtain ⟨j, hj, rfl⟩ := List.mem_map.1 hq
        exact RF.of_ok (HP.out j (List.mem_range.1 hj)))
      have HFT : Hid (∀ j, j ≤ ((rowL k fun j => (a j).q * (b j).q).map RF.of).length → fits (lsum (qs (((rowL k fun j => (a j).q * (b j).q).map RF.of).take j)))) := Lib.hid (fun j hj => by
        rw [List.length_map, rowL_length] at hj
        rw [← List.map_take, qs_of, rowL_take _ _ _ hj, lsum_rowL]
        exact HS.out j hj)
      have HVAL : Hid (lsum (qs ((rowL k fun j => (a j).q * (b j).q).map RF.of)) = sg k fun j => (a j).q * (b j).q) := Lib.hid (by rw [qs_of, lsum_rowL])
      have HR2 := Lib.hid (HR0.out.below hbr HR0.out.lt)
      have HBW := Lib.hid hbw
      clear hfr ho hbr hbw
      go_wp2_with (go_at_call 57; (with_reducible refine (sum_frac vl _ _ hraw HOK.out HFT.out).mono ?_); rw [HVAL.out]; rintro e5 w5 ⟨v5, rfl, hv5, hb5⟩
                   obtain ⟨t9, x9, y9, rfl, ⟨a1, l91, k91, rfl, _⟩, ⟨a2, l92, k92, rfl, _⟩⟩ := hv5.isF
                   have HR5 := Lib.hid (HR2.out.belowS hb5)
                   obtain ⟨_, c0, c1, c2, f0, f1, f2⟩ := HR5.out)
      refine bodyPost_c3 rfl rfl Tryz.aggF Tryz.sizeF (HR5.out.set _ _ _) rfl ?_
      exact ⟨_, rfl, hv5.set3 HR5.out (fun z => by simp) (fun z => by simp) _ _ _, below_set3 (below_then HBW.out hb5) (Nat.le_refl _) _ _ _⟩
end Go.Proofs.YtbhkibilnmoljaaGreat
namespace Go.Proofs.YtbhkibilnmoljaaGreat
set_option linter.unusedVariables false
set_option linter.unusedSimpArgs false
open Go.RowKit

theorem wts_rowL {n K : Nat} {f : Nat → Rat} (h : ∀ j, j < n → wt (f j) ≤ K) : wts (rowL n f) ≤ n * K := by
  induction n with
  | zero => simp [rowL, wts]
  | succ n ih =>
    have h1 := ih fun j hj => h j (by omega)
    have h2 := h n (Nat.lt_succ_self n)
    have e : rowL (n + 1) f = rowL n f ++ [f n] := by unfold rowL; rw [List.range_succ, List.map_append]; rfl
    rw [e, wts_snoc, Nat.succ_mul]
    omega
theorem wts_rawV {n K : Nat} {f : Nat → Rat} (h : ∀ j, j < n → wt (f j) ≤ K) : wts (qs ((rowL n f).map RF.of)) ≤ n * K := by
  rw [qs_of]; exact wts_rowL h
theorem sum_map_le {l : List (List RF)} {g : List RF → Nat} {K : Nat} (h : ∀ x ∈ l, g x ≤ K) : (l.map g).sum ≤ l.length * K := by
  induction l with
  | nil => simp
  | cons x l ih =>
    have h1 := h x (by simp)
    have h2 := ih fun y hy => h y (by simp [hy])
    rw [List.map_cons, List.sum_cons, List.length_cons, Nat.succ_mul]
    omega
theorem wtF_le {n m K : Nat} {A : Mx} (h : ∀ i j, i < n → j < m → wt (A i j) ≤ K) : wtF n m A ≤ n * (m * K) := by
  unfold wtF wtsM
  have h2 := sum_map_le (l := rawM n m A) (g := fun l => wts (qs l)) (K := m * K) fun l hl => by
    obtain ⟨i, hi, rfl⟩ := rawM_mem hl
    exact wts_rawV fun j hj => h i j hi hj
  rw [rawM_length] at h2
  exact h2
section
variable {n : Nat} {A : Mx} {b : Nat → Rat}
/-- The solution as it is computed. -/
def solE (n : Nat) (A : Mx) (b : Nat → Rat) (i : Nat) : Rat := (elim false n (besideM n A (fun i _ => b i)) n).A i n / (elim false n (besideM n A (fun i _ => b i)) n).A i i
theorem sol_eq (h : (elim false n (besideM n A (fun i _ => b i)) n).r = n) : ∀ i, i < n → sg n (fun j => A i j * solE n A b j) = b i := by
  intro i hi
  exact elim_solves (A := A) (B := fun i _ => b i) h (c := 1) (q := 0) (by omega) i hi
theorem rank_dt (h : (elim false n (besideM n A (fun i _ => b i)) n).r = n) : dt n A ≠ 0 := by
  intro h0
  have := rank_less (B := fun i _ => b i) h0
  omega
theorem solve_slim (hn : n ≤ 5) (hA : ∀ i j, i < n → j < n → smallQ (A i j)) (hb : ∀ i, i < n → smallQ (b i)) : slimE false n (n + 1) n (besideM n A (fun i _ => b i)) :=
  slimE_small (by omega) hn fun i j hi hj => by
    unfold besideM; split
    · exact hA i j hi (by assumption)
    · exact hb i hi
theorem solve_hq (hn : n ≤ 5) (hA : ∀ i j, i < n → j < n → smallQ (A i j)) (hb : ∀ i, i < n → smallQ (b i)) :
    ∀ i, i < n → (elim false n (besideM n A (fun i _ => b i)) n).r = n → (elim false n (besideM n A (fun i _ => b i)) n).A i i ≠ 0 ∧ fits ((elim false n (besideM n A (fun i _ => b i)) n).A i n / (elim false n (besideM n A (fun i _ => b i)) n).A i i) := by
  intro i hi hr
  refine ⟨?_, (sol_small hn hA (rank_dt hr) hb (sol_eq hr) hi).1⟩
  exact (elim_unit hr n (Nat.le_refl _)).2.1 i hi
theorem sol_prod (hn : n ≤ 5) (hA : ∀ i j, i < n → j < n → smallQ (A i j)) (h : dt n A ≠ 0) {x : Nat → Rat} (hb : ∀ i, i < n → smallQ (b i)) (hx : ∀ i, i < n → sg n (fun j => A i j * x j) = b i) {i : Nat} (hi : i < n) :
    (∀ k, k < n → fits (A i k * x k)) ∧ ∀ k, k ≤ n → fits (sg k fun j => A i j * x j) := by
  obtain ⟨E, hE, hEb, hI⟩ := inv_small hA h
  have hD : 840 * (E * 840) ≠ 0 := Nat.mul_ne_zero (by decide) (Nat.mul_ne_zero hE (by decide))
  have ho : ∀ k, k < n → over (840 * (E * 840)) (12600 * (n * (dtB n 12600 * 12600))) (A i k * x k) := fun k hk => by
    refine over.mul (hA i k hi hk) ?_
    rw [sol_unique h hx hk]
    exact over.sg (Nat.mul_ne_zero hE (by decide)) fun l hl => over.mul (hI k l hk hl) (hb l hl)
  have hB := dtB_le hn
  have e1 : 12600 * (n * (dtB n 12600 * 12600)) < 2 ^ 110 := by
    have : n * (dtB n 12600 * 12600) ≤ 5 * (2 ^ 76 * 12600) := Nat.mul_le_mul hn (Nat.mul_le_mul_right _ (Nat.le_of_lt hB))
    exact Nat.lt_of_le_of_lt (Nat.mul_le_mul_left _ this) (by decide +kernel)
  have e2 : 840 * (E * 840) < 2 ^ 100 := by
    have : E * 840 ≤ 2 ^ 76 * 840 := Nat.mul_le_mul_right _ (Nat.le_trans hEb (Nat.le_of_lt hB))
    exact Nat.lt_of_le_of_lt (Nat.mul_le_mul_left _ this) (by decide +kernel)
  refine ⟨fun k hk => fits_over2 hD (ho k hk) e1 e2 (by decide) (by decide), fun k hk => ?_⟩
  have h3 := over.sg (n := k) hD fun l hl => ho l (by omega)
  refine fits_over2 (a := 113) hD h3 ?_ e2 (by decide) (by decide)
  have : k * (12600 * (n * (dtB n 12600 * 12600))) ≤ 5 * 2 ^ 110 := Nat.mul_le_mul (by omega) (Nat.le_of_lt e1)
  exact Nat.lt_of_le_of_lt this (by decide +kernel)
theorem detE_dt (n : Nat) (A : Mx) : detE n A = dt n A := elim_true_dt n A
end
end Go.Proofs.YtbhkibilnmoljaaGreat
namespace Go.Proofs.YtbhkibilnmoljaaGreat
set_option linter.unusedVariables false
set_option linter.unusedSimpArgs false
open Go.RowKit

/-- The answer is b, the world is as it was, but for draws and new blocks. -/
def RSame (w0 : World) (p : Prop) (e : Ending) (w : World) : Prop := (∃ b, e = .returned (.bool b) ∧ (b = true ↔ p)) ∧ Below w0.heap.size w0 w
theorem list_ext_of {α : Type _} {a b : List α} (hl : a.length = b.length) (h : ∀ (j : Nat) (h1 : j < a.length) (h2 : j < b.length), a[j] = b[j]) : a = b := List.ext_getElem hl h
theorem NatV.at' {w : World} {v : Value} {l : List Nat} (h : NatV w v l) (j : Nat) (hj : j < l.length) : w.cell? (ptr v j) = some (.int .u32 (l[j] : Nat)) := h.cell j hj
set_option maxHeartbeats 1600000 in
theorem same_nat (va vb : Value) (a b : List Nat) (w : World) (ha : NatV w va a) (hb : NatV w vb b) :
    Calls Tryz.prog 61 #[va, vb] w (RSame w (a = b)) := by
  have sa := ha.sl
  have la := ha.len
  have sb := hb.sl
  have lb := hb.len
  have hle := sa.le
  have hle2 := sb.le
  rw [la] at hle
  rw [lb] at hle2
  have hlb : a.length ≤ 9223372036854775807 := by omega
  have hlb2 : b.length ≤ 9223372036854775807 := by omega
  clear hle hle2
  have hw : w.heap.size ≤ w.heap.size := Nat.le_refl _
  by_cases hlen : a.length = b.length
  · skip
    have hL := Lib.hid hlen
    rw [← hlen] at lb
    clear hlen
    go_enter Tryz.func61, Tryz.ntmps61
    go_wp2_with fail
    go_loopw [5] (fun u5 wr => ∃ (k : Nat), k ≤ a.length ∧ u5 = .int .i64 k ∧ (∀ (j : Nat) (h1 : j < a.length) (h2 : j < b.length), j < k → a[j] = b[j]) ∧ Below w.heap.size w wr) (fun u5 _ => a.length - (intOf u5).toNat)
    case atStart => exact ⟨0, Nat.zero_le _, rfl, fun j _ _ h => by omega, Below.refl _ _⟩
    case round =>
      obtain ⟨k, hk, rfl, hst, hbr⟩ := hrel
      have HST := Lib.hid hst
      clear hst
      by_cases hkl : k < a.length
      · have hkb : k < b.length := by rw [← hL.out]; exact hkl
        have hc := (ha.below hbr).at' k hkl
        have hd := (hb.below hbr).at' k hkb
        have HX : Hid (∀ (h1 : k < a.length) (h2 : k < b.length), a[k] = b[k] ↔ a[k]'hkl = b[k]'hkb) := Lib.hid (fun _ _ => Iff.rfl)
        have i1 : (0 : Int) ≤ (k : Int) := by omega
        have i2 : (k : Int) < (a.length : Nat) := by omega
        generalize ha' : a[k]'hkl = x at *
        generalize hb' : b[k]'hkb = y at *
        have HA := Lib.hid ha'
        have HB := Lib.hid hb'
        clear ha' hb'
        by_cases hxy : x = y
        · subst hxy
          have HST2 : Hid (∀ (j : Nat) (h1 : j < a.length) (h2 : j < b.length), j < k + 1 → a[j] = b[j]) := Lib.hid (fun j h1 h2 h3 => by
            rcases Nat.lt_or_ge j k with h4 | h4
            · exact HST.out j h1 h2 h4
            · obtain rfl : j = k := by omega
              rw [HA.out, HB.out])
          go_wp2_with fail
          go_quiet (fail)
          have hbd := below_then hbr (below_drewN (B := wr.heap.size) wr nq)
          go_wp2_with fail
          go_roundw
          case rel => exact ⟨k + 1, by omega, by go_num, HST2.out, hbd⟩
          case measure => simp [intOf]; omega
        · skip
          have hxy2 : ((x : Int) == (y : Int)) = false := by first | (simp; omega) | simpa using hxy
          go_wp2_with fail
          go_quiet (fail)
          have hbd := below_then hbr (below_drewN (B := wr.heap.size) wr nq)
          go_wp2_with fail
          go_ret
          exact ⟨⟨false, rfl, by simp; intro h; subst h; exact hxy (HA.out.symm.trans HB.out)⟩, hbd⟩
      · go_wp2_with fail
        go_ret
        refine ⟨⟨true, rfl, by simp; exact list_ext_of hL.out (fun j h1 h2 => HST.out j h1 h2 (by omega))⟩, hbr⟩
  · have hne : ((a.length : Int) == (b.length : Int)) = false := by simp; omega
    go_enter Tryz.func61, Tryz.ntmps61
    go_wp2_with fail
    go_ret
    exact ⟨⟨false, rfl, by simp; intro h; exact hlen (by rw [h])⟩, Below.refl _ _⟩
end Go.Proofs.YtbhkibilnmoljaaGreat
namespace Go.Proofs.YtbhkibilnmoljaaGreat
set_option linter.unusedVariables false
set_option linter.unusedSimpArgs false
open Go.RowKit

theorem rat_parts {p q : Rat} : p = q ↔ decide (p < 0) = decide (q < 0) ∧ limbs p.num.natAbs = limbs q.num.natAbs ∧ limbs p.den = limbs q.den := by
  constructor
  · rintro rfl; exact ⟨rfl, rfl, rfl⟩
  · rintro ⟨h1, h2, h3⟩
    have e2 := limbs_inj h2
    have e3 := limbs_inj h3
    rw [← fq_self p, ← fq_self q, h1, e2, e3]
set_option maxRecDepth 100000 in
set_option maxHeartbeats 1600000 in
theorem same_frac (va vb : Value) (p q : Rat) (w : World) (ha : FracC w va p) (hb : FracC w vb q) :
    Calls Tryz.prog 38 #[va, vb] w (RSame w (p = q)) := by
  obtain ⟨a1, a2, rfl, n1, n2⟩ := ha
  obtain ⟨b1, b2, rfl, m1, m2⟩ := hb
  have HP := Lib.hid (@rat_parts p q)
  have n1 := n1.1
  have n2 := n2.1
  have m1 := m1.1
  have m2 := m2.1
  obtain ⟨a1a, a1n, a1c, rfl, _⟩ := n1.sl
  obtain ⟨a2a, a2n, a2c, rfl, _⟩ := n2.sl
  obtain ⟨b1a, b1n, b1c, rfl, _⟩ := m1.sl
  obtain ⟨b2a, b2n, b2c, rfl, _⟩ := m2.sl
  generalize decide (p < 0) = s at *
  generalize decide (q < 0) = t at *
  generalize limbs p.num.natAbs = x at *
  generalize limbs q.num.natAbs = y at *
  generalize limbs p.den = z at *
  generalize limbs q.den = u at *
  have hbx := below_alloc w (.cells #[.bool s, .slice a1a a1n a1c, .slice a2a a2n a2c] 25)
  have hbx := (hbx.alloc hbx.size (.cells #[.bool t, .slice b1a b1n b1c, .slice b2a b2n b2c] 25))
  have n1 := n1.below hbx
  have n2 := n2.below hbx
  have m1 := m1.below hbx
  have m2 := m2.below hbx
  have hC := (C3.new w 25 (.bool s) (.slice a1a a1n a1c) (.slice a2a a2n a2c)).allocS (.cells #[.bool t, .slice b1a b1n b1c, .slice b2a b2n b2c] 25)
  have hD := C3.new (w.alloc (.cells #[.bool s, .slice a1a a1n a1c, .slice a2a a2n a2c] 25)) 25 (.bool t) (.slice b1a b1n b1c) (.slice b2a b2n b2c)
  rw [show (w.alloc (.cells #[.bool s, .slice a1a a1n a1c, .slice a2a a2n a2c] 25)).heap.size = w.heap.size + 1 from by simp] at hD
  by_cases h1 : s = t
  · subst h1
    by_cases hxy : x = y
    · by_cases hzu : z = u
      · have tok : True := trivial
        go_enter Tryz.func38, Tryz.ntmps38
        go_wp2_with (first
          | (go_at_call 61; have _t := tok; (with_reducible refine (same_nat _ _ x y _ n1 m1).mono ?_); rintro e1 w1 ⟨⟨r1, rfl, h1⟩, hbel1⟩; obtain rfl : r1 = true := h1.2 hxy; clear h1 tok _t
             have n3 := n2.below hbel1
             have m3 := m2.below hbel1
             obtain ⟨_, c0, c1, c2, _, _, _⟩ := hC.belowS hbel1
             obtain ⟨_, d0, d1, d2, _, _, _⟩ := hD.belowS hbel1)
          | (go_at_call 61; (with_reducible refine (same_nat _ _ z u _ n3 m3).mono ?_); rintro e2 w2 ⟨⟨r2, rfl, h2⟩, hbel2⟩; obtain rfl : r2 = true := h2.2 hzu; clear h2))
        go_ret
        exact ⟨⟨true, rfl, by simp; exact HP.out.2 ⟨by first | rfl | trivial, hxy, hzu⟩⟩, (hbx.trans (hbel1.mono hbx.size)).trans (hbel2.mono (hbx.trans (hbel1.mono hbx.size)).size)⟩
      · have tok : True := trivial
        go_enter Tryz.func38, Tryz.ntmps38
        go_wp2_with (first
          | (go_at_call 61; have _t := tok; (with_reducible refine (same_nat _ _ x y _ n1 m1).mono ?_); rintro e1 w1 ⟨⟨r1, rfl, h1⟩, hbel1⟩; obtain rfl : r1 = true := h1.2 hxy; clear h1 tok _t
             have n3 := n2.below hbel1
             have m3 := m2.below hbel1
             obtain ⟨_, c0, c1, c2, _, _, _⟩ := hC.belowS hbel1
             obtain ⟨_, d0, d1, d2, _, _, _⟩ := hD.belowS hbel1)
          | (go_at_call 61; (with_reducible refine (same_nat _ _ z u _ n3 m3).mono ?_); rintro e2 w2 ⟨⟨r2, rfl, h2⟩, hbel2⟩; obtain rfl : r2 = false := Bool.eq_false_iff.2 (fun h => hzu (h2.1 h)); clear h2))
        go_ret
        exact ⟨⟨false, rfl, by simp; exact fun h => hzu (HP.out.1 h).2.2⟩, (hbx.trans (hbel1.mono hbx.size)).trans (hbel2.mono (hbx.trans (hbel1.mono hbx.size)).size)⟩
    · go_enter Tryz.func38, Tryz.ntmps38
      go_wp2_with (go_at_call 61; (with_reducible refine (same_nat _ _ x y _ n1 m1).mono ?_); rintro e1 w1 ⟨⟨r1, rfl, h1⟩, hbel1⟩; obtain rfl : r1 = false := Bool.eq_false_iff.2 (fun h => hxy (h1.1 h)); clear h1)
      go_ret
      exact ⟨⟨false, rfl, by simp; exact fun h => hxy (HP.out.1 h).2.1⟩, hbx.trans (hbel1.mono hbx.size)⟩
  · have h2 : (s == t) = false := by simpa using h1
    go_enter Tryz.func38, Tryz.ntmps38
    go_wp2_with fail
    go_ret
    exact ⟨⟨false, rfl, by simp; exact fun h => h1 (HP.out.1 h).1⟩, hbx⟩
end Go.Proofs.YtbhkibilnmoljaaGreat
namespace Go.Proofs.YtbhkibilnmoljaaGreat
set_option linter.unusedVariables false
set_option linter.unusedSimpArgs false
open Go.RowKit

set_option maxRecDepth 100000 in
set_option maxHeartbeats 1600000 in
theorem same_fracs (va vb : Value) (a b : List Rat) (w : World) (ha : FracsC w va a) (hb : FracsC w vb b) :
    Calls Tryz.prog 13 #[va, vb] w (RSame w (a = b)) := by
  have sa := ha.sl
  have la := ha.len
  have sb := hb.sl
  have lb := hb.len
  have hle := sa.le
  have hle2 := sb.le
  rw [la] at hle
  rw [lb] at hle2
  have hlb : a.length ≤ 9223372036854775807 := by omega
  have hlb2 : b.length ≤ 9223372036854775807 := by omega
  clear hle hle2
  by_cases hlen : a.length = b.length
  · skip
    have hL := Lib.hid hlen
    rw [← hlen] at lb
    clear hlen
    go_enter Tryz.func13, Tryz.ntmps13
    go_wp2_with fail
    go_loopw [5] (fun u5 wr => ∃ (k : Nat), k ≤ a.length ∧ u5 = .int .i64 k ∧ (∀ (j : Nat) (h1 : j < a.length) (h2 : j < b.length), j < k → a[j] = b[j]) ∧ Below w.heap.size w wr) (fun u5 _ => a.length - (intOf u5).toNat)
    case atStart => exact ⟨0, Nat.zero_le _, rfl, fun j _ _ h => by omega, Below.refl _ _⟩
    case round =>
      obtain ⟨k, hk, rfl, hst, hbr⟩ := hrel
      have HST := Lib.hid hst
      clear hst
      by_cases hkl : k < a.length
      · have hkb : k < b.length := by rw [← hL.out]; exact hkl
        have hdr := below_drew (B := wr.heap.size) wr
        have hbd := below_then hbr hdr
        obtain ⟨a1, a2, c1, c2, c3, n1, n2⟩ := (ha.below hbd).at' k hkl
        obtain ⟨b1, b2, d1, d2, d3, m1, m2⟩ := (hb.below hbd).at' k hkb
        have i1 : (0 : Int) ≤ (k : Int) := by omega
        have i2 : (k : Int) < (a.length : Nat) := by omega
        generalize ha' : a[k]'hkl = x at *
        generalize hb' : b[k]'hkb = y at *
        have HA := Lib.hid ha'
        have HB := Lib.hid hb'
        clear ha' hb'
        have hX : FracC wr.drew (.agg #[.bool (decide (x < 0)), a1, a2]) x := ⟨_, _, rfl, n1, n2⟩
        have hY : FracC wr.drew (.agg #[.bool (decide (y < 0)), b1, b2]) y := ⟨_, _, rfl, m1, m2⟩
        clear n1 n2 m1 m2
        go_wp2_with fail
        go_region_held3 (fun w' => w'.cell? (ptr va (k * 3)) = some (.bool (decide (x < 0))) ∧ w'.cell? (ptr va (k * 3 + 1)) = some a1 ∧ w'.cell? (ptr va (k * 3 + 2)) = some a2 ∧ w'.cell? (ptr vb (k * 3)) = some (.bool (decide (y < 0))) ∧ w'.cell? (ptr vb (k * 3 + 1)) = some b1 ∧ w'.cell? (ptr vb (k * 3 + 2)) = some b2) (exact ⟨c1, c2, c3, d1, d2, d3⟩) (first
          | (go_at_call 38; (with_reducible refine (same_frac _ _ x y _ hX hY).mono ?_); rintro e9 w9 ⟨⟨r9, rfl, h9⟩, hb9⟩
             have c1 := cell_below hb9 c1
             have c2 := cell_below hb9 c2
             have c3 := cell_below hb9 c3
             have d1 := cell_below hb9 d1
             have d2 := cell_below hb9 d2
             have d3 := cell_below hb9 d3))
        clear c1 c2 c3 d1 d2 d3 hX hY
        have hbr2 := below_then hbd hb9
        by_cases hxy : x = y
        · obtain rfl : r9 = true := h9.2 hxy
          have HST2 : Hid (∀ (j : Nat) (h1 : j < a.length) (h2 : j < b.length), j < k + 1 → a[j] = b[j]) := Lib.hid (fun j h1 h2 h3 => by
            rcases Nat.lt_or_ge j k with h4 | h4
            · exact HST.out j h1 h2 h4
            · obtain rfl : j = k := by omega
              rw [HA.out, HB.out, hxy])
          clear hxy h9
          go_wp2
          go_roundw
          case rel => exact ⟨k + 1, by omega, by go_num, HST2.out, hbr2⟩
          case measure => simp [intOf]; omega
        · obtain rfl : r9 = false := Bool.eq_false_iff.2 (fun h => hxy (h9.1 h))
          have HXY := Lib.hid hxy
          clear hxy h9
          go_wp2
          go_ret
          exact ⟨⟨false, rfl, by simp; intro h; subst h; exact HXY.out (HA.out.symm.trans HB.out)⟩, hbr2⟩
      · go_wp2_with fail
        go_ret
        refine ⟨⟨true, rfl, by simp; exact list_ext_of hL.out (fun j h1 h2 => HST.out j h1 h2 (by omega))⟩, hbr⟩
  · skip
    have hne : ((a.length : Int) == (b.length : Int)) = false := by simp; omega
    go_enter Tryz.func13, Tryz.ntmps13
    go_wp2_with fail
    go_ret
    exact ⟨⟨false, rfl, by simp; intro h; exact hlen (by rw [h])⟩, Below.refl _ _⟩
/-- v reads as a matrix of canonical fractions. -/
structure MatC (w : World) (v : Value) (m : List (List Rat)) : Prop where
  sl : IsSl v
  len : slen v = m.length
  at' : ∀ (j : Nat) (h : j < m.length), ∃ r, w.cell? (ptr v j) = some r ∧ FracsC w r m[j]
theorem MatC.below {w w' : World} {v : Value} {m : List (List Rat)} (h : MatC w v m) (hb : Below w.heap.size w w') : MatC w' v m :=
  ⟨h.sl, h.len, fun j hj => by obtain ⟨r, h1, h2⟩ := h.at' j hj; exact ⟨r, cell_below hb h1, h2.below hb⟩⟩
set_option maxRecDepth 100000 in
set_option maxHeartbeats 1600000 in
theorem same_mat (va vb : Value) (a b : List (List Rat)) (w : World) (ha : MatC w va a) (hb : MatC w vb b) :
    Calls Tryz.prog 14 #[va, vb] w (RSame w (a = b)) := by
  have sa := ha.sl
  have la := ha.len
  have sb := hb.sl
  have lb := hb.len
  have hle := sa.le
  have hle2 := sb.le
  rw [la] at hle
  rw [lb] at hle2
  have hlb : a.length ≤ 9223372036854775807 := by omega
  have hlb2 : b.length ≤ 9223372036854775807 := by omega
  clear hle hle2
  by_cases hlen : a.length = b.length
  · skip
    have hL := Lib.hid hlen
    rw [← hlen] at lb
    clear hlen
    go_enter Tryz.func14, Tryz.ntmps14
    go_wp2_with fail
    go_loopw [5] (fun u5 wr => ∃ (k : Nat), k ≤ a.length ∧ u5 = .int .i64 k ∧ (∀ (j : Nat) (h1 : j < a.length) (h2 : j < b.length), j < k → a[j] = b[j]) ∧ Below w.heap.size w wr) (fun u5 _ => a.length - (intOf u5).toNat)
    case atStart => exact ⟨0, Nat.zero_le _, rfl, fun j _ _ h => by omega, Below.refl _ _⟩
    case round =>
      obtain ⟨k, hk, rfl, hst, hbr⟩ := hrel
      have HST := Lib.hid hst
      clear hst
      by_cases hkl : k < a.length
      · have hkb : k < b.length := by rw [← hL.out]; exact hkl
        have hdr := below_drew (B := wr.heap.size) wr
        have hbd := below_then hbr hdr
        obtain ⟨r1, c1, hX⟩ := (ha.below hbd).at' k hkl
        obtain ⟨r2, d1, hY⟩ := (hb.below hbd).at' k hkb
        have i1 : (0 : Int) ≤ (k : Int) := by omega
        have i2 : (k : Int) < (a.length : Nat) := by omega
        generalize ha' : a[k]'hkl = x at *
        generalize hb' : b[k]'hkb = y at *
        have HA := Lib.hid ha'
        have HB := Lib.hid hb'
        clear ha' hb'

        go_wp2_with fail
        go_region_held3 (fun w' => w'.cell? (ptr va k) = some r1 ∧ w'.cell? (ptr vb k) = some r2) (exact ⟨c1, d1⟩) (first
          | (go_at_call 13; (with_reducible refine (same_fracs _ _ x y _ hX hY).mono ?_); rintro e9 w9 ⟨⟨r9, rfl, h9⟩, hb9⟩
             have c1 := cell_below hb9 c1
             have d1 := cell_below hb9 d1))
        clear c1 d1 hX hY
        have hbr2 := below_then hbd hb9
        by_cases hxy : x = y
        · obtain rfl : r9 = true := h9.2 hxy
          have HST2 : Hid (∀ (j : Nat) (h1 : j < a.length) (h2 : j < b.length), j < k + 1 → a[j] = b[j]) := Lib.hid (fun j h1 h2 h3 => by
            rcases Nat.lt_or_ge j k with h4 | h4
            · exact HST.out j h1 h2 h4
            · obtain rfl : j = k := by omega
              rw [HA.out, HB.out, hxy])
          clear hxy h9
          go_wp2
          go_roundw
          case rel => exact ⟨k + 1, by omega, by go_num, HST2.out, hbr2⟩
          case measure => simp [intOf]; omega
        · obtain rfl : r9 = false := Bool.eq_false_iff.2 (fun h => hxy (h9.1 h))
          have HXY := Lib.hid hxy
          clear hxy h9
          go_wp2
          go_ret
          exact ⟨⟨false, rfl, by simp; intro h; subst h; exact HXY.out (HA.out.symm.trans HB.out)⟩, hbr2⟩
      · go_wp2_with fail
        go_ret
        refine ⟨⟨true, rfl, by simp; exact list_ext_of hL.out (fun j h1 h2 => HST.out j h1 h2 (by omega))⟩, hbr⟩
  · skip
    have hne : ((a.length : Int) == (b.length : Int)) = false := by simp; omega
    go_enter Tryz.func14, Tryz.ntmps14
    go_wp2_with fail
    go_ret
    exact ⟨⟨false, rfl, by simp; intro h; exact hlen (by rw [h])⟩, Below.refl _ _⟩
end Go.Proofs.YtbhkibilnmoljaaGreat
namespace Go.Proofs.YtbhkibilnmoljaaGreat
set_option linter.unusedVariables false
set_option linter.unusedSimpArgs false
open Go.RowKit

theorem MatF.matC {w : World} {v : Value} {n m : Nat} {A : Mx} (h : MatF w v n m A) : MatC w v ((List.range n).map fun i => rowL m (A i)) :=
  ⟨h.sl, by rw [h.len, List.length_map, List.length_range], fun j hj => by
    have hj2 : j < n := by simpa using hj
    obtain ⟨r, h1, h2⟩ := h.row j hj2
    exact ⟨r, h1, by rw [List.getElem_map, List.getElem_range]; exact h2⟩⟩
/-- What is asked of two factors. -/
structure MulOk (n m c : Nat) (A B : Mx) : Prop where
  p : ∀ i k, i < n → k < c → ∀ j, j < m → fits (A i j * B j k)
  s : ∀ i k, i < n → k < c → ∀ j, j ≤ m → fits (sg j fun l => A i l * B l k)
theorem mul_ok {n m c D E a b p q : Nat} {A B : Mx} (hD : D ≠ 0) (hE : E ≠ 0) (hm : m ≤ 5) (hA : ∀ i j, i < n → j < m → over D a (A i j)) (hB : ∀ i j, i < m → j < c → over E b (B i j))
    (h1 : 5 * (a * b) < 2 ^ p) (h2 : D * E < 2 ^ q) (hp : p ≤ 4096) (hq : q ≤ 4096) :
    MulOk n m c A B ∧ (∀ i k, i < n → k < c → over (D * E) (5 * (a * b)) (mulM m A B i k)) ∧ fitM n c (mulM m A B) ∧ wtF n c (mulM m A B) ≤ n * (c * (p + q)) := by
  have hDE : D * E ≠ 0 := Nat.mul_ne_zero hD hE
  have key : ∀ i k, i < n → k < c → (∀ j, j < m → over (D * E) (a * b) (A i j * B j k)) ∧ ∀ j, j ≤ m → over (D * E) (5 * (a * b)) (sg j fun l => A i l * B l k) := fun i k hi hk => by
    obtain ⟨h3, h4⟩ := mul_over (m := m) (i := i) (k := k) hD hE (fun j hj => hA i j hi hj) (fun j hj => hB j k hj hk)
    exact ⟨h3, fun j hj => (h4 j hj).mono (Nat.mul_le_mul_right _ hm)⟩
  have hab : a * b < 2 ^ p := by omega
  refine ⟨⟨fun i k hi hk j hj => fits_over2 hDE ((key i k hi hk).1 j hj) hab h2 hp hq, fun i k hi hk j hj => fits_over2 hDE ((key i k hi hk).2 j hj) h1 h2 hp hq⟩, fun i k hi hk => (key i k hi hk).2 m (Nat.le_refl _), fun i k hi hk => fits_over2 hDE ((key i k hi hk).2 m (Nat.le_refl _)) h1 h2 hp hq, ?_⟩
  exact wtF_le fun i k hi hk => over.wt hDE ((key i k hi hk).2 m (Nat.le_refl _)) h1 h2
end Go.Proofs.YtbhkibilnmoljaaGreat
namespace Go.Proofs.YtbhkibilnmoljaaGreat
set_option linter.unusedVariables false
set_option linter.unusedSimpArgs false
open Go.RowKit

/-- The elements of a list of lists. -/
def rX (a : List (List RF)) : Nat → Nat → RF := fun i j => (a.getD i []).getD j rf0
/-- Their values. -/
def rQ (a : List (List RF)) : Mx := fun i j => (rX a i j).q
def cols (a : List (List RF)) : Nat := (a.headD []).length
theorem MatN.toR {w : World} {v : Value} {a : List (List RF)} {m : Nat} (h : MatN w v a) (hm : ∀ l ∈ a, l.length = m) : MatR w v a.length m (rX a) :=
  ⟨h.sl, h.len, fun i hi => by
    obtain ⟨r, h1, h2⟩ := h.at' i hi
    refine ⟨r, h1, ?_⟩
    have e : rowF m (rX a i) = a[i] := by
      have e1 : a.getD i [] = a[i] := by simp [List.getD, List.getElem?_eq_getElem hi]
      have e2 := rowF_of a[i]
      rw [hm _ (List.getElem_mem hi)] at e2
      unfold rX
      rw [e1]; exact e2
    rw [e]; exact h2⟩
theorem sgN_add (n : Nat) (f g : Nat → Nat) : sgN n (fun i => f i + g i) = sgN n f + sgN n g := by
  induction n with
  | zero => rfl
  | succ n ih => simp only [sgN, ih]; omega
theorem sgN_mono {n : Nat} {f g : Nat → Nat} (h : ∀ i, i < n → f i ≤ g i) : sgN n f ≤ sgN n g := by
  induction n with
  | zero => exact Nat.le_refl _
  | succ n ih =>
    have h1 := ih fun i hi => h i (by omega)
    have h2 := h n (Nat.lt_succ_self n)
    simp only [sgN]; omega
theorem sgN_one {n k : Nat} {f : Nat → Nat} (hk : k < n) : f k ≤ sgN n f := by
  induction n with
  | zero => omega
  | succ n ih =>
    simp only [sgN]
    by_cases h : k < n
    · have := ih h; omega
    · obtain rfl : k = n := by omega
      omega
theorem wts_sgN (l : List RF) : wts (qs l) = sgN l.length (fun j => wt (l.getD j rf0).q) := by
  have key : ∀ k, k ≤ l.length → wts (qs (l.take k)) = sgN k (fun j => wt (l.getD j rf0).q) := by
    intro k
    induction k with
    | zero => intro _; simp [sgN, wts, qs]
    | succ k ih =>
      intro h
      rw [wts_qs l k (by omega), sgN, ih (by omega)]
      simp [List.getD, List.getElem?_eq_getElem (show k < l.length by omega)]
  have := key l.length (Nat.le_refl _)
  rwa [List.take_length] at this
theorem wtsM_sgN (a : List (List RF)) : wtsM a = sgN a.length (fun i => wts (qs (a.getD i []))) := by
  have key : ∀ k, k ≤ a.length → wtsM (a.take k) = sgN k (fun i => wts (qs (a.getD i []))) := by
    intro k
    induction k with
    | zero => intro _; simp [sgN, wtsM]
    | succ k ih =>
      intro h
      rw [wtsM_take a k (by omega), sgN, ih (by omega)]
      simp [List.getD, List.getElem?_eq_getElem (show k < a.length by omega)]
  have := key a.length (Nat.le_refl _)
  rwa [List.take_length] at this
theorem wt_row {a : List (List RF)} {m : Nat} (hm : ∀ l ∈ a, l.length = m) {i : Nat} (hi : i < a.length) : sgN m (fun j => wt (rX a i j).q) ≤ wtsM a := by
  have e : a.getD i [] = a[i] := by simp [List.getD, List.getElem?_eq_getElem hi]
  have h1 : sgN m (fun j => wt (rX a i j).q) = wts (qs (a.getD i [])) := by
    rw [wts_sgN, e, hm _ (List.getElem_mem hi)]
    unfold rX; rw [e]
  rw [h1, wtsM_sgN]
  exact sgN_one (f := fun i => wts (qs (a.getD i []))) hi
theorem wt_col {a : List (List RF)} {m : Nat} (hm : ∀ l ∈ a, l.length = m) {k : Nat} (hk : k < m) : sgN a.length (fun j => wt (rX a j k).q) ≤ wtsM a := by
  rw [wtsM_sgN]
  refine sgN_mono fun i hi => ?_
  have e : a.getD i [] = a[i] := by simp [List.getD, List.getElem?_eq_getElem hi]
  rw [wts_sgN]
  unfold rX
  exact sgN_one (f := fun j => wt ((a.getD i []).getD j rf0).q) (by rw [e, hm _ (List.getElem_mem hi)]; exact hk)
/-- Two matrices whose product is defined. -/
def mulP (a b : List (List RF)) : Prop := shapeP a ∧ shapeP b ∧ cols a = b.length
instance (a b : List (List RF)) : Decidable (mulP a b) := inferInstanceAs (Decidable (_ ∧ _ ∧ _))
theorem shapeP.cols {a : List (List RF)} (h : shapeP a) : ∀ l ∈ a, l.length = cols a := fun l hl => (h.2.2.2.2 l hl).2
theorem shapeP.ok {a : List (List RF)} (h : shapeP a) {i j : Nat} (hi : i < a.length) (hj : j < Go.Proofs.YtbhkibilnmoljaaGreat.cols a) : (rX a i j).ok := by
  have e : a.getD i [] = a[i] := by simp [List.getD, List.getElem?_eq_getElem hi]
  have hv := h.2.2.2.2 a[i] (List.getElem_mem hi)
  have hj2 : j < a[i].length := by rw [hv.2]; exact hj
  have e2 : rX a i j = a[i][j] := by unfold rX; rw [e]; simp [List.getD, List.getElem?_eq_getElem hj2]
  rw [e2]
  exact hv.1 _ (List.getElem_mem hj2)
theorem mulP.fits {a b : List (List RF)} (h : mulP a b) (hw : wtsM a + wtsM b ≤ 3800) {i k : Nat} (hi : i < a.length) (hk : k < cols b) :
    (∀ j, j < cols a → Go.Proofs.YtbhkibilnmoljaaGreat.fits ((rX a i j).q * (rX b j k).q)) ∧ ∀ j, j ≤ cols a → Go.Proofs.YtbhkibilnmoljaaGreat.fits (sg j fun l => (rX a i l).q * (rX b l k).q) := by
  obtain ⟨h1, h2, h3⟩ := h
  have hsum : sgN (cols a) (fun j => wt (rX a i j).q + wt (rX b j k).q) ≤ 3800 := by
    rw [sgN_add]
    have r := wt_row h1.cols hi
    have c := wt_col h2.cols hk
    rw [← h3] at c
    omega
  refine ⟨fun j hj => ?_, fun j hj => sg_mul_fits (x := fun l => (rX a i l).q) (y := fun l => (rX b l k).q) hsum j hj⟩
  refine mul_fits26 (Nat.le_trans ?_ hsum)
  exact sgN_one (f := fun j => wt (rX a i j).q + wt (rX b j k).q) hj
/-- A matrix as a list of lists. -/
def listM (n m : Nat) (A : Mx) : List (List Rat) := (List.range n).map fun i => rowL m (A i)
/-- What Mul answers. -/
def mulAns (a b : List (List RF)) : List (List Rat) × Nat := if mulP a b then (if 3800 < wtsM a + wtsM b then ([], 2) else (listM a.length (cols b) (mulM (cols a) (rQ a) (rQ b)), 0)) else ([], 1)
/-- A matrix and a vector whose product is defined. -/
def appP (a : List (List RF)) (v : List RF) : Prop := shapeP a ∧ vecP v (cols a)
instance (a : List (List RF)) (v : List RF) : Decidable (appP a v) := inferInstanceAs (Decidable (_ ∧ _))
def appAns (a : List (List RF)) (v : List RF) : List Rat × Nat := if appP a v then (if 3800 < wtsM a + wts (qs v) then ([], 2) else (rowL a.length (fun i => sg (cols a) fun j => rQ a i j * (v.getD j rf0).q), 0)) else ([], 1)
def oneAns (n : Int) : List (List Rat) × Nat := if n < 1 ∨ 24 < n then ([], 1) else (listM n.toNat n.toNat oneM, 0)
theorem appP.fits {a : List (List RF)} {v : List RF} (h : appP a v) (hw : wtsM a + wts (qs v) ≤ 3800) {i : Nat} (hi : i < a.length) :
    (∀ j, j < cols a → Go.Proofs.YtbhkibilnmoljaaGreat.fits ((rX a i j).q * (v.getD j rf0).q)) ∧ ∀ j, j ≤ cols a → Go.Proofs.YtbhkibilnmoljaaGreat.fits (sg j fun l => (rX a i l).q * (v.getD l rf0).q) := by
  obtain ⟨h1, h2⟩ := h
  have hsum : sgN (cols a) (fun j => wt (rX a i j).q + wt (v.getD j rf0).q) ≤ 3800 := by
    rw [sgN_add]
    have r := wt_row h1.cols hi
    have c := wts_sgN v
    rw [h2.2] at c
    omega
  refine ⟨fun j hj => ?_, fun j hj => sg_mul_fits (x := fun l => (rX a i l).q) (y := fun l => (v.getD l rf0).q) hsum j hj⟩
  refine mul_fits26 (Nat.le_trans ?_ hsum)
  exact sgN_one (f := fun j => wt (rX a i j).q + wt (v.getD j rf0).q) hj
/-- The answer of a function that makes a matrix, and of one that makes a list. -/
def RAnsM (w0 : World) (r : List (List Rat) × Nat) (e : Ending) (w : World) : Prop := ∃ v, e = .returned (.tuple #[v, .int .i64 (r.2 : Nat)]) ∧ MatC w v r.1 ∧ Below w0.heap.size w0 w
def RAnsV (w0 : World) (r : List Rat × Nat) (e : Ending) (w : World) : Prop := ∃ v, e = .returned (.tuple #[v, .int .i64 (r.2 : Nat)]) ∧ FracsC w v r.1 ∧ Below w0.heap.size w0 w
theorem MatC.nil (w : World) : MatC w (.slice none 0 0) [] := ⟨IsSl.nil, rfl, fun j h => by simp at h⟩
theorem FracsC.nil (w : World) : FracsC w (.slice none 0 0) [] := ⟨IsSl.nil, rfl, fun j h => by simp at h⟩
end Go.Proofs.YtbhkibilnmoljaaGreat
