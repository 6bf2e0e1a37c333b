/-
  package linear, of raw fractions: Apply; Identity of any number.
  Ahead of it: package linear, of raw fractions: column, dot. Products of matrices of raw fractions whose weights add up to at most 3800: nothing is large. No program is walked here. package linear, of raw fractions: Mul. package linear: Identity.
-/
import Derived.Test.YtbhkibilnmoljaaQLi16
import Derived.Test.YtbhkibilnmoljaaQBx
namespace Go.Proofs.Ytbhkibilnmoljaa
set_option linter.unusedVariables false
set_option linter.unusedSimpArgs false
open Go.RowKit

/-- The list of the first n values. -/
def rowF (n : Nat) (x : Nat → RF) : List RF := (List.range n).map x
theorem rowF_length (n : Nat) (x : Nat → RF) : (rowF n x).length = n := by simp [rowF]
theorem rowF_get (n : Nat) (x : Nat → RF) (j : Nat) (h : j < (rowF n x).length) : (rowF n x)[j] = x j := by simp [rowF]
def rf0 : RF := ⟨false, 0, 1⟩
theorem rowF_of (l : List RF) : rowF l.length (fun j => l.getD j rf0) = l := by
  refine List.ext_getElem (by rw [rowF_length]) fun j h1 h2 => ?_
  rw [rowF_get]
  simp [List.getD, List.getElem?_eq_getElem h2]
/-- v reads as a matrix of raw fractions. -/
structure MatR (w : World) (v : Value) (n m : Nat) (X : Nat → Nat → RF) : Prop where
  sl : IsSl v
  len : slen v = n
  row : ∀ i, i < n → ∃ r, w.cell? (ptr v i) = some r ∧ FracsN w r (rowF m (X i))
theorem MatR.below {w w' : World} {v : Value} {n m : Nat} {X : Nat → Nat → RF} (h : MatR w v n m X) (hb : Below w.heap.size w w') : MatR w' v n m X :=
  ⟨h.sl, h.len, fun i hi => by obtain ⟨r, h1, h2⟩ := h.row i hi; exact ⟨r, cell_below hb h1, h2.below hb⟩⟩
theorem mul_raw (va vb : Value) (x y : RF) (w : World) (ha : FracN w va x.neg x.n x.d) (hb : FracN w vb y.neg y.n y.d) (hx : x.ok) (hy : y.ok) (hf : fits (x.q * y.q)) : Calls Try.prog 78 #[va, vb] w (RF0 w (x.q * y.q)) :=
  (mul_frac va vb _ _ _ _ _ _ w ha hb hx hy).mono fun _ _ h => h.ok rfl hf
section
variable {w : World} {e : TypeId} {B n : Nat} {v : Value}
theorem NatN.over1 (h : OwnFr w e B v n) {x : Value} {m : Nat} (hx : NatN w x m) (j : Nat) (hj : j < n * 3) (u : Value) : NatN (w.setCell (Go.Proofs.Ytbhkibilnmoljaa.ptr v j) u) x m := by
  obtain ⟨c, h1, h2⟩ := h.cell j hj
  exact hx.over h1 h2 u
theorem NatN.over3 (h : OwnFr w e B v n) {c : Value} {m : Nat} (hc : NatN w c m) (i : Nat) (hi : i < n) (x y z : Value) (hx : ∀ k, x ≠ .int .u32 k) (hy : ∀ k, y ≠ .int .u32 k) :
    NatN (((w.setCell (Go.Proofs.Ytbhkibilnmoljaa.ptr v (i * 3)) x).setCell (Go.Proofs.Ytbhkibilnmoljaa.ptr v (i * 3 + 1)) y).setCell (Go.Proofs.Ytbhkibilnmoljaa.ptr v (i * 3 + 2)) z) c m := by
  have h1 := h.set (i * 3) x hx
  have h2 := h1.1.set (i * 3 + 1) y hy
  exact NatN.over1 h2.1 (NatN.over1 h1.1 (NatN.over1 h hc _ (by omega) _) _ (by omega) _) _ (by omega) _
theorem FracAt.set3_other (h : OwnFr w e B v n) {i j : Nat} (hi : i < n) (hij : i ≠ j) {q : RF} (hj : FracAt w v (j * 3) q) (x y z : Value) (hx : ∀ k, x ≠ .int .u32 k) (hy : ∀ k, y ≠ .int .u32 k) :
    FracAt (((w.setCell (Go.Proofs.Ytbhkibilnmoljaa.ptr v (i * 3)) x).setCell (Go.Proofs.Ytbhkibilnmoljaa.ptr v (i * 3 + 1)) y).setCell (Go.Proofs.Ytbhkibilnmoljaa.ptr v (i * 3 + 2)) z) v (j * 3) q := by
  obtain ⟨a, b, h1, h2, h3, h4, h5⟩ := hj
  refine ⟨a, b, ?_, ?_, ?_, NatN.over3 h h4 i hi x y z hx hy, NatN.over3 h h5 i hi x y z hx hy⟩
  · rw [cell_set3_other h i _ (by omega) (by omega) (by omega)]; exact h1
  · rw [cell_set3_other h i _ (by omega) (by omega) (by omega)]; exact h2
  · rw [cell_set3_other h i _ (by omega) (by omega) (by omega)]; exact h3
theorem FracAt.set3 (h : OwnFr w e B v n) {i : Nat} (hi : i < n) {q : RF} {x y z : Value} (hf : FracN w (.agg #[x, y, z]) q.neg q.n q.d) :
    FracAt (((w.setCell (Go.Proofs.Ytbhkibilnmoljaa.ptr v (i * 3)) x).setCell (Go.Proofs.Ytbhkibilnmoljaa.ptr v (i * 3 + 1)) y).setCell (Go.Proofs.Ytbhkibilnmoljaa.ptr v (i * 3 + 2)) z) v (i * 3) q := by
  obtain ⟨a, b, ha, h4, h5⟩ := hf
  injection ha with ha
  injection ha with ha
  simp only [List.cons.injEq, and_true] at ha
  obtain ⟨rfl, rfl, rfl⟩ := ha
  have nx : ∀ k, Value.bool q.neg ≠ .int .u32 k := fun k => by simp
  have ny : ∀ k, y ≠ .int .u32 k := fun k => by obtain ⟨a1, n1, c1, e1, _⟩ := h4.slen.1; subst e1; simp
  obtain ⟨c0, d0, _⟩ := h.cell (i * 3) (by omega)
  obtain ⟨c1, d1, _⟩ := h.cell (i * 3 + 1) (by omega)
  obtain ⟨c2, d2, _⟩ := h.cell (i * 3 + 2) (by omega)
  have n01 := h.inj (show i * 3 ≠ i * 3 + 1 by omega)
  have n02 := h.inj (show i * 3 ≠ i * 3 + 2 by omega)
  have n12 := h.inj (show i * 3 + 1 ≠ i * 3 + 2 by omega)
  refine ⟨y, z, ?_, ?_, ?_, NatN.over3 h h4 i hi _ _ _ nx ny, NatN.over3 h h5 i hi _ _ _ nx ny⟩
  · rw [World.cell?_setCell_other _ _ _ _ n02.symm, World.cell?_setCell_other _ _ _ _ n01.symm]
    exact World.cell?_setCell_same _ _ _ d0
  · rw [World.cell?_setCell_other _ _ _ _ n12.symm]
    exact World.cell?_setCell_same _ _ _ (u := c1) (by rw [World.cell?_setCell_other _ _ _ _ n01]; exact d1)
  · exact World.cell?_setCell_same _ _ _ (u := c2) (by rw [World.cell?_setCell_other _ _ _ _ n12, World.cell?_setCell_other _ _ _ _ n02]; exact d2)
theorem OwnFr.fracsN (h : OwnFr w e B v n) {l : List RF} (hl : l.length = n) (he : ∀ j (hj : j < l.length), FracAt w v (j * 3) l[j]) : FracsN w v l :=
  ⟨h.sl, by rw [h.len, hl], he⟩
end
set_option maxRecDepth 100000 in
set_option maxHeartbeats 3200000 in
theorem column_raw (va : Value) (n m k : Nat) (X : Nat → Nat → RF) (w : World) (ha : MatR w va n m X) (hk : k < m) (hn : n ≤ 1000) (hm : m ≤ 1000) :
    Calls Try.prog 49 #[va, .int .i64 k] w fun e w' => ∃ v, e = .returned v ∧ FracsN w' v (rowF n (fun i => X i k)) ∧ Below w.heap.size w w' := by
  have sa := ha.sl
  have la := ha.len
  obtain ⟨i0, hi, hz0, hz1, hz2⟩ := info_parts Try.infoF
  have hM := make_fr (P := Try.prog) 26 30 i0 Try.underlying26 hi hz0 hz1 (by rw [hz2]; decide)
  clear hi hz0 hz1 hz2
  go_enter Try.func49, Try.ntmps49
  go_wp2_with (refine hM _ rfl _ _ rfl w.heap.size _ n rfl rfl rfl (by omega) (Nat.le_refl _) ?_; intro v w1 hown hb1 hvb; have sv := hown.sl; have lv := hown.len)
  clear hM
  go_loopw [12] (fun u12 wr => ∃ (i : Nat), i ≤ n ∧ u12 = .int .i64 i ∧ OwnFr wr 30 w.heap.size v n ∧ (∀ j, j < i → FracAt wr v (j * 3) (X j k)) ∧ Below w.heap.size w wr) (fun u12 _ => n - (intOf u12).toNat)
  case atStart => exact ⟨0, Nat.zero_le _, rfl, hown, fun j h => by omega, hb1⟩
  case round =>
    obtain ⟨i, hin, rfl, ho, he, hbr⟩ := hrel
    clear hown hb1
    have HE := Lib.hid he
    clear he
    by_cases hil : i < n
    · obtain ⟨ri, hc1, hr1⟩ := (ha.below hbr).row i hil
      have slI := hr1.sl
      have lnI : slen ri = m := by rw [hr1.len, rowF_length]
      obtain ⟨ea, eb, g1, g2, g3, g4, g5⟩ := hr1.at' k (by rw [rowF_length]; exact hk)
      rw [rowF_get] at g1 g4 g5
      obtain ⟨ea1, ea2, ea3, rfl, _⟩ := g4.slen.1
      obtain ⟨eb1, eb2, eb3, rfl, _⟩ := g5.slen.1
      have hF : FracN wr (.agg #[.bool (X i k).neg, .slice ea1 ea2 ea3, .slice eb1 eb2 eb3]) (X i k).neg (X i k).n (X i k).d := ⟨_, _, rfl, g4, g5⟩
      obtain ⟨c0, d0, _⟩ := ho.cell (i * 3) (by omega)
      obtain ⟨c1, d1, _⟩ := ho.cell (i * 3 + 1) (by omega)
      obtain ⟨c2, d2, _⟩ := ho.cell (i * 3 + 2) (by omega)
      have f0 := ho.frozen (i * 3)
      have f1 := ho.frozen (i * 3 + 1)
      have f2 := ho.frozen (i * 3 + 2)
      have n01 := ho.inj (show i * 3 ≠ i * 3 + 1 by omega)
      have n02 := ho.inj (show i * 3 ≠ i * 3 + 2 by omega)
      have n12 := ho.inj (show i * 3 + 1 ≠ i * 3 + 2 by omega)
      have hs3 := ho.set3 i (.bool (X i k).neg) (.slice ea1 ea2 ea3) (.slice eb1 eb2 eb3) (fun z => by simp) (fun z => by simp) (fun z => by simp)
      have HS3 := Lib.hid hs3
      have HF := Lib.hid hF
      have HO := Lib.hid ho
      clear hs3 hr1 g4 g5 hF ho
      have i1 : (0 : Int) ≤ (i : Int) := by omega
      have i2 : (i : Int) < (n : Nat) := by omega
      have i3 : (0 : Int) ≤ (k : Int) := by omega
      have i4 : (k : Int) < (m : Nat) := by omega
      go_wp2_with fail
      go_roundw
      case rel =>
        refine ⟨i + 1, hil, by go_num, HS3.out.1, fun j hj => ?_, hbr.trans HS3.out.2⟩
        rcases Nat.lt_or_ge j i with h6 | h6
        · exact FracAt.set3_other HO.out hil (by omega) (HE.out j h6) _ _ _ (fun z => by simp) (fun z => by simp)
        · obtain rfl : j = i := by omega
          exact FracAt.set3 HO.out hil HF.out
      case measure => simp [intOf]; omega
    · obtain rfl : i = n := by omega
      go_wp2_with fail
      go_ret
      exact ⟨v, rfl, ho.fracsN (rowF_length _ _) (fun j hj => by rw [rowF_length] at hj; rw [rowF_get]; exact HE.out j hj), hbr⟩
set_option maxRecDepth 100000 in
set_option maxHeartbeats 3200000 in
theorem dot_raw (vu vv : Value) (n : Nat) (a b : Nat → RF) (w : World) (hu : FracsN w vu (rowF n a)) (hv : FracsN w vv (rowF n b)) (hn : n ≤ 1000) (hfa : ∀ k, k < n → (a k).ok) (hfb : ∀ k, k < n → (b k).ok)
    (hp : ∀ k, k < n → fits ((a k).q * (b k).q)) (hs : ∀ k, k ≤ n → fits (sg k fun j => (a j).q * (b j).q)) :
    Calls Try.prog 50 #[vu, vv] w (RF0 w (sg n fun j => (a j).q * (b j).q)) := by
  have su := hu.sl
  have lu : slen vu = n := by rw [hu.len, rowF_length]
  have sv := hv.sl
  have lv : slen vv = n := by rw [hv.len, rowF_length]
  obtain ⟨i0, hi, hz0, hz1, hz2⟩ := info_parts Try.infoF
  have hM := make_fr (P := Try.prog) 26 30 i0 Try.underlying26 hi hz0 hz1 (by rw [hz2]; decide)
  clear hi hz0 hz1 hz2
  have HU := Lib.hid hu
  have HV := Lib.hid hv
  have HFA := Lib.hid hfa
  have HFB := Lib.hid hfb
  have HP := Lib.hid hp
  have HS := Lib.hid hs
  have hb0 := below_alloc w (.cells #[.bool false, .slice none 0 0, .slice none 0 0] 30)
  have HR0 := Lib.hid (C3.new w 30 (.bool false) (.slice none 0 0) (.slice none 0 0))
  have hsz0 : (w.alloc (.cells #[.bool false, .slice none 0 0, .slice none 0 0] 30)).heap.size = w.heap.size + 1 := by simp
  have HSZ := Lib.hid hsz0
  clear hu hv hfa hfb hp hs hsz0
  go_enter Try.func50, Try.ntmps50
  go_upto_region 1 with fail
  obtain ⟨W0, hW0⟩ : ∃ W0, w.alloc (.cells #[.bool false, .slice none 0 0, .slice none 0 0] 30) = W0 := ⟨_, rfl⟩
  rw [hW0] at hb0 HR0 HSZ ⊢
  clear hW0
  have hB0 : w.heap.size ≤ W0.heap.size := hb0.size
  go_wp2_with (refine hM W0 rfl _ _ rfl W0.heap.size _ n rfl rfl rfl (by omega) (Nat.le_refl _) ?_; intro vl w1 hown hb1 hvb; have sl := hown.sl; have ll := hown.len)
  clear hM
  go_loopg [15] (n) (fun g u15 wr => ∃ (k : Nat), k ≤ n ∧ g = n - k ∧ u15 = .int .i64 k ∧ OwnFr wr 30 W0.heap.size vl n ∧ (∀ j, j < k → ElemC wr vl j ((a j).q * (b j).q)) ∧ Below W0.heap.size W0 wr)
  case atStart => exact ⟨0, Nat.zero_le _, rfl, rfl, hown, fun j h => by omega, hb1⟩
  case round =>
    obtain ⟨k, hk, hg, rfl, ho, he, hbr⟩ := hrel
    obtain ⟨w2, hw2⟩ : ∃ w2, w2 = wr := ⟨_, rfl⟩
    subst hw2
    clear hown hb1
    have HE := Lib.hid he
    have HG := Lib.hid hg
    have HO := Lib.hid ho
    have HBR := Lib.hid hbr
    have hbw := hb0.trans (hbr.mono hB0)
    clear he hg
    by_cases hkn : k < n
    · obtain ⟨ea, eb, g1, g2, g3, g4, g5⟩ := (HU.out.below hbw).at' k (by rw [rowF_length]; exact hkn)
      obtain ⟨ec, ed, g6, g7, g8, g9, g10⟩ := (HV.out.below hbw).at' k (by rw [rowF_length]; exact hkn)
      rw [rowF_get] at g1 g4 g5 g6 g9 g10
      obtain ⟨ea1, ea2, ea3, rfl, _⟩ := g4.slen.1
      obtain ⟨eb1, eb2, eb3, rfl, _⟩ := g5.slen.1
      obtain ⟨ec1, ec2, ec3, rfl, _⟩ := g9.slen.1
      obtain ⟨ed1, ed2, ed3, rfl, _⟩ := g10.slen.1
      have HFU : Hid (FracN w2 (.agg #[.bool (a k).neg, .slice ea1 ea2 ea3, .slice eb1 eb2 eb3]) (a k).neg (a k).n (a k).d) := Lib.hid ⟨_, _, rfl, g4, g5⟩
      have HFV : Hid (FracN w2 (.agg #[.bool (b k).neg, .slice ec1 ec2 ec3, .slice ed1 ed2 ed3]) (b k).neg (b k).n (b k).d) := Lib.hid ⟨_, _, rfl, g9, g10⟩
      have S0 := Lib.hid (And.intro g1 (And.intro g2 (And.intro g3 (And.intro g6 (And.intro g7 g8)))))
      have HF1 := Lib.hid (HFA.out k hkn)
      have HF2 := Lib.hid (HFB.out k hkn)
      have HF3 := Lib.hid (HP.out k hkn)
      have i1 : (0 : Int) ≤ (k : Int) := by omega
      have i2 : (k : Int) < (n : Nat) := by omega
      clear g4 g5 g9 g10 ho hbr hbw
      go_wp2_with fail
      go_cut [8, 9] (fun u8 u9 wy => ∃ (b8 : Nat) (t' : Bool) (x' y' : Value), u8 = .pointer (some ⟨b8, 0, none⟩) ∧ u9 = .int .i64 0 ∧ C3 wy b8 (.bool t') x' y' ∧ FracC wy (.agg #[.bool t', x', y']) ((a k).q * (b k).q) ∧ Below w2.heap.size w2 wy)
      case first =>
        go_region_held3 (fun w' => w'.cell? (ptr vu (k * 3)) = some (.bool ((a k).neg)) ∧ w'.cell? (ptr vu (k * 3 + 1)) = some (.slice ea1 ea2 ea3) ∧ w'.cell? (ptr vu (k * 3 + 2)) = some (.slice eb1 eb2 eb3) ∧ w'.cell? (ptr vv (k * 3)) = some (.bool ((b k).neg)) ∧ w'.cell? (ptr vv (k * 3 + 1)) = some (.slice ec1 ec2 ec3) ∧ w'.cell? (ptr vv (k * 3 + 2)) = some (.slice ed1 ed2 ed3) ∧ Below w2.heap.size w2 w') (first
          | with_reducible exact kp6a S0.out (below_drew _)
          | with_reducible exact kp6w (by assumption) (below_alloc _ _)
          | with_reducible exact kp6w (by assumption) (by assumption)
          | with_reducible exact kp6a S0.out (below_then hB31 (below_alloc _ _))
          | with_reducible exact kp6s S0.out hB31 (Nat.le_refl _) _ _ _) (first
          | (go_at_call 78; (with_reducible refine (mul_raw _ _ (a k) (b k) _ (HFU.out.below (kp6c (by assumption))) (HFV.out.below (kp6c (by assumption))) HF1.out HF2.out HF3.out).mono ?_); rintro e31 w31 ⟨v31, rfl, hv31, hb31⟩
             obtain ⟨t31, x31, y31, rfl, ⟨a311, l311, k311, rfl, _⟩, ⟨a312, l312, k312, rfl, _⟩⟩ := hv31.isF
             have hB31 := below_then (kp6c (by assumption)) hb31
             have hc5 := (fun (p : Addr) hp => hb31.cell (p := p) hp)
             have hf5 := (fun (p : Addr) hp => hb31.frozen (p := p) hp)
             have zq := hb31.size
             (try simp only [sizeA, sizeD] at zq)
             (try have z1 : w2.heap.size < w31.heap.size := (by omega))))
        all_goals
          have hE := kp6c (by assumption)
          go_wp2_with fail
          go_meet
          case rel =>
            first
              | exact ⟨_, _, _, _, rfl, rfl, C3.new w31 _ _ _ _, hv31.below (below_alloc _ _), hE⟩
              | exact ⟨_, _, _, _, rfl, rfl, ((C3.newB (b := w2.heap.size) w2.drew 30 (.bool false) (.slice none 0 0) (.slice none 0 0) rfl).belowS hb31).set _ _ _, hv31.set3 ((C3.newB (b := w2.heap.size) w2.drew 30 (.bool false) (.slice none 0 0) (.slice none 0 0) rfl).belowS hb31) (fun z => by simp) (fun z => by simp) _ _ _, hE⟩
              | exact ⟨_, _, _, _, rfl, rfl, (((C3.newB (b := w2.heap.size) w2 30 (.bool false) (.slice none 0 0) (.slice none 0 0) rfl).belowS (below_drew _)).belowS hb31).set _ _ _, hv31.set3 (((C3.newB (b := w2.heap.size) w2 30 (.bool false) (.slice none 0 0) (.slice none 0 0) rfl).belowS (below_drew _)).belowS hb31) (fun z => by simp) (fun z => by simp) _ _ _, hE⟩
      case rest =>
        obtain ⟨b8, t6, x6, y6, rfl, rfl, hC6, hv6, hb6⟩ := hcut
        obtain ⟨w3, hw3⟩ : ∃ w3, w3 = wc := ⟨_, rfl⟩
        subst hw3
        obtain ⟨_, _, _, hF6, ⟨a61, l61, k61, rfl, _⟩, ⟨a62, l62, k62, rfl, _⟩⟩ := id hv6.isF
        injection hF6 with hF6
        injection hF6 with hF6
        simp only [List.cons.injEq, and_true, Value.bool.injEq] at hF6
        obtain ⟨rfl, rfl, rfl⟩ := hF6
        have ho3 := HO.out.below hb6
        obtain ⟨c0, d0, _⟩ := ho3.cell (k * 3) (by omega)
        obtain ⟨c1, d1, _⟩ := ho3.cell (k * 3 + 1) (by omega)
        obtain ⟨c2, d2, _⟩ := ho3.cell (k * 3 + 2) (by omega)
        have f0 := ho3.frozen (k * 3)
        have f1 := ho3.frozen (k * 3 + 1)
        have f2 := ho3.frozen (k * 3 + 2)
        have n01 := ho3.inj (show k * 3 ≠ k * 3 + 1 by omega)
        have n02 := ho3.inj (show k * 3 ≠ k * 3 + 2 by omega)
        have n12 := ho3.inj (show k * 3 + 1 ≠ k * 3 + 2 by omega)
        have HS3 := Lib.hid (ho3.set3 k (.bool t6) (.slice a61 l61 k61) (.slice a62 l62 k62) (fun z => by simp) (fun z => by simp) (fun z => by simp))
        have HE3 := Lib.hid (fun j hj => (HE.out j hj).below hb6)
        have HO3 := Lib.hid ho3
        have HV6 := Lib.hid hv6
        have HB3 := Lib.hid (below_then2 HBR.out hb6 HBR.out.size)
        obtain ⟨_, q1, q2, q3, _, _, _⟩ := hC6
        clear ho3 hv6 hb6 g1 g2 g3 g6 g7 g8
        go_wp2_with fail
        go_roundg (n - (k + 1))
        case measure => (have := HG.out; omega)
        case rel =>
          refine ⟨k + 1, by omega, rfl, by go_num, HS3.out.1, fun j hj => ?_, HB3.out.trans HS3.out.2⟩
          rcases Nat.lt_or_ge j k with h6 | h6
          · exact ElemC.set3_other HO3.out hkn (by omega) (HE3.out j h6) _ _ _ (fun z => by simp) (fun z => by simp)
          · obtain rfl : j = k := by omega
            exact ElemC.set3 HO3.out hkn HV6.out
    · obtain rfl : k = n := by omega
      have hfr : FracsC w2 vl (rowL k fun j => (a j).q * (b j).q) := ho.fracs (rowL_length _ _) (fun j hj => by rw [rowL_length] at hj; rw [rowL_get]; exact HE.out j hj)
      have hraw := hfr.raw
      have HOK : Hid (∀ x ∈ (rowL k fun j => (a j).q * (b j).q).map RF.of, x.ok) := Lib.hid (fun x hx => by
        obtain ⟨q, hq, rfl⟩ := List.mem_map.1 hx
        obtain ⟨j, hj, rfl⟩ := List.mem_map.1 hq
        exact RF.of_ok (HP.out j (List.mem_range.1 hj)))
      have HFT : Hid (∀ j, j ≤ ((rowL k fun j => (a j).q * (b j).q).map RF.of).length → fits (lsum (qs (((rowL k fun j => (a j).q * (b j).q).map RF.of).take j)))) := Lib.hid (fun j hj => by
        rw [List.length_map, rowL_length] at hj
        rw [← List.map_take, qs_of, rowL_take _ _ _ hj, lsum_rowL]
        exact HS.out j hj)
      have HVAL : Hid (lsum (qs ((rowL k fun j => (a j).q * (b j).q).map RF.of)) = sg k fun j => (a j).q * (b j).q) := Lib.hid (by rw [qs_of, lsum_rowL])
      have HR2 := Lib.hid (HR0.out.below hbr HR0.out.lt)
      have HBW := Lib.hid hbw
      clear hfr ho hbr hbw
      go_wp2_with (go_at_call 79; (with_reducible refine (sum_frac vl _ _ hraw HOK.out HFT.out).mono ?_); rw [HVAL.out]; rintro e5 w5 ⟨v5, rfl, hv5, hb5⟩
                   obtain ⟨t9, x9, y9, rfl, ⟨a1, l91, k91, rfl, _⟩, ⟨a2, l92, k92, rfl, _⟩⟩ := hv5.isF
                   have HR5 := Lib.hid (HR2.out.belowS hb5)
                   obtain ⟨_, c0, c1, c2, f0, f1, f2⟩ := HR5.out)
      refine bodyPost_c3 rfl rfl Try.aggF Try.sizeF (HR5.out.set _ _ _) rfl ?_
      exact ⟨_, rfl, hv5.set3 HR5.out (fun z => by simp) (fun z => by simp) _ _ _, below_set3 (below_then HBW.out hb5) (Nat.le_refl _) _ _ _⟩
end Go.Proofs.Ytbhkibilnmoljaa
namespace Go.Proofs.Ytbhkibilnmoljaa
set_option linter.unusedVariables false
set_option linter.unusedSimpArgs false
open Go.RowKit

/-- The elements of a list of lists. -/
def rX (a : List (List RF)) : Nat → Nat → RF := fun i j => (a.getD i []).getD j rf0
/-- Their values. -/
def rQ (a : List (List RF)) : Mx := fun i j => (rX a i j).q
def cols (a : List (List RF)) : Nat := (a.headD []).length
theorem MatN.toR {w : World} {v : Value} {a : List (List RF)} {m : Nat} (h : MatN w v a) (hm : ∀ l ∈ a, l.length = m) : MatR w v a.length m (rX a) :=
  ⟨h.sl, h.len, fun i hi => by
    obtain ⟨r, h1, h2⟩ := h.at' i hi
    refine ⟨r, h1, ?_⟩
    have e : rowF m (rX a i) = a[i] := by
      have e1 : a.getD i [] = a[i] := by simp [List.getD, List.getElem?_eq_getElem hi]
      have e2 := rowF_of a[i]
      rw [hm _ (List.getElem_mem hi)] at e2
      unfold rX
      rw [e1]; exact e2
    rw [e]; exact h2⟩
theorem sgN_add (n : Nat) (f g : Nat → Nat) : sgN n (fun i => f i + g i) = sgN n f + sgN n g := by
  induction n with
  | zero => rfl
  | succ n ih => simp only [sgN, ih]; omega
theorem sgN_mono {n : Nat} {f g : Nat → Nat} (h : ∀ i, i < n → f i ≤ g i) : sgN n f ≤ sgN n g := by
  induction n with
  | zero => exact Nat.le_refl _
  | succ n ih =>
    have h1 := ih fun i hi => h i (by omega)
    have h2 := h n (Nat.lt_succ_self n)
    simp only [sgN]; omega
theorem sgN_one {n k : Nat} {f : Nat → Nat} (hk : k < n) : f k ≤ sgN n f := by
  induction n with
  | zero => omega
  | succ n ih =>
    simp only [sgN]
    by_cases h : k < n
    · have := ih h; omega
    · obtain rfl : k = n := by omega
      omega
theorem wts_sgN (l : List RF) : wts (qs l) = sgN l.length (fun j => wt (l.getD j rf0).q) := by
  have key : ∀ k, k ≤ l.length → wts (qs (l.take k)) = sgN k (fun j => wt (l.getD j rf0).q) := by
    intro k
    induction k with
    | zero => intro _; simp [sgN, wts, qs]
    | succ k ih =>
      intro h
      rw [wts_qs l k (by omega), sgN, ih (by omega)]
      simp [List.getD, List.getElem?_eq_getElem (show k < l.length by omega)]
  have := key l.length (Nat.le_refl _)
  rwa [List.take_length] at this
theorem wtsM_sgN (a : List (List RF)) : wtsM a = sgN a.length (fun i => wts (qs (a.getD i []))) := by
  have key : ∀ k, k ≤ a.length → wtsM (a.take k) = sgN k (fun i => wts (qs (a.getD i []))) := by
    intro k
    induction k with
    | zero => intro _; simp [sgN, wtsM]
    | succ k ih =>
      intro h
      rw [wtsM_take a k (by omega), sgN, ih (by omega)]
      simp [List.getD, List.getElem?_eq_getElem (show k < a.length by omega)]
  have := key a.length (Nat.le_refl _)
  rwa [List.take_length] at this
theorem wt_row {a : List (List RF)} {m : Nat} (hm : ∀ l ∈ a, l.length = m) {i : Nat} (hi : i < a.length) : sgN m (fun j => wt (rX a i j).q) ≤ wtsM a := by
  have e : a.getD i [] = a[i] := by simp [List.getD, List.getElem?_eq_getElem hi]
  have h1 : sgN m (fun j => wt (rX a i j).q) = wts (qs (a.getD i [])) := by
    rw [wts_sgN, e, hm _ (List.getElem_mem hi)]
    unfold rX; rw [e]
  rw [h1, wtsM_sgN]
  exact sgN_one (f := fun i => wts (qs (a.getD i []))) hi
theorem wt_col {a : List (List RF)} {m : Nat} (hm : ∀ l ∈ a, l.length = m) {k : Nat} (hk : k < m) : sgN a.length (fun j => wt (rX a j k).q) ≤ wtsM a := by
  rw [wtsM_sgN]
  refine sgN_mono fun i hi => ?_
  have e : a.getD i [] = a[i] := by simp [List.getD, List.getElem?_eq_getElem hi]
  rw [wts_sgN]
  unfold rX
  exact sgN_one (f := fun j => wt ((a.getD i []).getD j rf0).q) (by rw [e, hm _ (List.getElem_mem hi)]; exact hk)
/-- Two matrices whose product is defined. -/
def mulP (a b : List (List RF)) : Prop := shapeP a ∧ shapeP b ∧ cols a = b.length
instance (a b : List (List RF)) : Decidable (mulP a b) := inferInstanceAs (Decidable (_ ∧ _ ∧ _))
theorem shapeP.cols {a : List (List RF)} (h : shapeP a) : ∀ l ∈ a, l.length = cols a := fun l hl => (h.2.2.2.2 l hl).2
theorem shapeP.ok {a : List (List RF)} (h : shapeP a) {i j : Nat} (hi : i < a.length) (hj : j < Go.Proofs.Ytbhkibilnmoljaa.cols a) : (rX a i j).ok := by
  have e : a.getD i [] = a[i] := by simp [List.getD, List.getElem?_eq_getElem hi]
  have hv := h.2.2.2.2 a[i] (List.getElem_mem hi)
  have hj2 : j < a[i].length := by rw [hv.2]; exact hj
  have e2 : rX a i j = a[i][j] := by unfold rX; rw [e]; simp [List.getD, List.getElem?_eq_getElem hj2]
  rw [e2]
  exact hv.1 _ (List.getElem_mem hj2)
theorem mulP.fits {a b : List (List RF)} (h : mulP a b) (hw : wtsM a + wtsM b ≤ 3800) {i k : Nat} (hi : i < a.length) (hk : k < cols b) :
    (∀ j, j < cols a → Go.Proofs.Ytbhkibilnmoljaa.fits ((rX a i j).q * (rX b j k).q)) ∧ ∀ j, j ≤ cols a → Go.Proofs.Ytbhkibilnmoljaa.fits (sg j fun l => (rX a i l).q * (rX b l k).q) := by
  obtain ⟨h1, h2, h3⟩ := h
  have hsum : sgN (cols a) (fun j => wt (rX a i j).q + wt (rX b j k).q) ≤ 3800 := by
    rw [sgN_add]
    have r := wt_row h1.cols hi
    have c := wt_col h2.cols hk
    rw [← h3] at c
    omega
  refine ⟨fun j hj => ?_, fun j hj => sg_mul_fits (x := fun l => (rX a i l).q) (y := fun l => (rX b l k).q) hsum j hj⟩
  refine mul_fits26 (Nat.le_trans ?_ hsum)
  exact sgN_one (f := fun j => wt (rX a i j).q + wt (rX b j k).q) hj
/-- A matrix as a list of lists. -/
def listM (n m : Nat) (A : Mx) : List (List Rat) := (List.range n).map fun i => rowL m (A i)
/-- What Mul answers. -/
def mulAns (a b : List (List RF)) : List (List Rat) × Nat := if mulP a b then (if 3800 < wtsM a + wtsM b then ([], 2) else (listM a.length (cols b) (mulM (cols a) (rQ a) (rQ b)), 0)) else ([], 1)
/-- A matrix and a vector whose product is defined. -/
def appP (a : List (List RF)) (v : List RF) : Prop := shapeP a ∧ vecP v (cols a)
instance (a : List (List RF)) (v : List RF) : Decidable (appP a v) := inferInstanceAs (Decidable (_ ∧ _))
def appAns (a : List (List RF)) (v : List RF) : List Rat × Nat := if appP a v then (if 3800 < wtsM a + wts (qs v) then ([], 2) else (rowL a.length (fun i => sg (cols a) fun j => rQ a i j * (v.getD j rf0).q), 0)) else ([], 1)
def oneAns (n : Int) : List (List Rat) × Nat := if n < 1 ∨ 24 < n then ([], 1) else (listM n.toNat n.toNat oneM, 0)
theorem appP.fits {a : List (List RF)} {v : List RF} (h : appP a v) (hw : wtsM a + wts (qs v) ≤ 3800) {i : Nat} (hi : i < a.length) :
    (∀ j, j < cols a → Go.Proofs.Ytbhkibilnmoljaa.fits ((rX a i j).q * (v.getD j rf0).q)) ∧ ∀ j, j ≤ cols a → Go.Proofs.Ytbhkibilnmoljaa.fits (sg j fun l => (rX a i l).q * (v.getD l rf0).q) := by
  obtain ⟨h1, h2⟩ := h
  have hsum : sgN (cols a) (fun j => wt (rX a i j).q + wt (v.getD j rf0).q) ≤ 3800 := by
    rw [sgN_add]
    have r := wt_row h1.cols hi
    have c := wts_sgN v
    rw [h2.2] at c
    omega
  refine ⟨fun j hj => ?_, fun j hj => sg_mul_fits (x := fun l => (rX a i l).q) (y := fun l => (v.getD l rf0).q) hsum j hj⟩
  refine mul_fits26 (Nat.le_trans ?_ hsum)
  exact sgN_one (f := fun j => wt (rX a i j).q + wt (v.getD j rf0).q) hj
/-- The answer of a function that makes a matrix, and of one that makes a list. -/
def RAnsM (w0 : World) (r : List (List Rat) × Nat) (e : Ending) (w : World) : Prop := ∃ v, e = .returned (.tuple #[v, .int .i64 (r.2 : Nat)]) ∧ MatC w v r.1 ∧ Below w0.heap.size w0 w
def RAnsV (w0 : World) (r : List Rat × Nat) (e : Ending) (w : World) : Prop := ∃ v, e = .returned (.tuple #[v, .int .i64 (r.2 : Nat)]) ∧ FracsC w v r.1 ∧ Below w0.heap.size w0 w
theorem MatC.nil (w : World) : MatC w (.slice none 0 0) [] := ⟨IsSl.nil, rfl, fun j h => by simp at h⟩
theorem FracsC.nil (w : World) : FracsC w (.slice none 0 0) [] := ⟨IsSl.nil, rfl, fun j h => by simp at h⟩
end Go.Proofs.Ytbhkibilnmoljaa
namespace Go.Proofs.Ytbhkibilnmoljaa
set_option linter.unusedVariables false
set_option linter.unusedSimpArgs false
open Go.RowKit

theorem shape_ok (va : Value) (a : List (List RF)) (n m : Nat) (w : World) (ha : MatN w va a) (hs : shapeP a) (hn : a.length = n) (hm : cols a = m) :
    Calls Try.prog 33 #[va] w fun e w' => e = .returned (.tuple #[.int .i64 n, .int .i64 m, .bool true]) ∧ Below w.heap.size w w' :=
  (shape_any va a w ha).mono fun e w' ⟨h1, h2⟩ => ⟨by
    rw [if_pos hs] at h1
    subst hn hm
    exact h1, h2⟩
theorem shape_no (va : Value) (a : List (List RF)) (w : World) (ha : MatN w va a) (hs : ¬ shapeP a) :
    Calls Try.prog 33 #[va] w fun e w' => e = .returned (.tuple #[.int .i64 0, .int .i64 0, .bool false]) ∧ Below w.heap.size w w' :=
  (shape_any va a w ha).mono fun e w' ⟨h1, h2⟩ => ⟨by rw [if_neg hs] at h1; exact h1, h2⟩
theorem weight_ok (va : Value) (a : List (List RF)) (w : World) (ha : MatN w va a) (hs : shapeP a) :
    Calls Try.prog 34 #[va] w fun e w' => e = .returned (.int .i64 (wtsM a)) ∧ Below w.heap.size w w' :=
  lweight_any va a w ha (fun l hl x hx => (hs.2.2.2.2 l hl).1 x hx) (fun l hl => by rw [(hs.2.2.2.2 l hl).2]; have := hs.2.2.2.1; omega) (by have := hs.2.1; omega)
theorem wtsM_lim {a : List (List RF)} (hs : shapeP a) : wtsM a ≤ 536870912 * 24 :=
  Nat.le_trans (wtsM_le a (fun l hl x hx => (hs.2.2.2.2 l hl).1 x hx) (fun l hl => by rw [(hs.2.2.2.2 l hl).2]; have := hs.2.2.2.1; omega)) (Nat.mul_le_mul_left _ hs.2.1)
set_option maxRecDepth 100000 in
set_option maxHeartbeats 3200000 in
theorem mul_valid (va vb : Value) (a b : List (List RF)) (n m c : Nat) (w : World) (hna : MatN w va a) (hnb : MatN w vb b) (hok : mulP a b) (hn' : a.length = n) (hm' : cols a = m) (hc' : cols b = c) (hw : wtsM a + wtsM b ≤ 3800) :
    Calls Try.prog 21 #[va, vb] w fun e w' => ∃ v, e = .returned (.tuple #[v, .int .i64 0]) ∧ MatF w' v n c (mulM m (rQ a) (rQ b)) ∧ Below w.heap.size w w' := by
  have hn1 : 1 ≤ n := by rw [← hn']; exact hok.1.1
  have hn : n ≤ 24 := by rw [← hn']; exact hok.1.2.1
  have hm1 : 1 ≤ m := by rw [← hm']; exact hok.1.2.2.1
  have hm : m ≤ 24 := by rw [← hm']; exact hok.1.2.2.2.1
  have hc1 : 1 ≤ c := by rw [← hc']; exact hok.2.1.2.2.1
  have hc : c ≤ 24 := by rw [← hc']; exact hok.2.1.2.2.2.1
  have hbm : b.length = m := by rw [← hm']; exact hok.2.2.symm
  have ha : MatR w va n m (rX a) := by
    have h := hna.toR hok.1.cols
    rw [hn', hm'] at h; exact h
  have hb : MatR w vb m c (rX b) := by
    have h := hnb.toR hok.2.1.cols
    rw [hbm, hc'] at h; exact h
  have hfA : ∀ i j, i < n → j < m → (rX a i j).ok := fun i j hi hj => hok.1.ok (by omega) (by omega)
  have hfB : ∀ i j, i < m → j < c → (rX b i j).ok := fun i j hi hj => hok.2.1.ok (by omega) (by omega)
  have hp : ∀ i k, i < n → k < c → ∀ j, j < m → fits ((rX a i j).q * (rX b j k).q) := fun i k hi hk j hj => (hok.fits hw (i := i) (k := k) (by omega) (by omega)).1 j (by omega)
  have hs : ∀ i k, i < n → k < c → ∀ j, j ≤ m → fits (sg j fun l => (rX a i l).q * (rX b l k).q) := fun i k hi hk j hj => (hok.fits hw (i := i) (k := k) (by omega) (by omega)).2 j (by omega)
  have HNA := Lib.hid hna
  have HNB := Lib.hid hnb
  have HSA := Lib.hid (And.intro hok.1 (And.intro hn' hm'))
  have HSB := Lib.hid (And.intro hok.2.1 (And.intro hbm hc'))
  obtain ⟨i0, hi, hz0, hz1, hz2⟩ := info_parts Try.infoF
  have hM := make_fr (P := Try.prog) 26 30 i0 Try.underlying26 hi hz0 hz1 (by rw [hz2]; decide)
  clear hi hz0 hz1 hz2
  obtain ⟨i4, hi4, hz4, hs4, hy4⟩ := info_parts Try.infoRow
  have hMR := make_rows (P := Try.prog) 24 26 i4 Try.underlying24 hi4 hz4 hs4 hy4
  clear hi4 hz4 hs4 hy4
  have HFA := Lib.hid hfA
  have HFB := Lib.hid hfB
  have HP := Lib.hid hp
  have HS := Lib.hid hs
  have hwi : (wtsM a : Int) + (wtsM b : Nat) ≤ 3800 := by omega
  obtain ⟨W1, hW1⟩ : ∃ W, wtsM a = W := ⟨_, rfl⟩
  obtain ⟨W2, hW2⟩ : ∃ W, wtsM b = W := ⟨_, rfl⟩
  rw [hW1, hW2] at hwi
  have HW1 := Lib.hid hW1
  have HW2 := Lib.hid hW2
  have sa := ha.sl
  have la := ha.len
  have sb := hb.sl
  have lb := hb.len
  have HA := Lib.hid ha
  have HB := Lib.hid hb
  clear hW1 hW2 ha hb hfA hfB hp hs hw hna hnb hok hn' hm' hc' hbm
  have tok1 : True := trivial
  have tok2 : True := trivial
  go_enter Try.func21, Try.ntmps21
  go_wp2_with (first
    | (go_at_call 33; have _t := tok1; (with_reducible refine (shape_ok va a n m _ HNA.out HSA.out.1 HSA.out.2.1 HSA.out.2.2).mono ?_); rintro e1 w1 ⟨rfl, hb1⟩; clear tok1 _t)
    | (go_at_call 33; have _t := tok2; (with_reducible refine (shape_ok vb b m c _ (HNB.out.below hb1) HSB.out.1 HSB.out.2.1 HSB.out.2.2).mono ?_); rintro e2 w2 ⟨rfl, hb2⟩; clear tok2 _t
       have hB2 := below_then hb1 hb2
       have tok3 : True := trivial
       have tok4 : True := trivial)
    | (go_at_call 34; have _t := tok3; (with_reducible refine (weight_ok va a _ (HNA.out.below hB2) HSA.out.1).mono ?_); rw [HW1.out]; rintro e3 w3 ⟨rfl, hb3⟩; clear tok3 _t
       have hB3 := below_then hB2 hb3)
    | (go_at_call 34; have _t := tok4; (with_reducible refine (weight_ok vb b _ (HNB.out.below hB3) HSB.out.1).mono ?_); rw [HW2.out]; rintro e5 w5 ⟨rfl, hb5⟩; clear tok4 _t
       have hB5 := below_then hB3 hb5)
    | (refine hMR w5 rfl _ _ rfl w5.heap.size _ n rfl rfl rfl (by omega) (Nat.le_refl _) ?_; intro vO w6 hO6 hb6
       have HO6 := Lib.hid hO6
       have HB6 := Lib.hid hb6
       have HB5 := Lib.hid hB5
       have slO := hO6.sl
       have lnO := hO6.len
       clear hO6 hb6 hB5 hb5 hB3 hb3 hB2 hb2 hb1))
  clear hMR
  go_loopg [53] (n) (fun g u53 wr => ∃ (i : Nat) (rs : List Value), i ≤ n ∧ g = n - i ∧ u53 = .int .i64 i ∧ RowsM wr w5.heap.size vO rs n i (fun i => rowL c (mulM m (rQ a) (rQ b) i)) ∧ Below w5.heap.size w5 wr)
  case atStart => exact ⟨0, _, Nat.zero_le _, rfl, rfl, RowsM.start HO6.out, HB6.out⟩
  case round =>
    obtain ⟨i, rs, hin, hg, rfl, hR, hbr⟩ := hrel
    obtain ⟨w2, hw2⟩ : ∃ w2, w2 = wr := ⟨_, rfl⟩
    subst hw2
    have HG := Lib.hid hg
    have HR := Lib.hid hR
    have HBR := Lib.hid hbr
    have hBw2 := below_then2 HB5.out hbr HB5.out.size
    have HBW := Lib.hid hBw2
    have hBsz : w5.heap.size ≤ w2.heap.size := hbr.size
    clear hg HO6 HB6 hbr hBw2
    by_cases hil : i < n
    · have hir : i < rs.length := by rw [hR.rl]; exact hil
      have i1 : (0 : Int) ≤ (i : Int) := by omega
      have i2 : (i : Int) < (n : Nat) := by omega
      clear hR
      go_wp2_with (refine hM w2 rfl _ _ rfl w2.heap.size _ c rfl rfl rfl (by omega) (Nat.le_refl _) ?_; intro vI w6 hO6 hb6 hv6
                   obtain ⟨gI, _, rfl, _⟩ := id hO6
                   have slI := hO6.sl
                   have lnI := hO6.len
                   have hR6 := HR.out.below hb6
                   have c6 := hR6.own.cell i hir
                   have f6 := hR6.own.frozen i hir)
      have hPut := hR6.put i hil (Nat.le_refl _) (u := .slice (some ⟨gI, 0, none⟩) c c) (fun z => by simp)
      have hlt2 := HR.out.vblock (by omega)
      have hpO : (ptr vO i).block = (base vO).block := ptr_block _ _
      have hgI : w2.heap.size ≤ gI := hO6.block.1
      have hOS := hO6.overM (p := ptr vO i) (by rw [hpO]; have : (base (.slice (some ⟨gI, 0, none⟩) c c)).block = gI := rfl; omega) (.slice (some ⟨gI, 0, none⟩) c c)
      have HPUT := Lib.hid hPut
      have HOS := Lib.hid hOS
      have hBS := HBR.out.trans ((hb6.mono hBsz).trans hPut.2)
      have HBS := Lib.hid hBS
      have HLOW := Lib.hid (HR.out.low hc1 hgI (.slice (some ⟨gI, 0, none⟩) c c))
      clear hPut hOS hBS hR6 c6 f6 hO6 hb6 hv6
      go_loopg [66] (c) (fun g u66 wr => ∃ (k : Nat), k ≤ c ∧ g = c - k ∧ u66 = .int .i64 k ∧ OwnFr wr 30 w2.heap.size (.slice (some ⟨gI, 0, none⟩) c c) c ∧ (∀ j, j < k → ElemC wr (.slice (some ⟨gI, 0, none⟩) c c) j (mulM m (rQ a) (rQ b) i j)) ∧ RowsM wr w5.heap.size vO (rs.set i (.slice (some ⟨gI, 0, none⟩) c c)) n i (fun i => rowL c (mulM m (rQ a) (rQ b) i)) ∧ Below w5.heap.size w5 wr)
      case atStart => exact ⟨0, Nat.zero_le _, rfl, rfl, HOS.out, fun j h => by omega, HPUT.out.1, HBS.out⟩
      case round =>
        obtain ⟨k, hkc, hg, rfl, ho, he, hR, hbr⟩ := hrel
        obtain ⟨w3, hw3⟩ : ∃ w3, w3 = wr := ⟨_, rfl⟩
        subst hw3
        have HG2 := Lib.hid hg
        have HE := Lib.hid he
        have HO := Lib.hid ho
        have HR2 := Lib.hid hR
        have HBR2 := Lib.hid hbr
        have hBw3 := below_then2 HB5.out hbr HB5.out.size
        have hsz3 : gI < w3.heap.size := ho.block.2
        clear hg he HOS HPUT HBS
        by_cases hkl : k < c
        · obtain ⟨ra, hca, hra⟩ := (HA.out.below hBw3).row i hil
          obtain ⟨ra1, ra2, ra3, rfl, _⟩ := id hra.sl
          have S0 := Lib.hid (And.intro hca hca)
          have HRA := Lib.hid hra
          have HBv := Lib.hid (HB.out.below hBw3)
          have HF1 : Hid (∀ j, j < m → (rX a i j).ok) := Lib.hid (fun j hj => HFA.out i j hil hj)
          have HF2 : Hid (∀ j, j < m → (rX b j k).ok) := Lib.hid (fun j hj => HFB.out j k hj hkl)
          have HP1 : Hid (∀ j, j < m → fits ((rX a i j).q * (rX b j k).q)) := Lib.hid (fun j hj => HP.out i k hil hkl j hj)
          have HS1 : Hid (∀ j, j ≤ m → fits (sg j fun l => (rX a i l).q * (rX b l k).q)) := Lib.hid (fun j hj => HS.out i k hil hkl j hj)
          have j1 : (0 : Int) ≤ (k : Int) := by omega
          have j2 : (k : Int) < (c : Nat) := by omega
          have i1000 : m ≤ 1000 := by omega
          have i1000c : c ≤ 1000 := by omega
          clear ho hR hbr hBw3 hra
          go_wp2_with fail
          go_cut [15, 16] (fun u15 u16 wy => ∃ (b8 : Nat) (t' : Bool) (x' y' : Value), u15 = .pointer (some ⟨b8, 0, none⟩) ∧ u16 = .int .i64 0 ∧ w3.heap.size ≤ b8 ∧ C3 wy b8 (.bool t') x' y' ∧ FracC wy (.agg #[.bool t', x', y']) (mulM m (rQ a) (rQ b) i k) ∧ Below w3.heap.size w3 wy)
          case first =>
            go_region_held3 (fun w' => w'.cell? (ptr va i) = some (.slice ra1 ra2 ra3) ∧ w'.cell? (ptr va i) = some (.slice ra1 ra2 ra3) ∧ Below w3.heap.size w3 w') (first
              | with_reducible exact kp2a S0.out (below_drew _)
              | with_reducible exact kp2w (by assumption) (below_alloc _ _)
              | with_reducible exact kp2w (by assumption) (by assumption)
              | with_reducible exact kp2a S0.out (below_then hB31 (below_alloc _ _))
              | with_reducible exact kp2s S0.out hB31 (Nat.le_refl _) _ _ _
              | with_reducible exact kp2s S0.out hB31 hB30.size _ _ _) (first
              | (go_at_call 49; (with_reducible refine (column_raw vb m c k (rX b) _ (HBv.out.below (kp2c (by assumption))) hkl i1000 i1000c).mono ?_); rintro e30 w30 ⟨v30, rfl, hv30, hb30⟩
                 obtain ⟨v301, v302, v303, rfl, _⟩ := id hv30.sl
                 have hB30 := below_then (kp2c (by assumption)) hb30
                 have hc4 := (fun (p : Addr) hp => hb30.cell (p := p) hp)
                 have hf4 := (fun (p : Addr) hp => hb30.frozen (p := p) hp)
                 have zp := hb30.size
                 (try simp only [sizeA, sizeD] at zp)
                 (try have z0 : w3.heap.size < w30.heap.size := (by omega)))
              | (go_at_call 50; (with_reducible refine (dot_raw _ _ m (rX a i) (fun j => rX b j k) _ (HRA.out.below (kp2c (by assumption))) (hv30.below (by first | exact Below.refl _ _ | exact below_alloc _ _)) i1000 HF1.out HF2.out HP1.out HS1.out).mono ?_); rintro e31 w31 ⟨v31, rfl, hv31, hb31⟩
                 obtain ⟨t31, x31, y31, rfl, ⟨a311, l311, k311, rfl, _⟩, ⟨a312, l312, k312, rfl, _⟩⟩ := hv31.isF
                 have hB31 := below_then (kp2c (by assumption)) hb31
                 have hc5 := (fun (p : Addr) hp => hb31.cell (p := p) hp)
                 have hf5 := (fun (p : Addr) hp => hb31.frozen (p := p) hp)
                 have zq := hb31.size
                 (try simp only [sizeA, sizeD] at zq)
                 (try have z1 : w30.heap.size < w31.heap.size := (by omega))))
            all_goals
              have hE := kp2c (by assumption)
              go_wp2_with fail
              go_meet
              case rel =>
                first
                  | exact ⟨_, _, _, _, rfl, rfl, hB31.size, C3.new w31 _ _ _ _, hv31.below (below_alloc _ _), hE⟩
                  | exact ⟨_, _, _, _, rfl, rfl, hB30.size, ((C3.newB (b := w30.heap.size) w30 30 (.bool false) (.slice none 0 0) (.slice none 0 0) rfl).belowS hb31).set _ _ _, hv31.set3 ((C3.newB (b := w30.heap.size) w30 30 (.bool false) (.slice none 0 0) (.slice none 0 0) rfl).belowS hb31) (fun z => by simp) (fun z => by simp) _ _ _, hE⟩
                  | exact ⟨_, _, _, _, rfl, rfl, Nat.le_refl _, (((C3.newB (b := w3.heap.size) w3.drew 30 (.bool false) (.slice none 0 0) (.slice none 0 0) rfl).belowS hb30).belowS hb31).set _ _ _, hv31.set3 (((C3.newB (b := w3.heap.size) w3.drew 30 (.bool false) (.slice none 0 0) (.slice none 0 0) rfl).belowS hb30).belowS hb31) (fun z => by simp) (fun z => by simp) _ _ _, hE⟩
          case rest =>
            obtain ⟨b8, t6, x6, y6, rfl, rfl, hb8, hC6, hv6, hb6⟩ := hcut
            obtain ⟨w4, hw4⟩ : ∃ w4, w4 = wc := ⟨_, rfl⟩
            subst hw4
            obtain ⟨_, _, _, hF6, ⟨a61, l61, k61, rfl, _⟩, ⟨a62, l62, k62, rfl, _⟩⟩ := id hv6.isF
            injection hF6 with hF6
            injection hF6 with hF6
            simp only [List.cons.injEq, and_true, Value.bool.injEq] at hF6
            obtain ⟨rfl, rfl, rfl⟩ := hF6
            have ho3 := HO.out.below hb6
            have hR3 := HR2.out.below hb6
            have hirs : i < (rs.set i (.slice (some ⟨gI, 0, none⟩) c c)).length := by rw [List.length_set]; exact hir
            have cO := hR3.own.cell i hirs
            rw [List.getElem_set_self] at cO
            have fO := hR3.own.frozen i hirs
            obtain ⟨c0, d0, _⟩ := ho3.cell (k * 3) (by omega)
            obtain ⟨c1, d1, _⟩ := ho3.cell (k * 3 + 1) (by omega)
            obtain ⟨c2, d2, _⟩ := ho3.cell (k * 3 + 2) (by omega)
            have f0 := ho3.frozen (k * 3)
            have f1 := ho3.frozen (k * 3 + 1)
            have f2 := ho3.frozen (k * 3 + 2)
            have n01 := ho3.inj (show k * 3 ≠ k * 3 + 1 by omega)
            have n02 := ho3.inj (show k * 3 ≠ k * 3 + 2 by omega)
            have n12 := ho3.inj (show k * 3 + 1 ≠ k * 3 + 2 by omega)
            have hbI : (base (.slice (some ⟨gI, 0, none⟩) c c)).block = gI := rfl
            have hbO : (base (.slice (some ⟨gI, 0, none⟩) c c)).block ≠ (base vO).block := by rw [hbI]; omega
            have HS3 := Lib.hid (ho3.set3 k (.bool t6) (.slice a61 l61 k61) (.slice a62 l62 k62) (fun z => by simp) (fun z => by simp) (fun z => by simp))
            have HR4 := Lib.hid (hR3.set3 ho3 hbO HLOW.out k hkl (.bool t6) (.slice a61 l61 k61) (.slice a62 l62 k62) (fun z => by simp) (fun z => by simp))
            have HE3 := Lib.hid (fun j hj => (HE.out j hj).below hb6)
            have HO3 := Lib.hid ho3
            have HV6 := Lib.hid hv6
            have HB3 := Lib.hid (below_then2 HBR2.out hb6 HBR2.out.size)
            obtain ⟨_, q1, q2, q3, _, _, _⟩ := hC6
            have hbO2 : (ptr vO i).block ≠ (base (.slice (some ⟨gI, 0, none⟩) c c)).block := by rw [hpO, hbI]; omega
            have hb8I : b8 ≠ (base (.slice (some ⟨gI, 0, none⟩) c c)).block := by rw [hbI]; omega
            have HK18 := Lib.hid (And.intro (set3_cell (w := w4) (k := k * 3) hbO2 (.bool t6) (.slice a61 l61 k61) (.slice a62 l62 k62) cO) (And.intro (set3_cell (w := w4) (k := k * 3) (p := ⟨b8, 0, none⟩) hb8I (.bool t6) (.slice a61 l61 k61) (.slice a62 l62 k62) q1) (And.intro (set3_cell (w := w4) (k := k * 3) (p := ⟨b8, 1, none⟩) hb8I (.bool t6) (.slice a61 l61 k61) (.slice a62 l62 k62) q2) (set3_cell (w := w4) (k := k * 3) (p := ⟨b8, 2, none⟩) hb8I (.bool t6) (.slice a61 l61 k61) (.slice a62 l62 k62) q3))))
            clear hbO hbO2 hb8I ho3 hR3 hv6 hb6 hca
            go_wp2_with fail
            go_region_held3 (fun w' => w'.cell? (ptr vO i) = some (.slice (some ⟨gI, 0, none⟩) c c) ∧ w'.cell? ⟨b8, 0, none⟩ = some (.bool t6) ∧ w'.cell? ⟨b8, 1, none⟩ = some (.slice a61 l61 k61) ∧ w'.cell? ⟨b8, 2, none⟩ = some (.slice a62 l62 k62)) (first
              | exact ⟨cO, q1, q2, q3⟩
              | exact HK18.out) (fail)
            go_wp2_with fail
            go_roundg (c - (k + 1))
            case measure => (have := HG2.out; omega)
            case rel =>
              have hbd := below_drew (B := (((w4.setCell (ptr (.slice (some ⟨gI, 0, none⟩) c c) (k * 3)) (.bool t6)).setCell (ptr (.slice (some ⟨gI, 0, none⟩) c c) (k * 3 + 1)) (.slice a61 l61 k61)).setCell (ptr (.slice (some ⟨gI, 0, none⟩) c c) (k * 3 + 2)) (.slice a62 l62 k62)).heap.size) (((w4.setCell (ptr (.slice (some ⟨gI, 0, none⟩) c c) (k * 3)) (.bool t6)).setCell (ptr (.slice (some ⟨gI, 0, none⟩) c c) (k * 3 + 1)) (.slice a61 l61 k61)).setCell (ptr (.slice (some ⟨gI, 0, none⟩) c c) (k * 3 + 2)) (.slice a62 l62 k62))
              refine ⟨k + 1, by omega, rfl, by go_num, HS3.out.1.below hbd, fun j hj => ElemC.below ?_ hbd, HR4.out.below hbd, below_then2 (HB3.out.trans (HS3.out.2.mono hBsz)) hbd (HB3.out.trans (HS3.out.2.mono hBsz)).size⟩
              rcases Nat.lt_or_ge j k with h6 | h6
              · exact ElemC.set3_other HO3.out hkl (by omega) (HE3.out j h6) _ _ _ (fun z => by simp) (fun z => by simp)
              · obtain rfl : j = k := by omega
                exact ElemC.set3 HO3.out hkl HV6.out
        · obtain rfl : k = c := by omega
          have hirs : i < (rs.set i (.slice (some ⟨gI, 0, none⟩) k k)).length := by rw [List.length_set]; exact hir
          have hbI : (base (.slice (some ⟨gI, 0, none⟩) k k)).block = gI := rfl
          have HD := Lib.hid (hR.done hirs (by rw [List.getElem_set_self]; exact ho.fracs (rowL_length _ _) (fun j hj => by rw [rowL_length] at hj; rw [rowL_get]; exact HE.out j hj)) (by rw [List.getElem_set_self, hbI]; omega))
          clear ho hR
          go_wp2_with fail
          go_roundg (n - (i + 1))
          case measure => (have := HG.out; omega)
          case rel => exact ⟨i + 1, _, by omega, rfl, by go_num, HD.out, HBR2.out⟩
    · obtain rfl : i = n := by omega
      go_wp2_with fail
      go_ret2
      exact ⟨_, rfl, hR.mat, HBW.out⟩
set_option maxRecDepth 100000 in
set_option maxHeartbeats 3200000 in
theorem lmul_any (va vb : Value) (a b : List (List RF)) (w : World) (ha : MatN w va a) (hb : MatN w vb b) : Calls Try.prog 21 #[va, vb] w (RAnsM w (mulAns a b)) := by
  by_cases hok : mulP a b
  · by_cases hw : 3800 < wtsM a + wtsM b
    · have HANS : Hid (mulAns a b = ([], 2)) := Lib.hid (by unfold mulAns; rw [if_pos hok, if_pos hw])
      have HA := Lib.hid ha
      have HB := Lib.hid hb
      have HSA := Lib.hid hok.1
      have HSB := Lib.hid hok.2.1
      have hl1 := wtsM_lim hok.1
      have hl2 := wtsM_lim hok.2.1
      obtain ⟨n, hn⟩ : ∃ n, a.length = n := ⟨_, rfl⟩
      obtain ⟨m, hm⟩ : ∃ n, cols a = n := ⟨_, rfl⟩
      obtain ⟨c, hc⟩ : ∃ n, cols b = n := ⟨_, rfl⟩
      have hbm : b.length = m := by rw [← hm]; exact hok.2.2.symm
      have HN := Lib.hid (And.intro hn (And.intro hm (And.intro hbm hc)))
      obtain ⟨W1, hW1⟩ : ∃ W, wtsM a = W := ⟨_, rfl⟩
      obtain ⟨W2, hW2⟩ : ∃ W, wtsM b = W := ⟨_, rfl⟩
      rw [hW1, hW2] at hw
      rw [hW1] at hl1
      rw [hW2] at hl2
      have HW1 := Lib.hid hW1
      have HW2 := Lib.hid hW2
      have hwi : (3800 : Int) < (W1 : Int) + (W2 : Nat) := by omega
      clear ha hb hok hW1 hW2 hw hn hm hc hbm
      go_enter Try.func21, Try.ntmps21
      go_wp2_with (first
        | (go_at_call 33; first
           | ((with_reducible refine (shape_ok va a n m _ HA.out HSA.out HN.out.1 HN.out.2.1).mono ?_); rintro e1 w1 ⟨rfl, hb1⟩)
           | ((with_reducible refine (shape_ok vb b m c _ (HB.out.below hb1) HSB.out HN.out.2.2.1 HN.out.2.2.2).mono ?_); rintro e2 w2 ⟨rfl, hb2⟩
              have hB2 := below_then hb1 hb2))
        | (go_at_call 34; first
           | ((with_reducible refine (weight_ok va a _ (HA.out.below hB2) HSA.out).mono ?_); rw [HW1.out]; rintro e3 w3 ⟨rfl, hb3⟩
              have hB3 := below_then hB2 hb3)
           | ((with_reducible refine (weight_ok vb b _ (HB.out.below hB3) HSB.out).mono ?_); rw [HW2.out]; rintro e4 w4 ⟨rfl, hb4⟩)))
      go_ret2
      rw [HANS.out]
      exact ⟨_, rfl, MatC.nil _, below_then hB3 hb4⟩
    · refine (mul_valid va vb a b _ _ _ w ha hb hok rfl rfl rfl (by omega)).mono ?_
      rintro e w' ⟨v, rfl, h1, h2⟩
      refine ⟨v, ?_, ?_, h2⟩
      · unfold mulAns; rw [if_pos hok, if_neg hw]; rfl
      · unfold mulAns; rw [if_pos hok, if_neg hw]; exact h1.matC
  · have HANS : Hid (mulAns a b = ([], 1)) := Lib.hid (by unfold mulAns; rw [if_neg hok])
    have HA := Lib.hid ha
    have HB := Lib.hid hb
    by_cases hsa : shapeP a
    · by_cases hsb : shapeP b
      · have hne : cols a ≠ b.length := fun e => hok ⟨hsa, hsb, e⟩
        obtain ⟨n, hn⟩ : ∃ n, a.length = n := ⟨_, rfl⟩
        obtain ⟨m, hm⟩ : ∃ n, cols a = n := ⟨_, rfl⟩
        obtain ⟨k, hk⟩ : ∃ n, b.length = n := ⟨_, rfl⟩
        obtain ⟨c, hc⟩ : ∃ n, cols b = n := ⟨_, rfl⟩
        rw [hm, hk] at hne
        have hne2 : ((m : Int) != (k : Int)) = true := by simp; omega
        have HN := Lib.hid (And.intro hn (And.intro hm (And.intro hk hc)))
        have HSA := Lib.hid hsa
        have HSB := Lib.hid hsb
        clear ha hb hok hsa hsb hne hn hm hk hc
        go_enter Try.func21, Try.ntmps21
        go_wp2_with (first
          | (go_at_call 33; first
             | ((with_reducible refine (shape_ok va a n m _ HA.out HSA.out HN.out.1 HN.out.2.1).mono ?_); rintro e1 w1 ⟨rfl, hb1⟩)
             | ((with_reducible refine (shape_ok vb b k c _ (HB.out.below hb1) HSB.out HN.out.2.2.1 HN.out.2.2.2).mono ?_); rintro e2 w2 ⟨rfl, hb2⟩
                have hB2 := below_then hb1 hb2)))
        go_ret2
        rw [HANS.out]
        exact ⟨_, rfl, MatC.nil _, hB2⟩
      · have HSA := Lib.hid hsa
        have HSB := Lib.hid hsb
        obtain ⟨n, hn⟩ : ∃ n, a.length = n := ⟨_, rfl⟩
        obtain ⟨m, hm⟩ : ∃ n, cols a = n := ⟨_, rfl⟩
        have HN := Lib.hid (And.intro hn hm)
        clear ha hb hok hsa hsb hn hm
        go_enter Try.func21, Try.ntmps21
        go_wp2_with (first
          | (go_at_call 33; first
             | ((with_reducible refine (shape_ok va a n m _ HA.out HSA.out HN.out.1 HN.out.2).mono ?_); rintro e1 w1 ⟨rfl, hb1⟩)
             | ((with_reducible refine (shape_no vb b _ (HB.out.below hb1) HSB.out).mono ?_); rintro e2 w2 ⟨rfl, hb2⟩
                have hB2 := below_then hb1 hb2)))
        go_ret2
        rw [HANS.out]
        exact ⟨_, rfl, MatC.nil _, hB2⟩
    · have HSA := Lib.hid hsa
      have hbs : ∃ p q t, ∀ w0, MatN w0 vb b → Calls Try.prog 33 #[vb] w0 fun e w' => e = .returned (.tuple #[.int .i64 (p : Nat), .int .i64 (q : Nat), .bool t]) ∧ Below w0.heap.size w0 w' := by
        by_cases hsb : shapeP b
        · exact ⟨_, _, true, fun w0 h => shape_ok vb b _ _ w0 h hsb rfl rfl⟩
        · exact ⟨0, 0, false, fun w0 h => shape_no vb b w0 h hsb⟩
      obtain ⟨p, q, t, hsh⟩ := hbs
      clear ha hb hok hsa
      go_enter Try.func21, Try.ntmps21
      go_wp2_with (first
        | (go_at_call 33; first
           | ((with_reducible refine (shape_no va a _ HA.out HSA.out).mono ?_); rintro e1 w1 ⟨rfl, hb1⟩)
           | ((with_reducible refine (hsh _ (HB.out.below hb1)).mono ?_); rintro e2 w2 ⟨rfl, hb2⟩
              have hB2 := below_then hb1 hb2)))
      go_ret2
      rw [HANS.out]
      exact ⟨_, rfl, MatC.nil _, hB2⟩
end Go.Proofs.Ytbhkibilnmoljaa
namespace Go.Proofs.Ytbhkibilnmoljaa
set_option linter.unusedVariables false
set_option linter.unusedSimpArgs false
open Go.RowKit

theorem kc2 {X Y : World} {a1 a2 : Addr} {x1 x2 : Value} (h : X.cell? a1 = some x1 ∧ X.cell? a2 = some x2) (hb : Below X.heap.size X Y) : Y.cell? a1 = some x1 ∧ Y.cell? a2 = some x2 := ⟨cell_below hb h.1, cell_below hb h.2⟩
set_option maxRecDepth 100000 in
set_option maxHeartbeats 3200000 in
theorem ident_lin (n : Nat) (w : World) (hn1 : 1 ≤ n) (hn : n ≤ 24) :
    Calls Try.prog 29 #[.int .i64 n] w fun e w' => ∃ v, e = .returned (.tuple #[v, .int .i64 0]) ∧ MatF w' v n n oneM ∧ Below w.heap.size w w' := by
  obtain ⟨i0, hi, hz0, hz1, hz2⟩ := info_parts Try.infoF
  have hM := make_fr (P := Try.prog) 26 30 i0 Try.underlying26 hi hz0 hz1 (by rw [hz2]; decide)
  clear hi hz0 hz1 hz2
  obtain ⟨i4, hi4, hz4, hs4, hy4⟩ := info_parts Try.infoRow
  have hMR := make_rows (P := Try.prog) 24 26 i4 Try.underlying24 hi4 hz4 hs4 hy4
  clear hi4 hz4 hs4 hy4
  go_enter Try.func29, Try.ntmps29
  go_wp2_with (refine hMR w rfl _ _ rfl w.heap.size _ n rfl rfl rfl (by omega) (Nat.le_refl _) ?_; intro vO w6 hO6 hb6
               have HO6 := Lib.hid hO6
               have HB6 := Lib.hid hb6
               have slO := hO6.sl
               have lnO := hO6.len
               clear hO6 hb6)
  clear hMR
  go_loopg [17] (n) (fun g u17 wr => ∃ (i : Nat) (rs : List Value), i ≤ n ∧ g = n - i ∧ u17 = .int .i64 i ∧ RowsM wr w.heap.size vO rs n i (fun i => rowL n (oneM i)) ∧ Below w.heap.size w wr)
  case atStart => exact ⟨0, _, Nat.zero_le _, rfl, rfl, RowsM.start HO6.out, HB6.out⟩
  case round =>
    obtain ⟨i, rs, hin, hg, rfl, hR, hbr⟩ := hrel
    obtain ⟨w2, hw2⟩ : ∃ w2, w2 = wr := ⟨_, rfl⟩
    subst hw2
    have HG := Lib.hid hg
    have HR := Lib.hid hR
    have HBR := Lib.hid hbr
    have hBsz : w.heap.size ≤ w2.heap.size := hbr.size
    clear hg HO6 HB6 hbr
    by_cases hil : i < n
    · have hir : i < rs.length := by rw [hR.rl]; exact hil
      have i1 : (0 : Int) ≤ (i : Int) := by omega
      have i2 : (i : Int) < (n : Nat) := by omega
      clear hR
      go_wp2_with (refine hM w2 rfl _ _ rfl w2.heap.size _ n rfl rfl rfl (by omega) (Nat.le_refl _) ?_; intro vI w6 hO6 hb6 hv6
                   obtain ⟨gI, _, rfl, _⟩ := id hO6
                   have slI := hO6.sl
                   have lnI := hO6.len
                   have hR6 := HR.out.below hb6
                   have c6 := hR6.own.cell i hir
                   have f6 := hR6.own.frozen i hir)
      have hPut := hR6.put i hil (Nat.le_refl _) (u := .slice (some ⟨gI, 0, none⟩) n n) (fun z => by simp)
      have hlt2 := HR.out.vblock (by omega)
      have hpO : (ptr vO i).block = (base vO).block := ptr_block _ _
      have hgI : w2.heap.size ≤ gI := hO6.block.1
      have hOS := hO6.overM (p := ptr vO i) (by rw [hpO]; have : (base (.slice (some ⟨gI, 0, none⟩) n n)).block = gI := rfl; omega) (.slice (some ⟨gI, 0, none⟩) n n)
      have HPUT := Lib.hid hPut
      have HOS := Lib.hid hOS
      have hBS := HBR.out.trans ((hb6.mono hBsz).trans hPut.2)
      have HBS := Lib.hid hBS
      have HLOW := Lib.hid (HR.out.low hn1 hgI (.slice (some ⟨gI, 0, none⟩) n n))
      clear hPut hOS hBS hR6 c6 f6 hO6 hb6 hv6
      go_loopg [30] (n) (fun g u30 wr => ∃ (k : Nat), k ≤ n ∧ g = n - k ∧ u30 = .int .i64 k ∧ OwnFr wr 30 w2.heap.size (.slice (some ⟨gI, 0, none⟩) n n) n ∧ (∀ j, j < k → ElemC wr (.slice (some ⟨gI, 0, none⟩) n n) j 0) ∧ RowsM wr w.heap.size vO (rs.set i (.slice (some ⟨gI, 0, none⟩) n n)) n i (fun i => rowL n (oneM i)) ∧ Below w.heap.size w wr)
      case atStart => exact ⟨0, Nat.zero_le _, rfl, rfl, HOS.out, fun j h => by omega, HPUT.out.1, HBS.out⟩
      case round =>
        obtain ⟨k, hkc, hg, rfl, ho, he, hR, hbr⟩ := hrel
        obtain ⟨w3, hw3⟩ : ∃ w3, w3 = wr := ⟨_, rfl⟩
        subst hw3
        have HG2 := Lib.hid hg
        have HE := Lib.hid he
        have HO := Lib.hid ho
        have HR2 := Lib.hid hR
        have HBR2 := Lib.hid hbr
        have hsz3 : gI < w3.heap.size := ho.block.2
        have hirs : i < (rs.set i (.slice (some ⟨gI, 0, none⟩) n n)).length := by rw [List.length_set]; exact hir
        have cO := hR.own.cell i hirs
        rw [List.getElem_set_self] at cO
        have hbI : (base (.slice (some ⟨gI, 0, none⟩) n n)).block = gI := rfl
        have hbO : (base (.slice (some ⟨gI, 0, none⟩) n n)).block ≠ (base vO).block := by rw [hbI]; omega
        have hbO2 : (ptr vO i).block ≠ (base (.slice (some ⟨gI, 0, none⟩) n n)).block := by rw [hpO, hbI]; omega
        clear hg he HOS HPUT HBS ho hR hbr
        by_cases hkl : k < n
        · have hatn := hkl
          have j1 : (0 : Int) ≤ (k : Int) := by omega
          have j2 : (k : Int) < (n : Nat) := by omega
          go_wp2_with fail
          go_region_held3 (fun w' => w'.cell? (ptr vO i) = some (.slice (some ⟨gI, 0, none⟩) n n) ∧ w'.cell? (ptr vO i) = some (.slice (some ⟨gI, 0, none⟩) n n)) (first
            | exact ⟨cO, cO⟩
            | with_reducible exact kc2 (by assumption) (by assumption)
            | with_reducible exact HK18.out
            | exact HK18.out) (first
            | (go_at_call 45; (with_reducible refine (lnumber_zero _).mono ?_); rintro e31 w31 ⟨v31, rfl, hv31, hb31⟩
               obtain ⟨t6, x31, y31, rfl, ⟨a61, l61, k61, rfl, _⟩, ⟨a62, l62, k62, rfl, _⟩⟩ := hv31.isF
               have hb6 : Below w3.heap.size w3 w31 := (by first | exact below_then (below_drew _) hb31 | exact hb31)
               have ho3 := HO.out.below hb6
               have hR3 := HR2.out.below hb6
               have cO1 := hR3.own.cell i hirs
               rw [List.getElem_set_self] at cO1
               obtain ⟨c0, d0, _⟩ := ho3.cell (k * 3) (by omega)
               obtain ⟨c1, d1, _⟩ := ho3.cell (k * 3 + 1) (by omega)
               obtain ⟨c2, d2, _⟩ := ho3.cell (k * 3 + 2) (by omega)
               have f0 := ho3.frozen (k * 3)
               have f1 := ho3.frozen (k * 3 + 1)
               have f2 := ho3.frozen (k * 3 + 2)
               have n01 := ho3.inj (show k * 3 ≠ k * 3 + 1 by omega)
               have n02 := ho3.inj (show k * 3 ≠ k * 3 + 2 by omega)
               have n12 := ho3.inj (show k * 3 + 1 ≠ k * 3 + 2 by omega)
               have HS3 := Lib.hid (ho3.set3 k (.bool t6) (.slice a61 l61 k61) (.slice a62 l62 k62) (fun z => by simp) (fun z => by simp) (fun z => by simp))
               have HR4 := Lib.hid (hR3.set3 ho3 hbO HLOW.out k hatn (.bool t6) (.slice a61 l61 k61) (.slice a62 l62 k62) (fun z => by simp) (fun z => by simp))
               have HE3 := Lib.hid (fun j hj => (HE.out j hj).below hb6)
               have HO3 := Lib.hid ho3
               have HV6 := Lib.hid hv31
               have HB3 := Lib.hid (below_then2 HBR2.out hb6 HBR2.out.size)
               have HK18 := Lib.hid (And.intro (set3_cell (w := w31) (k := k * 3) hbO2 (.bool t6) (.slice a61 l61 k61) (.slice a62 l62 k62) cO1) (set3_cell (w := w31) (k := k * 3) hbO2 (.bool t6) (.slice a61 l61 k61) (.slice a62 l62 k62) cO1))
               clear ho3 hR3)
            )
          go_wp2_with fail
          go_roundg (n - (k + 1))
          case measure => (have := HG2.out; omega)
          case rel =>
            refine ⟨k + 1, by omega, rfl, by go_num, HS3.out.1, fun j hj => ?_, HR4.out, HB3.out.trans (HS3.out.2.mono hBsz)⟩
            rcases Nat.lt_or_ge j k with h6 | h6
            · exact ElemC.set3_other HO3.out hkl (by omega) (HE3.out j h6) _ _ _ (fun z => by simp) (fun z => by simp)
            · obtain rfl : j = k := by omega
              exact ElemC.set3 HO3.out hkl HV6.out
        · obtain rfl : k = n := by omega
          have hatn := hil
          go_wp2_with fail
          go_region_held3 (fun w' => w'.cell? (ptr vO i) = some (.slice (some ⟨gI, 0, none⟩) k k) ∧ w'.cell? (ptr vO i) = some (.slice (some ⟨gI, 0, none⟩) k k)) (first
            | exact ⟨cO, cO⟩
            | with_reducible exact kc2 (by assumption) (by assumption)
            | with_reducible exact HK18.out
            | exact HK18.out) (first
            | (go_at_call 45; (with_reducible refine (lnumber_one _).mono ?_); rintro e31 w31 ⟨v31, rfl, hv31, hb31⟩
               obtain ⟨t6, x31, y31, rfl, ⟨a61, l61, k61, rfl, _⟩, ⟨a62, l62, k62, rfl, _⟩⟩ := hv31.isF
               have hb6 : Below w3.heap.size w3 w31 := (by first | exact below_then (below_drew _) hb31 | exact hb31)
               have ho3 := HO.out.below hb6
               have hR3 := HR2.out.below hb6
               have cO1 := hR3.own.cell i hirs
               rw [List.getElem_set_self] at cO1
               obtain ⟨c0, d0, _⟩ := ho3.cell (i * 3) (by omega)
               obtain ⟨c1, d1, _⟩ := ho3.cell (i * 3 + 1) (by omega)
               obtain ⟨c2, d2, _⟩ := ho3.cell (i * 3 + 2) (by omega)
               have f0 := ho3.frozen (i * 3)
               have f1 := ho3.frozen (i * 3 + 1)
               have f2 := ho3.frozen (i * 3 + 2)
               have n01 := ho3.inj (show i * 3 ≠ i * 3 + 1 by omega)
               have n02 := ho3.inj (show i * 3 ≠ i * 3 + 2 by omega)
               have n12 := ho3.inj (show i * 3 + 1 ≠ i * 3 + 2 by omega)
               have HS3 := Lib.hid (ho3.set3 i (.bool t6) (.slice a61 l61 k61) (.slice a62 l62 k62) (fun z => by simp) (fun z => by simp) (fun z => by simp))
               have HR4 := Lib.hid (hR3.set3 ho3 hbO HLOW.out i hatn (.bool t6) (.slice a61 l61 k61) (.slice a62 l62 k62) (fun z => by simp) (fun z => by simp))
               have HE3 := Lib.hid (fun j hj => (HE.out j hj).below hb6)
               have HO3 := Lib.hid ho3
               have HV6 := Lib.hid hv31
               have HB3 := Lib.hid (below_then2 HBR2.out hb6 HBR2.out.size)
               have HK18 := Lib.hid (And.intro (set3_cell (w := w31) (k := i * 3) hbO2 (.bool t6) (.slice a61 l61 k61) (.slice a62 l62 k62) cO1) (set3_cell (w := w31) (k := i * 3) hbO2 (.bool t6) (.slice a61 l61 k61) (.slice a62 l62 k62) cO1))
               clear ho3 hR3)
            )
          go_wp2_with fail
          go_roundg (k - (i + 1))
          case measure => (have := HG.out; omega)
          case rel =>
            refine ⟨i + 1, _, by omega, rfl, by go_num, HR4.out.done hirs ?_ (by rw [List.getElem_set_self]; exact hbO), HB3.out.trans (HS3.out.2.mono hBsz)⟩
            rw [List.getElem_set_self]
            refine HS3.out.1.fracs (rowL_length _ _) (fun j hj => ?_)
            rw [rowL_length] at hj
            rw [rowL_get]
            unfold oneM
            by_cases h6 : i = j
            · subst h6
              rw [if_pos rfl]
              exact ElemC.set3 HO3.out hil HV6.out
            · rw [if_neg h6]
              exact ElemC.set3_other HO3.out hil h6 (HE3.out j hj) _ _ _ (fun z => by simp) (fun z => by simp)
    · obtain rfl : i = n := by omega
      go_wp2_with fail
      go_ret2
      exact ⟨_, rfl, hR.mat, HBR.out⟩
end Go.Proofs.Ytbhkibilnmoljaa
namespace Go.Proofs.Ytbhkibilnmoljaa
set_option linter.unusedVariables false
set_option linter.unusedSimpArgs false
open Go.RowKit

set_option maxRecDepth 100000 in
set_option maxHeartbeats 3200000 in
theorem apply_valid (va vb : Value) (a : List (List RF)) (l : List RF) (n m : Nat) (w : World) (hna : MatN w va a) (hnb : FracsN w vb l) (hok : appP a l) (hn' : a.length = n) (hm' : cols a = m) (hw : wtsM a + wts (qs l) ≤ 3800) :
    Calls Try.prog 19 #[va, vb] w fun e w' => ∃ v, e = .returned (.tuple #[v, .int .i64 0]) ∧ FracsC w' v (rowL n fun i => sg m fun j => rQ a i j * (l.getD j rf0).q) ∧ Below w.heap.size w w' := by
  have hn1 : 1 ≤ n := by rw [← hn']; exact hok.1.1
  have hn : n ≤ 24 := by rw [← hn']; exact hok.1.2.1
  have hm1 : 1 ≤ m := by rw [← hm']; exact hok.1.2.2.1
  have hm : m ≤ 24 := by rw [← hm']; exact hok.1.2.2.2.1
  have hlm : l.length = m := by rw [← hm']; exact hok.2.2
  have hvec : vecP l m := by rw [← hm']; exact hok.2
  have ha : MatR w va n m (rX a) := by
    have h := hna.toR hok.1.cols
    rw [hn', hm'] at h; exact h
  have hb : FracsN w vb (rowF m fun j => l.getD j rf0) := by
    have e := rowF_of l
    rw [hlm] at e
    rw [e]; exact hnb
  have hfA : ∀ i j, i < n → j < m → (rX a i j).ok := fun i j hi hj => hok.1.ok (by omega) (by omega)
  have hfb : ∀ j, j < m → (l.getD j rf0).ok := fun j hj => by
    have hj2 : j < l.length := by omega
    have e2 : l.getD j rf0 = l[j] := by simp [List.getD, List.getElem?_eq_getElem hj2]
    rw [e2]; exact hvec.1 _ (List.getElem_mem hj2)
  have hp : ∀ i k, i < n → k < m → fits ((rX a i k).q * (l.getD k rf0).q) := fun i k hi hk => (hok.fits hw (i := i) (by omega)).1 k (by omega)
  have hs : ∀ i k, i < n → k ≤ m → fits (sg k fun j => (rX a i j).q * (l.getD j rf0).q) := fun i k hi hk => (hok.fits hw (i := i) (by omega)).2 k (by omega)
  have HNA := Lib.hid hna
  have HNB := Lib.hid hnb
  have HSA := Lib.hid (And.intro hok.1 (And.intro hn' hm'))
  obtain ⟨i0, hi, hz0, hz1, hz2⟩ := info_parts Try.infoF
  have hM := make_fr (P := Try.prog) 26 30 i0 Try.underlying26 hi hz0 hz1 (by rw [hz2]; decide)
  clear hi hz0 hz1 hz2
  have HV := Lib.hid hvec
  have HF := Lib.hid hfA
  have HFB := Lib.hid hfb
  have HP := Lib.hid hp
  have HS := Lib.hid hs
  have hwi : (wtsM a : Int) + (wts (qs l) : Nat) ≤ 3800 := by omega
  obtain ⟨W1, hW1⟩ : ∃ W, wtsM a = W := ⟨_, rfl⟩
  obtain ⟨W2, hW2⟩ : ∃ W, wts (qs l) = W := ⟨_, rfl⟩
  rw [hW1, hW2] at hwi
  have HW1 := Lib.hid hW1
  have HW2 : Hid (wtsM [l] = W2) := Lib.hid (by rw [wtsM_one]; exact hW2)
  have HRB : Hid (FracsN w vb l) := Lib.hid hnb
  obtain ⟨vb1, vb2, vb3, rfl, _⟩ := id hb.sl
  have sa := ha.sl
  have la := ha.len
  have sb := hb.sl
  have lb : slen (.slice vb1 vb2 vb3) = m := by rw [hb.len, rowF_length]
  have hvb2 : vb2 = m := lb
  subst hvb2
  have HA := Lib.hid ha
  have HB := Lib.hid hb
  have i65 : vb2 ≤ 65536 := by omega
  have i1000 : vb2 ≤ 1000 := by omega
  have HO1 : Hid (∀ y ∈ [l], ∀ x ∈ y, x.ok) := Lib.hid (fun y hy x hx => by
    have : y = l := by simpa using hy
    subst this; exact hvec.1 x hx)
  have HO2 : Hid (∀ y ∈ [l], y.length ≤ 65536) := Lib.hid (fun y hy => by
    have : y = l := by simpa using hy
    subst this; omega)
  have HO3 : Hid ([l].length ≤ 65536) := Lib.hid (by simp)
  clear hW1 hW2 ha hb hfA hfb hp hs hw hvec lb hna hnb hok hn' hm' hlm
  go_enter Try.func19, Try.ntmps19
  go_wp2_with (first
    | (go_at_call 33; (with_reducible refine (shape_ok va a n vb2 _ HNA.out HSA.out.1 HSA.out.2.1 HSA.out.2.2).mono ?_); rintro e1 w1 ⟨rfl, hb1⟩)
    | (go_at_call 47; (with_reducible refine (lvector_any _ (l) vb2 _ (HRB.out.below hb1) i65).mono ?_); rw [decide_eq_true HV.out]; rintro e2 w2 ⟨rfl, hb2⟩
       have hB2 := below_then hb1 hb2)
    | (go_at_call 34; first
       | ((with_reducible refine (weight_ok va a _ (HNA.out.below hB2) HSA.out.1).mono ?_); rw [HW1.out]; rintro e3 w3 ⟨rfl, hb3⟩
          have hB3 := below_then hB2 hb3
          have hb4 := below_alloc w3 (.cells #[.slice vb1 vb2 vb3] 26)
          have hM4 := mat_one (VarB.new w3 #[.slice vb1 vb2 vb3] 26) (HRB.out.below (below_then hB3 hb4)))
       | ((with_reducible refine (lweight_any _ [l] _ hM4 HO1.out HO2.out HO3.out).mono ?_); rw [HW2.out]; rintro e5 w5 ⟨rfl, hb5⟩
          have hB5 := below_then (below_then hB3 hb4) hb5
          clear hM4))
    | (refine hM w5 rfl _ _ rfl w5.heap.size _ n rfl rfl rfl (by omega) (Nat.le_refl _) ?_; intro vL w6 hO6 hb6 hv6
       have HO6 := Lib.hid hO6
       have HB6 := Lib.hid hb6
       have HB5 := Lib.hid hB5
       have slL := hO6.sl
       have lnL := hO6.len
       clear hO6 hb6 hB5 hb5 hb4 hB3 hb3 hB2 hb2 hb1))
  clear hM
  go_loopg [41] (n) (fun g u41 wr => ∃ (i : Nat), i ≤ n ∧ g = n - i ∧ u41 = .int .i64 i ∧ OwnFr wr 30 w5.heap.size vL n ∧ (∀ j, j < i → ElemC wr vL j (sg vb2 fun k => rQ a j k * (l.getD k rf0).q)) ∧ Below w5.heap.size w5 wr)
  case atStart => exact ⟨0, Nat.zero_le _, rfl, rfl, HO6.out, fun j h => by omega, HB6.out⟩
  case round =>
    obtain ⟨i, hin, hg, rfl, ho, he, hbr⟩ := hrel
    obtain ⟨w2, hw2⟩ : ∃ w2, w2 = wr := ⟨_, rfl⟩
    subst hw2
    have HG := Lib.hid hg
    have HE := Lib.hid he
    have HO := Lib.hid ho
    have HBR := Lib.hid hbr
    have hBw2 := below_then2 HB5.out hbr HB5.out.size
    clear he hg HO6 HB6
    by_cases hil : i < n
    · obtain ⟨ri, hc1, hr1⟩ := (HA.out.below hBw2).row i hil
      obtain ⟨ri1, ri2, ri3, rfl, _⟩ := id hr1.sl
      have S0 := Lib.hid (And.intro hc1 hc1)
      have HR1 := Lib.hid hr1
      have HBv := Lib.hid (HB.out.below hBw2)
      have HF1 : Hid (∀ k, k < vb2 → (rX a i k).ok) := Lib.hid (fun k hk => HF.out i k hil hk)
      have HP1 : Hid (∀ k, k < vb2 → fits ((rX a i k).q * (l.getD k rf0).q)) := Lib.hid (fun k hk => HP.out i k hil hk)
      have HS1 : Hid (∀ k, k ≤ vb2 → fits (sg k fun j => (rX a i j).q * (l.getD j rf0).q)) := Lib.hid (fun k hk => HS.out i k hil hk)
      have i1 : (0 : Int) ≤ (i : Int) := by omega
      have i2 : (i : Int) < (n : Nat) := by omega
      clear ho hbr hBw2 hr1
      go_wp2_with (go_at_call 50; (with_reducible refine (dot_raw _ _ vb2 (rX a i) (fun j => l.getD j rf0) _ HR1.out HBv.out i1000 HF1.out HFB.out HP1.out HS1.out).mono ?_); rintro e31 w31 ⟨v31, rfl, hv31, hb31⟩
                   obtain ⟨t6, x31, y31, rfl, ⟨a61, l61, k61, rfl, _⟩, ⟨a62, l62, k62, rfl, _⟩⟩ := hv31.isF
                   have hb6 := below_then hb31 (below_alloc w31 (.cells #[.bool t6, .slice a61 l61 k61, .slice a62 l62 k62] 30))
                   have hv6 := hv31.below (below_alloc w31 (.cells #[.bool t6, .slice a61 l61 k61, .slice a62 l62 k62] 30))
                   have ho3 := HO.out.below hb6
                   obtain ⟨c0, d0, _⟩ := ho3.cell (i * 3) (by omega)
                   obtain ⟨c1, d1, _⟩ := ho3.cell (i * 3 + 1) (by omega)
                   obtain ⟨c2, d2, _⟩ := ho3.cell (i * 3 + 2) (by omega)
                   have f0 := ho3.frozen (i * 3)
                   have f1 := ho3.frozen (i * 3 + 1)
                   have f2 := ho3.frozen (i * 3 + 2)
                   have n01 := ho3.inj (show i * 3 ≠ i * 3 + 1 by omega)
                   have n02 := ho3.inj (show i * 3 ≠ i * 3 + 2 by omega)
                   have n12 := ho3.inj (show i * 3 + 1 ≠ i * 3 + 2 by omega)
                   have HS3 := Lib.hid (ho3.set3 i (.bool t6) (.slice a61 l61 k61) (.slice a62 l62 k62) (fun z => by simp) (fun z => by simp) (fun z => by simp))
                   have HE3 := Lib.hid (fun j hj => (HE.out j hj).below hb6)
                   have HO3 := Lib.hid ho3
                   have HV6 := Lib.hid hv6
                   have HB3 := Lib.hid (below_then2 HBR.out hb6 HBR.out.size)
                   clear ho3 hv6 hb6 hc1 hv31 hb31)
      go_roundg (n - (i + 1))
      case measure => (have := HG.out; omega)
      case rel =>
        refine ⟨i + 1, by omega, rfl, by go_num, HS3.out.1, fun j hj => ?_, HB3.out.trans HS3.out.2⟩
        rcases Nat.lt_or_ge j i with h6 | h6
        · exact ElemC.set3_other HO3.out hil (by omega) (HE3.out j h6) _ _ _ (fun z => by simp) (fun z => by simp)
        · obtain rfl : j = i := by omega
          exact ElemC.set3 HO3.out hil HV6.out
    · obtain rfl : i = n := by omega
      go_wp2_with fail
      go_ret2
      exact ⟨_, rfl, HO.out.fracs (rowL_length _ _) (fun j hj => by rw [rowL_length] at hj; rw [rowL_get]; exact HE.out j hj), hBw2⟩
set_option maxRecDepth 100000 in
set_option maxHeartbeats 3200000 in
theorem lapply_any (va vb : Value) (a : List (List RF)) (l : List RF) (w : World) (ha : MatN w va a) (hb : FracsN w vb l) (hl : l.length ≤ 65536) : Calls Try.prog 19 #[va, vb] w (RAnsV w (appAns a l)) := by
  by_cases hok : appP a l
  · by_cases hw : 3800 < wtsM a + wts (qs l)
    · have HANS : Hid (appAns a l = ([], 2)) := Lib.hid (by unfold appAns; rw [if_pos hok, if_pos hw])
      have HA := Lib.hid ha
      have HB := Lib.hid hb
      have HSA := Lib.hid hok.1
      have hl1 := wtsM_lim hok.1
      have hl2 := wts_le l hok.2.1
      obtain ⟨n, hn⟩ : ∃ n, a.length = n := ⟨_, rfl⟩
      obtain ⟨m, hm⟩ : ∃ n, cols a = n := ⟨_, rfl⟩
      have hvec : vecP l m := by rw [← hm]; exact hok.2
      have HV := Lib.hid hvec
      have HN := Lib.hid (And.intro hn hm)
      have hm24 : m ≤ 65536 := by rw [← hm]; have := hok.1.2.2.2.1; unfold cols; omega
      obtain ⟨W1, hW1⟩ : ∃ W, wtsM a = W := ⟨_, rfl⟩
      obtain ⟨W2, hW2⟩ : ∃ W, wts (qs l) = W := ⟨_, rfl⟩
      rw [hW1, hW2] at hw
      rw [hW1] at hl1
      rw [hW2] at hl2
      have hl3 : W2 ≤ 8192 * 65536 := Nat.le_trans hl2 (Nat.mul_le_mul_left _ hl)
      have HW1 := Lib.hid hW1
      have HW2 : Hid (wtsM [l] = W2) := Lib.hid (by rw [wtsM_one]; exact hW2)
      have hwi : (3800 : Int) < (W1 : Int) + (W2 : Nat) := by omega
      obtain ⟨vb1, vb2, vb3, rfl, _⟩ := id hb.sl
      have HO1 : Hid (∀ y ∈ [l], ∀ x ∈ y, x.ok) := Lib.hid (fun y hy x hx => by
        have : y = l := by simpa using hy
        subst this; exact hvec.1 x hx)
      have HO2 : Hid (∀ y ∈ [l], y.length ≤ 65536) := Lib.hid (fun y hy => by
        have : y = l := by simpa using hy
        subst this; omega)
      have HO3 : Hid ([l].length ≤ 65536) := Lib.hid (by simp)
      clear ha hb hok hW1 hW2 hw hn hm hvec hl2
      go_enter Try.func19, Try.ntmps19
      go_wp2_with (first
        | (go_at_call 33; (with_reducible refine (shape_ok va a n m _ HA.out HSA.out HN.out.1 HN.out.2).mono ?_); rintro e1 w1 ⟨rfl, hb1⟩)
        | (go_at_call 47; (with_reducible refine (lvector_any _ l m _ (HB.out.below hb1) hm24).mono ?_); rw [decide_eq_true HV.out]; rintro e2 w2 ⟨rfl, hb2⟩
           have hB2 := below_then hb1 hb2)
        | (go_at_call 34; first
           | ((with_reducible refine (weight_ok va a _ (HA.out.below hB2) HSA.out).mono ?_); rw [HW1.out]; rintro e3 w3 ⟨rfl, hb3⟩
              have hB3 := below_then hB2 hb3
              have hb4 := below_alloc w3 (.cells #[.slice vb1 vb2 vb3] 26)
              have hM4 := mat_one (VarB.new w3 #[.slice vb1 vb2 vb3] 26) (HB.out.below (below_then hB3 hb4)))
           | ((with_reducible refine (lweight_any _ [l] _ hM4 HO1.out HO2.out HO3.out).mono ?_); rw [HW2.out]; rintro e5 w5 ⟨rfl, hb5⟩
              have hB5 := below_then (below_then hB3 hb4) hb5
              clear hM4)))
      go_ret2
      rw [HANS.out]
      exact ⟨_, rfl, FracsC.nil _, hB5⟩
    · refine (apply_valid va vb a l _ _ w ha hb hok rfl rfl (by omega)).mono ?_
      rintro e w' ⟨v, rfl, h1, h2⟩
      refine ⟨v, ?_, ?_, h2⟩
      · unfold appAns; rw [if_pos hok, if_neg hw]; rfl
      · unfold appAns; rw [if_pos hok, if_neg hw]; exact h1
  · have HANS : Hid (appAns a l = ([], 1)) := Lib.hid (by unfold appAns; rw [if_neg hok])
    have HA := Lib.hid ha
    have HB := Lib.hid hb
    have sb := hb.sl
    by_cases hsa : shapeP a
    · have hnv : ¬ vecP l (cols a) := fun e => hok ⟨hsa, e⟩
      obtain ⟨n, hn⟩ : ∃ n, a.length = n := ⟨_, rfl⟩
      have hm24 : cols a ≤ 65536 := by have := hsa.2.2.2.1; unfold cols; omega
      obtain ⟨m, hm⟩ : ∃ n, cols a = n := ⟨_, rfl⟩
      rw [hm] at hnv hm24
      have HV := Lib.hid hnv
      have HN := Lib.hid (And.intro hn hm)
      have HSA := Lib.hid hsa
      clear ha hb hok hsa hnv hn hm
      go_enter Try.func19, Try.ntmps19
      go_wp2_with (first
        | (go_at_call 33; (with_reducible refine (shape_ok va a n m _ HA.out HSA.out HN.out.1 HN.out.2).mono ?_); rintro e1 w1 ⟨rfl, hb1⟩)
        | (go_at_call 47; (with_reducible refine (lvector_any _ l m _ (HB.out.below hb1) hm24).mono ?_); rw [decide_eq_false HV.out]; rintro e2 w2 ⟨rfl, hb2⟩
           have hB2 := below_then hb1 hb2))
      go_ret2
      rw [HANS.out]
      exact ⟨_, rfl, FracsC.nil _, hB2⟩
    · have HSA := Lib.hid hsa
      clear ha hb hok hsa
      go_enter Try.func19, Try.ntmps19
      go_wp2_with (go_at_call 33; (with_reducible refine (shape_no va a _ HA.out HSA.out).mono ?_); rintro e1 w1 ⟨rfl, hb1⟩)
      go_ret2
      rw [HANS.out]
      exact ⟨_, rfl, FracsC.nil _, hb1⟩
set_option maxHeartbeats 800000 in
theorem lident_any (n : Int) (w : World) : Calls Try.prog 29 #[.int .i64 n] w (RAnsM w (oneAns n)) := by
  by_cases h1 : n < 1
  · have HANS : Hid (oneAns n = ([], 1)) := Lib.hid (by unfold oneAns; rw [if_pos (Or.inl h1)])
    go_enter Try.func29, Try.ntmps29
    go_wp2_with fail
    go_ret2
    rw [HANS.out]
    exact ⟨_, rfl, MatC.nil _, Below.refl _ _⟩
  · by_cases h2 : 24 < n
    · have HANS : Hid (oneAns n = ([], 1)) := Lib.hid (by unfold oneAns; rw [if_pos (Or.inr h2)])
      go_enter Try.func29, Try.ntmps29
      go_wp2_with fail
      go_ret2
      rw [HANS.out]
      exact ⟨_, rfl, MatC.nil _, Below.refl _ _⟩
    · obtain ⟨k, rfl⟩ : ∃ k : Nat, n = k := ⟨n.toNat, by omega⟩
      refine (ident_lin k w (by omega) (by omega)).mono ?_
      rintro e w' ⟨v, rfl, h3, h4⟩
      have hc : ¬ (((k : Nat) : Int) < 1 ∨ 24 < ((k : Nat) : Int)) := by omega
      refine ⟨v, ?_, ?_, h4⟩
      · unfold oneAns; rw [if_neg hc]; rfl
      · unfold oneAns; rw [if_neg hc]; exact h3.matC
end Go.Proofs.Ytbhkibilnmoljaa
