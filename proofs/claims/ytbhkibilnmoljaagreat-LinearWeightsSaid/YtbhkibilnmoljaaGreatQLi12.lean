/-
  package linear: column, Solve.
-/
import Derived.Test.YtbhkibilnmoljaaGreatQLi11
namespace Go.Proofs.YtbhkibilnmoljaaGreat
set_option linter.unusedVariables false
set_option linter.unusedSimpArgs false
open Go.RowKit

set_option maxRecDepth 100000 in
set_option maxHeartbeats 3200000 in
theorem column_lin (va : Value) (n m k : Nat) (A : Mx) (w : World) (ha : MatF w va n m A) (hk : k < m) (hn : n ≤ 1000) (hm : m ≤ 1000) :
    Calls Tryz.prog 21 #[va, .int .i64 k] w fun e w' => ∃ v, e = .returned v ∧ FracsC w' v (rowL n (fun i => A i k)) ∧ Below w.heap.size w w' := by
  have sa := ha.sl
  have la := ha.len
  obtain ⟨i0, hi, hz0, hz1, hz2⟩ := info_parts Tryz.infoF
  have hM := make_fr (P := Tryz.prog) 27 25 i0 Tryz.underlying27 hi hz0 hz1 (by rw [hz2]; decide)
  clear hi hz0 hz1 hz2
  go_enter Tryz.func21, Tryz.ntmps21
  go_wp2_with (refine hM _ rfl _ _ rfl w.heap.size _ n rfl rfl rfl (by omega) (Nat.le_refl _) ?_; intro v w1 hown hb1 hvb; have sv := hown.sl; have lv := hown.len)
  clear hM
  go_loopw [12] (fun u12 wr => ∃ (i : Nat), i ≤ n ∧ u12 = .int .i64 i ∧ OwnFr wr 25 w.heap.size v n ∧ (∀ j, j < i → ElemC wr v j (A j k)) ∧ Below w.heap.size w wr) (fun u12 _ => n - (intOf u12).toNat)
  case atStart => exact ⟨0, Nat.zero_le _, rfl, hown, fun j h => by omega, hb1⟩
  case round =>
    obtain ⟨i, hin, rfl, ho, he, hbr⟩ := hrel
    clear hown hb1
    have HE := Lib.hid he
    clear he
    by_cases hil : i < n
    · obtain ⟨ri, hc1, hr1⟩ := (ha.below hbr).row i hil
      have slI := hr1.sl
      have lnI : slen ri = m := by rw [hr1.len, rowL_length]
      obtain ⟨ea, eb, g1, g2, g3, g4, g5⟩ := hr1.at' k (by rw [rowL_length]; exact hk)
      rw [rowL_get] at g1 g4 g5
      obtain ⟨ea1, ea2, ea3, rfl, _⟩ := g4.v.sl
      obtain ⟨eb1, eb2, eb3, rfl, _⟩ := g5.v.sl
      have hF : FracC wr (.agg #[.bool (decide (A i k < 0)), .slice ea1 ea2 ea3, .slice eb1 eb2 eb3]) (A i k) := ⟨_, _, rfl, g4, g5⟩
      obtain ⟨c0, d0, _⟩ := ho.cell (i * 3) (by omega)
      obtain ⟨c1, d1, _⟩ := ho.cell (i * 3 + 1) (by omega)
      obtain ⟨c2, d2, _⟩ := ho.cell (i * 3 + 2) (by omega)
      have f0 := ho.frozen (i * 3)
      have f1 := ho.frozen (i * 3 + 1)
      have f2 := ho.frozen (i * 3 + 2)
      have n01 := ho.inj (show i * 3 ≠ i * 3 + 1 by omega)
      have n02 := ho.inj (show i * 3 ≠ i * 3 + 2 by omega)
      have n12 := ho.inj (show i * 3 + 1 ≠ i * 3 + 2 by omega)
      have hs3 := ho.set3 i (.bool (decide (A i k < 0))) (.slice ea1 ea2 ea3) (.slice eb1 eb2 eb3) (fun z => by simp) (fun z => by simp) (fun z => by simp)
      have HS3 := Lib.hid hs3
      have HF := Lib.hid hF
      have HO := Lib.hid ho
      clear hs3 hr1 g4 g5 hF ho
      have i1 : (0 : Int) ≤ (i : Int) := by omega
      have i2 : (i : Int) < (n : Nat) := by omega
      have i3 : (0 : Int) ≤ (k : Int) := by omega
      have i4 : (k : Int) < (m : Nat) := by omega
      go_wp2_with fail
      go_roundw
      case rel =>
        refine ⟨i + 1, hil, by go_num, HS3.out.1, fun j hj => ?_, hbr.trans HS3.out.2⟩
        rcases Nat.lt_or_ge j i with h6 | h6
        · exact ElemC.set3_other HO.out hil (by omega) (HE.out j h6) _ _ _ (fun z => by simp) (fun z => by simp)
        · obtain rfl : j = i := by omega
          exact ElemC.set3 HO.out hil HF.out
      case measure => simp [intOf]; omega
    · obtain rfl : i = n := by omega
      go_wp2_with fail
      go_ret
      exact ⟨v, rfl, ho.fracs (rowL_length _ _) (fun j hj => by rw [rowL_length] at hj; rw [rowL_get]; exact HE.out j hj), hbr⟩
theorem FracsC.setc {w : World} {v : Value} {q : List Rat} (h : FracsC w v q) {p : Addr} {x : Value} (hp : (base v).block ≠ p.block) (hc : w.cell? p = some x) (hx : ∀ z, x ≠ .int .u32 z) (u : Value) : FracsC (w.setCell p u) v q := by
  have hne : ∀ k, p ≠ ptr v k := fun k e => hp (by rw [e, ptr_block])
  refine ⟨h.sl, h.len, fun j hj => ?_⟩
  obtain ⟨a, b, h1, h2, h3, h4, h5⟩ := h.at' j hj
  exact ⟨a, b, by rw [World.cell?_setCell_other _ _ _ _ (hne _)]; exact h1, by rw [World.cell?_setCell_other _ _ _ _ (hne _)]; exact h2, by rw [World.cell?_setCell_other _ _ _ _ (hne _)]; exact h3, ⟨h4.v.over hc hx u, h4.2⟩, ⟨h5.v.over hc hx u, h5.2⟩⟩
theorem fracs_one {w : World} {b : Nat} {x y z : Value} {r : Rat} (hb : VarB w b #[x, y, z]) (hf : FracC w (.agg #[x, y, z]) r) : FracsC w (.slice (some ⟨b, 0, none⟩) 1 1) [r] := by
  obtain ⟨a1, b1, ha, h4, h5⟩ := hf
  injection ha with ha
  injection ha with ha
  simp only [List.cons.injEq, and_true] at ha
  obtain ⟨rfl, rfl, rfl⟩ := ha
  refine ⟨⟨_, 1, 1, rfl, Nat.le_refl _, by simp [maxLen], fun e => by cases e⟩, rfl, fun j hj => ?_⟩
  obtain rfl : j = 0 := by simp at hj; omega
  have hp : ∀ k, ptr (.slice (some ⟨b, 0, none⟩) 1 1) k = ⟨b, k, none⟩ := fun k => by simp only [ptr, base, Addr.add_lit, Nat.zero_add]
  exact ⟨y, z, by rw [hp]; exact hb.cell 0 rfl, by rw [hp]; exact hb.cell 1 rfl, by rw [hp]; exact hb.cell 2 rfl, h4, h5⟩
theorem mat_one {w : World} {b : Nat} {r : Value} {q : List RF} (hb : VarB w b #[r]) (hq : FracsN w r q) : MatN w (.slice (some ⟨b, 0, none⟩) 1 1) [q] := by
  refine ⟨⟨_, 1, 1, rfl, Nat.le_refl _, by simp [maxLen], fun e => by cases e⟩, rfl, fun j hj => ?_⟩
  obtain rfl : j = 0 := by simp at hj; omega
  have hp : ∀ k, ptr (.slice (some ⟨b, 0, none⟩) 1 1) k = ⟨b, k, none⟩ := fun k => by simp only [ptr, base, Addr.add_lit, Nat.zero_add]
  exact ⟨r, by rw [hp]; exact hb.cell 0 rfl, hq⟩
end Go.Proofs.YtbhkibilnmoljaaGreat
