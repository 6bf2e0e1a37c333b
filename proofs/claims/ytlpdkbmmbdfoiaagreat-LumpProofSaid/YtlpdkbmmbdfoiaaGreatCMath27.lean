/-
  Fractions over one denominator: the rates of a quotient. No program is named here.
  Ahead of it: The coarsest lumping: every lumping refines it. No program is named here. The quotient by the coarsest lumping: it is a chain and cannot be lumped. No program is named here. The theorem of lumping for a chain, a partition that Check accepts, and the quotient. No program is named here.
-/
import Derived.Test.YtlpdkbmmbdfoiaaGreatCMath19
import Derived.Test.YtlpdkbmmbdfoiaaGreatCMath6b
import Derived.Test.YtlpdkbmmbdfoiaaGreatCOwR
namespace Go.Proofs.YtlpdkbmmbdfoiaaGreat
set_option linter.unusedVariables false

theorem lsum_cons (x : Rat) (l : List Rat) : lsum (x :: l) = lsum l + x := by
  unfold lsum
  rw [List.foldl_cons, foldl_shift]
/-- The elements of a row that belong to block b; the others are 0. -/
def selZ (bl : List Int) (row : List Rat) (b : Int) : List Rat := List.zipWith (fun x q => if x = b then q else 0) bl row
theorem bsum_cons (x : Int) (bl : List Int) (q : Rat) (row : List Rat) (b : Int) : bsum (x :: bl) (q :: row) b = if x = b then bsum bl row b + q else bsum bl row b := by
  unfold bsum bsel
  rw [List.zip_cons_cons, List.filter_cons]
  by_cases h : x = b
  · rw [if_pos (by simp [h]), if_pos h, List.map_cons, lsum_cons]
  · rw [if_neg (by simp [h]), if_neg h]
theorem bsum_nil_left (row : List Rat) (b : Int) : bsum [] row b = 0 := by simp [bsum, bsel, lsum]
theorem bsum_nil_right (bl : List Int) (b : Int) : bsum bl [] b = 0 := by simp [bsum, bsel, lsum]
theorem bsum_selZ (bl : List Int) (row : List Rat) (b : Int) : bsum bl row b = lsum (selZ bl row b) := by
  induction bl generalizing row with
  | nil => rw [bsum_nil_left]; rfl
  | cons x bl ih => cases row with
    | nil => rw [bsum_nil_right]; rfl
    | cons q row =>
      rw [bsum_cons]
      show _ = lsum ((if x = b then q else 0) :: selZ bl row b)
      rw [lsum_cons, ← ih]
      split
      · rfl
      · rw [Rat.add_zero]
theorem bsum_selZ_map (L : List Int) (g : Int → Int) (row : List Rat) (b β : Int) : bsum L (selZ (L.map g) row b) β = if g β = b then bsum L row β else 0 := by
  induction L generalizing row with
  | nil => rw [bsum_nil_left, bsum_nil_left]; split <;> rfl
  | cons x L ih => cases row with
    | nil =>
      show bsum (x :: L) [] β = _
      rw [bsum_nil_right]; split <;> rfl
    | cons q row =>
      show bsum (x :: L) ((if g x = b then q else 0) :: selZ (L.map g) row b) β = _
      rw [bsum_cons, bsum_cons, ih]
      by_cases h : x = β
      · subst h
        by_cases h2 : g x = b
        · simp only [if_pos h2, if_true]
        · simp only [if_neg h2, if_true]
          exact Rat.add_zero _
      · simp only [if_neg h]
theorem selZ_length (bl : List Int) (row : List Rat) (b : Int) (h : row.length = bl.length) : (selZ bl row b).length = bl.length := by simp [selZ, h]
/-- The sum over a block of a coarser partition, from the sums over the blocks of a finer one. -/
theorem bsum_map {L : List Int} {n : Nat} (hL : ∀ (k : Nat) (h : k < L.length), 0 ≤ L[k] ∧ L[k] < (n : Int)) (g : Int → Int) (row : List Rat) (hr : row.length = L.length) (b : Int) :
    bsum (L.map g) row b = lsum ((List.range n).map fun β : Nat => if g β = b then bsum L row β else 0) := by
  have h1 := lsum_bsums (of := L) (row := selZ (L.map g) row b) (n := n) (by rw [selZ_length _ _ _ (by simpa using hr)]; simp) hL L.length (Nat.le_refl _)
  rw [List.take_length, List.take_of_length_le (by rw [selZ_length _ _ _ (by simpa using hr)]; simp), ← bsum_selZ] at h1
  rw [← h1]
  congr 1
  unfold bsums
  exact List.map_congr_left (fun β _ => bsum_selZ_map L g row b β)
theorem bsum_regroup {L bl : List Int} {n : Nat} {r r' : List Rat} (hlen : bl.length = L.length) (hr : r.length = L.length) (hr' : r'.length = L.length) (hL : ∀ (k : Nat) (h : k < L.length), 0 ≤ L[k] ∧ L[k] < (n : Int))
    (href : ∀ i j : Nat, L[i]? = L[j]? → bl[i]? = bl[j]?) (b : Int) (h : ∀ β : Nat, β < n → (∀ k : Nat, L[k]? = some (β : Int) → bl[k]? = some b) → bsum L r β = bsum L r' β) : bsum bl r b = bsum bl r' b := by
  have hg : bl = L.map (fun x => bl.getD (L.findIdx (fun y => decide (y = x))) (b + 1)) := by
    refine List.ext_getElem (by simpa using hlen) (fun k h1 h2 => ?_)
    have hk : k < L.length := by omega
    rw [List.getElem_map]
    have h3 : L.findIdx (fun y => decide (y = L[k])) < L.length := List.findIdx_lt_length_of_exists ⟨_, List.getElem_mem hk, by simp⟩
    have h4 := List.findIdx_getElem (xs := L) (p := fun y => decide (y = L[k])) (w := h3)
    simp only [decide_eq_true_eq] at h4
    have h5 := href k (L.findIdx (fun y => decide (y = L[k]))) (by rw [List.getElem?_eq_getElem hk, List.getElem?_eq_getElem h3, h4])
    simp only [List.getD, ← h5, List.getElem?_eq_getElem h1, Option.getD_some]
  generalize hgg : (fun x : Int => bl.getD (L.findIdx (fun y => decide (y = x))) (b + 1)) = g at hg
  rw [hg, bsum_map hL g r hr, bsum_map hL g r' hr']
  congr 1
  refine List.map_congr_left (fun β hβ => ?_)
  by_cases h1 : g β = b
  · rw [if_pos h1, if_pos h1]
    refine h β (by simpa using hβ) (fun k hk => ?_)
    rw [hg, List.getElem?_map, hk]
    simp [h1]
  · rw [if_neg h1, if_neg h1]
/-- A partition into n blocks whose members lead to the other blocks at the same rates. -/
structure Stab (c : RC) (n : Nat) (L : List Int) : Prop where
  len : L.length = c.lost.length
  bd : ∀ (k : Nat) (h : k < L.length), 0 ≤ L[k] ∧ L[k] < (n : Int)
  lost : ∀ i j : Nat, i < L.length → L[i]? = L[j]? → c.lost.getD i false = c.lost.getD j false
  rate : ∀ (i j : Nat), i < L.length → L[i]? = L[j]? → ∀ β : Nat, β < n → L[i]? ≠ some (β : Int) → bsum L (rowsQ c i) β = bsum L (rowsQ c j) β
theorem Stab.of_check {c : RC} {L : List Int} (h : checkP c L) : Stab c (cnt L) L := by
  obtain ⟨h1, h2, h3, h4, h5⟩ := h
  refine ⟨by rw [h3]; exact h4.2.2.1.symm, fun k hk => h1.lt (List.getElem?_eq_getElem hk), fun i j hi hij => ?_, fun i j hi hij β hβ hne => ?_⟩
  · exact (h5 i j _ (List.getElem?_eq_getElem hi) (by rw [← hij]; exact List.getElem?_eq_getElem hi)).1
  · have h6 := (h5 i j _ (List.getElem?_eq_getElem hi) (by rw [← hij]; exact List.getElem?_eq_getElem hi)).2
    rw [List.getElem?_eq_getElem hi] at hne
    exact h6 β _ _ (fun e => hne (by rw [e])) (by rw [List.getElem?_eq_getElem (by rw [bsums_length]; exact hβ), bsums_get _ _ _ _ hβ]) (by rw [List.getElem?_eq_getElem (by rw [bsums_length]; exact hβ), bsums_get _ _ _ _ hβ])
theorem rowsQ_len {c : RC} (h : validP c) {i : Nat} (hi : i < c.lost.length) : (rowsQ c i).length = c.lost.length := by
  obtain ⟨h1, h2, h3, h4, h5, h6, h7⟩ := h
  have hi2 : i < c.rates.length := by omega
  unfold rowsQ
  simp only [List.getD, List.getElem?_eq_getElem hi2, Option.getD_some]
  rw [qs_length, (h6 i _ (List.getElem?_eq_getElem hi2)).1.2.1, h3]
theorem two_marks (x y z : Bool) : some (if x = z then (0 : Int) else 1) = some (if y = z then 0 else 1) ↔ x = y := by revert x y z; decide
theorem lostB_iff {c : RC} {i j : Nat} (hi : i < c.lost.length) (hj : j < c.lost.length) : (lostB c)[i]? = (lostB c)[j]? ↔ c.lost.getD i false = c.lost.getD j false := by
  unfold lostB
  simp only [List.getElem?_map, List.getElem?_eq_getElem hi, List.getElem?_eq_getElem hj, Option.map_some, List.getD, Option.getD_some]
  exact two_marks _ _ _
theorem Refs.lost {c : RC} {bl : List Int} (h : Refs c bl) (hn : 0 < c.lost.length) {i j : Nat} (hi : i < c.lost.length) (hj : j < c.lost.length) (hij : bl[i]? = bl[j]?) : c.lost.getD i false = c.lost.getD j false := by
  induction h with
  | zero => exact (lostB_iff hi hj).1 hij
  | step h1 h2 ih =>
    have hl := (h1.ok hn).2
    have h3 := (h2.2.2 i j _ _ (List.getElem?_eq_getElem (by rw [hl]; exact hi)) (List.getElem?_eq_getElem (by rw [hl]; exact hj))).1 hij
    exact ih (by rw [List.getElem?_eq_getElem (by rw [hl]; exact hi), List.getElem?_eq_getElem (by rw [hl]; exact hj), h3.1])
theorem get_eq_lt {α β : Type} {l : List α} {m : List β} (h : l.length = m.length) {i j : Nat} (hij : l[i]? = l[j]?) : (i < l.length ∧ j < l.length) ∨ (m[i]? = none ∧ m[j]? = none) := by
  by_cases h1 : i < l.length
  · by_cases h2 : j < l.length
    · exact Or.inl ⟨h1, h2⟩
    · rw [List.getElem?_eq_getElem h1, List.getElem?_eq_none (by omega)] at hij; simp at hij
  · by_cases h2 : j < l.length
    · rw [List.getElem?_eq_getElem h2, List.getElem?_eq_none (by omega)] at hij; simp at hij
    · exact Or.inr ⟨List.getElem?_eq_none (by omega), List.getElem?_eq_none (by omega)⟩
/-- Every stable partition refines the partitions on the way. -/
theorem Refs.coarser {c : RC} {n : Nat} {L bl : List Int} (hv : validP c) (hS : Stab c n L) (h : Refs c bl) : ∀ i j : Nat, L[i]? = L[j]? → bl[i]? = bl[j]? := by
  have hn : 0 < c.lost.length := by have := hv.1; have := hv.2.2.1; omega
  induction h with
  | zero =>
    intro i j hij
    rcases get_eq_lt (m := lostB c) (by rw [hS.len]; simp [lostB]) hij with ⟨h1, h2⟩ | ⟨h1, h2⟩
    · exact (lostB_iff (by rw [← hS.len]; exact h1) (by rw [← hS.len]; exact h2)).2 (hS.lost i j h1 hij)
    · rw [h1, h2]
  | @step bl nx h1 h2 ih =>
    intro i j hij
    have hl := (h1.ok hn).2
    rcases get_eq_lt (m := nx) (by rw [hS.len, h2.2.1, hl]) hij with ⟨h3, h4⟩ | ⟨h3, h4⟩
    · have hi : i < bl.length := by rw [hl, ← hS.len]; exact h3
      have hj : j < bl.length := by rw [hl, ← hS.len]; exact h4
      have hb := ih i j hij
      rw [List.getElem?_eq_getElem hi, List.getElem?_eq_getElem hj] at hb
      injection hb with hb
      refine (h2.2.2 i j _ _ (List.getElem?_eq_getElem hi) (List.getElem?_eq_getElem hj)).2 ⟨hb, fun t x y ht hx hy => ?_⟩
      unfold sumF at hx hy
      have htn := (List.getElem?_eq_some_iff.1 hx).1
      rw [bsums_length] at htn
      rw [List.getElem?_eq_getElem (by rw [bsums_length]; exact htn), bsums_get _ _ _ _ htn] at hx hy
      injection hx with hx
      injection hy with hy
      rw [← hx, ← hy]
      refine bsum_regroup (n := n) (by rw [hl, hS.len]) (by rw [rowsQ_len hv (by rw [← hS.len]; exact h3), hS.len]) (by rw [rowsQ_len hv (by rw [← hS.len]; exact h4), hS.len]) hS.bd ih _ (fun β hβ hk => ?_)
      refine hS.rate i j h3 hij β hβ (fun e => ht ?_)
      have := hk i e
      rw [List.getElem?_eq_getElem hi] at this
      injection this with this
      exact this.symm
    · rw [h3, h4]
theorem SplitP.inc {bl nx : List Int} {f : Nat → List Rat} (h : SplitP bl f nx) (hok : okB bl) (k : Nat) (hk : k < bl.length) : bl[k] = (cnt (bl.take k) : Int) → nx[k]'(by rw [h.2.1]; exact hk) = (cnt (nx.take k) : Int) := by
  obtain ⟨h1, h2, h3⟩ := h
  intro h4
  have hk2 : k < nx.length := by omega
  by_cases h5 : nx[k] = (cnt (nx.take k) : Int)
  · exact h5
  · exfalso
    obtain ⟨h6, h7⟩ := h1 k _ (List.getElem?_eq_getElem hk2)
    obtain ⟨b, hb⟩ : ∃ b : Nat, nx[k] = (b : Int) := ⟨nx[k].toNat, by omega⟩
    obtain ⟨j, h8, h9⟩ := okB_has h1 k b (by omega)
    have hj : j < bl.length := by omega
    have h10 := (h3 j k _ _ (List.getElem?_eq_getElem hj) (List.getElem?_eq_getElem hk)).1 (by rw [h9, List.getElem?_eq_getElem hk2, hb])
    have h11 := okB_new hok (List.getElem?_eq_getElem hj) h8
    rw [h10.1] at h11
    omega
theorem SplitP.gap {bl nx : List Int} {f : Nat → List Rat} (h : SplitP bl f nx) (hok : okB bl) (k : Nat) (hk : k < bl.length) : cnt (bl.take (k + 1)) + cnt (nx.take k) ≤ cnt (nx.take (k + 1)) + cnt (bl.take k) := by
  have hk2 : k < nx.length := by rw [h.2.1]; exact hk
  have hc := cnt_take bl k hk
  have hd := cnt_take nx k hk2
  have hi := h.inc hok k hk
  by_cases h1 : bl[k] = (cnt (bl.take k) : Int)
  · rw [if_pos h1] at hc
    rw [if_pos (hi h1)] at hd
    omega
  · rw [if_neg h1] at hc
    have := cnt_take_le nx k
    omega
theorem SplitP.gaps {bl nx : List Int} {f : Nat → List Rat} (h : SplitP bl f nx) (hok : okB bl) (k : Nat) : ∀ m, k + m ≤ bl.length → cnt (bl.take (k + m)) + cnt (nx.take k) ≤ cnt (nx.take (k + m)) + cnt (bl.take k) := by
  intro m
  induction m with
  | zero => intro _; simp [Nat.add_comm]
  | succ m ih =>
    intro hm
    have h1 := ih (by omega)
    have h2 := h.gap hok (k + m) (by omega)
    rw [show k + (m + 1) = k + m + 1 from by omega]
    omega
/-- A split that adds no block changes nothing. -/
theorem SplitP.same {bl nx : List Int} {f : Nat → List Rat} (h : SplitP bl f nx) (hok : okB bl) (hc : cnt nx = cnt bl) : nx = bl := by
  have hl := h.2.1
  have all : ∀ k, k ≤ bl.length → cnt (nx.take k) = cnt (bl.take k) := fun k hk => by
    have h1 := h.gaps hok k (bl.length - k) (by omega)
    rw [show k + (bl.length - k) = bl.length from by omega, List.take_length, List.take_of_length_le (l := nx) (i := bl.length) (by omega), hc] at h1
    have h2 := h.mono hok k
    omega
  have key : ∀ k, k ≤ bl.length → nx.take k = bl.take k := by
    intro k
    induction k with
    | zero => intro _; rfl
    | succ k ih =>
      intro hk
      have ih := ih (by omega)
      have hk1 : k < bl.length := by omega
      have hk2 : k < nx.length := by omega
      rw [take_snoc nx k hk2, take_snoc bl k hk1, ih]
      congr 2
      have e1 := cnt_take nx k hk2
      have e2 := cnt_take bl k hk1
      have e3 := all k (by omega)
      have e4 := all (k + 1) hk
      by_cases h1 : nx[k] = (cnt (nx.take k) : Int)
      · rw [if_pos h1] at e1
        by_cases h2 : bl[k] = (cnt (bl.take k) : Int)
        · rw [h1, h2, e3]
        · rw [if_neg h2] at e2; omega
      · obtain ⟨h6, h7⟩ := h.1 k _ (List.getElem?_eq_getElem hk2)
        obtain ⟨b, hb⟩ : ∃ b : Nat, nx[k] = (b : Int) := ⟨nx[k].toNat, by omega⟩
        obtain ⟨j, h8, h9⟩ := okB_has h.1 k b (by omega)
        have hj : j < bl.length := by omega
        have h10 := (h.2.2 j k _ _ (List.getElem?_eq_getElem hj) (List.getElem?_eq_getElem hk1)).1 (by rw [h9, List.getElem?_eq_getElem hk2, hb])
        have h11 : (nx.take k)[j]? = (bl.take k)[j]? := by rw [ih]
        rw [List.getElem?_take_of_lt h8, List.getElem?_take_of_lt h8, h9, List.getElem?_eq_getElem hj] at h11
        injection h11 with h11
        rw [hb, ← h10.1, h11]
  have := key bl.length (Nat.le_refl _)
  rw [List.take_length, List.take_of_length_le (by omega)] at this
  exact this
theorem CoarseP.refs {c : RC} {nx : List Int} (h : CoarseP c nx) (hn : 0 < c.lost.length) : Refs c nx ∧ SplitP nx (sumF c nx) nx := by
  obtain ⟨bl, h1, h2, h3⟩ := h
  obtain rfl := h2.same (h1.ok hn).1 h3
  exact ⟨h1, h2⟩
theorem CoarseP.check {c : RC} {nx : List Int} (h : CoarseP c nx) (hv : validP c) : checkP c nx := by
  have hn : 0 < c.lost.length := by have := hv.1; have := hv.2.2.1; omega
  obtain ⟨h1, h2⟩ := h.refs hn
  have hl := (h1.ok hn).2
  refine ⟨(h1.ok hn).1, by omega, by rw [hl]; exact hv.2.2.1, hv, fun i j b hi hj => ?_⟩
  have hi1 := (List.getElem?_eq_some_iff.1 hi).1
  have hj1 := (List.getElem?_eq_some_iff.1 hj).1
  refine ⟨h1.lost hn (by omega) (by omega) (by rw [hi, hj]), ?_⟩
  exact ((h2.2.2 i j b b hi hj).1 (by rw [hi, hj])).2
theorem CoarseP.coarser {c : RC} {n : Nat} {L nx : List Int} (h : CoarseP c nx) (hv : validP c) (hS : Stab c n L) : ∀ i j : Nat, L[i]? = L[j]? → nx[i]? = nx[j]? := by
  have hn : 0 < c.lost.length := by have := hv.1; have := hv.2.2.1; omega
  exact (h.refs hn).1.coarser hv hS
end Go.Proofs.YtlpdkbmmbdfoiaaGreat
namespace Go.Proofs.YtlpdkbmmbdfoiaaGreat
set_option linter.unusedVariables false

theorem firstB_has {bl : List Int} (hok : okB bl) {b : Nat} (h : b < cnt bl) : firstB bl b < bl.length ∧ bl[firstB bl b]? = some (b : Int) := by
  obtain ⟨k, h1, h2⟩ := okB_has hok bl.length b (by rw [List.take_length]; exact h)
  have h3 : firstB bl b < bl.length := by
    unfold firstB
    exact List.findIdx_lt_length_of_exists ⟨_, List.mem_of_getElem? h2, by simp⟩
  refine ⟨h3, ?_⟩
  have h4 := List.findIdx_getElem (xs := bl) (p := fun x => decide (x = (b : Int))) (w := h3)
  simp only [decide_eq_true_eq] at h4
  rw [List.getElem?_eq_getElem h3]
  exact congrArg some h4
theorem quo_row {c : RC} {bl : List Int} {x : Nat} (hx : x < cnt bl) : rowsQ (quo c bl).raw x = (bsums bl (rowsQ c (firstB bl x)) (cnt bl)).set x 0 := by
  rw [rowsQ_raw]; simp [quo, List.getD, hx]
theorem quo_lost {c : RC} {bl : List Int} {x : Nat} (hx : x < cnt bl) : (quo c bl).raw.lost.getD x false = c.lost.getD (firstB bl x) false := by
  simp [CQ.raw, quo, List.getD, hx]
theorem quo_lost_len (c : RC) (bl : List Int) : (quo c bl).raw.lost.length = cnt bl := by simp [CQ.raw, quo]
theorem bsum_range {L : List Int} {row : List Rat} (h : row.length = L.length) (b : Int) : bsum L row b = lsum ((List.range L.length).map fun t : Nat => if L.getD t 0 = b then row.getD t 0 else 0) := by
  rw [bsum_selZ]
  congr 1
  refine List.ext_getElem (by simp [selZ, h]) (fun t h1 h2 => ?_)
  have ht : t < L.length := by simpa using h2
  simp [selZ, List.getD, List.getElem?_eq_getElem ht, List.getElem?_eq_getElem (show t < row.length by omega)]
theorem comp_stab {c : RC} {n : Nat} {nx single : List Int} (hv : validP c) (hok : okB nx) (h1 : Stab c (cnt nx) nx) (h2 : Stab (quo c nx).raw n single) : Stab c n (nx.map fun x => single.getD x.toNat 0) := by
  have hsl : single.length = cnt nx := by rw [h2.len, quo_lost_len]
  have blk : ∀ i, i < nx.length → ∃ x : Nat, x < cnt nx ∧ nx[i]? = some (x : Int) ∧ (nx.map fun x => single.getD x.toNat 0)[i]? = single[x]? ∧ firstB nx x < nx.length ∧ nx[firstB nx x]? = some (x : Int) := fun i hi => by
    obtain ⟨e1, e2⟩ := h1.bd i hi
    have hx : nx[i].toNat < cnt nx := by omega
    refine ⟨nx[i].toNat, hx, by rw [List.getElem?_eq_getElem hi]; congr 1; omega, ?_, ?_⟩
    · rw [List.getElem?_map, List.getElem?_eq_getElem hi, List.getElem?_eq_getElem (by omega)]
      simp [List.getD, List.getElem?_eq_getElem (show nx[i].toNat < single.length by omega)]
    · exact firstB_has hok hx
  have row : ∀ i x : Nat, i < nx.length → x < cnt nx → nx[i]? = some (x : Int) → ∀ β : Nat, single[x]? ≠ some (β : Int) → bsum (nx.map fun x => single.getD x.toNat 0) (rowsQ c i) β = bsum single (rowsQ (quo c nx).raw x) β := fun i x hi hx hix β hβ => by
    obtain ⟨f1, f2⟩ := firstB_has hok hx
    rw [bsum_map h1.bd _ _ (by rw [rowsQ_len hv (by rw [← h1.len]; exact hi), h1.len]), bsum_range (by rw [quo_row hx, List.length_set, bsums_length, hsl]), hsl]
    congr 1
    refine List.map_congr_left (fun t ht => ?_)
    have ht : t < cnt nx := by simpa using ht
    simp only [Int.toNat_natCast]
    by_cases h3 : single.getD t 0 = (β : Int)
    · rw [if_pos h3, if_pos h3]
      have htx : t ≠ x := fun e => hβ (by
        subst e
        have hl : t < single.length := by omega
        rw [List.getElem?_eq_getElem hl]
        simp only [List.getD, List.getElem?_eq_getElem hl, Option.getD_some] at h3
        rw [h3])
      rw [quo_row hx]
      have e : ((bsums nx (rowsQ c (firstB nx x)) (cnt nx)).set x 0).getD t 0 = bsum nx (rowsQ c (firstB nx x)) t := by
        have hl : t < (bsums nx (rowsQ c (firstB nx x)) (cnt nx)).length := by rw [bsums_length]; exact ht
        simp only [List.getD, List.getElem?_set_ne (Ne.symm htx), List.getElem?_eq_getElem hl, Option.getD_some]
        exact bsums_get _ _ _ _ ht
      rw [e]
      exact h1.rate i (firstB nx x) hi (by rw [hix, f2]) t ht (by rw [hix]; intro e; injection e with e; omega)
    · rw [if_neg h3, if_neg h3]
  refine ⟨by rw [List.length_map]; exact h1.len, fun k hk => ?_, fun i j hi hij => ?_, fun i j hi hij β hβ hne => ?_⟩
  · have hk2 : k < nx.length := by simpa using hk
    obtain ⟨x, hx, e1, e2, _⟩ := blk k hk2
    rw [List.getElem?_eq_getElem hk, List.getElem?_eq_getElem (show x < single.length by omega)] at e2
    injection e2 with e2
    rw [e2]
    exact h2.bd x (by omega)
  · have hi2 : i < nx.length := by simpa using hi
    have hj2 : j < nx.length := by
      by_cases hj : j < nx.length
      · exact hj
      · rw [List.getElem?_eq_getElem hi, List.getElem?_eq_none (by simp; omega)] at hij; simp at hij
    obtain ⟨x, hx, e1, e2, e3, e4⟩ := blk i hi2
    obtain ⟨y, hy, g1, g2, g3, g4⟩ := blk j hj2
    have h3 := h2.lost x y (by omega) (by rw [← e2, ← g2, hij])
    rw [quo_lost hx, quo_lost hy] at h3
    rw [h1.lost i (firstB nx x) hi2 (by rw [e1, e4]), h1.lost j (firstB nx y) hj2 (by rw [g1, g4]), h3]
  · have hi2 : i < nx.length := by simpa using hi
    have hj2 : j < nx.length := by
      by_cases hj : j < nx.length
      · exact hj
      · rw [List.getElem?_eq_getElem hi, List.getElem?_eq_none (by simp; omega)] at hij; simp at hij
    obtain ⟨x, hx, e1, e2, e3, e4⟩ := blk i hi2
    obtain ⟨y, hy, g1, g2, g3, g4⟩ := blk j hj2
    have hne2 : single[x]? ≠ some (β : Int) := by rw [← e2]; exact hne
    have hne3 : single[y]? ≠ some (β : Int) := by rw [← g2, ← hij]; exact hne
    rw [row i x hi2 hx e1 β hne2, row j y hj2 hy g1 β hne3]
    exact h2.rate x y (by omega) (by rw [← e2, ← g2, hij]) β hβ hne2
/-- The quotient by the coarsest lumping has no lumping but single states. -/
theorem coarse_single {c : RC} {nx single : List Int} (hv : validP c) (h : CoarseP c nx) (hq : validP (quo c nx).raw) (h2 : CoarseP (quo c nx).raw single) : single = idl (cnt nx) := by
  have hck := h.check hv
  have hok := hck.1
  have hck2 := h2.check hq
  have hs2 := Stab.of_check hck2
  have hco := h.coarser hv (comp_stab hv hok (Stab.of_check hck) hs2)
  have hsl : single.length = cnt nx := by rw [hs2.len, quo_lost_len]
  have inj : ∀ x y : Nat, x < cnt nx → y < cnt nx → single[x]? = single[y]? → x = y := fun x y hx hy hxy => by
    obtain ⟨e1, e2⟩ := firstB_has hok hx
    obtain ⟨g1, g2⟩ := firstB_has hok hy
    have h3 := hco (firstB nx x) (firstB nx y) (by
      rw [List.getElem?_map, List.getElem?_map, e2, g2]
      simp only [Option.map_some, Int.toNat_natCast, List.getD, hxy])
    rw [e2, g2] at h3
    injection h3 with h3
    omega
  have all : ∀ k, k ≤ single.length → cnt (single.take k) = k ∧ ∀ j (hj : j < single.length), j < k → single[j] = (j : Int) := by
    intro k
    induction k with
    | zero => intro _; exact ⟨rfl, fun j _ h => by omega⟩
    | succ k ih =>
      intro hk
      obtain ⟨i1, i2⟩ := ih (by omega)
      have hk1 : k < single.length := by omega
      obtain ⟨o1, o2⟩ := hck2.1 k _ (List.getElem?_eq_getElem hk1)
      rw [i1] at o2
      have hkk : single[k] = (k : Int) := by
        by_cases h3 : single[k] = (k : Int)
        · exact h3
        · exfalso
          have h4 : single[k].toNat < k := by omega
          have h5 := i2 (single[k].toNat) (by omega) h4
          have := inj k (single[k].toNat) (by omega) (by omega) (by rw [List.getElem?_eq_getElem hk1, List.getElem?_eq_getElem (by omega), h5]; congr 1; omega)
          omega
      refine ⟨by rw [cnt_take _ _ hk1, i1, if_pos hkk], fun j hj hjk => ?_⟩
      by_cases h3 : j = k
      · subst h3; exact hkk
      · exact i2 j hj (by omega)
  refine List.ext_getElem (by rw [hsl, idl_length]) (fun j h3 h4 => ?_)
  rw [(all single.length (Nat.le_refl _)).2 j h3 h3, idl_get' h4]
/-- A multiple of 1 / 144. -/
def bigQ (N : Nat) (q : Rat) : Prop := ∃ a : Nat, a ≤ N ∧ q = fq false a 144
theorem bigQ.zero (N : Nat) : bigQ N 0 := ⟨0, Nat.zero_le _, by decide +kernel⟩
theorem bigQ.mono {N M : Nat} {q : Rat} (h : bigQ N q) (hm : N ≤ M) : bigQ M q := by obtain ⟨a, h1, h2⟩ := h; exact ⟨a, by omega, h2⟩
theorem fq_scale (a b m : Nat) (hm : m ≠ 0) : fq false a b = fq false (a * m) (b * m) := by
  unfold fq sgn
  simp only [Bool.false_eq_true, if_false]
  rw [show ((a * m : Nat) : Int) = (a : Int) * (m : Int) from by simp, Rat.mkRat_mul_right hm]
theorem bigQ.add {N M : Nat} {p q : Rat} (hp : bigQ N p) (hq : bigQ M q) : bigQ (N + M) (p + q) := by
  obtain ⟨a, h1, rfl⟩ := hp
  obtain ⟨b, h2, rfl⟩ := hq
  refine ⟨a + b, by omega, ?_⟩
  rw [fq_add_same false a 144 b 144 (by decide) (by decide), fq_scale (a + b) 144 144 (by decide), Nat.add_mul]
theorem smallQ.twelve {q : Rat} (h : smallQ q) : ∃ a : Nat, a ≤ 48 ∧ q = fq false a 12 := by
  obtain ⟨a, b, h1, h2, h3, rfl⟩ := h
  have hb : b = 1 ∨ b = 2 ∨ b = 3 ∨ b = 4 := by omega
  rcases hb with rfl | rfl | rfl | rfl
  · exact ⟨a * 12, by omega, fq_scale a 1 12 (by decide)⟩
  · exact ⟨a * 6, by omega, fq_scale a 2 6 (by decide)⟩
  · exact ⟨a * 4, by omega, fq_scale a 3 4 (by decide)⟩
  · exact ⟨a * 3, by omega, fq_scale a 4 3 (by decide)⟩
theorem smallQ.big {p q : Rat} (hp : smallQ p) (hq : smallQ q) : bigQ 2304 (p * q) := by
  obtain ⟨a, h1, rfl⟩ := hp.twelve
  obtain ⟨b, h2, rfl⟩ := hq.twelve
  exact ⟨a * b, Nat.mul_le_mul h1 h2, fq_mul _ _ _ _ _ _⟩
theorem bigQ.sum {N : Nat} {l : List Rat} (h : ∀ q ∈ l, bigQ N q) : bigQ (N * l.length) (lsum l) := by
  induction l with
  | nil => exact bigQ.zero _
  | cons x l ih =>
    rw [lsum_cons, List.length_cons, Nat.mul_succ]
    exact (ih (fun q hq => h q (by simp [hq]))).add (h x (by simp))
theorem bigQ.bsum {N m : Nat} {bl : List Int} {row : List Rat} (h : ∀ q ∈ row, bigQ N q) (hm : row.length ≤ m) (b : Int) : bigQ (N * m) (bsum bl row b) := by
  have hs := bsel_sub bl row b
  exact (bigQ.sum (fun q hq => h q (hs.subset hq))).mono (Nat.mul_le_mul_left _ (Nat.le_trans hs.length_le hm))
theorem bigQ.num {N : Nat} {q : Rat} (h : bigQ N q) : q.num.natAbs ≤ N := by
  obtain ⟨a, h1, rfl⟩ := h
  rw [fq_natAbs _ _ _ (by omega)]
  exact Nat.le_trans (Nat.div_le_self _ _) h1
theorem bigQ.den {N : Nat} {q : Rat} (h : bigQ N q) : q.den ≤ 144 := by
  obtain ⟨a, h1, rfl⟩ := h
  rw [fq_den _ _ _ (by omega)]
  exact Nat.div_le_self _ _
theorem bigQ.nonneg {N : Nat} {q : Rat} (h : bigQ N q) : ¬ q < 0 := by
  obtain ⟨a, h1, rfl⟩ := h
  have := fq_neg false a 144 (by omega)
  simp at this
  first | exact this | exact Rat.not_lt.2 this
theorem bigQ.wt {q : Rat} (h : bigQ 23040 q) : wt q ≤ 23 := by
  have h1 : nbits q.num.natAbs ≤ 15 := nbits_le.2 (by have := h.num; omega)
  have h2 : nbits q.den ≤ 8 := nbits_le.2 (by have := h.den; omega)
  unfold Go.Proofs.YtlpdkbmmbdfoiaaGreat.wt
  split
  · omega
  · split <;> omega
theorem bigQ.fits {q : Rat} (h : bigQ 23040 q) : fits q := ⟨nbits_le.2 (Nat.lt_of_le_of_lt h.num (by decide +kernel)), nbits_le.2 (Nat.lt_of_le_of_lt h.den (by decide +kernel))⟩
theorem wts_big {l : List Rat} (h : ∀ q ∈ l, bigQ 23040 q) : wts l ≤ 23 * l.length := by
  induction l with
  | nil => simp [wts]
  | cons x l ih =>
    have h1 := (h x (by simp)).wt
    have h2 := ih (fun q hq => h q (by simp [hq]))
    rw [wts_cons, List.length_cons]
    omega
theorem rowP_big {l : List Rat} {n : Nat} (hn : l.length = n) (hn5 : n ≤ 128) (h : ∀ q ∈ l, bigQ 23040 q) : rowP (l.map RF.of) n := by
  refine ⟨fun x hx => ?_, by rw [List.length_map]; exact hn, by rw [qs_of]; have := wts_big h; omega⟩
  obtain ⟨q, hq, rfl⟩ := List.mem_map.1 hx
  have hs := h q hq
  refine ⟨RF.of_ok hs.fits, ?_⟩
  rw [RF.of_q]
  exact ⟨hs.nonneg, nlen_le.2 (by have := hs.num; simp [pw]; omega), nlen_le.2 (by have := hs.den; simp [pw]; omega)⟩
theorem lsum_zero : ∀ {l : List Rat}, (∀ q ∈ l, q = 0) → lsum l = 0 := by
  intro l
  induction l with
  | nil => intro _; rfl
  | cons x l ih =>
    intro h
    rw [lsum_cons, ih (fun q hq => h q (by simp [hq])), h x (by simp), Rat.add_zero]
theorem mem_bsums {bl : List Int} {row : List Rat} {n : Nat} {q : Rat} (h : q ∈ bsums bl row n) : ∃ b : Int, q = bsum bl row b := by
  obtain ⟨b, _, rfl⟩ := List.mem_map.1 h
  exact ⟨_, rfl⟩
/-- The quotient of a chain whose numbers are multiples of 1 / 144 is a chain. -/
theorem quo_valid {c : RC} {nx : List Int} (hck : checkP c nx) (hle : nx.length ≤ 10) (hs : ∀ q ∈ qs c.start, bigQ 2304 q) (hr : ∀ i, i < nx.length → ∀ q ∈ rowsQ c i, bigQ 2304 q) : validP (quo c nx).raw := by
  obtain ⟨hok, h0, hlen, hv, hag⟩ := hck
  have hp := cnt_pos hok h0
  have hn := cnt_le nx nx.length
  rw [List.take_length] at hn
  have hll : c.lost.length = nx.length := by rw [hv.2.2.1, hlen]
  refine ⟨by simp [CQ.raw, quo, bsums_length]; omega, by simp [CQ.raw, quo, bsums_length]; omega, by simp [CQ.raw, quo, bsums_length], by simp [CQ.raw, quo, bsums_length], ?_, fun i r hri => ?_, ?_⟩
  · have := rowP_big (n := cnt nx) (l := bsums nx (qs c.start) (cnt nx)) (bsums_length _ _ _) (by omega) (fun q hq => by
      obtain ⟨b, rfl⟩ := mem_bsums hq
      exact bigQ.bsum (m := 10) hs (by rw [qs_length, ← hlen]; exact hle) b)
    simpa [CQ.raw, quo, bsums_length] using this
  · simp only [CQ.raw, List.getElem?_map, Option.map_eq_some_iff] at hri
    obtain ⟨r', hr', rfl⟩ := hri
    have hi : i < cnt nx := by have := (List.getElem?_eq_some_iff.1 hr').1; simpa [quo] using this
    have e : (bsums nx (rowsQ c (firstB nx i)) (cnt nx)).set i 0 = r' := by simpa [quo, hi] using hr'
    subst e
    obtain ⟨f1, f2⟩ := firstB_has hok hi
    have hrl := rowsQ_len hv (i := firstB nx i) (by omega)
    have hbig : ∀ q ∈ (bsums nx (rowsQ c (firstB nx i)) (cnt nx)).set i 0, bigQ 23040 q := fun q hq => by
      rcases List.mem_or_eq_of_mem_set hq with h | rfl
      · obtain ⟨b, rfl⟩ := mem_bsums h
        exact bigQ.bsum (m := 10) (hr _ f1) (by omega) b
      · exact bigQ.zero _
    refine ⟨?_, fun x hx => ?_, fun hl => ?_⟩
    · have := rowP_big (n := cnt nx) (by rw [List.length_set, bsums_length]) (by omega) hbig
      simpa [CQ.raw, quo, bsums_length] using this
    · rw [List.getElem?_map, Option.map_eq_some_iff] at hx
      obtain ⟨q, hq, rfl⟩ := hx
      rw [List.getElem?_set_self (by rw [bsums_length]; exact hi)] at hq
      injection hq with hq
      rw [RF.of_q, ← hq]
      rfl
    · rw [qs_of]
      have hlost : c.lost.getD (firstB nx i) false = true := by
        rw [← quo_lost (c := c) hi]
        simp only [List.getD]
        have : (quo c nx).raw.lost[i]? = some true := hl
        rw [this]; rfl
      have hf : firstB nx i < c.rates.length := by rw [hv.2.2.2.1, ← hlen]; exact f1
      have h4 := (hv.2.2.2.2.2.1 (firstB nx i) _ (List.getElem?_eq_getElem hf)).2.2 (by
        have hfl : firstB nx i < c.lost.length := by omega
        simp only [List.getD, List.getElem?_eq_getElem hfl, Option.getD_some] at hlost
        rw [List.getElem?_eq_getElem hfl, hlost])
      have hz : ∀ q ∈ rowsQ c (firstB nx i), q = 0 := by
        have : rowsQ c (firstB nx i) = qs (c.rates[firstB nx i]) := by
          unfold rowsQ
          simp only [List.getD, List.getElem?_eq_getElem hf, Option.getD_some]
        rw [this]
        exact wts_zero h4
      refine wts_of_zero (fun q hq => ?_)
      rcases List.mem_or_eq_of_mem_set hq with h | rfl
      · obtain ⟨b, rfl⟩ := mem_bsums h
        exact lsum_zero (fun q hq => hz q ((bsel_sub nx _ b).subset hq))
      · rfl
  · rw [qs_start_raw]
    have h1 := lsum_bsums (of := nx) (row := qs c.start) (n := cnt nx) (by rw [qs_length, hlen]) (fun k hk => hok.lt (List.getElem?_eq_getElem hk)) nx.length (Nat.le_refl _)
    rw [List.take_length, List.take_of_length_le (by rw [qs_length, hlen]; exact Nat.le_refl _)] at h1
    show lsum (bsums nx (qs c.start) (cnt nx)) = 1
    rw [h1]
    exact hv.2.2.2.2.2.2
theorem cop_quo_valid {c : CQ} {of nx : List Int} {share : List Rat} (ht : tapeP c) (h : CopP c.start.length of share) (hck : checkP (copQ c of share).raw nx) : validP (quo (copQ c of share).raw nx).raw := by
  have hlen : nx.length = of.length := by have := hck.2.2.1; simpa [CQ.raw, copQ] using this
  refine quo_valid hck (by rw [hlen]; exact h.le) (fun q hq => ?_) (fun i hi q hq => ?_)
  · rw [qs_start_raw] at hq
    obtain ⟨a, ha, rfl⟩ := List.mem_map.1 hq
    have ha2 : a < of.length := by simpa using ha
    obtain ⟨i, hi, _, e1⟩ := h.blk ha2
    rw [e1, h.sh ha2]
    have : c.start.getD ((i : Nat) : Int).toNat 0 = c.start[i] := by simp [List.getD, List.getElem?_eq_getElem hi]
    rw [this]
    exact (ht.st _ (List.getElem_mem hi)).big (h.sm _ (List.getElem_mem _))
  · rw [cop_rowsQ (by rw [← hlen]; exact hi)] at hq
    obtain ⟨b, hb, rfl⟩ := List.mem_map.1 hq
    have hb2 : b < of.length := by simpa using hb
    obtain ⟨x, hx, _, e1⟩ := h.blk (show i < of.length by rw [← hlen]; exact hi)
    obtain ⟨j, hj, _, e2⟩ := h.blk hb2
    rw [e1, e2, h.sh hb2]
    split
    · exact bigQ.zero _
    · exact (ht.rate (by simpa using hx) (by simpa using hj)).big (h.sm _ (List.getElem_mem _))
end Go.Proofs.YtlpdkbmmbdfoiaaGreat
namespace Go.Proofs.YtlpdkbmmbdfoiaaGreat
set_option linter.unusedVariables false

/-- A step with the matrix of rates rows, one over the rate ρ. -/
def stepQ (n : Nat) (rows : Nat → List Rat) (ρ : Rat) (v : List Rat) : List Rat := (List.range n).map fun j => sg n fun i => v.getD i 0 * stepM n (fun i j => (rows i).getD j 0) ρ i j
theorem stepQ_length (n : Nat) (rows : Nat → List Rat) (ρ : Rat) (v : List Rat) : (stepQ n rows ρ v).length = n := by simp [stepQ]
theorem stepQ_get {n : Nat} {rows : Nat → List Rat} {ρ : Rat} {v : List Rat} {j : Nat} (h : j < n) : (stepQ n rows ρ v).getD j 0 = sg n fun i => v.getD i 0 * stepM n (fun i j => (rows i).getD j 0) ρ i j := by
  simp [stepQ, List.getD, h]
theorem diag_zero {c : RC} (h : validP c) {i : Nat} (hi : i < c.start.length) : (rowsQ c i).getD i 0 = 0 := by
  obtain ⟨h1, h2, h3, h4, h5, h6, h7⟩ := h
  have hil : i < c.rates.length := by omega
  obtain ⟨k1, k2, k3⟩ := h6 i _ (List.getElem?_eq_getElem hil)
  have hl : (c.rates[i]'hil).length = c.start.length := k1.2.1
  have e : rowsQ c i = qs (c.rates[i]'hil) := by simp [rowsQ, List.getD, List.getElem?_eq_getElem hil]
  have h8 : i < (qs (c.rates[i]'hil)).length := by rw [qs_length]; omega
  rw [e, List.getD, List.getElem?_eq_getElem h8, Option.getD_some, qs_get _ _ (by omega)]
  have := k2 _ (List.getElem?_eq_getElem (show i < (c.rates[i]'hil).length by omega))
  exact Rat.num_eq_zero.1 this
/-- A block's sum by index. -/
theorem bsum_blk {bl : List Int} (hok : okB bl) {row : List Rat} (hl : row.length = bl.length) (b : Nat) : bsum bl row b = sg bl.length (fun j => if (bl.getD j 0).toNat = b then row.getD j 0 else 0) := by
  have h := bsum_sg bl row b hl.symm bl.length (Nat.le_refl _)
  rw [List.take_length, ← hl, List.take_length, hl] at h
  rw [h]
  refine sg_congr fun j hj => ?_
  have hg : bl[j]? = some (bl.getD j 0) := by simp [List.getD, List.getElem?_eq_getElem hj]
  have := (hok.lt hg).1
  by_cases hb : bl.getD j 0 = (b : Int)
  · rw [if_pos hb, if_pos (by omega)]
  · rw [if_neg hb, if_neg (by omega)]
theorem bsums_getD {bl : List Int} {row : List Rat} {n j : Nat} (h : j < n) : (bsums bl row n).getD j 0 = bsum bl row j := by
  simp [bsums, List.getD, h]
/-- THE THEOREM OF LUMPING: the sums of a step are the quotient's step of the sums. -/
theorem lump_lists {c : RC} {bl : List Int} (h : checkP c bl) (ρ : Rat) {v : List Rat} (hv : v.length = bl.length) :
    bsums bl (stepQ bl.length (rowsQ c) ρ v) (cnt bl) = stepQ (cnt bl) (rowsQ (quo c bl).raw) ρ (bsums bl v (cnt bl)) := by
  obtain ⟨hok, h0, hlen, hval, hag⟩ := h
  have hll : c.lost.length = c.start.length := hval.2.2.1
  have hblk : ∀ i, i < bl.length → (bl.getD i 0).toNat < cnt bl ∧ bl[i]? = some (((bl.getD i 0).toNat : Nat) : Int) := fun i hi => by
    have hg : bl[i]? = some (bl.getD i 0) := by simp [List.getD, List.getElem?_eq_getElem hi]
    obtain ⟨h1, h2⟩ := hok.lt hg
    refine ⟨by omega, ?_⟩
    rw [hg]
    congr 1
    omega
  have hrl : ∀ i, i < bl.length → (rowsQ c i).length = bl.length := fun i hi => by rw [rowsQ_len hval (by omega)]; omega
  refine List.ext_getElem (by rw [bsums_length, stepQ_length]) fun b h1 h2 => ?_
  rw [bsums_length] at h1
  have key := lump_step (n := bl.length) (m := cnt bl) (blk := fun i => (bl.getD i 0).toNat) (fun i hi => (hblk i hi).1) (R := fun i j => (rowsQ c i).getD j 0) (Q := fun a b => (rowsQ (quo c bl).raw a).getD b 0) ρ
    (fun i hi => diag_zero hval (by omega)) (fun i hi a ha hne => by
      obtain ⟨k1, k2⟩ := hblk i hi
      obtain ⟨f1, f2⟩ := firstB_has hok k1
      rw [quo_row k1]
      have e1 : ((bsums bl (rowsQ c (firstB bl (bl.getD i 0).toNat)) (cnt bl)).set (bl.getD i 0).toNat 0).getD a 0 = bsum bl (rowsQ c (firstB bl (bl.getD i 0).toNat)) a := by
        simp only [List.getD] at hne ⊢
        rw [List.getElem?_set_ne hne]
        exact bsums_getD ha
      have e2 := (hag _ _ _ f2 k2).2 a _ _ (by omega) (by rw [List.getElem?_eq_getElem (by rw [bsums_length]; exact ha), bsums_get _ _ _ _ ha]) (by rw [List.getElem?_eq_getElem (by rw [bsums_length]; exact ha), bsums_get _ _ _ _ ha])
      rw [e1, e2, bsum_blk hok (hrl i hi)])
    (fun b hb => by
      rw [quo_row hb]
      simp [List.getD, bsums_length, hb])
    (fun i => v.getD i 0) (b := b) h1
  have e1 : (bsums bl (stepQ bl.length (rowsQ c) ρ v) (cnt bl))[b]'(by rw [bsums_length]; exact h1) = bsum bl (stepQ bl.length (rowsQ c) ρ v) b := bsums_get _ _ _ _ h1
  have e2 : (stepQ (cnt bl) (rowsQ (quo c bl).raw) ρ (bsums bl v (cnt bl)))[b]'h2 = (stepQ (cnt bl) (rowsQ (quo c bl).raw) ρ (bsums bl v (cnt bl))).getD b 0 := by simp [List.getD, List.getElem?_eq_getElem h2]
  rw [e1, e2, bsum_blk hok (stepQ_length _ _ _ _), stepQ_get h1]
  refine Eq.trans (sg_congr fun j hj => ?_) (key.trans (sg_congr fun a ha => ?_))
  · rw [stepQ_get hj]
  · rw [bsums_getD ha, bsum_blk hok hv]
end Go.Proofs.YtlpdkbmmbdfoiaaGreat
namespace Go.Proofs.YtlpdkbmmbdfoiaaGreat
set_option linter.unusedVariables false

theorem bigQ.over {N : Nat} {q : Rat} (h : bigQ N q) : over 144 N q := by
  obtain ⟨a, h1, rfl⟩ := h
  exact ⟨a, by simp [Go.Proofs.YtlpdkbmmbdfoiaaGreat.fq, sgn], by simpa using h1⟩
end Go.Proofs.YtlpdkbmmbdfoiaaGreat
