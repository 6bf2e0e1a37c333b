/-
  package drydocklaw22: awake.
  Ahead of it: Single states as blocks: the quotient is the chain. No program is named here. The sanity chain: the plain facts. No program is named here.
-/
import Derived.Test.YtoldfpkafcefnaaQLu11
import Derived.Test.YtoldfpkafcefnaaQTa1
import Derived.Test.YtoldfpkafcefnaaQTa6
namespace Go.Proofs.Ytoldfpkafcefnaa
set_option linter.unusedVariables false

def idl (n : Nat) : List Int := (List.range n).map (fun i : Nat => (i : Int))
theorem idl_length (n : Nat) : (idl n).length = n := by simp [idl]
theorem idl_get {n i : Nat} (h : i < n) : (idl n)[i]? = some (i : Int) := by simp [idl, h]
theorem idl_get' {n i : Nat} (h : i < (idl n).length) : (idl n)[i] = (i : Int) := by simp [idl]
theorem idl_succ (n : Nat) : idl (n + 1) = idl n ++ [(n : Int)] := by simp [idl, List.range_succ]
theorem cnt_idl_take (n k : Nat) (h : k ≤ n) : cnt ((idl n).take k) = k := by
  induction k with
  | zero => rfl
  | succ k ih =>
    have hk : k < (idl n).length := by rw [idl_length]; omega
    rw [cnt_take _ _ hk, ih (by omega), idl_get' hk, if_pos rfl]
theorem cnt_idl (n : Nat) : cnt (idl n) = n := by
  have := cnt_idl_take n n (Nat.le_refl _)
  rwa [List.take_of_length_le (by rw [idl_length]; exact Nat.le_refl _)] at this
theorem okB_idl (n : Nat) : okB (idl n) := by
  intro k b hk
  have hk1 := (List.getElem?_eq_some_iff.1 hk).1
  rw [idl_length] at hk1
  rw [idl_get hk1] at hk
  injection hk with hk
  rw [cnt_idl_take n k (by omega)]
  omega
theorem bsum_idl {n : Nat} {row : List Rat} (hr : row.length = n) (j k : Nat) (h : k ≤ n) : bsum ((idl n).take k) (row.take k) (j : Int) = if j < k then row.getD j 0 else 0 := by
  induction k with
  | zero => simp [bsum, bsel, lsum]
  | succ k ih =>
    have hk : k < (idl n).length := by rw [idl_length]; omega
    have hk2 : k < row.length := by omega
    rw [bsum_take _ _ _ _ hk hk2, ih (by omega), idl_get' hk]
    by_cases h1 : k = j
    · subst h1
      rw [if_pos rfl, if_neg (by omega), if_pos (by omega), Rat.zero_add]
      simp [List.getD, List.getElem?_eq_getElem hk2]
    · rw [if_neg (by omega)]
      by_cases h2 : j < k
      · rw [if_pos h2, if_pos (by omega)]
      · rw [if_neg h2, if_neg (by omega)]
theorem bsums_idl {n : Nat} {row : List Rat} (hr : row.length = n) : bsums (idl n) row n = row := by
  refine List.ext_getElem (by rw [bsums_length, hr]) (fun j h1 h2 => ?_)
  rw [bsums_length] at h1
  rw [bsums_get _ _ _ _ h1]
  have := bsum_idl hr j n (Nat.le_refl _)
  rw [List.take_of_length_le (by rw [idl_length]; exact Nat.le_refl _), List.take_of_length_le (by omega), if_pos h1] at this
  rw [this]
  simp [List.getD, List.getElem?_eq_getElem h2]
theorem firstB_idl {n b : Nat} (h : b < n) : firstB (idl n) b = b := firstB_fresh (okB_idl n) (idl_get h) (by rw [cnt_idl_take n b (by omega)])
theorem rowsQ_raw (c : CQ) (i : Nat) : rowsQ c.raw i = c.rates.getD i [] := by
  unfold rowsQ CQ.raw
  simp only [List.getD, List.getElem?_map]
  cases h : c.rates[i]? with
  | none => rfl
  | some r => simp [qs_of]
theorem qs_start_raw (c : CQ) : qs c.raw.start = c.start := qs_of _
theorem single_check {c : CQ} (h : tapeP c) : checkP c.raw (idl c.start.length) := by
  have hl : c.raw.start.length = c.start.length := by simp [CQ.raw]
  refine ⟨okB_idl _, by rw [idl_length]; have := h.n2; omega, by rw [idl_length, hl], h.valid, fun i j b hi hj => ?_⟩
  have h1 := (List.getElem?_eq_some_iff.1 hi).1
  have h2 := (List.getElem?_eq_some_iff.1 hj).1
  rw [idl_length] at h1 h2
  rw [idl_get h1] at hi
  rw [idl_get h2] at hj
  injection hi with hi
  injection hj with hj
  obtain rfl : i = j := by omega
  exact ⟨rfl, alikeQ.refl _ _⟩
theorem single_quo {c : CQ} (h : tapeP c) : quo c.raw (idl c.start.length) = c := by
  obtain ⟨n2, n5, ll, rl, st, sum, rows⟩ := h
  rw [CQ.ext_iff']
  unfold quo
  simp only [cnt_idl, qs_start_raw]
  refine ⟨List.ext_getElem (by simp [rl]) (fun j h1 h2 => ?_), bsums_idl rfl, List.ext_getElem (by simp [ll]) (fun j h1 h2 => ?_)⟩
  · have hj : j < c.start.length := by simpa using h1
    simp only [List.getElem_map, List.getElem_range]
    rw [firstB_idl hj, rowsQ_raw]
    have e : c.rates.getD j [] = c.rates[j] := by simp [List.getD, List.getElem?_eq_getElem h2]
    rw [e]
    obtain ⟨r1, r2, r3, r4⟩ := rows j _ (List.getElem?_eq_getElem h2)
    rw [bsums_idl r1]
    have hj2 : j < c.rates[j].length := by rw [r1]; exact hj
    have h0 := r3 _ (List.getElem?_eq_getElem hj2)
    refine List.ext_getElem (by simp) (fun i h3 h4 => ?_)
    rw [List.getElem_set]
    split
    · next hij => subst hij; exact h0.symm
    · rfl
  · have hj : j < c.start.length := by simpa using h1
    simp only [List.getElem_map, List.getElem_range]
    rw [firstB_idl hj]
    simp [CQ.raw, List.getD, List.getElem?_eq_getElem h2]
end Go.Proofs.Ytoldfpkafcefnaa
namespace Go.Proofs.Ytoldfpkafcefnaa
set_option linter.unusedVariables false

def cAw : CQ := ⟨[[0, 0, 1], [0, 0, 1], [0, 0, 0]], [1, 0, 0], [false, false, true]⟩
theorem smallQ.one : smallQ 1 := ⟨1, 1, by decide, by decide, by decide, by decide⟩
theorem small3 {a b c : Rat} (ha : a = 0 ∨ a = 1) (hb : b = 0 ∨ b = 1) (hc : c = 0 ∨ c = 1) : ∀ q ∈ [a, b, c], smallQ q := by
  intro q hq
  have key : ∀ x : Rat, x = 0 ∨ x = 1 → smallQ x := fun x hx => by
    rcases hx with rfl | rfl
    · exact smallQ.zero
    · exact smallQ.one
  simp at hq
  rcases hq with rfl | rfl | rfl
  · exact key _ ha
  · exact key _ hb
  · exact key _ hc
theorem cAw_tape : tapeP cAw := by
  refine ⟨by decide, by decide, rfl, rfl, small3 (Or.inr rfl) (Or.inl rfl) (Or.inl rfl), by decide +kernel, fun i r hr => ?_⟩
  have hi : i < 3 := (List.getElem?_eq_some_iff.1 hr).1
  rcases (show i = 0 ∨ i = 1 ∨ i = 2 by omega) with rfl | rfl | rfl
  · obtain rfl : [0, 0, 1] = r := by simpa [cAw] using hr
    exact ⟨rfl, small3 (Or.inl rfl) (Or.inl rfl) (Or.inr rfl), fun x hx => by simpa using hx.symm, fun h => by simp [cAw] at h⟩
  · obtain rfl : [0, 0, 1] = r := by simpa [cAw] using hr
    exact ⟨rfl, small3 (Or.inl rfl) (Or.inl rfl) (Or.inr rfl), fun x hx => by simpa using hx.symm, fun h => by simp [cAw] at h⟩
  · obtain rfl : [0, 0, 0] = r := by simpa [cAw] using hr
    exact ⟨rfl, small3 (Or.inl rfl) (Or.inl rfl) (Or.inl rfl), fun x hx => by simpa using hx.symm, fun _ q hq => by simpa using hq⟩
theorem ok001 : okB [0, 0, 1] := by
  have h0 : okB [] := fun k b h => by simp at h
  have h1 : okB ([] ++ [0]) := okB_snoc h0 (by decide) (by decide)
  have h2 : okB (([] ++ [0]) ++ [0]) := okB_snoc h1 (by decide) (by decide)
  exact okB_snoc h2 (by decide) (by decide)
theorem split001 {f : Nat → List Rat} {nx : List Int} (h : SplitP [0, 0, 1] f nx) (hf : f 0 = f 1) : nx = [0, 0, 1] := by
  obtain ⟨ok, len, rel⟩ := h
  match nx, len with
  | [a, b, c], _ =>
    obtain ⟨a1, a2⟩ := ok 0 a rfl
    have ha : a = 0 := by have : cnt ([a, b, c].take 0) = 0 := rfl; rw [this] at a2; omega
    subst ha
    have hb := (rel 0 1 0 0 rfl rfl).2 ⟨rfl, by rw [hf]; exact alikeQ.refl _ _⟩
    have hb2 : b = 0 := by simpa using hb.symm
    subst hb2
    obtain ⟨c1, c2⟩ := ok 2 c rfl
    have hc : c ≠ 0 := fun e => by
      subst e
      have := ((rel 0 2 0 1 rfl rfl).1 rfl).1
      omega
    have h2 : cnt ([0, 0, c].take 2) = 1 := rfl
    rw [h2] at c2
    obtain rfl : c = 1 := by omega
    rfl
theorem sumF_same (bl : List Int) : sumF cAw.raw bl 0 = sumF cAw.raw bl 1 := by unfold sumF; rw [rowsQ_raw, rowsQ_raw]; rfl
theorem refs001 {bl : List Int} (h : Refs cAw.raw bl) : bl = [0, 0, 1] := by
  induction h with
  | zero => decide
  | step h1 h2 ih => subst ih; exact split001 h2 (sumF_same _)
theorem coarse001 {nx : List Int} (h : CoarseP cAw.raw nx) : nx = [0, 0, 1] := by
  obtain ⟨bl, h1, h2, _⟩ := h
  have := refs001 h1
  subst this
  exact split001 h2 (sumF_same _)
theorem check001 : checkP cAw.raw [0, 0, 1] := by
  refine ⟨ok001, by decide, by simp [CQ.raw, cAw], cAw_tape.valid, fun i j b hi hj => ?_⟩
  have h1 : i < 3 := (List.getElem?_eq_some_iff.1 hi).1
  have h2 : j < 3 := (List.getElem?_eq_some_iff.1 hj).1
  have hs := sumF_same [0, 0, 1]
  unfold sumF at hs
  rcases (show i = 0 ∨ i = 1 ∨ i = 2 by omega) with rfl | rfl | rfl <;> rcases (show j = 0 ∨ j = 1 ∨ j = 2 by omega) with rfl | rfl | rfl
  · exact ⟨rfl, alikeQ.refl _ _⟩
  · exact ⟨rfl, by show alikeQ b (bsums [0, 0, 1] (rowsQ cAw.raw 0) (cnt [0, 0, 1])) (bsums [0, 0, 1] (rowsQ cAw.raw 1) (cnt [0, 0, 1])); rw [hs]; exact alikeQ.refl _ _⟩
  · exfalso; simp at hi hj; omega
  · exact ⟨rfl, by show alikeQ b (bsums [0, 0, 1] (rowsQ cAw.raw 1) (cnt [0, 0, 1])) (bsums [0, 0, 1] (rowsQ cAw.raw 0) (cnt [0, 0, 1])); rw [hs]; exact alikeQ.refl _ _⟩
  · exact ⟨rfl, alikeQ.refl _ _⟩
  · exfalso; simp at hi hj; omega
  · exfalso; simp at hi hj; omega
  · exfalso; simp at hi hj; omega
  · exact ⟨rfl, alikeQ.refl _ _⟩
theorem check011 : ¬ checkP cAw.raw [0, 1, 1] := by
  rintro ⟨_, _, _, _, h⟩
  have := (h 1 2 1 rfl rfl).1
  simp [CQ.raw, cAw] at this
theorem quo001 : quo cAw.raw [0, 0, 1] = ⟨[[0, 1], [0, 0]], [1, 0], [false, true]⟩ := by
  rw [CQ.ext_iff']
  refine ⟨by decide +kernel, by decide +kernel, by decide +kernel⟩
theorem small2 {a b : Rat} (ha : a = 0 ∨ a = 1) (hb : b = 0 ∨ b = 1) : ∀ q ∈ [a, b], smallQ q := fun q hq => small3 ha hb (Or.inl rfl) q (by simp at hq ⊢; rcases hq with h | h <;> simp [h])
theorem quo001_tape : tapeP ⟨[[0, 1], [0, 0]], [1, 0], [false, true]⟩ := by
  refine ⟨by decide, by decide, rfl, rfl, small2 (Or.inr rfl) (Or.inl rfl), by decide +kernel, fun i r hr => ?_⟩
  have hi : i < 2 := (List.getElem?_eq_some_iff.1 hr).1
  rcases (show i = 0 ∨ i = 1 by omega) with rfl | rfl
  · obtain rfl : [0, 1] = r := by simpa using hr
    exact ⟨rfl, small2 (Or.inl rfl) (Or.inr rfl), fun x hx => by simpa using hx.symm, fun h => by simp at h⟩
  · obtain rfl : [0, 0] = r := by simpa using hr
    exact ⟨rfl, small2 (Or.inl rfl) (Or.inl rfl), fun x hx => by simpa using hx.symm, fun _ q hq => by simpa using hq⟩
theorem zero_bad : ¬ validP ⟨[], [], []⟩ := fun h => by have := h.1; simp at this
end Go.Proofs.Ytoldfpkafcefnaa
namespace Go.Proofs.Ytoldfpkafcefnaa
set_option linter.unusedVariables false
set_option linter.unusedSimpArgs false
open Go.RowKit

/-- Three fractions, just laid. -/
theorem FracsC.lit3 {w : World} {t : TypeId} {x0 y0 z0 x1 y1 z1 x2 y2 z2 : Value} {p q r : Rat} (h0 : FracC w (.agg #[x0, y0, z0]) p) (h1 : FracC w (.agg #[x1, y1, z1]) q) (h2 : FracC w (.agg #[x2, y2, z2]) r) :
    FracsC (w.alloc (.cells #[x0, y0, z0, x1, y1, z1, x2, y2, z2] t)) (.slice (some ⟨w.heap.size, 0, none⟩) 3 3) [p, q, r] := by
  have hb := below_alloc w (.cells #[x0, y0, z0, x1, y1, z1, x2, y2, z2] t)
  have hh := heap_alloc_new w (.cells #[x0, y0, z0, x1, y1, z1, x2, y2, z2] t)
  have key : ∀ (i : Nat) (v : Value), #[x0, y0, z0, x1, y1, z1, x2, y2, z2][i]? = some v → (w.alloc (.cells #[x0, y0, z0, x1, y1, z1, x2, y2, z2] t)).cell? (ptr (.slice (some ⟨w.heap.size, 0, none⟩) 3 3) i) = some v := fun i v hv => by
    have hc := cell_of_row (w.alloc (.cells #[x0, y0, z0, x1, y1, z1, x2, y2, z2] t)) w.heap.size i _ t (0, 0) hh
    simp only [ptr, base, Addr.add_lit, Nat.zero_add]
    rw [hc]; exact hv
  refine ⟨⟨_, 3, 3, rfl, Nat.le_refl _, by decide, fun e => by cases e⟩, rfl, fun j hj => ?_⟩
  have part : ∀ {x y z : Value} {s : Rat}, FracC w (.agg #[x, y, z]) s → x = .bool (decide (s < 0)) ∧ NatC w y s.num.natAbs ∧ NatC w z s.den := fun h => by
    obtain ⟨a, b, ha, h4, h5⟩ := h
    injection ha with ha
    injection ha with ha
    simp only [List.cons.injEq, and_true] at ha
    obtain ⟨rfl, rfl, rfl⟩ := ha
    exact ⟨rfl, h4, h5⟩
  obtain ⟨rfl, a1, a2⟩ := part h0
  obtain ⟨rfl, b1, b2⟩ := part h1
  obtain ⟨rfl, c1, c2⟩ := part h2
  rcases (show j = 0 ∨ j = 1 ∨ j = 2 by simp at hj; omega) with rfl | rfl | rfl
  · exact ⟨_, _, key 0 _ rfl, key 1 _ rfl, key 2 _ rfl, a1.below hb, a2.below hb⟩
  · exact ⟨_, _, key 3 _ rfl, key 4 _ rfl, key 5 _ rfl, b1.below hb, b2.below hb⟩
  · exact ⟨_, _, key 6 _ rfl, key 7 _ rfl, key 8 _ rfl, c1.below hb, c2.below hb⟩
/-- Three one-cell values, just laid. -/
theorem CellsV.lit3 (w : World) (t : TypeId) (x y z : Value) : CellsV (w.alloc (.cells #[x, y, z] t)) (.slice (some ⟨w.heap.size, 0, none⟩) 3 3) [x, y, z] := by
  have hh := heap_alloc_new w (.cells #[x, y, z] t)
  refine ⟨⟨_, 3, 3, rfl, Nat.le_refl _, by decide, fun e => by cases e⟩, rfl, fun j hj => ?_⟩
  have hc := cell_of_row (w.alloc (.cells #[x, y, z] t)) w.heap.size j _ t (0, 0) hh
  simp only [ptr, base, Addr.add_lit, Nat.zero_add]
  rw [hc]
  rcases (show j = 0 ∨ j = 1 ∨ j = 2 by simp at hj; omega) with rfl | rfl | rfl <;> rfl
theorem MatC.lit3 {w : World} {t : TypeId} {x y z : Value} {p q r : List Rat} (h0 : FracsC w x p) (h1 : FracsC w y q) (h2 : FracsC w z r) : MatC (w.alloc (.cells #[x, y, z] t)) (.slice (some ⟨w.heap.size, 0, none⟩) 3 3) [p, q, r] := by
  have hb := below_alloc w (.cells #[x, y, z] t)
  have hc := CellsV.lit3 w t x y z
  refine ⟨hc.sl, rfl, fun j hj => ?_⟩
  rcases (show j = 0 ∨ j = 1 ∨ j = 2 by simp at hj; omega) with rfl | rfl | rfl
  · exact ⟨_, hc.cell 0 (by simp), h0.below hb⟩
  · exact ⟨_, hc.cell 1 (by simp), h1.below hb⟩
  · exact ⟨_, hc.cell 2 (by simp), h2.below hb⟩
/-- The sanity chain, laid from its two fractions. -/
theorem cAw_lit {w : World} {tF tR tB : TypeId} {x0 y0 z0 x1 y1 z1 : Value} (h0 : FracC w (.agg #[x0, y0, z0]) 0) (h1 : FracC w (.agg #[x1, y1, z1]) 1) (W : World)
    (hW : W = ((((((w.alloc (.cells #[x0, y0, z0, x0, y0, z0, x1, y1, z1] tF)).alloc (.cells #[x0, y0, z0, x0, y0, z0, x1, y1, z1] tF)).alloc (.cells #[x0, y0, z0, x0, y0, z0, x0, y0, z0] tF)).alloc
      (.cells #[.slice (some ⟨w.heap.size, 0, none⟩) 3 3, .slice (some ⟨w.heap.size + 1, 0, none⟩) 3 3, .slice (some ⟨w.heap.size + 1 + 1, 0, none⟩) 3 3] tR)).alloc (.cells #[x1, y1, z1, x0, y0, z0, x0, y0, z0] tF)).alloc (.cells #[.bool false, .bool false, .bool true] tB))) :
    ChainC W (.agg #[.slice (some ⟨w.heap.size + 1 + 1 + 1, 0, none⟩) 3 3, .slice (some ⟨w.heap.size + 1 + 1 + 1 + 1, 0, none⟩) 3 3, .slice (some ⟨w.heap.size + 1 + 1 + 1 + 1 + 1, 0, none⟩) 3 3]) cAw ∧ Below w.heap.size w W := by
  subst hW
  have sz : ∀ (w : World) (o : Obj), (w.alloc o).heap.size = w.heap.size + 1 := fun w o => by simp
  have ba := fun (w : World) (o : Obj) => below_alloc w o
  have r0 := FracsC.lit3 (t := tF) h0 h0 h1
  have r1 := FracsC.lit3 (t := tF) (h0.below (ba w (.cells #[x0, y0, z0, x0, y0, z0, x1, y1, z1] tF))) (h0.below (ba _ _)) (h1.below (ba _ _))
  have r2 := FracsC.lit3 (t := tF) ((h0.below (ba w (.cells #[x0, y0, z0, x0, y0, z0, x1, y1, z1] tF))).below (ba _ (.cells #[x0, y0, z0, x0, y0, z0, x1, y1, z1] tF))) ((h0.below (ba _ _)).below (ba _ _)) ((h0.below (ba _ _)).below (ba _ _))
  have m := MatC.lit3 (t := tR) (((r0.below (ba _ (.cells #[x0, y0, z0, x0, y0, z0, x1, y1, z1] tF))).below (ba _ (.cells #[x0, y0, z0, x0, y0, z0, x0, y0, z0] tF)))) (r1.below (ba _ (.cells #[x0, y0, z0, x0, y0, z0, x0, y0, z0] tF))) r2
  have hb4 := below_then (below_then (below_then (ba w (.cells #[x0, y0, z0, x0, y0, z0, x1, y1, z1] tF)) (ba _ (.cells #[x0, y0, z0, x0, y0, z0, x1, y1, z1] tF))) (ba _ (.cells #[x0, y0, z0, x0, y0, z0, x0, y0, z0] tF)))
    (ba _ (.cells #[.slice (some ⟨w.heap.size, 0, none⟩) 3 3, .slice (some ⟨w.heap.size + 1, 0, none⟩) 3 3, .slice (some ⟨w.heap.size + 1 + 1, 0, none⟩) 3 3] tR))
  have st := FracsC.lit3 (t := tF) (h1.below hb4) (h0.below hb4) (h0.below hb4)
  simp only [sz] at m st
  have lo := CellsV.lit3 (((((w.alloc (.cells #[x0, y0, z0, x0, y0, z0, x1, y1, z1] tF)).alloc (.cells #[x0, y0, z0, x0, y0, z0, x1, y1, z1] tF)).alloc (.cells #[x0, y0, z0, x0, y0, z0, x0, y0, z0] tF)).alloc
      (.cells #[.slice (some ⟨w.heap.size, 0, none⟩) 3 3, .slice (some ⟨w.heap.size + 1, 0, none⟩) 3 3, .slice (some ⟨w.heap.size + 1 + 1, 0, none⟩) 3 3] tR)).alloc (.cells #[x1, y1, z1, x0, y0, z0, x0, y0, z0] tF)) tB (.bool false) (.bool false) (.bool true)
  simp only [sz] at lo
  refine ⟨⟨_, _, _, rfl, (m.below (ba _ _)).below (ba _ _), st.below (ba _ _), lo⟩, below_then (below_then hb4 (ba _ _)) (ba _ _)⟩
theorem cAw_lit' {w : World} {tF tR tB : TypeId} {x0 y0 z0 x1 y1 z1 : Value} {B : Nat} (hB : w.heap.size = B) (h0 : FracC w (.agg #[x0, y0, z0]) 0) (h1 : FracC w (.agg #[x1, y1, z1]) 1) (W : World)
    (hW : W = ((((((w.alloc (.cells #[x0, y0, z0, x0, y0, z0, x1, y1, z1] tF)).alloc (.cells #[x0, y0, z0, x0, y0, z0, x1, y1, z1] tF)).alloc (.cells #[x0, y0, z0, x0, y0, z0, x0, y0, z0] tF)).alloc
      (.cells #[.slice (some ⟨B, 0, none⟩) 3 3, .slice (some ⟨B + 1, 0, none⟩) 3 3, .slice (some ⟨B + 1 + 1, 0, none⟩) 3 3] tR)).alloc (.cells #[x1, y1, z1, x0, y0, z0, x0, y0, z0] tF)).alloc (.cells #[.bool false, .bool false, .bool true] tB))) :
    ChainC W (.agg #[.slice (some ⟨B + 1 + 1 + 1, 0, none⟩) 3 3, .slice (some ⟨B + 1 + 1 + 1 + 1, 0, none⟩) 3 3, .slice (some ⟨B + 1 + 1 + 1 + 1 + 1, 0, none⟩) 3 3]) cAw ∧ Below w.heap.size w W ∧ W.heap.size = B + 1 + 1 + 1 + 1 + 1 + 1 := by
  subst hB
  obtain ⟨h2, h3⟩ := cAw_lit h0 h1 W hW
  exact ⟨h2, h3, by subst hW; simp⟩
theorem ints3 (w : World) (t : TypeId) (a b c : Int) : IntsV (w.alloc (.cells #[.int .i64 a, .int .i64 b, .int .i64 c] t)) (.slice (some ⟨w.heap.size, 0, none⟩) 3 3) [a, b, c] := CellsV.lit3 w t _ _ _
theorem ints3' {B : Nat} (w : World) (t : TypeId) (a b c : Int) (hB : w.heap.size = B) : IntsV (w.alloc (.cells #[.int .i64 a, .int .i64 b, .int .i64 c] t)) (.slice (some ⟨B, 0, none⟩) 3 3) [a, b, c] := by subst hB; exact ints3 w t a b c
theorem zero_chain (w : World) : ChainN w (.agg #[.slice none 0 0, .slice none 0 0, .slice none 0 0]) ⟨[], [], []⟩ :=
  ⟨_, _, _, rfl, ⟨IsSl.nil, rfl, fun j h => by simp at h⟩, FracsN.nil w, ⟨IsSl.nil, rfl, fun j h => by simp at h⟩⟩
end Go.Proofs.Ytoldfpkafcefnaa
