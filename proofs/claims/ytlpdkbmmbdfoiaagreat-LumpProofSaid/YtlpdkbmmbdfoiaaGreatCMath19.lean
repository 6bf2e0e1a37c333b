/-
  Copies of states form a lumping, whose quotient is the chain. No program is named here.
  Ahead of it: The coarsest lumping: the plain law. No program is named here. Single states as blocks: the quotient is the chain. No program is named here. Copies of states: the plain law. No program is named here.
-/
import Derived.Test.YtlpdkbmmbdfoiaaGreatCMath14
import Derived.Test.YtlpdkbmmbdfoiaaGreatCMath13
namespace Go.Proofs.YtlpdkbmmbdfoiaaGreat
set_option linter.unusedVariables false

theorem okB_has {l : List Int} (h : okB l) (k : Nat) : ∀ b : Nat, b < cnt (l.take k) → ∃ j, j < k ∧ l[j]? = some (b : Int) := by
  induction k with
  | zero => intro b hb; simp [cnt] at hb
  | succ k ih =>
    intro b hb
    by_cases hk : k < l.length
    · have hc := cnt_take l k hk
      by_cases h1 : l[k] = (cnt (l.take k) : Int)
      · rw [if_pos h1] at hc
        by_cases h2 : b = cnt (l.take k)
        · exact ⟨k, by omega, by rw [List.getElem?_eq_getElem hk, h1, h2]⟩
        · obtain ⟨j, h3, h4⟩ := ih b (by omega)
          exact ⟨j, by omega, h4⟩
      · rw [if_neg h1] at hc
        obtain ⟨j, h3, h4⟩ := ih b (by omega)
        exact ⟨j, by omega, h4⟩
    · rw [List.take_of_length_le (by omega)] at hb
      have h5 : cnt l = cnt (l.take k) := by rw [List.take_of_length_le (by omega)]
      obtain ⟨j, h3, h4⟩ := ih b (by omega)
      exact ⟨j, by omega, h4⟩
theorem okB_new {l : List Int} (h : okB l) {j k : Nat} {b : Int} (hj : l[j]? = some b) (hjk : j < k) : b < (cnt (l.take k) : Int) := by
  obtain ⟨h1, h2⟩ := h j b hj
  obtain ⟨h3, h4⟩ := List.getElem?_eq_some_iff.1 hj
  have h5 := cnt_take l j h3
  have h6 := cnt_take_mono l (show j + 1 ≤ k by omega)
  split at h5 <;> omega
theorem SplitP.mono {bl nx : List Int} {f : Nat → List Rat} (h : SplitP bl f nx) (hok : okB bl) (k : Nat) : cnt (bl.take k) ≤ cnt (nx.take k) := by
  obtain ⟨h1, h2, h3⟩ := h
  induction k with
  | zero => exact Nat.le_refl _
  | succ k ih =>
    by_cases hk : k < bl.length
    · have hk2 : k < nx.length := by omega
      have hc := cnt_take bl k hk
      have hd := cnt_take nx k hk2
      by_cases h4 : bl[k] = (cnt (bl.take k) : Int)
      · rw [if_pos h4] at hc
        by_cases h5 : nx[k] = (cnt (nx.take k) : Int)
        · rw [if_pos h5] at hd; omega
        · exfalso
          obtain ⟨h6, h7⟩ := h1 k _ (List.getElem?_eq_getElem hk2)
          obtain ⟨b, hb⟩ : ∃ b : Nat, nx[k] = (b : Int) := ⟨nx[k].toNat, by omega⟩
          obtain ⟨j, h8, h9⟩ := okB_has h1 k b (by omega)
          have hj : j < bl.length := by omega
          have h10 := (h3 j k _ _ (List.getElem?_eq_getElem hj) (List.getElem?_eq_getElem hk)).1 (by rw [h9, List.getElem?_eq_getElem hk2, hb])
          have h11 := okB_new hok (List.getElem?_eq_getElem hj) h8
          rw [h10.1] at h11
          omega
      · rw [if_neg h4] at hc
        have := cnt_take_le nx k
        omega
    · rw [List.take_of_length_le (by omega), List.take_of_length_le (by omega)]
      rw [List.take_of_length_le (by omega), List.take_of_length_le (by omega)] at ih
      exact ih
theorem SplitP.cnt_le {bl nx : List Int} {f : Nat → List Rat} (h : SplitP bl f nx) (hok : okB bl) : cnt bl ≤ cnt nx := by
  have := h.mono hok bl.length
  rw [List.take_length, List.take_of_length_le (by have := h.2.1; omega)] at this
  exact this
/-- The first partition: lost, or not. -/
def lostB (c : RC) : List Int := c.lost.map (fun x => if x = c.lost.getD 0 false then 0 else 1)
theorem okB_two {l : List Int} (h0 : l[0]? = some 0) (h : ∀ x ∈ l, x = 0 ∨ x = 1) : okB l := by
  intro k b hk
  have hm := h b (List.mem_of_getElem? hk)
  have hk1 := (List.getElem?_eq_some_iff.1 hk).1
  cases k with
  | zero =>
    rw [h0] at hk
    injection hk with hk
    subst hk
    simp
  | succ k =>
    have h1 := cnt_take_mono l (show 1 ≤ k + 1 by omega)
    have h2 := cnt_take l 0 (by omega)
    have h3 : l[0]'(by omega) = 0 := by rw [List.getElem?_eq_getElem (by omega)] at h0; injection h0
    rw [if_pos (by rw [h3]; rfl)] at h2
    have h4 : cnt (l.take 0) = 0 := rfl
    rw [h4] at h2
    have h5 : cnt (l.take 1) = 1 := h2
    omega
theorem lostB_ok {c : RC} (h : 0 < c.lost.length) : okB (lostB c) := by
  refine okB_two ?_ (fun x hx => ?_)
  · simp [lostB, List.getElem?_map, List.getElem?_eq_getElem h, List.getD]
  · obtain ⟨y, _, rfl⟩ := List.mem_map.1 hx
    split
    · exact Or.inl rfl
    · exact Or.inr rfl
/-- The sums of state i over the blocks. -/
def sumF (c : RC) (bl : List Int) : Nat → List Rat := fun i => bsums bl (rowsQ c i) (cnt bl)
/-- The partitions on the way. -/
inductive Refs (c : RC) : List Int → Prop
  | zero : Refs c (lostB c)
  | step {bl nx : List Int} : Refs c bl → SplitP bl (sumF c bl) nx → Refs c nx
/-- What Coarsest returns. -/
def CoarseP (c : RC) (nx : List Int) : Prop := ∃ bl, Refs c bl ∧ SplitP bl (sumF c bl) nx ∧ cnt nx = cnt bl
theorem Refs.ok {c : RC} {bl : List Int} (h : Refs c bl) (hn : 0 < c.lost.length) : okB bl ∧ bl.length = c.lost.length := by
  induction h with
  | zero => exact ⟨lostB_ok hn, by simp [lostB]⟩
  | step _ h2 ih => exact ⟨h2.1, h2.2.1.trans ih.2⟩
end Go.Proofs.YtlpdkbmmbdfoiaaGreat
namespace Go.Proofs.YtlpdkbmmbdfoiaaGreat
set_option linter.unusedVariables false

def idl (n : Nat) : List Int := (List.range n).map (fun i : Nat => (i : Int))
theorem idl_length (n : Nat) : (idl n).length = n := by simp [idl]
theorem idl_get {n i : Nat} (h : i < n) : (idl n)[i]? = some (i : Int) := by simp [idl, h]
theorem idl_get' {n i : Nat} (h : i < (idl n).length) : (idl n)[i] = (i : Int) := by simp [idl]
theorem idl_succ (n : Nat) : idl (n + 1) = idl n ++ [(n : Int)] := by simp [idl, List.range_succ]
theorem cnt_idl_take (n k : Nat) (h : k ≤ n) : cnt ((idl n).take k) = k := by
  induction k with
  | zero => rfl
  | succ k ih =>
    have hk : k < (idl n).length := by rw [idl_length]; omega
    rw [cnt_take _ _ hk, ih (by omega), idl_get' hk, if_pos rfl]
theorem cnt_idl (n : Nat) : cnt (idl n) = n := by
  have := cnt_idl_take n n (Nat.le_refl _)
  rwa [List.take_of_length_le (by rw [idl_length]; exact Nat.le_refl _)] at this
theorem okB_idl (n : Nat) : okB (idl n) := by
  intro k b hk
  have hk1 := (List.getElem?_eq_some_iff.1 hk).1
  rw [idl_length] at hk1
  rw [idl_get hk1] at hk
  injection hk with hk
  rw [cnt_idl_take n k (by omega)]
  omega
theorem bsum_idl {n : Nat} {row : List Rat} (hr : row.length = n) (j k : Nat) (h : k ≤ n) : bsum ((idl n).take k) (row.take k) (j : Int) = if j < k then row.getD j 0 else 0 := by
  induction k with
  | zero => simp [bsum, bsel, lsum]
  | succ k ih =>
    have hk : k < (idl n).length := by rw [idl_length]; omega
    have hk2 : k < row.length := by omega
    rw [bsum_take _ _ _ _ hk hk2, ih (by omega), idl_get' hk]
    by_cases h1 : k = j
    · subst h1
      rw [if_pos rfl, if_neg (by omega), if_pos (by omega), Rat.zero_add]
      simp [List.getD, List.getElem?_eq_getElem hk2]
    · rw [if_neg (by omega)]
      by_cases h2 : j < k
      · rw [if_pos h2, if_pos (by omega)]
      · rw [if_neg h2, if_neg (by omega)]
theorem bsums_idl {n : Nat} {row : List Rat} (hr : row.length = n) : bsums (idl n) row n = row := by
  refine List.ext_getElem (by rw [bsums_length, hr]) (fun j h1 h2 => ?_)
  rw [bsums_length] at h1
  rw [bsums_get _ _ _ _ h1]
  have := bsum_idl hr j n (Nat.le_refl _)
  rw [List.take_of_length_le (by rw [idl_length]; exact Nat.le_refl _), List.take_of_length_le (by omega), if_pos h1] at this
  rw [this]
  simp [List.getD, List.getElem?_eq_getElem h2]
theorem firstB_idl {n b : Nat} (h : b < n) : firstB (idl n) b = b := firstB_fresh (okB_idl n) (idl_get h) (by rw [cnt_idl_take n b (by omega)])
theorem rowsQ_raw (c : CQ) (i : Nat) : rowsQ c.raw i = c.rates.getD i [] := by
  unfold rowsQ CQ.raw
  simp only [List.getD, List.getElem?_map]
  cases h : c.rates[i]? with
  | none => rfl
  | some r => simp [qs_of]
theorem qs_start_raw (c : CQ) : qs c.raw.start = c.start := qs_of _
theorem single_check {c : CQ} (h : tapeP c) : checkP c.raw (idl c.start.length) := by
  have hl : c.raw.start.length = c.start.length := by simp [CQ.raw]
  refine ⟨okB_idl _, by rw [idl_length]; have := h.n2; omega, by rw [idl_length, hl], h.valid, fun i j b hi hj => ?_⟩
  have h1 := (List.getElem?_eq_some_iff.1 hi).1
  have h2 := (List.getElem?_eq_some_iff.1 hj).1
  rw [idl_length] at h1 h2
  rw [idl_get h1] at hi
  rw [idl_get h2] at hj
  injection hi with hi
  injection hj with hj
  obtain rfl : i = j := by omega
  exact ⟨rfl, alikeQ.refl _ _⟩
theorem single_quo {c : CQ} (h : tapeP c) : quo c.raw (idl c.start.length) = c := by
  obtain ⟨n2, n5, ll, rl, st, sum, rows⟩ := h
  rw [CQ.ext_iff']
  unfold quo
  simp only [cnt_idl, qs_start_raw]
  refine ⟨List.ext_getElem (by simp [rl]) (fun j h1 h2 => ?_), bsums_idl rfl, List.ext_getElem (by simp [ll]) (fun j h1 h2 => ?_)⟩
  · have hj : j < c.start.length := by simpa using h1
    simp only [List.getElem_map, List.getElem_range]
    rw [firstB_idl hj, rowsQ_raw]
    have e : c.rates.getD j [] = c.rates[j] := by simp [List.getD, List.getElem?_eq_getElem h2]
    rw [e]
    obtain ⟨r1, r2, r3, r4⟩ := rows j _ (List.getElem?_eq_getElem h2)
    rw [bsums_idl r1]
    have hj2 : j < c.rates[j].length := by rw [r1]; exact hj
    have h0 := r3 _ (List.getElem?_eq_getElem hj2)
    refine List.ext_getElem (by simp) (fun i h3 h4 => ?_)
    rw [List.getElem_set]
    split
    · next hij => subst hij; exact h0.symm
    · rfl
  · have hj : j < c.start.length := by simpa using h1
    simp only [List.getElem_map, List.getElem_range]
    rw [firstB_idl hj]
    simp [CQ.raw, List.getD, List.getElem?_eq_getElem h2]
end Go.Proofs.YtlpdkbmmbdfoiaaGreat
namespace Go.Proofs.YtlpdkbmmbdfoiaaGreat
set_option linter.unusedVariables false

/-- of and share are copies of n states: each state's shares add up to 1. -/
structure CopP (n : Nat) (of : List Int) (share : List Rat) : Prop where
  len : share.length = of.length
  le : of.length ≤ 10
  ok : okB of
  num : cnt of = n
  sm : ∀ q ∈ share, smallQ q
  one : ∀ i : Nat, i < n → bsum of share (i : Int) = 1
/-- The chain of the copies. -/
def copQ (c : CQ) (of : List Int) (share : List Rat) : CQ :=
  ⟨(List.range of.length).map fun a => (List.range of.length).map fun b => if of.getD a 0 = of.getD b 0 then 0 else (c.rates.getD (of.getD a 0).toNat []).getD (of.getD b 0).toNat 0 * share.getD b 0,
   (List.range of.length).map fun a => c.start.getD (of.getD a 0).toNat 0 * share.getD a 0,
   (List.range of.length).map fun a => c.lost.getD (of.getD a 0).toNat false⟩
/-- A product of two small fractions. -/
def midQ (q : Rat) : Prop := ∃ a b : Nat, a ≤ 16 ∧ 1 ≤ b ∧ b ≤ 16 ∧ q = fq false a b
theorem smallQ.mul {p q : Rat} (hp : smallQ p) (hq : smallQ q) : midQ (p * q) := by
  obtain ⟨a, b, h1, h2, h3, rfl⟩ := hp
  obtain ⟨c, d, h4, h5, h6, rfl⟩ := hq
  exact ⟨a * c, b * d, Nat.mul_le_mul h1 h4, Nat.mul_le_mul h2 h5, Nat.mul_le_mul h3 h6, fq_mul _ _ _ _ _ _⟩
theorem midQ.zero : midQ 0 := ⟨0, 1, by decide, by decide, by decide, by decide⟩
theorem midQ.num {q : Rat} (h : midQ q) : q.num.natAbs ≤ 16 := by
  obtain ⟨a, b, h1, h2, h3, rfl⟩ := h
  rw [fq_natAbs _ _ _ (by omega)]
  exact Nat.le_trans (Nat.div_le_self _ _) h1
theorem midQ.den {q : Rat} (h : midQ q) : q.den ≤ 16 := by
  obtain ⟨a, b, h1, h2, h3, rfl⟩ := h
  rw [fq_den _ _ _ (by omega)]
  exact Nat.le_trans (Nat.div_le_self _ _) h3
theorem midQ.nonneg {q : Rat} (h : midQ q) : ¬ q < 0 := by
  obtain ⟨a, b, h1, h2, h3, rfl⟩ := h
  have := fq_neg false a b (by omega)
  simp at this
  first | exact this | exact Rat.not_lt.2 this
theorem midQ.wt {q : Rat} (h : midQ q) : wt q ≤ 10 := by
  have h1 : nbits q.num.natAbs ≤ 5 := nbits_le.2 (by have := h.num; omega)
  have h2 : nbits q.den ≤ 5 := nbits_le.2 (by have := h.den; omega)
  unfold Go.Proofs.YtlpdkbmmbdfoiaaGreat.wt
  split
  · omega
  · split <;> omega
theorem midQ.fits {q : Rat} (h : midQ q) : fits q := ⟨nbits_le.2 (Nat.lt_of_le_of_lt h.num (by decide +kernel)), nbits_le.2 (Nat.lt_of_le_of_lt h.den (by decide +kernel))⟩
theorem wts_mid {l : List Rat} (h : ∀ q ∈ l, midQ q) : wts l ≤ 10 * l.length := by
  induction l with
  | nil => simp [wts]
  | cons x l ih =>
    have h1 := (h x (by simp)).wt
    have h2 := ih (fun q hq => h q (by simp [hq]))
    rw [wts_cons, List.length_cons]
    omega
theorem rowP_mid {l : List Rat} {n : Nat} (hn : l.length = n) (hn5 : n ≤ 128) (h : ∀ q ∈ l, midQ q) : rowP (l.map RF.of) n := by
  refine ⟨fun x hx => ?_, by rw [List.length_map]; exact hn, by rw [qs_of]; have := wts_mid h; omega⟩
  obtain ⟨q, hq, rfl⟩ := List.mem_map.1 hx
  have hs := h q hq
  refine ⟨RF.of_ok hs.fits, ?_⟩
  rw [RF.of_q]
  exact ⟨hs.nonneg, nlen_le.2 (by have := hs.num; simp [pw]; omega), nlen_le.2 (by have := hs.den; simp [pw]; omega)⟩
/-- Sums over blocks of products. -/
theorem bsum_mul {of : List Int} {share row : List Rat} (hl : share.length = of.length) (hr : row.length = of.length) (i : Nat) (x : Rat) (h : ∀ (k : Nat) (h1 : k < of.length) (h2 : k < row.length) (h3 : k < share.length), of[k] = (i : Int) → row[k] = x * share[k]) :
    ∀ k, k ≤ of.length → bsum (of.take k) (row.take k) (i : Int) = x * bsum (of.take k) (share.take k) (i : Int) := by
  intro k
  induction k with
  | zero => intro _; simp [bsum, bsel, lsum]
  | succ k ih =>
    intro hk
    have h1 : k < of.length := by omega
    have h2 : k < row.length := by omega
    have h3 : k < share.length := by omega
    rw [bsum_take _ _ _ _ h1 h2, bsum_take _ _ _ _ h1 h3, ih (by omega)]
    by_cases hb : of[k] = (i : Int)
    · rw [if_pos hb, if_pos hb, h k h1 h2 h3 hb, Rat.mul_add]
    · rw [if_neg hb, if_neg hb]
theorem bsum_full {of : List Int} {row : List Rat} (hr : row.length = of.length) (b : Int) : bsum (of.take of.length) (row.take of.length) b = bsum of row b := by
  rw [List.take_length, List.take_of_length_le (by omega)]
theorem foldl_shift (l : List Rat) (s x : Rat) : l.foldl (· + ·) (s + x) = l.foldl (· + ·) s + x := by
  induction l generalizing s with
  | nil => rfl
  | cons y l ih =>
    simp only [List.foldl_cons]
    rw [show s + x + y = s + y + x by grind, ih]
theorem foldl_set (l : List Rat) (s : Rat) (i : Nat) (h : i < l.length) (x : Rat) : (l.set i (l[i] + x)).foldl (· + ·) s = l.foldl (· + ·) s + x := by
  induction l generalizing s i with
  | nil => simp at h
  | cons y l ih =>
    cases i with
    | zero =>
      simp only [List.set_cons_zero, List.foldl_cons, List.getElem_cons_zero]
      rw [show s + (y + x) = s + y + x by grind, foldl_shift]
    | succ i =>
      simp only [List.set_cons_succ, List.foldl_cons, List.getElem_cons_succ]
      exact ih _ _ (by simpa using h)
theorem lsum_set {l : List Rat} {i : Nat} (h : i < l.length) (x : Rat) : lsum (l.set i (l[i] + x)) = lsum l + x := foldl_set l 0 i h x
theorem bsums_step {of : List Int} {row : List Rat} {n k b : Nat} (h1 : k < of.length) (h2 : k < row.length) (hb : of[k] = (b : Int)) (hbn : b < n) :
    bsums (of.take (k + 1)) (row.take (k + 1)) n = (bsums (of.take k) (row.take k) n).set b ((bsums (of.take k) (row.take k) n)[b]'(by rw [bsums_length]; exact hbn) + row[k]) := by
  refine List.ext_getElem (by simp [bsums_length]) (fun j h3 h4 => ?_)
  rw [bsums_length] at h3
  rw [bsums_get _ _ _ _ h3, bsum_take _ _ _ _ h1 h2, List.getElem_set]
  have e := bsums_get (of.take k) (row.take k) n b hbn
  by_cases hj : b = j
  · subst hj
    rw [if_pos hb, if_pos rfl, e]
  · rw [if_neg (by rw [hb]; omega), if_neg hj, bsums_get _ _ _ _ h3]
theorem lsum_bsums {of : List Int} {row : List Rat} {n : Nat} (hr : row.length = of.length) (hb : ∀ (k : Nat) (h : k < of.length), 0 ≤ of[k] ∧ of[k] < (n : Int)) : ∀ k, k ≤ of.length → lsum (bsums (of.take k) (row.take k) n) = lsum (row.take k) := by
  intro k
  induction k with
  | zero =>
    intro _
    have : bsums (of.take 0) (row.take 0) n = List.replicate n 0 := List.ext_getElem (by simp [bsums_length]) (fun j h1 h2 => by
      rw [bsums_length] at h1
      rw [bsums_get _ _ _ _ h1]
      simp [bsum, bsel, lsum])
    rw [this]
    have hz : ∀ n : Nat, lsum (List.replicate n 0) = 0 := fun n => by
      induction n with
      | zero => rfl
      | succ n ih => rw [List.replicate_succ', lsum_snoc, ih, Rat.zero_add]
    rw [hz]; rfl
  | succ k ih =>
    intro hk
    have h1 : k < of.length := by omega
    have h2 : k < row.length := by omega
    obtain ⟨h3, h4⟩ := hb k h1
    obtain ⟨b, hbb⟩ : ∃ b : Nat, of[k] = (b : Int) := ⟨of[k].toNat, by omega⟩
    rw [bsums_step h1 h2 hbb (by omega), lsum_set, ih (by omega), lsum_take _ _ h2]
section
variable {c : CQ} {of : List Int} {share : List Rat}
theorem CopP.blk {n : Nat} (h : CopP n of share) {a : Nat} (ha : a < of.length) : ∃ i : Nat, i < n ∧ of[a] = (i : Int) ∧ of.getD a 0 = (i : Int) := by
  obtain ⟨h1, h2⟩ := h.ok.lt (List.getElem?_eq_getElem ha)
  refine ⟨of[a].toNat, by rw [h.num] at h2; omega, by omega, ?_⟩
  simp only [List.getD, List.getElem?_eq_getElem ha, Option.getD_some]
  omega
theorem CopP.sh {n : Nat} (h : CopP n of share) {a : Nat} (ha : a < of.length) : share.getD a 0 = share[a]'(by rw [h.len]; exact ha) := by
  simp [List.getD, List.getElem?_eq_getElem (show a < share.length by rw [h.len]; exact ha)]
/-- The rates of copy a. -/
def copRow (c : CQ) (of : List Int) (share : List Rat) (a : Nat) : List Rat :=
  (List.range of.length).map fun b => if of.getD a 0 = of.getD b 0 then 0 else (c.rates.getD (of.getD a 0).toNat []).getD (of.getD b 0).toNat 0 * share.getD b 0
theorem copRow_get {a b : Nat} (hb : b < of.length) : (copRow c of share a)[b]'(by simp [copRow]; exact hb) = if of.getD a 0 = of.getD b 0 then 0 else (c.rates.getD (of.getD a 0).toNat []).getD (of.getD b 0).toNat 0 * share.getD b 0 := by simp [copRow]
theorem copRow_sum (ht : tapeP c) (h : CopP c.start.length of share) {a i : Nat} (ha : a < of.length) (hi : of.getD a 0 = (i : Int)) (hin : i < c.start.length) (j : Nat) (hj : j < c.start.length) :
    bsum of (copRow c of share a) (j : Int) = if j = i then 0 else (c.rates.getD i []).getD j 0 := by
  have hrl : (copRow c of share a).length = of.length := by simp [copRow]
  have key := bsum_mul (of := of) (share := share) (row := copRow c of share a) h.len hrl j (if j = i then 0 else (c.rates.getD i []).getD j 0) (fun k h1 h2 h3 hk => by
    obtain ⟨i', _, e1, e2⟩ := h.blk h1
    have hij : i' = j := by omega
    subst hij
    rw [copRow_get h1, hi, e2, h.sh h1]
    by_cases hji : i' = i
    · subst hji
      rw [if_pos rfl, if_pos rfl, Rat.zero_mul]
    · rw [if_neg (by omega), if_neg hji]
      simp) of.length (Nat.le_refl _)
  rw [bsum_full hrl, bsum_full h.len, h.one j hj] at key
  rw [key]
  exact Rat.mul_one _
theorem copStart_sum (ht : tapeP c) (h : CopP c.start.length of share) (j : Nat) (hj : j < c.start.length) : bsum of (copQ c of share).start (j : Int) = c.start[j] := by
  have hrl : (copQ c of share).start.length = of.length := by simp [copQ]
  have key := bsum_mul (of := of) (share := share) (row := (copQ c of share).start) h.len hrl j (c.start[j]) (fun k h1 h2 h3 hk => by
    obtain ⟨i', hi', e1, e2⟩ := h.blk h1
    have hij : i' = j := by omega
    subst hij
    simp only [copQ, List.getElem_map, List.getElem_range]
    rw [e2, h.sh h1]
    simp [List.getD, List.getElem?_eq_getElem hi']) of.length (Nat.le_refl _)
  rw [bsum_full hrl, bsum_full h.len, h.one j hj] at key
  rw [key]
  exact Rat.mul_one _
end
end Go.Proofs.YtlpdkbmmbdfoiaaGreat
namespace Go.Proofs.YtlpdkbmmbdfoiaaGreat
set_option linter.unusedVariables false

section
variable {c : CQ} {of : List Int} {share : List Rat}
theorem tapeP.rate (ht : tapeP c) {i j : Nat} (hi : i < c.start.length) (hj : j < c.start.length) : smallQ ((c.rates.getD i []).getD j 0) := by
  have h1 : i < c.rates.length := by rw [ht.rl]; exact hi
  obtain ⟨r1, r2, _⟩ := ht.rows i _ (List.getElem?_eq_getElem h1)
  have h2 : j < c.rates[i].length := by rw [r1]; exact hj
  simp only [List.getD, List.getElem?_eq_getElem h1, Option.getD_some, List.getElem?_eq_getElem h2]
  exact r2 _ (List.getElem_mem h2)
theorem CopP.pos (ht : tapeP c) (h : CopP c.start.length of share) : 2 ≤ of.length := by
  have h1 := cnt_le of of.length
  rw [List.take_length, h.num] at h1
  have := ht.n2
  omega
theorem copRow_mid (ht : tapeP c) (h : CopP c.start.length of share) {a : Nat} (ha : a < of.length) : ∀ q ∈ copRow c of share a, midQ q := by
  intro q hq
  obtain ⟨b, hb, rfl⟩ := List.mem_map.1 hq
  have hb2 : b < of.length := by simpa using hb
  obtain ⟨i, hi, _, e1⟩ := h.blk ha
  obtain ⟨j, hj, _, e2⟩ := h.blk hb2
  rw [e1, e2, h.sh hb2]
  split
  · exact midQ.zero
  · exact (ht.rate (by simpa using hi) (by simpa using hj)).mul (h.sm _ (List.getElem_mem _))
theorem copStart_mid (ht : tapeP c) (h : CopP c.start.length of share) : ∀ q ∈ (copQ c of share).start, midQ q := by
  intro q hq
  obtain ⟨a, ha, rfl⟩ := List.mem_map.1 hq
  have ha2 : a < of.length := by simpa using ha
  obtain ⟨i, hi, _, e1⟩ := h.blk ha2
  rw [e1, h.sh ha2]
  have : c.start.getD ((i : Nat) : Int).toNat 0 = c.start[i] := by simp [List.getD, List.getElem?_eq_getElem hi]
  rw [this]
  exact (ht.st _ (List.getElem_mem hi)).mul (h.sm _ (List.getElem_mem _))
theorem copStart_bsums (ht : tapeP c) (h : CopP c.start.length of share) : bsums of (copQ c of share).start c.start.length = c.start :=
  List.ext_getElem (by rw [bsums_length]) (fun j h1 h2 => by rw [bsums_get _ _ _ _ h2]; exact copStart_sum ht h j h2)
theorem cop_valid (ht : tapeP c) (h : CopP c.start.length of share) : validP (copQ c of share).raw := by
  have hp := h.pos ht
  have hle := h.le
  refine ⟨by simp [CQ.raw, copQ]; omega, by simp [CQ.raw, copQ]; omega, by simp [CQ.raw, copQ], by simp [CQ.raw, copQ], ?_, fun a r hr => ?_, ?_⟩
  · have := rowP_mid (n := of.length) (l := (copQ c of share).start) (by simp [copQ]) (by omega) (copStart_mid ht h)
    simpa [CQ.raw, copQ] using this
  · simp only [CQ.raw, List.getElem?_map, Option.map_eq_some_iff] at hr
    obtain ⟨r', hr', rfl⟩ := hr
    have ha : a < of.length := by have := (List.getElem?_eq_some_iff.1 hr').1; simpa [copQ] using this
    have hrr : copRow c of share a = r' := by simpa [copQ, copRow, ha] using hr'
    subst hrr
    obtain ⟨i, hi, _, e1⟩ := h.blk ha
    refine ⟨?_, fun x hx => ?_, fun hl => ?_⟩
    · have := rowP_mid (n := of.length) (l := copRow c of share a) (by simp [copRow]) (by omega) (copRow_mid ht h ha)
      simpa [CQ.raw, copQ] using this
    · rw [List.getElem?_map, Option.map_eq_some_iff] at hx
      obtain ⟨q, hq, rfl⟩ := hx
      have h1 := (List.getElem?_eq_some_iff.1 hq).2
      rw [copRow_get ha, if_pos rfl] at h1
      rw [RF.of_q, ← h1]
      rfl
    · rw [qs_of]
      have hlost : c.lost[i]? = some true := by
        simp only [CQ.raw, copQ, List.getElem?_map, List.getElem?_range ha, Option.map_some, e1] at hl
        have hil : i < c.lost.length := by rw [ht.ll]; exact hi
        simpa [List.getD, List.getElem?_eq_getElem hil] using hl
      have h1 : i < c.rates.length := by rw [ht.rl]; exact hi
      obtain ⟨r1, _, _, r4⟩ := ht.rows i _ (List.getElem?_eq_getElem h1)
      have hz := r4 hlost
      have hall : ∀ q ∈ copRow c of share a, q = 0 := fun q hq => by
        obtain ⟨b, hb, rfl⟩ := List.mem_map.1 hq
        have hb2 : b < of.length := by simpa using hb
        obtain ⟨j, hj, _, e2⟩ := h.blk hb2
        rw [e1, e2]
        split
        · rfl
        · have h2 : j < c.rates[i].length := by rw [r1]; exact hj
          have h3 : (c.rates.getD ((i : Nat) : Int).toNat []).getD ((j : Nat) : Int).toNat 0 = 0 := by
            simp only [Int.toNat_natCast, List.getD, List.getElem?_eq_getElem h1, Option.getD_some, List.getElem?_eq_getElem h2]
            exact hz _ (List.getElem_mem h2)
          rw [h3, Rat.zero_mul]
      have : ∀ l : List Rat, (∀ q ∈ l, q = 0) → wts l = 0 := fun l => by
        induction l with
        | nil => intro _; rfl
        | cons x l ih =>
          intro h
          rw [wts_cons, ih (fun q hq => h q (by simp [hq])), h x (by simp)]
          decide
      exact this _ hall
  · have e : qs (copQ c of share).raw.start = (copQ c of share).start := qs_of _
    rw [e]
    have hrl : (copQ c of share).start.length = of.length := by simp [copQ]
    have h1 := lsum_bsums (of := of) (row := (copQ c of share).start) (n := c.start.length) hrl (fun k hk => by
      obtain ⟨i, hi, e1, _⟩ := h.blk hk
      omega) of.length (Nat.le_refl _)
    rw [List.take_length, List.take_of_length_le (by omega), copStart_bsums ht h] at h1
    rw [← h1]
    exact ht.sum
theorem cop_rowsQ {a : Nat} (ha : a < of.length) : rowsQ (copQ c of share).raw a = copRow c of share a := by
  rw [rowsQ_raw]
  simp [copQ, copRow, List.getD, ha]
theorem cop_lost (h : CopP c.start.length of share) {a i : Nat} (ha : a < of.length) (e1 : of.getD a 0 = (i : Int)) : (copQ c of share).raw.lost.getD a false = c.lost.getD i false := by
  simp only [CQ.raw, copQ, List.getD, List.getElem?_map, List.getElem?_range ha, Option.map_some, Option.getD_some]
  have : (of[a]?.getD 0) = (i : Int) := e1
  rw [this]
  rfl
theorem cop_check (ht : tapeP c) (h : CopP c.start.length of share) : checkP (copQ c of share).raw of := by
  have hp := h.pos ht
  refine ⟨h.ok, by omega, by simp [CQ.raw, copQ], cop_valid ht h, fun a a' b ha ha' => ?_⟩
  have h1 := (List.getElem?_eq_some_iff.1 ha).1
  have h2 := (List.getElem?_eq_some_iff.1 ha').1
  obtain ⟨i, hi, x1, e1⟩ := h.blk h1
  obtain ⟨i', hi', x2, e2⟩ := h.blk h2
  have hb1 : b = (i : Int) := by rw [List.getElem?_eq_getElem h1, x1] at ha; injection ha with ha; exact ha.symm
  have hb2 : b = (i' : Int) := by rw [List.getElem?_eq_getElem h2, x2] at ha'; injection ha' with ha'; exact ha'.symm
  obtain rfl : i = i' := by omega
  refine ⟨by show (copQ c of share).raw.lost.getD a false = (copQ c of share).raw.lost.getD a' false; rw [cop_lost h h1 e1, cop_lost h h2 e2], fun j x y hj hx hy => ?_⟩
  simp only [h.num] at hx hy
  have hjn := (List.getElem?_eq_some_iff.1 hx).1
  rw [bsums_length] at hjn
  have hx2 := (List.getElem?_eq_some_iff.1 hx).2
  have hy2 := (List.getElem?_eq_some_iff.1 hy).2
  rw [bsums_get _ _ _ _ hjn, cop_rowsQ h1, copRow_sum ht h h1 e1 hi j hjn] at hx2
  rw [bsums_get _ _ _ _ hjn, cop_rowsQ h2, copRow_sum ht h h2 e2 hi j hjn] at hy2
  rw [← hx2, ← hy2]
theorem cop_quo (ht : tapeP c) (h : CopP c.start.length of share) : quo (copQ c of share).raw of = c := by
  rw [CQ.ext_iff']
  unfold quo
  simp only [h.num]
  have first : ∀ j, j < c.start.length → firstB of j < of.length ∧ of.getD (firstB of j) 0 = (j : Int) := fun j hj => by
    obtain ⟨k, h1, h2⟩ := okB_has h.ok of.length j (by rw [List.take_length, h.num]; exact hj)
    have h3 : firstB of j < of.length := by
      unfold firstB
      exact List.findIdx_lt_length_of_exists ⟨_, List.mem_of_getElem? h2, by simp⟩
    refine ⟨h3, ?_⟩
    have h4 := List.findIdx_getElem (xs := of) (p := fun x => decide (x = (j : Int))) (w := h3)
    simp only [decide_eq_true_eq] at h4
    have h5 : of.getD (firstB of j) 0 = of[firstB of j]'h3 := by simp [List.getD, List.getElem?_eq_getElem h3]
    rw [h5]; exact h4
  refine ⟨List.ext_getElem (by simp [ht.rl]) (fun j h1 h2 => ?_), ?_, List.ext_getElem (by simp [ht.ll]) (fun j h1 h2 => ?_)⟩
  · have hj : j < c.start.length := by simpa using h1
    obtain ⟨f1, f2⟩ := first j hj
    simp only [List.getElem_map, List.getElem_range]
    rw [cop_rowsQ f1]
    obtain ⟨r1, r2, r3, r4⟩ := ht.rows j _ (List.getElem?_eq_getElem h2)
    refine List.ext_getElem (by simp [bsums_length, r1]) (fun i h3 h4 => ?_)
    have hi : i < c.start.length := by simpa [bsums_length] using h3
    rw [List.getElem_set]
    have hg : (c.rates.getD j []).getD i 0 = c.rates[j][i] := by simp [List.getD, List.getElem?_eq_getElem h2, List.getElem?_eq_getElem h4]
    split
    · next hij =>
      subst hij
      exact (r3 _ (List.getElem?_eq_getElem h4)).symm
    · next hij =>
      rw [bsums_get _ _ _ _ hi, copRow_sum ht h f1 f2 hj i hi, if_neg (by omega), hg]
  · have e : qs (copQ c of share).raw.start = (copQ c of share).start := qs_of _
    rw [e]
    exact copStart_bsums ht h
  · have hj : j < c.start.length := by simpa using h1
    obtain ⟨f1, f2⟩ := first j hj
    simp only [List.getElem_map, List.getElem_range]
    rw [cop_lost h f1 f2]
    simp [List.getD, List.getElem?_eq_getElem h2]
end
end Go.Proofs.YtlpdkbmmbdfoiaaGreat
