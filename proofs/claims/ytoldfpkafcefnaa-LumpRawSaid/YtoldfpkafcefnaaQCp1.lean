/-
  package drydockmake: Tape.Copies, the first half's state. No code is walked here.
  Ahead of it: Copies of states: the plain law. No program is named here. Copies of states form a lumping, whose quotient is the chain. No program is named here. package drydockref02: Valid, Large, fits, times, Mul.
-/
import Derived.Test.YtoldfpkafcefnaaQAw1
import Derived.Test.YtoldfpkafcefnaaQTa1
import Derived.Test.YtoldfpkafcefnaaQLu7
import Derived.Test.YtoldfpkafcefnaaQLu10
import Derived.Test.YtoldfpkafcefnaaQTa5
namespace Go.Proofs.Ytoldfpkafcefnaa
set_option linter.unusedVariables false

/-- of and share are copies of n states: each state's shares add up to 1. -/
structure CopP (n : Nat) (of : List Int) (share : List Rat) : Prop where
  len : share.length = of.length
  le : of.length ≤ 10
  ok : okB of
  num : cnt of = n
  sm : ∀ q ∈ share, smallQ q
  one : ∀ i : Nat, i < n → bsum of share (i : Int) = 1
/-- The chain of the copies. -/
def copQ (c : CQ) (of : List Int) (share : List Rat) : CQ :=
  ⟨(List.range of.length).map fun a => (List.range of.length).map fun b => if of.getD a 0 = of.getD b 0 then 0 else (c.rates.getD (of.getD a 0).toNat []).getD (of.getD b 0).toNat 0 * share.getD b 0,
   (List.range of.length).map fun a => c.start.getD (of.getD a 0).toNat 0 * share.getD a 0,
   (List.range of.length).map fun a => c.lost.getD (of.getD a 0).toNat false⟩
/-- A product of two small fractions. -/
def midQ (q : Rat) : Prop := ∃ a b : Nat, a ≤ 16 ∧ 1 ≤ b ∧ b ≤ 16 ∧ q = fq false a b
theorem smallQ.mul {p q : Rat} (hp : smallQ p) (hq : smallQ q) : midQ (p * q) := by
  obtain ⟨a, b, h1, h2, h3, rfl⟩ := hp
  obtain ⟨c, d, h4, h5, h6, rfl⟩ := hq
  exact ⟨a * c, b * d, Nat.mul_le_mul h1 h4, Nat.mul_le_mul h2 h5, Nat.mul_le_mul h3 h6, fq_mul _ _ _ _ _ _⟩
theorem midQ.zero : midQ 0 := ⟨0, 1, by decide, by decide, by decide, by decide⟩
theorem midQ.num {q : Rat} (h : midQ q) : q.num.natAbs ≤ 16 := by
  obtain ⟨a, b, h1, h2, h3, rfl⟩ := h
  rw [fq_natAbs _ _ _ (by omega)]
  exact Nat.le_trans (Nat.div_le_self _ _) h1
theorem midQ.den {q : Rat} (h : midQ q) : q.den ≤ 16 := by
  obtain ⟨a, b, h1, h2, h3, rfl⟩ := h
  rw [fq_den _ _ _ (by omega)]
  exact Nat.le_trans (Nat.div_le_self _ _) h3
theorem midQ.nonneg {q : Rat} (h : midQ q) : ¬ q < 0 := by
  obtain ⟨a, b, h1, h2, h3, rfl⟩ := h
  have := fq_neg false a b (by omega)
  simp at this
  first | exact this | exact Rat.not_lt.2 this
theorem midQ.wt {q : Rat} (h : midQ q) : wt q ≤ 10 := by
  have h1 : nbits q.num.natAbs ≤ 5 := nbits_le.2 (by have := h.num; omega)
  have h2 : nbits q.den ≤ 5 := nbits_le.2 (by have := h.den; omega)
  unfold Go.Proofs.Ytoldfpkafcefnaa.wt
  split
  · omega
  · split <;> omega
theorem midQ.fits {q : Rat} (h : midQ q) : fits q := ⟨nbits_le.2 (Nat.lt_of_le_of_lt h.num (by decide +kernel)), nbits_le.2 (Nat.lt_of_le_of_lt h.den (by decide +kernel))⟩
theorem wts_mid {l : List Rat} (h : ∀ q ∈ l, midQ q) : wts l ≤ 10 * l.length := by
  induction l with
  | nil => simp [wts]
  | cons x l ih =>
    have h1 := (h x (by simp)).wt
    have h2 := ih (fun q hq => h q (by simp [hq]))
    rw [wts_cons, List.length_cons]
    omega
theorem rowP_mid {l : List Rat} {n : Nat} (hn : l.length = n) (hn5 : n ≤ 128) (h : ∀ q ∈ l, midQ q) : rowP (l.map RF.of) n := by
  refine ⟨fun x hx => ?_, by rw [List.length_map]; exact hn, by rw [qs_of]; have := wts_mid h; omega⟩
  obtain ⟨q, hq, rfl⟩ := List.mem_map.1 hx
  have hs := h q hq
  refine ⟨RF.of_ok hs.fits, ?_⟩
  rw [RF.of_q]
  exact ⟨hs.nonneg, nlen_le.2 (by have := hs.num; simp [pw]; omega), nlen_le.2 (by have := hs.den; simp [pw]; omega)⟩
/-- Sums over blocks of products. -/
theorem bsum_mul {of : List Int} {share row : List Rat} (hl : share.length = of.length) (hr : row.length = of.length) (i : Nat) (x : Rat) (h : ∀ (k : Nat) (h1 : k < of.length) (h2 : k < row.length) (h3 : k < share.length), of[k] = (i : Int) → row[k] = x * share[k]) :
    ∀ k, k ≤ of.length → bsum (of.take k) (row.take k) (i : Int) = x * bsum (of.take k) (share.take k) (i : Int) := by
  intro k
  induction k with
  | zero => intro _; simp [bsum, bsel, lsum]
  | succ k ih =>
    intro hk
    have h1 : k < of.length := by omega
    have h2 : k < row.length := by omega
    have h3 : k < share.length := by omega
    rw [bsum_take _ _ _ _ h1 h2, bsum_take _ _ _ _ h1 h3, ih (by omega)]
    by_cases hb : of[k] = (i : Int)
    · rw [if_pos hb, if_pos hb, h k h1 h2 h3 hb, Rat.mul_add]
    · rw [if_neg hb, if_neg hb]
theorem bsum_full {of : List Int} {row : List Rat} (hr : row.length = of.length) (b : Int) : bsum (of.take of.length) (row.take of.length) b = bsum of row b := by
  rw [List.take_length, List.take_of_length_le (by omega)]
theorem foldl_shift (l : List Rat) (s x : Rat) : l.foldl (· + ·) (s + x) = l.foldl (· + ·) s + x := by
  induction l generalizing s with
  | nil => rfl
  | cons y l ih =>
    simp only [List.foldl_cons]
    rw [show s + x + y = s + y + x by grind, ih]
theorem foldl_set (l : List Rat) (s : Rat) (i : Nat) (h : i < l.length) (x : Rat) : (l.set i (l[i] + x)).foldl (· + ·) s = l.foldl (· + ·) s + x := by
  induction l generalizing s i with
  | nil => simp at h
  | cons y l ih =>
    cases i with
    | zero =>
      simp only [List.set_cons_zero, List.foldl_cons, List.getElem_cons_zero]
      rw [show s + (y + x) = s + y + x by grind, foldl_shift]
    | succ i =>
      simp only [List.set_cons_succ, List.foldl_cons, List.getElem_cons_succ]
      exact ih _ _ (by simpa using h)
theorem lsum_set {l : List Rat} {i : Nat} (h : i < l.length) (x : Rat) : lsum (l.set i (l[i] + x)) = lsum l + x := foldl_set l 0 i h x
theorem bsums_step {of : List Int} {row : List Rat} {n k b : Nat} (h1 : k < of.length) (h2 : k < row.length) (hb : of[k] = (b : Int)) (hbn : b < n) :
    bsums (of.take (k + 1)) (row.take (k + 1)) n = (bsums (of.take k) (row.take k) n).set b ((bsums (of.take k) (row.take k) n)[b]'(by rw [bsums_length]; exact hbn) + row[k]) := by
  refine List.ext_getElem (by simp [bsums_length]) (fun j h3 h4 => ?_)
  rw [bsums_length] at h3
  rw [bsums_get _ _ _ _ h3, bsum_take _ _ _ _ h1 h2, List.getElem_set]
  have e := bsums_get (of.take k) (row.take k) n b hbn
  by_cases hj : b = j
  · subst hj
    rw [if_pos hb, if_pos rfl, e]
  · rw [if_neg (by rw [hb]; omega), if_neg hj, bsums_get _ _ _ _ h3]
theorem lsum_bsums {of : List Int} {row : List Rat} {n : Nat} (hr : row.length = of.length) (hb : ∀ (k : Nat) (h : k < of.length), 0 ≤ of[k] ∧ of[k] < (n : Int)) : ∀ k, k ≤ of.length → lsum (bsums (of.take k) (row.take k) n) = lsum (row.take k) := by
  intro k
  induction k with
  | zero =>
    intro _
    have : bsums (of.take 0) (row.take 0) n = List.replicate n 0 := List.ext_getElem (by simp [bsums_length]) (fun j h1 h2 => by
      rw [bsums_length] at h1
      rw [bsums_get _ _ _ _ h1]
      simp [bsum, bsel, lsum])
    rw [this]
    have hz : ∀ n : Nat, lsum (List.replicate n 0) = 0 := fun n => by
      induction n with
      | zero => rfl
      | succ n ih => rw [List.replicate_succ', lsum_snoc, ih, Rat.zero_add]
    rw [hz]; rfl
  | succ k ih =>
    intro hk
    have h1 : k < of.length := by omega
    have h2 : k < row.length := by omega
    obtain ⟨h3, h4⟩ := hb k h1
    obtain ⟨b, hbb⟩ : ∃ b : Nat, of[k] = (b : Int) := ⟨of[k].toNat, by omega⟩
    rw [bsums_step h1 h2 hbb (by omega), lsum_set, ih (by omega), lsum_take _ _ h2]
section
variable {c : CQ} {of : List Int} {share : List Rat}
theorem CopP.blk {n : Nat} (h : CopP n of share) {a : Nat} (ha : a < of.length) : ∃ i : Nat, i < n ∧ of[a] = (i : Int) ∧ of.getD a 0 = (i : Int) := by
  obtain ⟨h1, h2⟩ := h.ok.lt (List.getElem?_eq_getElem ha)
  refine ⟨of[a].toNat, by rw [h.num] at h2; omega, by omega, ?_⟩
  simp only [List.getD, List.getElem?_eq_getElem ha, Option.getD_some]
  omega
theorem CopP.sh {n : Nat} (h : CopP n of share) {a : Nat} (ha : a < of.length) : share.getD a 0 = share[a]'(by rw [h.len]; exact ha) := by
  simp [List.getD, List.getElem?_eq_getElem (show a < share.length by rw [h.len]; exact ha)]
/-- The rates of copy a. -/
def copRow (c : CQ) (of : List Int) (share : List Rat) (a : Nat) : List Rat :=
  (List.range of.length).map fun b => if of.getD a 0 = of.getD b 0 then 0 else (c.rates.getD (of.getD a 0).toNat []).getD (of.getD b 0).toNat 0 * share.getD b 0
theorem copRow_get {a b : Nat} (hb : b < of.length) : (copRow c of share a)[b]'(by simp [copRow]; exact hb) = if of.getD a 0 = of.getD b 0 then 0 else (c.rates.getD (of.getD a 0).toNat []).getD (of.getD b 0).toNat 0 * share.getD b 0 := by simp [copRow]
theorem copRow_sum (ht : tapeP c) (h : CopP c.start.length of share) {a i : Nat} (ha : a < of.length) (hi : of.getD a 0 = (i : Int)) (hin : i < c.start.length) (j : Nat) (hj : j < c.start.length) :
    bsum of (copRow c of share a) (j : Int) = if j = i then 0 else (c.rates.getD i []).getD j 0 := by
  have hrl : (copRow c of share a).length = of.length := by simp [copRow]
  have key := bsum_mul (of := of) (share := share) (row := copRow c of share a) h.len hrl j (if j = i then 0 else (c.rates.getD i []).getD j 0) (fun k h1 h2 h3 hk => by
    obtain ⟨i', _, e1, e2⟩ := h.blk h1
    have hij : i' = j := by omega
    subst hij
    rw [copRow_get h1, hi, e2, h.sh h1]
    by_cases hji : i' = i
    · subst hji
      rw [if_pos rfl, if_pos rfl, Rat.zero_mul]
    · rw [if_neg (by omega), if_neg hji]
      simp) of.length (Nat.le_refl _)
  rw [bsum_full hrl, bsum_full h.len, h.one j hj] at key
  rw [key]
  exact Rat.mul_one _
theorem copStart_sum (ht : tapeP c) (h : CopP c.start.length of share) (j : Nat) (hj : j < c.start.length) : bsum of (copQ c of share).start (j : Int) = c.start[j] := by
  have hrl : (copQ c of share).start.length = of.length := by simp [copQ]
  have key := bsum_mul (of := of) (share := share) (row := (copQ c of share).start) h.len hrl j (c.start[j]) (fun k h1 h2 h3 hk => by
    obtain ⟨i', hi', e1, e2⟩ := h.blk h1
    have hij : i' = j := by omega
    subst hij
    simp only [copQ, List.getElem_map, List.getElem_range]
    rw [e2, h.sh h1]
    simp [List.getD, List.getElem?_eq_getElem hi']) of.length (Nat.le_refl _)
  rw [bsum_full hrl, bsum_full h.len, h.one j hj] at key
  rw [key]
  exact Rat.mul_one _
end
end Go.Proofs.Ytoldfpkafcefnaa
namespace Go.Proofs.Ytoldfpkafcefnaa
set_option linter.unusedVariables false

section
variable {c : CQ} {of : List Int} {share : List Rat}
theorem tapeP.rate (ht : tapeP c) {i j : Nat} (hi : i < c.start.length) (hj : j < c.start.length) : smallQ ((c.rates.getD i []).getD j 0) := by
  have h1 : i < c.rates.length := by rw [ht.rl]; exact hi
  obtain ⟨r1, r2, _⟩ := ht.rows i _ (List.getElem?_eq_getElem h1)
  have h2 : j < c.rates[i].length := by rw [r1]; exact hj
  simp only [List.getD, List.getElem?_eq_getElem h1, Option.getD_some, List.getElem?_eq_getElem h2]
  exact r2 _ (List.getElem_mem h2)
theorem CopP.pos (ht : tapeP c) (h : CopP c.start.length of share) : 2 ≤ of.length := by
  have h1 := cnt_le of of.length
  rw [List.take_length, h.num] at h1
  have := ht.n2
  omega
theorem copRow_mid (ht : tapeP c) (h : CopP c.start.length of share) {a : Nat} (ha : a < of.length) : ∀ q ∈ copRow c of share a, midQ q := by
  intro q hq
  obtain ⟨b, hb, rfl⟩ := List.mem_map.1 hq
  have hb2 : b < of.length := by simpa using hb
  obtain ⟨i, hi, _, e1⟩ := h.blk ha
  obtain ⟨j, hj, _, e2⟩ := h.blk hb2
  rw [e1, e2, h.sh hb2]
  split
  · exact midQ.zero
  · exact (ht.rate (by simpa using hi) (by simpa using hj)).mul (h.sm _ (List.getElem_mem _))
theorem copStart_mid (ht : tapeP c) (h : CopP c.start.length of share) : ∀ q ∈ (copQ c of share).start, midQ q := by
  intro q hq
  obtain ⟨a, ha, rfl⟩ := List.mem_map.1 hq
  have ha2 : a < of.length := by simpa using ha
  obtain ⟨i, hi, _, e1⟩ := h.blk ha2
  rw [e1, h.sh ha2]
  have : c.start.getD ((i : Nat) : Int).toNat 0 = c.start[i] := by simp [List.getD, List.getElem?_eq_getElem hi]
  rw [this]
  exact (ht.st _ (List.getElem_mem hi)).mul (h.sm _ (List.getElem_mem _))
theorem copStart_bsums (ht : tapeP c) (h : CopP c.start.length of share) : bsums of (copQ c of share).start c.start.length = c.start :=
  List.ext_getElem (by rw [bsums_length]) (fun j h1 h2 => by rw [bsums_get _ _ _ _ h2]; exact copStart_sum ht h j h2)
theorem cop_valid (ht : tapeP c) (h : CopP c.start.length of share) : validP (copQ c of share).raw := by
  have hp := h.pos ht
  have hle := h.le
  refine ⟨by simp [CQ.raw, copQ]; omega, by simp [CQ.raw, copQ]; omega, by simp [CQ.raw, copQ], by simp [CQ.raw, copQ], ?_, fun a r hr => ?_, ?_⟩
  · have := rowP_mid (n := of.length) (l := (copQ c of share).start) (by simp [copQ]) (by omega) (copStart_mid ht h)
    simpa [CQ.raw, copQ] using this
  · simp only [CQ.raw, List.getElem?_map, Option.map_eq_some_iff] at hr
    obtain ⟨r', hr', rfl⟩ := hr
    have ha : a < of.length := by have := (List.getElem?_eq_some_iff.1 hr').1; simpa [copQ] using this
    have hrr : copRow c of share a = r' := by simpa [copQ, copRow, ha] using hr'
    subst hrr
    obtain ⟨i, hi, _, e1⟩ := h.blk ha
    refine ⟨?_, fun x hx => ?_, fun hl => ?_⟩
    · have := rowP_mid (n := of.length) (l := copRow c of share a) (by simp [copRow]) (by omega) (copRow_mid ht h ha)
      simpa [CQ.raw, copQ] using this
    · rw [List.getElem?_map, Option.map_eq_some_iff] at hx
      obtain ⟨q, hq, rfl⟩ := hx
      have h1 := (List.getElem?_eq_some_iff.1 hq).2
      rw [copRow_get ha, if_pos rfl] at h1
      rw [RF.of_q, ← h1]
      rfl
    · rw [qs_of]
      have hlost : c.lost[i]? = some true := by
        simp only [CQ.raw, copQ, List.getElem?_map, List.getElem?_range ha, Option.map_some, e1] at hl
        have hil : i < c.lost.length := by rw [ht.ll]; exact hi
        simpa [List.getD, List.getElem?_eq_getElem hil] using hl
      have h1 : i < c.rates.length := by rw [ht.rl]; exact hi
      obtain ⟨r1, _, _, r4⟩ := ht.rows i _ (List.getElem?_eq_getElem h1)
      have hz := r4 hlost
      have hall : ∀ q ∈ copRow c of share a, q = 0 := fun q hq => by
        obtain ⟨b, hb, rfl⟩ := List.mem_map.1 hq
        have hb2 : b < of.length := by simpa using hb
        obtain ⟨j, hj, _, e2⟩ := h.blk hb2
        rw [e1, e2]
        split
        · rfl
        · have h2 : j < c.rates[i].length := by rw [r1]; exact hj
          have h3 : (c.rates.getD ((i : Nat) : Int).toNat []).getD ((j : Nat) : Int).toNat 0 = 0 := by
            simp only [Int.toNat_natCast, List.getD, List.getElem?_eq_getElem h1, Option.getD_some, List.getElem?_eq_getElem h2]
            exact hz _ (List.getElem_mem h2)
          rw [h3, Rat.zero_mul]
      have : ∀ l : List Rat, (∀ q ∈ l, q = 0) → wts l = 0 := fun l => by
        induction l with
        | nil => intro _; rfl
        | cons x l ih =>
          intro h
          rw [wts_cons, ih (fun q hq => h q (by simp [hq])), h x (by simp)]
          decide
      exact this _ hall
  · have e : qs (copQ c of share).raw.start = (copQ c of share).start := qs_of _
    rw [e]
    have hrl : (copQ c of share).start.length = of.length := by simp [copQ]
    have h1 := lsum_bsums (of := of) (row := (copQ c of share).start) (n := c.start.length) hrl (fun k hk => by
      obtain ⟨i, hi, e1, _⟩ := h.blk hk
      omega) of.length (Nat.le_refl _)
    rw [List.take_length, List.take_of_length_le (by omega), copStart_bsums ht h] at h1
    rw [← h1]
    exact ht.sum
theorem cop_rowsQ {a : Nat} (ha : a < of.length) : rowsQ (copQ c of share).raw a = copRow c of share a := by
  rw [rowsQ_raw]
  simp [copQ, copRow, List.getD, ha]
theorem cop_lost (h : CopP c.start.length of share) {a i : Nat} (ha : a < of.length) (e1 : of.getD a 0 = (i : Int)) : (copQ c of share).raw.lost.getD a false = c.lost.getD i false := by
  simp only [CQ.raw, copQ, List.getD, List.getElem?_map, List.getElem?_range ha, Option.map_some, Option.getD_some]
  have : (of[a]?.getD 0) = (i : Int) := e1
  rw [this]
  rfl
theorem cop_check (ht : tapeP c) (h : CopP c.start.length of share) : checkP (copQ c of share).raw of := by
  have hp := h.pos ht
  refine ⟨h.ok, by omega, by simp [CQ.raw, copQ], cop_valid ht h, fun a a' b ha ha' => ?_⟩
  have h1 := (List.getElem?_eq_some_iff.1 ha).1
  have h2 := (List.getElem?_eq_some_iff.1 ha').1
  obtain ⟨i, hi, x1, e1⟩ := h.blk h1
  obtain ⟨i', hi', x2, e2⟩ := h.blk h2
  have hb1 : b = (i : Int) := by rw [List.getElem?_eq_getElem h1, x1] at ha; injection ha with ha; exact ha.symm
  have hb2 : b = (i' : Int) := by rw [List.getElem?_eq_getElem h2, x2] at ha'; injection ha' with ha'; exact ha'.symm
  obtain rfl : i = i' := by omega
  refine ⟨by show (copQ c of share).raw.lost.getD a false = (copQ c of share).raw.lost.getD a' false; rw [cop_lost h h1 e1, cop_lost h h2 e2], fun j x y hj hx hy => ?_⟩
  simp only [h.num] at hx hy
  have hjn := (List.getElem?_eq_some_iff.1 hx).1
  rw [bsums_length] at hjn
  have hx2 := (List.getElem?_eq_some_iff.1 hx).2
  have hy2 := (List.getElem?_eq_some_iff.1 hy).2
  rw [bsums_get _ _ _ _ hjn, cop_rowsQ h1, copRow_sum ht h h1 e1 hi j hjn] at hx2
  rw [bsums_get _ _ _ _ hjn, cop_rowsQ h2, copRow_sum ht h h2 e2 hi j hjn] at hy2
  rw [← hx2, ← hy2]
theorem cop_quo (ht : tapeP c) (h : CopP c.start.length of share) : quo (copQ c of share).raw of = c := by
  rw [CQ.ext_iff']
  unfold quo
  simp only [h.num]
  have first : ∀ j, j < c.start.length → firstB of j < of.length ∧ of.getD (firstB of j) 0 = (j : Int) := fun j hj => by
    obtain ⟨k, h1, h2⟩ := okB_has h.ok of.length j (by rw [List.take_length, h.num]; exact hj)
    have h3 : firstB of j < of.length := by
      unfold firstB
      exact List.findIdx_lt_length_of_exists ⟨_, List.mem_of_getElem? h2, by simp⟩
    refine ⟨h3, ?_⟩
    have h4 := List.findIdx_getElem (xs := of) (p := fun x => decide (x = (j : Int))) (w := h3)
    simp only [decide_eq_true_eq] at h4
    have h5 : of.getD (firstB of j) 0 = of[firstB of j]'h3 := by simp [List.getD, List.getElem?_eq_getElem h3]
    rw [h5]; exact h4
  refine ⟨List.ext_getElem (by simp [ht.rl]) (fun j h1 h2 => ?_), ?_, List.ext_getElem (by simp [ht.ll]) (fun j h1 h2 => ?_)⟩
  · have hj : j < c.start.length := by simpa using h1
    obtain ⟨f1, f2⟩ := first j hj
    simp only [List.getElem_map, List.getElem_range]
    rw [cop_rowsQ f1]
    obtain ⟨r1, r2, r3, r4⟩ := ht.rows j _ (List.getElem?_eq_getElem h2)
    refine List.ext_getElem (by simp [bsums_length, r1]) (fun i h3 h4 => ?_)
    have hi : i < c.start.length := by simpa [bsums_length] using h3
    rw [List.getElem_set]
    have hg : (c.rates.getD j []).getD i 0 = c.rates[j][i] := by simp [List.getD, List.getElem?_eq_getElem h2, List.getElem?_eq_getElem h4]
    split
    · next hij =>
      subst hij
      exact (r3 _ (List.getElem?_eq_getElem h4)).symm
    · next hij =>
      rw [bsums_get _ _ _ _ hi, copRow_sum ht h f1 f2 hj i hi, if_neg (by omega), hg]
  · have e : qs (copQ c of share).raw.start = (copQ c of share).start := qs_of _
    rw [e]
    exact copStart_bsums ht h
  · have hj : j < c.start.length := by simpa using h1
    obtain ⟨f1, f2⟩ := first j hj
    simp only [List.getElem_map, List.getElem_range]
    rw [cop_lost h f1 f2]
    simp [List.getD, List.getElem?_eq_getElem h2]
end
end Go.Proofs.Ytoldfpkafcefnaa
namespace Go.Proofs.Ytoldfpkafcefnaa
set_option linter.unusedVariables false
set_option linter.unusedSimpArgs false
open Go.RowKit

set_option maxHeartbeats 800000 in
theorem r2times_any (va vb : Value) (m n : Nat) (w : World) (ha : NatN w va m) (hb : NatN w vb n) (hm : nlen m ≤ 128) (hn : nlen n ≤ 128) :
    Calls Try.prog 54 #[va, vb] w (RNat w (m * n)) := by
  have HM := Lib.hid (show nlen m ≤ 512 by omega)
  have HN := Lib.hid (show nlen n ≤ 512 by omega)
  have HMN : Hid (nlen (m * n) ≤ 512) := Lib.hid (by
    have h1 := nlen_le.1 hm
    have h2 := nlen_le.1 hn
    refine nlen_le.2 ?_
    have h3 : m * n ≤ pw 128 * pw 128 := Nat.mul_le_mul (by omega) (by omega)
    have h4 : pw 128 * pw 128 < pw 512 := by decide +kernel
    omega)
  clear hm hn
  go_enter Try.func54, Try.ntmps54
  go_wp2_with (go_at_call 81; (with_reducible refine (rmul_any _ _ m n _ ha hb HM.out HN.out).mono ?_); rintro e1 w1 ⟨r, er, rfl, hr, hb1⟩)
  go_ret
  exact ⟨r, rfl, (hr.1 HMN.out).2, hb1⟩
set_option maxHeartbeats 800000 in
theorem r2valid_can (v : Value) (q : Rat) (w : World) (h : FracC w v q) (hf : fits q) :
    Calls Try.prog 43 #[v] w fun e w' => e = .returned (.bool true) ∧ Below w.heap.size w w' := by
  obtain ⟨a, b, rfl, ha, hb⟩ := h
  obtain ⟨n1, n2⟩ := okN_nlen (fits_okN hf)
  have hd0 : 0 < nlen q.den := by
    rcases Nat.eq_zero_or_pos (nlen q.den) with h | h
    · have h1 := nlen_le.1 (Nat.le_of_eq h)
      have h2 := q.den_nz
      simp [pw] at h1
      omega
    · exact h
  have hd1 : decide ((0 : Int) < (nlen q.den : Nat)) = true := decide_eq_true (by omega)
  have hd2 : decide (((nlen q.den : Nat) : Int) ≤ 128) = true := decide_eq_true (by omega)
  have hd3 : decide (((nlen q.num.natAbs : Nat) : Int) ≤ 128) = true := decide_eq_true (by omega)
  obtain ⟨aa, al, ak, rfl, _⟩ := id ha.v.sl
  obtain ⟨ba, bl, bk, rfl, _⟩ := id hb.v.sl
  have hbx := below_alloc w (.cells #[.bool (decide (q < 0)), .slice aa al ak, .slice ba bl bk] 50)
  have hC := C3.new w 50 (.bool (decide (q < 0))) (.slice aa al ak) (.slice ba bl bk)
  have HC := Lib.hid hC
  have HA := Lib.hid (ha.below hbx)
  have HB := Lib.hid (hb.below hbx)
  obtain ⟨_, c0, c1, c2, _, _, _⟩ := id hC
  clear hC hf hd1 hd2 hd3
  go_enter Try.func43, Try.ntmps43
  go_wp2_with (first
    | (go_at_call 70; (with_reducible refine (rtrim_any _ q.den _ HB.out.nat).mono ?_); rintro e1 w1 ⟨r1, rfl, hr1, hb1⟩
       have s1 := hr1.v.sl
       have l1 : slen r1 = nlen q.den := hr1.v.len
       obtain ⟨_, c0, c1, c2, _, _, _⟩ := HC.out.belowS hb1)
    | (go_at_call 70; (with_reducible refine (rtrim_any _ q.den _ (HB.out.below hb1).nat).mono ?_); rintro e2 w2 ⟨r2, rfl, hr2, hb2⟩
       have s2 := hr2.v.sl
       have l2 : slen r2 = nlen q.den := hr2.v.len
       obtain ⟨_, c0, c1, c2, _, _, _⟩ := HC.out.belowS (below_then hb1 hb2))
    | (go_at_call 70; (with_reducible refine (rtrim_any _ q.num.natAbs _ ((HA.out.below hb1).below hb2).nat).mono ?_); rintro e3 w3 ⟨r3, rfl, hr3, hb3⟩
       have s3 := hr3.v.sl
       have l3 : slen r3 = nlen q.num.natAbs := hr3.v.len))
  go_ret
  refine ⟨?_, below_then (below_then (below_then hbx hb1) hb2) hb3⟩
  congr 2
  simp
  omega
set_option maxHeartbeats 800000 in
theorem r2large_can (v : Value) (q : Rat) (w : World) (h : FracC w v q) (hf : fits q) :
    Calls Try.prog 80 #[v] w fun e w' => e = .returned (.bool false) ∧ Below w.heap.size w w' := by
  obtain ⟨a, b, rfl, ha, hb⟩ := h
  obtain ⟨n1, n2⟩ := okN_nlen (fits_okN hf)
  obtain ⟨aa, al, ak, rfl, _⟩ := id ha.v.sl
  obtain ⟨ba, bl, bk, rfl, _⟩ := id hb.v.sl
  have e1 : al = nlen q.num.natAbs := ha.v.len
  have e2 : bl = nlen q.den := hb.v.len
  have n1' : al ≤ 128 := by omega
  have n2' : bl ≤ 128 := by omega
  have h1 : ¬ (128 < al) := by omega
  have h2 : ¬ (128 < bl) := by omega
  have hbx := below_alloc w (.cells #[.bool (decide (q < 0)), .slice aa al ak, .slice ba bl bk] 50)
  have hC := C3.new w 50 (.bool (decide (q < 0))) (.slice aa al ak) (.slice ba bl bk)
  obtain ⟨_, c0, c1, c2, _, _, _⟩ := id hC
  clear hC hf n1 n2 e1 e2
  go_enter Try.func80, Try.ntmps80
  go_wp2_with fail
  go_ret
  refine ⟨?_, hbx⟩
  congr 2
  simp
  omega
set_option maxHeartbeats 800000 in
theorem r2fits_can (v : Value) (q : Rat) (w : World) (h : FracC w v q) (hf : fits q) : Calls Try.prog 53 #[v] w (RF0 w q) := by
  obtain ⟨a, b, rfl, ha, hb⟩ := id h
  obtain ⟨aa, al, ak, rfl, _⟩ := id ha.v.sl
  obtain ⟨ba, bl, bk, rfl, _⟩ := id hb.v.sl
  have hbx := below_alloc w (.cells #[.bool (decide (q < 0)), .slice aa al ak, .slice ba bl bk] 50)
  have hb2 := below_alloc (w.alloc (.cells #[.bool (decide (q < 0)), .slice aa al ak, .slice ba bl bk] 50)) (.cells #[.bool false, .slice none 0 0, .slice none 0 0] 50)
  have hC := (C3.new w 50 (.bool (decide (q < 0))) (.slice aa al ak) (.slice ba bl bk)).belowS hb2
  have hR := C3.newB (b := w.heap.size + 1) (w.alloc (.cells #[.bool (decide (q < 0)), .slice aa al ak, .slice ba bl bk] 50)) 50 (.bool false) (.slice none 0 0) (.slice none 0 0) (by simp)
  have HC := Lib.hid hC
  have HR := Lib.hid hR
  have HF := Lib.hid hf
  have HQ := Lib.hid ((h.below hbx).below hb2)
  have hbb := below_then hbx hb2
  obtain ⟨_, c0, c1, c2, _, _, _⟩ := id hC
  clear hC hR hf h ha hb
  go_enter Try.func53, Try.ntmps53
  go_wp2_with (go_at_call 80; (with_reducible refine (r2large_can _ q _ HQ.out HF.out).mono ?_); rintro e1 w1 ⟨rfl, hb1⟩
               obtain ⟨_, c0, c1, c2, _, _, _⟩ := HC.out.belowS hb1
               have HR1 := Lib.hid (HR.out.belowS hb1)
               obtain ⟨_, d0, d1, d2, d3, d4, d5⟩ := HR1.out)
  refine bodyPost_c3 rfl rfl Try.aggF Try.sizeF (HR1.out.set _ _ _) rfl ?_
  exact ⟨_, rfl, (HQ.out.below hb1).set3 HR1.out (fun z => by simp) (fun z => by simp) _ _ _, below_set3 (below_then hbb hb1) (Nat.le_succ _) _ _ _⟩
theorem fq_mul_self (p q : Rat) : fq (decide (p < 0) != decide (q < 0)) (p.num.natAbs * q.num.natAbs) (p.den * q.den) = p * q := by rw [← fq_mul, fq_self, fq_self]
theorem fq_mul_self' (p q : Rat) : fq (!(decide (p < 0) == decide (q < 0))) (p.num.natAbs * q.num.natAbs) (p.den * q.den) = p * q := fq_mul_self p q
theorem keep6b {X Y : World} {a1 a2 a3 a4 a5 a6 : Addr} {x1 x2 x3 x4 x5 x6 : Value} (h : X.cell? a1 = some x1 ∧ X.cell? a2 = some x2 ∧ X.cell? a3 = some x3 ∧ X.cell? a4 = some x4 ∧ X.cell? a5 = some x5 ∧ X.cell? a6 = some x6) (hb : Below X.heap.size X Y) :
    Y.cell? a1 = some x1 ∧ Y.cell? a2 = some x2 ∧ Y.cell? a3 = some x3 ∧ Y.cell? a4 = some x4 ∧ Y.cell? a5 = some x5 ∧ Y.cell? a6 = some x6 := by
  obtain ⟨k1, k2, k3, k4, k5, k6⟩ := h
  exact ⟨cell_below hb k1, cell_below hb k2, cell_below hb k3, cell_below hb k4, cell_below hb k5, cell_below hb k6⟩
set_option maxRecDepth 100000 in
set_option maxHeartbeats 1600000 in
theorem r2mul_can (va vb : Value) (p q : Rat) (w : World) (ha : FracC w va p) (hb : FracC w vb q) (hp : fits p) (hq : fits q) (hf : fits (p * q)) : Calls Try.prog 31 #[va, vb] w (RF0 w (p * q)) := by
  obtain ⟨a1, a2, rfl, n1, n2⟩ := id ha
  obtain ⟨b1, b2, rfl, m1, m2⟩ := id hb
  obtain ⟨x1, y1, z1, rfl, _⟩ := id n1.v.sl
  obtain ⟨x2, y2, z2, rfl, _⟩ := id n2.v.sl
  obtain ⟨x3, y3, z3, rfl, _⟩ := id m1.v.sl
  obtain ⟨x4, y4, z4, rfl, _⟩ := id m2.v.sl
  have k1 := below_alloc w (.cells #[.bool (decide (p < 0)), .slice x1 y1 z1, .slice x2 y2 z2] 50)
  have k2 := below_alloc (w.alloc (.cells #[.bool (decide (p < 0)), .slice x1 y1 z1, .slice x2 y2 z2] 50)) (.cells #[.bool (decide (q < 0)), .slice x3 y3 z3, .slice x4 y4 z4] 50)
  have k3 := below_alloc ((w.alloc (.cells #[.bool (decide (p < 0)), .slice x1 y1 z1, .slice x2 y2 z2] 50)).alloc (.cells #[.bool (decide (q < 0)), .slice x3 y3 z3, .slice x4 y4 z4] 50)) (.cells #[.bool false, .slice none 0 0, .slice none 0 0] 50)
  have H3 := three_boxes w 50 (.bool (decide (p < 0))) (.slice x1 y1 z1) (.slice x2 y2 z2) (.bool (decide (q < 0))) (.slice x3 y3 z3) (.slice x4 y4 z4) (.bool false) (.slice none 0 0) (.slice none 0 0) _ rfl
  obtain ⟨hA, hB, hR, hbw⟩ := H3
  have HA := Lib.hid hA
  have HB := Lib.hid hB
  have HR := Lib.hid hR
  have HAP := Lib.hid (ha.below hbw)
  have HBQ := Lib.hid (hb.below hbw)
  have HP := Lib.hid hp
  have HQ := Lib.hid hq
  have HPQ := Lib.hid hf
  have HL := Lib.hid (And.intro (okN_nlen (fits_okN hp)) (okN_nlen (fits_okN hq)))
  obtain ⟨_, c0, c1, c2, _, _, _⟩ := id hA
  obtain ⟨_, d0, d1, d2, _, _, _⟩ := id hB
  clear hA hB hR ha hb n1 n2 m1 m2 hp hq hf k1 k2 k3
  go_enter Try.func31, Try.ntmps31
  go_upto_region 3 with (first
    | (go_at_call 43; (with_reducible refine (r2valid_can _ p _ HAP.out HP.out).mono ?_); rintro e1 w1 ⟨rfl, hb1⟩
       obtain ⟨_, c0, c1, c2, _, _, _⟩ := HA.out.belowS hb1
       obtain ⟨_, d0, d1, d2, _, _, _⟩ := HB.out.belowS hb1)
    | (go_at_call 43; (with_reducible refine (r2valid_can _ q _ (HBQ.out.below hb1) HQ.out).mono ?_); rintro e2 w2 ⟨rfl, hb2⟩))
  have b12 := below_then hb1 hb2
  have hD := below_drew (B := w2.heap.size) w2
  have b1D := below_then b12 hD
  obtain ⟨_, q1, q2, q3, _, _, _⟩ := HA.out.belowS b1D
  obtain ⟨_, r1, r2, r3, _, _, _⟩ := HB.out.belowS b1D
  have HRD := Lib.hid (HR.out.belowS b1D)
  have HAD := Lib.hid (HAP.out.below b1D)
  have HBD := Lib.hid (HBQ.out.below b1D)
  have hbwD := below_then hbw b1D
  obtain ⟨u1, u2, hu, nA, nB⟩ := HAD.out
  injection hu with hu
  injection hu with hu
  simp only [List.cons.injEq, and_true, true_and] at hu
  obtain ⟨rfl, rfl⟩ := hu
  obtain ⟨u1, u2, hu, mA, mB⟩ := HBD.out
  injection hu with hu
  injection hu with hu
  simp only [List.cons.injEq, and_true, true_and] at hu
  obtain ⟨rfl, rfl⟩ := hu
  have kA : w.heap.size + 1 + 1 ≠ w.heap.size := by omega
  have kB : w.heap.size + 1 + 1 ≠ w.heap.size + 1 := by omega
  have HNN := Lib.hid (And.intro nA (And.intro nB (And.intro mA mB)))
  have HDZ : Hid (p.den * q.den ≠ 0) := Lib.hid (Nat.mul_ne_zero p.den_nz q.den_nz)
  have HN5 : Hid (nlen (p.num.natAbs * q.num.natAbs) ≤ 512) := Lib.hid (Nat.le_trans (nlen_mul HL.out.1.1 HL.out.2.1) (by decide))
  have HD5 : Hid (nlen (p.den * q.den) ≤ 512) := Lib.hid (Nat.le_trans (nlen_mul HL.out.1.2 HL.out.2.2) (by decide))
  clear nA nB mA mB c0 c1 c2 d0 d1 d2
  go_region_held3 (fun w' => w'.cell? ⟨w.heap.size, 0, none⟩ = some (.bool (decide (p < 0))) ∧ w'.cell? ⟨w.heap.size, 1, none⟩ = some (.slice x1 y1 z1) ∧ w'.cell? ⟨w.heap.size, 2, none⟩ = some (.slice x2 y2 z2) ∧ w'.cell? ⟨w.heap.size + 1, 0, none⟩ = some (.bool (decide (q < 0))) ∧ w'.cell? ⟨w.heap.size + 1, 1, none⟩ = some (.slice x3 y3 z3) ∧ w'.cell? ⟨w.heap.size + 1, 2, none⟩ = some (.slice x4 y4 z4)) (first
    | with_reducible exact ⟨q1, q2, q3, r1, r2, r3⟩
    | with_reducible exact keep6b (by assumption) (by assumption)
    | with_reducible exact keep6 (keep6 (keep6 (by assumption) kA kA kA kB kB kB _) kA kA kA kB kB kB _) kA kA kA kB kB kB _) (first
    | (go_at_call 54; (with_reducible refine (r2times_any _ _ p.num.natAbs q.num.natAbs _ HNN.out.1.nat HNN.out.2.2.1.nat HL.out.1.1 HL.out.2.1).mono ?_); rintro e3 w3 ⟨v3, rfl, hv3, hb3⟩)
    | (go_at_call 54; (with_reducible refine (r2times_any _ _ p.den q.den _ (HNN.out.2.1.below hb3).nat (HNN.out.2.2.2.below hb3).nat HL.out.1.2 HL.out.2.2).mono ?_); rintro e4 w4 ⟨v4, rfl, hv4, hb4⟩)
    | (go_at_call 50; (with_reducible refine (r2lowest_any _ _ _ (p.num.natAbs * q.num.natAbs) (p.den * q.den) _ (hv3.below hb4).nat hv4.nat HDZ.out HN5.out HD5.out).mono ?_); rintro e5 w5 ⟨v5, rfl, hv5, hb5⟩)
    | (go_at_call 53; (with_reducible refine (r2fits_can _ (p * q) _ (by (have h9 := hv5; rw [fq_mul_self'] at h9; exact h9)) HPQ.out).mono ?_); rintro e6 w6 ⟨v6, rfl, hv6, hb6⟩
       obtain ⟨t9, x9, y9, rfl, ⟨a91, l91, k91, rfl, _⟩, ⟨a92, l92, k92, rfl, _⟩⟩ := hv6.isF
       have HR6 := Lib.hid ((((HRD.out.belowS hb3).belowS hb4).belowS hb5).belowS hb6)
       obtain ⟨_, g0, g1, g2, g3, g4, g5⟩ := HR6.out))
  have hbE := below_then (below_then (below_then (below_then hbwD hb3) hb4) hb5) hb6
  go_wp2_with fail
  refine bodyPost_c3 rfl rfl Try.aggF Try.sizeF (HR6.out.set _ _ _) rfl ?_
  exact ⟨_, rfl, hv6.set3 HR6.out (fun z => by simp) (fun z => by simp) _ _ _, below_set3 hbE (Nat.le_trans (Nat.le_succ _) (Nat.le_succ _)) _ _ _⟩
end Go.Proofs.Ytoldfpkafcefnaa
namespace Go.Proofs.Ytoldfpkafcefnaa
set_option linter.unusedVariables false
set_option linter.unusedSimpArgs false
open Go.RowKit

theorem bsum_snoc {of : List Int} {share : List Rat} (hl : share.length = of.length) (b : Int) (x : Rat) (i : Int) : bsum (of ++ [b]) (share ++ [x]) i = if b = i then bsum of share i + x else bsum of share i := by
  have h1 : of.length < (of ++ [b]).length := by simp
  have h2 : of.length < (share ++ [x]).length := by simp [hl]
  have := bsum_take (of ++ [b]) (share ++ [x]) i of.length h1 h2
  rw [List.take_of_length_le (by simp), List.take_of_length_le (by simp [hl]), List.take_append_of_le_length (Nat.le_refl _), List.take_length, List.take_append_of_le_length (by omega), List.take_of_length_le (by omega)] at this
  rw [this]
  have e1 : (of ++ [b])[of.length] = b := by simp
  have e2 : (share ++ [x])[of.length]'h2 = x := by simp [← hl]
  rw [e1, e2]
/-- Behind j copies of state i. -/
structure CopJ (i j : Nat) (part : Rat) (of : List Int) (share : List Rat) : Prop where
  len : share.length = of.length
  le : of.length ≤ 2 * i + j
  ok : okB of
  num : cnt of = if j = 0 then i else i + 1
  sm : ∀ q ∈ share, smallQ q
  one : ∀ i' : Nat, i' < i → bsum of share (i' : Int) = 1
  part : bsum of share (i : Int) = part
theorem CopJ.zero : CopJ 0 0 0 [] [] := ⟨rfl, by simp, fun k b h => by simp at h, rfl, fun q h => by simp at h, fun i h => by omega, by simp [bsum, bsel, lsum]⟩
theorem CopJ.step {i j : Nat} {p x : Rat} {of : List Int} {share : List Rat} (h : CopJ i j p of share) (hx : smallQ x) : CopJ i (j + 1) (p + x) (of ++ [(i : Int)]) (share ++ [x]) := by
  obtain ⟨len, le, ok, num, sm, one, part⟩ := h
  have hle : (i : Int) ≤ (cnt of : Int) := by rw [num]; split <;> omega
  refine ⟨by simp [len], by simp; omega, okB_snoc ok (by omega) hle, ?_, fun q hq => ?_, fun i' hi' => ?_, ?_⟩
  · rw [cnt_snoc, num]
    by_cases hj : j = 0
    · simp [hj]
    · rw [if_neg hj, if_neg (by omega), if_neg (by omega)]
  · rcases List.mem_append.1 hq with h | h
    · exact sm q h
    · simp at h; subst h; exact hx
  · rw [bsum_snoc len, if_neg (by omega)]; exact one i' hi'
  · rw [bsum_snoc len, if_pos rfl, part]
theorem CopJ.next {i j : Nat} {of : List Int} {share : List Rat} (h : CopJ i j 1 of share) (hj : 0 < j) (hj2 : j ≤ 2) : CopJ (i + 1) 0 0 of share := by
  obtain ⟨len, le, ok, num, sm, one, part⟩ := h
  refine ⟨len, by omega, ok, by rw [num, if_neg (by omega), if_pos rfl], sm, fun i' hi' => ?_, ?_⟩
  · rcases Nat.lt_or_ge i' i with h | h
    · exact one i' h
    · obtain rfl : i' = i := by omega
      exact part
  · have hnone : bsel of share ((i + 1 : Nat) : Int) = [] := by
      unfold bsel
      have : (of.zip share).filter (fun p => decide (p.1 = ((i + 1 : Nat) : Int))) = [] := by
        rw [List.filter_eq_nil_iff]
        intro p hp
        have hm := (List.of_mem_zip hp).1
        obtain ⟨k, hk, e⟩ := List.getElem_of_mem hm
        have := ok.lt (List.getElem?_eq_getElem hk)
        rw [num, if_neg (by omega)] at this
        simp only [decide_eq_true_eq]
        intro e2
        rw [e, e2] at this
        omega
      rw [this]; rfl
    unfold bsum
    rw [hnone]; rfl
theorem CopJ.done {n : Nat} {of : List Int} {share : List Rat} (h : CopJ n 0 0 of share) (hn : n ≤ 5) : CopP n of share :=
  ⟨h.len, by have := h.le; omega, h.ok, by have := h.num; simpa using this, h.sm, h.one⟩
theorem quarter_one (k : Nat) (hk : k ≤ 4) : (0 : Rat) + fq false k 4 + fq false (4 - k) 4 = 1 := by
  rw [Rat.zero_add, fq_quarter, show k + (4 - k) = 4 by omega]
  decide
theorem part_step {j nn x3 : Nat} {q : Rat} (hj : j < nn) (h2 : nn ≤ 2) (hx : x3 < 3) (hq : if nn = 1 then q = 1 else if j = 0 then q = fq false (1 + x3) 4 else q = fq false (4 - (1 + x3)) 4) :
    (if j = 0 then 0 else if nn = 1 then 1 else if j = 1 then 0 + fq false (1 + x3) 4 else 1) + q = (if j + 1 = 0 then 0 else if nn = 1 then 1 else if j + 1 = 1 then 0 + fq false (1 + x3) 4 else 1) := by
  rw [if_neg (show ¬ j + 1 = 0 by omega)]
  by_cases h1 : nn = 1
  · rw [if_pos h1] at hq
    have hj0 : j = 0 := by omega
    rw [if_pos hj0, if_pos h1, hq, Rat.zero_add]
  · rw [if_neg h1] at hq
    by_cases hj0 : j = 0
    · rw [if_pos hj0] at hq
      rw [if_pos hj0, if_neg h1, if_pos (by omega), hq]
    · rw [if_neg hj0] at hq
      rw [if_neg hj0, if_neg h1, if_pos (by omega), if_neg h1, if_neg (by omega), hq]
      exact quarter_one (1 + x3) (by omega)
theorem C3.grown {w w' : World} {b : Nat} {v0 v1 v2 : Value} {row : Option Nat} (h : C3 w b v0 v1 v2) (hg : w.grownBy w' row) (hne : row ≠ some b) : C3 w' b v0 v1 v2 := by
  obtain ⟨lt, c0, c1, c2, f0, f1, f2⟩ := h
  have hb := hg.block b lt (fun e => hne e.symm)
  have hc : ∀ k, w'.cell? ⟨b, k, none⟩ = w.cell? ⟨b, k, none⟩ := fun k => by simp only [World.cell?, hb]
  have hf : ∀ k, w'.frozen? ⟨b, k, none⟩ = w.frozen? ⟨b, k, none⟩ := fun k => by simp only [World.frozen?, hb]
  exact ⟨Nat.lt_of_lt_of_le lt hg.size, by rw [hc]; exact c0, by rw [hc]; exact c1, by rw [hc]; exact c2, by rw [hf]; exact f0, by rw [hf]; exact f1, by rw [hf]; exact f2⟩
/-- Three cells of a block, read out. -/
theorem lit3_cells {w : World} {b : Nat} {x y z : Value} (h0 : w.cell? ⟨b, 0, none⟩ = some x) (h1 : w.cell? ⟨b, 1, none⟩ = some y) (h2 : w.cell? ⟨b, 2, none⟩ = some z) : ∀ j u, [x, y, z][j]? = some u → w.cell? ⟨b, j, none⟩ = some u := fun j u hu => by
  have hj := (List.getElem?_eq_some_iff.1 hu).1
  rcases (show j = 0 ∨ j = 1 ∨ j = 2 by simp at hj; omega) with rfl | rfl | rfl
  · simp at hu; subst hu; exact h0
  · simp at hu; subst hu; exact h1
  · simp at hu; subst hu; exact h2
theorem keep8 {w0 X Y : World} {a1 a2 a3 a4 a5 a6 a7 a8 : Addr} {x1 x2 x3 x4 x5 x6 x7 x8 : Value}
    (h : X.cell? a1 = some x1 ∧ X.cell? a2 = some x2 ∧ X.cell? a3 = some x3 ∧ X.cell? a4 = some x4 ∧ X.cell? a5 = some x5 ∧ X.cell? a6 = some x6 ∧ X.cell? a7 = some x7 ∧ X.cell? a8 = some x8 ∧ Below w0.heap.size w0 X) (hb : Below X.heap.size X Y) :
    Y.cell? a1 = some x1 ∧ Y.cell? a2 = some x2 ∧ Y.cell? a3 = some x3 ∧ Y.cell? a4 = some x4 ∧ Y.cell? a5 = some x5 ∧ Y.cell? a6 = some x6 ∧ Y.cell? a7 = some x7 ∧ Y.cell? a8 = some x8 ∧ Below w0.heap.size w0 Y := by
  obtain ⟨k1, k2, k3, k4, k5, k6, k7, k8, k9⟩ := h
  exact ⟨cell_below hb k1, cell_below hb k2, cell_below hb k3, cell_below hb k4, cell_below hb k5, cell_below hb k6, cell_below hb k7, cell_below hb k8, below_then k9 hb⟩
theorem keep8b {w0 X : World} {a1 a2 a3 a4 a5 a6 a7 a8 : Addr} {x1 x2 x3 x4 x5 x6 x7 x8 : Value}
    (h : X.cell? a1 = some x1 ∧ X.cell? a2 = some x2 ∧ X.cell? a3 = some x3 ∧ X.cell? a4 = some x4 ∧ X.cell? a5 = some x5 ∧ X.cell? a6 = some x6 ∧ X.cell? a7 = some x7 ∧ X.cell? a8 = some x8 ∧ Below w0.heap.size w0 X) : Below w0.heap.size w0 X := h.2.2.2.2.2.2.2.2
/-- Behind a store into a block that is new. -/
theorem keep8s {w0 X : World} {a1 a2 a3 a4 a5 a6 a7 a8 : Addr} {x1 x2 x3 x4 x5 x6 x7 x8 : Value} (h0 : w0.cell? a1 = some x1 ∧ w0.cell? a2 = some x2 ∧ w0.cell? a3 = some x3 ∧ w0.cell? a4 = some x4 ∧ w0.cell? a5 = some x5 ∧ w0.cell? a6 = some x6 ∧ w0.cell? a7 = some x7 ∧ w0.cell? a8 = some x8)
    (h : Below w0.heap.size w0 X) {b : Nat} (hb : w0.heap.size ≤ b) (x y z : Value) :
    (((X.setCell ⟨b, 0, none⟩ x).setCell ⟨b, 1, none⟩ y).setCell ⟨b, 2, none⟩ z).cell? a1 = some x1 ∧ (((X.setCell ⟨b, 0, none⟩ x).setCell ⟨b, 1, none⟩ y).setCell ⟨b, 2, none⟩ z).cell? a2 = some x2 ∧ (((X.setCell ⟨b, 0, none⟩ x).setCell ⟨b, 1, none⟩ y).setCell ⟨b, 2, none⟩ z).cell? a3 = some x3 ∧
    (((X.setCell ⟨b, 0, none⟩ x).setCell ⟨b, 1, none⟩ y).setCell ⟨b, 2, none⟩ z).cell? a4 = some x4 ∧ (((X.setCell ⟨b, 0, none⟩ x).setCell ⟨b, 1, none⟩ y).setCell ⟨b, 2, none⟩ z).cell? a5 = some x5 ∧ (((X.setCell ⟨b, 0, none⟩ x).setCell ⟨b, 1, none⟩ y).setCell ⟨b, 2, none⟩ z).cell? a6 = some x6 ∧
    (((X.setCell ⟨b, 0, none⟩ x).setCell ⟨b, 1, none⟩ y).setCell ⟨b, 2, none⟩ z).cell? a7 = some x7 ∧ (((X.setCell ⟨b, 0, none⟩ x).setCell ⟨b, 1, none⟩ y).setCell ⟨b, 2, none⟩ z).cell? a8 = some x8 ∧ Below w0.heap.size w0 (((X.setCell ⟨b, 0, none⟩ x).setCell ⟨b, 1, none⟩ y).setCell ⟨b, 2, none⟩ z) := by
  have hs := below_set3 h hb x y z
  obtain ⟨k1, k2, k3, k4, k5, k6, k7, k8⟩ := h0
  exact ⟨cell_below hs k1, cell_below hs k2, cell_below hs k3, cell_below hs k4, cell_below hs k5, cell_below hs k6, cell_below hs k7, cell_below hs k8, hs⟩
theorem keep8a {w0 X : World} {a1 a2 a3 a4 a5 a6 a7 a8 : Addr} {x1 x2 x3 x4 x5 x6 x7 x8 : Value} (h0 : w0.cell? a1 = some x1 ∧ w0.cell? a2 = some x2 ∧ w0.cell? a3 = some x3 ∧ w0.cell? a4 = some x4 ∧ w0.cell? a5 = some x5 ∧ w0.cell? a6 = some x6 ∧ w0.cell? a7 = some x7 ∧ w0.cell? a8 = some x8)
    (h : Below w0.heap.size w0 X) : X.cell? a1 = some x1 ∧ X.cell? a2 = some x2 ∧ X.cell? a3 = some x3 ∧ X.cell? a4 = some x4 ∧ X.cell? a5 = some x5 ∧ X.cell? a6 = some x6 ∧ X.cell? a7 = some x7 ∧ X.cell? a8 = some x8 ∧ Below w0.heap.size w0 X := by
  obtain ⟨k1, k2, k3, k4, k5, k6, k7, k8⟩ := h0
  exact ⟨cell_below h k1, cell_below h k2, cell_below h k3, cell_below h k4, cell_below h k5, cell_below h k6, cell_below h k7, cell_below h k8, h⟩
theorem keep10a {w0 X : World} {a1 a2 a3 a4 a5 a6 a7 a8 a9 a10 : Addr} {x1 x2 x3 x4 x5 x6 x7 x8 x9 x10 : Value} (h0 : w0.cell? a1 = some x1 ∧ w0.cell? a2 = some x2 ∧ w0.cell? a3 = some x3 ∧ w0.cell? a4 = some x4 ∧ w0.cell? a5 = some x5 ∧ w0.cell? a6 = some x6 ∧ w0.cell? a7 = some x7 ∧ w0.cell? a8 = some x8 ∧ w0.cell? a9 = some x9 ∧ w0.cell? a10 = some x10) (h : Below w0.heap.size w0 X) :
    X.cell? a1 = some x1 ∧ X.cell? a2 = some x2 ∧ X.cell? a3 = some x3 ∧ X.cell? a4 = some x4 ∧ X.cell? a5 = some x5 ∧ X.cell? a6 = some x6 ∧ X.cell? a7 = some x7 ∧ X.cell? a8 = some x8 ∧ X.cell? a9 = some x9 ∧ X.cell? a10 = some x10 ∧ Below w0.heap.size w0 X := by
  obtain ⟨k1, k2, k3, k4, k5, k6, k7, k8, k9, k10⟩ := h0
  exact ⟨cell_below h k1, cell_below h k2, cell_below h k3, cell_below h k4, cell_below h k5, cell_below h k6, cell_below h k7, cell_below h k8, cell_below h k9, cell_below h k10, h⟩
theorem keep10s {w0 X : World} {a1 a2 a3 a4 a5 a6 a7 a8 a9 a10 : Addr} {x1 x2 x3 x4 x5 x6 x7 x8 x9 x10 : Value} (h : X.cell? a1 = some x1 ∧ X.cell? a2 = some x2 ∧ X.cell? a3 = some x3 ∧ X.cell? a4 = some x4 ∧ X.cell? a5 = some x5 ∧ X.cell? a6 = some x6 ∧ X.cell? a7 = some x7 ∧ X.cell? a8 = some x8 ∧ X.cell? a9 = some x9 ∧ X.cell? a10 = some x10 ∧ Below w0.heap.size w0 X) {b : Nat} (hb : w0.heap.size ≤ b) (hw : w0.cell? a1 = some x1 ∧ w0.cell? a2 = some x2 ∧ w0.cell? a3 = some x3 ∧ w0.cell? a4 = some x4 ∧ w0.cell? a5 = some x5 ∧ w0.cell? a6 = some x6 ∧ w0.cell? a7 = some x7 ∧ w0.cell? a8 = some x8 ∧ w0.cell? a9 = some x9 ∧ w0.cell? a10 = some x10) (x y z : Value) :
    (((X.setCell ⟨b, 0, none⟩ x).setCell ⟨b, 1, none⟩ y).setCell ⟨b, 2, none⟩ z).cell? a1 = some x1 ∧ (((X.setCell ⟨b, 0, none⟩ x).setCell ⟨b, 1, none⟩ y).setCell ⟨b, 2, none⟩ z).cell? a2 = some x2 ∧ (((X.setCell ⟨b, 0, none⟩ x).setCell ⟨b, 1, none⟩ y).setCell ⟨b, 2, none⟩ z).cell? a3 = some x3 ∧ (((X.setCell ⟨b, 0, none⟩ x).setCell ⟨b, 1, none⟩ y).setCell ⟨b, 2, none⟩ z).cell? a4 = some x4 ∧ (((X.setCell ⟨b, 0, none⟩ x).setCell ⟨b, 1, none⟩ y).setCell ⟨b, 2, none⟩ z).cell? a5 = some x5 ∧ (((X.setCell ⟨b, 0, none⟩ x).setCell ⟨b, 1, none⟩ y).setCell ⟨b, 2, none⟩ z).cell? a6 = some x6 ∧ (((X.setCell ⟨b, 0, none⟩ x).setCell ⟨b, 1, none⟩ y).setCell ⟨b, 2, none⟩ z).cell? a7 = some x7 ∧ (((X.setCell ⟨b, 0, none⟩ x).setCell ⟨b, 1, none⟩ y).setCell ⟨b, 2, none⟩ z).cell? a8 = some x8 ∧ (((X.setCell ⟨b, 0, none⟩ x).setCell ⟨b, 1, none⟩ y).setCell ⟨b, 2, none⟩ z).cell? a9 = some x9 ∧ (((X.setCell ⟨b, 0, none⟩ x).setCell ⟨b, 1, none⟩ y).setCell ⟨b, 2, none⟩ z).cell? a10 = some x10 ∧ Below w0.heap.size w0 (((X.setCell ⟨b, 0, none⟩ x).setCell ⟨b, 1, none⟩ y).setCell ⟨b, 2, none⟩ z) := by
  have hs := below_set3 h.2.2.2.2.2.2.2.2.2.2 hb x y z
  obtain ⟨k1, k2, k3, k4, k5, k6, k7, k8, k9, k10⟩ := hw
  exact ⟨cell_below hs k1, cell_below hs k2, cell_below hs k3, cell_below hs k4, cell_below hs k5, cell_below hs k6, cell_below hs k7, cell_below hs k8, cell_below hs k9, cell_below hs k10, hs⟩
theorem keep10b {w0 X : World} {a1 a2 a3 a4 a5 a6 a7 a8 a9 a10 : Addr} {x1 x2 x3 x4 x5 x6 x7 x8 x9 x10 : Value} (h : X.cell? a1 = some x1 ∧ X.cell? a2 = some x2 ∧ X.cell? a3 = some x3 ∧ X.cell? a4 = some x4 ∧ X.cell? a5 = some x5 ∧ X.cell? a6 = some x6 ∧ X.cell? a7 = some x7 ∧ X.cell? a8 = some x8 ∧ X.cell? a9 = some x9 ∧ X.cell? a10 = some x10 ∧ Below w0.heap.size w0 X) : Below w0.heap.size w0 X := h.2.2.2.2.2.2.2.2.2.2
theorem mul_fits {p q : Rat} (hp : smallQ p) (hq : smallQ q) : fits (p * q) := (hp.mul hq).fits
theorem IntsV.set1 {w : World} {v : Value} {l : List Int} (h : IntsV w v l) {p : Addr} (hc : w.cell? p = some (.slice none 0 0)) (u : Value) : IntsV (w.setCell p u) v l :=
  ⟨CellsV.sl h, CellsV.len h, fun j hj => by
    have h1 := CellsV.cell h j hj
    rw [World.cell?_setCell_other]
    · exact h1
    · intro e
      rw [← e, hc] at h1
      injection h1 with h1
      rw [List.getElem_map] at h1
      cases h1⟩
theorem IntsV.set3 {w : World} {v : Value} {l : List Int} (h : IntsV w v l) {b : Nat} (hC : C3 w b (.slice none 0 0) (.slice none 0 0) (.slice none 0 0)) (x y z : Value) : IntsV (((w.setCell ⟨b, 0, none⟩ x).setCell ⟨b, 1, none⟩ y).setCell ⟨b, 2, none⟩ z) v l := by
  obtain ⟨_, c0, c1, c2, _, _, _⟩ := hC
  exact ((h.set1 c0 x).set1 (p := ⟨b, 1, none⟩) (by rw [World.cell?_setCell_other _ _ _ _ (by simp)]; exact c1) y).set1 (p := ⟨b, 2, none⟩) (by rw [World.cell?_setCell_other _ _ _ _ (by simp), World.cell?_setCell_other _ _ _ _ (by simp)]; exact c2) z
/-- Cells that hold no int are kept. -/
def Kp (w w' : World) : Prop := ∀ p x, w.cell? p = some x → (∀ z, x ≠ .int .i64 z) → w'.cell? p = some x
theorem Kp.refl (w : World) : Kp w w := fun _ _ h _ => h
theorem Kp.trans {a b c : World} (h : Kp a b) (k : Kp b c) : Kp a c := fun p x hp hx => k p x (h p x hp hx) hx
theorem Kp.below {w w' : World} (h : Below w.heap.size w w') : Kp w w' := fun p x hp _ => cell_below h hp
theorem Kp.tick {w w' : World} {b a : Nat} {l : List Nat} (ht : TapeAt w b l a) (h : Ticks b w w') : Kp w w' := fun p x hp hx => h.cell ht.c1 hp hx
theorem Kp.low {w0 w w' : World} {B : Nat} (h : Kp w0 w) (hb : Below B w w') (hB : w0.heap.size ≤ B) : Kp w0 w' := fun p x hp hx => by
  have h1 := h p x hp hx
  have h2 := World.block_lt_of_cell? w0 _ hp
  rw [hb.cell (by omega)]; exact h1
theorem NatC.kp {w w' : World} {v : Value} {n : Nat} (h : NatC w v n) (k : Kp w w') : NatC w' v n := ⟨⟨h.v.sl, h.v.len, fun j hj => k _ _ (h.v.cell j hj) (fun z => by simp), h.v.lm⟩, h.2⟩
theorem FracsC.kp {w w' : World} {v : Value} {q : List Rat} (h : FracsC w v q) (k : Kp w w') : FracsC w' v q :=
  ⟨h.sl, h.len, fun j hj => by
    obtain ⟨a, b, h1, h2, h3, h4, h5⟩ := h.at' j hj
    obtain ⟨a1, l1, k1, rfl, _⟩ := h4.v.sl
    obtain ⟨a2, l2, k2, rfl, _⟩ := h5.v.sl
    exact ⟨_, _, k _ _ h1 (fun z => by simp), k _ _ h2 (fun z => by simp), k _ _ h3 (fun z => by simp), h4.kp k, h5.kp k⟩⟩
theorem ChainC.kp {w w' : World} {v : Value} {c : CQ} (h : ChainC w v c) (k : Kp w w') : ChainC w' v c := by
  obtain ⟨r, s, l, rfl, h1, h2, h3⟩ := h
  refine ⟨r, s, l, rfl, ⟨h1.sl, h1.len, fun j hj => ?_⟩, h2.kp k, ⟨CellsV.sl h3, CellsV.len h3, fun j hj => k _ _ (CellsV.cell h3 j hj) (fun z => by simp)⟩⟩
  obtain ⟨x, e1, e2⟩ := h1.at' j hj
  obtain ⟨a1, l1, k1, rfl, _⟩ := e2.sl
  exact ⟨_, k _ _ e1 (fun z => by simp), e2.kp k⟩
/-- The two rows that the first half makes. -/
structure CpW (w0 : World) (w : World) (bt : Nat) (l : List Nat) (B : Nat) (vo vh : Value) (of : List Int) (share : List Rat) : Prop where
  tape : ∃ a, TapeB w bt l B a
  ofr : OwnR w 3 B 1 vo (of.map (Value.int .i64)).length (of.map (Value.int .i64))
  shr : FrRow w 50 B vh share
  fm : Fr w0 bt w
  kp : Kp w0 w
  sz : B ≤ w.heap.size
  nums : bt < B ∧ w0.heap.size < B
section
variable {w0 w w' : World} {bt B : Nat} {l : List Nat} {vo vh : Value} {of : List Int} {share : List Rat}
theorem CpW.below (h : CpW w0 w bt l B vo vh of share) (hb : Below w.heap.size w w') : CpW w0 w' bt l B vo vh of share := by
  obtain ⟨⟨a, ht⟩, o, s, fm, kp, sz, nums⟩ := h
  exact ⟨⟨a, ht.below hb⟩, o.below hb, s.moves (Moves.below hb) (Nat.le_refl _), fm.below hb, kp.trans (Kp.below hb), Nat.le_trans sz hb.size, nums⟩
theorem CpW.tick (h : CpW w0 w bt l B vo vh of share) {a' : Nat} (ht : Ticks bt w w') (hta : TapeAt w' bt l a') : CpW w0 w' bt l B vo vh of share := by
  obtain ⟨⟨a, h0⟩, o, s, fm, kp, sz, n1, n2⟩ := h
  have hm : Moves B w w' := Moves.tick h0.1 n1 ht
  exact ⟨⟨a', h0.tick ht hta⟩, o.moves hm (Nat.le_refl _), s.moves hm (Nat.le_refl _), fm.tick h0.1 ht, kp.trans (Kp.tick h0.1 ht), Nat.le_trans sz ht.size, n1, n2⟩
theorem CpW.growO (h : CpW w0 w bt l B vo vh of share) {vo' : Value} {of' : List Int} (ho : OwnR w' 3 B 1 vo' (of'.map (Value.int .i64)).length (of'.map (Value.int .i64))) (hg : w.grownBy w' vo.ownBlock) : CpW w0 w' bt l B vo' vh of' share := by
  obtain ⟨⟨a, ht⟩, o, s, fm, kp, sz, n1, n2⟩ := h
  have hb : Below B w w' := below_of_grown hg sz (fun k hk => (o.block k hk).1)
  obtain ⟨xs, s1, s2⟩ := id s
  exact ⟨⟨a, ht.low hb n1⟩, ho, s.grown hg o.nl (s1.kinds o (by decide)), fm.low hb n2, kp.low hb (by omega), Nat.le_trans sz hb.size, n1, n2⟩
theorem CpW.growS (h : CpW w0 w bt l B vo vh of share) {vh' : Value} {share' : List Rat} (hs : FrRow w' 50 B vh' share') (hg : w.grownBy w' vh.ownBlock) : CpW w0 w' bt l B vo vh' of share' := by
  obtain ⟨⟨a, ht⟩, o, s, fm, kp, sz, n1, n2⟩ := h
  have hb : Below B w w' := below_of_grown hg sz (fun k hk => (s.block k hk).1)
  obtain ⟨xs, s1, s2⟩ := id s
  exact ⟨⟨a, ht.low hb n1⟩, o.grown hg (o.kinds s1 (by decide)), hs, fm.low hb n2, kp.low hb (by omega), Nat.le_trans sz hb.size, n1, n2⟩
theorem CpW.set (h : CpW w0 w bt l B vo vh of share) {p : Addr} {x : Value} (hp : B ≤ p.block) (ho : vo.ownBlock = none ∨ vo.ownBlock ≠ some p.block) (hh : vh.ownBlock = none ∨ vh.ownBlock ≠ some p.block) (hc : w.cell? p = some x) (hx : ∀ z, x ≠ .int .u32 z) (hx8 : ∀ z, x ≠ .int .u8 z) (u : Value) :
    CpW w0 (w.setCell p u) bt l B vo vh of share := by
  obtain ⟨⟨a, ht⟩, o, s, fm, kp, sz, n1, n2⟩ := h
  refine ⟨⟨a, ht.set (by omega) hc hx8 u⟩, o.over ho u, s.over hh hc hx u, fm.set p (by omega) u, fun q y hq hy => ?_, by simpa [World.setCell] using sz, n1, n2⟩
  have h2 := World.block_lt_of_cell? w0 _ hq
  rw [World.cell?_setCell_other _ _ _ _ (fun e => by rw [e] at hp; omega)]
  exact kp q y hq hy
theorem CpW.set3 (h : CpW w0 w bt l B vo vh of share) {b : Nat} {t0 : Bool} {x0 y0 : Value} (hC : C3 w b (.bool t0) x0 y0) (sx : IsSl x0) (sy : IsSl y0) (hb : B ≤ b) (ho : vo.ownBlock = none ∨ vo.ownBlock ≠ some b) (hh : vh.ownBlock = none ∨ vh.ownBlock ≠ some b) (u0 u1 u2 : Value) :
    CpW w0 (((w.setCell ⟨b, 0, none⟩ u0).setCell ⟨b, 1, none⟩ u1).setCell ⟨b, 2, none⟩ u2) bt l B vo vh of share := by
  obtain ⟨_, c0, c1, c2, _, _, _⟩ := hC
  have h1 := h.set (p := ⟨b, 0, none⟩) hb ho hh c0 (fun z => by simp) (fun z => by simp) u0
  have h2 := h1.set (p := ⟨b, 1, none⟩) hb ho hh (by rw [World.cell?_setCell_other _ _ _ _ (by simp)]; exact c1) sx.noLimb sx.noByte u1
  exact h2.set (p := ⟨b, 2, none⟩) hb ho hh (by rw [World.cell?_setCell_other _ _ _ _ (by simp), World.cell?_setCell_other _ _ _ _ (by simp)]; exact c2) sy.noLimb sy.noByte u2
theorem CpW.ints (h : CpW w0 w bt l B vo vh of share) : IntsV w vo of := ⟨h.ofr.sl, h.ofr.len, fun j hj => h.ofr.cell j hj⟩
end
/-- append(s, x...), s an own row, x an array of one element that lies anywhere: within a region that draws. -/
theorem step_app_R {P : Program} {ops : Array Oper} {o : Oper} {a : Act} {w : World} {K : Act → World → Prop} {Q : Exit → Act → World → Prop} {E : Prop} (hgd : o.guard = none) (s x : Operand) (t : TypeId)
    (ho : o.op = .call { callee := .builtin .append, args := #[s, x], argTypes := #[t, t] })
    (B : Nat) (e : TypeId) (i : TypeInfo) (z : Value) (size bytes : Nat) (ht : P.underlying t = some (.slice e)) (hi : P.info? e = some i) (hz : i.zero = some z)
    (hsize : i.size = size) (hby : i.bytes = bytes) (hzs : z.cells.size = size) (hsz : 0 < size) (hnz : ∀ c ∈ z.cells.toList, ∀ z, c ≠ .int .u32 z)
    (v : Value) (n : Nat) (xs : List Value) (hs : a.eval s = v) (hown : OwnR w e B size v n xs) (news : List Value) (hns : news.length = size) (ad : Addr) (hxe : a.eval x = .slice (some ad) 1 1)
    (hnews : ∀ j u, news[j]? = some u → w.cell? (ad.add j) = some u) (h1 : ∀ u ∈ news, u.oneCell' = true) (hnn : ∀ c ∈ news, ∀ z, c ≠ .int .u32 z)
    (h63 : n + 1 ≤ maxLen) (hbytes : (n + 1) * bytes ≤ 140737488355328) (hbase : B ≤ w.heap.size)
    (h : ∀ v' w', OwnR w' e B size v' (n + 1) (xs ++ news) → w.grownBy w' v.ownBlock → K (a.put o.dst v') w') :
    if Region.wanted o (yielded ops a.tmps) = true then Oper.wp P o a w K Q else E := by
  rw [if_pos (by simp [Region.wanted, hgd])]
  obtain ⟨v', w', hr, h2, h3, h4, h5⟩ := run_append_R (P := P) w B t o.type e i z size bytes ht hi hz hsize hby hzs hsz v n xs hown.own ad 1 1 news (by simp [hns]) hnews h1 h63 hbytes hbase hown.nl hnn hnz
  unfold Oper.wp execOp
  simp only [ho, resolve, invoke, builtin, Sem.run_bind, Sem.run_pure, Result.andThen_ok, List.map_toArray, List.map_cons, List.map_nil, hs, hxe, hr]
  exact h v' w' ⟨h2, h5⟩ h3
theorem step_app_int {P : Program} (t e : TypeId) (i : TypeInfo) (ht : P.underlying t = some (.slice e)) (hi : P.info? e = some i) (hz : i.zero = some (.int .i64 0)) (hsize : i.size = 1) (hby : i.bytes = 8)
    {ops : Array Oper} {o : Oper} {a : Act} {w : World} {K : Act → World → Prop} {Q : Exit → Act → World → Prop} {E : Prop} (hgd : o.guard = none) (s x : Operand)
    (ho : o.op = .call { callee := .builtin .append, args := #[s, x], argTypes := #[t, t] }) (B : Nat) (v : Value) (es : List Int) (hs : a.eval s = v) (hown : OwnR w e B 1 v (es.map (Value.int .i64)).length (es.map (Value.int .i64))) (y : Int) (g : Nat) (hxe : a.eval x = .slice (some ⟨g, 0, none⟩) 1 1)
    (hc : w.cell? ⟨g, 0, none⟩ = some (.int .i64 y)) (hn : es.length ≤ 1000) (hbase : B ≤ w.heap.size)
    (h : ∀ v' w', OwnR w' e B 1 v' ((es ++ [y]).map (Value.int .i64)).length ((es ++ [y]).map (Value.int .i64)) → w.grownBy w' v.ownBlock → K (a.put o.dst v') w') :
    if Region.wanted o (yielded ops a.tmps) = true then Oper.wp P o a w K Q else E := by
  refine step_app_R hgd s x t ho B e i (.int .i64 0) 1 8 ht hi hz hsize hby rfl (by decide) (fun c hc z => by
      have hc2 : c ∈ [Value.int .i64 0] := hc
      simp at hc2; subst hc2; simp) v _ _ hs hown [.int .i64 y] rfl ⟨g, 0, none⟩ hxe (fun j u hu => by
      have hj := (List.getElem?_eq_some_iff.1 hu).1
      have : j = 0 := by simp at hj; omega
      subst this
      simp at hu; subst hu; exact hc) (fun u hu => by simp at hu; subst hu; rfl) (fun c hc z => by simp at hc; subst hc; simp) (by simp [maxLen]; omega) (by simp; omega) hbase ?_
  intro v' w' k1 k2
  refine h v' w' ?_ k2
  rw [List.map_append, List.length_append]
  exact k1
theorem step_app_one {P : Program} (t e : TypeId) (i : TypeInfo) (z : Value) (bytes : Nat) (ht : P.underlying t = some (.slice e)) (hi : P.info? e = some i) (hz : i.zero = some z) (hsize : i.size = 1) (hby : i.bytes = bytes) (hby2 : bytes ≤ 64) (hzc : z.cells = #[z]) (hzn : ∀ k, z ≠ .int .u32 k)
    {ops : Array Oper} {o : Oper} {a : Act} {w : World} {K : Act → World → Prop} {Q : Exit → Act → World → Prop} {E : Prop} (hgd : o.guard = none) (s x : Operand)
    (ho : o.op = .call { callee := .builtin .append, args := #[s, x], argTypes := #[t, t] }) (B : Nat) (v : Value) (xs : List Value) (hs : a.eval s = v) (hown : OwnR w e B 1 v xs.length xs) (y : Value) (hy1 : y.oneCell' = true) (hyn : ∀ k, y ≠ .int .u32 k) (g : Nat) (hxe : a.eval x = .slice (some ⟨g, 0, none⟩) 1 1)
    (hc : w.cell? ⟨g, 0, none⟩ = some y) (hn : xs.length ≤ 1000) (hbase : B ≤ w.heap.size)
    (h : ∀ v' w', OwnR w' e B 1 v' (xs ++ [y]).length (xs ++ [y]) → w.grownBy w' v.ownBlock → K (a.put o.dst v') w') :
    if Region.wanted o (yielded ops a.tmps) = true then Oper.wp P o a w K Q else E := by
  refine step_app_R hgd s x t ho B e i z 1 bytes ht hi hz hsize hby (by rw [hzc]; rfl) (by decide) (fun d hd => by rw [hzc] at hd; simp at hd; subst hd; exact hzn) v _ _ hs hown [y] rfl ⟨g, 0, none⟩ hxe (fun j u hu => by
      have hj := (List.getElem?_eq_some_iff.1 hu).1
      have : j = 0 := by simp at hj; omega
      subst this
      simp at hu; subst hu; exact hc) (fun u hu => by simp at hu; subst hu; exact hy1) (fun c hc z => by simp at hc; subst hc; exact hyn z) (by simp [maxLen]; omega) (by have : (xs.length + 1) * bytes ≤ 1001 * 64 := Nat.mul_le_mul (by omega) hby2; omega) hbase ?_
  intro v' w' k1 k2
  refine h v' w' ?_ k2
  rw [List.length_append]
  exact k1
theorem step_app_fr {P : Program} (t e : TypeId) (i : TypeInfo) (ht : P.underlying t = some (.slice e)) (hi : P.info? e = some i) (hz : i.zero = some (.agg #[.bool false, .slice none 0 0, .slice none 0 0])) (hsize : i.size = 3) (hby : i.bytes = 56)
    {ops : Array Oper} {o : Oper} {a : Act} {w : World} {K : Act → World → Prop} {Q : Exit → Act → World → Prop} {E : Prop} (hgd : o.guard = none) (s x : Operand)
    (ho : o.op = .call { callee := .builtin .append, args := #[s, x], argTypes := #[t, t] }) (B : Nat) (v : Value) (q : List Rat) (hs : a.eval s = v) (hown : FrRow w e B v q) (c0 c1 c2 : Value) (r : Rat) (hf : FracC w (.agg #[c0, c1, c2]) r) (g : Nat) (hxe : a.eval x = .slice (some ⟨g, 0, none⟩) 1 1)
    (hc : ∀ j u, [c0, c1, c2][j]? = some u → w.cell? ⟨g, j, none⟩ = some u) (hn : q.length ≤ 1000) (hbase : B ≤ w.heap.size)
    (h : ∀ v' w', FrRow w' e B v' (q ++ [r]) → w.grownBy w' v.ownBlock → K (a.put o.dst v') w') :
    if Region.wanted o (yielded ops a.tmps) = true then Oper.wp P o a w K Q else E := by
  obtain ⟨xs, h1, h2⟩ := hown
  have hl : xs.length = q.length * 3 := h1.clen
  have hf2 := hf
  obtain ⟨a1, b1, ha, h4, h5⟩ := hf2
  injection ha with ha
  injection ha with ha
  simp only [List.cons.injEq, and_true] at ha
  obtain ⟨rfl, rfl, rfl⟩ := ha
  obtain ⟨p1, p2, p3, rfl, _⟩ := h4.v.sl
  obtain ⟨s1, s2, s3, rfl, _⟩ := h5.v.sl
  refine step_app_R hgd s x t ho B e i _ 3 56 ht hi hz hsize hby rfl (by decide) (fun c hc z => by
      have hc2 : c ∈ [Value.bool false, .slice none 0 0, .slice none 0 0] := hc
      simp at hc2; rcases hc2 with rfl | rfl <;> simp) v q.length xs hs h1 [.bool (decide (r < 0)), .slice p1 p2 p3, .slice s1 s2 s3] rfl ⟨g, 0, none⟩ hxe (fun j u hu => by
        rw [Addr.add_lit, Nat.zero_add]; exact hc j u hu)
    (fun u hu => by simp at hu; rcases hu with rfl | rfl | rfl <;> rfl) (fun u hu z => by simp at hu; rcases hu with rfl | rfl | rfl <;> simp) (by simp [maxLen]; omega) (by omega) hbase ?_
  intro v' w' k1 k2
  refine h v' w' ⟨_, ?_, (CellsQ.snoc (r := r) h2 hl hf).grown k2 h1.nl⟩ k2
  rw [List.length_append]
  exact k1
theorem CpW.start {w : World} {bt a : Nat} {l : List Nat} (h : TapeAt w bt l a) (t : TypeId) :
    CpW w (w.alloc (.cells #[.slice none 0 0, .slice none 0 0, .slice none 0 0] t)) bt l (w.heap.size + 1) (.slice none 0 0) (.slice none 0 0) [] [] := by
  have hb := below_alloc w (.cells #[.slice none 0 0, .slice none 0 0, .slice none 0 0] t)
  have hlt := h.lt
  exact ⟨⟨a, (h.b.mono (Nat.le_succ _)).below hb⟩, OwnR.nil _ _ _ _, FrRow.nil _ _ _, ⟨C3.new w t _ _ _, fun B _ hB => hb.mono hB⟩, Kp.below hb, by simp, by omega, by omega⟩
end Go.Proofs.Ytoldfpkafcefnaa
