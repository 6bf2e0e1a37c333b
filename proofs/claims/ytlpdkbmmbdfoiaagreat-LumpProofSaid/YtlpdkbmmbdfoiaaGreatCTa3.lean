/-
  What is kept while a tape is read. No program is named here.
  Ahead of it: Sizes for LumpProof: the rate, both steps, the sums; and the theorem of lumping for it. No code is walked here. Numbering blocks in the order of their least members: the plain law. No program is named here. package drydockmake: New, Next. package drydockmake: New.
-/
import Derived.Test.YtlpdkbmmbdfoiaaGreatCOwR
import Derived.Test.YtlpdkbmmbdfoiaaGreatCSz2
import Derived.Test.YtlpdkbmmbdfoiaaGreatCMath13
import Derived.Test.YtlpdkbmmbdfoiaaGreatCFr5
import Derived.Test.YtlpdkbmmbdfoiaaGreatCMath27
import Derived.Test.YtlpdkbmmbdfoiaaGreatCRb3
import Derived.Test.YtlpdkbmmbdfoiaaGreatCEl1
import Derived.RegionTactic
import Derived.ChangeAlike
namespace Go.Proofs.YtlpdkbmmbdfoiaaGreat
set_option linter.unusedVariables false

/-- A step of v with the rate ρ is computed. -/
structure StepOk (c : RC) (ρ : Rat) (v : List Rat) : Prop where
  fρ : fits ρ
  pos : 0 < ρ
  le : leaveTo c c.rates.length ≤ ρ
  h1 : ∀ i j, i < c.rates.length → j < c.rates.length → fits ((rowsQ c i).getD j 0 / ρ)
  h2 : ∀ i, i < c.rates.length → fits (lsum (rowsQ c i) / ρ) ∧ fits (1 - lsum (rowsQ c i) / ρ)
  hw : wtF c.rates.length c.rates.length (stepE c ρ) + wts v ≤ 3800
/-- The vector behind a step. -/
def stepV (c : RC) (ρ : Rat) (v : List Rat) : List Rat := rowL c.rates.length fun j => sg c.rates.length fun i => v.getD i 0 * stepE c ρ i j
theorem stepV_length (c : RC) (ρ : Rat) (v : List Rat) : (stepV c ρ v).length = c.rates.length := rowL_length _ _
theorem stepV_stepQ {c : RC} (hv : validP c) (ρ : Rat) (v : List Rat) : stepV c ρ v = stepQ c.rates.length (rowsQ c) ρ⁻¹ v := by
  unfold stepV stepQ rowL
  refine List.map_congr_left fun j hj => sg_congr fun i hi => ?_
  rw [stepE_stepM c c.rates.length ρ (by rw [rowsQ_len hv (by have := hv.2.2.1; have := hv.2.2.2.1; omega)]; have := hv.2.2.1; have := hv.2.2.2.1; omega)]
theorem mk_fq (a d : Nat) : fq false a d = mkRat ((a : Nat) : Int) d := rfl
theorem over.lsum {D B : Nat} (hD : D ≠ 0) {l : List Rat} (h : ∀ q ∈ l, over D B q) : over D (l.length * B) (lsum l) := by
  rw [lsum_sg]
  exact over.sg hD fun i hi => by
    rw [List.getD_eq_getElem?_getD, List.getElem?_eq_getElem hi]
    exact h _ (List.getElem_mem hi)
theorem over.bsum {D B m : Nat} (hD : D ≠ 0) {bl : List Int} {row : List Rat} (h : ∀ q ∈ row, over D B q) (hm : row.length ≤ m) (b : Int) : over D (m * B) (bsum bl row b) := by
  have hs := bsel_sub bl row b
  exact (over.lsum hD (fun q hq => h q (hs.subset hq))).mono (Nat.mul_le_mul_right _ (Nat.le_trans hs.length_le hm))
theorem over.take {D B : Nat} {l : List Rat} (h : ∀ q ∈ l, over D B q) (k : Nat) : ∀ q ∈ l.take k, over D B q := fun q hq => h q (List.mem_of_mem_take hq)
theorem wts_all3 {l : List Rat} {K : Nat} (h : ∀ q ∈ l, wt q ≤ K) : wts l ≤ l.length * K := by
  induction l with
  | nil => simp [wts]
  | cons x l ih =>
    have h1 := h x (by simp)
    have h2 := ih fun q hq => h q (by simp [hq])
    rw [wts_cons, List.length_cons, Nat.succ_mul]
    omega
section
variable {c : RC}
theorem big_getD (hr : ∀ i, i < c.rates.length → ∀ q ∈ rowsQ c i, bigQ 2304 q) {i j : Nat} (hi : i < c.rates.length) : over 144 2304 ((rowsQ c i).getD j 0) := by
  by_cases hj : j < (rowsQ c i).length
  · rw [List.getD_eq_getElem?_getD, List.getElem?_eq_getElem hj]
    exact (hr i hi _ (List.getElem_mem hj)).over
  · rw [List.getD_eq_getElem?_getD, List.getElem?_eq_none (by omega)]
    exact over.zero _ _
theorem big_sum (hv : validP c) (hn : c.rates.length ≤ 10) (hr : ∀ i, i < c.rates.length → ∀ q ∈ rowsQ c i, bigQ 2304 q) {i : Nat} (hi : i < c.rates.length) : bigQ 23040 (lsum (rowsQ c i)) := by
  have h1 := rowsQ_len hv (i := i) (by have := hv.2.2.1; have := hv.2.2.2.1; omega)
  refine (bigQ.sum (hr i hi)).mono ?_
  have := hv.2.2.1
  have := hv.2.2.2.1
  omega
/-- The chain's steps are computed at such a rate. -/
theorem stepOk_of (hv : validP c) (hn : c.rates.length ≤ 10) (hr : ∀ i, i < c.rates.length → ∀ q ∈ rowsQ c i, bigQ 2304 q) {R : Nat} (hR0 : R ≠ 0) (hR : R ≤ 23328) (hle : leaveTo c c.rates.length ≤ mkRat ((R : Nat) : Int) 144) {v : List Rat} (hw : wts v ≤ 700) :
    StepOk c (mkRat ((R : Nat) : Int) 144) v ∧ ∀ i j, i < c.rates.length → j < c.rates.length → over R 48672 (stepE c (mkRat ((R : Nat) : Int) 144) i j) := by
  have ho : ∀ i j, i < c.rates.length → j < c.rates.length → over R 48672 (stepE c (mkRat ((R : Nat) : Int) 144) i j) := fun i j hi hj =>
    (stepE_over (n := c.rates.length) (N := 2304) (S := 23040) hR0 (fun i j hi _ => big_getD hr hi) (fun i hi => (big_sum hv hn hr hi).over) hi hj).mono (by omega)
  refine ⟨⟨?_, ?_, hle, step_fits1 (N := 2304) hR0 (by omega) (by decide) (fun i j hi _ => big_getD hr hi), step_fits2 (S := 23040) hR0 (by omega) (by decide) (fun i hi => (big_sum hv hn hr hi).over), ?_⟩, ho⟩
  · exact over.fits (D := 144) (B := R) (by decide) ⟨R, rfl, by simp⟩ (Nat.lt_of_le_of_lt hR (by decide +kernel)) (by decide +kernel)
  · have h1 : ¬ fq false R 144 < 0 := of_decide_eq_false (fq_neg false R 144 (by decide))
    have h2 : fq false R 144 ≠ 0 := fq_ne _ hR0 (by decide)
    rw [mk_fq] at h1 h2
    grind
  · have h1 : wtF c.rates.length c.rates.length (stepE c (mkRat ((R : Nat) : Int) 144)) ≤ c.rates.length * (c.rates.length * 31) := wtF_le fun i j hi hj =>
      over.wt (a := 16) (b := 15) hR0 (ho i j hi hj) (by decide) (by omega)
    have h2 : c.rates.length * (c.rates.length * 31) ≤ 10 * (10 * 31) := Nat.mul_le_mul hn (Nat.mul_le_mul_right _ hn)
    omega
theorem stepV_over {R D B : Nat} (hD : D ≠ 0) (hR0 : R ≠ 0) {ρ : Rat} (ho : ∀ i j, i < c.rates.length → j < c.rates.length → over R 48672 (stepE c ρ i j)) {v : List Rat} (hvo : ∀ q ∈ v, over D B q) : ∀ q ∈ stepV c ρ v, over (D * R) (c.rates.length * (B * 48672)) q := by
  intro q hq
  unfold stepV rowL at hq
  obtain ⟨j, hj, rfl⟩ := List.mem_map.1 hq
  have hj2 := List.mem_range.1 hj
  refine over.sg (Nat.mul_ne_zero hD hR0) fun i hi => over.mul ?_ (ho i j hi hj2)
  by_cases hi2 : i < v.length
  · rw [List.getD_eq_getElem?_getD, List.getElem?_eq_getElem hi2]; exact hvo _ (List.getElem_mem hi2)
  · rw [List.getD_eq_getElem?_getD, List.getElem?_eq_none (by omega)]; exact over.zero _ _
end
theorem fitS_of {D B : Nat} (hD : D ≠ 0) {bl : List Int} {row : List Rat} (hl : row.length ≤ 10) (h : ∀ q ∈ row, over D B q) (hB : 10 * B < 2 ^ 4096) (hD2 : D < 2 ^ 4096) : fitS (row.map RF.of) bl := by
  intro k hk
  have e : qs (row.map RF.of) = row := qs_map_of row
  rw [e]
  exact (over.bsum hD (over.take h (k + 1)) (by rw [List.length_take]; omega) _).fits hD hB hD2
/-- What LumpProof computes. -/
structure ProofP (cc q : RC) (of : List Int) (ρ : Rat) (v : List Rat) : Prop where
  s1 : fitS (v.map RF.of) of
  w : StepOk cc ρ v
  a : StepOk q ρ (bsums of v (cnt of))
  b : fitS ((stepV cc ρ v).map RF.of) of
  eq : stepV q ρ (bsums of v (cnt of)) = bsums of (stepV cc ρ v) (cnt of)
  vf : ∀ x ∈ v, fits x
  sf : ∀ x ∈ bsums of v (cnt of), fits x
  wf : ∀ x ∈ stepV cc ρ v, fits x
theorem proof_law {c : CQ} {of : List Int} {share : List Rat} (ht : tapeP c) (h : CopP c.start.length of share) {v : List Rat} (hv : v.length = of.length) (hvo : ∀ q ∈ v, over 6 768 q) {e : Nat} (he0 : e ≠ 0) (he : e ≤ 4) :
    ProofP (copQ c of share).raw c.raw of (leaveTo (copQ c of share).raw of.length + fq false e 2) v := by
  have hck := cop_check ht h
  have hval := cop_valid ht h
  have hqv := ht.valid
  have hn : (copQ c of share).raw.rates.length = of.length := by simp [CQ.raw, copQ]
  have hm : c.raw.rates.length = c.start.length := hqv.2.2.2.1.trans (by simp [CQ.raw])
  have hcn : cnt of = c.start.length := h.num
  have hll9 : c.raw.lost.length = c.start.length := hqv.2.2.1.trans (by simp [CQ.raw])
  have hrc : ∀ i, i < (copQ c of share).raw.rates.length → ∀ q ∈ rowsQ (copQ c of share).raw i, bigQ 2304 q := fun i hi q hq => by
    rw [hn] at hi
    rw [cop_rowsQ hi] at hq
    obtain ⟨b, hb, rfl⟩ := List.mem_map.1 hq
    have hb2 : b < of.length := by simpa using hb
    obtain ⟨x, hx, _, e1⟩ := h.blk hi
    obtain ⟨j, hj, _, e2⟩ := h.blk hb2
    rw [e1, e2, h.sh hb2]
    split
    · exact bigQ.zero _
    · exact (ht.rate (by simpa using hx) (by simpa using hj)).big (h.sm _ (List.getElem_mem _))
  have hrq : ∀ i, i < c.raw.rates.length → ∀ q ∈ rowsQ c.raw i, bigQ 2304 q := fun i hi q hq => by
    obtain ⟨j, hj, rfl⟩ := List.getElem_of_mem hq
    have hl := rowsQ_len hqv (i := i) (by have := hqv.2.2.1; have := hqv.2.2.2.1; omega)
    have e1 : (rowsQ c.raw i)[j] = (c.rates.getD i []).getD j 0 := by
      have : rowsQ c.raw i = c.rates.getD i [] := rowsQ_raw c i
      simp only [this, List.getD_eq_getElem?_getD (l := c.rates.getD i [])]
      rw [List.getElem?_eq_getElem (by rw [← this]; exact hj)]
      rfl
    rw [e1]
    obtain ⟨a, ha, e2⟩ := (ht.rate (i := i) (j := j) (by omega) (by have := hqv.2.2.1; have := hqv.2.2.2.1; omega)).twelve
    rw [e2, fq_scale a 12 12 (by decide)]
    exact ⟨a * 12, by omega, rfl⟩
  obtain ⟨A, hA, hAe⟩ : bigQ 23040 (leaveTo (copQ c of share).raw of.length) := leave_all (P := bigQ 23040) (bigQ.zero _) fun i hi => big_sum hval (by rw [hn]; exact h.le) hrc (by rw [hn]; exact hi)
  have hρ : leaveTo (copQ c of share).raw of.length + fq false e 2 = mkRat ((A + 72 * e : Nat) : Int) 144 := by
    rw [hAe, fq_scale e 2 72 (by decide), mk_fq, mk_fq, Rat.mkRat_add_mkRat _ _ (by decide) (by decide), ← Int.add_mul]
    rw [show (A + 72 * e : Nat) = A + e * 72 by omega]
    exact Rat.mkRat_mul_right (by decide)
  obtain ⟨R, hRd⟩ : ∃ R, A + 72 * e = R := ⟨_, rfl⟩
  have hR0 : R ≠ 0 := by omega
  have hR : R ≤ 23328 := by omega
  rw [hρ, hRd]
  have hle : leaveTo (copQ c of share).raw (copQ c of share).raw.rates.length ≤ mkRat ((R : Nat) : Int) 144 := by
    rw [hn, ← hRd, ← hρ]
    have h1 : ¬ fq false e 2 < 0 := of_decide_eq_false (fq_neg false e 2 (by decide))
    grind
  have hsum : ∀ i, i < c.start.length → lsum (rowsQ c.raw i) ≤ mkRat ((R : Nat) : Int) 144 := fun i hi => by
    refine Rat.le_trans ?_ hle
    have hq := cop_quo ht h
    have hfb := firstB_has h.ok (b := i) (by rw [hcn]; exact hi)
    refine Rat.le_trans ?_ (leave_ge (i := firstB of i) (by rw [hn]; exact hfb.1))
    have hkey := quo_sum_le (n := of.length) (m := cnt of) (blk := fun k => (of.getD k 0).toNat)
      (fun k hk => by obtain ⟨x, hx, _, e1⟩ := h.blk hk; rw [e1, hcn]; simpa using hx)
      (R := fun i j => (rowsQ (copQ c of share).raw i).getD j 0) (Q := fun a b => (rowsQ c.raw a).getD b 0)
      (fun i j hi hj => by
        have h1 : ∀ q : Rat, bigQ 2304 q → 0 ≤ q := fun q hq => Rat.not_lt.1 hq.nonneg
        by_cases h2 : j < (rowsQ (copQ c of share).raw i).length
        · rw [List.getD_eq_getElem?_getD, List.getElem?_eq_getElem h2]
          exact h1 _ (hrc i (by rw [hn]; exact hi) _ (List.getElem_mem h2))
        · rw [List.getD_eq_getElem?_getD, List.getElem?_eq_none (by omega)]; exact Rat.le_refl)
      (fun i hi b hb hne => by
        obtain ⟨x, hx, e0, e1⟩ := h.blk hi
        have e2 : (of.getD i 0).toNat = x := by rw [e1]; rfl
        simp only [e2] at hne ⊢
        have h3 := copRow_sum ht h hi e1 hx b (by rw [← hcn]; exact hb)
        have h4 : (copRow c of share i).length = of.length := by simp [copRow]
        rw [cop_rowsQ hi, ← bsum_blk h.ok h4]
        rw [h3, if_neg (fun e => hne e.symm), rowsQ_raw])
      (fun b hb => by
        have := diag_zero hqv (i := b) (by simp [CQ.raw]; rw [← hcn]; exact hb)
        exact this) hfb.1
    have e3 : (of.getD (firstB of i) 0).toNat = i := by
      rw [List.getD_eq_getElem?_getD, hfb.2]; simp
    simp only [e3] at hkey
    rw [lsum_sg, lsum_sg, cop_rowsQ hfb.1]
    rw [cop_rowsQ hfb.1] at hkey
    have h4 : (copRow c of share (firstB of i)).length = of.length := by simp [copRow]
    have h5 := rowsQ_len hqv (i := i) (by rw [hll9]; exact hi)
    rw [h4]
    have h6 : (rowsQ c.raw i).length = cnt of := by
      rw [h5, hcn]; exact hqv.2.2.1.trans (by simp [CQ.raw])
    rw [h6]; exact hkey
  have hle2 : leaveTo c.raw c.raw.rates.length ≤ mkRat ((R : Nat) : Int) 144 := by
    refine leave_le ?_ fun i hi => hsum i (by rw [← hm]; exact hi)
    exact Rat.le_trans (leave_nonneg _) hle
  have hn10 : of.length ≤ 10 := h.le
  have hv10 : v.length ≤ 10 := by omega
  have hso : ∀ x ∈ bsums of v (cnt of), over 6 7680 x := fun x hx => by
    obtain ⟨b, rfl⟩ := mem_bsums hx
    exact over.bsum (D := 6) (B := 768) (m := 10) (by decide) hvo hv10 b
  have hwv : wts v ≤ 700 := by
    have := wts_all3 (l := v) (K := 13) fun q hq => over.wt (a := 10) (b := 3) (by decide) (hvo q hq) (by decide) (by decide)
    omega
  have hws : wts (bsums of v (cnt of)) ≤ 700 := by
    have h1 := wts_all3 (l := bsums of v (cnt of)) (K := 16) fun q hq => over.wt (a := 13) (b := 3) (by decide) (hso q hq) (by decide) (by decide)
    rw [bsums_length] at h1
    have := ht.n5
    omega
  obtain ⟨g1, g2⟩ := stepOk_of hval (by rw [hn]; exact hn10) hrc hR0 hR hle (v := v) hwv
  obtain ⟨k1, k2⟩ := stepOk_of hqv (by rw [hm]; have := ht.n5; omega) hrq hR0 hR hle2 (v := bsums of v (cnt of)) hws
  have hwo := stepV_over (D := 6) (B := 768) (by decide) hR0 g2 hvo
  rw [hn] at hwo
  have hwo2 : ∀ q ∈ stepV (copQ c of share).raw (mkRat ((R : Nat) : Int) 144) v, over (6 * R) 400000000 q := fun q hq => (hwo q hq).mono (Nat.le_trans (Nat.mul_le_mul_right _ hn10) (by decide))
  have h6R : 6 * R ≠ 0 := by omega
  refine ⟨fitS_of (D := 6) (B := 768) (by decide) hv10 hvo (by decide +kernel) (by decide +kernel), g1, k1,
    fitS_of (D := 6 * R) (B := 400000000) h6R (by rw [stepV_length, hn]; exact hn10) hwo2 (by decide +kernel) (Nat.lt_of_le_of_lt (show 6 * R ≤ 200000 by omega) (by decide +kernel)), ?_,
    fun x hx => (hvo x hx).fits (by decide) (by decide +kernel) (by decide +kernel), fun x hx => (hso x hx).fits (by decide) (by decide +kernel) (by decide +kernel), fun x hx => (hwo2 x hx).fits h6R (by decide +kernel) (Nat.lt_of_le_of_lt (show 6 * R ≤ 200000 by omega) (by decide +kernel))⟩
  rw [stepV_stepQ hqv, stepV_stepQ hval, hn]
  have hll := lump_lists hck (mkRat ((R : Nat) : Int) 144)⁻¹ (v := v) hv
  rw [cop_quo ht h] at hll
  rw [hll, hcn, hm]
end Go.Proofs.YtlpdkbmmbdfoiaaGreat
namespace Go.Proofs.YtlpdkbmmbdfoiaaGreat
set_option linter.unusedVariables false

/-- Behind k members, m numbers given. -/
structure NumI (l : List Int) (k m : Nat) (es : List Int) : Prop where
  len : es.length = l.length
  le : m ≤ k
  pos : ∀ j, j < k → ∃ x : Int, es[j]? = some x ∧ 0 ≤ x
  eq : okB l → m = cnt (l.take k) ∧ ∀ j, j < k → es[j]? = l[j]?
/-- Member k against the first t. -/
structure NumJ (l : List Int) (k m t : Nat) (es : List Int) : Prop where
  i : NumI l k m es
  lt : k < l.length
  z : ∃ z : Int, es[k]? = some z ∧ ((z = -1 ∧ ∀ j, j < t → l[j]? ≠ l[k]?) ∨ ∃ j, j < t ∧ j < k ∧ l[j]? = l[k]? ∧ es[j]? = some z)
theorem NumI.zero (l : List Int) : NumI l 0 0 (List.replicate l.length 0) :=
  ⟨by simp, Nat.le_refl _, fun j h => by omega, fun _ => ⟨rfl, fun j h => by omega⟩⟩
theorem NumI.over {l : List Int} {k m : Nat} {es : List Int} (h : NumI l k m es) (x : Int) : NumI l k m (es.set k x) :=
  ⟨by rw [List.length_set]; exact h.len, h.le, fun j hj => by rw [List.getElem?_set_ne (by omega)]; exact h.pos j hj, fun ho => ⟨(h.eq ho).1, fun j hj => by rw [List.getElem?_set_ne (by omega)]; exact (h.eq ho).2 j hj⟩⟩
theorem NumI.mark {l : List Int} {k m : Nat} {es : List Int} (h : NumI l k m es) (hk : k < l.length) : NumJ l k m 0 (es.set k (-1)) :=
  ⟨h.over _, hk, -1, List.getElem?_set_self (by rw [h.len]; exact hk), Or.inl ⟨rfl, fun j hj => by omega⟩⟩
theorem NumJ.hit {l : List Int} {k m t : Nat} {es : List Int} (h : NumJ l k m t es) (ht : t < k) (he : l[t]? = l[k]?) {x : Int} (hx : es[t]? = some x) : NumJ l k m (t + 1) (es.set k x) :=
  ⟨h.i.over _, h.lt, x, List.getElem?_set_self (by rw [h.i.len]; exact h.lt), Or.inr ⟨t, by omega, ht, he, by rw [List.getElem?_set_ne (by omega)]; exact hx⟩⟩
theorem NumJ.miss {l : List Int} {k m t : Nat} {es : List Int} (h : NumJ l k m t es) (he : l[t]? ≠ l[k]?) : NumJ l k m (t + 1) es := by
  obtain ⟨h1, h2, z, h3, h4⟩ := h
  refine ⟨h1, h2, z, h3, ?_⟩
  rcases h4 with ⟨h5, h6⟩ | ⟨j, h5, h6⟩
  · refine Or.inl ⟨h5, fun j hj => ?_⟩
    by_cases hjt : j = t
    · subst hjt; exact he
    · exact h6 j (by omega)
  · exact Or.inr ⟨j, by omega, h6⟩
theorem NumJ.neg {l : List Int} {k m : Nat} {es : List Int} (h : NumJ l k m k es) {z : Int} (hz : es[k]? = some z) (hn : z < 0) : NumI l (k + 1) (m + 1) (es.set k (m : Int)) := by
  obtain ⟨h1, h2, z', h3, h4⟩ := h
  rw [hz] at h3
  injection h3 with h3
  subst h3
  refine ⟨by rw [List.length_set]; exact h1.len, by have := h1.le; omega, fun j hj => ?_, fun ho => ?_⟩
  · by_cases hjk : j = k
    · subst hjk; exact ⟨m, List.getElem?_set_self (by rw [h1.len]; exact h2), by omega⟩
    · rw [List.getElem?_set_ne (by omega)]; exact h1.pos j (by omega)
  · have h5 : ∀ j, j < k → l[j]? ≠ l[k]? := by
      rcases h4 with ⟨_, h6⟩ | ⟨j, h6, h7, h8, h9⟩
      · exact h6
      · obtain ⟨x, e1, e2⟩ := h1.pos j h7
        rw [h9] at e1
        injection e1 with e1
        omega
    obtain ⟨e1, e2⟩ := h1.eq ho
    have hkk : l[k] = (cnt (l.take k) : Int) := by
      obtain ⟨o1, o2⟩ := ho k _ (List.getElem?_eq_getElem h2)
      by_cases h6 : l[k] = (cnt (l.take k) : Int)
      · exact h6
      · exfalso
        obtain ⟨j, g1, g2⟩ := okB_has ho k (l[k].toNat) (by omega)
        exact h5 j g1 (by rw [g2, List.getElem?_eq_getElem h2]; congr 1; omega)
    refine ⟨by rw [cnt_take _ _ h2, if_pos hkk, e1], fun j hj => ?_⟩
    by_cases hjk : j = k
    · subst hjk; rw [List.getElem?_set_self (by rw [h1.len]; exact h2), List.getElem?_eq_getElem h2, hkk, e1]
    · rw [List.getElem?_set_ne (by omega)]; exact e2 j (by omega)
theorem NumJ.pos {l : List Int} {k m : Nat} {es : List Int} (h : NumJ l k m k es) {z : Int} (hz : es[k]? = some z) (hn : ¬ z < 0) : NumI l (k + 1) m es := by
  obtain ⟨h1, h2, z', h3, h4⟩ := h
  rw [hz] at h3
  injection h3 with h3
  subst h3
  rcases h4 with ⟨h5, _⟩ | ⟨j, h6, h7, h8, h9⟩
  · omega
  refine ⟨h1.len, by have := h1.le; omega, fun i hi => ?_, fun ho => ?_⟩
  · by_cases hik : i = k
    · subst hik; exact ⟨z, hz, by omega⟩
    · exact h1.pos i (by omega)
  · obtain ⟨e1, e2⟩ := h1.eq ho
    have e3 := e2 j h7
    rw [h9, h8] at e3
    have hlt := okB_new ho (show l[j]? = some l[k] by rw [h8, List.getElem?_eq_getElem h2]) h7
    refine ⟨by rw [cnt_take _ _ h2, if_neg (by omega), e1], fun i hi => ?_⟩
    by_cases hik : i = k
    · subst hik; rw [hz, e3]
    · exact e2 i (by omega)
theorem NumI.done {l : List Int} {m : Nat} {es : List Int} (h : NumI l l.length m es) (ho : okB l) : es = l := by
  refine List.ext_getElem? (fun j => ?_)
  by_cases hj : j < l.length
  · exact (h.eq ho).2 j hj
  · rw [List.getElem?_eq_none (by rw [h.len]; omega), List.getElem?_eq_none (by omega)]
end Go.Proofs.YtlpdkbmmbdfoiaaGreat
namespace Go.Proofs.YtlpdkbmmbdfoiaaGreat
set_option linter.unusedVariables false
set_option linter.unusedSimpArgs false
open Go.RowKit

/-- The block b is a tape of the bytes l, read up to at. -/
structure TapeAt (w : World) (b : Nat) (l : List Nat) (at' : Nat) : Prop where
  lt : b < w.heap.size
  ex : ∃ v, w.cell? ⟨b, 0, none⟩ = some v ∧ CellsV w v (l.map fun x : Nat => Value.int .u8 (x : Nat))
  c1 : w.cell? ⟨b, 1, none⟩ = some (.int .i64 (at' : Nat))
  f1 : w.frozen? ⟨b, 1, none⟩ = false
  len : l.length ≤ 400
  le : at' ≤ 400
  byte : ∀ x ∈ l, x < 256
/-- A tape that was read on: one cell, a number, may have turned. -/
def Ticks (b : Nat) (w w' : World) : Prop := (∃ k, w' = w.drewN k) ∨ ∃ k k' a, w' = ((w.drewN k).setCell ⟨b, 1, none⟩ (.int .i64 a)).drewN k'
def RNext (w0 : World) (b : Nat) (l : List Nat) (n : Nat) (e : Ending) (w : World) : Prop := ∃ x a : Nat, e = .returned (.int .i64 (x : Nat)) ∧ x < n ∧ TapeAt w b l a ∧ Ticks b w0 w
theorem TapeAt.drawn {w : World} {b : Nat} {l : List Nat} {a : Nat} (h : TapeAt w b l a) (k : Nat) : TapeAt (w.drewN k) b l a := by
  obtain ⟨lt, ⟨v, e1, e2⟩, c1, f1, h1, h2, h3⟩ := h
  have hb := below_drewN (B := w.heap.size) w k
  exact ⟨Nat.lt_of_lt_of_le lt hb.size, ⟨v, cell_below hb e1, e2.below hb⟩, cell_below hb c1, by rw [hb.frozen lt]; exact f1, h1, h2, h3⟩
set_option maxHeartbeats 800000 in
theorem next_zero (b : Nat) (l : List Nat) (a n : Nat) (w : World) (h : TapeAt w b l a) (hn : 1 ≤ n) (hn2 : n ≤ 65536) (hz : l.length ≤ a ∨ n < 2) :
    Calls Tryz.prog 107 #[.pointer (some ⟨b, 0, none⟩), .int .i64 n] w (RNext w b l n) := by
  obtain ⟨v, e1, e2⟩ := h.ex
  have c1 := h.c1
  have f1 := h.f1
  have sv := CellsV.sl e2
  have lv : slen v = l.length := by have := CellsV.len e2; simpa using this
  have hll := h.len
  have hle := h.le
  by_cases h1 : l.length ≤ a
  · have hd : decide (((l.length : Nat) : Int) ≤ (a : Nat)) = true := decide_eq_true (by omega)
    go_enter Tryz.func107, Tryz.ntmps107
    go_wp2
    go_quiet (fail)
    go_wp2
    go_ret
    exact ⟨0, a, rfl, hn, h.drawn _, Or.inl ⟨_, rfl⟩⟩
  · have hd : decide (((l.length : Nat) : Int) ≤ (a : Nat)) = false := decide_eq_false (by omega)
    have h2 : n < 2 := hz.resolve_left h1
    have hd2 : decide ((n : Int) < 2) = true := decide_eq_true (by omega)
    go_enter Tryz.func107, Tryz.ntmps107
    go_wp2
    go_quiet (fail)
    go_wp2
    go_ret
    exact ⟨0, a, rfl, hn, h.drawn _, Or.inl ⟨_, rfl⟩⟩
theorem cell_tick {w : World} {b : Nat} {a0 : Int} {p : Addr} {x : Value} (hc : w.cell? ⟨b, 1, none⟩ = some (.int .i64 a0)) (hp : w.cell? p = some x) (hx : ∀ z, x ≠ .int .i64 z) (u : Value) : (w.setCell ⟨b, 1, none⟩ u).cell? p = some x := by
  rw [World.cell?_setCell_other]
  · exact hp
  · intro e
    rw [← e, hc] at hp
    injection hp with hp
    exact hx _ hp.symm
theorem TapeAt.tick {w : World} {b : Nat} {l : List Nat} {a : Nat} (h : TapeAt w b l a) (a' : Nat) (ha : a' ≤ 400) : TapeAt (w.setCell ⟨b, 1, none⟩ (.int .i64 (a' : Nat))) b l a' := by
  obtain ⟨lt, ⟨v, e1, e2⟩, c1, f1, h1, h2, h3⟩ := h
  refine ⟨by simpa [World.setCell] using lt, ⟨v, ?_, e2.sl, e2.len, fun j hj => cell_tick c1 (e2.cell j hj) (fun z => by simp) _⟩, ?_, ?_, h1, ha, h3⟩
  · rw [World.cell?_setCell_other _ _ _ _ (by simp)]; exact e1
  · exact World.cell?_setCell_same _ _ _ c1
  · go_simp
set_option maxHeartbeats 800000 in
theorem next_more (b : Nat) (l : List Nat) (a n : Nat) (w : World) (h : TapeAt w b l a) (hn2 : n ≤ 65536) (h1 : a < l.length) (h2 : 2 ≤ n) :
    Calls Tryz.prog 107 #[.pointer (some ⟨b, 0, none⟩), .int .i64 n] w (RNext w b l n) := by
  obtain ⟨v, e1, e2⟩ := h.ex
  have c1 := h.c1
  have f1 := h.f1
  have sv := CellsV.sl e2
  have lv : slen v = l.length := by have := CellsV.len e2; simpa using this
  have hll := h.len
  have hd : decide (((l.length : Nat) : Int) ≤ (a : Nat)) = false := decide_eq_false (by omega)
  have hd2 : decide ((n : Int) < 2) = false := decide_eq_false (by omega)
  have HT := Lib.hid h
  go_enter Tryz.func107, Tryz.ntmps107
  go_wp2
  go_quiet (fail)
  have hT1 := HT.out.drawn nq
  obtain ⟨v2, e11, e12⟩ := hT1.ex
  have c2 := hT1.c1
  have f2 := hT1.f1
  clear hd hd2 c1 f1
  go_wp2
  have hT2 : TapeAt ((w.drewN nq).setCell ⟨b, 1, none⟩ (.int .i64 ((a : Int) + 1))) b l (a + 1) := by
    have := hT1.tick (a + 1) (by omega)
    rwa [show (((a + 1 : Nat)) : Int) = (a : Int) + 1 from by omega] at this
  obtain ⟨v3, e13, e14⟩ := hT2.ex
  have c3 := hT2.c1
  have s3 := CellsV.sl e14
  have l3 : slen v3 = l.length := by have := CellsV.len e14; simpa using this
  have hx := e14.cell a (by simpa using h1)
  rw [List.getElem_map] at hx
  have hxb := h.byte l[a] (List.getElem_mem h1)
  have HTK : Hid (∀ k, Ticks b w (((w.drewN nq).setCell ⟨b, 1, none⟩ (.int .i64 ((a : Int) + 1))).drewN k)) := Lib.hid (fun k => Or.inr ⟨_, _, _, rfl⟩)
  generalize l[a]'h1 = x at *
  generalize (w.drewN nq).setCell ⟨b, 1, none⟩ (.int .i64 ((a : Int) + 1)) = W2 at *
  have i1 : IntKind.i64.wrap ((((a + 1 : Nat)) : Int) - 1) = (a : Int) := by rw [IntWalk.i64_in _ (by omega)]; omega
  have i2 : (0 : Int) ≤ (a : Int) := by omega
  have i3 : (a : Int) < (l.length : Nat) := by omega
  have i4 : Int.tmod (x : Int) (n : Int) = ((x % n : Nat) : Int) := by rw [Int.tmod_eq_emod_of_nonneg (by omega)]; omega
  go_quiet (fail)
  go_wp2
  go_ret
  exact ⟨x % n, a + 1, by first | rfl | (congr 2), Nat.mod_lt _ (by omega), hT2.drawn _, HTK.out _⟩
/-- Next gives a number below n. -/
theorem next_any (b : Nat) (l : List Nat) (a n : Nat) (w : World) (h : TapeAt w b l a) (hn : 1 ≤ n) (hn2 : n ≤ 65536) :
    Calls Tryz.prog 107 #[.pointer (some ⟨b, 0, none⟩), .int .i64 n] w (RNext w b l n) := by
  rcases Nat.lt_or_ge a l.length with h1 | h1
  · rcases Nat.lt_or_ge n 2 with h2 | h2
    · exact next_zero b l a n w h hn hn2 (Or.inr h2)
    · exact next_more b l a n w h hn2 h1 h2
  · exact next_zero b l a n w h hn hn2 (Or.inl h1)
theorem Ticks.cell {b : Nat} {w w' : World} (h : Ticks b w w') {a0 : Int} (hc : w.cell? ⟨b, 1, none⟩ = some (.int .i64 a0)) {p : Addr} {x : Value} (hp : w.cell? p = some x) (hx : ∀ z, x ≠ .int .i64 z) : w'.cell? p = some x := by
  rcases h with ⟨k, rfl⟩ | ⟨k, k', a, rfl⟩
  · exact cell_below (below_drewN w k) hp
  · refine cell_below (below_drewN _ k') ?_
    exact cell_tick (cell_below (below_drewN w k) hc) (cell_below (below_drewN w k) hp) hx _
theorem Ticks.size {b : Nat} {w w' : World} (h : Ticks b w w') : w.heap.size ≤ w'.heap.size := by
  rcases h with ⟨k, rfl⟩ | ⟨k, k', a, rfl⟩
  · exact (below_drewN (B := w.heap.size) w k).size
  · have h1 := (below_drewN (B := w.heap.size) w k).size
    have h2 := (below_drewN (B := w.heap.size) ((w.drewN k).setCell ⟨b, 1, none⟩ (.int .i64 a)) k').size
    have h3 : ((w.drewN k).setCell ⟨b, 1, none⟩ (.int .i64 a)).heap.size = (w.drewN k).heap.size := by simp [World.setCell]
    omega
theorem Ticks.below {b B : Nat} {w w' : World} (h : Ticks b w w') (hB : B ≤ b) (hs : B ≤ w.heap.size) : Below B w w' := by
  rcases h with ⟨k, rfl⟩ | ⟨k, k', a, rfl⟩
  · exact below_drewN w k
  · exact ((below_drewN w k).setCell (p := ⟨b, 1, none⟩) hB _).trans (below_drewN _ k')
theorem NatV.tick {b : Nat} {w w' : World} {l0 : List Nat} {a : Nat} (ht : TapeAt w b l0 a) (h : Ticks b w w') {v : Value} {l : List Nat} (hv : NatV w v l) : NatV w' v l :=
  ⟨hv.sl, hv.len, fun j hj => h.cell ht.c1 (hv.cell j hj) (fun z => by simp), hv.lm⟩
theorem NatC.tick {b : Nat} {w w' : World} {l0 : List Nat} {a : Nat} (ht : TapeAt w b l0 a) (h : Ticks b w w') {v : Value} {n : Nat} (hv : NatC w v n) : NatC w' v n := ⟨hv.v.tick ht h, hv.2⟩
theorem FracC.tick {b : Nat} {w w' : World} {l0 : List Nat} {a : Nat} (ht : TapeAt w b l0 a) (h : Ticks b w w') {v : Value} {q : Rat} (hv : FracC w v q) : FracC w' v q := by
  obtain ⟨x, y, rfl, h1, h2⟩ := hv; exact ⟨x, y, rfl, h1.tick ht h, h2.tick ht h⟩
theorem FracsC.tick {b : Nat} {w w' : World} {l0 : List Nat} {a : Nat} (ht : TapeAt w b l0 a) (h : Ticks b w w') {v : Value} {l : List Rat} (hv : FracsC w v l) : FracsC w' v l :=
  ⟨hv.sl, hv.len, fun j hj => by
    obtain ⟨x, y, h1, h2, h3, h4, h5⟩ := hv.at' j hj
    obtain ⟨a1, n1, c1, rfl, _⟩ := h4.v.sl
    obtain ⟨a2, n2, c2, rfl, _⟩ := h5.v.sl
    exact ⟨_, _, h.cell ht.c1 h1 (fun z => by simp), h.cell ht.c1 h2 (fun z => by simp), h.cell ht.c1 h3 (fun z => by simp), h4.tick ht h, h5.tick ht h⟩⟩
end Go.Proofs.YtlpdkbmmbdfoiaaGreat
namespace Go.Proofs.YtlpdkbmmbdfoiaaGreat
set_option linter.unusedVariables false
set_option linter.unusedSimpArgs false
open Go.RowKit

theorem Tryz.infoU8 : (Tryz.prog.info? 5).map (fun i => (i.zero, i.size, i.bytes)) = some (some (.int .u8 0), 1, 1) := by kernel_rfl
def bytes (l : List Nat) : List Value := l.map fun x : Nat => Value.int .u8 (x : Nat)
theorem CellsV.tk {w : World} {v : Value} {l : List Value} (h : CellsV w v l) (n : Nat) (hn : n ≤ l.length) : CellsV w (tk v n) (l.take n) := by
  have e : (l.take n).length = n := by rw [List.length_take]; omega
  have h1 := h.sl.le
  have h2 := h.len
  refine ⟨h.sl.tk (by omega), by rw [e]; exact h.sl.slen_tk n, fun j hj => ?_⟩
  rw [ptr_tk, List.getElem_take]
  exact h.cell j (by omega)
/-- A new tape. -/
def RTape (w0 : World) (l : List Nat) (e : Ending) (w : World) : Prop := ∃ b, e = .returned (.pointer (some ⟨b, 0, none⟩)) ∧ w0.heap.size ≤ b ∧ TapeAt w b l 0 ∧ Below w0.heap.size w0 w
theorem tape_new (w w1 : World) (v : Value) (l : List Nat) (t e : TypeId) (hl : l.length ≤ 400) (hb : ∀ x ∈ l, x < 256) (h : OwnE w1 e w.heap.size v (bytes l)) (hbel : Below w.heap.size w w1) :
    RTape w l (.returned (.pointer (some ⟨w1.heap.size, 0, none⟩))) (w1.alloc (.cells #[v, .int .i64 0] t)) := by
  refine ⟨_, rfl, hbel.size, ⟨by simp, ⟨v, by simp, ?_⟩, by simp, by simp, hl, by omega, hb⟩, hbel.alloc hbel.size _⟩
  exact ⟨h.sl, by rw [h.len]; rfl, fun j hj => (h.alloc _).cell j hj⟩
theorem append_u8 {P : Program} (t e : TypeId) (i : TypeInfo) (ht : P.underlying t = some (.slice e)) (hi : P.info? e = some i) (hz : i.zero = some (.int .u8 0))
    (hsize : i.size = 1) (hby : i.bytes = 1) (w : World) {ops : Array Oper} {rest : List Oper} {o : Oper} {a : Act} {Q : Exit → Act → World → Prop} (hgd : o.guard = none) (s x : Operand)
    (ho : o.op = .call { callee := .builtin .append, args := #[s, x], argTypes := #[t, t] })
    (hs : a.eval s = .slice none 0 0) (xv : Value) (hxe : a.eval x = xv) (l : List Nat) (hx : CellsV w xv (bytes l)) (hb : l.length ≤ 400)
    (h : ∀ v' w', OwnE w' e w.heap.size v' (bytes l) → Below w.heap.size w w' → wpList P ops Q rest (a.put o.dst v') w') : wpList P ops Q (o :: rest) a w := by
  have hl : (bytes l).length = l.length := by simp [bytes]
  refine wpList_append_E w hgd s x t ho w.heap.size e i (.int .u8 0) 1 ht hi hz hsize hby rfl _ [] hs (OwnE.nil _ _ _) xv hxe hx.sl (bytes l) hx.len
    (fun j hj => hx.cell j hj) (fun u hu => by obtain ⟨x, _, rfl⟩ := List.mem_map.1 hu; rfl)
    (by simp [maxLen, hl]; omega) (by simp [hl]; omega) (Nat.le_refl _) ?_
  intro v' w' h2 _ h4
  rw [List.nil_append] at h2
  exact h v' w' h2 h4
set_option maxHeartbeats 1600000 in
theorem new_any (v : Value) (l : List Nat) (w : World) (h : CellsV w v (bytes l)) (hb : ∀ x ∈ l, x < 256) :
    Calls Tryz.prog 41 #[v] w (RTape w (l.take 400)) := by
  obtain ⟨i0, hi, hz0, hz1, hz2⟩ := info_parts Tryz.infoU8
  have hA := append_u8 (P := Tryz.prog) 22 5 i0 Tryz.underlying22 hi hz0 hz1 hz2
  clear hi hz0 hz1 hz2
  have sv := h.sl
  have lv : slen v = l.length := by rw [h.len, bytes, List.length_map]
  have hle := sv.le
  rw [lv] at hle
  by_cases hd : 400 < l.length
  · have hd1 : decide ((400 : Int) < (l.length : Nat)) = true := decide_eq_true (by omega)
    have hcap : (400 : Int) ≤ scap v := by omega
    have ht2 : CellsV w (tk v 400) (bytes (l.take 400)) := by have := h.tk 400 (by simp [bytes]; omega); simpa [bytes, List.map_take] using this
    go_enter Tryz.func41, Tryz.ntmps41
    go_wp2_with (at_builtin; refine hA w rfl _ _ rfl rfl _ rfl (l.take 400) ht2 (by simp; omega) ?_; intro v' w1 hown hbel; obtain ⟨an, nn, cn, rfl, _⟩ := hown.sl)
    go_ret
    exact tape_new w w1 _ _ _ _ (by simp; omega) (fun x hx => hb x (List.mem_of_mem_take hx)) hown hbel
  · have hd1 : decide ((400 : Int) < (l.length : Nat)) = false := decide_eq_false (by omega)
    rw [List.take_of_length_le (by omega)]
    go_enter Tryz.func41, Tryz.ntmps41
    go_wp2_with (at_builtin; refine hA w rfl _ _ rfl rfl _ rfl l h (by omega) ?_; intro v' w1 hown hbel; obtain ⟨an, nn, cn, rfl, _⟩ := hown.sl)
    go_ret
    exact tape_new w w1 _ _ _ _ (by omega) hb hown hbel
end Go.Proofs.YtlpdkbmmbdfoiaaGreat
namespace Go.Proofs.YtlpdkbmmbdfoiaaGreat
set_option linter.unusedVariables false
set_option linter.unusedSimpArgs false
open Go.RowKit

theorem Moves.tick {B b a : Nat} {l : List Nat} {w w' : World} (ht : TapeAt w b l a) (hb : b < B) (h : Ticks b w w') : Moves B w w' := by
  refine ⟨h.size, fun g h1 h2 => ?_, fun p z hp => h.cell ht.c1 hp (fun z => by simp)⟩
  rcases h with ⟨k, rfl⟩ | ⟨k, k', a', rfl⟩
  · exact (below_drewN (B := w.heap.size) w k).block g h2
  · have h3 := (below_drewN (B := w.heap.size) w k)
    rw [(below_drewN (B := ((w.drewN k).setCell ⟨b, 1, none⟩ (.int .i64 a')).heap.size) _ k').block g (by simp [World.setCell]; have := h3.size; omega)]
    rw [Below.heap_setCell _ _ _ _ (by simp; omega)]
    exact h3.block g h2
end Go.Proofs.YtlpdkbmmbdfoiaaGreat
