/-
  Elimination on matrices of rational numbers, as functions of two indices, and the sizes of what it meets. No program is named here.
  Ahead of it: What is kept while a variable is written or a row grows: own rows of fractions. No program is named here.
-/
import Derived.Test.YtlpdkbmmbdfoiaaGreatCOwR
namespace Go.Proofs.YtlpdkbmmbdfoiaaGreat
set_option linter.unusedVariables false
set_option linter.unusedSimpArgs false
open Go.RowKit

/-- Blocks from B on are kept, and so are limbs. -/
structure Moves (B : Nat) (w w' : World) : Prop where
  size : w.heap.size ≤ w'.heap.size
  row : ∀ g, B ≤ g → g < w.heap.size → w'.heap[g]? = w.heap[g]?
  limb : ∀ p z, w.cell? p = some (.int .u32 z) → w'.cell? p = some (.int .u32 z)
theorem Moves.refl (B : Nat) (w : World) : Moves B w w := ⟨Nat.le_refl _, fun _ _ _ => rfl, fun _ _ h => h⟩
theorem Moves.trans {B : Nat} {a b c : World} (h : Moves B a b) (k : Moves B b c) : Moves B a c :=
  ⟨Nat.le_trans h.size k.size, fun g h1 h2 => (k.row g h1 (Nat.lt_of_lt_of_le h2 h.size)).trans (h.row g h1 h2), fun p z hp => k.limb p z (h.limb p z hp)⟩
theorem Moves.below {B : Nat} {w w' : World} (h : Below w.heap.size w w') : Moves B w w' := ⟨h.size, fun g _ h2 => h.block g h2, fun p z hp => cell_below h hp⟩
theorem Moves.set {B : Nat} {w : World} {p : Addr} {x : Value} (hp : p.block < B) (hc : w.cell? p = some x) (hx : ∀ z, x ≠ .int .u32 z) (u : Value) : Moves B w (w.setCell p u) := by
  refine ⟨by simp [World.setCell], fun g h1 h2 => Below.heap_setCell _ _ _ _ (by omega), fun q z hq => ?_⟩
  rw [World.cell?_setCell_other]
  · exact hq
  · intro e
    rw [← e, hc] at hq
    injection hq with hq
    exact hx _ hq
theorem NatV.moves {B : Nat} {w w' : World} {v : Value} {l : List Nat} (h : NatV w v l) (hm : Moves B w w') : NatV w' v l := ⟨h.sl, h.len, fun j hj => hm.limb _ _ (h.cell j hj), h.lm⟩
theorem NatC.moves {B : Nat} {w w' : World} {v : Value} {n : Nat} (h : NatC w v n) (hm : Moves B w w') : NatC w' v n := ⟨h.v.moves hm, h.2⟩
theorem FracC.moves {B : Nat} {w w' : World} {v : Value} {q : Rat} (h : FracC w v q) (hm : Moves B w w') : FracC w' v q := by
  obtain ⟨a, b, rfl, h1, h2⟩ := h; exact ⟨a, b, rfl, h1.moves hm, h2.moves hm⟩
theorem OwnR.moves {B B' : Nat} {w w' : World} {e : TypeId} {size n : Nat} {v : Value} {xs : List Value} (h : OwnR w e B' size v n xs) (hm : Moves B w w') (hB : B ≤ B') : OwnR w' e B' size v n xs := by
  have hlt := h.block
  refine ⟨⟨h.own.1, ?_⟩, fun g hg cur e' fz hc => ?_⟩
  · rcases h.own.2 with ⟨rfl, h0⟩ | ⟨g, cap, cur, rfl, hb, hg, rest⟩
    · exact .inl ⟨rfl, h0⟩
    · refine .inr ⟨g, cap, cur, rfl, hb, ?_, rest⟩
      rw [hm.row g (Nat.le_trans hB hb) (hlt g rfl).2]; exact hg
  · obtain ⟨h1, h2⟩ := hlt g hg
    rw [hm.row g (Nat.le_trans hB h1) h2] at hc
    exact h.nl g hg cur e' fz hc
/-- Rows of two types lie in two blocks. -/
theorem OwnR.kinds {w : World} {e e' : TypeId} {B B' size size' n n' : Nat} {v v' : Value} {xs xs' : List Value} (h : OwnR w e B size v n xs) (h' : OwnR w e' B' size' v' n' xs') (hne : e ≠ e') : v.ownBlock = none ∨ v.ownBlock ≠ v'.ownBlock := by
  cases hv : v.ownBlock with
  | none => exact Or.inl rfl
  | some g =>
    refine Or.inr (fun he => ?_)
    obtain ⟨c, fz, h1⟩ := Lib.ownsRow_kind h.own g hv
    obtain ⟨c', fz', h2⟩ := Lib.ownsRow_kind h'.own g he.symm
    rw [h1] at h2
    injection h2 with h2
    injection h2 with _ h2
    exact hne h2
/-- The cells xs are those of the fractions q, in canonical form. -/
def CellsQ (w : World) (xs : List Value) (q : List Rat) : Prop :=
  ∀ (j : Nat) (h : j < q.length), ∃ a b, xs[j * 3]? = some (.bool (decide (q[j] < 0))) ∧ xs[j * 3 + 1]? = some a ∧ xs[j * 3 + 2]? = some b ∧ NatC w a q[j].num.natAbs ∧ NatC w b q[j].den
/-- v is a row of fractions that the call made. -/
def FrRow (w : World) (e : TypeId) (B : Nat) (v : Value) (q : List Rat) : Prop := ∃ xs, OwnR w e B 3 v q.length xs ∧ CellsQ w xs q
section
variable {w : World} {e : TypeId} {B : Nat} {v : Value} {q : List Rat}
theorem FrRow.nil (w : World) (e : TypeId) (B : Nat) : FrRow w e B (.slice none 0 0) [] := ⟨[], OwnR.nil _ _ _ _, fun j h => by simp at h⟩
theorem FrRow.fracs (h : FrRow w e B v q) : FracsC w v q := by
  obtain ⟨xs, h1, h2⟩ := h
  refine ⟨h1.sl, h1.len, fun j hj => ?_⟩
  obtain ⟨a, b, e1, e2, e3, e4, e5⟩ := h2 j hj
  have hc : ∀ i u, xs[i]? = some u → w.cell? (ptr v i) = some u := fun i u hi => by
    obtain ⟨h6, h7⟩ := List.getElem?_eq_some_iff.1 hi
    rw [h1.cell i h6, h7]
  exact ⟨a, b, hc _ _ e1, hc _ _ e2, hc _ _ e3, e4, e5⟩
theorem FrRow.sl (h : FrRow w e B v q) : IsSl v := h.fracs.sl
theorem FrRow.block (h : FrRow w e B v q) : ∀ k, v.ownBlock = some k → B ≤ k ∧ k < w.heap.size := by obtain ⟨xs, h1, _⟩ := h; exact h1.block
theorem FrRow.moves {B' : Nat} {w' : World} (h : FrRow w e B v q) (hm : Moves B' w w') (hB : B' ≤ B) : FrRow w' e B v q := by
  obtain ⟨xs, h1, h2⟩ := h
  refine ⟨xs, h1.moves hm hB, fun j hj => ?_⟩
  obtain ⟨a, b, e1, e2, e3, e4, e5⟩ := h2 j hj
  exact ⟨a, b, e1, e2, e3, e4.moves hm, e5.moves hm⟩
theorem CellsQ.grown {w' : World} {u : Value} {xs : List Value} (h2 : CellsQ w xs q) (hg : w.grownBy w' u.ownBlock) (hn : NoLimb w u) : CellsQ w' xs q := fun j hj => by
  obtain ⟨a, b, e1, e2, e3, e4, e5⟩ := h2 j hj
  exact ⟨a, b, e1, e2, e3, e4.grown hg hn, e5.grown hg hn⟩
theorem FrRow.grown {w' : World} {u : Value} (h : FrRow w e B v q) (hg : w.grownBy w' u.ownBlock) (hn : NoLimb w u) (hne : v.ownBlock = none ∨ v.ownBlock ≠ u.ownBlock) : FrRow w' e B v q := by
  obtain ⟨xs, h1, h2⟩ := h
  exact ⟨xs, h1.grown hg hne, h2.grown hg hn⟩
theorem FrRow.mono {B' : Nat} (h : FrRow w e B v q) (hB : B' ≤ B) : FrRow w e B' v q := by
  obtain ⟨xs, h1, h2⟩ := h
  refine ⟨xs, ⟨⟨h1.own.1, ?_⟩, h1.nl⟩, h2⟩
  rcases h1.own.2 with h | ⟨g, cap, cur, rfl, hb, rest⟩
  · exact .inl h
  · exact .inr ⟨g, cap, cur, rfl, by omega, rest⟩
theorem CellsQ.snoc {xs : List Value} (h2 : CellsQ w xs q) (hl : xs.length = q.length * 3) {x y z : Value} {r : Rat} (hf : FracC w (.agg #[x, y, z]) r) : CellsQ w (xs ++ [x, y, z]) (q ++ [r]) := by
  intro j hj
  obtain ⟨a, b, ha, h4, h5⟩ := hf
  injection ha with ha
  injection ha with ha
  simp only [List.cons.injEq, and_true] at ha
  obtain ⟨rfl, rfl, rfl⟩ := ha
  rcases Nat.lt_or_ge j q.length with h | h
  · obtain ⟨a, b, e1, e2, e3, e4, e5⟩ := h2 j h
    rw [List.getElem_append_left h]
    exact ⟨a, b, by rw [List.getElem?_append_left (by omega)]; exact e1, by rw [List.getElem?_append_left (by omega)]; exact e2, by rw [List.getElem?_append_left (by omega)]; exact e3, e4, e5⟩
  · obtain rfl : j = q.length := by simp at hj; omega
    have e0 : (q ++ [r])[q.length]'hj = r := by simp
    rw [e0, ← hl]
    refine ⟨y, z, ?_, ?_, ?_, h4, h5⟩
    · rw [List.getElem?_append_right (Nat.le_refl _)]; simp
    · rw [List.getElem?_append_right (by omega)]; simp
    · rw [List.getElem?_append_right (by omega)]; simp
end
/-- append(s, x), s an own row of fractions, for a walk. -/
theorem append1_fr {P : Program} (t e : TypeId) (i : TypeInfo) (ht : P.underlying t = some (.slice e)) (hi : P.info? e = some i) (hz : i.zero = some (.agg #[.bool false, .slice none 0 0, .slice none 0 0])) (hsize : i.size = 3) (hby : i.bytes = 56)
    (w0 : World) {ops : Array Oper} {rest : List Oper} {o : Oper} {a : Act} {Q : Exit → Act → World → Prop} (hgd : o.guard = none) (s x : Operand)
    (ho : o.op = .call { callee := .builtin .append, args := #[s, x], argTypes := #[t, t] }) (B : Nat) (e' : TypeId)
    (v : Value) (q : List Rat) (hs : a.eval s = v) (hown : FrRow w0 e B v q) (c0 c1 c2 : Value) (r : Rat) (hf : FracC w0 (.agg #[c0, c1, c2]) r) (hxe : a.eval x = .slice (some ⟨w0.heap.size, 0, none⟩) 1 1) (hn : q.length ≤ 1000) (hbase : B ≤ w0.heap.size)
    (h : ∀ v' w', FrRow w' e B v' (q ++ [r]) → w0.grownBy w' v.ownBlock → NoLimb w0 v → (v'.ownBlock = v.ownBlock ∨ v'.ownBlock = some (w0.heap.size + 1)) → IsSl v' → wpList P ops Q rest (a.put o.dst v') w') :
    wpList P ops Q (o :: rest) a (w0.alloc (.cells #[c0, c1, c2] e')) := by
  obtain ⟨xs, h1, h2⟩ := hown
  have hl : xs.length = q.length * 3 := h1.clen
  have hf2 := hf
  obtain ⟨a1, b1, ha, h4, h5⟩ := hf2
  injection ha with ha
  injection ha with ha
  simp only [List.cons.injEq, and_true] at ha
  obtain ⟨rfl, rfl, rfl⟩ := ha
  obtain ⟨p1, p2, p3, rfl, _⟩ := h4.v.sl
  obtain ⟨s1, s2, s3, rfl, _⟩ := h5.v.sl
  refine wpList_append1_R w0 hgd s x t ho B e e' i _ 3 56 ht hi hz hsize hby rfl (by decide) (fun c hc z => by
      have hc2 : c ∈ [Value.bool false, .slice none 0 0, .slice none 0 0] := hc
      simp at hc2; rcases hc2 with rfl | rfl <;> simp) v q.length xs hs h1 #[.bool (decide (r < 0)), .slice p1 p2 p3, .slice s1 s2 s3] rfl hxe
    (fun u hu => by simp at hu; rcases hu with rfl | rfl | rfl <;> rfl) (fun u hu z => by simp at hu; rcases hu with rfl | rfl | rfl <;> simp) (by simp [maxLen]; omega) (by omega) hbase ?_
  intro v' w' k1 k2 k3
  refine h v' w' ⟨_, ?_, (CellsQ.snoc (r := r) h2 hl hf).grown k2 h1.nl⟩ k2 h1.nl k3 k1.sl
  rw [List.length_append]
  exact k1
/-- append(s, x), s an own row of one-cell values that are no limbs. -/
theorem append1_one {P : Program} (t e : TypeId) (i : TypeInfo) (z : Value) (bytes : Nat) (ht : P.underlying t = some (.slice e)) (hi : P.info? e = some i) (hz : i.zero = some z) (hsize : i.size = 1) (hby : i.bytes = bytes) (hby2 : bytes ≤ 64) (hzc : z.cells = #[z]) (hzn : ∀ k, z ≠ .int .u32 k)
    (w0 : World) {ops : Array Oper} {rest : List Oper} {o : Oper} {a : Act} {Q : Exit → Act → World → Prop} (hgd : o.guard = none) (s x : Operand)
    (ho : o.op = .call { callee := .builtin .append, args := #[s, x], argTypes := #[t, t] }) (B : Nat) (e' : TypeId)
    (v : Value) (xs : List Value) (hs : a.eval s = v) (hown : OwnR w0 e B 1 v xs.length xs) (c : Value) (hc1 : c.oneCell' = true) (hcn : ∀ k, c ≠ .int .u32 k) (hxe : a.eval x = .slice (some ⟨w0.heap.size, 0, none⟩) 1 1) (hn : xs.length ≤ 1000) (hbase : B ≤ w0.heap.size)
    (h : ∀ v' w', OwnR w' e B 1 v' (xs ++ [c]).length (xs ++ [c]) → w0.grownBy w' v.ownBlock → NoLimb w0 v → (v'.ownBlock = v.ownBlock ∨ v'.ownBlock = some (w0.heap.size + 1)) → IsSl v' → wpList P ops Q rest (a.put o.dst v') w') :
    wpList P ops Q (o :: rest) a (w0.alloc (.cells #[c] e')) := by
  refine wpList_append1_R w0 hgd s x t ho B e e' i _ 1 bytes ht hi hz hsize hby (by rw [hzc]; rfl) (by decide) (fun d hd => by rw [hzc] at hd; simp at hd; subst hd; exact hzn) v xs.length xs hs hown #[c] rfl hxe
    (fun u hu => by simp at hu; subst hu; exact hc1) (fun u hu z => by simp at hu; subst hu; exact hcn z) (by simp [maxLen]; omega) (by have : (xs.length + 1) * bytes ≤ 1001 * 64 := Nat.mul_le_mul (by omega) hby2; omega) hbase ?_
  intro v' w' k1 k2 k3
  refine h v' w' ?_ k2 hown.nl k3 k1.sl
  rw [List.length_append]
  exact k1
/-- A made row of fractions, as a row that may grow. -/
theorem OwnFr.frRow {w : World} {e : TypeId} {B n : Nat} {v : Value} {q : List Rat} (h : OwnFr w e B v n) (hl : q.length = n) (he : ∀ j (hj : j < q.length), ElemC w v j q[j]) : FrRow w e B v q := by
  obtain ⟨g, cs, rfl, h1, h2⟩ := id h
  have hcl : cs.length = n * 3 := h1.1
  refine ⟨cs, ⟨by rw [hl]; exact h1, ?_⟩, fun j hj => ?_⟩
  · intro g' hg' cur e' fz hc c hcc z
    rcases h1.2 with ⟨h', _⟩ | ⟨g2, cap, cur2, h', hb, hg, _, _, hs, ht⟩
    · cases h'
    · injection h' with h4 h5 h6
      injection h4 with h4
      injection h4 with h4
      subst h4
      simp only [Value.ownBlock, Option.some.injEq] at hg'
      subst hg'
      rw [hc] at hg
      injection hg with hg
      injection hg with hg _ _
      subst hg
      have e9 : cur.toList = cs := by
        rw [← ht]
        exact (List.take_of_length_le (by rw [Array.length_toList, hs, ← h6]; exact Nat.le_refl _)).symm
      exact h2 c (by rw [← e9]; exact hcc) z
  · obtain ⟨a, b, e1, e2, e3, e4, e5⟩ := he j hj
    have hc : ∀ i u, i < cs.length → w.cell? (Go.Proofs.YtlpdkbmmbdfoiaaGreat.ptr (.slice (some ⟨g, 0, none⟩) n n) i) = some u → cs[i]? = some u := fun i u hi hu => by
      have := World.ownsRow.cellAt h1 i (by omega)
      simp only [Go.Proofs.YtlpdkbmmbdfoiaaGreat.ptr, base, Addr.add_lit, Nat.zero_add] at hu
      rw [hu] at this
      exact this.symm
    exact ⟨a, b, hc _ _ (by omega) e1, hc _ _ (by omega) e2, hc _ _ (by omega) e3, e4, e5⟩
end Go.Proofs.YtlpdkbmmbdfoiaaGreat
namespace Go.Proofs.YtlpdkbmmbdfoiaaGreat
set_option linter.unusedVariables false

/-- The first index from r on, of f, at which z holds; r + f if there is none. -/
def fp (z : Nat → Bool) : Nat → Nat → Nat
  | 0, r => r
  | f + 1, r => if z r = true then r else fp z f (r + 1)
theorem fp_ge (z : Nat → Bool) (f r : Nat) : r ≤ fp z f r ∧ fp z f r ≤ r + f := by
  induction f generalizing r with
  | zero => exact ⟨Nat.le_refl _, Nat.le_refl _⟩
  | succ f ih => rw [fp]; have := ih (r + 1); split <;> omega
theorem fp_before (z : Nat → Bool) (f r : Nat) : ∀ i, r ≤ i → i < fp z f r → z i = false := by
  induction f generalizing r with
  | zero => intro i h1 h2; rw [fp] at h2; omega
  | succ f ih =>
    intro i h1 h2
    rw [fp] at h2
    split at h2
    · omega
    · next h =>
      rcases Nat.eq_or_lt_of_le h1 with h3 | h3
      · subst h3; simpa using h
      · exact ih (r + 1) i h3 h2
theorem fp_at (z : Nat → Bool) (f r : Nat) (h : fp z f r < r + f) : z (fp z f r) = true := by
  induction f generalizing r with
  | zero => rw [fp] at h; omega
  | succ f ih =>
    rw [fp] at h ⊢
    split
    · next h1 => exact h1
    · next h1 => rw [if_neg h1] at h; exact ih (r + 1) (by omega)
theorem fp_eq {z : Nat → Bool} {f r k : Nat} (h1 : r ≤ k) (h2 : k ≤ r + f) (h3 : ∀ i, r ≤ i → i < k → z i = false) (h4 : k < r + f → z k = true) : fp z f r = k := by
  have g1 := fp_ge z f r
  rcases Nat.lt_trichotomy (fp z f r) k with h | h | h
  · have := fp_at z f r (by omega)
    rw [h3 _ g1.1 h] at this; cases this
  · exact h
  · have := fp_before z f r k h1 h
    rw [h4 (by omega)] at this; cases this

abbrev Mx := Nat → Nat → Rat
/-- Two rows change places. -/
def swp (A : Mx) (a b : Nat) : Mx := fun i => if i = a then A b else if i = b then A a else A i
/-- A matrix under elimination, its rank so far, the product of its pivots with the exchanges' sign. -/
structure St where
  A : Mx
  r : Nat
  d : Rat
/-- Row i is reduced by row r at column k. -/
def act (below : Bool) (A : Mx) (r k i : Nat) : Prop := i ≠ r ∧ ¬ (below = true ∧ i < r) ∧ A i k ≠ 0
instance (below : Bool) (A : Mx) (r k i : Nat) : Decidable (act below A r k i) := inferInstanceAs (Decidable (_ ∧ _ ∧ _))
def redu (below : Bool) (A : Mx) (r k : Nat) : Mx := fun i j => if act below A r k i ∧ k ≤ j then A i j - A i k / A r k * A r j else A i j
/-- The row of the pivot in column k. -/
def pvt (n k : Nat) (S : St) : Nat := fp (fun i => decide (S.A i k ≠ 0)) (n - S.r) S.r
def estep (below : Bool) (n k : Nat) (S : St) : St :=
  if pvt n k S < n then ⟨redu below (swp S.A S.r (pvt n k S)) S.r k, S.r + 1, (if pvt n k S = S.r then S.d else -S.d) * swp S.A S.r (pvt n k S) S.r k⟩ else S
def elim (below : Bool) (n : Nat) (A : Mx) : Nat → St
  | 0 => ⟨A, 0, 1⟩
  | k + 1 => estep below n k (elim below n A k)
theorem elim_r (below : Bool) (n : Nat) (A : Mx) (k : Nat) : (elim below n A k).r ≤ n ∧ (elim below n A k).r ≤ k := by
  induction k with
  | zero => exact ⟨Nat.zero_le _, Nat.le_refl _⟩
  | succ k ih =>
    rw [elim, estep]
    have := fp_ge (fun i => decide ((elim below n A k).A i k ≠ 0)) (n - (elim below n A k).r) (elim below n A k).r
    split
    · next h => unfold pvt at h; show (elim below n A k).r + 1 ≤ n ∧ (elim below n A k).r + 1 ≤ k + 1; omega
    · omega
theorem estep_stop {below : Bool} {n k : Nat} {S : St} (h : n ≤ S.r) : estep below n k S = S := by
  have := fp_ge (fun i => decide (S.A i k ≠ 0)) (n - S.r) S.r
  rw [estep, if_neg (by unfold pvt; omega)]
theorem elim_stop {below : Bool} {n : Nat} {A : Mx} {k : Nat} (h : (elim below n A k).r = n) : ∀ j, k ≤ j → elim below n A j = elim below n A k
  | 0, hj => by obtain rfl : k = 0 := by omega
                rfl
  | j + 1, hj => by
    rcases Nat.eq_or_lt_of_le hj with h1 | h1
    · rw [h1]
    · have ih := elim_stop h j (by omega)
      rw [elim, ih, estep_stop (by omega)]
/-- What a step computes is not large. -/
def fitE (below : Bool) (n m k : Nat) (S : St) : Prop :=
  pvt n k S < n → fits (-S.d) ∧ fits ((if pvt n k S = S.r then S.d else -S.d) * swp S.A S.r (pvt n k S) S.r k) ∧
    ∀ i, i < n → act below (swp S.A S.r (pvt n k S)) S.r k i → fits (swp S.A S.r (pvt n k S) i k / swp S.A S.r (pvt n k S) S.r k) ∧
      ∀ j, j < m → k ≤ j → fits (swp S.A S.r (pvt n k S) i k / swp S.A S.r (pvt n k S) S.r k * swp S.A S.r (pvt n k S) S.r j) ∧
        fits (swp S.A S.r (pvt n k S) i j - swp S.A S.r (pvt n k S) i k / swp S.A S.r (pvt n k S) S.r k * swp S.A S.r (pvt n k S) S.r j)

theorem over.zero' {D B : Nat} {z : Int} (hD : D ≠ 0) (h : mkRat z D ≠ 0) : z ≠ 0 := fun e => h (by rw [e]; simp)
theorem div_mk {y z : Int} {D : Nat} (hD : D ≠ 0) (hz : z ≠ 0) : mkRat y D / mkRat z D = mkRat (y * z.sign) z.natAbs := by
  have hn : z.natAbs ≠ 0 := by omega
  have hq : mkRat z D ≠ 0 := fun e => hz ((Rat.mkRat_eq_zero hD).1 e)
  have e : mkRat y D = mkRat (y * z.sign) z.natAbs * mkRat z D := by
    rw [Rat.mkRat_mul_mkRat, Int.mul_assoc, Int.sign_mul_self, Int.mul_comm y]
    exact (Rat.mkRat_mul_left hn).symm
  rw [e, Rat.mul_div_cancel hq]
/-- A quotient of two fractions over one denominator. -/
theorem over.quo {D B : Nat} {p : Rat} {z : Int} (hD : D ≠ 0) (hp : over D B p) (hz : z ≠ 0) : over z.natAbs B (p / mkRat z D) := by
  obtain ⟨y, rfl, h1⟩ := hp
  refine ⟨y * z.sign, div_mk hD hz, ?_⟩
  rw [Int.natAbs_mul, Int.natAbs_sign_of_ne_zero hz, Nat.mul_one]
  exact h1
theorem over.sub {D A B : Nat} {p q : Rat} (hD : D ≠ 0) (hp : over D A p) (hq : over D B q) : over D (A + B) (p - q) := by
  rw [Rat.sub_eq_add_neg]; exact over.add hD hp (over.neg hq)

/-- All elements of the table are over D with at most B. -/
def overT (n m D B : Nat) (A : Mx) : Prop := ∀ i j, i < n → j < m → over D B (A i j)
theorem overT.swp {n m D B : Nat} {A : Mx} {a b : Nat} (h : overT n m D B A) (ha : a < n) (hb : b < n) : overT n m D B (swp A a b) := by
  intro i j hi hj
  unfold Go.Proofs.YtlpdkbmmbdfoiaaGreat.swp
  split
  · exact h b j hb hj
  · split
    · exact h a j ha hj
    · exact h i j hi hj
theorem overT.redu {n m D B : Nat} {A : Mx} {r k : Nat} {below : Bool} (hD : D ≠ 0) (h : overT n m D B A) (hr : r < n) (hk : k < m) (hp : A r k ≠ 0) :
    ∃ E, E ≠ 0 ∧ E ≤ B ∧ overT n m (D * E) (2 * (B * B)) (redu below A r k) ∧
      ∀ i, i < n → over E B (A i k / A r k) ∧ ∀ j, j < m → over (D * E) (B * B) (A i k / A r k * A r j) ∧ over (D * E) (2 * (B * B)) (A i j - A i k / A r k * A r j) := by
  obtain ⟨z, hz, hzb⟩ := h r k hr hk
  have hz0 : z ≠ 0 := over.zero' (B := B) hD (hz ▸ hp)
  have hE : z.natAbs ≠ 0 := by omega
  have hq : ∀ i, i < n → over z.natAbs B (A i k / A r k) := fun i hi => by rw [hz]; exact over.quo hD (h i k hi hk) hz0
  have hm : ∀ i j, i < n → j < m → over (D * z.natAbs) (B * B) (A i k / A r k * A r j) := fun i j hi hj => by
    have := over.mul (hq i hi) (h r j hr hj)
    rw [Nat.mul_comm z.natAbs D] at this
    exact this
  have hB : ∀ i j, i < n → j < m → over (D * z.natAbs) (B * B) (A i j) := fun i j hi hj => (over.scale hE (h i j hi hj)).mono (Nat.mul_le_mul_left _ hzb)
  have hs : ∀ i j, i < n → j < m → over (D * z.natAbs) (2 * (B * B)) (A i j - A i k / A r k * A r j) := fun i j hi hj => by
    rw [Nat.two_mul]
    exact over.sub (Nat.mul_ne_zero hD hE) (hB i j hi hj) (hm i j hi hj)
  refine ⟨z.natAbs, hE, hzb, fun i j hi hj => ?_, fun i hi => ⟨hq i hi, fun j hj => ⟨hm i j hi hj, hs i j hi hj⟩⟩⟩
  unfold Go.Proofs.YtlpdkbmmbdfoiaaGreat.redu
  split
  · exact hs i j hi hj
  · exact (hB i j hi hj).mono (by omega)
/-- The bounds after k steps: numerators, denominator, the two of the determinant. -/
def grow : Nat → Nat × Nat × Nat × Nat → Nat × Nat × Nat × Nat
  | 0, x => x
  | k + 1, x => let (b, d, e, f) := grow k x; (2 * (b * b), d * b, e * b, f * d)
theorem grow_succ (k : Nat) (x : Nat × Nat × Nat × Nat) : grow (k + 1) x = (2 * ((grow k x).1 * (grow k x).1), (grow k x).2.1 * (grow k x).1, (grow k x).2.2.1 * (grow k x).1, (grow k x).2.2.2 * (grow k x).2.1) := rfl
/-- All four are at least 1. -/
def pos4 (x : Nat × Nat × Nat × Nat) : Prop := 0 < x.1 ∧ 0 < x.2.1 ∧ 0 < x.2.2.1 ∧ 0 < x.2.2.2
def le4 (x y : Nat × Nat × Nat × Nat) : Prop := x.1 ≤ y.1 ∧ x.2.1 ≤ y.2.1 ∧ x.2.2.1 ≤ y.2.2.1 ∧ x.2.2.2 ≤ y.2.2.2
theorem grow_pos {x : Nat × Nat × Nat × Nat} (h : pos4 x) : ∀ k, pos4 (grow k x)
  | 0 => h
  | k + 1 => by
    obtain ⟨a, b, c, d⟩ := grow_pos h k
    rw [grow_succ]
    exact ⟨Nat.mul_pos (by decide) (Nat.mul_pos a a), Nat.mul_pos b a, Nat.mul_pos c a, Nat.mul_pos d b⟩
theorem grow_le {x : Nat × Nat × Nat × Nat} (h : pos4 x) {j : Nat} : ∀ k, j ≤ k → le4 (grow j x) (grow k x)
  | 0, hj => by obtain rfl : j = 0 := by omega
                exact ⟨Nat.le_refl _, Nat.le_refl _, Nat.le_refl _, Nat.le_refl _⟩
  | k + 1, hj => by
    rcases Nat.eq_or_lt_of_le hj with h1 | h1
    · rw [h1]; exact ⟨Nat.le_refl _, Nat.le_refl _, Nat.le_refl _, Nat.le_refl _⟩
    · obtain ⟨a, b, c, d⟩ := grow_le (j := j) h k (by omega)
      obtain ⟨p, q, s, t⟩ := grow_pos h k
      rw [grow_succ]
      have e1 : (grow k x).1 ≤ (grow k x).1 * (grow k x).1 := Nat.le_mul_of_pos_left _ p
      have e2 : (grow k x).2.1 ≤ (grow k x).2.1 * (grow k x).1 := Nat.le_mul_of_pos_right _ p
      have e3 : (grow k x).2.2.1 ≤ (grow k x).2.2.1 * (grow k x).1 := Nat.le_mul_of_pos_right _ p
      have e4 : (grow k x).2.2.2 ≤ (grow k x).2.2.2 * (grow k x).2.1 := Nat.le_mul_of_pos_right _ q
      exact ⟨by show _ ≤ 2 * _; omega, Nat.le_trans b e2, Nat.le_trans c e3, Nat.le_trans d e4⟩
/-- All four are below 2 ^ 4096. -/
def slim4 (x : Nat × Nat × Nat × Nat) : Prop := x.1 < 2 ^ 4096 ∧ x.2.1 < 2 ^ 4096 ∧ x.2.2.1 < 2 ^ 4096 ∧ x.2.2.2 < 2 ^ 4096
instance (x : Nat × Nat × Nat × Nat) : Decidable (slim4 x) := inferInstanceAs (Decidable (_ ∧ _ ∧ _ ∧ _))
/-- A state within the bounds x. -/
def inB (n m : Nat) (x : Nat × Nat × Nat × Nat) (S : St) : Prop :=
  (∃ D, D ≠ 0 ∧ D ≤ x.2.1 ∧ overT n m D x.1 S.A) ∧ ∃ D, D ≠ 0 ∧ D ≤ x.2.2.2 ∧ over D x.2.2.1 S.d
theorem swp_at {A : Mx} {a b : Nat} : swp A a b a = A b := by unfold swp; rw [if_pos rfl]
theorem pvt_ne {n k : Nat} {S : St} (hn : S.r ≤ n) (h : pvt n k S < n) : S.A (pvt n k S) k ≠ 0 := by
  have := fp_at (fun i => decide (S.A i k ≠ 0)) (n - S.r) S.r (by unfold pvt at h; omega)
  unfold pvt
  simpa using this
theorem pvt_ge (n k : Nat) (S : St) : S.r ≤ pvt n k S := (fp_ge _ _ _).1
theorem estep_inB {below : Bool} {n m k : Nat} {S : St} {b d e f : Nat} (hn : S.r ≤ n) (hk : k < m) (hS : inB n m (b, d, e, f) S) (hp : pos4 (b, d, e, f)) (hx : slim4 (2 * (b * b), d * b, e * b, f * d)) :
    inB n m (2 * (b * b), d * b, e * b, f * d) (estep below n k S) ∧ fitE below n m k S := by
  obtain ⟨⟨D, hD, hDd, hT⟩, ⟨F, hF, hFf, hd⟩⟩ := hS
  obtain ⟨p1, p2, p3, p4⟩ := hp
  obtain ⟨x1, x2, x3, x4⟩ := hx
  simp only at hDd hFf hT hd p1 p2 p3 p4 x1 x2 x3 x4
  have b1 : b ≤ b * b := Nat.le_mul_of_pos_left _ p1
  have d1 : d ≤ d * b := Nat.le_mul_of_pos_right _ p1
  have e1 : e ≤ e * b := Nat.le_mul_of_pos_right _ p1
  have f1 : f ≤ f * d := Nat.le_mul_of_pos_right _ p2
  unfold estep fitE
  by_cases h : pvt n k S < n
  · rw [if_pos h]
    have hr : S.r < n := Nat.lt_of_le_of_lt (pvt_ge n k S) h
    have hA1 := hT.swp hr h
    have hpv : swp S.A S.r (pvt n k S) S.r k ≠ 0 := by rw [swp_at]; exact pvt_ne hn h
    obtain ⟨E, hE, hEb, hR, hfit⟩ := hA1.redu (below := below) hD hr hk hpv
    have hdd : over F e (if pvt n k S = S.r then S.d else -S.d) := by
      split
      · exact hd
      · exact over.neg hd
    have hnew := over.mul hdd (hA1 S.r k hr hk)
    have hDE : D * E ≤ d * b := Nat.mul_le_mul hDd hEb
    have hFD : F * D ≤ f * d := Nat.mul_le_mul hFf hDd
    refine ⟨⟨⟨D * E, Nat.mul_ne_zero hD hE, hDE, hR⟩, F * D, Nat.mul_ne_zero hF hD, hFD, hnew⟩, fun _ => ⟨?_, ?_, fun i hi _ => ⟨?_, fun j hj _ => ⟨?_, ?_⟩⟩⟩⟩
    · exact over.fits hF (over.neg hd) (by omega) (by omega)
    · exact over.fits (Nat.mul_ne_zero hF hD) hnew x3 (by omega)
    · exact over.fits hE (hfit i hi).1 (by omega) (by omega)
    · exact over.fits (Nat.mul_ne_zero hD hE) ((hfit i hi).2 j hj).1 (by omega) (by omega)
    · exact over.fits (Nat.mul_ne_zero hD hE) ((hfit i hi).2 j hj).2 x1 (by omega)
  · rw [if_neg h]
    refine ⟨⟨⟨D, hD, by show D ≤ d * b; omega, fun i j hi hj => (hT i j hi hj).mono (by omega)⟩, F, hF, by show F ≤ f * d; omega, hd.mono e1⟩, fun h' => absurd h' h⟩
/-- Elimination over small numbers meets no large number. -/
theorem elim_fits {below : Bool} {n m wd : Nat} {A : Mx} {b d : Nat} (hw : wd ≤ m) (hb : 0 < b) (hd : d ≠ 0) (hA : overT n m d b A) (hx : slim4 (grow wd (b, d, 1, 1))) :
    ∀ k, k ≤ wd → inB n m (grow k (b, d, 1, 1)) (elim below n A k) ∧ (k < wd → fitE below n m k (elim below n A k)) := by
  have hp : pos4 (b, d, 1, 1) := ⟨hb, Nat.pos_of_ne_zero hd, Nat.one_pos, Nat.one_pos⟩
  have hsl : ∀ k, k ≤ wd → slim4 (grow k (b, d, 1, 1)) := fun k hk => by
    obtain ⟨a1, a2, a3, a4⟩ := grow_le hp wd hk
    obtain ⟨c1, c2, c3, c4⟩ := hx
    exact ⟨by omega, by omega, by omega, by omega⟩
  have key : ∀ k, k ≤ wd → inB n m (grow k (b, d, 1, 1)) (elim below n A k) := by
    intro k
    induction k with
    | zero => exact fun _ => ⟨⟨d, hd, Nat.le_refl _, hA⟩, 1, by decide, Nat.le_refl 1, ⟨1, rfl, Nat.le_refl 1⟩⟩
    | succ k ih =>
      intro hk
      have h1 := ih (by omega)
      have h2 := hsl (k + 1) hk
      rw [grow_succ] at h2
      have := estep_inB (below := below) (k := k) (elim_r below n A k).1 (by omega) h1 (grow_pos hp k) h2
      rw [grow_succ]
      exact this.1
  intro k hk
  refine ⟨key k hk, fun hlt => ?_⟩
  have h2 := hsl (k + 1) hlt
  rw [grow_succ] at h2
  exact (estep_inB (below := below) (k := k) (elim_r below n A k).1 (by omega) (key k hk) (grow_pos hp k) h2).2
end Go.Proofs.YtlpdkbmmbdfoiaaGreat
