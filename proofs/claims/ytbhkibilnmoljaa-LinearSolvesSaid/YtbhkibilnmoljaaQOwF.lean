/-
  Slices of fractions that a call itself made. No program is named here.
  Ahead of it: Lists of fractions, of numbers, of bools; matrices; chains.
-/
import Derived.Test.YtbhkibilnmoljaaQFr2
import Derived.Test.YtbhkibilnmoljaaQMath6
namespace Go.Proofs.Ytbhkibilnmoljaa
set_option linter.unusedVariables false
set_option linter.unusedSimpArgs false
open Go.RowKit

@[go_sem] theorem ptr_off1 (v : Value) (k : Nat) : (⟨(ptr v k).block, (ptr v k).off + 1, none⟩ : Addr) = ptr v (k + 1) := by rw [← ptr_add]; simp [Addr.add]
@[go_sem] theorem ptr_off2 (v : Value) (k : Nat) : (⟨(ptr v k).block, (ptr v k).off + 2, none⟩ : Addr) = ptr v (k + 2) := by rw [← ptr_add]; simp [Addr.add]
/-- A fraction as it is written. -/
structure RF where
  neg : Bool
  n : Nat
  d : Nat
/-- Its value. -/
def RF.q (x : RF) : Rat := fq x.neg x.n x.d
def RF.ok (x : RF) : Prop := okN x.n x.d
instance (x : RF) : Decidable x.ok := inferInstanceAs (Decidable (okN _ _))
/-- The canonical form. -/
def RF.of (q : Rat) : RF := ⟨decide (q < 0), q.num.natAbs, q.den⟩
theorem RF.of_q (q : Rat) : (RF.of q).q = q := fq_self q
theorem RF.of_ok {q : Rat} (h : fits q) : (RF.of q).ok := ⟨q.den_nz, h.2, h.1⟩
/-- The three cells at p are a fraction's. -/
def FracAt (w : World) (v : Value) (k : Nat) (x : RF) : Prop :=
  ∃ a b, w.cell? (ptr v k) = some (.bool x.neg) ∧ w.cell? (ptr v (k + 1)) = some a ∧ w.cell? (ptr v (k + 2)) = some b ∧ NatN w a x.n ∧ NatN w b x.d
theorem cell_below {w w' : World} (hb : Below w.heap.size w w') {p : Addr} {x : Value} (h : w.cell? p = some x) : w'.cell? p = some x := by
  have hlt := World.block_lt_of_cell? w _ h
  rw [hb.cell hlt]; exact h
theorem FracAt.below {w w' : World} {v : Value} {k : Nat} {x : RF} (h : FracAt w v k x) (hb : Below w.heap.size w w') : FracAt w' v k x := by
  obtain ⟨a, b, h1, h2, h3, h4, h5⟩ := h
  exact ⟨a, b, cell_below hb h1, cell_below hb h2, cell_below hb h3, h4.below hb, h5.below hb⟩
/-- v reads as the list of fractions l. -/
structure FracsN (w : World) (v : Value) (l : List RF) : Prop where
  sl : IsSl v
  len : slen v = l.length
  at' : ∀ (j : Nat) (h : j < l.length), FracAt w v (j * 3) l[j]
theorem FracsN.below {w w' : World} {v : Value} {l : List RF} (h : FracsN w v l) (hb : Below w.heap.size w w') : FracsN w' v l :=
  ⟨h.sl, h.len, fun j hj => (h.at' j hj).below hb⟩
theorem FracsN.nil (w : World) : FracsN w (.slice none 0 0) [] := ⟨IsSl.nil, rfl, fun j h => by simp at h⟩
/-- v reads as the list of canonical fractions qs. -/
structure FracsC (w : World) (v : Value) (qs : List Rat) : Prop where
  sl : IsSl v
  len : slen v = qs.length
  at' : ∀ (j : Nat) (h : j < qs.length), ∃ a b, w.cell? (ptr v (j * 3)) = some (.bool (decide (qs[j] < 0))) ∧ w.cell? (ptr v (j * 3 + 1)) = some a ∧ w.cell? (ptr v (j * 3 + 2)) = some b ∧ NatC w a qs[j].num.natAbs ∧ NatC w b qs[j].den
theorem FracsC.below {w w' : World} {v : Value} {l : List Rat} (h : FracsC w v l) (hb : Below w.heap.size w w') : FracsC w' v l :=
  ⟨h.sl, h.len, fun j hj => by
    obtain ⟨a, b, h1, h2, h3, h4, h5⟩ := h.at' j hj
    exact ⟨a, b, cell_below hb h1, cell_below hb h2, cell_below hb h3, h4.below hb, h5.below hb⟩⟩
theorem FracsC.raw {w : World} {v : Value} {qs : List Rat} (h : FracsC w v qs) : FracsN w v (qs.map RF.of) :=
  ⟨h.sl, by rw [h.len, List.length_map], fun j hj => by
    obtain ⟨a, b, h1, h2, h3, h4, h5⟩ := h.at' j (by simpa using hj)
    rw [List.getElem_map]
    exact ⟨a, b, h1, h2, h3, h4.nat, h5.nat⟩⟩
/-- v reads as a list of one-cell values. -/
structure CellsV (w : World) (v : Value) (l : List Value) : Prop where
  sl : IsSl v
  len : slen v = l.length
  cell : ∀ (j : Nat) (h : j < l.length), w.cell? (ptr v j) = some l[j]
theorem CellsV.below {w w' : World} {v : Value} {l : List Value} (h : CellsV w v l) (hb : Below w.heap.size w w') : CellsV w' v l :=
  ⟨h.sl, h.len, fun j hj => cell_below hb (h.cell j hj)⟩
def BoolsV (w : World) (v : Value) (l : List Bool) : Prop := CellsV w v (l.map Value.bool)
def IntsV (w : World) (v : Value) (l : List Int) : Prop := CellsV w v (l.map (Value.int .i64))
theorem BoolsV.below {w w' : World} {v : Value} {l : List Bool} (h : BoolsV w v l) (hb : Below w.heap.size w w') : BoolsV w' v l := CellsV.below h hb
theorem IntsV.below {w w' : World} {v : Value} {l : List Int} (h : IntsV w v l) (hb : Below w.heap.size w w') : IntsV w' v l := CellsV.below h hb
theorem BoolsV.at' {w : World} {v : Value} {l : List Bool} (h : BoolsV w v l) (j : Nat) (hj : j < l.length) : w.cell? (ptr v j) = some (.bool l[j]) := by
  have := h.cell j (by simpa using hj); simpa using this
theorem IntsV.at' {w : World} {v : Value} {l : List Int} (h : IntsV w v l) (j : Nat) (hj : j < l.length) : w.cell? (ptr v j) = some (.int .i64 l[j]) := by
  have := h.cell j (by simpa using hj); simpa using this
theorem BoolsV.len {w : World} {v : Value} {l : List Bool} (h : BoolsV w v l) : slen v = l.length := by have := CellsV.len h; simpa using this
theorem IntsV.len {w : World} {v : Value} {l : List Int} (h : IntsV w v l) : slen v = l.length := by have := CellsV.len h; simpa using this
/-- v reads as a matrix. -/
structure MatN (w : World) (v : Value) (m : List (List RF)) : Prop where
  sl : IsSl v
  len : slen v = m.length
  at' : ∀ (j : Nat) (h : j < m.length), ∃ r, w.cell? (ptr v j) = some r ∧ FracsN w r m[j]
theorem MatN.below {w w' : World} {v : Value} {m : List (List RF)} (h : MatN w v m) (hb : Below w.heap.size w w') : MatN w' v m :=
  ⟨h.sl, h.len, fun j hj => by obtain ⟨r, h1, h2⟩ := h.at' j hj; exact ⟨r, cell_below hb h1, h2.below hb⟩⟩
/-- A chain as it is written. -/
structure RC where
  rates : List (List RF)
  start : List RF
  lost : List Bool
def ChainN (w : World) (v : Value) (c : RC) : Prop := ∃ r s l, v = .agg #[r, s, l] ∧ MatN w r c.rates ∧ FracsN w s c.start ∧ BoolsV w l c.lost
theorem ChainN.below {w w' : World} {v : Value} {c : RC} (h : ChainN w v c) (hb : Below w.heap.size w w') : ChainN w' v c := by
  obtain ⟨r, s, l, rfl, h1, h2, h3⟩ := h; exact ⟨r, s, l, rfl, h1.below hb, h2.below hb, h3.below hb⟩
/-- The values of a list of fractions. -/
def qs (l : List RF) : List Rat := l.map RF.q
theorem qs_length (l : List RF) : (qs l).length = l.length := by simp [qs]
theorem qs_take (l : List RF) (k : Nat) : (qs l).take k = qs (l.take k) := by unfold qs; rw [List.map_take]
theorem qs_get (l : List RF) (k : Nat) (h : k < l.length) : (qs l)[k]'(by rw [qs_length]; exact h) = l[k].q := by simp [qs]
theorem lsum_qs (l : List RF) (k : Nat) (h : k < l.length) : lsum (qs (l.take (k + 1))) = lsum (qs (l.take k)) + l[k].q := by
  rw [take_snoc l k h]; unfold qs; rw [List.map_append]; exact lsum_snoc _ _
end Go.Proofs.Ytbhkibilnmoljaa
namespace Go.Proofs.Ytbhkibilnmoljaa
set_option linter.unusedVariables false
set_option linter.unusedSimpArgs false
open Go.RowKit

/-- v is a slice of n elements of three cells each that the call made; none of its cells is a limb. -/
def OwnFr (w : World) (e : TypeId) (B : Nat) (v : Value) (n : Nat) : Prop :=
  ∃ g cs, v = .slice (some ⟨g, 0, none⟩) n n ∧ w.ownsRow B e 3 v n cs ∧ ∀ c ∈ cs, ∀ z, c ≠ .int .u32 z
section
variable {w : World} {e : TypeId} {B n : Nat} {v : Value}
theorem OwnFr.ptr (h : OwnFr w e B v n) : ∃ g, ∀ k, Go.Proofs.Ytbhkibilnmoljaa.ptr v k = ⟨g, k, none⟩ := by
  obtain ⟨g, cs, rfl, _⟩ := h
  exact ⟨g, fun k => by simp only [Go.Proofs.Ytbhkibilnmoljaa.ptr, base, Addr.add_lit, Nat.zero_add]⟩
theorem OwnFr.inj (h : OwnFr w e B v n) {i j : Nat} (hij : i ≠ j) : Go.Proofs.Ytbhkibilnmoljaa.ptr v i ≠ Go.Proofs.Ytbhkibilnmoljaa.ptr v j := by
  obtain ⟨g, hg⟩ := h.ptr
  rw [hg, hg]
  intro h; injection h with h1 h2; exact hij h2
theorem OwnFr.sl (h : OwnFr w e B v n) : IsSl v := by
  obtain ⟨g, cs, rfl, h1, _⟩ := h
  rcases h1.2 with ⟨h', _⟩ | ⟨g', cap, cur, h', _, _, h2, h3, _⟩
  · cases h'
  · injection h' with h4 h5 h6
    subst h6
    exact ⟨_, _, _, rfl, h2, h3, fun e => by cases e⟩
theorem OwnFr.len (h : OwnFr w e B v n) : slen v = n := by obtain ⟨g, cs, rfl, _⟩ := h; rfl
theorem OwnFr.cell (h : OwnFr w e B v n) (j : Nat) (hj : j < n * 3) : ∃ x, w.cell? (Go.Proofs.Ytbhkibilnmoljaa.ptr v j) = some x ∧ ∀ z, x ≠ .int .u32 z := by
  obtain ⟨g, cs, rfl, h1, h2⟩ := h
  have hl : cs.length = n * 3 := h1.1
  have := World.ownsRow.cellAt h1 j hj
  rw [List.getElem?_eq_getElem (by omega)] at this
  refine ⟨cs[j]'(by omega), ?_, h2 _ (List.getElem_mem _)⟩
  simpa only [Go.Proofs.Ytbhkibilnmoljaa.ptr, base, Addr.add_lit, Nat.zero_add] using this
theorem OwnFr.frozen (h : OwnFr w e B v n) (j : Nat) : w.frozen? (Go.Proofs.Ytbhkibilnmoljaa.ptr v j) = false := by
  obtain ⟨g, cs, rfl, h1, h2⟩ := h
  have := World.ownsRow.frozenAt h1 j
  simpa only [Go.Proofs.Ytbhkibilnmoljaa.ptr, base, Addr.add_lit, Nat.zero_add] using this
theorem OwnFr.block (h : OwnFr w e B v n) : B ≤ (base v).block ∧ (base v).block < w.heap.size := by
  obtain ⟨g, cs, rfl, h1, h2⟩ := h
  rcases h1.2 with ⟨h', _⟩ | ⟨g', cap, cur, h', hb, hg, _⟩
  · cases h'
  · injection h' with h4
    injection h4 with h4
    injection h4 with h4
    subst h4
    exact ⟨hb, (Array.getElem?_eq_some_iff.1 hg).1⟩
theorem OwnFr.below {w' : World} (h : OwnFr w e B v n) (hb : Below w.heap.size w w') : OwnFr w' e B v n := by
  obtain ⟨g, cs, rfl, h1, h2⟩ := h
  exact ⟨g, cs, rfl, World.ownsRow.kept h1 (grown_of_below hb) (Or.inr (by simp [Value.ownBlock])), h2⟩
theorem OwnFr.mono {B' : Nat} (h : OwnFr w e B v n) (hB : B' ≤ B) : OwnFr w e B' v n := by
  obtain ⟨g, cs, rfl, h1, h2⟩ := h
  refine ⟨g, cs, rfl, ⟨h1.1, ?_⟩, h2⟩
  rcases h1.2 with ⟨h', _⟩ | ⟨g', cap, cur, h', hb, rest⟩
  · cases h'
  · exact .inr ⟨g', cap, cur, h', by omega, rest⟩
theorem OwnFr.set (h : OwnFr w e B v n) (j : Nat) (u : Value) (hu : ∀ z, u ≠ .int .u32 z) : OwnFr (w.setCell (Go.Proofs.Ytbhkibilnmoljaa.ptr v j) u) e B v n ∧ Below B w (w.setCell (Go.Proofs.Ytbhkibilnmoljaa.ptr v j) u) := by
  have hbl := h.block
  obtain ⟨g, cs, rfl, h1, h2⟩ := h
  have hs := World.ownsRow.stored h1 j u
  have hp : Go.Proofs.Ytbhkibilnmoljaa.ptr (.slice (some ⟨g, 0, none⟩) n n) j = ⟨g, j, none⟩ := by simp only [Go.Proofs.Ytbhkibilnmoljaa.ptr, base, Addr.add_lit, Nat.zero_add]
  rw [hp]
  refine ⟨⟨g, _, rfl, hs.1, fun c hc => ?_⟩, below_of_grown hs.2 (by simp only [base] at hbl; omega) (fun k hk => by simp [base] at hbl hk; omega)⟩
  rcases List.mem_or_eq_of_mem_set hc with h' | h'
  · exact h2 c h'
  · subst h'; exact hu
/-- Element j of v is the canonical form of q. -/
def ElemC (w : World) (v : Value) (j : Nat) (q : Rat) : Prop :=
  ∃ a b, w.cell? (Go.Proofs.Ytbhkibilnmoljaa.ptr v (j * 3)) = some (.bool (decide (q < 0))) ∧ w.cell? (Go.Proofs.Ytbhkibilnmoljaa.ptr v (j * 3 + 1)) = some a ∧ w.cell? (Go.Proofs.Ytbhkibilnmoljaa.ptr v (j * 3 + 2)) = some b ∧ NatC w a q.num.natAbs ∧ NatC w b q.den
theorem ElemC.below {w' : World} {j : Nat} {q : Rat} (h : ElemC w v j q) (hb : Below w.heap.size w w') : ElemC w' v j q := by
  obtain ⟨a, b, h1, h2, h3, h4, h5⟩ := h
  exact ⟨a, b, cell_below hb h1, cell_below hb h2, cell_below hb h3, h4.below hb, h5.below hb⟩
/-- The world behind a store of three cells into element i. -/
theorem OwnFr.set3 (h : OwnFr w e B v n) (i : Nat) (x y z : Value) (hx : ∀ k, x ≠ .int .u32 k) (hy : ∀ k, y ≠ .int .u32 k) (hz : ∀ k, z ≠ .int .u32 k) :
    OwnFr (((w.setCell (Go.Proofs.Ytbhkibilnmoljaa.ptr v (i * 3)) x).setCell (Go.Proofs.Ytbhkibilnmoljaa.ptr v (i * 3 + 1)) y).setCell (Go.Proofs.Ytbhkibilnmoljaa.ptr v (i * 3 + 2)) z) e B v n ∧
      Below B w (((w.setCell (Go.Proofs.Ytbhkibilnmoljaa.ptr v (i * 3)) x).setCell (Go.Proofs.Ytbhkibilnmoljaa.ptr v (i * 3 + 1)) y).setCell (Go.Proofs.Ytbhkibilnmoljaa.ptr v (i * 3 + 2)) z) := by
  have h1 := h.set (i * 3) x hx
  have h2 := h1.1.set (i * 3 + 1) y hy
  have h3 := h2.1.set (i * 3 + 2) z hz
  exact ⟨h3.1, (h1.2.trans h2.2).trans h3.2⟩
theorem NatC.over1 (h : OwnFr w e B v n) {x : Value} {m : Nat} (hx : NatC w x m) (j : Nat) (hj : j < n * 3) (u : Value) : NatC (w.setCell (Go.Proofs.Ytbhkibilnmoljaa.ptr v j) u) x m := by
  obtain ⟨c, h1, h2⟩ := h.cell j hj
  exact ⟨hx.v.over h1 h2 u, hx.2⟩
theorem NatC.over3 (h : OwnFr w e B v n) {c : Value} {m : Nat} (hc : NatC w c m) (i : Nat) (hi : i < n) (x y z : Value) (hx : ∀ k, x ≠ .int .u32 k) (hy : ∀ k, y ≠ .int .u32 k) :
    NatC (((w.setCell (Go.Proofs.Ytbhkibilnmoljaa.ptr v (i * 3)) x).setCell (Go.Proofs.Ytbhkibilnmoljaa.ptr v (i * 3 + 1)) y).setCell (Go.Proofs.Ytbhkibilnmoljaa.ptr v (i * 3 + 2)) z) c m := by
  have h1 := h.set (i * 3) x hx
  have h2 := h1.1.set (i * 3 + 1) y hy
  exact NatC.over1 h2.1 (NatC.over1 h1.1 (NatC.over1 h hc _ (by omega) _) _ (by omega) _) _ (by omega) _
theorem cell_set3_other (h : OwnFr w e B v n) (i k : Nat) (hk : k ≠ i * 3) (hk1 : k ≠ i * 3 + 1) (hk2 : k ≠ i * 3 + 2) (x y z : Value) :
    (((w.setCell (Go.Proofs.Ytbhkibilnmoljaa.ptr v (i * 3)) x).setCell (Go.Proofs.Ytbhkibilnmoljaa.ptr v (i * 3 + 1)) y).setCell (Go.Proofs.Ytbhkibilnmoljaa.ptr v (i * 3 + 2)) z).cell? (Go.Proofs.Ytbhkibilnmoljaa.ptr v k) = w.cell? (Go.Proofs.Ytbhkibilnmoljaa.ptr v k) := by
  rw [World.cell?_setCell_other _ _ _ _ (h.inj (Ne.symm hk2)), World.cell?_setCell_other _ _ _ _ (h.inj (Ne.symm hk1)), World.cell?_setCell_other _ _ _ _ (h.inj (Ne.symm hk))]
theorem ElemC.set3_other (h : OwnFr w e B v n) {i j : Nat} (hi : i < n) (hij : i ≠ j) {q : Rat} (hj : ElemC w v j q) (x y z : Value) (hx : ∀ k, x ≠ .int .u32 k) (hy : ∀ k, y ≠ .int .u32 k) :
    ElemC (((w.setCell (Go.Proofs.Ytbhkibilnmoljaa.ptr v (i * 3)) x).setCell (Go.Proofs.Ytbhkibilnmoljaa.ptr v (i * 3 + 1)) y).setCell (Go.Proofs.Ytbhkibilnmoljaa.ptr v (i * 3 + 2)) z) v j q := by
  obtain ⟨a, b, h1, h2, h3, h4, h5⟩ := hj
  refine ⟨a, b, ?_, ?_, ?_, NatC.over3 h h4 i hi x y z hx hy, NatC.over3 h h5 i hi x y z hx hy⟩
  · rw [cell_set3_other h i _ (by omega) (by omega) (by omega)]; exact h1
  · rw [cell_set3_other h i _ (by omega) (by omega) (by omega)]; exact h2
  · rw [cell_set3_other h i _ (by omega) (by omega) (by omega)]; exact h3
theorem ElemC.set3 (h : OwnFr w e B v n) {i : Nat} (hi : i < n) {q : Rat} {x y z : Value} (hf : FracC w (.agg #[x, y, z]) q) :
    ElemC (((w.setCell (Go.Proofs.Ytbhkibilnmoljaa.ptr v (i * 3)) x).setCell (Go.Proofs.Ytbhkibilnmoljaa.ptr v (i * 3 + 1)) y).setCell (Go.Proofs.Ytbhkibilnmoljaa.ptr v (i * 3 + 2)) z) v i q := by
  obtain ⟨a, b, ha, h4, h5⟩ := hf
  injection ha with ha
  injection ha with ha
  simp only [List.cons.injEq, and_true] at ha
  obtain ⟨rfl, rfl, rfl⟩ := ha
  have nx : ∀ k, Value.bool (decide (q < 0)) ≠ .int .u32 k := fun k => by simp
  have ny : ∀ k, y ≠ .int .u32 k := fun k => by obtain ⟨a1, n1, c1, e1, _⟩ := h4.v.sl; subst e1; simp
  obtain ⟨c0, d0, _⟩ := h.cell (i * 3) (by omega)
  obtain ⟨c1, d1, _⟩ := h.cell (i * 3 + 1) (by omega)
  obtain ⟨c2, d2, _⟩ := h.cell (i * 3 + 2) (by omega)
  have n01 := h.inj (show i * 3 ≠ i * 3 + 1 by omega)
  have n02 := h.inj (show i * 3 ≠ i * 3 + 2 by omega)
  have n12 := h.inj (show i * 3 + 1 ≠ i * 3 + 2 by omega)
  refine ⟨y, z, ?_, ?_, ?_, NatC.over3 h h4 i hi _ _ _ nx ny, NatC.over3 h h5 i hi _ _ _ nx ny⟩
  · rw [World.cell?_setCell_other _ _ _ _ n02.symm, World.cell?_setCell_other _ _ _ _ n01.symm]
    exact World.cell?_setCell_same _ _ _ d0
  · rw [World.cell?_setCell_other _ _ _ _ n12.symm]
    exact World.cell?_setCell_same _ _ _ (u := c1) (by rw [World.cell?_setCell_other _ _ _ _ n01]; exact d1)
  · exact World.cell?_setCell_same _ _ _ (u := c2) (by rw [World.cell?_setCell_other _ _ _ _ n12, World.cell?_setCell_other _ _ _ _ n02]; exact d2)
end
/-- make([]api.Frac, n). -/
theorem make_fr {P : Program} (t e : TypeId) (i : TypeInfo) (h1 : P.underlying t = some (.slice e)) (h2 : P.info? e = some i) (h3 : i.zero = some (.agg #[.bool false, .slice none 0 0, .slice none 0 0])) (h4 : i.size = 3) (h5 : i.bytes ≤ 64)
    (w : World) {ops : Array Oper} {rest : List Oper} {o : Oper} {a : Act} {Q : Exit → Act → World → Prop} (hg : o.guard = none) (l c : Operand) (hop : o.op = Op.makeSlice t l c)
    (B : Nat) (u : Int) (n : Nat) (hu : u = n) (hl : a.eval l = .int .i64 u) (hc : a.eval c = .int .i64 u) (b2 : n ≤ 4398046511104) (b4 : B ≤ w.heap.size)
    (hK : ∀ v w', OwnFr w' e B v n → Below w.heap.size w w' → w.heap.size ≤ (base v).block → wpList P ops Q rest (a.put o.dst v) w') :
    wpList P ops Q (o :: rest) a w := by
  subst hu
  refine wpList_make_full w hg l c t hop B e i _ 3 h1 h2 h3 h4 .i64 .i64 n n n hl hc rfl rfl (Nat.le_trans (Nat.mul_le_mul_right _ h5) (by omega)) (by unfold maxLen; omega) b4 ?_
  intro w' hown hgr
  refine hK _ w' ⟨_, _, rfl, hown, fun x hx z => ?_⟩ (below_of_grown hgr (Nat.le_refl _) (fun k hk => by cases hk)) (by simp [base])
  have hx2 : x ∈ (madeCells #[Value.bool false, .slice none 0 0, .slice none 0 0] (n * 3)).toList := hx
  unfold madeCells at hx2
  simp only [Array.toList_map, List.mem_map, Array.mem_toList_iff] at hx2
  obtain ⟨k, hk, rfl⟩ := hx2
  have h7 : k % 3 < 3 := Nat.mod_lt _ (by decide)
  have h8 : (#[Value.bool false, .slice none 0 0, .slice none 0 0] : Array Value).size = 3 := rfl
  rw [h8]
  rcases (show k % 3 = 0 ∨ k % 3 = 1 ∨ k % 3 = 2 by omega) with h9 | h9 | h9 <;> rw [h9] <;> simp
end Go.Proofs.Ytbhkibilnmoljaa
