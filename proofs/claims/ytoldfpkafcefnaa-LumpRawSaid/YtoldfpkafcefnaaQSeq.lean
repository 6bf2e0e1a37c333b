/-
  Lists of fractions, of numbers, of bools; matrices; chains.
-/
import Derived.Test.YtoldfpkafcefnaaQFr2
import Derived.Test.YtoldfpkafcefnaaQMath6
namespace Go.Proofs.Ytoldfpkafcefnaa
set_option linter.unusedVariables false
set_option linter.unusedSimpArgs false
open Go.RowKit

@[go_sem] theorem ptr_off1 (v : Value) (k : Nat) : (⟨(ptr v k).block, (ptr v k).off + 1, none⟩ : Addr) = ptr v (k + 1) := by rw [← ptr_add]; simp [Addr.add]
@[go_sem] theorem ptr_off2 (v : Value) (k : Nat) : (⟨(ptr v k).block, (ptr v k).off + 2, none⟩ : Addr) = ptr v (k + 2) := by rw [← ptr_add]; simp [Addr.add]
/-- A fraction as it is written. -/
structure RF where
  neg : Bool
  n : Nat
  d : Nat
/-- Its value. -/
def RF.q (x : RF) : Rat := fq x.neg x.n x.d
def RF.ok (x : RF) : Prop := okN x.n x.d
instance (x : RF) : Decidable x.ok := inferInstanceAs (Decidable (okN _ _))
/-- The canonical form. -/
def RF.of (q : Rat) : RF := ⟨decide (q < 0), q.num.natAbs, q.den⟩
theorem RF.of_q (q : Rat) : (RF.of q).q = q := fq_self q
theorem RF.of_ok {q : Rat} (h : fits q) : (RF.of q).ok := ⟨q.den_nz, h.2, h.1⟩
/-- The three cells at p are a fraction's. -/
def FracAt (w : World) (v : Value) (k : Nat) (x : RF) : Prop :=
  ∃ a b, w.cell? (ptr v k) = some (.bool x.neg) ∧ w.cell? (ptr v (k + 1)) = some a ∧ w.cell? (ptr v (k + 2)) = some b ∧ NatN w a x.n ∧ NatN w b x.d
theorem cell_below {w w' : World} (hb : Below w.heap.size w w') {p : Addr} {x : Value} (h : w.cell? p = some x) : w'.cell? p = some x := by
  have hlt := World.block_lt_of_cell? w _ h
  rw [hb.cell hlt]; exact h
theorem FracAt.below {w w' : World} {v : Value} {k : Nat} {x : RF} (h : FracAt w v k x) (hb : Below w.heap.size w w') : FracAt w' v k x := by
  obtain ⟨a, b, h1, h2, h3, h4, h5⟩ := h
  exact ⟨a, b, cell_below hb h1, cell_below hb h2, cell_below hb h3, h4.below hb, h5.below hb⟩
/-- v reads as the list of fractions l. -/
structure FracsN (w : World) (v : Value) (l : List RF) : Prop where
  sl : IsSl v
  len : slen v = l.length
  at' : ∀ (j : Nat) (h : j < l.length), FracAt w v (j * 3) l[j]
theorem FracsN.below {w w' : World} {v : Value} {l : List RF} (h : FracsN w v l) (hb : Below w.heap.size w w') : FracsN w' v l :=
  ⟨h.sl, h.len, fun j hj => (h.at' j hj).below hb⟩
theorem FracsN.nil (w : World) : FracsN w (.slice none 0 0) [] := ⟨IsSl.nil, rfl, fun j h => by simp at h⟩
/-- v reads as the list of canonical fractions qs. -/
structure FracsC (w : World) (v : Value) (qs : List Rat) : Prop where
  sl : IsSl v
  len : slen v = qs.length
  at' : ∀ (j : Nat) (h : j < qs.length), ∃ a b, w.cell? (ptr v (j * 3)) = some (.bool (decide (qs[j] < 0))) ∧ w.cell? (ptr v (j * 3 + 1)) = some a ∧ w.cell? (ptr v (j * 3 + 2)) = some b ∧ NatC w a qs[j].num.natAbs ∧ NatC w b qs[j].den
theorem FracsC.below {w w' : World} {v : Value} {l : List Rat} (h : FracsC w v l) (hb : Below w.heap.size w w') : FracsC w' v l :=
  ⟨h.sl, h.len, fun j hj => by
    obtain ⟨a, b, h1, h2, h3, h4, h5⟩ := h.at' j hj
    exact ⟨a, b, cell_below hb h1, cell_below hb h2, cell_below hb h3, h4.below hb, h5.below hb⟩⟩
theorem FracsC.raw {w : World} {v : Value} {qs : List Rat} (h : FracsC w v qs) : FracsN w v (qs.map RF.of) :=
  ⟨h.sl, by rw [h.len, List.length_map], fun j hj => by
    obtain ⟨a, b, h1, h2, h3, h4, h5⟩ := h.at' j (by simpa using hj)
    rw [List.getElem_map]
    exact ⟨a, b, h1, h2, h3, h4.nat, h5.nat⟩⟩
/-- v reads as a list of one-cell values. -/
structure CellsV (w : World) (v : Value) (l : List Value) : Prop where
  sl : IsSl v
  len : slen v = l.length
  cell : ∀ (j : Nat) (h : j < l.length), w.cell? (ptr v j) = some l[j]
theorem CellsV.below {w w' : World} {v : Value} {l : List Value} (h : CellsV w v l) (hb : Below w.heap.size w w') : CellsV w' v l :=
  ⟨h.sl, h.len, fun j hj => cell_below hb (h.cell j hj)⟩
def BoolsV (w : World) (v : Value) (l : List Bool) : Prop := CellsV w v (l.map Value.bool)
def IntsV (w : World) (v : Value) (l : List Int) : Prop := CellsV w v (l.map (Value.int .i64))
theorem BoolsV.below {w w' : World} {v : Value} {l : List Bool} (h : BoolsV w v l) (hb : Below w.heap.size w w') : BoolsV w' v l := CellsV.below h hb
theorem IntsV.below {w w' : World} {v : Value} {l : List Int} (h : IntsV w v l) (hb : Below w.heap.size w w') : IntsV w' v l := CellsV.below h hb
theorem BoolsV.at' {w : World} {v : Value} {l : List Bool} (h : BoolsV w v l) (j : Nat) (hj : j < l.length) : w.cell? (ptr v j) = some (.bool l[j]) := by
  have := h.cell j (by simpa using hj); simpa using this
theorem IntsV.at' {w : World} {v : Value} {l : List Int} (h : IntsV w v l) (j : Nat) (hj : j < l.length) : w.cell? (ptr v j) = some (.int .i64 l[j]) := by
  have := h.cell j (by simpa using hj); simpa using this
theorem BoolsV.len {w : World} {v : Value} {l : List Bool} (h : BoolsV w v l) : slen v = l.length := by have := CellsV.len h; simpa using this
theorem IntsV.len {w : World} {v : Value} {l : List Int} (h : IntsV w v l) : slen v = l.length := by have := CellsV.len h; simpa using this
/-- v reads as a matrix. -/
structure MatN (w : World) (v : Value) (m : List (List RF)) : Prop where
  sl : IsSl v
  len : slen v = m.length
  at' : ∀ (j : Nat) (h : j < m.length), ∃ r, w.cell? (ptr v j) = some r ∧ FracsN w r m[j]
theorem MatN.below {w w' : World} {v : Value} {m : List (List RF)} (h : MatN w v m) (hb : Below w.heap.size w w') : MatN w' v m :=
  ⟨h.sl, h.len, fun j hj => by obtain ⟨r, h1, h2⟩ := h.at' j hj; exact ⟨r, cell_below hb h1, h2.below hb⟩⟩
/-- A chain as it is written. -/
structure RC where
  rates : List (List RF)
  start : List RF
  lost : List Bool
def ChainN (w : World) (v : Value) (c : RC) : Prop := ∃ r s l, v = .agg #[r, s, l] ∧ MatN w r c.rates ∧ FracsN w s c.start ∧ BoolsV w l c.lost
theorem ChainN.below {w w' : World} {v : Value} {c : RC} (h : ChainN w v c) (hb : Below w.heap.size w w') : ChainN w' v c := by
  obtain ⟨r, s, l, rfl, h1, h2, h3⟩ := h; exact ⟨r, s, l, rfl, h1.below hb, h2.below hb, h3.below hb⟩
/-- The values of a list of fractions. -/
def qs (l : List RF) : List Rat := l.map RF.q
theorem qs_length (l : List RF) : (qs l).length = l.length := by simp [qs]
theorem qs_take (l : List RF) (k : Nat) : (qs l).take k = qs (l.take k) := by unfold qs; rw [List.map_take]
theorem qs_get (l : List RF) (k : Nat) (h : k < l.length) : (qs l)[k]'(by rw [qs_length]; exact h) = l[k].q := by simp [qs]
theorem lsum_qs (l : List RF) (k : Nat) (h : k < l.length) : lsum (qs (l.take (k + 1))) = lsum (qs (l.take k)) + l[k].q := by
  rw [take_snoc l k h]; unfold qs; rw [List.map_append]; exact lsum_snoc _ _
end Go.Proofs.Ytoldfpkafcefnaa
