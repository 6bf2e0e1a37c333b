/-
  package lump: count, alike.
  Ahead of it: Partitions and sums over blocks. Slices of fractions that a call itself made. No program is named here.
-/
import Derived.Test.YtoldfpkafcefnaaQCh4
import Derived.Test.YtoldfpkafcefnaaQMath6
import Derived.Test.YtoldfpkafcefnaaQSeq
namespace Go.Proofs.Ytoldfpkafcefnaa
set_option linter.unusedVariables false
/-- The number of blocks. -/
def cnt (l : List Int) : Nat := l.foldl (fun n b => if b = (n : Int) then n + 1 else n) 0
theorem cnt_nil : cnt [] = 0 := rfl
theorem cnt_snoc (l : List Int) (b : Int) : cnt (l ++ [b]) = if b = (cnt l : Int) then cnt l + 1 else cnt l := by unfold cnt; rw [List.foldl_append]; rfl
theorem cnt_take (l : List Int) (k : Nat) (h : k < l.length) : cnt (l.take (k + 1)) = if l[k] = (cnt (l.take k) : Int) then cnt (l.take k) + 1 else cnt (l.take k) := by rw [take_snoc l k h, cnt_snoc]
theorem cnt_take_le (l : List Int) (k : Nat) : cnt (l.take k) ≤ cnt (l.take (k + 1)) := by
  by_cases h : k < l.length
  · rw [cnt_take l k h]; split <;> omega
  · rw [List.take_of_length_le (by omega), List.take_of_length_le (by omega)]; exact Nat.le_refl _
theorem cnt_take_mono (l : List Int) {j k : Nat} (h : j ≤ k) : cnt (l.take j) ≤ cnt (l.take k) := by
  induction k with
  | zero => obtain rfl : j = 0 := by omega
            exact Nat.le_refl _
  | succ k ih =>
    rcases Nat.lt_or_ge j (k + 1) with h1 | h1
    · exact Nat.le_trans (ih (by omega)) (cnt_take_le l k)
    · obtain rfl : j = k + 1 := by omega
      exact Nat.le_refl _
theorem cnt_le (l : List Int) (k : Nat) : cnt (l.take k) ≤ k := by
  induction k with
  | zero => exact Nat.le_refl _
  | succ k ih =>
    by_cases h : k < l.length
    · rw [cnt_take l k h]; split <;> omega
    · rw [List.take_of_length_le (by omega)] at ih ⊢; omega
/-- l is a partition: each number is at most the number of blocks before it. -/
def okB (l : List Int) : Prop := ∀ k b, l[k]? = some b → 0 ≤ b ∧ b ≤ (cnt (l.take k) : Int)
theorem okB.lt {l : List Int} (h : okB l) {b : Int} {k : Nat} (hk : l[k]? = some b) : 0 ≤ b ∧ b < (cnt l : Int) := by
  obtain ⟨h1, h2⟩ := h k b hk
  obtain ⟨h3, h4⟩ := List.getElem?_eq_some_iff.1 hk
  have h5 := cnt_take l k h3
  have h6 := cnt_take_mono l (show k + 1 ≤ l.length by omega)
  rw [List.take_length] at h6
  refine ⟨h1, ?_⟩
  rw [h4] at h5
  split at h5 <;> omega
/-- The elements of a row that belong to a block. -/
def bsel (bl : List Int) (row : List Rat) (b : Int) : List Rat := ((bl.zip row).filter (fun p => decide (p.1 = b))).map (·.2)
theorem bsel_nil (b : Int) (row : List Rat) : bsel [] row b = [] := by simp [bsel]
theorem bsel_take (bl : List Int) (row : List Rat) (b : Int) (k : Nat) (h1 : k < bl.length) (h2 : k < row.length) :
    bsel (bl.take (k + 1)) (row.take (k + 1)) b = if bl[k] = b then bsel (bl.take k) (row.take k) b ++ [row[k]] else bsel (bl.take k) (row.take k) b := by
  unfold bsel
  rw [take_snoc bl k h1, take_snoc row k h2, List.zip_append (by rw [List.length_take, List.length_take]; omega), List.filter_append, List.map_append]
  by_cases h : bl[k] = b
  · rw [if_pos h]; simp [h]
  · rw [if_neg h]; simp [h]
theorem bsel_sub (bl : List Int) (row : List Rat) (b : Int) : (bsel bl row b).Sublist row := by
  unfold bsel
  have h1 : (((bl.zip row).filter (fun p => decide (p.1 = b))).map (·.2)).Sublist ((bl.zip row).map (·.2)) := List.Sublist.map _ List.filter_sublist
  refine h1.trans ?_
  clear h1
  have h2 : (bl.zip row).map (·.2) = row.take bl.length := by
    induction bl generalizing row with
    | nil => simp
    | cons x bl ih => cases row with
      | nil => simp
      | cons y row => simp [ih]
  rw [h2]
  exact List.take_sublist _ _
/-- The sum over a block. -/
def bsum (bl : List Int) (row : List Rat) (b : Int) : Rat := lsum (bsel bl row b)
theorem bsum_take (bl : List Int) (row : List Rat) (b : Int) (k : Nat) (h1 : k < bl.length) (h2 : k < row.length) :
    bsum (bl.take (k + 1)) (row.take (k + 1)) b = if bl[k] = b then bsum (bl.take k) (row.take k) b + row[k] else bsum (bl.take k) (row.take k) b := by
  unfold bsum
  rw [bsel_take bl row b k h1 h2]
  split
  · rw [lsum_snoc]
  · rfl
theorem bsum_fits {bl : List Int} {row : List Rat} (k : Nat) (b : Int) (h : ∀ q ∈ row, 0 ≤ q) (hw : wts row ≤ 3800) : fits (bsum (bl.take k) (row.take k) b) :=
  lsum_fits ((bsel_sub _ _ b).trans (List.take_sublist _ _)) h hw
end Go.Proofs.Ytoldfpkafcefnaa
namespace Go.Proofs.Ytoldfpkafcefnaa
set_option linter.unusedVariables false
set_option linter.unusedSimpArgs false
open Go.RowKit

/-- v is a slice of n elements of three cells each that the call made; none of its cells is a limb. -/
def OwnFr (w : World) (e : TypeId) (B : Nat) (v : Value) (n : Nat) : Prop :=
  ∃ g cs, v = .slice (some ⟨g, 0, none⟩) n n ∧ w.ownsRow B e 3 v n cs ∧ ∀ c ∈ cs, ∀ z, c ≠ .int .u32 z
section
variable {w : World} {e : TypeId} {B n : Nat} {v : Value}
theorem OwnFr.ptr (h : OwnFr w e B v n) : ∃ g, ∀ k, Go.Proofs.Ytoldfpkafcefnaa.ptr v k = ⟨g, k, none⟩ := by
  obtain ⟨g, cs, rfl, _⟩ := h
  exact ⟨g, fun k => by simp only [Go.Proofs.Ytoldfpkafcefnaa.ptr, base, Addr.add_lit, Nat.zero_add]⟩
theorem OwnFr.inj (h : OwnFr w e B v n) {i j : Nat} (hij : i ≠ j) : Go.Proofs.Ytoldfpkafcefnaa.ptr v i ≠ Go.Proofs.Ytoldfpkafcefnaa.ptr v j := by
  obtain ⟨g, hg⟩ := h.ptr
  rw [hg, hg]
  intro h; injection h with h1 h2; exact hij h2
theorem OwnFr.sl (h : OwnFr w e B v n) : IsSl v := by
  obtain ⟨g, cs, rfl, h1, _⟩ := h
  rcases h1.2 with ⟨h', _⟩ | ⟨g', cap, cur, h', _, _, h2, h3, _⟩
  · cases h'
  · injection h' with h4 h5 h6
    subst h6
    exact ⟨_, _, _, rfl, h2, h3, fun e => by cases e⟩
theorem OwnFr.len (h : OwnFr w e B v n) : slen v = n := by obtain ⟨g, cs, rfl, _⟩ := h; rfl
theorem OwnFr.cell (h : OwnFr w e B v n) (j : Nat) (hj : j < n * 3) : ∃ x, w.cell? (Go.Proofs.Ytoldfpkafcefnaa.ptr v j) = some x ∧ ∀ z, x ≠ .int .u32 z := by
  obtain ⟨g, cs, rfl, h1, h2⟩ := h
  have hl : cs.length = n * 3 := h1.1
  have := World.ownsRow.cellAt h1 j hj
  rw [List.getElem?_eq_getElem (by omega)] at this
  refine ⟨cs[j]'(by omega), ?_, h2 _ (List.getElem_mem _)⟩
  simpa only [Go.Proofs.Ytoldfpkafcefnaa.ptr, base, Addr.add_lit, Nat.zero_add] using this
theorem OwnFr.frozen (h : OwnFr w e B v n) (j : Nat) : w.frozen? (Go.Proofs.Ytoldfpkafcefnaa.ptr v j) = false := by
  obtain ⟨g, cs, rfl, h1, h2⟩ := h
  have := World.ownsRow.frozenAt h1 j
  simpa only [Go.Proofs.Ytoldfpkafcefnaa.ptr, base, Addr.add_lit, Nat.zero_add] using this
theorem OwnFr.block (h : OwnFr w e B v n) : B ≤ (base v).block ∧ (base v).block < w.heap.size := by
  obtain ⟨g, cs, rfl, h1, h2⟩ := h
  rcases h1.2 with ⟨h', _⟩ | ⟨g', cap, cur, h', hb, hg, _⟩
  · cases h'
  · injection h' with h4
    injection h4 with h4
    injection h4 with h4
    subst h4
    exact ⟨hb, (Array.getElem?_eq_some_iff.1 hg).1⟩
theorem OwnFr.below {w' : World} (h : OwnFr w e B v n) (hb : Below w.heap.size w w') : OwnFr w' e B v n := by
  obtain ⟨g, cs, rfl, h1, h2⟩ := h
  exact ⟨g, cs, rfl, World.ownsRow.kept h1 (grown_of_below hb) (Or.inr (by simp [Value.ownBlock])), h2⟩
theorem OwnFr.mono {B' : Nat} (h : OwnFr w e B v n) (hB : B' ≤ B) : OwnFr w e B' v n := by
  obtain ⟨g, cs, rfl, h1, h2⟩ := h
  refine ⟨g, cs, rfl, ⟨h1.1, ?_⟩, h2⟩
  rcases h1.2 with ⟨h', _⟩ | ⟨g', cap, cur, h', hb, rest⟩
  · cases h'
  · exact .inr ⟨g', cap, cur, h', by omega, rest⟩
theorem OwnFr.set (h : OwnFr w e B v n) (j : Nat) (u : Value) (hu : ∀ z, u ≠ .int .u32 z) : OwnFr (w.setCell (Go.Proofs.Ytoldfpkafcefnaa.ptr v j) u) e B v n ∧ Below B w (w.setCell (Go.Proofs.Ytoldfpkafcefnaa.ptr v j) u) := by
  have hbl := h.block
  obtain ⟨g, cs, rfl, h1, h2⟩ := h
  have hs := World.ownsRow.stored h1 j u
  have hp : Go.Proofs.Ytoldfpkafcefnaa.ptr (.slice (some ⟨g, 0, none⟩) n n) j = ⟨g, j, none⟩ := by simp only [Go.Proofs.Ytoldfpkafcefnaa.ptr, base, Addr.add_lit, Nat.zero_add]
  rw [hp]
  refine ⟨⟨g, _, rfl, hs.1, fun c hc => ?_⟩, below_of_grown hs.2 (by simp only [base] at hbl; omega) (fun k hk => by simp [base] at hbl hk; omega)⟩
  rcases List.mem_or_eq_of_mem_set hc with h' | h'
  · exact h2 c h'
  · subst h'; exact hu
/-- Element j of v is the canonical form of q. -/
def ElemC (w : World) (v : Value) (j : Nat) (q : Rat) : Prop :=
  ∃ a b, w.cell? (Go.Proofs.Ytoldfpkafcefnaa.ptr v (j * 3)) = some (.bool (decide (q < 0))) ∧ w.cell? (Go.Proofs.Ytoldfpkafcefnaa.ptr v (j * 3 + 1)) = some a ∧ w.cell? (Go.Proofs.Ytoldfpkafcefnaa.ptr v (j * 3 + 2)) = some b ∧ NatC w a q.num.natAbs ∧ NatC w b q.den
theorem ElemC.below {w' : World} {j : Nat} {q : Rat} (h : ElemC w v j q) (hb : Below w.heap.size w w') : ElemC w' v j q := by
  obtain ⟨a, b, h1, h2, h3, h4, h5⟩ := h
  exact ⟨a, b, cell_below hb h1, cell_below hb h2, cell_below hb h3, h4.below hb, h5.below hb⟩
/-- The world behind a store of three cells into element i. -/
theorem OwnFr.set3 (h : OwnFr w e B v n) (i : Nat) (x y z : Value) (hx : ∀ k, x ≠ .int .u32 k) (hy : ∀ k, y ≠ .int .u32 k) (hz : ∀ k, z ≠ .int .u32 k) :
    OwnFr (((w.setCell (Go.Proofs.Ytoldfpkafcefnaa.ptr v (i * 3)) x).setCell (Go.Proofs.Ytoldfpkafcefnaa.ptr v (i * 3 + 1)) y).setCell (Go.Proofs.Ytoldfpkafcefnaa.ptr v (i * 3 + 2)) z) e B v n ∧
      Below B w (((w.setCell (Go.Proofs.Ytoldfpkafcefnaa.ptr v (i * 3)) x).setCell (Go.Proofs.Ytoldfpkafcefnaa.ptr v (i * 3 + 1)) y).setCell (Go.Proofs.Ytoldfpkafcefnaa.ptr v (i * 3 + 2)) z) := by
  have h1 := h.set (i * 3) x hx
  have h2 := h1.1.set (i * 3 + 1) y hy
  have h3 := h2.1.set (i * 3 + 2) z hz
  exact ⟨h3.1, (h1.2.trans h2.2).trans h3.2⟩
theorem NatC.over1 (h : OwnFr w e B v n) {x : Value} {m : Nat} (hx : NatC w x m) (j : Nat) (hj : j < n * 3) (u : Value) : NatC (w.setCell (Go.Proofs.Ytoldfpkafcefnaa.ptr v j) u) x m := by
  obtain ⟨c, h1, h2⟩ := h.cell j hj
  exact ⟨hx.v.over h1 h2 u, hx.2⟩
theorem NatC.over3 (h : OwnFr w e B v n) {c : Value} {m : Nat} (hc : NatC w c m) (i : Nat) (hi : i < n) (x y z : Value) (hx : ∀ k, x ≠ .int .u32 k) (hy : ∀ k, y ≠ .int .u32 k) :
    NatC (((w.setCell (Go.Proofs.Ytoldfpkafcefnaa.ptr v (i * 3)) x).setCell (Go.Proofs.Ytoldfpkafcefnaa.ptr v (i * 3 + 1)) y).setCell (Go.Proofs.Ytoldfpkafcefnaa.ptr v (i * 3 + 2)) z) c m := by
  have h1 := h.set (i * 3) x hx
  have h2 := h1.1.set (i * 3 + 1) y hy
  exact NatC.over1 h2.1 (NatC.over1 h1.1 (NatC.over1 h hc _ (by omega) _) _ (by omega) _) _ (by omega) _
theorem cell_set3_other (h : OwnFr w e B v n) (i k : Nat) (hk : k ≠ i * 3) (hk1 : k ≠ i * 3 + 1) (hk2 : k ≠ i * 3 + 2) (x y z : Value) :
    (((w.setCell (Go.Proofs.Ytoldfpkafcefnaa.ptr v (i * 3)) x).setCell (Go.Proofs.Ytoldfpkafcefnaa.ptr v (i * 3 + 1)) y).setCell (Go.Proofs.Ytoldfpkafcefnaa.ptr v (i * 3 + 2)) z).cell? (Go.Proofs.Ytoldfpkafcefnaa.ptr v k) = w.cell? (Go.Proofs.Ytoldfpkafcefnaa.ptr v k) := by
  rw [World.cell?_setCell_other _ _ _ _ (h.inj (Ne.symm hk2)), World.cell?_setCell_other _ _ _ _ (h.inj (Ne.symm hk1)), World.cell?_setCell_other _ _ _ _ (h.inj (Ne.symm hk))]
theorem ElemC.set3_other (h : OwnFr w e B v n) {i j : Nat} (hi : i < n) (hij : i ≠ j) {q : Rat} (hj : ElemC w v j q) (x y z : Value) (hx : ∀ k, x ≠ .int .u32 k) (hy : ∀ k, y ≠ .int .u32 k) :
    ElemC (((w.setCell (Go.Proofs.Ytoldfpkafcefnaa.ptr v (i * 3)) x).setCell (Go.Proofs.Ytoldfpkafcefnaa.ptr v (i * 3 + 1)) y).setCell (Go.Proofs.Ytoldfpkafcefnaa.ptr v (i * 3 + 2)) z) v j q := by
  obtain ⟨a, b, h1, h2, h3, h4, h5⟩ := hj
  refine ⟨a, b, ?_, ?_, ?_, NatC.over3 h h4 i hi x y z hx hy, NatC.over3 h h5 i hi x y z hx hy⟩
  · rw [cell_set3_other h i _ (by omega) (by omega) (by omega)]; exact h1
  · rw [cell_set3_other h i _ (by omega) (by omega) (by omega)]; exact h2
  · rw [cell_set3_other h i _ (by omega) (by omega) (by omega)]; exact h3
theorem ElemC.set3 (h : OwnFr w e B v n) {i : Nat} (hi : i < n) {q : Rat} {x y z : Value} (hf : FracC w (.agg #[x, y, z]) q) :
    ElemC (((w.setCell (Go.Proofs.Ytoldfpkafcefnaa.ptr v (i * 3)) x).setCell (Go.Proofs.Ytoldfpkafcefnaa.ptr v (i * 3 + 1)) y).setCell (Go.Proofs.Ytoldfpkafcefnaa.ptr v (i * 3 + 2)) z) v i q := by
  obtain ⟨a, b, ha, h4, h5⟩ := hf
  injection ha with ha
  injection ha with ha
  simp only [List.cons.injEq, and_true] at ha
  obtain ⟨rfl, rfl, rfl⟩ := ha
  have nx : ∀ k, Value.bool (decide (q < 0)) ≠ .int .u32 k := fun k => by simp
  have ny : ∀ k, y ≠ .int .u32 k := fun k => by obtain ⟨a1, n1, c1, e1, _⟩ := h4.v.sl; subst e1; simp
  obtain ⟨c0, d0, _⟩ := h.cell (i * 3) (by omega)
  obtain ⟨c1, d1, _⟩ := h.cell (i * 3 + 1) (by omega)
  obtain ⟨c2, d2, _⟩ := h.cell (i * 3 + 2) (by omega)
  have n01 := h.inj (show i * 3 ≠ i * 3 + 1 by omega)
  have n02 := h.inj (show i * 3 ≠ i * 3 + 2 by omega)
  have n12 := h.inj (show i * 3 + 1 ≠ i * 3 + 2 by omega)
  refine ⟨y, z, ?_, ?_, ?_, NatC.over3 h h4 i hi _ _ _ nx ny, NatC.over3 h h5 i hi _ _ _ nx ny⟩
  · rw [World.cell?_setCell_other _ _ _ _ n02.symm, World.cell?_setCell_other _ _ _ _ n01.symm]
    exact World.cell?_setCell_same _ _ _ d0
  · rw [World.cell?_setCell_other _ _ _ _ n12.symm]
    exact World.cell?_setCell_same _ _ _ (u := c1) (by rw [World.cell?_setCell_other _ _ _ _ n01]; exact d1)
  · exact World.cell?_setCell_same _ _ _ (u := c2) (by rw [World.cell?_setCell_other _ _ _ _ n12, World.cell?_setCell_other _ _ _ _ n02]; exact d2)
end
/-- make([]api.Frac, n). -/
theorem make_fr {P : Program} (t e : TypeId) (i : TypeInfo) (h1 : P.underlying t = some (.slice e)) (h2 : P.info? e = some i) (h3 : i.zero = some (.agg #[.bool false, .slice none 0 0, .slice none 0 0])) (h4 : i.size = 3) (h5 : i.bytes ≤ 64)
    (w : World) {ops : Array Oper} {rest : List Oper} {o : Oper} {a : Act} {Q : Exit → Act → World → Prop} (hg : o.guard = none) (l c : Operand) (hop : o.op = Op.makeSlice t l c)
    (B : Nat) (u : Int) (n : Nat) (hu : u = n) (hl : a.eval l = .int .i64 u) (hc : a.eval c = .int .i64 u) (b2 : n ≤ 4398046511104) (b4 : B ≤ w.heap.size)
    (hK : ∀ v w', OwnFr w' e B v n → Below w.heap.size w w' → w.heap.size ≤ (base v).block → wpList P ops Q rest (a.put o.dst v) w') :
    wpList P ops Q (o :: rest) a w := by
  subst hu
  refine wpList_make_full w hg l c t hop B e i _ 3 h1 h2 h3 h4 .i64 .i64 n n n hl hc rfl rfl (Nat.le_trans (Nat.mul_le_mul_right _ h5) (by omega)) (by unfold maxLen; omega) b4 ?_
  intro w' hown hgr
  refine hK _ w' ⟨_, _, rfl, hown, fun x hx z => ?_⟩ (below_of_grown hgr (Nat.le_refl _) (fun k hk => by cases hk)) (by simp [base])
  have hx2 : x ∈ (madeCells #[Value.bool false, .slice none 0 0, .slice none 0 0] (n * 3)).toList := hx
  unfold madeCells at hx2
  simp only [Array.toList_map, List.mem_map, Array.mem_toList_iff] at hx2
  obtain ⟨k, hk, rfl⟩ := hx2
  have h7 : k % 3 < 3 := Nat.mod_lt _ (by decide)
  have h8 : (#[Value.bool false, .slice none 0 0, .slice none 0 0] : Array Value).size = 3 := rfl
  rw [h8]
  rcases (show k % 3 = 0 ∨ k % 3 = 1 ∨ k % 3 = 2 by omega) with h9 | h9 | h9 <;> rw [h9] <;> simp
end Go.Proofs.Ytoldfpkafcefnaa
namespace Go.Proofs.Ytoldfpkafcefnaa
set_option linter.unusedVariables false
set_option linter.unusedSimpArgs false
open Go.RowKit

/-- count. -/
def RCount (w0 : World) (l : List Int) (e : Ending) (w : World) : Prop :=
  ∃ n b, e = .returned (.tuple #[.int .i64 (n : Nat), .bool b]) ∧ w0 = w ∧ (okB l → n = cnt l ∧ b = decide (0 < l.length)) ∧ (¬ okB l → b = false ∧ n = 0)
set_option maxHeartbeats 800000 in
theorem count_any (va : Value) (l : List Int) (w : World) (ha : IntsV w va l) :
    Calls Try.prog 32 #[va] w (RCount w l) := by
  have sa := CellsV.sl ha
  have la := ha.len
  have hle := sa.le
  rw [la] at hle
  have hlb : l.length ≤ 9223372036854775807 := by omega
  clear hle
  go_enter Try.func32, Try.ntmps32
  go_wp2_with fail
  go_loop [4, 9] (fun u4 u9 => ∃ (k : Nat), k ≤ l.length ∧ u9 = .int .i64 k ∧ u4 = .int .i64 (cnt (l.take k) : Nat) ∧ (∀ j b, j < k → l[j]? = some b → 0 ≤ b ∧ b ≤ (cnt (l.take j) : Int))) (fun _ u9 => l.length - (intOf u9).toNat)
  case atStart => exact ⟨0, Nat.zero_le _, rfl, rfl, fun j b h => by omega⟩
  case round =>
    obtain ⟨k, hk, rfl, rfl, hst⟩ := hrel
    have HST := Lib.hid hst
    clear hst
    have hck := cnt_le l k
    by_cases hkl : k < l.length
    · have hc := ha.at' k hkl
      have HG : Hid (l[k]? = some (l[k]'hkl)) := Lib.hid (List.getElem?_eq_getElem hkl)
      have HCT := Lib.hid (cnt_take l k hkl)
      generalize l[k]'hkl = b at *
      generalize hcn : cnt (l.take k) = n at *
      have HCN := Lib.hid hcn
      clear hcn
      by_cases hbad : b < 0 ∨ (n : Int) < b
      · have HB : Hid (¬ okB l) := Lib.hid (fun h => by have h6 := h k b HG.out; rw [HCN.out] at h6; omega)
        rcases hbad with h | h
        · go_wp2_with fail
          go_ret2
          exact ⟨0, false, rfl, rfl, fun h => absurd h HB.out, fun _ => ⟨rfl, rfl⟩⟩
        · by_cases h0 : b < 0
          · omega
          · go_wp2_with fail
            go_ret2
            exact ⟨0, false, rfl, rfl, fun h => absurd h HB.out, fun _ => ⟨rfl, rfl⟩⟩
      · have h1 : ¬ b < 0 := fun h => hbad (Or.inl h)
        have h2 : ¬ (n : Int) < b := fun h => hbad (Or.inr h)
        have HST2 : Hid (∀ j b', j < k + 1 → l[j]? = some b' → 0 ≤ b' ∧ b' ≤ (cnt (l.take j) : Int)) := Lib.hid (fun j b' hj hb' => by
          rcases Nat.lt_or_ge j k with h6 | h6
          · exact HST.out j b' h6 hb'
          · obtain rfl : j = k := by omega
            rw [HG.out] at hb'
            injection hb' with hb'
            subst hb'
            rw [HCN.out]; omega)
        clear hbad
        by_cases hbn : b = (n : Int)
        · have hbb : (b == (n : Int)) = true := by simp [hbn]
          have HE := Lib.hid hbn
          clear hbn
          go_wp2_with fail
          go_round
          case rel => exact ⟨k + 1, hkl, by go_num, by rw [HCT.out, if_pos HE.out]; go_num, HST2.out⟩
          case measure => simp [intOf]; omega
        · have hbb : (b == (n : Int)) = false := by simpa using hbn
          have HE := Lib.hid hbn
          clear hbn
          go_wp2_with fail
          go_round
          case rel => exact ⟨k + 1, hkl, by go_num, by rw [HCT.out, if_neg HE.out], HST2.out⟩
          case measure => simp [intOf]; omega
    · obtain rfl : k = l.length := by omega
      have HOK : Hid (okB l) := Lib.hid (fun k b h => HST.out k b (List.getElem?_eq_some_iff.1 h).1 h)
      rw [List.take_length] at *
      go_wp2_with fail
      go_ret2
      refine ⟨cnt l, decide (0 < l.length), ?_, rfl, fun _ => ⟨rfl, rfl⟩, fun h => absurd HOK.out h⟩
      congr 3

set_option maxRecDepth 100000 in
set_option maxHeartbeats 1600000 in
theorem alike_any (va vb : Value) (p q : List Rat) (own : Int) (w : World) (ha : FracsC w va p) (hb : FracsC w vb q) (hl : p.length = q.length) (hp : ∀ x ∈ p, fits x) (hq : ∀ x ∈ q, fits x) :
    Calls Try.prog 36 #[va, vb, .int .i64 own] w fun e w' => (∃ b, e = .returned (.bool b) ∧ (b = true ↔ ∀ (i : Nat) (x y : Rat), (i : Int) ≠ own → p[i]? = some x → q[i]? = some y → x = y)) ∧ Below w.heap.size w w' := by
  have sa := ha.sl
  have la := ha.len
  have sb := hb.sl
  have lb := hb.len
  have hle := sa.le
  rw [la] at hle
  rw [← hl] at lb
  have hlb : p.length ≤ 9223372036854775807 := by omega
  have HP := Lib.hid hp
  have HQ := Lib.hid hq
  have HL := Lib.hid hl
  clear hle hp hq hl
  go_enter Try.func36, Try.ntmps36
  go_wp2_with fail
  go_loopw [12] (fun u12 wr => ∃ (k : Nat), k ≤ p.length ∧ u12 = .int .i64 k ∧ (∀ (i : Nat) (x y : Rat), i < k → (i : Int) ≠ own → p[i]? = some x → q[i]? = some y → x = y) ∧ Below w.heap.size w wr) (fun u12 _ => p.length - (intOf u12).toNat)
  case atStart => exact ⟨0, Nat.zero_le _, rfl, fun i x y h => by omega, Below.refl _ _⟩
  case round =>
    obtain ⟨k, hk, rfl, hst, hbr⟩ := hrel
    have HST := Lib.hid hst
    clear hst
    by_cases hkl : k < p.length
    · have hkq : k < q.length := by rw [← HL.out]; exact hkl
      have hdr := below_drew (B := wr.heap.size) wr
      have hbd := below_then hbr hdr
      obtain ⟨a1, a2, c1, c2, c3, n1, n2⟩ := (ha.below hbd).at' k hkl
      obtain ⟨b1, b2, d1, d2, d3, m1, m2⟩ := (hb.below hbd).at' k hkq
      have HX : Hid (p[k]? = some (p[k]'hkl)) := Lib.hid (List.getElem?_eq_getElem hkl)
      have HY : Hid (q[k]? = some (q[k]'hkq)) := Lib.hid (List.getElem?_eq_getElem hkq)
      have F1 := Lib.hid (HP.out _ (List.getElem_mem hkl))
      have F2 := Lib.hid (HQ.out _ (List.getElem_mem hkq))
      generalize p[k]'hkl = x at *
      generalize q[k]'hkq = y at *
      have hX : FracC wr.drew (.agg #[.bool (decide (x < 0)), a1, a2]) x := ⟨_, _, rfl, n1, n2⟩
      have hY : FracC wr.drew (.agg #[.bool (decide (y < 0)), b1, b2]) y := ⟨_, _, rfl, m1, m2⟩
      clear n1 n2 m1 m2 hkq
      have i1 : (0 : Int) ≤ (k : Int) := by omega
      have i2 : ((k : Int)) < (p.length : Nat) := by omega
      go_wp2_with fail
      go_region_held3 (fun w' => w'.cell? (ptr va (k * 3)) = some (.bool (decide (x < 0))) ∧ w'.cell? (ptr va (k * 3 + 1)) = some a1 ∧ w'.cell? (ptr va (k * 3 + 2)) = some a2 ∧ w'.cell? (ptr vb (k * 3)) = some (.bool (decide (y < 0))) ∧ w'.cell? (ptr vb (k * 3 + 1)) = some b1 ∧ w'.cell? (ptr vb (k * 3 + 2)) = some b2) (exact ⟨c1, c2, c3, d1, d2, d3⟩) (first
        | (go_at_call 61; (with_reducible refine (cmp_can _ _ x y _ hX hY F1.out F2.out).mono ?_); rintro e9 w9 ⟨rfl, hb9⟩
           have c1 := cell_below hb9 c1
           have c2 := cell_below hb9 c2
           have c3 := cell_below hb9 c3
           have d1 := cell_below hb9 d1
           have d2 := cell_below hb9 d2
           have d3 := cell_below hb9 d3))
      have HC := Lib.hid (cmpR_self_iff x y)
      have hbr2 := below_then hbd hb9
      generalize cmpR x y = c at *
      clear c1 c2 c3 d1 d2 d3 hX hY
      have HNX : Hid (((k : Int) = own ∨ x = y) → ∀ (i : Nat) (x y : Rat), i < k + 1 → (i : Int) ≠ own → p[i]? = some x → q[i]? = some y → x = y) := Lib.hid (fun h i x' y' hi ho hx hy => by
        rcases Nat.lt_or_ge i k with h6 | h6
        · exact HST.out i x' y' h6 ho hx hy
        · obtain rfl : i = k := by omega
          rw [HX.out] at hx
          rw [HY.out] at hy
          injection hx with hx
          injection hy with hy
          subst hx hy
          exact h.resolve_left ho)
      by_cases ho : (k : Int) = own
      · have hob : ((k : Int) != own) = false := by simp [ho]
        have HR := Lib.hid (HNX.out (Or.inl ho))
        clear ho
        go_wp2
        go_roundw
        case rel => exact ⟨k + 1, hkl, by go_num, HR.out, hbr2⟩
        case measure => simp [intOf]; omega
      · have hob : ((k : Int) != own) = true := by simpa using ho
        by_cases hc : c = 0
        · have hcb : (c != 0) = false := by simp [hc]
          have HR := Lib.hid (HNX.out (Or.inr (HC.out.1 hc)))
          clear hc ho
          go_wp2
          go_roundw
          case rel => exact ⟨k + 1, hkl, by go_num, HR.out, hbr2⟩
          case measure => simp [intOf]; omega
        · have hcb : (c != 0) = true := by simpa using hc
          have HN : Hid (¬ ∀ (i : Nat) (x y : Rat), (i : Int) ≠ own → p[i]? = some x → q[i]? = some y → x = y) := Lib.hid (fun h => hc (HC.out.2 (h k x y ho HX.out HY.out)))
          clear hc ho
          go_wp2
          go_ret
          exact ⟨⟨false, rfl, fun h => (by cases h), fun h => absurd h HN.out⟩, hbr2⟩
    · obtain rfl : k = p.length := by omega
      go_wp2_with fail
      go_ret
      exact ⟨⟨true, rfl, fun _ i x y h1 h2 h3 => HST.out i x y (List.getElem?_eq_some_iff.1 h2).1 h1 h2 h3, fun _ => rfl⟩, hbr⟩
end Go.Proofs.Ytoldfpkafcefnaa
