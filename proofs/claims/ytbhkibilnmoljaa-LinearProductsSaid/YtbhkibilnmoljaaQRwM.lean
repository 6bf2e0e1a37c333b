/-
  A matrix in the making: a slice of n made rows, of which the first k are finished. No code is walked here.
-/
import Derived.Test.YtbhkibilnmoljaaQLi15
namespace Go.Proofs.Ytbhkibilnmoljaa
set_option linter.unusedVariables false
set_option linter.unusedSimpArgs false
open Go.RowKit

theorem OwnFr.overM {w : World} {e : TypeId} {B n : Nat} {v : Value} (h : OwnFr w e B v n) {p : Addr} (hp : p.block ≠ (base v).block) (u : Value) : OwnFr (w.setCell p u) e B v n := by
  obtain ⟨g, cs, rfl, h1, h2⟩ := h
  refine ⟨g, cs, rfl, ⟨h1.1, ?_⟩, h2⟩
  rcases h1.2 with ⟨h', _⟩ | ⟨g', cap, cur, h', hb, hg, rest⟩
  · cases h'
  · refine .inr ⟨g', cap, cur, h', hb, ?_, rest⟩
    injection h' with h4
    injection h4 with h4
    injection h4 with h4
    subst h4
    simp only [base] at hp
    rw [Below.heap_setCell _ _ _ _ (fun e => hp e.symm)]; exact hg
structure RowsM (w : World) (B : Nat) (v : Value) (rs : List Value) (n k : Nat) (q : Nat → List Rat) : Prop where
  own : OwnR w 26 B 1 v n rs
  row : ∀ (i : Nat) (h : i < rs.length), i < k → FracsC w rs[i] (q i) ∧ (base rs[i]).block ≠ (base v).block
section
variable {w w' : World} {B n k : Nat} {v : Value} {rs : List Value} {q : Nat → List Rat}
theorem RowsM.rl (h : RowsM w B v rs n k q) : rs.length = n := by have := h.own.clen; omega
theorem RowsM.start (h : OwnR w 26 B 1 v n (List.replicate n (.slice none 0 0))) : RowsM w B v (List.replicate n (.slice none 0 0)) n 0 q :=
  ⟨h, fun i _ hi => by omega⟩
theorem RowsM.below (h : RowsM w B v rs n k q) (hb : Below w.heap.size w w') : RowsM w' B v rs n k q :=
  ⟨h.own.below hb, fun i h1 h2 => ⟨(h.row i h1 h2).1.below hb, (h.row i h1 h2).2⟩⟩
theorem RowsM.vblock (h : RowsM w B v rs n k q) (hn : 0 < n) : B ≤ (base v).block ∧ (base v).block < w.heap.size := by
  obtain ⟨g, _, e2, e3, e4, _⟩ := h.own.blk (by have := h.own.clen; omega)
  omega
/-- A row is stored as row i, of those that are not finished. -/
theorem RowsM.put (h : RowsM w B v rs n k q) (i : Nat) (hi : i < n) (hk : k ≤ i) {u : Value} (hu : ∀ z, u ≠ .int .u32 z) : RowsM (w.setCell (ptr v i) u) B v (rs.set i u) n k q ∧ Below B w (w.setCell (ptr v i) u) := by
  have hir : i < rs.length := by rw [h.rl]; exact hi
  have hvb := h.vblock (by omega)
  obtain ⟨s1, s2⟩ := h.own.set1 i hir u hu
  have hpL : (ptr v i).block = (base v).block := ptr_block _ _
  refine ⟨⟨s1, fun j hj hjk => ?_⟩, (Below.refl B w).setCell (by rw [hpL]; exact hvb.1) _⟩
  have hj0 : j < rs.length := by simpa using hj
  rw [List.getElem_set_ne (by omega)]
  obtain ⟨r1, r2⟩ := h.row j hj0 hjk
  exact ⟨r1.setc (by rw [hpL]; exact r2) (h.own.cell i hir) (fun z => h.own.cell_ne i hir z) _, r2⟩
/-- A cell of another block, no limb, is written. -/
theorem RowsM.other (h : RowsM w B v rs n k q) {p : Addr} {x : Value} (hp : p.block ≠ (base v).block) (hr : ∀ (i : Nat) (h : i < rs.length), i < k → (base rs[i]).block ≠ p.block) (hc : w.cell? p = some x) (hx : ∀ z, x ≠ .int .u32 z) (u : Value) : RowsM (w.setCell p u) B v rs n k q := by
  have hm : OwnR (w.setCell p u) 26 B 1 v n rs := by
    have hlt := h.own.block
    refine ⟨⟨h.own.own.1, ?_⟩, fun g hg cur e' fz hcc => ?_⟩
    · rcases h.own.own.2 with ⟨rfl, h0⟩ | ⟨g, cap, cur, rfl, hb, hg, rest⟩
      · exact .inl ⟨rfl, h0⟩
      · refine .inr ⟨g, cap, cur, rfl, hb, ?_, rest⟩
        rw [Below.heap_setCell _ _ _ _ (by intro e; exact hp (e.symm.trans rfl))]; exact hg
    · have hg2 : g = (base v).block := by
        obtain ⟨a, b, c, rfl, _⟩ := h.own.sl
        cases a with
        | none => cases hg
        | some a => simp only [Value.ownBlock, Option.some.injEq] at hg; exact hg.symm
      rw [Below.heap_setCell _ _ _ _ (by intro e; exact hp (by rw [← e, hg2]))] at hcc
      exact h.own.nl g hg cur e' fz hcc
  exact ⟨hm, fun i h1 h2 => ⟨(h.row i h1 h2).1.setc (hr i h1 h2) hc hx u, (h.row i h1 h2).2⟩⟩
theorem RowsM.set3 (h : RowsM w B v rs n k q) {e : TypeId} {B' c : Nat} {t : Value} (ho : OwnFr w e B' t c) (hb : (base t).block ≠ (base v).block) (hr : ∀ (i : Nat) (h : i < rs.length), i < k → (base rs[i]).block ≠ (base t).block) (j : Nat) (hj : j < c) (x y z : Value) (hx : ∀ m, x ≠ .int .u32 m) (hy : ∀ m, y ≠ .int .u32 m) :
    RowsM (((w.setCell (ptr t (j * 3)) x).setCell (ptr t (j * 3 + 1)) y).setCell (ptr t (j * 3 + 2)) z) B v rs n k q := by
  have hp : ∀ m, (ptr t m).block = (base t).block := fun m => ptr_block _ _
  obtain ⟨c0, d0, e0⟩ := ho.cell (j * 3) (by omega)
  have h1 := h.other (p := ptr t (j * 3)) (by rw [hp]; exact hb) (fun i h1 h2 => by rw [hp]; exact hr i h1 h2) d0 e0 x
  have o1 := (ho.set (j * 3) x hx).1
  obtain ⟨c1, d1, e1⟩ := o1.cell (j * 3 + 1) (by omega)
  have h2 := h1.other (p := ptr t (j * 3 + 1)) (by rw [hp]; exact hb) (fun i h1 h2 => by rw [hp]; exact hr i h1 h2) d1 e1 y
  have o2 := (o1.set (j * 3 + 1) y hy).1
  obtain ⟨c2, d2, e2⟩ := o2.cell (j * 3 + 2) (by omega)
  exact h2.other (p := ptr t (j * 3 + 2)) (by rw [hp]; exact hb) (fun i h1 h2 => by rw [hp]; exact hr i h1 h2) d2 e2 z
/-- Row k is finished. -/
theorem RowsM.done (h : RowsM w B v rs n k q) (hk : k < rs.length) (hf : FracsC w rs[k] (q k)) (hb : (base rs[k]).block ≠ (base v).block) : RowsM w B v rs n (k + 1) q :=
  ⟨h.own, fun i h1 h2 => by
    rcases Nat.lt_or_ge i k with h3 | h3
    · exact h.row i h1 h3
    · obtain rfl : i = k := by omega
      exact ⟨hf, hb⟩⟩
theorem RowsM.mat {m : Nat} {A : Mx} (h : RowsM w B v rs n n (fun i => rowL m (A i))) : MatF w v n m A :=
  ⟨h.own.sl, h.own.len, fun i hi => by
    have h1 : i < rs.length := by rw [h.rl]; exact hi
    exact ⟨rs[i], h.own.cell i h1, (h.row i h1 hi).1⟩⟩
end
end Go.Proofs.Ytbhkibilnmoljaa
