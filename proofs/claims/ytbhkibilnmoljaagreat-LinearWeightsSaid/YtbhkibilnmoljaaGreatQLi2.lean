/-
  package linear: reduce.
  Ahead of it: N cells and the world's growth, kept together. No program is named here.
-/
import Derived.Test.YtbhkibilnmoljaaGreatQEl2
import Derived.Test.YtbhkibilnmoljaaGreatQGn
import Derived.Test.YtbhkibilnmoljaaGreatQLi1
import Derived.Test.YtbhkibilnmoljaaGreatQOrd
import Derived.Deep.CutRange
import Derived.Deep.DeepCutAuto
import Derived.Deep.LoopGhost
namespace Go.Proofs.YtbhkibilnmoljaaGreat
set_option linter.unusedVariables false
open Go.RowKit

theorem kp2w {w0 X Y : World} {a1 a2 : Addr} {x1 x2 : Value} (h : X.cell? a1 = some x1 ∧ X.cell? a2 = some x2 ∧ Below w0.heap.size w0 X) (hb : Below X.heap.size X Y) : Y.cell? a1 = some x1 ∧ Y.cell? a2 = some x2 ∧ Below w0.heap.size w0 Y := by
  obtain ⟨k1, k2, k0⟩ := h
  exact ⟨cell_below hb k1, cell_below hb k2, below_then k0 hb⟩
theorem kp2a {w0 X : World} {a1 a2 : Addr} {x1 x2 : Value} (h : w0.cell? a1 = some x1 ∧ w0.cell? a2 = some x2) (hb : Below w0.heap.size w0 X) : X.cell? a1 = some x1 ∧ X.cell? a2 = some x2 ∧ Below w0.heap.size w0 X := by
  obtain ⟨k1, k2⟩ := h
  exact ⟨cell_below hb k1, cell_below hb k2, hb⟩
theorem kp2c {w0 X : World} {a1 a2 : Addr} {x1 x2 : Value} (h : X.cell? a1 = some x1 ∧ X.cell? a2 = some x2 ∧ Below w0.heap.size w0 X) : Below w0.heap.size w0 X := by
  obtain ⟨k1, k2, k0⟩ := h
  exact k0
theorem kp2s {w0 X : World} {a1 a2 : Addr} {x1 x2 : Value} (h : w0.cell? a1 = some x1 ∧ w0.cell? a2 = some x2) (hb : Below w0.heap.size w0 X) {b : Nat} (hB : w0.heap.size ≤ b) (x y z : Value) : (((X.setCell ⟨b, 0, none⟩ x).setCell ⟨b, 1, none⟩ y).setCell ⟨b, 2, none⟩ z).cell? a1 = some x1 ∧ (((X.setCell ⟨b, 0, none⟩ x).setCell ⟨b, 1, none⟩ y).setCell ⟨b, 2, none⟩ z).cell? a2 = some x2 ∧ Below w0.heap.size w0 (((X.setCell ⟨b, 0, none⟩ x).setCell ⟨b, 1, none⟩ y).setCell ⟨b, 2, none⟩ z) :=
  kp2a h (below_set3 hb hB x y z)
theorem kp3w {w0 X Y : World} {a1 a2 a3 : Addr} {x1 x2 x3 : Value} (h : X.cell? a1 = some x1 ∧ X.cell? a2 = some x2 ∧ X.cell? a3 = some x3 ∧ Below w0.heap.size w0 X) (hb : Below X.heap.size X Y) : Y.cell? a1 = some x1 ∧ Y.cell? a2 = some x2 ∧ Y.cell? a3 = some x3 ∧ Below w0.heap.size w0 Y := by
  obtain ⟨k1, k2, k3, k0⟩ := h
  exact ⟨cell_below hb k1, cell_below hb k2, cell_below hb k3, below_then k0 hb⟩
theorem kp3a {w0 X : World} {a1 a2 a3 : Addr} {x1 x2 x3 : Value} (h : w0.cell? a1 = some x1 ∧ w0.cell? a2 = some x2 ∧ w0.cell? a3 = some x3) (hb : Below w0.heap.size w0 X) : X.cell? a1 = some x1 ∧ X.cell? a2 = some x2 ∧ X.cell? a3 = some x3 ∧ Below w0.heap.size w0 X := by
  obtain ⟨k1, k2, k3⟩ := h
  exact ⟨cell_below hb k1, cell_below hb k2, cell_below hb k3, hb⟩
theorem kp3c {w0 X : World} {a1 a2 a3 : Addr} {x1 x2 x3 : Value} (h : X.cell? a1 = some x1 ∧ X.cell? a2 = some x2 ∧ X.cell? a3 = some x3 ∧ Below w0.heap.size w0 X) : Below w0.heap.size w0 X := by
  obtain ⟨k1, k2, k3, k0⟩ := h
  exact k0
theorem kp3s {w0 X : World} {a1 a2 a3 : Addr} {x1 x2 x3 : Value} (h : w0.cell? a1 = some x1 ∧ w0.cell? a2 = some x2 ∧ w0.cell? a3 = some x3) (hb : Below w0.heap.size w0 X) {b : Nat} (hB : w0.heap.size ≤ b) (x y z : Value) : (((X.setCell ⟨b, 0, none⟩ x).setCell ⟨b, 1, none⟩ y).setCell ⟨b, 2, none⟩ z).cell? a1 = some x1 ∧ (((X.setCell ⟨b, 0, none⟩ x).setCell ⟨b, 1, none⟩ y).setCell ⟨b, 2, none⟩ z).cell? a2 = some x2 ∧ (((X.setCell ⟨b, 0, none⟩ x).setCell ⟨b, 1, none⟩ y).setCell ⟨b, 2, none⟩ z).cell? a3 = some x3 ∧ Below w0.heap.size w0 (((X.setCell ⟨b, 0, none⟩ x).setCell ⟨b, 1, none⟩ y).setCell ⟨b, 2, none⟩ z) :=
  kp3a h (below_set3 hb hB x y z)
theorem kp4w {w0 X Y : World} {a1 a2 a3 a4 : Addr} {x1 x2 x3 x4 : Value} (h : X.cell? a1 = some x1 ∧ X.cell? a2 = some x2 ∧ X.cell? a3 = some x3 ∧ X.cell? a4 = some x4 ∧ Below w0.heap.size w0 X) (hb : Below X.heap.size X Y) : Y.cell? a1 = some x1 ∧ Y.cell? a2 = some x2 ∧ Y.cell? a3 = some x3 ∧ Y.cell? a4 = some x4 ∧ Below w0.heap.size w0 Y := by
  obtain ⟨k1, k2, k3, k4, k0⟩ := h
  exact ⟨cell_below hb k1, cell_below hb k2, cell_below hb k3, cell_below hb k4, below_then k0 hb⟩
theorem kp4a {w0 X : World} {a1 a2 a3 a4 : Addr} {x1 x2 x3 x4 : Value} (h : w0.cell? a1 = some x1 ∧ w0.cell? a2 = some x2 ∧ w0.cell? a3 = some x3 ∧ w0.cell? a4 = some x4) (hb : Below w0.heap.size w0 X) : X.cell? a1 = some x1 ∧ X.cell? a2 = some x2 ∧ X.cell? a3 = some x3 ∧ X.cell? a4 = some x4 ∧ Below w0.heap.size w0 X := by
  obtain ⟨k1, k2, k3, k4⟩ := h
  exact ⟨cell_below hb k1, cell_below hb k2, cell_below hb k3, cell_below hb k4, hb⟩
theorem kp4c {w0 X : World} {a1 a2 a3 a4 : Addr} {x1 x2 x3 x4 : Value} (h : X.cell? a1 = some x1 ∧ X.cell? a2 = some x2 ∧ X.cell? a3 = some x3 ∧ X.cell? a4 = some x4 ∧ Below w0.heap.size w0 X) : Below w0.heap.size w0 X := by
  obtain ⟨k1, k2, k3, k4, k0⟩ := h
  exact k0
theorem kp4s {w0 X : World} {a1 a2 a3 a4 : Addr} {x1 x2 x3 x4 : Value} (h : w0.cell? a1 = some x1 ∧ w0.cell? a2 = some x2 ∧ w0.cell? a3 = some x3 ∧ w0.cell? a4 = some x4) (hb : Below w0.heap.size w0 X) {b : Nat} (hB : w0.heap.size ≤ b) (x y z : Value) : (((X.setCell ⟨b, 0, none⟩ x).setCell ⟨b, 1, none⟩ y).setCell ⟨b, 2, none⟩ z).cell? a1 = some x1 ∧ (((X.setCell ⟨b, 0, none⟩ x).setCell ⟨b, 1, none⟩ y).setCell ⟨b, 2, none⟩ z).cell? a2 = some x2 ∧ (((X.setCell ⟨b, 0, none⟩ x).setCell ⟨b, 1, none⟩ y).setCell ⟨b, 2, none⟩ z).cell? a3 = some x3 ∧ (((X.setCell ⟨b, 0, none⟩ x).setCell ⟨b, 1, none⟩ y).setCell ⟨b, 2, none⟩ z).cell? a4 = some x4 ∧ Below w0.heap.size w0 (((X.setCell ⟨b, 0, none⟩ x).setCell ⟨b, 1, none⟩ y).setCell ⟨b, 2, none⟩ z) :=
  kp4a h (below_set3 hb hB x y z)
theorem kp5w {w0 X Y : World} {a1 a2 a3 a4 a5 : Addr} {x1 x2 x3 x4 x5 : Value} (h : X.cell? a1 = some x1 ∧ X.cell? a2 = some x2 ∧ X.cell? a3 = some x3 ∧ X.cell? a4 = some x4 ∧ X.cell? a5 = some x5 ∧ Below w0.heap.size w0 X) (hb : Below X.heap.size X Y) : Y.cell? a1 = some x1 ∧ Y.cell? a2 = some x2 ∧ Y.cell? a3 = some x3 ∧ Y.cell? a4 = some x4 ∧ Y.cell? a5 = some x5 ∧ Below w0.heap.size w0 Y := by
  obtain ⟨k1, k2, k3, k4, k5, k0⟩ := h
  exact ⟨cell_below hb k1, cell_below hb k2, cell_below hb k3, cell_below hb k4, cell_below hb k5, below_then k0 hb⟩
theorem kp5a {w0 X : World} {a1 a2 a3 a4 a5 : Addr} {x1 x2 x3 x4 x5 : Value} (h : w0.cell? a1 = some x1 ∧ w0.cell? a2 = some x2 ∧ w0.cell? a3 = some x3 ∧ w0.cell? a4 = some x4 ∧ w0.cell? a5 = some x5) (hb : Below w0.heap.size w0 X) : X.cell? a1 = some x1 ∧ X.cell? a2 = some x2 ∧ X.cell? a3 = some x3 ∧ X.cell? a4 = some x4 ∧ X.cell? a5 = some x5 ∧ Below w0.heap.size w0 X := by
  obtain ⟨k1, k2, k3, k4, k5⟩ := h
  exact ⟨cell_below hb k1, cell_below hb k2, cell_below hb k3, cell_below hb k4, cell_below hb k5, hb⟩
theorem kp5c {w0 X : World} {a1 a2 a3 a4 a5 : Addr} {x1 x2 x3 x4 x5 : Value} (h : X.cell? a1 = some x1 ∧ X.cell? a2 = some x2 ∧ X.cell? a3 = some x3 ∧ X.cell? a4 = some x4 ∧ X.cell? a5 = some x5 ∧ Below w0.heap.size w0 X) : Below w0.heap.size w0 X := by
  obtain ⟨k1, k2, k3, k4, k5, k0⟩ := h
  exact k0
theorem kp5s {w0 X : World} {a1 a2 a3 a4 a5 : Addr} {x1 x2 x3 x4 x5 : Value} (h : w0.cell? a1 = some x1 ∧ w0.cell? a2 = some x2 ∧ w0.cell? a3 = some x3 ∧ w0.cell? a4 = some x4 ∧ w0.cell? a5 = some x5) (hb : Below w0.heap.size w0 X) {b : Nat} (hB : w0.heap.size ≤ b) (x y z : Value) : (((X.setCell ⟨b, 0, none⟩ x).setCell ⟨b, 1, none⟩ y).setCell ⟨b, 2, none⟩ z).cell? a1 = some x1 ∧ (((X.setCell ⟨b, 0, none⟩ x).setCell ⟨b, 1, none⟩ y).setCell ⟨b, 2, none⟩ z).cell? a2 = some x2 ∧ (((X.setCell ⟨b, 0, none⟩ x).setCell ⟨b, 1, none⟩ y).setCell ⟨b, 2, none⟩ z).cell? a3 = some x3 ∧ (((X.setCell ⟨b, 0, none⟩ x).setCell ⟨b, 1, none⟩ y).setCell ⟨b, 2, none⟩ z).cell? a4 = some x4 ∧ (((X.setCell ⟨b, 0, none⟩ x).setCell ⟨b, 1, none⟩ y).setCell ⟨b, 2, none⟩ z).cell? a5 = some x5 ∧ Below w0.heap.size w0 (((X.setCell ⟨b, 0, none⟩ x).setCell ⟨b, 1, none⟩ y).setCell ⟨b, 2, none⟩ z) :=
  kp5a h (below_set3 hb hB x y z)
theorem kp6w {w0 X Y : World} {a1 a2 a3 a4 a5 a6 : Addr} {x1 x2 x3 x4 x5 x6 : Value} (h : X.cell? a1 = some x1 ∧ X.cell? a2 = some x2 ∧ X.cell? a3 = some x3 ∧ X.cell? a4 = some x4 ∧ X.cell? a5 = some x5 ∧ X.cell? a6 = some x6 ∧ Below w0.heap.size w0 X) (hb : Below X.heap.size X Y) : Y.cell? a1 = some x1 ∧ Y.cell? a2 = some x2 ∧ Y.cell? a3 = some x3 ∧ Y.cell? a4 = some x4 ∧ Y.cell? a5 = some x5 ∧ Y.cell? a6 = some x6 ∧ Below w0.heap.size w0 Y := by
  obtain ⟨k1, k2, k3, k4, k5, k6, k0⟩ := h
  exact ⟨cell_below hb k1, cell_below hb k2, cell_below hb k3, cell_below hb k4, cell_below hb k5, cell_below hb k6, below_then k0 hb⟩
theorem kp6a {w0 X : World} {a1 a2 a3 a4 a5 a6 : Addr} {x1 x2 x3 x4 x5 x6 : Value} (h : w0.cell? a1 = some x1 ∧ w0.cell? a2 = some x2 ∧ w0.cell? a3 = some x3 ∧ w0.cell? a4 = some x4 ∧ w0.cell? a5 = some x5 ∧ w0.cell? a6 = some x6) (hb : Below w0.heap.size w0 X) : X.cell? a1 = some x1 ∧ X.cell? a2 = some x2 ∧ X.cell? a3 = some x3 ∧ X.cell? a4 = some x4 ∧ X.cell? a5 = some x5 ∧ X.cell? a6 = some x6 ∧ Below w0.heap.size w0 X := by
  obtain ⟨k1, k2, k3, k4, k5, k6⟩ := h
  exact ⟨cell_below hb k1, cell_below hb k2, cell_below hb k3, cell_below hb k4, cell_below hb k5, cell_below hb k6, hb⟩
theorem kp6c {w0 X : World} {a1 a2 a3 a4 a5 a6 : Addr} {x1 x2 x3 x4 x5 x6 : Value} (h : X.cell? a1 = some x1 ∧ X.cell? a2 = some x2 ∧ X.cell? a3 = some x3 ∧ X.cell? a4 = some x4 ∧ X.cell? a5 = some x5 ∧ X.cell? a6 = some x6 ∧ Below w0.heap.size w0 X) : Below w0.heap.size w0 X := by
  obtain ⟨k1, k2, k3, k4, k5, k6, k0⟩ := h
  exact k0
theorem kp6s {w0 X : World} {a1 a2 a3 a4 a5 a6 : Addr} {x1 x2 x3 x4 x5 x6 : Value} (h : w0.cell? a1 = some x1 ∧ w0.cell? a2 = some x2 ∧ w0.cell? a3 = some x3 ∧ w0.cell? a4 = some x4 ∧ w0.cell? a5 = some x5 ∧ w0.cell? a6 = some x6) (hb : Below w0.heap.size w0 X) {b : Nat} (hB : w0.heap.size ≤ b) (x y z : Value) : (((X.setCell ⟨b, 0, none⟩ x).setCell ⟨b, 1, none⟩ y).setCell ⟨b, 2, none⟩ z).cell? a1 = some x1 ∧ (((X.setCell ⟨b, 0, none⟩ x).setCell ⟨b, 1, none⟩ y).setCell ⟨b, 2, none⟩ z).cell? a2 = some x2 ∧ (((X.setCell ⟨b, 0, none⟩ x).setCell ⟨b, 1, none⟩ y).setCell ⟨b, 2, none⟩ z).cell? a3 = some x3 ∧ (((X.setCell ⟨b, 0, none⟩ x).setCell ⟨b, 1, none⟩ y).setCell ⟨b, 2, none⟩ z).cell? a4 = some x4 ∧ (((X.setCell ⟨b, 0, none⟩ x).setCell ⟨b, 1, none⟩ y).setCell ⟨b, 2, none⟩ z).cell? a5 = some x5 ∧ (((X.setCell ⟨b, 0, none⟩ x).setCell ⟨b, 1, none⟩ y).setCell ⟨b, 2, none⟩ z).cell? a6 = some x6 ∧ Below w0.heap.size w0 (((X.setCell ⟨b, 0, none⟩ x).setCell ⟨b, 1, none⟩ y).setCell ⟨b, 2, none⟩ z) :=
  kp6a h (below_set3 hb hB x y z)
theorem kp7w {w0 X Y : World} {a1 a2 a3 a4 a5 a6 a7 : Addr} {x1 x2 x3 x4 x5 x6 x7 : Value} (h : X.cell? a1 = some x1 ∧ X.cell? a2 = some x2 ∧ X.cell? a3 = some x3 ∧ X.cell? a4 = some x4 ∧ X.cell? a5 = some x5 ∧ X.cell? a6 = some x6 ∧ X.cell? a7 = some x7 ∧ Below w0.heap.size w0 X) (hb : Below X.heap.size X Y) : Y.cell? a1 = some x1 ∧ Y.cell? a2 = some x2 ∧ Y.cell? a3 = some x3 ∧ Y.cell? a4 = some x4 ∧ Y.cell? a5 = some x5 ∧ Y.cell? a6 = some x6 ∧ Y.cell? a7 = some x7 ∧ Below w0.heap.size w0 Y := by
  obtain ⟨k1, k2, k3, k4, k5, k6, k7, k0⟩ := h
  exact ⟨cell_below hb k1, cell_below hb k2, cell_below hb k3, cell_below hb k4, cell_below hb k5, cell_below hb k6, cell_below hb k7, below_then k0 hb⟩
theorem kp7a {w0 X : World} {a1 a2 a3 a4 a5 a6 a7 : Addr} {x1 x2 x3 x4 x5 x6 x7 : Value} (h : w0.cell? a1 = some x1 ∧ w0.cell? a2 = some x2 ∧ w0.cell? a3 = some x3 ∧ w0.cell? a4 = some x4 ∧ w0.cell? a5 = some x5 ∧ w0.cell? a6 = some x6 ∧ w0.cell? a7 = some x7) (hb : Below w0.heap.size w0 X) : X.cell? a1 = some x1 ∧ X.cell? a2 = some x2 ∧ X.cell? a3 = some x3 ∧ X.cell? a4 = some x4 ∧ X.cell? a5 = some x5 ∧ X.cell? a6 = some x6 ∧ X.cell? a7 = some x7 ∧ Below w0.heap.size w0 X := by
  obtain ⟨k1, k2, k3, k4, k5, k6, k7⟩ := h
  exact ⟨cell_below hb k1, cell_below hb k2, cell_below hb k3, cell_below hb k4, cell_below hb k5, cell_below hb k6, cell_below hb k7, hb⟩
theorem kp7c {w0 X : World} {a1 a2 a3 a4 a5 a6 a7 : Addr} {x1 x2 x3 x4 x5 x6 x7 : Value} (h : X.cell? a1 = some x1 ∧ X.cell? a2 = some x2 ∧ X.cell? a3 = some x3 ∧ X.cell? a4 = some x4 ∧ X.cell? a5 = some x5 ∧ X.cell? a6 = some x6 ∧ X.cell? a7 = some x7 ∧ Below w0.heap.size w0 X) : Below w0.heap.size w0 X := by
  obtain ⟨k1, k2, k3, k4, k5, k6, k7, k0⟩ := h
  exact k0
theorem kp7s {w0 X : World} {a1 a2 a3 a4 a5 a6 a7 : Addr} {x1 x2 x3 x4 x5 x6 x7 : Value} (h : w0.cell? a1 = some x1 ∧ w0.cell? a2 = some x2 ∧ w0.cell? a3 = some x3 ∧ w0.cell? a4 = some x4 ∧ w0.cell? a5 = some x5 ∧ w0.cell? a6 = some x6 ∧ w0.cell? a7 = some x7) (hb : Below w0.heap.size w0 X) {b : Nat} (hB : w0.heap.size ≤ b) (x y z : Value) : (((X.setCell ⟨b, 0, none⟩ x).setCell ⟨b, 1, none⟩ y).setCell ⟨b, 2, none⟩ z).cell? a1 = some x1 ∧ (((X.setCell ⟨b, 0, none⟩ x).setCell ⟨b, 1, none⟩ y).setCell ⟨b, 2, none⟩ z).cell? a2 = some x2 ∧ (((X.setCell ⟨b, 0, none⟩ x).setCell ⟨b, 1, none⟩ y).setCell ⟨b, 2, none⟩ z).cell? a3 = some x3 ∧ (((X.setCell ⟨b, 0, none⟩ x).setCell ⟨b, 1, none⟩ y).setCell ⟨b, 2, none⟩ z).cell? a4 = some x4 ∧ (((X.setCell ⟨b, 0, none⟩ x).setCell ⟨b, 1, none⟩ y).setCell ⟨b, 2, none⟩ z).cell? a5 = some x5 ∧ (((X.setCell ⟨b, 0, none⟩ x).setCell ⟨b, 1, none⟩ y).setCell ⟨b, 2, none⟩ z).cell? a6 = some x6 ∧ (((X.setCell ⟨b, 0, none⟩ x).setCell ⟨b, 1, none⟩ y).setCell ⟨b, 2, none⟩ z).cell? a7 = some x7 ∧ Below w0.heap.size w0 (((X.setCell ⟨b, 0, none⟩ x).setCell ⟨b, 1, none⟩ y).setCell ⟨b, 2, none⟩ z) :=
  kp7a h (below_set3 hb hB x y z)
theorem kp8w {w0 X Y : World} {a1 a2 a3 a4 a5 a6 a7 a8 : Addr} {x1 x2 x3 x4 x5 x6 x7 x8 : Value} (h : X.cell? a1 = some x1 ∧ X.cell? a2 = some x2 ∧ X.cell? a3 = some x3 ∧ X.cell? a4 = some x4 ∧ X.cell? a5 = some x5 ∧ X.cell? a6 = some x6 ∧ X.cell? a7 = some x7 ∧ X.cell? a8 = some x8 ∧ Below w0.heap.size w0 X) (hb : Below X.heap.size X Y) : Y.cell? a1 = some x1 ∧ Y.cell? a2 = some x2 ∧ Y.cell? a3 = some x3 ∧ Y.cell? a4 = some x4 ∧ Y.cell? a5 = some x5 ∧ Y.cell? a6 = some x6 ∧ Y.cell? a7 = some x7 ∧ Y.cell? a8 = some x8 ∧ Below w0.heap.size w0 Y := by
  obtain ⟨k1, k2, k3, k4, k5, k6, k7, k8, k0⟩ := h
  exact ⟨cell_below hb k1, cell_below hb k2, cell_below hb k3, cell_below hb k4, cell_below hb k5, cell_below hb k6, cell_below hb k7, cell_below hb k8, below_then k0 hb⟩
theorem kp8a {w0 X : World} {a1 a2 a3 a4 a5 a6 a7 a8 : Addr} {x1 x2 x3 x4 x5 x6 x7 x8 : Value} (h : w0.cell? a1 = some x1 ∧ w0.cell? a2 = some x2 ∧ w0.cell? a3 = some x3 ∧ w0.cell? a4 = some x4 ∧ w0.cell? a5 = some x5 ∧ w0.cell? a6 = some x6 ∧ w0.cell? a7 = some x7 ∧ w0.cell? a8 = some x8) (hb : Below w0.heap.size w0 X) : X.cell? a1 = some x1 ∧ X.cell? a2 = some x2 ∧ X.cell? a3 = some x3 ∧ X.cell? a4 = some x4 ∧ X.cell? a5 = some x5 ∧ X.cell? a6 = some x6 ∧ X.cell? a7 = some x7 ∧ X.cell? a8 = some x8 ∧ Below w0.heap.size w0 X := by
  obtain ⟨k1, k2, k3, k4, k5, k6, k7, k8⟩ := h
  exact ⟨cell_below hb k1, cell_below hb k2, cell_below hb k3, cell_below hb k4, cell_below hb k5, cell_below hb k6, cell_below hb k7, cell_below hb k8, hb⟩
theorem kp8c {w0 X : World} {a1 a2 a3 a4 a5 a6 a7 a8 : Addr} {x1 x2 x3 x4 x5 x6 x7 x8 : Value} (h : X.cell? a1 = some x1 ∧ X.cell? a2 = some x2 ∧ X.cell? a3 = some x3 ∧ X.cell? a4 = some x4 ∧ X.cell? a5 = some x5 ∧ X.cell? a6 = some x6 ∧ X.cell? a7 = some x7 ∧ X.cell? a8 = some x8 ∧ Below w0.heap.size w0 X) : Below w0.heap.size w0 X := by
  obtain ⟨k1, k2, k3, k4, k5, k6, k7, k8, k0⟩ := h
  exact k0
theorem kp8s {w0 X : World} {a1 a2 a3 a4 a5 a6 a7 a8 : Addr} {x1 x2 x3 x4 x5 x6 x7 x8 : Value} (h : w0.cell? a1 = some x1 ∧ w0.cell? a2 = some x2 ∧ w0.cell? a3 = some x3 ∧ w0.cell? a4 = some x4 ∧ w0.cell? a5 = some x5 ∧ w0.cell? a6 = some x6 ∧ w0.cell? a7 = some x7 ∧ w0.cell? a8 = some x8) (hb : Below w0.heap.size w0 X) {b : Nat} (hB : w0.heap.size ≤ b) (x y z : Value) : (((X.setCell ⟨b, 0, none⟩ x).setCell ⟨b, 1, none⟩ y).setCell ⟨b, 2, none⟩ z).cell? a1 = some x1 ∧ (((X.setCell ⟨b, 0, none⟩ x).setCell ⟨b, 1, none⟩ y).setCell ⟨b, 2, none⟩ z).cell? a2 = some x2 ∧ (((X.setCell ⟨b, 0, none⟩ x).setCell ⟨b, 1, none⟩ y).setCell ⟨b, 2, none⟩ z).cell? a3 = some x3 ∧ (((X.setCell ⟨b, 0, none⟩ x).setCell ⟨b, 1, none⟩ y).setCell ⟨b, 2, none⟩ z).cell? a4 = some x4 ∧ (((X.setCell ⟨b, 0, none⟩ x).setCell ⟨b, 1, none⟩ y).setCell ⟨b, 2, none⟩ z).cell? a5 = some x5 ∧ (((X.setCell ⟨b, 0, none⟩ x).setCell ⟨b, 1, none⟩ y).setCell ⟨b, 2, none⟩ z).cell? a6 = some x6 ∧ (((X.setCell ⟨b, 0, none⟩ x).setCell ⟨b, 1, none⟩ y).setCell ⟨b, 2, none⟩ z).cell? a7 = some x7 ∧ (((X.setCell ⟨b, 0, none⟩ x).setCell ⟨b, 1, none⟩ y).setCell ⟨b, 2, none⟩ z).cell? a8 = some x8 ∧ Below w0.heap.size w0 (((X.setCell ⟨b, 0, none⟩ x).setCell ⟨b, 1, none⟩ y).setCell ⟨b, 2, none⟩ z) :=
  kp8a h (below_set3 hb hB x y z)
theorem kp9w {w0 X Y : World} {a1 a2 a3 a4 a5 a6 a7 a8 a9 : Addr} {x1 x2 x3 x4 x5 x6 x7 x8 x9 : Value} (h : X.cell? a1 = some x1 ∧ X.cell? a2 = some x2 ∧ X.cell? a3 = some x3 ∧ X.cell? a4 = some x4 ∧ X.cell? a5 = some x5 ∧ X.cell? a6 = some x6 ∧ X.cell? a7 = some x7 ∧ X.cell? a8 = some x8 ∧ X.cell? a9 = some x9 ∧ Below w0.heap.size w0 X) (hb : Below X.heap.size X Y) : Y.cell? a1 = some x1 ∧ Y.cell? a2 = some x2 ∧ Y.cell? a3 = some x3 ∧ Y.cell? a4 = some x4 ∧ Y.cell? a5 = some x5 ∧ Y.cell? a6 = some x6 ∧ Y.cell? a7 = some x7 ∧ Y.cell? a8 = some x8 ∧ Y.cell? a9 = some x9 ∧ Below w0.heap.size w0 Y := by
  obtain ⟨k1, k2, k3, k4, k5, k6, k7, k8, k9, k0⟩ := h
  exact ⟨cell_below hb k1, cell_below hb k2, cell_below hb k3, cell_below hb k4, cell_below hb k5, cell_below hb k6, cell_below hb k7, cell_below hb k8, cell_below hb k9, below_then k0 hb⟩
theorem kp9a {w0 X : World} {a1 a2 a3 a4 a5 a6 a7 a8 a9 : Addr} {x1 x2 x3 x4 x5 x6 x7 x8 x9 : Value} (h : w0.cell? a1 = some x1 ∧ w0.cell? a2 = some x2 ∧ w0.cell? a3 = some x3 ∧ w0.cell? a4 = some x4 ∧ w0.cell? a5 = some x5 ∧ w0.cell? a6 = some x6 ∧ w0.cell? a7 = some x7 ∧ w0.cell? a8 = some x8 ∧ w0.cell? a9 = some x9) (hb : Below w0.heap.size w0 X) : X.cell? a1 = some x1 ∧ X.cell? a2 = some x2 ∧ X.cell? a3 = some x3 ∧ X.cell? a4 = some x4 ∧ X.cell? a5 = some x5 ∧ X.cell? a6 = some x6 ∧ X.cell? a7 = some x7 ∧ X.cell? a8 = some x8 ∧ X.cell? a9 = some x9 ∧ Below w0.heap.size w0 X := by
  obtain ⟨k1, k2, k3, k4, k5, k6, k7, k8, k9⟩ := h
  exact ⟨cell_below hb k1, cell_below hb k2, cell_below hb k3, cell_below hb k4, cell_below hb k5, cell_below hb k6, cell_below hb k7, cell_below hb k8, cell_below hb k9, hb⟩
theorem kp9c {w0 X : World} {a1 a2 a3 a4 a5 a6 a7 a8 a9 : Addr} {x1 x2 x3 x4 x5 x6 x7 x8 x9 : Value} (h : X.cell? a1 = some x1 ∧ X.cell? a2 = some x2 ∧ X.cell? a3 = some x3 ∧ X.cell? a4 = some x4 ∧ X.cell? a5 = some x5 ∧ X.cell? a6 = some x6 ∧ X.cell? a7 = some x7 ∧ X.cell? a8 = some x8 ∧ X.cell? a9 = some x9 ∧ Below w0.heap.size w0 X) : Below w0.heap.size w0 X := by
  obtain ⟨k1, k2, k3, k4, k5, k6, k7, k8, k9, k0⟩ := h
  exact k0
theorem kp9s {w0 X : World} {a1 a2 a3 a4 a5 a6 a7 a8 a9 : Addr} {x1 x2 x3 x4 x5 x6 x7 x8 x9 : Value} (h : w0.cell? a1 = some x1 ∧ w0.cell? a2 = some x2 ∧ w0.cell? a3 = some x3 ∧ w0.cell? a4 = some x4 ∧ w0.cell? a5 = some x5 ∧ w0.cell? a6 = some x6 ∧ w0.cell? a7 = some x7 ∧ w0.cell? a8 = some x8 ∧ w0.cell? a9 = some x9) (hb : Below w0.heap.size w0 X) {b : Nat} (hB : w0.heap.size ≤ b) (x y z : Value) : (((X.setCell ⟨b, 0, none⟩ x).setCell ⟨b, 1, none⟩ y).setCell ⟨b, 2, none⟩ z).cell? a1 = some x1 ∧ (((X.setCell ⟨b, 0, none⟩ x).setCell ⟨b, 1, none⟩ y).setCell ⟨b, 2, none⟩ z).cell? a2 = some x2 ∧ (((X.setCell ⟨b, 0, none⟩ x).setCell ⟨b, 1, none⟩ y).setCell ⟨b, 2, none⟩ z).cell? a3 = some x3 ∧ (((X.setCell ⟨b, 0, none⟩ x).setCell ⟨b, 1, none⟩ y).setCell ⟨b, 2, none⟩ z).cell? a4 = some x4 ∧ (((X.setCell ⟨b, 0, none⟩ x).setCell ⟨b, 1, none⟩ y).setCell ⟨b, 2, none⟩ z).cell? a5 = some x5 ∧ (((X.setCell ⟨b, 0, none⟩ x).setCell ⟨b, 1, none⟩ y).setCell ⟨b, 2, none⟩ z).cell? a6 = some x6 ∧ (((X.setCell ⟨b, 0, none⟩ x).setCell ⟨b, 1, none⟩ y).setCell ⟨b, 2, none⟩ z).cell? a7 = some x7 ∧ (((X.setCell ⟨b, 0, none⟩ x).setCell ⟨b, 1, none⟩ y).setCell ⟨b, 2, none⟩ z).cell? a8 = some x8 ∧ (((X.setCell ⟨b, 0, none⟩ x).setCell ⟨b, 1, none⟩ y).setCell ⟨b, 2, none⟩ z).cell? a9 = some x9 ∧ Below w0.heap.size w0 (((X.setCell ⟨b, 0, none⟩ x).setCell ⟨b, 1, none⟩ y).setCell ⟨b, 2, none⟩ z) :=
  kp9a h (below_set3 hb hB x y z)
theorem kp10w {w0 X Y : World} {a1 a2 a3 a4 a5 a6 a7 a8 a9 a10 : Addr} {x1 x2 x3 x4 x5 x6 x7 x8 x9 x10 : Value} (h : X.cell? a1 = some x1 ∧ X.cell? a2 = some x2 ∧ X.cell? a3 = some x3 ∧ X.cell? a4 = some x4 ∧ X.cell? a5 = some x5 ∧ X.cell? a6 = some x6 ∧ X.cell? a7 = some x7 ∧ X.cell? a8 = some x8 ∧ X.cell? a9 = some x9 ∧ X.cell? a10 = some x10 ∧ Below w0.heap.size w0 X) (hb : Below X.heap.size X Y) : Y.cell? a1 = some x1 ∧ Y.cell? a2 = some x2 ∧ Y.cell? a3 = some x3 ∧ Y.cell? a4 = some x4 ∧ Y.cell? a5 = some x5 ∧ Y.cell? a6 = some x6 ∧ Y.cell? a7 = some x7 ∧ Y.cell? a8 = some x8 ∧ Y.cell? a9 = some x9 ∧ Y.cell? a10 = some x10 ∧ Below w0.heap.size w0 Y := by
  obtain ⟨k1, k2, k3, k4, k5, k6, k7, k8, k9, k10, k0⟩ := h
  exact ⟨cell_below hb k1, cell_below hb k2, cell_below hb k3, cell_below hb k4, cell_below hb k5, cell_below hb k6, cell_below hb k7, cell_below hb k8, cell_below hb k9, cell_below hb k10, below_then k0 hb⟩
theorem kp10a {w0 X : World} {a1 a2 a3 a4 a5 a6 a7 a8 a9 a10 : Addr} {x1 x2 x3 x4 x5 x6 x7 x8 x9 x10 : Value} (h : w0.cell? a1 = some x1 ∧ w0.cell? a2 = some x2 ∧ w0.cell? a3 = some x3 ∧ w0.cell? a4 = some x4 ∧ w0.cell? a5 = some x5 ∧ w0.cell? a6 = some x6 ∧ w0.cell? a7 = some x7 ∧ w0.cell? a8 = some x8 ∧ w0.cell? a9 = some x9 ∧ w0.cell? a10 = some x10) (hb : Below w0.heap.size w0 X) : X.cell? a1 = some x1 ∧ X.cell? a2 = some x2 ∧ X.cell? a3 = some x3 ∧ X.cell? a4 = some x4 ∧ X.cell? a5 = some x5 ∧ X.cell? a6 = some x6 ∧ X.cell? a7 = some x7 ∧ X.cell? a8 = some x8 ∧ X.cell? a9 = some x9 ∧ X.cell? a10 = some x10 ∧ Below w0.heap.size w0 X := by
  obtain ⟨k1, k2, k3, k4, k5, k6, k7, k8, k9, k10⟩ := h
  exact ⟨cell_below hb k1, cell_below hb k2, cell_below hb k3, cell_below hb k4, cell_below hb k5, cell_below hb k6, cell_below hb k7, cell_below hb k8, cell_below hb k9, cell_below hb k10, hb⟩
theorem kp10c {w0 X : World} {a1 a2 a3 a4 a5 a6 a7 a8 a9 a10 : Addr} {x1 x2 x3 x4 x5 x6 x7 x8 x9 x10 : Value} (h : X.cell? a1 = some x1 ∧ X.cell? a2 = some x2 ∧ X.cell? a3 = some x3 ∧ X.cell? a4 = some x4 ∧ X.cell? a5 = some x5 ∧ X.cell? a6 = some x6 ∧ X.cell? a7 = some x7 ∧ X.cell? a8 = some x8 ∧ X.cell? a9 = some x9 ∧ X.cell? a10 = some x10 ∧ Below w0.heap.size w0 X) : Below w0.heap.size w0 X := by
  obtain ⟨k1, k2, k3, k4, k5, k6, k7, k8, k9, k10, k0⟩ := h
  exact k0
theorem kp10s {w0 X : World} {a1 a2 a3 a4 a5 a6 a7 a8 a9 a10 : Addr} {x1 x2 x3 x4 x5 x6 x7 x8 x9 x10 : Value} (h : w0.cell? a1 = some x1 ∧ w0.cell? a2 = some x2 ∧ w0.cell? a3 = some x3 ∧ w0.cell? a4 = some x4 ∧ w0.cell? a5 = some x5 ∧ w0.cell? a6 = some x6 ∧ w0.cell? a7 = some x7 ∧ w0.cell? a8 = some x8 ∧ w0.cell? a9 = some x9 ∧ w0.cell? a10 = some x10) (hb : Below w0.heap.size w0 X) {b : Nat} (hB : w0.heap.size ≤ b) (x y z : Value) : (((X.setCell ⟨b, 0, none⟩ x).setCell ⟨b, 1, none⟩ y).setCell ⟨b, 2, none⟩ z).cell? a1 = some x1 ∧ (((X.setCell ⟨b, 0, none⟩ x).setCell ⟨b, 1, none⟩ y).setCell ⟨b, 2, none⟩ z).cell? a2 = some x2 ∧ (((X.setCell ⟨b, 0, none⟩ x).setCell ⟨b, 1, none⟩ y).setCell ⟨b, 2, none⟩ z).cell? a3 = some x3 ∧ (((X.setCell ⟨b, 0, none⟩ x).setCell ⟨b, 1, none⟩ y).setCell ⟨b, 2, none⟩ z).cell? a4 = some x4 ∧ (((X.setCell ⟨b, 0, none⟩ x).setCell ⟨b, 1, none⟩ y).setCell ⟨b, 2, none⟩ z).cell? a5 = some x5 ∧ (((X.setCell ⟨b, 0, none⟩ x).setCell ⟨b, 1, none⟩ y).setCell ⟨b, 2, none⟩ z).cell? a6 = some x6 ∧ (((X.setCell ⟨b, 0, none⟩ x).setCell ⟨b, 1, none⟩ y).setCell ⟨b, 2, none⟩ z).cell? a7 = some x7 ∧ (((X.setCell ⟨b, 0, none⟩ x).setCell ⟨b, 1, none⟩ y).setCell ⟨b, 2, none⟩ z).cell? a8 = some x8 ∧ (((X.setCell ⟨b, 0, none⟩ x).setCell ⟨b, 1, none⟩ y).setCell ⟨b, 2, none⟩ z).cell? a9 = some x9 ∧ (((X.setCell ⟨b, 0, none⟩ x).setCell ⟨b, 1, none⟩ y).setCell ⟨b, 2, none⟩ z).cell? a10 = some x10 ∧ Below w0.heap.size w0 (((X.setCell ⟨b, 0, none⟩ x).setCell ⟨b, 1, none⟩ y).setCell ⟨b, 2, none⟩ z) :=
  kp10a h (below_set3 hb hB x y z)
theorem kp11w {w0 X Y : World} {a1 a2 a3 a4 a5 a6 a7 a8 a9 a10 a11 : Addr} {x1 x2 x3 x4 x5 x6 x7 x8 x9 x10 x11 : Value} (h : X.cell? a1 = some x1 ∧ X.cell? a2 = some x2 ∧ X.cell? a3 = some x3 ∧ X.cell? a4 = some x4 ∧ X.cell? a5 = some x5 ∧ X.cell? a6 = some x6 ∧ X.cell? a7 = some x7 ∧ X.cell? a8 = some x8 ∧ X.cell? a9 = some x9 ∧ X.cell? a10 = some x10 ∧ X.cell? a11 = some x11 ∧ Below w0.heap.size w0 X) (hb : Below X.heap.size X Y) : Y.cell? a1 = some x1 ∧ Y.cell? a2 = some x2 ∧ Y.cell? a3 = some x3 ∧ Y.cell? a4 = some x4 ∧ Y.cell? a5 = some x5 ∧ Y.cell? a6 = some x6 ∧ Y.cell? a7 = some x7 ∧ Y.cell? a8 = some x8 ∧ Y.cell? a9 = some x9 ∧ Y.cell? a10 = some x10 ∧ Y.cell? a11 = some x11 ∧ Below w0.heap.size w0 Y := by
  obtain ⟨k1, k2, k3, k4, k5, k6, k7, k8, k9, k10, k11, k0⟩ := h
  exact ⟨cell_below hb k1, cell_below hb k2, cell_below hb k3, cell_below hb k4, cell_below hb k5, cell_below hb k6, cell_below hb k7, cell_below hb k8, cell_below hb k9, cell_below hb k10, cell_below hb k11, below_then k0 hb⟩
theorem kp11a {w0 X : World} {a1 a2 a3 a4 a5 a6 a7 a8 a9 a10 a11 : Addr} {x1 x2 x3 x4 x5 x6 x7 x8 x9 x10 x11 : Value} (h : w0.cell? a1 = some x1 ∧ w0.cell? a2 = some x2 ∧ w0.cell? a3 = some x3 ∧ w0.cell? a4 = some x4 ∧ w0.cell? a5 = some x5 ∧ w0.cell? a6 = some x6 ∧ w0.cell? a7 = some x7 ∧ w0.cell? a8 = some x8 ∧ w0.cell? a9 = some x9 ∧ w0.cell? a10 = some x10 ∧ w0.cell? a11 = some x11) (hb : Below w0.heap.size w0 X) : X.cell? a1 = some x1 ∧ X.cell? a2 = some x2 ∧ X.cell? a3 = some x3 ∧ X.cell? a4 = some x4 ∧ X.cell? a5 = some x5 ∧ X.cell? a6 = some x6 ∧ X.cell? a7 = some x7 ∧ X.cell? a8 = some x8 ∧ X.cell? a9 = some x9 ∧ X.cell? a10 = some x10 ∧ X.cell? a11 = some x11 ∧ Below w0.heap.size w0 X := by
  obtain ⟨k1, k2, k3, k4, k5, k6, k7, k8, k9, k10, k11⟩ := h
  exact ⟨cell_below hb k1, cell_below hb k2, cell_below hb k3, cell_below hb k4, cell_below hb k5, cell_below hb k6, cell_below hb k7, cell_below hb k8, cell_below hb k9, cell_below hb k10, cell_below hb k11, hb⟩
theorem kp11c {w0 X : World} {a1 a2 a3 a4 a5 a6 a7 a8 a9 a10 a11 : Addr} {x1 x2 x3 x4 x5 x6 x7 x8 x9 x10 x11 : Value} (h : X.cell? a1 = some x1 ∧ X.cell? a2 = some x2 ∧ X.cell? a3 = some x3 ∧ X.cell? a4 = some x4 ∧ X.cell? a5 = some x5 ∧ X.cell? a6 = some x6 ∧ X.cell? a7 = some x7 ∧ X.cell? a8 = some x8 ∧ X.cell? a9 = some x9 ∧ X.cell? a10 = some x10 ∧ X.cell? a11 = some x11 ∧ Below w0.heap.size w0 X) : Below w0.heap.size w0 X := by
  obtain ⟨k1, k2, k3, k4, k5, k6, k7, k8, k9, k10, k11, k0⟩ := h
  exact k0
theorem kp11s {w0 X : World} {a1 a2 a3 a4 a5 a6 a7 a8 a9 a10 a11 : Addr} {x1 x2 x3 x4 x5 x6 x7 x8 x9 x10 x11 : Value} (h : w0.cell? a1 = some x1 ∧ w0.cell? a2 = some x2 ∧ w0.cell? a3 = some x3 ∧ w0.cell? a4 = some x4 ∧ w0.cell? a5 = some x5 ∧ w0.cell? a6 = some x6 ∧ w0.cell? a7 = some x7 ∧ w0.cell? a8 = some x8 ∧ w0.cell? a9 = some x9 ∧ w0.cell? a10 = some x10 ∧ w0.cell? a11 = some x11) (hb : Below w0.heap.size w0 X) {b : Nat} (hB : w0.heap.size ≤ b) (x y z : Value) : (((X.setCell ⟨b, 0, none⟩ x).setCell ⟨b, 1, none⟩ y).setCell ⟨b, 2, none⟩ z).cell? a1 = some x1 ∧ (((X.setCell ⟨b, 0, none⟩ x).setCell ⟨b, 1, none⟩ y).setCell ⟨b, 2, none⟩ z).cell? a2 = some x2 ∧ (((X.setCell ⟨b, 0, none⟩ x).setCell ⟨b, 1, none⟩ y).setCell ⟨b, 2, none⟩ z).cell? a3 = some x3 ∧ (((X.setCell ⟨b, 0, none⟩ x).setCell ⟨b, 1, none⟩ y).setCell ⟨b, 2, none⟩ z).cell? a4 = some x4 ∧ (((X.setCell ⟨b, 0, none⟩ x).setCell ⟨b, 1, none⟩ y).setCell ⟨b, 2, none⟩ z).cell? a5 = some x5 ∧ (((X.setCell ⟨b, 0, none⟩ x).setCell ⟨b, 1, none⟩ y).setCell ⟨b, 2, none⟩ z).cell? a6 = some x6 ∧ (((X.setCell ⟨b, 0, none⟩ x).setCell ⟨b, 1, none⟩ y).setCell ⟨b, 2, none⟩ z).cell? a7 = some x7 ∧ (((X.setCell ⟨b, 0, none⟩ x).setCell ⟨b, 1, none⟩ y).setCell ⟨b, 2, none⟩ z).cell? a8 = some x8 ∧ (((X.setCell ⟨b, 0, none⟩ x).setCell ⟨b, 1, none⟩ y).setCell ⟨b, 2, none⟩ z).cell? a9 = some x9 ∧ (((X.setCell ⟨b, 0, none⟩ x).setCell ⟨b, 1, none⟩ y).setCell ⟨b, 2, none⟩ z).cell? a10 = some x10 ∧ (((X.setCell ⟨b, 0, none⟩ x).setCell ⟨b, 1, none⟩ y).setCell ⟨b, 2, none⟩ z).cell? a11 = some x11 ∧ Below w0.heap.size w0 (((X.setCell ⟨b, 0, none⟩ x).setCell ⟨b, 1, none⟩ y).setCell ⟨b, 2, none⟩ z) :=
  kp11a h (below_set3 hb hB x y z)
theorem kp12w {w0 X Y : World} {a1 a2 a3 a4 a5 a6 a7 a8 a9 a10 a11 a12 : Addr} {x1 x2 x3 x4 x5 x6 x7 x8 x9 x10 x11 x12 : Value} (h : X.cell? a1 = some x1 ∧ X.cell? a2 = some x2 ∧ X.cell? a3 = some x3 ∧ X.cell? a4 = some x4 ∧ X.cell? a5 = some x5 ∧ X.cell? a6 = some x6 ∧ X.cell? a7 = some x7 ∧ X.cell? a8 = some x8 ∧ X.cell? a9 = some x9 ∧ X.cell? a10 = some x10 ∧ X.cell? a11 = some x11 ∧ X.cell? a12 = some x12 ∧ Below w0.heap.size w0 X) (hb : Below X.heap.size X Y) : Y.cell? a1 = some x1 ∧ Y.cell? a2 = some x2 ∧ Y.cell? a3 = some x3 ∧ Y.cell? a4 = some x4 ∧ Y.cell? a5 = some x5 ∧ Y.cell? a6 = some x6 ∧ Y.cell? a7 = some x7 ∧ Y.cell? a8 = some x8 ∧ Y.cell? a9 = some x9 ∧ Y.cell? a10 = some x10 ∧ Y.cell? a11 = some x11 ∧ Y.cell? a12 = some x12 ∧ Below w0.heap.size w0 Y := by
  obtain ⟨k1, k2, k3, k4, k5, k6, k7, k8, k9, k10, k11, k12, k0⟩ := h
  exact ⟨cell_below hb k1, cell_below hb k2, cell_below hb k3, cell_below hb k4, cell_below hb k5, cell_below hb k6, cell_below hb k7, cell_below hb k8, cell_below hb k9, cell_below hb k10, cell_below hb k11, cell_below hb k12, below_then k0 hb⟩
theorem kp12a {w0 X : World} {a1 a2 a3 a4 a5 a6 a7 a8 a9 a10 a11 a12 : Addr} {x1 x2 x3 x4 x5 x6 x7 x8 x9 x10 x11 x12 : Value} (h : w0.cell? a1 = some x1 ∧ w0.cell? a2 = some x2 ∧ w0.cell? a3 = some x3 ∧ w0.cell? a4 = some x4 ∧ w0.cell? a5 = some x5 ∧ w0.cell? a6 = some x6 ∧ w0.cell? a7 = some x7 ∧ w0.cell? a8 = some x8 ∧ w0.cell? a9 = some x9 ∧ w0.cell? a10 = some x10 ∧ w0.cell? a11 = some x11 ∧ w0.cell? a12 = some x12) (hb : Below w0.heap.size w0 X) : X.cell? a1 = some x1 ∧ X.cell? a2 = some x2 ∧ X.cell? a3 = some x3 ∧ X.cell? a4 = some x4 ∧ X.cell? a5 = some x5 ∧ X.cell? a6 = some x6 ∧ X.cell? a7 = some x7 ∧ X.cell? a8 = some x8 ∧ X.cell? a9 = some x9 ∧ X.cell? a10 = some x10 ∧ X.cell? a11 = some x11 ∧ X.cell? a12 = some x12 ∧ Below w0.heap.size w0 X := by
  obtain ⟨k1, k2, k3, k4, k5, k6, k7, k8, k9, k10, k11, k12⟩ := h
  exact ⟨cell_below hb k1, cell_below hb k2, cell_below hb k3, cell_below hb k4, cell_below hb k5, cell_below hb k6, cell_below hb k7, cell_below hb k8, cell_below hb k9, cell_below hb k10, cell_below hb k11, cell_below hb k12, hb⟩
theorem kp12c {w0 X : World} {a1 a2 a3 a4 a5 a6 a7 a8 a9 a10 a11 a12 : Addr} {x1 x2 x3 x4 x5 x6 x7 x8 x9 x10 x11 x12 : Value} (h : X.cell? a1 = some x1 ∧ X.cell? a2 = some x2 ∧ X.cell? a3 = some x3 ∧ X.cell? a4 = some x4 ∧ X.cell? a5 = some x5 ∧ X.cell? a6 = some x6 ∧ X.cell? a7 = some x7 ∧ X.cell? a8 = some x8 ∧ X.cell? a9 = some x9 ∧ X.cell? a10 = some x10 ∧ X.cell? a11 = some x11 ∧ X.cell? a12 = some x12 ∧ Below w0.heap.size w0 X) : Below w0.heap.size w0 X := by
  obtain ⟨k1, k2, k3, k4, k5, k6, k7, k8, k9, k10, k11, k12, k0⟩ := h
  exact k0
theorem kp12s {w0 X : World} {a1 a2 a3 a4 a5 a6 a7 a8 a9 a10 a11 a12 : Addr} {x1 x2 x3 x4 x5 x6 x7 x8 x9 x10 x11 x12 : Value} (h : w0.cell? a1 = some x1 ∧ w0.cell? a2 = some x2 ∧ w0.cell? a3 = some x3 ∧ w0.cell? a4 = some x4 ∧ w0.cell? a5 = some x5 ∧ w0.cell? a6 = some x6 ∧ w0.cell? a7 = some x7 ∧ w0.cell? a8 = some x8 ∧ w0.cell? a9 = some x9 ∧ w0.cell? a10 = some x10 ∧ w0.cell? a11 = some x11 ∧ w0.cell? a12 = some x12) (hb : Below w0.heap.size w0 X) {b : Nat} (hB : w0.heap.size ≤ b) (x y z : Value) : (((X.setCell ⟨b, 0, none⟩ x).setCell ⟨b, 1, none⟩ y).setCell ⟨b, 2, none⟩ z).cell? a1 = some x1 ∧ (((X.setCell ⟨b, 0, none⟩ x).setCell ⟨b, 1, none⟩ y).setCell ⟨b, 2, none⟩ z).cell? a2 = some x2 ∧ (((X.setCell ⟨b, 0, none⟩ x).setCell ⟨b, 1, none⟩ y).setCell ⟨b, 2, none⟩ z).cell? a3 = some x3 ∧ (((X.setCell ⟨b, 0, none⟩ x).setCell ⟨b, 1, none⟩ y).setCell ⟨b, 2, none⟩ z).cell? a4 = some x4 ∧ (((X.setCell ⟨b, 0, none⟩ x).setCell ⟨b, 1, none⟩ y).setCell ⟨b, 2, none⟩ z).cell? a5 = some x5 ∧ (((X.setCell ⟨b, 0, none⟩ x).setCell ⟨b, 1, none⟩ y).setCell ⟨b, 2, none⟩ z).cell? a6 = some x6 ∧ (((X.setCell ⟨b, 0, none⟩ x).setCell ⟨b, 1, none⟩ y).setCell ⟨b, 2, none⟩ z).cell? a7 = some x7 ∧ (((X.setCell ⟨b, 0, none⟩ x).setCell ⟨b, 1, none⟩ y).setCell ⟨b, 2, none⟩ z).cell? a8 = some x8 ∧ (((X.setCell ⟨b, 0, none⟩ x).setCell ⟨b, 1, none⟩ y).setCell ⟨b, 2, none⟩ z).cell? a9 = some x9 ∧ (((X.setCell ⟨b, 0, none⟩ x).setCell ⟨b, 1, none⟩ y).setCell ⟨b, 2, none⟩ z).cell? a10 = some x10 ∧ (((X.setCell ⟨b, 0, none⟩ x).setCell ⟨b, 1, none⟩ y).setCell ⟨b, 2, none⟩ z).cell? a11 = some x11 ∧ (((X.setCell ⟨b, 0, none⟩ x).setCell ⟨b, 1, none⟩ y).setCell ⟨b, 2, none⟩ z).cell? a12 = some x12 ∧ Below w0.heap.size w0 (((X.setCell ⟨b, 0, none⟩ x).setCell ⟨b, 1, none⟩ y).setCell ⟨b, 2, none⟩ z) :=
  kp12a h (below_set3 hb hB x y z)
theorem kp13w {w0 X Y : World} {a1 a2 a3 a4 a5 a6 a7 a8 a9 a10 a11 a12 a13 : Addr} {x1 x2 x3 x4 x5 x6 x7 x8 x9 x10 x11 x12 x13 : Value} (h : X.cell? a1 = some x1 ∧ X.cell? a2 = some x2 ∧ X.cell? a3 = some x3 ∧ X.cell? a4 = some x4 ∧ X.cell? a5 = some x5 ∧ X.cell? a6 = some x6 ∧ X.cell? a7 = some x7 ∧ X.cell? a8 = some x8 ∧ X.cell? a9 = some x9 ∧ X.cell? a10 = some x10 ∧ X.cell? a11 = some x11 ∧ X.cell? a12 = some x12 ∧ X.cell? a13 = some x13 ∧ Below w0.heap.size w0 X) (hb : Below X.heap.size X Y) : Y.cell? a1 = some x1 ∧ Y.cell? a2 = some x2 ∧ Y.cell? a3 = some x3 ∧ Y.cell? a4 = some x4 ∧ Y.cell? a5 = some x5 ∧ Y.cell? a6 = some x6 ∧ Y.cell? a7 = some x7 ∧ Y.cell? a8 = some x8 ∧ Y.cell? a9 = some x9 ∧ Y.cell? a10 = some x10 ∧ Y.cell? a11 = some x11 ∧ Y.cell? a12 = some x12 ∧ Y.cell? a13 = some x13 ∧ Below w0.heap.size w0 Y := by
  obtain ⟨k1, k2, k3, k4, k5, k6, k7, k8, k9, k10, k11, k12, k13, k0⟩ := h
  exact ⟨cell_below hb k1, cell_below hb k2, cell_below hb k3, cell_below hb k4, cell_below hb k5, cell_below hb k6, cell_below hb k7, cell_below hb k8, cell_below hb k9, cell_below hb k10, cell_below hb k11, cell_below hb k12, cell_below hb k13, below_then k0 hb⟩
theorem kp13a {w0 X : World} {a1 a2 a3 a4 a5 a6 a7 a8 a9 a10 a11 a12 a13 : Addr} {x1 x2 x3 x4 x5 x6 x7 x8 x9 x10 x11 x12 x13 : Value} (h : w0.cell? a1 = some x1 ∧ w0.cell? a2 = some x2 ∧ w0.cell? a3 = some x3 ∧ w0.cell? a4 = some x4 ∧ w0.cell? a5 = some x5 ∧ w0.cell? a6 = some x6 ∧ w0.cell? a7 = some x7 ∧ w0.cell? a8 = some x8 ∧ w0.cell? a9 = some x9 ∧ w0.cell? a10 = some x10 ∧ w0.cell? a11 = some x11 ∧ w0.cell? a12 = some x12 ∧ w0.cell? a13 = some x13) (hb : Below w0.heap.size w0 X) : X.cell? a1 = some x1 ∧ X.cell? a2 = some x2 ∧ X.cell? a3 = some x3 ∧ X.cell? a4 = some x4 ∧ X.cell? a5 = some x5 ∧ X.cell? a6 = some x6 ∧ X.cell? a7 = some x7 ∧ X.cell? a8 = some x8 ∧ X.cell? a9 = some x9 ∧ X.cell? a10 = some x10 ∧ X.cell? a11 = some x11 ∧ X.cell? a12 = some x12 ∧ X.cell? a13 = some x13 ∧ Below w0.heap.size w0 X := by
  obtain ⟨k1, k2, k3, k4, k5, k6, k7, k8, k9, k10, k11, k12, k13⟩ := h
  exact ⟨cell_below hb k1, cell_below hb k2, cell_below hb k3, cell_below hb k4, cell_below hb k5, cell_below hb k6, cell_below hb k7, cell_below hb k8, cell_below hb k9, cell_below hb k10, cell_below hb k11, cell_below hb k12, cell_below hb k13, hb⟩
theorem kp13c {w0 X : World} {a1 a2 a3 a4 a5 a6 a7 a8 a9 a10 a11 a12 a13 : Addr} {x1 x2 x3 x4 x5 x6 x7 x8 x9 x10 x11 x12 x13 : Value} (h : X.cell? a1 = some x1 ∧ X.cell? a2 = some x2 ∧ X.cell? a3 = some x3 ∧ X.cell? a4 = some x4 ∧ X.cell? a5 = some x5 ∧ X.cell? a6 = some x6 ∧ X.cell? a7 = some x7 ∧ X.cell? a8 = some x8 ∧ X.cell? a9 = some x9 ∧ X.cell? a10 = some x10 ∧ X.cell? a11 = some x11 ∧ X.cell? a12 = some x12 ∧ X.cell? a13 = some x13 ∧ Below w0.heap.size w0 X) : Below w0.heap.size w0 X := by
  obtain ⟨k1, k2, k3, k4, k5, k6, k7, k8, k9, k10, k11, k12, k13, k0⟩ := h
  exact k0
theorem kp13s {w0 X : World} {a1 a2 a3 a4 a5 a6 a7 a8 a9 a10 a11 a12 a13 : Addr} {x1 x2 x3 x4 x5 x6 x7 x8 x9 x10 x11 x12 x13 : Value} (h : w0.cell? a1 = some x1 ∧ w0.cell? a2 = some x2 ∧ w0.cell? a3 = some x3 ∧ w0.cell? a4 = some x4 ∧ w0.cell? a5 = some x5 ∧ w0.cell? a6 = some x6 ∧ w0.cell? a7 = some x7 ∧ w0.cell? a8 = some x8 ∧ w0.cell? a9 = some x9 ∧ w0.cell? a10 = some x10 ∧ w0.cell? a11 = some x11 ∧ w0.cell? a12 = some x12 ∧ w0.cell? a13 = some x13) (hb : Below w0.heap.size w0 X) {b : Nat} (hB : w0.heap.size ≤ b) (x y z : Value) : (((X.setCell ⟨b, 0, none⟩ x).setCell ⟨b, 1, none⟩ y).setCell ⟨b, 2, none⟩ z).cell? a1 = some x1 ∧ (((X.setCell ⟨b, 0, none⟩ x).setCell ⟨b, 1, none⟩ y).setCell ⟨b, 2, none⟩ z).cell? a2 = some x2 ∧ (((X.setCell ⟨b, 0, none⟩ x).setCell ⟨b, 1, none⟩ y).setCell ⟨b, 2, none⟩ z).cell? a3 = some x3 ∧ (((X.setCell ⟨b, 0, none⟩ x).setCell ⟨b, 1, none⟩ y).setCell ⟨b, 2, none⟩ z).cell? a4 = some x4 ∧ (((X.setCell ⟨b, 0, none⟩ x).setCell ⟨b, 1, none⟩ y).setCell ⟨b, 2, none⟩ z).cell? a5 = some x5 ∧ (((X.setCell ⟨b, 0, none⟩ x).setCell ⟨b, 1, none⟩ y).setCell ⟨b, 2, none⟩ z).cell? a6 = some x6 ∧ (((X.setCell ⟨b, 0, none⟩ x).setCell ⟨b, 1, none⟩ y).setCell ⟨b, 2, none⟩ z).cell? a7 = some x7 ∧ (((X.setCell ⟨b, 0, none⟩ x).setCell ⟨b, 1, none⟩ y).setCell ⟨b, 2, none⟩ z).cell? a8 = some x8 ∧ (((X.setCell ⟨b, 0, none⟩ x).setCell ⟨b, 1, none⟩ y).setCell ⟨b, 2, none⟩ z).cell? a9 = some x9 ∧ (((X.setCell ⟨b, 0, none⟩ x).setCell ⟨b, 1, none⟩ y).setCell ⟨b, 2, none⟩ z).cell? a10 = some x10 ∧ (((X.setCell ⟨b, 0, none⟩ x).setCell ⟨b, 1, none⟩ y).setCell ⟨b, 2, none⟩ z).cell? a11 = some x11 ∧ (((X.setCell ⟨b, 0, none⟩ x).setCell ⟨b, 1, none⟩ y).setCell ⟨b, 2, none⟩ z).cell? a12 = some x12 ∧ (((X.setCell ⟨b, 0, none⟩ x).setCell ⟨b, 1, none⟩ y).setCell ⟨b, 2, none⟩ z).cell? a13 = some x13 ∧ Below w0.heap.size w0 (((X.setCell ⟨b, 0, none⟩ x).setCell ⟨b, 1, none⟩ y).setCell ⟨b, 2, none⟩ z) :=
  kp13a h (below_set3 hb hB x y z)
theorem kp14w {w0 X Y : World} {a1 a2 a3 a4 a5 a6 a7 a8 a9 a10 a11 a12 a13 a14 : Addr} {x1 x2 x3 x4 x5 x6 x7 x8 x9 x10 x11 x12 x13 x14 : Value} (h : X.cell? a1 = some x1 ∧ X.cell? a2 = some x2 ∧ X.cell? a3 = some x3 ∧ X.cell? a4 = some x4 ∧ X.cell? a5 = some x5 ∧ X.cell? a6 = some x6 ∧ X.cell? a7 = some x7 ∧ X.cell? a8 = some x8 ∧ X.cell? a9 = some x9 ∧ X.cell? a10 = some x10 ∧ X.cell? a11 = some x11 ∧ X.cell? a12 = some x12 ∧ X.cell? a13 = some x13 ∧ X.cell? a14 = some x14 ∧ Below w0.heap.size w0 X) (hb : Below X.heap.size X Y) : Y.cell? a1 = some x1 ∧ Y.cell? a2 = some x2 ∧ Y.cell? a3 = some x3 ∧ Y.cell? a4 = some x4 ∧ Y.cell? a5 = some x5 ∧ Y.cell? a6 = some x6 ∧ Y.cell? a7 = some x7 ∧ Y.cell? a8 = some x8 ∧ Y.cell? a9 = some x9 ∧ Y.cell? a10 = some x10 ∧ Y.cell? a11 = some x11 ∧ Y.cell? a12 = some x12 ∧ Y.cell? a13 = some x13 ∧ Y.cell? a14 = some x14 ∧ Below w0.heap.size w0 Y := by
  obtain ⟨k1, k2, k3, k4, k5, k6, k7, k8, k9, k10, k11, k12, k13, k14, k0⟩ := h
  exact ⟨cell_below hb k1, cell_below hb k2, cell_below hb k3, cell_below hb k4, cell_below hb k5, cell_below hb k6, cell_below hb k7, cell_below hb k8, cell_below hb k9, cell_below hb k10, cell_below hb k11, cell_below hb k12, cell_below hb k13, cell_below hb k14, below_then k0 hb⟩
theorem kp14a {w0 X : World} {a1 a2 a3 a4 a5 a6 a7 a8 a9 a10 a11 a12 a13 a14 : Addr} {x1 x2 x3 x4 x5 x6 x7 x8 x9 x10 x11 x12 x13 x14 : Value} (h : w0.cell? a1 = some x1 ∧ w0.cell? a2 = some x2 ∧ w0.cell? a3 = some x3 ∧ w0.cell? a4 = some x4 ∧ w0.cell? a5 = some x5 ∧ w0.cell? a6 = some x6 ∧ w0.cell? a7 = some x7 ∧ w0.cell? a8 = some x8 ∧ w0.cell? a9 = some x9 ∧ w0.cell? a10 = some x10 ∧ w0.cell? a11 = some x11 ∧ w0.cell? a12 = some x12 ∧ w0.cell? a13 = some x13 ∧ w0.cell? a14 = some x14) (hb : Below w0.heap.size w0 X) : X.cell? a1 = some x1 ∧ X.cell? a2 = some x2 ∧ X.cell? a3 = some x3 ∧ X.cell? a4 = some x4 ∧ X.cell? a5 = some x5 ∧ X.cell? a6 = some x6 ∧ X.cell? a7 = some x7 ∧ X.cell? a8 = some x8 ∧ X.cell? a9 = some x9 ∧ X.cell? a10 = some x10 ∧ X.cell? a11 = some x11 ∧ X.cell? a12 = some x12 ∧ X.cell? a13 = some x13 ∧ X.cell? a14 = some x14 ∧ Below w0.heap.size w0 X := by
  obtain ⟨k1, k2, k3, k4, k5, k6, k7, k8, k9, k10, k11, k12, k13, k14⟩ := h
  exact ⟨cell_below hb k1, cell_below hb k2, cell_below hb k3, cell_below hb k4, cell_below hb k5, cell_below hb k6, cell_below hb k7, cell_below hb k8, cell_below hb k9, cell_below hb k10, cell_below hb k11, cell_below hb k12, cell_below hb k13, cell_below hb k14, hb⟩
theorem kp14c {w0 X : World} {a1 a2 a3 a4 a5 a6 a7 a8 a9 a10 a11 a12 a13 a14 : Addr} {x1 x2 x3 x4 x5 x6 x7 x8 x9 x10 x11 x12 x13 x14 : Value} (h : X.cell? a1 = some x1 ∧ X.cell? a2 = some x2 ∧ X.cell? a3 = some x3 ∧ X.cell? a4 = some x4 ∧ X.cell? a5 = some x5 ∧ X.cell? a6 = some x6 ∧ X.cell? a7 = some x7 ∧ X.cell? a8 = some x8 ∧ X.cell? a9 = some x9 ∧ X.cell? a10 = some x10 ∧ X.cell? a11 = some x11 ∧ X.cell? a12 = some x12 ∧ X.cell? a13 = some x13 ∧ X.cell? a14 = some x14 ∧ Below w0.heap.size w0 X) : Below w0.heap.size w0 X := by
  obtain ⟨k1, k2, k3, k4, k5, k6, k7, k8, k9, k10, k11, k12, k13, k14, k0⟩ := h
  exact k0
theorem kp14s {w0 X : World} {a1 a2 a3 a4 a5 a6 a7 a8 a9 a10 a11 a12 a13 a14 : Addr} {x1 x2 x3 x4 x5 x6 x7 x8 x9 x10 x11 x12 x13 x14 : Value} (h : w0.cell? a1 = some x1 ∧ w0.cell? a2 = some x2 ∧ w0.cell? a3 = some x3 ∧ w0.cell? a4 = some x4 ∧ w0.cell? a5 = some x5 ∧ w0.cell? a6 = some x6 ∧ w0.cell? a7 = some x7 ∧ w0.cell? a8 = some x8 ∧ w0.cell? a9 = some x9 ∧ w0.cell? a10 = some x10 ∧ w0.cell? a11 = some x11 ∧ w0.cell? a12 = some x12 ∧ w0.cell? a13 = some x13 ∧ w0.cell? a14 = some x14) (hb : Below w0.heap.size w0 X) {b : Nat} (hB : w0.heap.size ≤ b) (x y z : Value) : (((X.setCell ⟨b, 0, none⟩ x).setCell ⟨b, 1, none⟩ y).setCell ⟨b, 2, none⟩ z).cell? a1 = some x1 ∧ (((X.setCell ⟨b, 0, none⟩ x).setCell ⟨b, 1, none⟩ y).setCell ⟨b, 2, none⟩ z).cell? a2 = some x2 ∧ (((X.setCell ⟨b, 0, none⟩ x).setCell ⟨b, 1, none⟩ y).setCell ⟨b, 2, none⟩ z).cell? a3 = some x3 ∧ (((X.setCell ⟨b, 0, none⟩ x).setCell ⟨b, 1, none⟩ y).setCell ⟨b, 2, none⟩ z).cell? a4 = some x4 ∧ (((X.setCell ⟨b, 0, none⟩ x).setCell ⟨b, 1, none⟩ y).setCell ⟨b, 2, none⟩ z).cell? a5 = some x5 ∧ (((X.setCell ⟨b, 0, none⟩ x).setCell ⟨b, 1, none⟩ y).setCell ⟨b, 2, none⟩ z).cell? a6 = some x6 ∧ (((X.setCell ⟨b, 0, none⟩ x).setCell ⟨b, 1, none⟩ y).setCell ⟨b, 2, none⟩ z).cell? a7 = some x7 ∧ (((X.setCell ⟨b, 0, none⟩ x).setCell ⟨b, 1, none⟩ y).setCell ⟨b, 2, none⟩ z).cell? a8 = some x8 ∧ (((X.setCell ⟨b, 0, none⟩ x).setCell ⟨b, 1, none⟩ y).setCell ⟨b, 2, none⟩ z).cell? a9 = some x9 ∧ (((X.setCell ⟨b, 0, none⟩ x).setCell ⟨b, 1, none⟩ y).setCell ⟨b, 2, none⟩ z).cell? a10 = some x10 ∧ (((X.setCell ⟨b, 0, none⟩ x).setCell ⟨b, 1, none⟩ y).setCell ⟨b, 2, none⟩ z).cell? a11 = some x11 ∧ (((X.setCell ⟨b, 0, none⟩ x).setCell ⟨b, 1, none⟩ y).setCell ⟨b, 2, none⟩ z).cell? a12 = some x12 ∧ (((X.setCell ⟨b, 0, none⟩ x).setCell ⟨b, 1, none⟩ y).setCell ⟨b, 2, none⟩ z).cell? a13 = some x13 ∧ (((X.setCell ⟨b, 0, none⟩ x).setCell ⟨b, 1, none⟩ y).setCell ⟨b, 2, none⟩ z).cell? a14 = some x14 ∧ Below w0.heap.size w0 (((X.setCell ⟨b, 0, none⟩ x).setCell ⟨b, 1, none⟩ y).setCell ⟨b, 2, none⟩ z) :=
  kp14a h (below_set3 hb hB x y z)
end Go.Proofs.YtbhkibilnmoljaaGreat
namespace Go.Proofs.YtbhkibilnmoljaaGreat
set_option linter.unusedVariables false
set_option linter.unusedSimpArgs false
open Go.RowKit

theorem redTo_step {A : Mx} {i r k e : Nat} {f : Rat} (he : k ≤ e) : upd (redTo A i r k e f) i e (A i e - f * A r e) = redTo A i r k (e + 1) f := by
  funext a b
  unfold upd redTo
  by_cases h1 : a = i ∧ b = e
  · obtain ⟨rfl, rfl⟩ := h1
    rw [if_pos ⟨rfl, rfl⟩, if_pos ⟨rfl, he, Nat.lt_succ_self _⟩]
  · rw [if_neg h1]
    by_cases h2 : a = i ∧ k ≤ b ∧ b < e
    · rw [if_pos h2, if_pos ⟨h2.1, h2.2.1, by omega⟩]
    · rw [if_neg h2, if_neg (fun h3 => by have : ¬ (b = e) := fun h => h1 ⟨h3.1, h⟩
                                          exact h2 ⟨h3.1, h3.2.1, by omega⟩)]
theorem TabW.putG {w : World} {T n m wd rk : Nat} {vR : Value} {rs : List Value} {A : Mx} {d : Rat} (h : TabW w T vR rs n m A wd rk d) {i j : Nat} (hi : i < rs.length) (hj : j < m) {x y z : Value} {r : Rat} (hf : FracC w (.agg #[x, y, z]) r) :
    w.grownBy (((w.setCell (ptr rs[i] (j * 3)) x).setCell (ptr rs[i] (j * 3 + 1)) y).setCell (ptr rs[i] (j * 3 + 2)) z) rs[i].ownBlock ∧ NoLimb w rs[i] := by
  have hr := h.row i hi
  exact ⟨(hr.put (i := j) (by rw [rowL_length]; exact hj) hf).2, hr.noLimb⟩


set_option maxRecDepth 100000 in
set_option maxHeartbeats 3200000 in
theorem reduce_lin (T : Nat) (vR : Value) (rs : List Value) (n m : Nat) (A : Mx) (wd rk : Nat) (d : Rat) (i r k : Nat) (vf : Value) (f : Rat) (w : World) (h : TabW w T vR rs n m A wd rk d) (hf : FracC w vf f)
    (hi : i < n) (hr : r < n) (hir : i ≠ r) (hk : k ≤ m) (hn : n ≤ 1000) (hm : m ≤ 1000) (hff : fits f) (hA : ∀ a b, a < n → b < m → fits (A a b)) (hfit : ∀ j, k ≤ j → j < m → fits (f * A r j) ∧ fits (A i j - f * A r j)) :
    Calls Tryz.prog 55 #[.pointer (some ⟨T, 0, none⟩), .int .i64 i, .int .i64 r, .int .i64 k, vf] w
      fun e w' => e = .returned (.tuple #[]) ∧ TabW w' T vR rs n m (redTo A i r k m f) wd rk d ∧ Below T w w' := by
  have hrl := h.rl
  have hi' : i < rs.length := by omega
  have hr' : r < rs.length := by omega
  obtain ⟨t0, x0, y0, rfl, ⟨p1, p2, p3, rfl, _⟩, ⟨s1, s2, s3, rfl, _⟩⟩ := id hf.isF
  obtain ⟨gi, hgi, _, _, hgiw, _⟩ := (h.row i hi').blk (by rw [rowL_length]; exact h.mp)
  have slR := h.own.sl
  have lnR : slen vR = n := by rw [h.own.len, hrl]
  have slr := (h.row r hr').sl
  have sli := (h.row i hi').sl
  have lnr : slen rs[r] = m := by rw [(h.row r hr').fracs.len, rowL_length]
  have lni : slen rs[i] = m := by rw [(h.row i hi').fracs.len, rowL_length]
  have hTw := h.lt
  have hbx := below_alloc w (.cells #[.bool t0, .slice p1 p2 p3, .slice s1 s2 s3] 25)
  have H1 := Lib.hid (h.below hbx)
  have HF := Lib.hid (hf.below hbx)
  have HC := Lib.hid (C3.new w 25 (.bool t0) (.slice p1 p2 p3) (.slice s1 s2 s3))
  have HB1 := Lib.hid (hbx.mono (Nat.le_of_lt hTw))
  have HA := Lib.hid hA
  have HFIT := Lib.hid hfit
  have HIR := Lib.hid hir
  have HGI := Lib.hid hgi
  have HRL := Lib.hid hrl
  clear hbx h hf hA hfit hir hgi hrl
  obtain ⟨ci, hci⟩ : ∃ ci, rs[i] = ci := ⟨_, rfl⟩
  obtain ⟨cr, hcr⟩ : ∃ cr, rs[r] = cr := ⟨_, rfl⟩
  rw [hci] at sli lni
  rw [hcr] at slr lnr
  have HCI := Lib.hid hci
  have HCR := Lib.hid hcr
  clear hci hcr
  go_enter Tryz.func55, Tryz.ntmps55
  go_wp2_with fail
  generalize w.alloc (.cells #[.bool t0, .slice p1 p2 p3, .slice s1 s2 s3] 25) = W1 at *
  go_loopg [10] (m - k) (fun g u10 wr => ∃ (j : Nat), k ≤ j ∧ j ≤ m ∧ g = m - j ∧ u10 = .int .i64 j ∧ TabW wr T vR rs n m (redTo A i r k j f) wd rk d ∧ C3 wr w.heap.size (.bool t0) (.slice p1 p2 p3) (.slice s1 s2 s3) ∧ FracC wr (.agg #[.bool t0, .slice p1 p2 p3, .slice s1 s2 s3]) f ∧ Below T w wr)
  case atStart => exact ⟨k, Nat.le_refl _, hk, rfl, rfl, by rw [redTo_start]; exact H1.out, HC.out, HF.out, HB1.out⟩
  case round =>
    obtain ⟨j, hkj, hjm, hg, rfl, hT, hC, hFr, hbr⟩ := hrel
    obtain ⟨w2, hw2⟩ : ∃ w2, w2 = wr := ⟨_, rfl⟩
    subst hw2
    clear H1 HC HF HB1
    have hrl := HRL.out
    have hi' : i < rs.length := by omega
    have hr' : r < rs.length := by omega
    obtain ⟨va, vb, hbox, _, _⟩ := hT.box
    have T0 : w2.cell? ⟨T, 0, none⟩ = some vR := hbox.cell 0 rfl
    have c1 := hT.own.cell i hi'
    have c2 := hT.own.cell r hr'
    rw [HCI.out] at c1
    rw [HCR.out] at c2
    clear hbox hrl
    have HT := Lib.hid hT
    have HC := Lib.hid hC
    have HF := Lib.hid hFr
    have HBR := Lib.hid hbr
    have HG := Lib.hid hg
    have i1 : (0 : Int) ≤ (i : Int) := by omega
    have i2 : (i : Int) < (n : Nat) := by omega
    have i3 : (0 : Int) ≤ (r : Int) := by omega
    have i4 : (r : Int) < (n : Nat) := by omega
    have i5 : (0 : Int) ≤ (j : Int) := by omega
    by_cases hj : j < m
    · have i6 : (j : Int) < (m : Nat) := by omega
      obtain ⟨ea, eb, g1, g2, g3, g4, g5⟩ := hT.elem hr' hj
      rw [HCR.out, redTo_row HIR.out] at g1
      rw [HCR.out] at g2 g3
      rw [redTo_row HIR.out] at g4 g5
      have HR : Hid (FracC w2 (.agg #[.bool (decide (A r j < 0)), ea, eb]) (A r j)) := Lib.hid ⟨ea, eb, rfl, g4, g5⟩
      obtain ⟨ea1, ea2, ea3, rfl, _⟩ := g4.v.sl
      obtain ⟨eb1, eb2, eb3, rfl, _⟩ := g5.v.sl
      obtain ⟨_, q1, q2, q3, _, _, _⟩ := hC
      have S0 := Lib.hid (And.intro T0 (And.intro c2 (And.intro g1 (And.intro g2 (And.intro g3 (And.intro q1 (And.intro q2 q3)))))))
      have HFA := Lib.hid (HA.out r j hr hj)
      have HFI := Lib.hid (HA.out i j hi hj)
      have HFP := Lib.hid (HFIT.out j hkj hj).1
      have HFS := Lib.hid (HFIT.out j hkj hj).2
      have tok1 : True := trivial
      clear hT hFr hbr g4 g5 hg
      go_wp2_with fail
      go_cut [11] (fun u11 wy => ∃ (b11 : Nat) (t' : Bool) (x' y' : Value), u11 = .pointer (some ⟨b11, 0, none⟩) ∧ C3 wy b11 (.bool t') x' y' ∧ FracC wy (.agg #[.bool t', x', y']) (f * A r j) ∧ Below w2.heap.size w2 wy ∧ w2.heap.size ≤ b11)
      case first =>
        go_region_held3 (fun w' => w'.cell? ⟨T, 0, none⟩ = some vR ∧ w'.cell? (ptr vR r) = some cr ∧ w'.cell? (ptr cr (j * 3)) = some (.bool (decide (A r j < 0))) ∧ w'.cell? (ptr cr (j * 3 + 1)) = some (.slice ea1 ea2 ea3) ∧ w'.cell? (ptr cr (j * 3 + 2)) = some (.slice eb1 eb2 eb3) ∧ w'.cell? ⟨w.heap.size, 0, none⟩ = some (.bool t0) ∧ w'.cell? ⟨w.heap.size, 1, none⟩ = some (.slice p1 p2 p3) ∧ w'.cell? ⟨w.heap.size, 2, none⟩ = some (.slice s1 s2 s3) ∧ Below w2.heap.size w2 w') (first
          | with_reducible exact kp8a S0.out (below_drew _)
          | with_reducible exact kp8w (by assumption) (below_alloc _ _)
          | with_reducible exact kp8w (by assumption) (by assumption)
          | with_reducible exact kp8a S0.out (below_then hB32 (below_alloc _ _))
          | with_reducible exact kp8s S0.out hB32 (Nat.le_refl _) _ _ _
          | with_reducible exact kp8s S0.out hB32 hB31.size _ _ _
          | with_reducible exact kp8s S0.out (below_then hB32 (below_alloc _ _)) hB32.size _ _ _) (first
          | (go_at_call 56; (with_reducible refine (mul_can _ _ f (A r j) _ (HF.out.below (kp8c (by assumption))) (HR.out.below (kp8c (by assumption))) hff HFA.out HFP.out).mono ?_); rintro e31 w31 ⟨v31, rfl, hv31, hb31⟩
             have hB31 := below_then (kp8c (by assumption)) hb31
             have hc5 := (fun (p : Addr) hp => hb31.cell (p := p) hp)
             have hf5 := (fun (p : Addr) hp => hb31.frozen (p := p) hp)
             have zq := hb31.size
             (try simp only [sizeA, sizeD] at zq)
             (try have z1 : w2.heap.size < w31.heap.size := (by omega)))
          | (go_at_call 44; first
              | ((with_reducible refine (keep_ok _ _ (f * A r j) _ hv31).mono ?_); rintro e32 w32 ⟨v32, rfl, hv32, hb32⟩
                 obtain ⟨t32, x32, y32, rfl, ⟨a321, l321, k321, rfl, _⟩, ⟨a322, l322, k322, rfl, _⟩⟩ := hv32.isF
                 have hB32 := below_then hB31 hb32
                 have hc6 := (fun (p : Addr) hp => hb32.cell (p := p) hp)
                 have hf6 := (fun (p : Addr) hp => hb32.frozen (p := p) hp)
                 have zq2 := hb32.size
                 (try simp only [sizeA, sizeD] at zq2)
                 (try have z2 : w2.heap.size < w32.heap.size := (by omega))
                 (try have z3 : w31.heap.size < w32.heap.size := (by omega)))
              | ((with_reducible refine (keep_ok _ _ (f * A r j) _ (hv31.below (below_alloc _ _))).mono ?_); rintro e32 w32 ⟨v32, rfl, hv32, hb32⟩
                 obtain ⟨t32, x32, y32, rfl, ⟨a321, l321, k321, rfl, _⟩, ⟨a322, l322, k322, rfl, _⟩⟩ := hv32.isF
                 have hB32 := below_then (below_then hB31 (below_alloc _ _)) hb32
                 have hc6 := (fun (p : Addr) hp => hb32.cell (p := p) hp)
                 have hf6 := (fun (p : Addr) hp => hb32.frozen (p := p) hp)
                 have zq2 := hb32.size
                 (try simp only [sizeA, sizeD] at zq2)
                 (try have z2 : w2.heap.size < w32.heap.size := (by omega))
                 (try have z3 : w31.heap.size < w32.heap.size := (by omega)))))
        all_goals
          have hE := kp8c (by assumption)
          go_wp2_with fail
          go_meet
          case rel =>
            first
              | exact ⟨_, _, _, _, rfl, C3.new w32 _ _ _ _, hv32.below (below_alloc _ _), hE, hB32.size⟩
              | exact ⟨_, _, _, _, rfl, ((C3.new w31 25 (.bool false) (.slice none 0 0) (.slice none 0 0)).belowS hb32).set _ _ _, hv32.set3 ((C3.new w31 25 (.bool false) (.slice none 0 0) (.slice none 0 0)).belowS hb32) (fun z => by simp) (fun z => by simp) _ _ _, hE, hB31.size⟩
              | exact ⟨_, _, _, _, rfl, (((C3.newB (b := w2.heap.size) w2.drew 25 (.bool false) (.slice none 0 0) (.slice none 0 0) rfl).belowS hb31).belowS hb32).set _ _ _, hv32.set3 (((C3.newB (b := w2.heap.size) w2.drew 25 (.bool false) (.slice none 0 0) (.slice none 0 0) rfl).belowS hb31).belowS hb32) (fun z => by simp) (fun z => by simp) _ _ _, hE, Nat.le_refl _⟩
              | exact ⟨_, _, _, _, rfl, ((((C3.newB (b := w2.heap.size) w2 25 (.bool false) (.slice none 0 0) (.slice none 0 0) rfl).belowS (below_drew _)).belowS hb31).belowS hb32).set _ _ _, hv32.set3 ((((C3.newB (b := w2.heap.size) w2 25 (.bool false) (.slice none 0 0) (.slice none 0 0) rfl).belowS (below_drew _)).belowS hb31).belowS hb32) (fun z => by simp) (fun z => by simp) _ _ _, hE, Nat.le_refl _⟩
      case rest =>
        obtain ⟨b11, t6, x6, y6, rfl, hC6, hv6, hb6, hbb⟩ := hcut
        obtain ⟨w3, hw3⟩ : ∃ w3, w3 = wc := ⟨_, rfl⟩
        subst hw3
        have hv6' := hv6
        obtain ⟨_, _, _, hF6, ⟨a61, l61, k61, rfl, _⟩, ⟨a62, l62, k62, rfl, _⟩⟩ := hv6'.isF
        injection hF6 with hF6
        injection hF6 with hF6
        simp only [List.cons.injEq, and_true, Value.bool.injEq] at hF6
        obtain ⟨rfl, rfl, rfl⟩ := hF6
        have HP := Lib.hid hv6
        have hT3 := HT.out.below hb6
        have HT3 := Lib.hid hT3
        have HC3 := Lib.hid (HC.out.belowS hb6)
        have HF3 := Lib.hid (HF.out.below hb6)
        have HB3 := Lib.hid (below_then2 HBR.out hb6 (Nat.le_of_lt HT.out.lt))
        obtain ⟨ia, ib, h1, h2, h3, h4, h5⟩ := hT3.elem hi' hj
        rw [HCI.out, redTo_at] at h1
        rw [HCI.out] at h2 h3
        rw [redTo_at] at h4 h5
        have HI : Hid (FracC w3 (.agg #[.bool (decide (A i j < 0)), ia, ib]) (A i j)) := Lib.hid ⟨ia, ib, rfl, h4, h5⟩
        obtain ⟨ia1, ia2, ia3, rfl, _⟩ := h4.v.sl
        obtain ⟨ib1, ib2, ib3, rfl, _⟩ := h5.v.sl
        have T3 := cell_below hb6 T0
        have c3 := cell_below hb6 c1
        obtain ⟨_, e1, e2, e3, _, _, _⟩ := id hC6
        have S1 := Lib.hid (And.intro T3 (And.intro c3 (And.intro h1 (And.intro h2 (And.intro h3 (And.intro e1 (And.intro e2 e3)))))))
        have hbD := below_drew (B := w3.heap.size) w3
        have HTD := Lib.hid (hT3.below hbD)
        have hID := HI.out.below hbD
        have hPD := HP.out.below hbD
        have k1 := cell_below hbD T3
        have k2 := cell_below hbD c3
        have k3 := cell_below hbD h1
        have k4 := cell_below hbD h2
        have k5 := cell_below hbD h3
        have k6 := cell_below hbD e1
        have k7 := cell_below hbD e2
        have k8 := cell_below hbD e3
        clear T0 c1 c2 g1 g2 g3 q1 q2 q3 h4 h5 hv6 hT3 hb6 hC6 S1 S0 T3 c3 h1 h2 h3 e1 e2 e3
        go_wp2_with fail
        refine wpN.start [25] (fun w' => w'.cell? ⟨T, 0, none⟩ = some vR ∧ w'.cell? (ptr vR i) = some ci ∧ w'.cell? (ptr ci (j * 3)) = some (.bool (decide (A i j < 0))) ∧ w'.cell? (ptr ci (j * 3 + 1)) = some (.slice ia1 ia2 ia3) ∧ w'.cell? (ptr ci (j * 3 + 2)) = some (.slice ib1 ib2 ib3) ∧ w'.cell? ⟨b11, 0, none⟩ = some (.bool t6) ∧ w'.cell? ⟨b11, 1, none⟩ = some (.slice a61 l61 k61) ∧ w'.cell? ⟨b11, 2, none⟩ = some (.slice a62 l62 k62)) (by kernel_rfl) ⟨k1, k2, k3, k4, k5, k6, k7, k8⟩ (fun hHeld => ?_)
        (refine wpN.take 0 (by kernel_rfl) (by kernel_rfl) (by kernel_rfl) (by kernel_rfl) (by kernel_rfl) (by assumption) (by kernel_rfl) ?_; intro oi hoi; simp only [List.getElem?_toArray, List.getElem?_cons_succ, List.getElem?_cons_zero, Option.some.injEq] at hoi; subst hoi)
        first
          | (refine ⟨undef, fun _ _ _ h => h, Or.inr ⟨by rfl, rfl⟩, ?_⟩; simp only [Act.put, List.setIfInBounds_toArray, List.set_cons_zero, List.set_cons_succ])
          | (refine ⟨?_, fun _ _ _ h => h, Or.inl ⟨by rfl, ?_⟩, ?_⟩; rotate_left; focus (intro w hSw; (try dsimp only at hSw); go_simp; try with_reducible rfl)
             simp only [Act.put, List.setIfInBounds_toArray, List.set_cons_zero, List.set_cons_succ])
          | fail "op 0"
        (refine wpN.take 1 (by kernel_rfl) (by kernel_rfl) (by kernel_rfl) (by kernel_rfl) (by kernel_rfl) (by assumption) (by kernel_rfl) ?_; intro oi hoi; simp only [List.getElem?_toArray, List.getElem?_cons_succ, List.getElem?_cons_zero, Option.some.injEq] at hoi; subst hoi)
        first
          | (refine ⟨undef, fun _ _ _ h => h, Or.inr ⟨by rfl, rfl⟩, ?_⟩; simp only [Act.put, List.setIfInBounds_toArray, List.set_cons_zero, List.set_cons_succ])
          | (refine ⟨?_, fun _ _ _ h => h, Or.inl ⟨by rfl, ?_⟩, ?_⟩; rotate_left; focus (intro w hSw; (try dsimp only at hSw); go_simp; try with_reducible rfl)
             simp only [Act.put, List.setIfInBounds_toArray, List.set_cons_zero, List.set_cons_succ])
          | fail "op 1"
        (refine wpN.take 2 (by kernel_rfl) (by kernel_rfl) (by kernel_rfl) (by kernel_rfl) (by kernel_rfl) (by assumption) (by kernel_rfl) ?_; intro oi hoi; simp only [List.getElem?_toArray, List.getElem?_cons_succ, List.getElem?_cons_zero, Option.some.injEq] at hoi; subst hoi)
        first
          | (refine ⟨undef, fun _ _ _ h => h, Or.inr ⟨by rfl, rfl⟩, ?_⟩; simp only [Act.put, List.setIfInBounds_toArray, List.set_cons_zero, List.set_cons_succ])
          | (refine ⟨?_, fun _ _ _ h => h, Or.inl ⟨by rfl, ?_⟩, ?_⟩; rotate_left; focus (intro w hSw; (try dsimp only at hSw); go_simp; try with_reducible rfl)
             simp only [Act.put, List.setIfInBounds_toArray, List.set_cons_zero, List.set_cons_succ])
          | fail "op 2"
        (refine wpN.take 3 (by kernel_rfl) (by kernel_rfl) (by kernel_rfl) (by kernel_rfl) (by kernel_rfl) (by assumption) (by kernel_rfl) ?_; intro oi hoi; simp only [List.getElem?_toArray, List.getElem?_cons_succ, List.getElem?_cons_zero, Option.some.injEq] at hoi; subst hoi)
        first
          | (refine ⟨undef, fun _ _ _ h => h, Or.inr ⟨by rfl, rfl⟩, ?_⟩; simp only [Act.put, List.setIfInBounds_toArray, List.set_cons_zero, List.set_cons_succ])
          | (refine ⟨?_, fun _ _ _ h => h, Or.inl ⟨by rfl, ?_⟩, ?_⟩; rotate_left; focus (intro w hSw; (try dsimp only at hSw); go_simp; try with_reducible rfl)
             simp only [Act.put, List.setIfInBounds_toArray, List.set_cons_zero, List.set_cons_succ])
          | fail "op 3"
        (refine wpN.take 4 (by kernel_rfl) (by kernel_rfl) (by kernel_rfl) (by kernel_rfl) (by kernel_rfl) (by assumption) (by kernel_rfl) ?_; intro oi hoi; simp only [List.getElem?_toArray, List.getElem?_cons_succ, List.getElem?_cons_zero, Option.some.injEq] at hoi; subst hoi)
        first
          | (refine ⟨undef, fun _ _ _ h => h, Or.inr ⟨by rfl, rfl⟩, ?_⟩; simp only [Act.put, List.setIfInBounds_toArray, List.set_cons_zero, List.set_cons_succ])
          | (refine ⟨?_, fun _ _ _ h => h, Or.inl ⟨by rfl, ?_⟩, ?_⟩; rotate_left; focus (intro w hSw; (try dsimp only at hSw); go_simp; try with_reducible rfl)
             simp only [Act.put, List.setIfInBounds_toArray, List.set_cons_zero, List.set_cons_succ])
          | fail "op 4"
        (refine wpN.take 5 (by kernel_rfl) (by kernel_rfl) (by kernel_rfl) (by kernel_rfl) (by kernel_rfl) (by assumption) (by kernel_rfl) ?_; intro oi hoi; simp only [List.getElem?_toArray, List.getElem?_cons_succ, List.getElem?_cons_zero, Option.some.injEq] at hoi; subst hoi)
        first
          | (refine ⟨undef, fun _ _ _ h => h, Or.inr ⟨by rfl, rfl⟩, ?_⟩; simp only [Act.put, List.setIfInBounds_toArray, List.set_cons_zero, List.set_cons_succ])
          | (refine ⟨?_, fun _ _ _ h => h, Or.inl ⟨by rfl, ?_⟩, ?_⟩; rotate_left; focus (intro w hSw; (try dsimp only at hSw); go_simp; try with_reducible rfl)
             simp only [Act.put, List.setIfInBounds_toArray, List.set_cons_zero, List.set_cons_succ])
          | fail "op 5"
        (refine wpN.take 6 (by kernel_rfl) (by kernel_rfl) (by kernel_rfl) (by kernel_rfl) (by kernel_rfl) (by assumption) (by kernel_rfl) ?_; intro oi hoi; simp only [List.getElem?_toArray, List.getElem?_cons_succ, List.getElem?_cons_zero, Option.some.injEq] at hoi; subst hoi)
        first
          | (refine ⟨undef, fun _ _ _ h => h, Or.inr ⟨by rfl, rfl⟩, ?_⟩; simp only [Act.put, List.setIfInBounds_toArray, List.set_cons_zero, List.set_cons_succ])
          | (refine ⟨?_, fun _ _ _ h => h, Or.inl ⟨by rfl, ?_⟩, ?_⟩; rotate_left; focus (intro w hSw; (try dsimp only at hSw); go_simp; try with_reducible rfl)
             simp only [Act.put, List.setIfInBounds_toArray, List.set_cons_zero, List.set_cons_succ])
          | fail "op 6"
        (refine wpN.take 7 (by kernel_rfl) (by kernel_rfl) (by kernel_rfl) (by kernel_rfl) (by kernel_rfl) (by assumption) (by kernel_rfl) ?_; intro oi hoi; simp only [List.getElem?_toArray, List.getElem?_cons_succ, List.getElem?_cons_zero, Option.some.injEq] at hoi; subst hoi)
        first
          | (refine ⟨undef, fun _ _ _ h => h, Or.inr ⟨by rfl, rfl⟩, ?_⟩; simp only [Act.put, List.setIfInBounds_toArray, List.set_cons_zero, List.set_cons_succ])
          | (refine ⟨?_, fun _ _ _ h => h, Or.inl ⟨by rfl, ?_⟩, ?_⟩; rotate_left; focus (intro w hSw; (try dsimp only at hSw); go_simp; try with_reducible rfl)
             simp only [Act.put, List.setIfInBounds_toArray, List.set_cons_zero, List.set_cons_succ])
          | fail "op 7"
        (refine wpN.take 8 (by kernel_rfl) (by kernel_rfl) (by kernel_rfl) (by kernel_rfl) (by kernel_rfl) (by assumption) (by kernel_rfl) ?_; intro oi hoi; simp only [List.getElem?_toArray, List.getElem?_cons_succ, List.getElem?_cons_zero, Option.some.injEq] at hoi; subst hoi)
        first
          | (refine ⟨undef, fun _ _ _ h => h, Or.inr ⟨by rfl, rfl⟩, ?_⟩; simp only [Act.put, List.setIfInBounds_toArray, List.set_cons_zero, List.set_cons_succ])
          | (refine ⟨?_, fun _ _ _ h => h, Or.inl ⟨by rfl, ?_⟩, ?_⟩; rotate_left; focus (intro w hSw; (try dsimp only at hSw); go_simp; try with_reducible rfl)
             simp only [Act.put, List.setIfInBounds_toArray, List.set_cons_zero, List.set_cons_succ])
          | fail "op 8"
        (refine wpN.take 9 (by kernel_rfl) (by kernel_rfl) (by kernel_rfl) (by kernel_rfl) (by kernel_rfl) (by assumption) (by kernel_rfl) ?_; intro oi hoi; simp only [List.getElem?_toArray, List.getElem?_cons_succ, List.getElem?_cons_zero, Option.some.injEq] at hoi; subst hoi)
        first
          | (refine ⟨undef, fun _ _ _ h => h, Or.inr ⟨by rfl, rfl⟩, ?_⟩; simp only [Act.put, List.setIfInBounds_toArray, List.set_cons_zero, List.set_cons_succ])
          | (refine ⟨?_, fun _ _ _ h => h, Or.inl ⟨by rfl, ?_⟩, ?_⟩; rotate_left; focus (intro w hSw; (try dsimp only at hSw); go_simp; try with_reducible rfl)
             simp only [Act.put, List.setIfInBounds_toArray, List.set_cons_zero, List.set_cons_succ])
          | fail "op 9"
        (refine wpN.take 10 (by kernel_rfl) (by kernel_rfl) (by kernel_rfl) (by kernel_rfl) (by kernel_rfl) (by assumption) (by kernel_rfl) ?_; intro oi hoi; simp only [List.getElem?_toArray, List.getElem?_cons_succ, List.getElem?_cons_zero, Option.some.injEq] at hoi; subst hoi)
        first
          | (refine ⟨undef, fun _ _ _ h => h, Or.inr ⟨by rfl, rfl⟩, ?_⟩; simp only [Act.put, List.setIfInBounds_toArray, List.set_cons_zero, List.set_cons_succ])
          | (refine ⟨?_, fun _ _ _ h => h, Or.inl ⟨by rfl, ?_⟩, ?_⟩; rotate_left; focus (intro w hSw; (try dsimp only at hSw); go_simp; try with_reducible rfl)
             simp only [Act.put, List.setIfInBounds_toArray, List.set_cons_zero, List.set_cons_succ])
          | fail "op 10"
        (refine wpN.take 11 (by kernel_rfl) (by kernel_rfl) (by kernel_rfl) (by kernel_rfl) (by kernel_rfl) (by assumption) (by kernel_rfl) ?_; intro oi hoi; simp only [List.getElem?_toArray, List.getElem?_cons_succ, List.getElem?_cons_zero, Option.some.injEq] at hoi; subst hoi)
        first
          | (refine ⟨undef, fun _ _ _ h => h, Or.inr ⟨by rfl, rfl⟩, ?_⟩; simp only [Act.put, List.setIfInBounds_toArray, List.set_cons_zero, List.set_cons_succ])
          | (refine ⟨?_, fun _ _ _ h => h, Or.inl ⟨by rfl, ?_⟩, ?_⟩; rotate_left; focus (intro w hSw; (try dsimp only at hSw); go_simp; try with_reducible rfl)
             simp only [Act.put, List.setIfInBounds_toArray, List.set_cons_zero, List.set_cons_succ])
          | fail "op 11"
        (refine wpN.take 12 (by kernel_rfl) (by kernel_rfl) (by kernel_rfl) (by kernel_rfl) (by kernel_rfl) (by assumption) (by kernel_rfl) ?_; intro oi hoi; simp only [List.getElem?_toArray, List.getElem?_cons_succ, List.getElem?_cons_zero, Option.some.injEq] at hoi; subst hoi)
        first
          | (refine ⟨undef, fun _ _ _ h => h, Or.inr ⟨by rfl, rfl⟩, ?_⟩; simp only [Act.put, List.setIfInBounds_toArray, List.set_cons_zero, List.set_cons_succ])
          | (refine ⟨?_, fun _ _ _ h => h, Or.inl ⟨by rfl, ?_⟩, ?_⟩; rotate_left; focus (intro w hSw; (try dsimp only at hSw); go_simp; try with_reducible rfl)
             simp only [Act.put, List.setIfInBounds_toArray, List.set_cons_zero, List.set_cons_succ])
          | fail "op 12"
        (refine wpN.take 13 (by kernel_rfl) (by kernel_rfl) (by kernel_rfl) (by kernel_rfl) (by kernel_rfl) (by assumption) (by kernel_rfl) ?_; intro oi hoi; simp only [List.getElem?_toArray, List.getElem?_cons_succ, List.getElem?_cons_zero, Option.some.injEq] at hoi; subst hoi)
        first
          | (refine ⟨undef, fun _ _ _ h => h, Or.inr ⟨by rfl, rfl⟩, ?_⟩; simp only [Act.put, List.setIfInBounds_toArray, List.set_cons_zero, List.set_cons_succ])
          | (refine ⟨?_, fun _ _ _ h => h, Or.inl ⟨by rfl, ?_⟩, ?_⟩; rotate_left; focus (intro w hSw; (try dsimp only at hSw); go_simp; try with_reducible rfl)
             simp only [Act.put, List.setIfInBounds_toArray, List.set_cons_zero, List.set_cons_succ])
          | fail "op 13"
        (refine wpN.take 14 (by kernel_rfl) (by kernel_rfl) (by kernel_rfl) (by kernel_rfl) (by kernel_rfl) (by assumption) (by kernel_rfl) ?_; intro oi hoi; simp only [List.getElem?_toArray, List.getElem?_cons_succ, List.getElem?_cons_zero, Option.some.injEq] at hoi; subst hoi)
        first
          | (refine ⟨undef, fun _ _ _ h => h, Or.inr ⟨by rfl, rfl⟩, ?_⟩; simp only [Act.put, List.setIfInBounds_toArray, List.set_cons_zero, List.set_cons_succ])
          | (refine ⟨?_, fun _ _ _ h => h, Or.inl ⟨by rfl, ?_⟩, ?_⟩; rotate_left; focus (intro w hSw; (try dsimp only at hSw); go_simp; try with_reducible rfl)
             simp only [Act.put, List.setIfInBounds_toArray, List.set_cons_zero, List.set_cons_succ])
          | fail "op 14"
        (refine wpN.take 15 (by kernel_rfl) (by kernel_rfl) (by kernel_rfl) (by kernel_rfl) (by kernel_rfl) (by assumption) (by kernel_rfl) ?_; intro oi hoi; simp only [List.getElem?_toArray, List.getElem?_cons_succ, List.getElem?_cons_zero, Option.some.injEq] at hoi; subst hoi)
        first
          | (refine ⟨undef, fun _ _ _ h => h, Or.inr ⟨by rfl, rfl⟩, ?_⟩; simp only [Act.put, List.setIfInBounds_toArray, List.set_cons_zero, List.set_cons_succ])
          | (refine ⟨?_, fun _ _ _ h => h, Or.inl ⟨by rfl, ?_⟩, ?_⟩; rotate_left; focus (intro w hSw; (try dsimp only at hSw); go_simp; try with_reducible rfl)
             simp only [Act.put, List.setIfInBounds_toArray, List.set_cons_zero, List.set_cons_succ])
          | fail "op 15"
        (refine wpN.take 16 (by kernel_rfl) (by kernel_rfl) (by kernel_rfl) (by kernel_rfl) (by kernel_rfl) (by assumption) (by kernel_rfl) ?_; intro oi hoi; simp only [List.getElem?_toArray, List.getElem?_cons_succ, List.getElem?_cons_zero, Option.some.injEq] at hoi; subst hoi)
        first
          | (refine ⟨undef, fun _ _ _ h => h, Or.inr ⟨by rfl, rfl⟩, ?_⟩; simp only [Act.put, List.setIfInBounds_toArray, List.set_cons_zero, List.set_cons_succ])
          | (refine ⟨?_, fun _ _ _ h => h, Or.inl ⟨by rfl, ?_⟩, ?_⟩; rotate_left; focus (intro w hSw; (try dsimp only at hSw); go_simp; try with_reducible rfl)
             simp only [Act.put, List.setIfInBounds_toArray, List.set_cons_zero, List.set_cons_succ])
          | fail "op 16"
        (refine wpN.take 17 (by kernel_rfl) (by kernel_rfl) (by kernel_rfl) (by kernel_rfl) (by kernel_rfl) (by assumption) (by kernel_rfl) ?_; intro oi hoi; simp only [List.getElem?_toArray, List.getElem?_cons_succ, List.getElem?_cons_zero, Option.some.injEq] at hoi; subst hoi)
        first
          | (refine ⟨undef, fun _ _ _ h => h, Or.inr ⟨by rfl, rfl⟩, ?_⟩; simp only [Act.put, List.setIfInBounds_toArray, List.set_cons_zero, List.set_cons_succ])
          | (refine ⟨?_, fun _ _ _ h => h, Or.inl ⟨by rfl, ?_⟩, ?_⟩; rotate_left; focus (intro w hSw; (try dsimp only at hSw); go_simp; try with_reducible rfl)
             simp only [Act.put, List.setIfInBounds_toArray, List.set_cons_zero, List.set_cons_succ])
          | fail "op 17"
        (refine wpN.take 18 (by kernel_rfl) (by kernel_rfl) (by kernel_rfl) (by kernel_rfl) (by kernel_rfl) (by assumption) (by kernel_rfl) ?_; intro oi hoi; simp only [List.getElem?_toArray, List.getElem?_cons_succ, List.getElem?_cons_zero, Option.some.injEq] at hoi; subst hoi)
        first
          | (refine ⟨undef, fun _ _ _ h => h, Or.inr ⟨by rfl, rfl⟩, ?_⟩; simp only [Act.put, List.setIfInBounds_toArray, List.set_cons_zero, List.set_cons_succ])
          | (refine ⟨?_, fun _ _ _ h => h, Or.inl ⟨by rfl, ?_⟩, ?_⟩; rotate_left; focus (intro w hSw; (try dsimp only at hSw); go_simp; try with_reducible rfl)
             simp only [Act.put, List.setIfInBounds_toArray, List.set_cons_zero, List.set_cons_succ])
          | fail "op 18"
        (refine wpN.take 19 (by kernel_rfl) (by kernel_rfl) (by kernel_rfl) (by kernel_rfl) (by kernel_rfl) (by assumption) (by kernel_rfl) ?_; intro oi hoi; simp only [List.getElem?_toArray, List.getElem?_cons_succ, List.getElem?_cons_zero, Option.some.injEq] at hoi; subst hoi)
        first
          | (refine ⟨undef, fun _ _ _ h => h, Or.inr ⟨by rfl, rfl⟩, ?_⟩; simp only [Act.put, List.setIfInBounds_toArray, List.set_cons_zero, List.set_cons_succ])
          | (refine ⟨?_, fun _ _ _ h => h, Or.inl ⟨by rfl, ?_⟩, ?_⟩; rotate_left; focus (intro w hSw; (try dsimp only at hSw); go_simp; try with_reducible rfl)
             simp only [Act.put, List.setIfInBounds_toArray, List.set_cons_zero, List.set_cons_succ])
          | fail "op 19"
        (refine wpN.one 20 (by kernel_rfl) (by kernel_rfl) ?_; intro oi hoi K hK; simp only [List.getElem?_toArray, List.getElem?_cons_succ, List.getElem?_cons_zero, Option.some.injEq] at hoi; subst hoi)
        refine step_callg 76 #[.agg #[.bool (decide (A i j < 0)), .slice ia1 ia2 ia3, .slice ib1 ib2 ib3], .agg #[.bool t6, .slice a61 l61 k61, .slice a62 l62 k62]] ?_ ?_ (sub_can _ _ (A i j) (f * A r j) _ hID hPD HFI.out HFP.out HFS.out) ?_
        · rfl
        · go_simp
        rintro e9 w9 ⟨v9, rfl, hv9, hb9⟩
        refine ⟨_, rfl, ?_⟩
        have hNew : (fun w' => w'.cell? ⟨T, 0, none⟩ = some vR ∧ w'.cell? (ptr vR i) = some ci ∧ w'.cell? (ptr ci (j * 3)) = some (.bool (decide (A i j < 0))) ∧ w'.cell? (ptr ci (j * 3 + 1)) = some (.slice ia1 ia2 ia3) ∧ w'.cell? (ptr ci (j * 3 + 2)) = some (.slice ib1 ib2 ib3) ∧ w'.cell? ⟨b11, 0, none⟩ = some (.bool t6) ∧ w'.cell? ⟨b11, 1, none⟩ = some (.slice a61 l61 k61) ∧ w'.cell? ⟨b11, 2, none⟩ = some (.slice a62 l62 k62)) w9 := ⟨cell_below hb9 k1, cell_below hb9 k2, cell_below hb9 k3, cell_below hb9 k4, cell_below hb9 k5, cell_below hb9 k6, cell_below hb9 k7, cell_below hb9 k8⟩
        refine hK.out _ _ (fun _ => hNew) ?_
        clear hK K hHeld k1 k2 k3 k4 k5 k6 k7 k8
        try simp only [Act.put, List.setIfInBounds_toArray, List.set_cons_zero, List.set_cons_succ]
        (refine wpN.take 21 (by kernel_rfl) (by kernel_rfl) (by kernel_rfl) (by kernel_rfl) (by kernel_rfl) (by assumption) (by kernel_rfl) ?_; intro oi hoi; simp only [List.getElem?_toArray, List.getElem?_cons_succ, List.getElem?_cons_zero, Option.some.injEq] at hoi; subst hoi)
        first
          | (refine ⟨undef, fun _ _ _ h => h, Or.inr ⟨by rfl, rfl⟩, ?_⟩; simp only [Act.put, List.setIfInBounds_toArray, List.set_cons_zero, List.set_cons_succ])
          | (refine ⟨?_, fun _ _ _ h => h, Or.inl ⟨by rfl, ?_⟩, ?_⟩; rotate_left; focus (intro w hSw; (try dsimp only at hSw); go_simp; try with_reducible rfl)
             simp only [Act.put, List.setIfInBounds_toArray, List.set_cons_zero, List.set_cons_succ])
          | fail "op 21"
        (refine wpN.take 22 (by kernel_rfl) (by kernel_rfl) (by kernel_rfl) (by kernel_rfl) (by kernel_rfl) (by assumption) (by kernel_rfl) ?_; intro oi hoi; simp only [List.getElem?_toArray, List.getElem?_cons_succ, List.getElem?_cons_zero, Option.some.injEq] at hoi; subst hoi)
        first
          | (refine ⟨undef, fun _ _ _ h => h, Or.inr ⟨by rfl, rfl⟩, ?_⟩; simp only [Act.put, List.setIfInBounds_toArray, List.set_cons_zero, List.set_cons_succ])
          | (refine ⟨?_, fun _ _ _ h => h, Or.inl ⟨by rfl, ?_⟩, ?_⟩; rotate_left; focus (intro w hSw; (try dsimp only at hSw); go_simp; try with_reducible rfl)
             simp only [Act.put, List.setIfInBounds_toArray, List.set_cons_zero, List.set_cons_succ])
          | fail "op 22"
        (refine wpN.one 23 (by kernel_rfl) (by kernel_rfl) ?_; intro oi hoi K hK; simp only [List.getElem?_toArray, List.getElem?_cons_succ, List.getElem?_cons_zero, Option.some.injEq] at hoi; subst hoi)
        refine step_callg 44 #[.pointer (some ⟨T, 0, none⟩), v9, .int .i64 0] ?_ ?_ (keep_ok _ _ (A i j - f * A r j) _ hv9) ?_
        · rfl
        · go_simp
        rintro e10 w10 ⟨v10, rfl, hv10, hb10⟩
        obtain ⟨t9, x9, y9, rfl, ⟨a1, l91, k91, rfl, _⟩, ⟨a2, l92, k92, rfl, _⟩⟩ := hv10.isF
        refine ⟨_, rfl, ?_⟩
        obtain ⟨k1, k2, k3, k4, k5, k6, k7, k8⟩ := hNew
        have hNew : (fun w' => w'.cell? ⟨T, 0, none⟩ = some vR ∧ w'.cell? (ptr vR i) = some ci ∧ w'.cell? (ptr ci (j * 3)) = some (.bool (decide (A i j < 0))) ∧ w'.cell? (ptr ci (j * 3 + 1)) = some (.slice ia1 ia2 ia3) ∧ w'.cell? (ptr ci (j * 3 + 2)) = some (.slice ib1 ib2 ib3) ∧ w'.cell? ⟨b11, 0, none⟩ = some (.bool t6) ∧ w'.cell? ⟨b11, 1, none⟩ = some (.slice a61 l61 k61) ∧ w'.cell? ⟨b11, 2, none⟩ = some (.slice a62 l62 k62)) w10 := ⟨cell_below hb10 k1, cell_below hb10 k2, cell_below hb10 k3, cell_below hb10 k4, cell_below hb10 k5, cell_below hb10 k6, cell_below hb10 k7, cell_below hb10 k8⟩
        refine hK.out _ _ (fun _ => hNew) ?_
        clear hK K k1 k2 k3 k4 k5 k6 k7 k8
        try simp only [Act.put, List.setIfInBounds_toArray, List.set_cons_zero, List.set_cons_succ]
        (refine wpN.take 24 (by kernel_rfl) (by kernel_rfl) (by kernel_rfl) (by kernel_rfl) (by kernel_rfl) (by assumption) (by kernel_rfl) ?_; intro oi hoi; simp only [List.getElem?_toArray, List.getElem?_cons_succ, List.getElem?_cons_zero, Option.some.injEq] at hoi; subst hoi)
        first
          | (refine ⟨undef, fun _ _ _ h => h, Or.inr ⟨by rfl, rfl⟩, ?_⟩; simp only [Act.put, List.setIfInBounds_toArray, List.set_cons_zero, List.set_cons_succ])
          | (refine ⟨?_, fun _ _ _ h => h, Or.inl ⟨by rfl, ?_⟩, ?_⟩; rotate_left; focus (intro w hSw; (try dsimp only at hSw); go_simp; try with_reducible rfl)
             simp only [Act.put, List.setIfInBounds_toArray, List.set_cons_zero, List.set_cons_succ])
          | fail "op 24"
        have hT10 := (HTD.out.below hb9).below hb10
        have hro := hT10.row i hi'
        rw [HCI.out] at hro
        have f0 := hro.frozen (j * 3) (by rw [rowL_length]; omega)
        have f1 := hro.frozen (j * 3 + 1) (by rw [rowL_length]; omega)
        have f2 := hro.frozen (j * 3 + 2) (by rw [rowL_length]; omega)
        have n01 := hro.inj (by rw [rowL_length]; omega) (show j * 3 ≠ j * 3 + 1 by omega)
        have n02 := hro.inj (by rw [rowL_length]; omega) (show j * 3 ≠ j * 3 + 2 by omega)
        have n12 := hro.inj (by rw [rowL_length]; omega) (show j * 3 + 1 ≠ j * 3 + 2 by omega)
        obtain ⟨k1, k2, k3, k4, k5, k6, k7, k8⟩ := hNew
        (refine wpN.one 25 (by kernel_rfl) (by kernel_rfl) ?_; intro oi hoi K hK; simp only [List.getElem?_toArray, List.getElem?_cons_succ, List.getElem?_cons_zero, Option.some.injEq] at hoi; subst hoi)
        rw [if_pos (by rfl)]
        go_simp
        refine hK.out _ _ (fun h => by cases h) ?_
        clear hK K k1 k2 k3 k4 k5 k6 k7 k8 f0 f1 f2 n01 n02 n12
        refine wpN.done (by kernel_rfl) ?_ _
        have hput := hT10.put hi' hj hv10
        have hpg := hT10.putG hi' hj hv10
        rw [HCI.out, redTo_step hkj] at hput
        rw [HCI.out] at hpg
        have HPUT := Lib.hid hput
        have hC10 := (((HC3.out.belowS hbD).belowS hb9).belowS hb10).grownB hpg.1 (by rw [← HCI.out, HGI.out]; intro e; injection e with e; omega)
        have hF10 := ((((HF3.out.below hbD).below hb9).below hb10).grown hpg.1 hpg.2)
        have hB10 := (below_then2 (below_then2 (below_then2 HB3.out hbD (Nat.le_of_lt HT3.out.lt)) hb9 (Nat.le_of_lt HTD.out.lt)) hb10 (Nat.le_of_lt (HTD.out.below hb9).lt)).trans hput.2
        have HH := Lib.hid (And.intro hC10 (And.intro hF10 hB10))
        clear hput hpg hC10 hF10 hB10 hT10 hv10 hro hb9 hb10 hbD hID hPD hv9
        go_wp2_with fail
        go_roundg (m - (j + 1))
        case measure => (have := HG.out; omega)
        case rel => exact ⟨j + 1, by omega, by omega, rfl, by go_num, HPUT.out.1, HH.out.1, HH.out.2.1, HH.out.2.2⟩
    · obtain rfl : j = m := by omega
      have i6 : decide ((j : Int) < (j : Nat)) = false := by simp
      clear hT hFr hbr hg hC
      go_wp2_with fail
      go_end0
      exact ⟨rfl, HT.out, HBR.out⟩
end Go.Proofs.YtbhkibilnmoljaaGreat
