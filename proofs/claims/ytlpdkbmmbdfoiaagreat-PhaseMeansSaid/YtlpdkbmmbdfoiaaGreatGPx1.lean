/-
  package drydocklaw20: PhaseFirst, the walk.
-/
import Derived.Test.YtlpdkbmmbdfoiaaGreatGRb7
import Derived.Test.YtlpdkbmmbdfoiaaGreatFPp6
import Derived.Test.YtlpdkbmmbdfoiaaGreatFPk0
set_option linter.unusedVariables false
set_option linter.unusedSimpArgs false
namespace Go.Proofs.YtlpdkbmmbdfoiaaGreat
open Go.RowKit
theorem sgn_ge (va : Value) {w : World} {q : Rat} (ha : zqa w va q) (hf : fits q) (hq : 0 ≤ q) : Calls Tryz.prog 34 #[va] w fun en w' => ∃ z, en = .returned (.int .i64 z) ∧ (decide (z < 0) = false ∧ decide (0 ≤ z) = true) ∧ Below w.heap.size w w' := by
 refine (sgn_can va ha hf).mono ?_
 rintro e w' ⟨rfl, hb⟩
 have h : ¬ cmpR q 0 < 0 := fun h => absurd ((cmpR_lt q 0).1 h) (Rat.not_lt.2 hq)
 exact ⟨_, rfl, ⟨decide_eq_false h, decide_eq_true (Int.not_lt.1 h)⟩, hb⟩
theorem psame_t (va vb : Value) {p q : Rat} {w : World} (ha : zqa w va p) (hb : zqa w vb q) (hp : fits p) (h : p = q) : Calls Tryz.prog 33 #[va, vb] w fun en w' => en = .returned (.bool true) ∧ Below w.heap.size w w' := by
 subst h
 refine (r2same_can va vb p p w ha hb hp hp).mono ?_
 rintro e w' ⟨rfl, hb⟩
 exact ⟨by rw [decide_eq_true rfl], hb⟩
end Go.Proofs.YtlpdkbmmbdfoiaaGreat
