/-
  Lists of no weight. No program is named here.
-/
import Derived.Test.YtlpdkbmmbdfoiaaGreatCMath8
namespace Go.Proofs.YtlpdkbmmbdfoiaaGreat
set_option linter.unusedVariables false
set_option linter.unusedSimpArgs false

theorem wts_zero : ∀ {l : List Rat}, wts l = 0 → ∀ q ∈ l, q = 0 := by
  intro l
  induction l with
  | nil => intro _ q hq; simp at hq
  | cons x l ih =>
    intro h q hq
    rw [wts_cons] at h
    rcases List.mem_cons.1 hq with rfl | hq
    · have h1 : wt q = 0 := by omega
      have h2 : q.num = 0 := by
        unfold Go.Proofs.YtlpdkbmmbdfoiaaGreat.wt at h1
        by_cases h3 : q.num = 0
        · exact h3
        · rw [if_neg h3] at h1
          have h4 : nbits q.num.natAbs ≤ 0 := by omega
          have := nbits_le.1 h4
          omega
      exact Rat.num_eq_zero.1 h2
    · exact ih (by omega) q hq
theorem wts_of_zero : ∀ {l : List Rat}, (∀ q ∈ l, q = 0) → wts l = 0 := by
  intro l
  induction l with
  | nil => intro _; rfl
  | cons x l ih =>
    intro h
    rw [wts_cons, ih (fun q hq => h q (by simp [hq])), h x (by simp)]
    decide
end Go.Proofs.YtlpdkbmmbdfoiaaGreat
