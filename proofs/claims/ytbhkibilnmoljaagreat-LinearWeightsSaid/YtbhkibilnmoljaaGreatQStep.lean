/-
  A call of a Go function as one step of a region that draws its order: its contract. No program is named here.
-/
import Derived.Test.YtbhkibilnmoljaaGreatQOwn
import Derived.Deep.RegionLaw
namespace Go.Proofs.YtbhkibilnmoljaaGreat
set_option linter.unusedVariables false
open Go.RowKit
theorem step_call {P : Program} {ops : Array Oper} {o : Oper} {a : Act} {w : World} {K : Act → World → Prop} {Q : Exit → Act → World → Prop} {E : Prop} (hg : o.guard = none) (f : FuncId) (argv : Array Value)
    (hrun : (execOp a.eval o).run P w = .ok (.enter f argv) w) {R : Ending → World → Prop} (hc : Calls P f argv w R) (h : ∀ e w', R e w' → ∃ v, e = .returned v ∧ K (a.put o.dst v) w') :
    if Region.wanted o (yielded ops a.tmps) = true then Oper.wp P o a w K Q else E := by
  rw [if_pos (by simp [Region.wanted, hg])]
  unfold Oper.wp
  rw [hrun, Oper.upon_enter]
  refine hc.mono fun e w' hr => ?_
  obtain ⟨v, rfl, hk⟩ := h e w' hr
  exact hk
end Go.Proofs.YtbhkibilnmoljaaGreat
