/-
  No cell of these rows narrows 'for every input' (looked for: loops, veiled, ifaces, maps, wideKeys, modest, calm, conditions, laid).
  DERIVED. THE GIVEN ROWS OF THIS SEAT. 6 by the template 'for every input the law returns true; each argument reads behind the call as it read before'; 0 by the template 'total and deterministic' (their statements: YtbhkibilnmoljaaTotals.lean).
  GIVEN WITH THE SEED: the statements are not yours to turn. If you find one false, say at which input.
  Laid BY PROGRAM, IN A SANDBOX (cutbox-rows.mjs): the forced cells as the released guide's own fill.sh prints them over the translation dc45143eaeeac7d8… (all of the seat's roots in one cut). By AI agents, Wed Nov 11 2026. No macro, syntax, notation, axiom, sorry.
-/
import Derived.Test.YtbhkibilnmoljaaChecked
import GoSem.Claim
import GoSem.ClaimJoined
import GoSem.ClaimMapViews
import Derived.JoinedTies
import Derived.KernelRfl
namespace Go.Proofs.Ytbhkibilnmoljaa
/- THE CELL 'sum', in the pinned program and in every row, IS THE sha256 OF THE DUMP (.gsa) THAT YtbhkibilnmoljaaProg.lean LOADS. Nothing in Lean hashes anything: it is a label: what it is worth is what the hold of that sum in a sandbox is worth. -/
noncomputable def Try.pinned : Pinned := { name := "ytbhkibilnmoljaa", sum := "dc45143eaeeac7d871fb167223f46fc28446c155839d0aebf83ea367ea045d11", checked := Try.checked }
namespace Rows
def none {H : Type} : Left H := { results := [], args := [] }

/-- 'drydocklaw05.LinearRank': WHATEVER THE INPUT: true; the input reads as it did. -/
def linearRankSpec : ChangeSpec := { name := "linearRank", fn := fun _ => fun
  | [d1, d2, d3, d4] => { results := [.lit (.bool true)], args := [d1, d2, d3, d4] }
  | _ => none }
def linearRankRow : OpenClaim := { program := "ytbhkibilnmoljaa", sum := "dc45143eaeeac7d871fb167223f46fc28446c155839d0aebf83ea367ea045d11", func := "drydock/drydocklaw05.LinearRank", spec := "linearRank", apart := false }
def LinearRankSaid : Prop := linearRankRow.holds Try.pinned (OpenSpec.ofChange linearRankSpec)

/-- ITS FALSE NEIGHBOUR: 'it returns false'. Refute it at one input. -/
def linearRankWrong : ChangeSpec := { name := "linearRank", fn := fun _ => fun
  | [d1, d2, d3, d4] => { results := [.lit (.bool false)], args := [d1, d2, d3, d4] }
  | _ => none }
def LinearRankWrongFalsely : Prop := linearRankRow.holds Try.pinned (OpenSpec.ofChange linearRankWrong)

/-- 'drydocklaw05.LinearSolves': WHATEVER THE INPUT: true; the input reads as it did. -/
def linearSolvesSpec : ChangeSpec := { name := "linearSolves", fn := fun _ => fun
  | [d1, d2, d3] => { results := [.lit (.bool true)], args := [d1, d2, d3] }
  | _ => none }
def linearSolvesRow : OpenClaim := { program := "ytbhkibilnmoljaa", sum := "dc45143eaeeac7d871fb167223f46fc28446c155839d0aebf83ea367ea045d11", func := "drydock/drydocklaw05.LinearSolves", spec := "linearSolves", apart := false }
def LinearSolvesSaid : Prop := linearSolvesRow.holds Try.pinned (OpenSpec.ofChange linearSolvesSpec)

/-- ITS FALSE NEIGHBOUR: 'it returns false'. Refute it at one input. -/
def linearSolvesWrong : ChangeSpec := { name := "linearSolves", fn := fun _ => fun
  | [d1, d2, d3] => { results := [.lit (.bool false)], args := [d1, d2, d3] }
  | _ => none }
def LinearSolvesWrongFalsely : Prop := linearSolvesRow.holds Try.pinned (OpenSpec.ofChange linearSolvesWrong)

/-- 'drydocklaw05.LinearDet': WHATEVER THE INPUT: true; the input reads as it did. -/
def linearDetSpec : ChangeSpec := { name := "linearDet", fn := fun _ => fun
  | [d1, d2, d3, d4, d5] => { results := [.lit (.bool true)], args := [d1, d2, d3, d4, d5] }
  | _ => none }
def linearDetRow : OpenClaim := { program := "ytbhkibilnmoljaa", sum := "dc45143eaeeac7d871fb167223f46fc28446c155839d0aebf83ea367ea045d11", func := "drydock/drydocklaw05.LinearDet", spec := "linearDet", apart := false }
def LinearDetSaid : Prop := linearDetRow.holds Try.pinned (OpenSpec.ofChange linearDetSpec)

/-- ITS FALSE NEIGHBOUR: 'it returns false'. Refute it at one input. -/
def linearDetWrong : ChangeSpec := { name := "linearDet", fn := fun _ => fun
  | [d1, d2, d3, d4, d5] => { results := [.lit (.bool false)], args := [d1, d2, d3, d4, d5] }
  | _ => none }
def LinearDetWrongFalsely : Prop := linearDetRow.holds Try.pinned (OpenSpec.ofChange linearDetWrong)

/-- 'drydocklaw05.LinearAssociates': WHATEVER THE INPUT: true; the input reads as it did. -/
def linearAssociatesSpec : ChangeSpec := { name := "linearAssociates", fn := fun _ => fun
  | [d1, d2, d3, d4, d5, d6, d7] => { results := [.lit (.bool true)], args := [d1, d2, d3, d4, d5, d6, d7] }
  | _ => none }
def linearAssociatesRow : OpenClaim := { program := "ytbhkibilnmoljaa", sum := "dc45143eaeeac7d871fb167223f46fc28446c155839d0aebf83ea367ea045d11", func := "drydock/drydocklaw05.LinearAssociates", spec := "linearAssociates", apart := false }
def LinearAssociatesSaid : Prop := linearAssociatesRow.holds Try.pinned (OpenSpec.ofChange linearAssociatesSpec)

/-- ITS FALSE NEIGHBOUR: 'it returns false'. Refute it at one input. -/
def linearAssociatesWrong : ChangeSpec := { name := "linearAssociates", fn := fun _ => fun
  | [d1, d2, d3, d4, d5, d6, d7] => { results := [.lit (.bool false)], args := [d1, d2, d3, d4, d5, d6, d7] }
  | _ => none }
def LinearAssociatesWrongFalsely : Prop := linearAssociatesRow.holds Try.pinned (OpenSpec.ofChange linearAssociatesWrong)

/-- 'drydocklaw05.LinearProducts': WHATEVER THE INPUT: true; the input reads as it did. -/
def linearProductsSpec : ChangeSpec := { name := "linearProducts", fn := fun _ => fun
  | [d1, d2, d3, d4] => { results := [.lit (.bool true)], args := [d1, d2, d3, d4] }
  | _ => none }
def linearProductsRow : OpenClaim := { program := "ytbhkibilnmoljaa", sum := "dc45143eaeeac7d871fb167223f46fc28446c155839d0aebf83ea367ea045d11", func := "drydock/drydocklaw05.LinearProducts", spec := "linearProducts", apart := false }
def LinearProductsSaid : Prop := linearProductsRow.holds Try.pinned (OpenSpec.ofChange linearProductsSpec)

/-- ITS FALSE NEIGHBOUR: 'it returns false'. Refute it at one input. -/
def linearProductsWrong : ChangeSpec := { name := "linearProducts", fn := fun _ => fun
  | [d1, d2, d3, d4] => { results := [.lit (.bool false)], args := [d1, d2, d3, d4] }
  | _ => none }
def LinearProductsWrongFalsely : Prop := linearProductsRow.holds Try.pinned (OpenSpec.ofChange linearProductsWrong)

/-- 'drydocklaw05.LinearInverse': WHATEVER THE INPUT: true; the input reads as it did. -/
def linearInverseSpec : ChangeSpec := { name := "linearInverse", fn := fun _ => fun
  | [d1, d2, d3] => { results := [.lit (.bool true)], args := [d1, d2, d3] }
  | _ => none }
def linearInverseRow : OpenClaim := { program := "ytbhkibilnmoljaa", sum := "dc45143eaeeac7d871fb167223f46fc28446c155839d0aebf83ea367ea045d11", func := "drydock/drydocklaw05.LinearInverse", spec := "linearInverse", apart := false }
def LinearInverseSaid : Prop := linearInverseRow.holds Try.pinned (OpenSpec.ofChange linearInverseSpec)

/-- ITS FALSE NEIGHBOUR: 'it returns false'. Refute it at one input. -/
def linearInverseWrong : ChangeSpec := { name := "linearInverse", fn := fun _ => fun
  | [d1, d2, d3] => { results := [.lit (.bool false)], args := [d1, d2, d3] }
  | _ => none }
def LinearInverseWrongFalsely : Prop := linearInverseRow.holds Try.pinned (OpenSpec.ofChange linearInverseWrong)

/- THE SECOND FORM. 'bulk': how many values and letters a reading holds, each counted each time it is reached (what is shared counts as often as it is met; a slice's spare places count too). A statement '..UptoSaid' is the law's where the arguments, and the package variables that the reading takes, are together of bulk at most 1048576: NARROWER than '..Said'. Prove '..Said' where nothing that the law and all that it calls make is longer than what came in: it says more and counts as full. Else prove '..UptoSaid'. A law counts once. -/
mutual
def uptoBulk {H : Type} : DataW H → Nat
  | .lit (.string bytes) => bytes.length + 1
  | .lit _ => 1
  | .nil => 1
  | .ptr d => uptoBulk d + 1
  | .slice elems spare => uptoBulkAll elems + uptoBulkAll spare + 1
  | .agg parts => uptoBulkAll parts + 1
  | .iface _ d => uptoBulk d + 1
  | .map entries => uptoBulkEntries entries + 1
  | .held _ => 1
def uptoBulkAll {H : Type} : List (DataW H) → Nat
  | [] => 0
  | d :: r => uptoBulk d + uptoBulkAll r
def uptoBulkEntries {H : Type} : List (Lit × DataW H) → Nat
  | [] => 0
  | x :: r => uptoBulkEntry x + uptoBulkEntries r
def uptoBulkEntry {H : Type} : Lit × DataW H → Nat
  | (.string bytes, d) => bytes.length + uptoBulk d + 1
  | (_, d) => uptoBulk d + 1
 end
def uptoSmall : (H : Type) → List (DataW H) → Bool := fun _ ds => decide (uptoBulkAll ds ≤ 1048576)
def OpenSpec.upto (s : _root_.Go.ChangeSpec) : _root_.Go.OpenSpec := { _root_.Go.OpenSpec.ofChange s with cond := some uptoSmall }

/-- 'drydocklaw05.LinearRank', WHERE WHAT IT READS IS OF BULK AT MOST 1048576: true; the input reads as it did. -/
def linearRankUptoRow : OpenClaim := { program := "ytbhkibilnmoljaa", sum := "dc45143eaeeac7d871fb167223f46fc28446c155839d0aebf83ea367ea045d11", func := "drydock/drydocklaw05.LinearRank", spec := "linearRank", apart := false, narrowed := true }
def LinearRankUptoSaid : Prop := linearRankUptoRow.holds Try.pinned (OpenSpec.upto linearRankSpec)

/-- 'drydocklaw05.LinearSolves', WHERE WHAT IT READS IS OF BULK AT MOST 1048576: true; the input reads as it did. -/
def linearSolvesUptoRow : OpenClaim := { program := "ytbhkibilnmoljaa", sum := "dc45143eaeeac7d871fb167223f46fc28446c155839d0aebf83ea367ea045d11", func := "drydock/drydocklaw05.LinearSolves", spec := "linearSolves", apart := false, narrowed := true }
def LinearSolvesUptoSaid : Prop := linearSolvesUptoRow.holds Try.pinned (OpenSpec.upto linearSolvesSpec)

/-- 'drydocklaw05.LinearDet', WHERE WHAT IT READS IS OF BULK AT MOST 1048576: true; the input reads as it did. -/
def linearDetUptoRow : OpenClaim := { program := "ytbhkibilnmoljaa", sum := "dc45143eaeeac7d871fb167223f46fc28446c155839d0aebf83ea367ea045d11", func := "drydock/drydocklaw05.LinearDet", spec := "linearDet", apart := false, narrowed := true }
def LinearDetUptoSaid : Prop := linearDetUptoRow.holds Try.pinned (OpenSpec.upto linearDetSpec)

/-- 'drydocklaw05.LinearAssociates', WHERE WHAT IT READS IS OF BULK AT MOST 1048576: true; the input reads as it did. -/
def linearAssociatesUptoRow : OpenClaim := { program := "ytbhkibilnmoljaa", sum := "dc45143eaeeac7d871fb167223f46fc28446c155839d0aebf83ea367ea045d11", func := "drydock/drydocklaw05.LinearAssociates", spec := "linearAssociates", apart := false, narrowed := true }
def LinearAssociatesUptoSaid : Prop := linearAssociatesUptoRow.holds Try.pinned (OpenSpec.upto linearAssociatesSpec)

/-- 'drydocklaw05.LinearProducts', WHERE WHAT IT READS IS OF BULK AT MOST 1048576: true; the input reads as it did. -/
def linearProductsUptoRow : OpenClaim := { program := "ytbhkibilnmoljaa", sum := "dc45143eaeeac7d871fb167223f46fc28446c155839d0aebf83ea367ea045d11", func := "drydock/drydocklaw05.LinearProducts", spec := "linearProducts", apart := false, narrowed := true }
def LinearProductsUptoSaid : Prop := linearProductsUptoRow.holds Try.pinned (OpenSpec.upto linearProductsSpec)

/-- 'drydocklaw05.LinearInverse', WHERE WHAT IT READS IS OF BULK AT MOST 1048576: true; the input reads as it did. -/
def linearInverseUptoRow : OpenClaim := { program := "ytbhkibilnmoljaa", sum := "dc45143eaeeac7d871fb167223f46fc28446c155839d0aebf83ea367ea045d11", func := "drydock/drydocklaw05.LinearInverse", spec := "linearInverse", apart := false, narrowed := true }
def LinearInverseUptoSaid : Prop := linearInverseUptoRow.holds Try.pinned (OpenSpec.upto linearInverseSpec)

end Rows
end Go.Proofs.Ytbhkibilnmoljaa
