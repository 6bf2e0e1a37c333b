/-
  No cell of these rows narrows 'for every input' (looked for: loops, veiled, ifaces, maps, wideKeys, modest, calm, conditions, laid).
  DERIVED. THE GIVEN ROWS OF THIS SEAT. 5 by the template 'for every input the law returns true; each argument reads behind the call as it read before'; 0 by the template 'total and deterministic' (their statements: YtkpedaflofejnaaGreatTotals.lean).
  GIVEN WITH THE SEED: the statements are not yours to turn. If you find one false, say at which input.
  Laid BY PROGRAM, IN A SANDBOX (cutbox-rows.mjs): the forced cells as the released guide's own fill.sh prints them over the translation 8501f5d2ed935d5f… (all of the seat's roots in one cut). By AI agents, Wed Nov 11 2026. No macro, syntax, notation, axiom, sorry.
-/
import Derived.Test.YtkpedaflofejnaaGreatChecked
import GoSem.Claim
import GoSem.ClaimJoined
import GoSem.ClaimMapViews
import Derived.JoinedTies
import Derived.KernelRfl
namespace Go.Proofs.YtkpedaflofejnaaGreat
/- THE CELL 'sum', in the pinned program and in every row, IS THE sha256 OF THE DUMP (.gsa) THAT YtkpedaflofejnaaGreatProg.lean LOADS. Nothing in Lean hashes anything: it is a label: what it is worth is what the hold of that sum in a sandbox is worth. -/
noncomputable def Tryz.pinned : Pinned := { name := "ytkpedaflofejnaagreat", sum := "8501f5d2ed935d5f3b6226d6d4063d94984479b42ad9c498193f79f72ecd2f07", checked := Tryz.checked }
namespace Rows
def none {H : Type} : Left H := { results := [], args := [] }

/-- 'drydocklaw23.LossmodelRaw': WHATEVER THE INPUT: true; the input reads as it did. -/
def lossmodelRawSpec : ChangeSpec := { name := "lossmodelRaw", fn := fun _ => fun
  | [d1, d2, d3, d4, d5, d6, d7] => { results := [.lit (.bool true)], args := [d1, d2, d3, d4, d5, d6, d7] }
  | _ => none }
def lossmodelRawRow : OpenClaim := { program := "ytkpedaflofejnaagreat", sum := "8501f5d2ed935d5f3b6226d6d4063d94984479b42ad9c498193f79f72ecd2f07", func := "drydock/drydocklaw23.LossmodelRaw", spec := "lossmodelRaw", unfollowed := true, recurses := true, apart := false }
def LossmodelRawSaid : Prop := lossmodelRawRow.holds Tryz.pinned (OpenSpec.ofChange lossmodelRawSpec)

/-- ITS FALSE NEIGHBOUR: 'it returns false'. Refute it at one input. -/
def lossmodelRawWrong : ChangeSpec := { name := "lossmodelRaw", fn := fun _ => fun
  | [d1, d2, d3, d4, d5, d6, d7] => { results := [.lit (.bool false)], args := [d1, d2, d3, d4, d5, d6, d7] }
  | _ => none }
def LossmodelRawWrongFalsely : Prop := lossmodelRawRow.holds Tryz.pinned (OpenSpec.ofChange lossmodelRawWrong)

/-- 'drydocklaw23.LossmodelFull': WHATEVER THE INPUT: true; the input reads as it did. -/
def lossmodelFullSpec : ChangeSpec := { name := "lossmodelFull", fn := fun _ => fun
  | [d] => { results := [.lit (.bool true)], args := [d] }
  | _ => none }
def lossmodelFullRow : OpenClaim := { program := "ytkpedaflofejnaagreat", sum := "8501f5d2ed935d5f3b6226d6d4063d94984479b42ad9c498193f79f72ecd2f07", func := "drydock/drydocklaw23.LossmodelFull", spec := "lossmodelFull", unfollowed := true, recurses := true, apart := false }
def LossmodelFullSaid : Prop := lossmodelFullRow.holds Tryz.pinned (OpenSpec.ofChange lossmodelFullSpec)

/-- ITS FALSE NEIGHBOUR: 'it returns false'. Refute it at one input. -/
def lossmodelFullWrong : ChangeSpec := { name := "lossmodelFull", fn := fun _ => fun
  | [d] => { results := [.lit (.bool false)], args := [d] }
  | _ => none }
def LossmodelFullWrongFalsely : Prop := lossmodelFullRow.holds Tryz.pinned (OpenSpec.ofChange lossmodelFullWrong)

/-- 'drydocklaw23.LossmodelCounts': WHATEVER THE INPUT: true; the input reads as it did. -/
def lossmodelCountsSpec : ChangeSpec := { name := "lossmodelCounts", fn := fun _ => fun
  | [d1, d2, d3, d4] => { results := [.lit (.bool true)], args := [d1, d2, d3, d4] }
  | _ => none }
def lossmodelCountsRow : OpenClaim := { program := "ytkpedaflofejnaagreat", sum := "8501f5d2ed935d5f3b6226d6d4063d94984479b42ad9c498193f79f72ecd2f07", func := "drydock/drydocklaw23.LossmodelCounts", spec := "lossmodelCounts", unfollowed := true, recurses := true, apart := false }
def LossmodelCountsSaid : Prop := lossmodelCountsRow.holds Tryz.pinned (OpenSpec.ofChange lossmodelCountsSpec)

/-- ITS FALSE NEIGHBOUR: 'it returns false'. Refute it at one input. -/
def lossmodelCountsWrong : ChangeSpec := { name := "lossmodelCounts", fn := fun _ => fun
  | [d1, d2, d3, d4] => { results := [.lit (.bool false)], args := [d1, d2, d3, d4] }
  | _ => none }
def LossmodelCountsWrongFalsely : Prop := lossmodelCountsRow.holds Tryz.pinned (OpenSpec.ofChange lossmodelCountsWrong)

/-- 'drydocklaw23.LossmodelMirror': WHATEVER THE INPUT: true; the input reads as it did. -/
def lossmodelMirrorSpec : ChangeSpec := { name := "lossmodelMirror", fn := fun _ => fun
  | [d1, d2, d3, d4] => { results := [.lit (.bool true)], args := [d1, d2, d3, d4] }
  | _ => none }
def lossmodelMirrorRow : OpenClaim := { program := "ytkpedaflofejnaagreat", sum := "8501f5d2ed935d5f3b6226d6d4063d94984479b42ad9c498193f79f72ecd2f07", func := "drydock/drydocklaw23.LossmodelMirror", spec := "lossmodelMirror", unfollowed := true, recurses := true, apart := false }
def LossmodelMirrorSaid : Prop := lossmodelMirrorRow.holds Tryz.pinned (OpenSpec.ofChange lossmodelMirrorSpec)

/-- ITS FALSE NEIGHBOUR: 'it returns false'. Refute it at one input. -/
def lossmodelMirrorWrong : ChangeSpec := { name := "lossmodelMirror", fn := fun _ => fun
  | [d1, d2, d3, d4] => { results := [.lit (.bool false)], args := [d1, d2, d3, d4] }
  | _ => none }
def LossmodelMirrorWrongFalsely : Prop := lossmodelMirrorRow.holds Tryz.pinned (OpenSpec.ofChange lossmodelMirrorWrong)

/-- 'drydocklaw23.LossmodelRepairs': WHATEVER THE INPUT: true; the input reads as it did. -/
def lossmodelRepairsSpec : ChangeSpec := { name := "lossmodelRepairs", fn := fun _ => fun
  | [d1, d2, d3] => { results := [.lit (.bool true)], args := [d1, d2, d3] }
  | _ => none }
def lossmodelRepairsRow : OpenClaim := { program := "ytkpedaflofejnaagreat", sum := "8501f5d2ed935d5f3b6226d6d4063d94984479b42ad9c498193f79f72ecd2f07", func := "drydock/drydocklaw23.LossmodelRepairs", spec := "lossmodelRepairs", unfollowed := true, recurses := true, apart := false }
def LossmodelRepairsSaid : Prop := lossmodelRepairsRow.holds Tryz.pinned (OpenSpec.ofChange lossmodelRepairsSpec)

/-- ITS FALSE NEIGHBOUR: 'it returns false'. Refute it at one input. -/
def lossmodelRepairsWrong : ChangeSpec := { name := "lossmodelRepairs", fn := fun _ => fun
  | [d1, d2, d3] => { results := [.lit (.bool false)], args := [d1, d2, d3] }
  | _ => none }
def LossmodelRepairsWrongFalsely : Prop := lossmodelRepairsRow.holds Tryz.pinned (OpenSpec.ofChange lossmodelRepairsWrong)

/- THE SECOND FORM. 'bulk': how many values and letters a reading holds, each counted each time it is reached (what is shared counts as often as it is met; a slice's spare places count too). A statement '..UptoSaid' is the law's where the arguments, and the package variables that the reading takes, are together of bulk at most 1048576: NARROWER than '..Said'. Prove '..Said' where nothing that the law and all that it calls make is longer than what came in: it says more and counts as full. Else prove '..UptoSaid'. A law counts once. -/
mutual
def uptoBulk {H : Type} : DataW H → Nat
  | .lit (.string bytes) => bytes.length + 1
  | .lit _ => 1
  | .nil => 1
  | .ptr d => uptoBulk d + 1
  | .slice elems spare => uptoBulkAll elems + uptoBulkAll spare + 1
  | .agg parts => uptoBulkAll parts + 1
  | .iface _ d => uptoBulk d + 1
  | .map entries => uptoBulkEntries entries + 1
  | .held _ => 1
def uptoBulkAll {H : Type} : List (DataW H) → Nat
  | [] => 0
  | d :: r => uptoBulk d + uptoBulkAll r
def uptoBulkEntries {H : Type} : List (Lit × DataW H) → Nat
  | [] => 0
  | x :: r => uptoBulkEntry x + uptoBulkEntries r
def uptoBulkEntry {H : Type} : Lit × DataW H → Nat
  | (.string bytes, d) => bytes.length + uptoBulk d + 1
  | (_, d) => uptoBulk d + 1
 end
def uptoSmall : (H : Type) → List (DataW H) → Bool := fun _ ds => decide (uptoBulkAll ds ≤ 1048576)
def OpenSpec.upto (s : _root_.Go.ChangeSpec) : _root_.Go.OpenSpec := { _root_.Go.OpenSpec.ofChange s with cond := some uptoSmall }

/-- 'drydocklaw23.LossmodelRaw', WHERE WHAT IT READS IS OF BULK AT MOST 1048576: true; the input reads as it did. -/
def lossmodelRawUptoRow : OpenClaim := { program := "ytkpedaflofejnaagreat", sum := "8501f5d2ed935d5f3b6226d6d4063d94984479b42ad9c498193f79f72ecd2f07", func := "drydock/drydocklaw23.LossmodelRaw", spec := "lossmodelRaw", unfollowed := true, recurses := true, apart := false, narrowed := true }
def LossmodelRawUptoSaid : Prop := lossmodelRawUptoRow.holds Tryz.pinned (OpenSpec.upto lossmodelRawSpec)

/-- 'drydocklaw23.LossmodelFull', WHERE WHAT IT READS IS OF BULK AT MOST 1048576: true; the input reads as it did. -/
def lossmodelFullUptoRow : OpenClaim := { program := "ytkpedaflofejnaagreat", sum := "8501f5d2ed935d5f3b6226d6d4063d94984479b42ad9c498193f79f72ecd2f07", func := "drydock/drydocklaw23.LossmodelFull", spec := "lossmodelFull", unfollowed := true, recurses := true, apart := false, narrowed := true }
def LossmodelFullUptoSaid : Prop := lossmodelFullUptoRow.holds Tryz.pinned (OpenSpec.upto lossmodelFullSpec)

/-- 'drydocklaw23.LossmodelCounts', WHERE WHAT IT READS IS OF BULK AT MOST 1048576: true; the input reads as it did. -/
def lossmodelCountsUptoRow : OpenClaim := { program := "ytkpedaflofejnaagreat", sum := "8501f5d2ed935d5f3b6226d6d4063d94984479b42ad9c498193f79f72ecd2f07", func := "drydock/drydocklaw23.LossmodelCounts", spec := "lossmodelCounts", unfollowed := true, recurses := true, apart := false, narrowed := true }
def LossmodelCountsUptoSaid : Prop := lossmodelCountsUptoRow.holds Tryz.pinned (OpenSpec.upto lossmodelCountsSpec)

/-- 'drydocklaw23.LossmodelMirror', WHERE WHAT IT READS IS OF BULK AT MOST 1048576: true; the input reads as it did. -/
def lossmodelMirrorUptoRow : OpenClaim := { program := "ytkpedaflofejnaagreat", sum := "8501f5d2ed935d5f3b6226d6d4063d94984479b42ad9c498193f79f72ecd2f07", func := "drydock/drydocklaw23.LossmodelMirror", spec := "lossmodelMirror", unfollowed := true, recurses := true, apart := false, narrowed := true }
def LossmodelMirrorUptoSaid : Prop := lossmodelMirrorUptoRow.holds Tryz.pinned (OpenSpec.upto lossmodelMirrorSpec)

/-- 'drydocklaw23.LossmodelRepairs', WHERE WHAT IT READS IS OF BULK AT MOST 1048576: true; the input reads as it did. -/
def lossmodelRepairsUptoRow : OpenClaim := { program := "ytkpedaflofejnaagreat", sum := "8501f5d2ed935d5f3b6226d6d4063d94984479b42ad9c498193f79f72ecd2f07", func := "drydock/drydocklaw23.LossmodelRepairs", spec := "lossmodelRepairs", unfollowed := true, recurses := true, apart := false, narrowed := true }
def LossmodelRepairsUptoSaid : Prop := lossmodelRepairsUptoRow.holds Tryz.pinned (OpenSpec.upto lossmodelRepairsSpec)

end Rows
end Go.Proofs.YtkpedaflofejnaaGreat
