/-
  No cell of these rows narrows 'for every input' (looked for: loops, veiled, ifaces, maps, wideKeys, modest, calm, conditions, laid).
  DERIVED. THE GIVEN ROWS OF THIS SEAT. 12 by the template 'for every input the law returns true; each argument reads behind the call as it read before'; 0 by the template 'total and deterministic' (their statements: YtlpdkbmmbdfoiaaGreatTotals.lean).
  GIVEN WITH THE SEED: the statements are not yours to turn. If you find one false, say at which input.
  Laid BY PROGRAM, IN A SANDBOX (cutbox-rows.mjs): the forced cells as the released guide's own fill.sh prints them over the translation b46efac0a1bdc4a7… (all of the seat's roots in one cut). By AI agents, Wed Nov 11 2026. No macro, syntax, notation, axiom, sorry.
-/
import Derived.Test.YtlpdkbmmbdfoiaaGreatChecked
import GoSem.Claim
import GoSem.ClaimJoined
import GoSem.ClaimMapViews
import Derived.JoinedTies
import Derived.KernelRfl
namespace Go.Proofs.YtlpdkbmmbdfoiaaGreat
/- THE CELL 'sum', in the pinned program and in every row, IS THE sha256 OF THE DUMP (.gsa) THAT YtlpdkbmmbdfoiaaGreatProg.lean LOADS. Nothing in Lean hashes anything: it is a label: what it is worth is what the hold of that sum in a sandbox is worth. -/
noncomputable def Tryz.pinned : Pinned := { name := "ytlpdkbmmbdfoiaagreat", sum := "b46efac0a1bdc4a70eab8b4b24478830101cc9c5b8b8796ed39805e22c5210af", checked := Tryz.checked }
namespace Rows
def none {H : Type} : Left H := { results := [], args := [] }

/-- 'drydocklaw22.LumpProof': WHATEVER THE INPUT: true; the input reads as it did. -/
def lumpProofSpec : ChangeSpec := { name := "lumpProof", fn := fun _ => fun
  | [d1, d2, d3] => { results := [.lit (.bool true)], args := [d1, d2, d3] }
  | _ => none }
def lumpProofRow : OpenClaim := { program := "ytlpdkbmmbdfoiaagreat", sum := "b46efac0a1bdc4a70eab8b4b24478830101cc9c5b8b8796ed39805e22c5210af", func := "drydock/drydocklaw22.LumpProof", spec := "lumpProof", unfollowed := true, recurses := true, apart := false }
def LumpProofSaid : Prop := lumpProofRow.holds Tryz.pinned (OpenSpec.ofChange lumpProofSpec)

/-- ITS FALSE NEIGHBOUR: 'it returns false'. Refute it at one input. -/
def lumpProofWrong : ChangeSpec := { name := "lumpProof", fn := fun _ => fun
  | [d1, d2, d3] => { results := [.lit (.bool false)], args := [d1, d2, d3] }
  | _ => none }
def LumpProofWrongFalsely : Prop := lumpProofRow.holds Tryz.pinned (OpenSpec.ofChange lumpProofWrong)

/-- 'drydocklaw20.PhaseSimple': WHATEVER THE INPUT: true; the input reads as it did. -/
def phaseSimpleSpec : ChangeSpec := { name := "phaseSimple", fn := fun _ => fun
  | [d1, d2] => { results := [.lit (.bool true)], args := [d1, d2] }
  | _ => none }
def phaseSimpleRow : OpenClaim := { program := "ytlpdkbmmbdfoiaagreat", sum := "b46efac0a1bdc4a70eab8b4b24478830101cc9c5b8b8796ed39805e22c5210af", func := "drydock/drydocklaw20.PhaseSimple", spec := "phaseSimple", unfollowed := true, recurses := true, apart := false }
def PhaseSimpleSaid : Prop := phaseSimpleRow.holds Tryz.pinned (OpenSpec.ofChange phaseSimpleSpec)

/-- ITS FALSE NEIGHBOUR: 'it returns false'. Refute it at one input. -/
def phaseSimpleWrong : ChangeSpec := { name := "phaseSimple", fn := fun _ => fun
  | [d1, d2] => { results := [.lit (.bool false)], args := [d1, d2] }
  | _ => none }
def PhaseSimpleWrongFalsely : Prop := phaseSimpleRow.holds Tryz.pinned (OpenSpec.ofChange phaseSimpleWrong)

/-- 'drydocklaw20.PhaseFirst': WHATEVER THE INPUT: true; the input reads as it did. -/
def phaseFirstSpec : ChangeSpec := { name := "phaseFirst", fn := fun _ => fun
  | [d] => { results := [.lit (.bool true)], args := [d] }
  | _ => none }
def phaseFirstRow : OpenClaim := { program := "ytlpdkbmmbdfoiaagreat", sum := "b46efac0a1bdc4a70eab8b4b24478830101cc9c5b8b8796ed39805e22c5210af", func := "drydock/drydocklaw20.PhaseFirst", spec := "phaseFirst", unfollowed := true, recurses := true, apart := false }
def PhaseFirstSaid : Prop := phaseFirstRow.holds Tryz.pinned (OpenSpec.ofChange phaseFirstSpec)

/-- ITS FALSE NEIGHBOUR: 'it returns false'. Refute it at one input. -/
def phaseFirstWrong : ChangeSpec := { name := "phaseFirst", fn := fun _ => fun
  | [d] => { results := [.lit (.bool false)], args := [d] }
  | _ => none }
def PhaseFirstWrongFalsely : Prop := phaseFirstRow.holds Tryz.pinned (OpenSpec.ofChange phaseFirstWrong)

/-- 'drydocklaw20.PhaseMoments': WHATEVER THE INPUT: true; the input reads as it did. -/
def phaseMomentsSpec : ChangeSpec := { name := "phaseMoments", fn := fun _ => fun
  | [d1, d2, d3, d4] => { results := [.lit (.bool true)], args := [d1, d2, d3, d4] }
  | _ => none }
def phaseMomentsRow : OpenClaim := { program := "ytlpdkbmmbdfoiaagreat", sum := "b46efac0a1bdc4a70eab8b4b24478830101cc9c5b8b8796ed39805e22c5210af", func := "drydock/drydocklaw20.PhaseMoments", spec := "phaseMoments", unfollowed := true, recurses := true, apart := false }
def PhaseMomentsSaid : Prop := phaseMomentsRow.holds Tryz.pinned (OpenSpec.ofChange phaseMomentsSpec)

/-- ITS FALSE NEIGHBOUR: 'it returns false'. Refute it at one input. -/
def phaseMomentsWrong : ChangeSpec := { name := "phaseMoments", fn := fun _ => fun
  | [d1, d2, d3, d4] => { results := [.lit (.bool false)], args := [d1, d2, d3, d4] }
  | _ => none }
def PhaseMomentsWrongFalsely : Prop := phaseMomentsRow.holds Tryz.pinned (OpenSpec.ofChange phaseMomentsWrong)

/-- 'drydocklaw21.ChainFirstStep': WHATEVER THE INPUT: true; the input reads as it did. -/
def chainFirstStepSpec : ChangeSpec := { name := "chainFirstStep", fn := fun _ => fun
  | [d1, d2] => { results := [.lit (.bool true)], args := [d1, d2] }
  | _ => none }
def chainFirstStepRow : OpenClaim := { program := "ytlpdkbmmbdfoiaagreat", sum := "b46efac0a1bdc4a70eab8b4b24478830101cc9c5b8b8796ed39805e22c5210af", func := "drydock/drydocklaw21.ChainFirstStep", spec := "chainFirstStep", unfollowed := true, recurses := true, apart := false }
def ChainFirstStepSaid : Prop := chainFirstStepRow.holds Tryz.pinned (OpenSpec.ofChange chainFirstStepSpec)

/-- ITS FALSE NEIGHBOUR: 'it returns false'. Refute it at one input. -/
def chainFirstStepWrong : ChangeSpec := { name := "chainFirstStep", fn := fun _ => fun
  | [d1, d2] => { results := [.lit (.bool false)], args := [d1, d2] }
  | _ => none }
def ChainFirstStepWrongFalsely : Prop := chainFirstStepRow.holds Tryz.pinned (OpenSpec.ofChange chainFirstStepWrong)

/-- 'drydocklaw21.ChainMixes': WHATEVER THE INPUT: true; the input reads as it did. -/
def chainMixesSpec : ChangeSpec := { name := "chainMixes", fn := fun _ => fun
  | [d] => { results := [.lit (.bool true)], args := [d] }
  | _ => none }
def chainMixesRow : OpenClaim := { program := "ytlpdkbmmbdfoiaagreat", sum := "b46efac0a1bdc4a70eab8b4b24478830101cc9c5b8b8796ed39805e22c5210af", func := "drydock/drydocklaw21.ChainMixes", spec := "chainMixes", unfollowed := true, recurses := true, apart := false }
def ChainMixesSaid : Prop := chainMixesRow.holds Tryz.pinned (OpenSpec.ofChange chainMixesSpec)

/-- ITS FALSE NEIGHBOUR: 'it returns false'. Refute it at one input. -/
def chainMixesWrong : ChangeSpec := { name := "chainMixes", fn := fun _ => fun
  | [d] => { results := [.lit (.bool false)], args := [d] }
  | _ => none }
def ChainMixesWrongFalsely : Prop := chainMixesRow.holds Tryz.pinned (OpenSpec.ofChange chainMixesWrong)

/-- 'drydocklaw21.ChainMass': WHATEVER THE INPUT: true; the input reads as it did. -/
def chainMassSpec : ChangeSpec := { name := "chainMass", fn := fun _ => fun
  | [d1, d2] => { results := [.lit (.bool true)], args := [d1, d2] }
  | _ => none }
def chainMassRow : OpenClaim := { program := "ytlpdkbmmbdfoiaagreat", sum := "b46efac0a1bdc4a70eab8b4b24478830101cc9c5b8b8796ed39805e22c5210af", func := "drydock/drydocklaw21.ChainMass", spec := "chainMass", unfollowed := true, recurses := true, apart := false }
def ChainMassSaid : Prop := chainMassRow.holds Tryz.pinned (OpenSpec.ofChange chainMassSpec)

/-- ITS FALSE NEIGHBOUR: 'it returns false'. Refute it at one input. -/
def chainMassWrong : ChangeSpec := { name := "chainMass", fn := fun _ => fun
  | [d1, d2] => { results := [.lit (.bool false)], args := [d1, d2] }
  | _ => none }
def ChainMassWrongFalsely : Prop := chainMassRow.holds Tryz.pinned (OpenSpec.ofChange chainMassWrong)

/-- 'drydocklaw21.ChainMade': WHATEVER THE INPUT: true; the input reads as it did. -/
def chainMadeSpec : ChangeSpec := { name := "chainMade", fn := fun _ => fun
  | [d1, d2, d3] => { results := [.lit (.bool true)], args := [d1, d2, d3] }
  | _ => none }
def chainMadeRow : OpenClaim := { program := "ytlpdkbmmbdfoiaagreat", sum := "b46efac0a1bdc4a70eab8b4b24478830101cc9c5b8b8796ed39805e22c5210af", func := "drydock/drydocklaw21.ChainMade", spec := "chainMade", unfollowed := true, recurses := true, apart := false }
def ChainMadeSaid : Prop := chainMadeRow.holds Tryz.pinned (OpenSpec.ofChange chainMadeSpec)

/-- ITS FALSE NEIGHBOUR: 'it returns false'. Refute it at one input. -/
def chainMadeWrong : ChangeSpec := { name := "chainMade", fn := fun _ => fun
  | [d1, d2, d3] => { results := [.lit (.bool false)], args := [d1, d2, d3] }
  | _ => none }
def ChainMadeWrongFalsely : Prop := chainMadeRow.holds Tryz.pinned (OpenSpec.ofChange chainMadeWrong)

/-- 'drydocklaw21.ChainSteps': WHATEVER THE INPUT: true; the input reads as it did. -/
def chainStepsSpec : ChangeSpec := { name := "chainSteps", fn := fun _ => fun
  | [d1, d2, d3, d4] => { results := [.lit (.bool true)], args := [d1, d2, d3, d4] }
  | _ => none }
def chainStepsRow : OpenClaim := { program := "ytlpdkbmmbdfoiaagreat", sum := "b46efac0a1bdc4a70eab8b4b24478830101cc9c5b8b8796ed39805e22c5210af", func := "drydock/drydocklaw21.ChainSteps", spec := "chainSteps", unfollowed := true, recurses := true, apart := false }
def ChainStepsSaid : Prop := chainStepsRow.holds Tryz.pinned (OpenSpec.ofChange chainStepsSpec)

/-- ITS FALSE NEIGHBOUR: 'it returns false'. Refute it at one input. -/
def chainStepsWrong : ChangeSpec := { name := "chainSteps", fn := fun _ => fun
  | [d1, d2, d3, d4] => { results := [.lit (.bool false)], args := [d1, d2, d3, d4] }
  | _ => none }
def ChainStepsWrongFalsely : Prop := chainStepsRow.holds Tryz.pinned (OpenSpec.ofChange chainStepsWrong)

/-- 'drydocklaw20.PhaseMade': WHATEVER THE INPUT: true; the input reads as it did. -/
def phaseMadeSpec : ChangeSpec := { name := "phaseMade", fn := fun _ => fun
  | [d1, d2, d3, d4] => { results := [.lit (.bool true)], args := [d1, d2, d3, d4] }
  | _ => none }
def phaseMadeRow : OpenClaim := { program := "ytlpdkbmmbdfoiaagreat", sum := "b46efac0a1bdc4a70eab8b4b24478830101cc9c5b8b8796ed39805e22c5210af", func := "drydock/drydocklaw20.PhaseMade", spec := "phaseMade", unfollowed := true, recurses := true, apart := false }
def PhaseMadeSaid : Prop := phaseMadeRow.holds Tryz.pinned (OpenSpec.ofChange phaseMadeSpec)

/-- ITS FALSE NEIGHBOUR: 'it returns false'. Refute it at one input. -/
def phaseMadeWrong : ChangeSpec := { name := "phaseMade", fn := fun _ => fun
  | [d1, d2, d3, d4] => { results := [.lit (.bool false)], args := [d1, d2, d3, d4] }
  | _ => none }
def PhaseMadeWrongFalsely : Prop := phaseMadeRow.holds Tryz.pinned (OpenSpec.ofChange phaseMadeWrong)

/-- 'drydocklaw20.PhaseMeans': WHATEVER THE INPUT: true; the input reads as it did. -/
def phaseMeansSpec : ChangeSpec := { name := "phaseMeans", fn := fun _ => fun
  | [d1, d2, d3] => { results := [.lit (.bool true)], args := [d1, d2, d3] }
  | _ => none }
def phaseMeansRow : OpenClaim := { program := "ytlpdkbmmbdfoiaagreat", sum := "b46efac0a1bdc4a70eab8b4b24478830101cc9c5b8b8796ed39805e22c5210af", func := "drydock/drydocklaw20.PhaseMeans", spec := "phaseMeans", unfollowed := true, recurses := true, apart := false }
def PhaseMeansSaid : Prop := phaseMeansRow.holds Tryz.pinned (OpenSpec.ofChange phaseMeansSpec)

/-- ITS FALSE NEIGHBOUR: 'it returns false'. Refute it at one input. -/
def phaseMeansWrong : ChangeSpec := { name := "phaseMeans", fn := fun _ => fun
  | [d1, d2, d3] => { results := [.lit (.bool false)], args := [d1, d2, d3] }
  | _ => none }
def PhaseMeansWrongFalsely : Prop := phaseMeansRow.holds Tryz.pinned (OpenSpec.ofChange phaseMeansWrong)

/-- 'drydocklaw22.LumpSame': WHATEVER THE INPUT: true; the input reads as it did. -/
def lumpSameSpec : ChangeSpec := { name := "lumpSame", fn := fun _ => fun
  | [d1, d2] => { results := [.lit (.bool true)], args := [d1, d2] }
  | _ => none }
def lumpSameRow : OpenClaim := { program := "ytlpdkbmmbdfoiaagreat", sum := "b46efac0a1bdc4a70eab8b4b24478830101cc9c5b8b8796ed39805e22c5210af", func := "drydock/drydocklaw22.LumpSame", spec := "lumpSame", unfollowed := true, recurses := true, apart := false }
def LumpSameSaid : Prop := lumpSameRow.holds Tryz.pinned (OpenSpec.ofChange lumpSameSpec)

/-- ITS FALSE NEIGHBOUR: 'it returns false'. Refute it at one input. -/
def lumpSameWrong : ChangeSpec := { name := "lumpSame", fn := fun _ => fun
  | [d1, d2] => { results := [.lit (.bool false)], args := [d1, d2] }
  | _ => none }
def LumpSameWrongFalsely : Prop := lumpSameRow.holds Tryz.pinned (OpenSpec.ofChange lumpSameWrong)

/- THE SECOND FORM. 'bulk': how many values and letters a reading holds, each counted each time it is reached (what is shared counts as often as it is met; a slice's spare places count too). A statement '..UptoSaid' is the law's where the arguments, and the package variables that the reading takes, are together of bulk at most 1048576: NARROWER than '..Said'. Prove '..Said' where nothing that the law and all that it calls make is longer than what came in: it says more and counts as full. Else prove '..UptoSaid'. A law counts once. -/
mutual
def uptoBulk {H : Type} : DataW H → Nat
  | .lit (.string bytes) => bytes.length + 1
  | .lit _ => 1
  | .nil => 1
  | .ptr d => uptoBulk d + 1
  | .slice elems spare => uptoBulkAll elems + uptoBulkAll spare + 1
  | .agg parts => uptoBulkAll parts + 1
  | .iface _ d => uptoBulk d + 1
  | .map entries => uptoBulkEntries entries + 1
  | .held _ => 1
def uptoBulkAll {H : Type} : List (DataW H) → Nat
  | [] => 0
  | d :: r => uptoBulk d + uptoBulkAll r
def uptoBulkEntries {H : Type} : List (Lit × DataW H) → Nat
  | [] => 0
  | x :: r => uptoBulkEntry x + uptoBulkEntries r
def uptoBulkEntry {H : Type} : Lit × DataW H → Nat
  | (.string bytes, d) => bytes.length + uptoBulk d + 1
  | (_, d) => uptoBulk d + 1
 end
def uptoSmall : (H : Type) → List (DataW H) → Bool := fun _ ds => decide (uptoBulkAll ds ≤ 1048576)
def OpenSpec.upto (s : _root_.Go.ChangeSpec) : _root_.Go.OpenSpec := { _root_.Go.OpenSpec.ofChange s with cond := some uptoSmall }

/-- 'drydocklaw22.LumpProof', WHERE WHAT IT READS IS OF BULK AT MOST 1048576: true; the input reads as it did. -/
def lumpProofUptoRow : OpenClaim := { program := "ytlpdkbmmbdfoiaagreat", sum := "b46efac0a1bdc4a70eab8b4b24478830101cc9c5b8b8796ed39805e22c5210af", func := "drydock/drydocklaw22.LumpProof", spec := "lumpProof", unfollowed := true, recurses := true, apart := false, narrowed := true }
def LumpProofUptoSaid : Prop := lumpProofUptoRow.holds Tryz.pinned (OpenSpec.upto lumpProofSpec)

/-- 'drydocklaw20.PhaseSimple', WHERE WHAT IT READS IS OF BULK AT MOST 1048576: true; the input reads as it did. -/
def phaseSimpleUptoRow : OpenClaim := { program := "ytlpdkbmmbdfoiaagreat", sum := "b46efac0a1bdc4a70eab8b4b24478830101cc9c5b8b8796ed39805e22c5210af", func := "drydock/drydocklaw20.PhaseSimple", spec := "phaseSimple", unfollowed := true, recurses := true, apart := false, narrowed := true }
def PhaseSimpleUptoSaid : Prop := phaseSimpleUptoRow.holds Tryz.pinned (OpenSpec.upto phaseSimpleSpec)

/-- 'drydocklaw20.PhaseFirst', WHERE WHAT IT READS IS OF BULK AT MOST 1048576: true; the input reads as it did. -/
def phaseFirstUptoRow : OpenClaim := { program := "ytlpdkbmmbdfoiaagreat", sum := "b46efac0a1bdc4a70eab8b4b24478830101cc9c5b8b8796ed39805e22c5210af", func := "drydock/drydocklaw20.PhaseFirst", spec := "phaseFirst", unfollowed := true, recurses := true, apart := false, narrowed := true }
def PhaseFirstUptoSaid : Prop := phaseFirstUptoRow.holds Tryz.pinned (OpenSpec.upto phaseFirstSpec)

/-- 'drydocklaw20.PhaseMoments', WHERE WHAT IT READS IS OF BULK AT MOST 1048576: true; the input reads as it did. -/
def phaseMomentsUptoRow : OpenClaim := { program := "ytlpdkbmmbdfoiaagreat", sum := "b46efac0a1bdc4a70eab8b4b24478830101cc9c5b8b8796ed39805e22c5210af", func := "drydock/drydocklaw20.PhaseMoments", spec := "phaseMoments", unfollowed := true, recurses := true, apart := false, narrowed := true }
def PhaseMomentsUptoSaid : Prop := phaseMomentsUptoRow.holds Tryz.pinned (OpenSpec.upto phaseMomentsSpec)

/-- 'drydocklaw21.ChainFirstStep', WHERE WHAT IT READS IS OF BULK AT MOST 1048576: true; the input reads as it did. -/
def chainFirstStepUptoRow : OpenClaim := { program := "ytlpdkbmmbdfoiaagreat", sum := "b46efac0a1bdc4a70eab8b4b24478830101cc9c5b8b8796ed39805e22c5210af", func := "drydock/drydocklaw21.ChainFirstStep", spec := "chainFirstStep", unfollowed := true, recurses := true, apart := false, narrowed := true }
def ChainFirstStepUptoSaid : Prop := chainFirstStepUptoRow.holds Tryz.pinned (OpenSpec.upto chainFirstStepSpec)

/-- 'drydocklaw21.ChainMixes', WHERE WHAT IT READS IS OF BULK AT MOST 1048576: true; the input reads as it did. -/
def chainMixesUptoRow : OpenClaim := { program := "ytlpdkbmmbdfoiaagreat", sum := "b46efac0a1bdc4a70eab8b4b24478830101cc9c5b8b8796ed39805e22c5210af", func := "drydock/drydocklaw21.ChainMixes", spec := "chainMixes", unfollowed := true, recurses := true, apart := false, narrowed := true }
def ChainMixesUptoSaid : Prop := chainMixesUptoRow.holds Tryz.pinned (OpenSpec.upto chainMixesSpec)

/-- 'drydocklaw21.ChainMass', WHERE WHAT IT READS IS OF BULK AT MOST 1048576: true; the input reads as it did. -/
def chainMassUptoRow : OpenClaim := { program := "ytlpdkbmmbdfoiaagreat", sum := "b46efac0a1bdc4a70eab8b4b24478830101cc9c5b8b8796ed39805e22c5210af", func := "drydock/drydocklaw21.ChainMass", spec := "chainMass", unfollowed := true, recurses := true, apart := false, narrowed := true }
def ChainMassUptoSaid : Prop := chainMassUptoRow.holds Tryz.pinned (OpenSpec.upto chainMassSpec)

/-- 'drydocklaw21.ChainMade', WHERE WHAT IT READS IS OF BULK AT MOST 1048576: true; the input reads as it did. -/
def chainMadeUptoRow : OpenClaim := { program := "ytlpdkbmmbdfoiaagreat", sum := "b46efac0a1bdc4a70eab8b4b24478830101cc9c5b8b8796ed39805e22c5210af", func := "drydock/drydocklaw21.ChainMade", spec := "chainMade", unfollowed := true, recurses := true, apart := false, narrowed := true }
def ChainMadeUptoSaid : Prop := chainMadeUptoRow.holds Tryz.pinned (OpenSpec.upto chainMadeSpec)

/-- 'drydocklaw21.ChainSteps', WHERE WHAT IT READS IS OF BULK AT MOST 1048576: true; the input reads as it did. -/
def chainStepsUptoRow : OpenClaim := { program := "ytlpdkbmmbdfoiaagreat", sum := "b46efac0a1bdc4a70eab8b4b24478830101cc9c5b8b8796ed39805e22c5210af", func := "drydock/drydocklaw21.ChainSteps", spec := "chainSteps", unfollowed := true, recurses := true, apart := false, narrowed := true }
def ChainStepsUptoSaid : Prop := chainStepsUptoRow.holds Tryz.pinned (OpenSpec.upto chainStepsSpec)

/-- 'drydocklaw20.PhaseMade', WHERE WHAT IT READS IS OF BULK AT MOST 1048576: true; the input reads as it did. -/
def phaseMadeUptoRow : OpenClaim := { program := "ytlpdkbmmbdfoiaagreat", sum := "b46efac0a1bdc4a70eab8b4b24478830101cc9c5b8b8796ed39805e22c5210af", func := "drydock/drydocklaw20.PhaseMade", spec := "phaseMade", unfollowed := true, recurses := true, apart := false, narrowed := true }
def PhaseMadeUptoSaid : Prop := phaseMadeUptoRow.holds Tryz.pinned (OpenSpec.upto phaseMadeSpec)

/-- 'drydocklaw20.PhaseMeans', WHERE WHAT IT READS IS OF BULK AT MOST 1048576: true; the input reads as it did. -/
def phaseMeansUptoRow : OpenClaim := { program := "ytlpdkbmmbdfoiaagreat", sum := "b46efac0a1bdc4a70eab8b4b24478830101cc9c5b8b8796ed39805e22c5210af", func := "drydock/drydocklaw20.PhaseMeans", spec := "phaseMeans", unfollowed := true, recurses := true, apart := false, narrowed := true }
def PhaseMeansUptoSaid : Prop := phaseMeansUptoRow.holds Tryz.pinned (OpenSpec.upto phaseMeansSpec)

/-- 'drydocklaw22.LumpSame', WHERE WHAT IT READS IS OF BULK AT MOST 1048576: true; the input reads as it did. -/
def lumpSameUptoRow : OpenClaim := { program := "ytlpdkbmmbdfoiaagreat", sum := "b46efac0a1bdc4a70eab8b4b24478830101cc9c5b8b8796ed39805e22c5210af", func := "drydock/drydocklaw22.LumpSame", spec := "lumpSame", unfollowed := true, recurses := true, apart := false, narrowed := true }
def LumpSameUptoSaid : Prop := lumpSameUptoRow.holds Tryz.pinned (OpenSpec.upto lumpSameSpec)

end Rows
end Go.Proofs.YtlpdkbmmbdfoiaaGreat
