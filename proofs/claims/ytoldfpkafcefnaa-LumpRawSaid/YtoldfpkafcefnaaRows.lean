/-
  No cell of these rows narrows 'for every input' (looked for: loops, veiled, ifaces, maps, wideKeys, modest, calm, conditions, laid).
  DERIVED. THE GIVEN ROWS OF THIS SEAT. 5 by the template 'for every input the law returns true; each argument reads behind the call as it read before'; 0 by the template 'total and deterministic' (their statements: YtoldfpkafcefnaaTotals.lean).
  GIVEN WITH THE SEED: the statements are not yours to turn. If you find one false, say at which input.
  Laid BY PROGRAM, IN A SANDBOX (cutbox-rows.mjs): the forced cells as the released guide's own fill.sh prints them over the translation 439d1da20dc978d0… (all of the seat's roots in one cut). By AI agents, Wed Nov 11 2026. No macro, syntax, notation, axiom, sorry.
-/
import Derived.Test.YtoldfpkafcefnaaChecked
import GoSem.Claim
import GoSem.ClaimJoined
import GoSem.ClaimMapViews
import Derived.JoinedTies
import Derived.KernelRfl
namespace Go.Proofs.Ytoldfpkafcefnaa
/- THE CELL 'sum', in the pinned program and in every row, IS THE sha256 OF THE DUMP (.gsa) THAT YtoldfpkafcefnaaProg.lean LOADS. Nothing in Lean hashes anything: it is a label: what it is worth is what the hold of that sum in a sandbox is worth. -/
noncomputable def Try.pinned : Pinned := { name := "ytoldfpkafcefnaa", sum := "439d1da20dc978d0886dd12f1740c9ac2954d67d7a79d85edd0ed264f37a8622", checked := Try.checked }
namespace Rows
def none {H : Type} : Left H := { results := [], args := [] }

/-- 'drydocklaw22.LumpMade': WHATEVER THE INPUT: true; the input reads as it did. -/
def lumpMadeSpec : ChangeSpec := { name := "lumpMade", fn := fun _ => fun
  | [d1, d2] => { results := [.lit (.bool true)], args := [d1, d2] }
  | _ => none }
def lumpMadeRow : OpenClaim := { program := "ytoldfpkafcefnaa", sum := "439d1da20dc978d0886dd12f1740c9ac2954d67d7a79d85edd0ed264f37a8622", func := "drydock/drydocklaw22.LumpMade", spec := "lumpMade", unfollowed := true, recurses := true, apart := false }
def LumpMadeSaid : Prop := lumpMadeRow.holds Try.pinned (OpenSpec.ofChange lumpMadeSpec)

/-- ITS FALSE NEIGHBOUR: 'it returns false'. Refute it at one input. -/
def lumpMadeWrong : ChangeSpec := { name := "lumpMade", fn := fun _ => fun
  | [d1, d2] => { results := [.lit (.bool false)], args := [d1, d2] }
  | _ => none }
def LumpMadeWrongFalsely : Prop := lumpMadeRow.holds Try.pinned (OpenSpec.ofChange lumpMadeWrong)

/-- 'drydocklaw22.LumpCopies': WHATEVER THE INPUT: true; the input reads as it did. -/
def lumpCopiesSpec : ChangeSpec := { name := "lumpCopies", fn := fun _ => fun
  | [d] => { results := [.lit (.bool true)], args := [d] }
  | _ => none }
def lumpCopiesRow : OpenClaim := { program := "ytoldfpkafcefnaa", sum := "439d1da20dc978d0886dd12f1740c9ac2954d67d7a79d85edd0ed264f37a8622", func := "drydock/drydocklaw22.LumpCopies", spec := "lumpCopies", unfollowed := true, recurses := true, apart := false }
def LumpCopiesSaid : Prop := lumpCopiesRow.holds Try.pinned (OpenSpec.ofChange lumpCopiesSpec)

/-- ITS FALSE NEIGHBOUR: 'it returns false'. Refute it at one input. -/
def lumpCopiesWrong : ChangeSpec := { name := "lumpCopies", fn := fun _ => fun
  | [d] => { results := [.lit (.bool false)], args := [d] }
  | _ => none }
def LumpCopiesWrongFalsely : Prop := lumpCopiesRow.holds Try.pinned (OpenSpec.ofChange lumpCopiesWrong)

/-- 'drydocklaw22.LumpCoarsest': WHATEVER THE INPUT: true; the input reads as it did. -/
def lumpCoarsestSpec : ChangeSpec := { name := "lumpCoarsest", fn := fun _ => fun
  | [d1, d2] => { results := [.lit (.bool true)], args := [d1, d2] }
  | _ => none }
def lumpCoarsestRow : OpenClaim := { program := "ytoldfpkafcefnaa", sum := "439d1da20dc978d0886dd12f1740c9ac2954d67d7a79d85edd0ed264f37a8622", func := "drydock/drydocklaw22.LumpCoarsest", spec := "lumpCoarsest", unfollowed := true, recurses := true, apart := false }
def LumpCoarsestSaid : Prop := lumpCoarsestRow.holds Try.pinned (OpenSpec.ofChange lumpCoarsestSpec)

/-- ITS FALSE NEIGHBOUR: 'it returns false'. Refute it at one input. -/
def lumpCoarsestWrong : ChangeSpec := { name := "lumpCoarsest", fn := fun _ => fun
  | [d1, d2] => { results := [.lit (.bool false)], args := [d1, d2] }
  | _ => none }
def LumpCoarsestWrongFalsely : Prop := lumpCoarsestRow.holds Try.pinned (OpenSpec.ofChange lumpCoarsestWrong)

/-- 'drydocklaw22.LumpSingle': WHATEVER THE INPUT: true; the input reads as it did. -/
def lumpSingleSpec : ChangeSpec := { name := "lumpSingle", fn := fun _ => fun
  | [d] => { results := [.lit (.bool true)], args := [d] }
  | _ => none }
def lumpSingleRow : OpenClaim := { program := "ytoldfpkafcefnaa", sum := "439d1da20dc978d0886dd12f1740c9ac2954d67d7a79d85edd0ed264f37a8622", func := "drydock/drydocklaw22.LumpSingle", spec := "lumpSingle", unfollowed := true, recurses := true, apart := false }
def LumpSingleSaid : Prop := lumpSingleRow.holds Try.pinned (OpenSpec.ofChange lumpSingleSpec)

/-- ITS FALSE NEIGHBOUR: 'it returns false'. Refute it at one input. -/
def lumpSingleWrong : ChangeSpec := { name := "lumpSingle", fn := fun _ => fun
  | [d] => { results := [.lit (.bool false)], args := [d] }
  | _ => none }
def LumpSingleWrongFalsely : Prop := lumpSingleRow.holds Try.pinned (OpenSpec.ofChange lumpSingleWrong)

/-- 'drydocklaw22.LumpRaw': WHATEVER THE INPUT: true; the input reads as it did. -/
def lumpRawSpec : ChangeSpec := { name := "lumpRaw", fn := fun _ => fun
  | [d1, d2, d3] => { results := [.lit (.bool true)], args := [d1, d2, d3] }
  | _ => none }
def lumpRawRow : OpenClaim := { program := "ytoldfpkafcefnaa", sum := "439d1da20dc978d0886dd12f1740c9ac2954d67d7a79d85edd0ed264f37a8622", func := "drydock/drydocklaw22.LumpRaw", spec := "lumpRaw", unfollowed := true, recurses := true, apart := false }
def LumpRawSaid : Prop := lumpRawRow.holds Try.pinned (OpenSpec.ofChange lumpRawSpec)

/-- ITS FALSE NEIGHBOUR: 'it returns false'. Refute it at one input. -/
def lumpRawWrong : ChangeSpec := { name := "lumpRaw", fn := fun _ => fun
  | [d1, d2, d3] => { results := [.lit (.bool false)], args := [d1, d2, d3] }
  | _ => none }
def LumpRawWrongFalsely : Prop := lumpRawRow.holds Try.pinned (OpenSpec.ofChange lumpRawWrong)

/- THE SECOND FORM. 'bulk': how many values and letters a reading holds, each counted each time it is reached (what is shared counts as often as it is met; a slice's spare places count too). A statement '..UptoSaid' is the law's where the arguments, and the package variables that the reading takes, are together of bulk at most 1048576: NARROWER than '..Said'. Prove '..Said' where nothing that the law and all that it calls make is longer than what came in: it says more and counts as full. Else prove '..UptoSaid'. A law counts once. -/
mutual
def uptoBulk {H : Type} : DataW H → Nat
  | .lit (.string bytes) => bytes.length + 1
  | .lit _ => 1
  | .nil => 1
  | .ptr d => uptoBulk d + 1
  | .slice elems spare => uptoBulkAll elems + uptoBulkAll spare + 1
  | .agg parts => uptoBulkAll parts + 1
  | .iface _ d => uptoBulk d + 1
  | .map entries => uptoBulkEntries entries + 1
  | .held _ => 1
def uptoBulkAll {H : Type} : List (DataW H) → Nat
  | [] => 0
  | d :: r => uptoBulk d + uptoBulkAll r
def uptoBulkEntries {H : Type} : List (Lit × DataW H) → Nat
  | [] => 0
  | x :: r => uptoBulkEntry x + uptoBulkEntries r
def uptoBulkEntry {H : Type} : Lit × DataW H → Nat
  | (.string bytes, d) => bytes.length + uptoBulk d + 1
  | (_, d) => uptoBulk d + 1
 end
def uptoSmall : (H : Type) → List (DataW H) → Bool := fun _ ds => decide (uptoBulkAll ds ≤ 1048576)
def OpenSpec.upto (s : _root_.Go.ChangeSpec) : _root_.Go.OpenSpec := { _root_.Go.OpenSpec.ofChange s with cond := some uptoSmall }

/-- 'drydocklaw22.LumpMade', WHERE WHAT IT READS IS OF BULK AT MOST 1048576: true; the input reads as it did. -/
def lumpMadeUptoRow : OpenClaim := { program := "ytoldfpkafcefnaa", sum := "439d1da20dc978d0886dd12f1740c9ac2954d67d7a79d85edd0ed264f37a8622", func := "drydock/drydocklaw22.LumpMade", spec := "lumpMade", unfollowed := true, recurses := true, apart := false, narrowed := true }
def LumpMadeUptoSaid : Prop := lumpMadeUptoRow.holds Try.pinned (OpenSpec.upto lumpMadeSpec)

/-- 'drydocklaw22.LumpCopies', WHERE WHAT IT READS IS OF BULK AT MOST 1048576: true; the input reads as it did. -/
def lumpCopiesUptoRow : OpenClaim := { program := "ytoldfpkafcefnaa", sum := "439d1da20dc978d0886dd12f1740c9ac2954d67d7a79d85edd0ed264f37a8622", func := "drydock/drydocklaw22.LumpCopies", spec := "lumpCopies", unfollowed := true, recurses := true, apart := false, narrowed := true }
def LumpCopiesUptoSaid : Prop := lumpCopiesUptoRow.holds Try.pinned (OpenSpec.upto lumpCopiesSpec)

/-- 'drydocklaw22.LumpCoarsest', WHERE WHAT IT READS IS OF BULK AT MOST 1048576: true; the input reads as it did. -/
def lumpCoarsestUptoRow : OpenClaim := { program := "ytoldfpkafcefnaa", sum := "439d1da20dc978d0886dd12f1740c9ac2954d67d7a79d85edd0ed264f37a8622", func := "drydock/drydocklaw22.LumpCoarsest", spec := "lumpCoarsest", unfollowed := true, recurses := true, apart := false, narrowed := true }
def LumpCoarsestUptoSaid : Prop := lumpCoarsestUptoRow.holds Try.pinned (OpenSpec.upto lumpCoarsestSpec)

/-- 'drydocklaw22.LumpSingle', WHERE WHAT IT READS IS OF BULK AT MOST 1048576: true; the input reads as it did. -/
def lumpSingleUptoRow : OpenClaim := { program := "ytoldfpkafcefnaa", sum := "439d1da20dc978d0886dd12f1740c9ac2954d67d7a79d85edd0ed264f37a8622", func := "drydock/drydocklaw22.LumpSingle", spec := "lumpSingle", unfollowed := true, recurses := true, apart := false, narrowed := true }
def LumpSingleUptoSaid : Prop := lumpSingleUptoRow.holds Try.pinned (OpenSpec.upto lumpSingleSpec)

/-- 'drydocklaw22.LumpRaw', WHERE WHAT IT READS IS OF BULK AT MOST 1048576: true; the input reads as it did. -/
def lumpRawUptoRow : OpenClaim := { program := "ytoldfpkafcefnaa", sum := "439d1da20dc978d0886dd12f1740c9ac2954d67d7a79d85edd0ed264f37a8622", func := "drydock/drydocklaw22.LumpRaw", spec := "lumpRaw", unfollowed := true, recurses := true, apart := false, narrowed := true }
def LumpRawUptoSaid : Prop := lumpRawUptoRow.holds Try.pinned (OpenSpec.upto lumpRawSpec)

end Rows
end Go.Proofs.Ytoldfpkafcefnaa
