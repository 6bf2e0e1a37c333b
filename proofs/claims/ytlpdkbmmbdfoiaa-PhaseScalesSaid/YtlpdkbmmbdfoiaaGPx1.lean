/-
  package drydocklaw20: PhaseFirst, the walk.
-/
import Derived.Test.YtlpdkbmmbdfoiaaGCh2
import Derived.Test.YtlpdkbmmbdfoiaaGTp1
import Derived.Test.YtlpdkbmmbdfoiaaGPp6
import Derived.Test.YtlpdkbmmbdfoiaaGPh17
set_option linter.unusedVariables false
set_option linter.unusedSimpArgs false
namespace Go.Proofs.Ytlpdkbmmbdfoiaa
open Go.RowKit
theorem r2same_can (va vb:Value) (p q:Rat) (w:World) (ha:zqa w va p) (hb:zqa w vb q) (hp:fits p) (hq:fits q):Calls Try.prog 11 #[va,vb] w fun en w'=>en= .returned (.bool (decide (p=q)))∧Below w.heap.size w w':=by
 have h:=r2same_any va vb _ _ _ _ _ _ w ha.raw hb.raw ⟨p.den_nz,hp.2,hp.1⟩ ⟨q.den_nz,hq.2,hq.1⟩
 rw[zvb,zvb]at h
 exact h
theorem psame_t (va vb:Value) {p q:Rat} {w:World} (ha:zqa w va p) (hb:zqa w vb q) (hp:fits p) (h:p=q):Calls Try.prog 11 #[va,vb] w fun en w'=>en= .returned (.bool true)∧Below w.heap.size w w':=by
 subst h
 refine(r2same_can va vb p p w ha hb hp hp).mono ?_
 rintro e w' ⟨rfl,hb⟩
 exact⟨by rw[decide_eq_true rfl],hb⟩
end Go.Proofs.Ytlpdkbmmbdfoiaa
