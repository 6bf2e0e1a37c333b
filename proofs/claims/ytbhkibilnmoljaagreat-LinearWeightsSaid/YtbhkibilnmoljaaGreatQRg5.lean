/-
  package drydockref05: Apply.
  Ahead of it: package drydockref05: Dot.
-/
import Derived.Test.YtbhkibilnmoljaaGreatQOrd
import Derived.Test.YtbhkibilnmoljaaGreatQRg3
namespace Go.Proofs.YtbhkibilnmoljaaGreat
set_option linter.unusedVariables false
set_option linter.unusedSimpArgs false
open Go.RowKit


end Go.Proofs.YtbhkibilnmoljaaGreat
namespace Go.Proofs.YtbhkibilnmoljaaGreat
set_option linter.unusedVariables false
set_option linter.unusedSimpArgs false
open Go.RowKit

end Go.Proofs.YtbhkibilnmoljaaGreat
