/-
  The document's Derive; keys of two: Mix.
-/
import Derived.Test.YtlomofcnknpciaaFour
set_option linter.unusedSimpArgs false
set_option linter.unusedVariables false
namespace Go.Proofs.Ytlomofcnknpciaa
open Go.RowKit

end Go.Proofs.Ytlomofcnknpciaa
