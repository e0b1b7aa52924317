import Derived.Test.YtmoigffjpijpaabW7
set_option linter.unusedVariables false
set_option linter.unusedSimpArgs false
namespace Go.Proofs.Ytmoigffjpijpaab
open Go Go.PV
end Go.Proofs.Ytmoigffjpijpaab

