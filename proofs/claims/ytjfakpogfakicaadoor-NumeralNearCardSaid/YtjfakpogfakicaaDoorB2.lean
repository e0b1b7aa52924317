import Derived.Test.YtjfakpogfakicaaDoorB1
set_option linter.unusedVariables false
set_option linter.unusedSimpArgs false
namespace Go.Proofs.YtjfakpogfakicaaDoor
open Go Go.PV
end Go.Proofs.YtjfakpogfakicaaDoor

