/- The chapter's example of layer 8. -/
import Derived.Test.YtjhhfininnlkfaaWeightPass
import Derived.Test.YtjhhfininnlkfaaTreeThree
namespace Go.Proofs.Ytjhhfininnlkfaa
open Go.RowKit Go.WideShapes Go.ChangeShapes
set_option linter.unusedVariables false
set_option linter.unusedSimpArgs false










































end Go.Proofs.Ytjhhfininnlkfaa
