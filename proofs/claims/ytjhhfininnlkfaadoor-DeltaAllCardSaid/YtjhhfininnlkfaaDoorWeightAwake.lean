/- The chapter's example of layer 8. -/
import Derived.Test.YtjhhfininnlkfaaDoorWeightPass
import Derived.Test.YtjhhfininnlkfaaDoorTreeThree
namespace Go.Proofs.YtjhhfininnlkfaaDoor
open Go.RowKit Go.WideShapes Go.ChangeShapes
set_option linter.unusedVariables false
set_option linter.unusedSimpArgs false










































end Go.Proofs.YtjhhfininnlkfaaDoor
