/- Plain Lean functions for Go functions, and their contracts: written by a program (the kit's printer) over a list of functions. -/
import Derived.Test.YtobjiamaapcbmaaPRefx0
import Derived.Test.YtobjiamaapcbmaaPRefx1
import Derived.Test.YtobjiamaapcbmaaPRefx2
namespace Go.Proofs.Ytobjiamaapcbmaa.PRef
open Go.RowKit Go.Proofs.YtobjiamaapcbmaaW.PrintWords Go.Proofs.YtobjiamaapcbmaaW.PrintLast Go.Proofs.YtobjiamaapcbmaaW.PrintMore
attribute [local go_sem] max2_int min2_int max_two min_two max_three min_three max_four min_four   -- for this text's walks alone
set_option linter.unusedVariables false
set_option linter.unusedSimpArgs false

end Go.Proofs.Ytobjiamaapcbmaa.PRef
