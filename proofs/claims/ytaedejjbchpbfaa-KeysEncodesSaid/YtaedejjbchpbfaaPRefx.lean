/- Plain Lean functions for Go functions, and their contracts: written by a program (the kit's printer) over a list of functions. -/
import Derived.Test.YtaedejjbchpbfaaPRefx0
import Derived.Test.YtaedejjbchpbfaaPRefx1
import Derived.Test.YtaedejjbchpbfaaPRefx2
import Derived.Test.YtaedejjbchpbfaaPRefx3
import Derived.Test.YtaedejjbchpbfaaPRefx4
import Derived.Test.YtaedejjbchpbfaaPRefx5
import Derived.Test.YtaedejjbchpbfaaPRefx6
namespace Go.Proofs.Ytaedejjbchpbfaa.PRef
open Go.RowKit Go.Proofs.YtaedejjbchpbfaaW.PrintWords Go.Proofs.YtaedejjbchpbfaaW.PrintLast Go.Proofs.YtaedejjbchpbfaaW.PrintMore
attribute [local go_sem] max2_int min2_int max_two min_two max_three min_three max_four min_four   -- for this text's walks alone
set_option linter.unusedVariables false
set_option linter.unusedSimpArgs false

end Go.Proofs.Ytaedejjbchpbfaa.PRef
