/- Plain Lean functions for Go functions, and their contracts: written by a program (the kit's printer) over a list of functions. -/
import Derived.Test.YtaedejjbchpbfaaProg
import Derived.Below
import Derived.Deep.Draws
import Derived.Deep.AppendLies
import Derived.Maps.AppendAt
import Derived.OwnWalk
import Derived.Laws.BytesArg
import Derived.Laws.MakeOwn
import Derived.Laws.OwnMore
import Derived.Deep.OwnRows
import Derived.Tactics
import Derived.Lib.ConvBytes
import Derived.Laws.Slices
import Derived.WalkKit
import Derived.KernelRfl
import Derived.RowKit3
import Derived.Deep.LoopGhost
import Derived.Deep.QuietTactic
import Derived.BigQuiet
import Derived.WideLaws
import Derived.Deep.DeepCutAuto
import Derived.Deep.CutBlock
import Derived.Deep.RegionHeld3
import Derived.Laws.Rows
import Derived.Lib.AppendStr
import Derived.ArgAppend
import Derived.Laws.IdiomCopy
import Derived.OrdersHeld
import Derived.Laws.BitsLemmas
import Derived.RowKit
import Derived.Test.YtaedejjbchpbfaaWWords
import Derived.Test.YtaedejjbchpbfaaWLast
import Derived.Test.YtaedejjbchpbfaaWTab
import Derived.Test.YtaedejjbchpbfaaWFour
import Derived.Test.YtaedejjbchpbfaaWQPut
import Derived.Test.YtaedejjbchpbfaaWApart
import Derived.Test.YtaedejjbchpbfaaWArr
import Derived.Test.YtaedejjbchpbfaaWZeros
import Derived.Test.YtaedejjbchpbfaaWFoot
import Derived.Test.YtaedejjbchpbfaaWKept
import Derived.Test.YtaedejjbchpbfaaWShare
import Derived.Test.YtaedejjbchpbfaaWN
import Derived.Test.YtaedejjbchpbfaaWFootNe
import Derived.Test.YtaedejjbchpbfaaWAt
import Derived.Test.YtaedejjbchpbfaaWEqStruct
import Derived.Test.YtaedejjbchpbfaaWRepsOne
import Derived.Test.YtaedejjbchpbfaaWInv
import Derived.Test.YtaedejjbchpbfaaWInvWords
import Derived.Test.YtaedejjbchpbfaaWGuard
import Derived.Test.YtaedejjbchpbfaaWNEv
import Derived.Test.YtaedejjbchpbfaaWMore
namespace Go.Proofs.Ytaedejjbchpbfaa.PTxt
open Go.RowKit Go.Proofs.YtaedejjbchpbfaaW.PrintWords Go.Proofs.YtaedejjbchpbfaaW.PrintLast Go.Proofs.YtaedejjbchpbfaaW.PrintMore
attribute [local go_sem] max2_int min2_int max_two min_two max_three min_three max_four min_four   -- for this text's walks alone
set_option linter.unusedVariables false
set_option linter.unusedSimpArgs false



def errW : Option Int → Value
  | none => .nilIface
  | some c => .iface 0 (.int .i64 c)
theorem errW_none : errW none = .nilIface := rfl
theorem errW_some (c : Int) : errW (some c) = .iface 0 (.int .i64 c) := rfl

theorem info5 : (Try.prog.info? 5).map (fun i => (i.zero, i.size, i.bytes)) = some (some (.int .u8 0), 1, 1) := by kernel_rfl
-- the values' own types

end Go.Proofs.Ytaedejjbchpbfaa.PTxt
