/- The law KeysEncodes, of what is handed over. -/
import Derived.Test.YtaedejjbchpbfaaKeysOp
import Derived.Test.YtaedejjbchpbfaaKeysL5
namespace Go.Proofs.Ytaedejjbchpbfaa.Keys
open Go.RowKit Go.Proofs.YtaedejjbchpbfaaW.PrintWords Go.Proofs.Ytaedejjbchpbfaa.Row Go.Proofs.Ytaedejjbchpbfaa.Sl Go.Proofs.Ytaedejjbchpbfaa.PRef
theorem keysEncodes_walk (A0 : Option Addr) (c0 : Nat) (a : List V) (ha : BL a) (ka : a.length ≤ c0) :
    FunV Try.prog 3 #[.slice A0 a.length c0] (fun w => Kd.C kV w A0 a.length a) [] (.bool true) [] := keysEncodes_fun A0 c0 a (lst_of ha ka)
end Go.Proofs.Ytaedejjbchpbfaa.Keys
