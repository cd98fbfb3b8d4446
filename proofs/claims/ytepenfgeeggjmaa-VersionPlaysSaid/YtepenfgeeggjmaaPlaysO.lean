/- The law of the plays, of what is handed over. -/
import Derived.Test.YtepenfgeeggjmaaPlaysV
namespace Go.Proofs.Ytepenfgeeggjmaa.Ver
open Go.RowKit Go.Proofs.YtepenfgeeggjmaaW.PrintWords Go.Proofs.YtepenfgeeggjmaaW.PrintLast Go.Proofs.YtepenfgeeggjmaaW.PrintMore Go.Proofs.Ytepenfgeeggjmaa.Sl Go.Proofs.Ytepenfgeeggjmaa.Str Go.Proofs.Ytepenfgeeggjmaa.Row
set_option linter.unusedVariables false
theorem versionPlays_law (A0 : Option Addr) (c0 : Nat) (l : List OpV) (hl : BOpL l) (kl : l.length ≤ c0) :
    FunV Try.prog 5 #[.slice A0 l.length c0] (fun w => Kd.C kOp w A0 l.length l) [] (.bool true) [] :=
  versionPlays_fun A0 c0 l (fun x hx => ⟨(hl.2 x hx).2.1, (hl.2 x hx).2.2.2.1.1⟩) kl
end Go.Proofs.Ytepenfgeeggjmaa.Ver
