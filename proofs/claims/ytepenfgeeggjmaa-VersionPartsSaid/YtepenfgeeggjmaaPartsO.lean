/- The law of the parts, of what is handed over. -/
import Derived.Test.YtepenfgeeggjmaaPartsV
namespace Go.Proofs.Ytepenfgeeggjmaa.Ver
open Go.RowKit Go.Proofs.YtepenfgeeggjmaaW.PrintWords Go.Proofs.YtepenfgeeggjmaaW.PrintLast Go.Proofs.YtepenfgeeggjmaaW.PrintMore Go.Proofs.Ytepenfgeeggjmaa.Sl Go.Proofs.Ytepenfgeeggjmaa.Str Go.Proofs.Ytepenfgeeggjmaa.Row
set_option linter.unusedVariables false
theorem versionParts_law (A0 : Option Addr) (c0 : Nat) (l : List OpV) (hl : BOpL l) (kl : l.length ≤ c0) (a : ByteArray) (ha : a.size ≤ 140737488351232) (b : ByteArray) (hb : b.size ≤ 140737488351232) (c : ByteArray) (hc : c.size ≤ 140737488351232) (ts : Int) (ht : (Lit.int .i64 ts).wf = true) :
    FunV Try.prog 4 #[.slice A0 l.length c0, .string a, .string b, .string c, .int .i64 ts] (fun w => Kd.C kOp w A0 l.length l) [] (.bool true) [] :=
  versionParts_fun A0 c0 l (fun x hx => (hl.2 x hx).2.1) kl a b c ha hb hc ts
end Go.Proofs.Ytepenfgeeggjmaa.Ver
