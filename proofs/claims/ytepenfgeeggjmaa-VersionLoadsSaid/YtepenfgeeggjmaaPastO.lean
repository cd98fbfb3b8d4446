/- The law of the past, of what is handed over. -/
import Derived.Test.YtepenfgeeggjmaaPastV
namespace Go.Proofs.Ytepenfgeeggjmaa.Ver
open Go.RowKit Go.Proofs.YtepenfgeeggjmaaW.PrintWords Go.Proofs.YtepenfgeeggjmaaW.PrintLast Go.Proofs.YtepenfgeeggjmaaW.PrintMore Go.Proofs.Ytepenfgeeggjmaa.Sl Go.Proofs.Ytepenfgeeggjmaa.Str Go.Proofs.Ytepenfgeeggjmaa.Row
set_option linter.unusedVariables false
def BOpL (l : List OpV) : Prop := l.length * Try.prog.bytesOf 31 ≤ 140737488351232 ∧ ∀ x ∈ l, BOpV x
theorem openOpL : Opens Try.prog 22 (Kd.slice 31 kOp) BOpL := opens_slice Try.underlying22 (by kernel_rfl) openOp
theorem kSp_open {w : World} {x : ByteArray × ByteArray} {cs : List Value} (h : (Kd.pair Kd.string Kd.string).K w x cs) : cs = [.string x.1, .string x.2] := by
  obtain ⟨_, _, rfl, rfl, rfl⟩ := h
  exact rfl
theorem versionPast_law (A0 : Option Addr) (c0 : Nat) (l : List OpV) (hl : BOpL l) (kl : l.length ≤ c0) (A1 : Option Addr) (c1 : Nat) (m : List OpV) (hm : BOpL m) (km : m.length ≤ c1) (p : ByteArray × ByteArray) (hp : p.1.size ≤ 140737488351232 ∧ p.2.size ≤ 140737488351232) (ts : Int) (ht : (Lit.int .i64 ts).wf = true) :
    FunV Try.prog 3 #[.slice A0 l.length c0, .slice A1 m.length c1, .agg #[.string p.1, .string p.2], .int .i64 ts] (fun w => Kd.C kOp w A0 l.length l ∧ Kd.C kOp w A1 m.length m) [] (.bool true) [] :=
  versionPast_fun A0 c0 l (fun x hx => (hl.2 x hx).2.1) kl A1 c1 m (fun x hx => (hm.2 x hx).2.1) km p.1 p.2 ts
end Go.Proofs.Ytepenfgeeggjmaa.Ver
