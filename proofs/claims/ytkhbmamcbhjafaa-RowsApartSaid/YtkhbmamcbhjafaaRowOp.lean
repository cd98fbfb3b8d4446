/- The laws of rows, of what is handed over. -/
import Derived.Test.YtkhbmamcbhjafaaRow
import Derived.Test.YtkhbmamcbhjafaaRowL
namespace Go.Proofs.Ytkhbmamcbhjafaa.Keys
open Go.RowKit Go.Proofs.YtkhbmamcbhjafaaW.PrintWords Go.Proofs.Ytkhbmamcbhjafaa.Row Go.Proofs.Ytkhbmamcbhjafaa.Sl Go.Proofs.Ytkhbmamcbhjafaa.PRef
set_option linter.unusedVariables false
def BO (x : OpR) : Prop := (Lit.int .i64 x.f0).wf = true ∧ (Lit.int .i64 x.f1).wf = true ∧ True ∧ True
theorem openO : Opens Try.prog 39 kO BO :=
  opens_iso (fun x : Int × Int × Bool × Bool => (⟨x.1, x.2.1, x.2.2.1, x.2.2.2⟩ : OpR)) (fun _ => rfl) (opens_struct Try.underlying39 (by kernel_rfl) (fields_cons rfl (by kernel_rfl) (opens_int Try.underlying3) (fields_cons rfl (by kernel_rfl) (opens_int Try.underlying3) (fields_cons rfl (by kernel_rfl) (opens_bool Try.underlying4) (fields_one rfl (by kernel_rfl) (opens_bool Try.underlying4))))))
def BOL (l : List OpR) : Prop := l.length * Try.prog.bytesOf 39 ≤ 140737488351232 ∧ ∀ x ∈ l, BO x
theorem openOL : Opens Try.prog 22 (Kd.slice 39 kO) BOL := opens_slice Try.underlying22 (by kernel_rfl) openO
theorem rowsAbsent_walk (A0 : Option Addr) (c0 : Nat) (a : List OpR) (ha : BOL a) (ka : a.length ≤ c0) (A1 : Option Addr) (c1 : Nat) (b : List OpR) (hb : BOL b) (kb : b.length ≤ c1) :
    FunV Try.prog 3 #[.slice A0 a.length c0, .slice A1 b.length c1] (fun w => Kd.C kO w A0 a.length a ∧ Kd.C kO w A1 b.length b) [] (.bool true) [] := rowsAbsent_fun A0 c0 a ka A1 c1 b kb
theorem rowsFill_walk (A0 : Option Addr) (c0 : Nat) (a : List OpR) (ha : BOL a) (ka : a.length ≤ c0) (A1 : Option Addr) (c1 : Nat) (b : List OpR) (hb : BOL b) (kb : b.length ≤ c1) :
    FunV Try.prog 4 #[.slice A0 a.length c0, .slice A1 b.length c1] (fun w => Kd.C kO w A0 a.length a ∧ Kd.C kO w A1 b.length b) [] (.bool true) [] := rowsFill_fun A0 c0 a ka A1 c1 b kb
theorem rowsExact_walk (A0 : Option Addr) (c0 : Nat) (a : List OpR) (ha : BOL a) (ka : a.length ≤ c0) (A1 : Option Addr) (c1 : Nat) (b : List OpR) (hb : BOL b) (kb : b.length ≤ c1) :
    FunV Try.prog 5 #[.slice A0 a.length c0, .slice A1 b.length c1] (fun w => Kd.C kO w A0 a.length a ∧ Kd.C kO w A1 b.length b) [] (.bool true) [] := rowsExact_fun A0 c0 a ka A1 c1 b kb
theorem rowsApart_walk (k : Int) (hk : (Lit.int .i64 k).wf = true) (v : Int) (hv : (Lit.int .i64 v).wf = true) : FunV Try.prog 6 #[.int .i64 k, .int .i64 v] (fun _ => True) [] (.bool true) [] := rowsApart_fun k v
end Go.Proofs.Ytkhbmamcbhjafaa.Keys
