/- The laws of rows, of cells, of what is handed over. -/
import Derived.Test.YtkhbmamcbhjafaaRow
import Derived.Test.YtkhbmamcbhjafaaCellsL
namespace Go.Proofs.Ytkhbmamcbhjafaa.Keys
open Go.RowKit Go.Proofs.YtkhbmamcbhjafaaW.PrintWords Go.Proofs.Ytkhbmamcbhjafaa.Row Go.Proofs.Ytkhbmamcbhjafaa.Sl Go.Proofs.Ytkhbmamcbhjafaa.PRef
set_option linter.unusedVariables false
def BV (x : V) : Prop := (Lit.int .i64 x.f0).wf = true ∧ (Lit.int .i64 x.f1).wf = true ∧ x.f2.size ≤ 140737488351232
theorem openV : Opens Try.prog 36 kV BV :=
  opens_iso (fun x : Int × Int × ByteArray => (⟨x.1, x.2.1, x.2.2⟩ : V)) (fun _ => rfl) (opens_struct Try.underlying36 (by kernel_rfl) (fields_cons rfl (by kernel_rfl) (opens_int Try.underlying3) (fields_cons rfl (by kernel_rfl) (opens_int Try.underlying2) (fields_one rfl (by kernel_rfl) (opens_string Try.underlying9)))))
def BC (x : C) : Prop := (Lit.int .i64 x.f0).wf = true ∧ BV x.f1
theorem openC : Opens Try.prog 73 kC BC :=
  opens_iso (fun x : Int × V => (⟨x.1, x.2⟩ : C)) (fun _ => rfl) (opens_struct Try.underlying73 (by kernel_rfl) (fields_cons rfl (by kernel_rfl) (opens_int Try.underlying3) (fields_one rfl (by kernel_rfl) openV)))
def BCL (l : List C) : Prop := l.length * Try.prog.bytesOf 73 ≤ 140737488351232 ∧ ∀ x ∈ l, BC x
theorem openCL : Opens Try.prog 24 (Kd.slice 73 kC) BCL := opens_slice Try.underlying24 (by kernel_rfl) openC
theorem bytesC : Try.prog.bytesOf 73 = 40 := by kernel_rfl
theorem in64_of {n : Int} (h : (Lit.int .i64 n).wf = true) : In64 n := by
  unfold In64
  simp only [Lit.wf, Bool.and_eq_true, decide_eq_true_eq] at h
  have h1 : IntKind.i64.min = -9223372036854775808 := by decide
  have h2 : IntKind.i64.max = 9223372036854775807 := by decide
  omega
theorem rowsCells_walk (A0 : Option Addr) (c0 : Nat) (a : List C) (ha : BCL a) (ka : a.length ≤ c0) (s : ByteArray) (hs : s.size ≤ 140737488351232) :
    FunV Try.prog 7 #[.slice A0 a.length c0, .string s] (fun w => Kd.C kC w A0 a.length a) [] (.bool true) [] :=
  rowsCells_fun A0 c0 a ka (fun c hc => ⟨in64_of (ha.2 c hc).1, in64_of (ha.2 c hc).2.2.1⟩) (by have := ha.1; rw [bytesC] at this; exact this) s hs
end Go.Proofs.Ytkhbmamcbhjafaa.Keys
