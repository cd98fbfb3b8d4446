import Derived.Test.YtobjiamaapcbmaaRow
import Derived.Test.YtobjiamaapcbmaaL1
namespace Go.Proofs.Ytobjiamaapcbmaa.Sp
open Go.RowKit Go.Proofs.YtobjiamaapcbmaaW.PrintWords Go.Proofs.Ytobjiamaapcbmaa.Row Go.Proofs.Ytobjiamaapcbmaa.Sl PRef
theorem open9 : Opens Try.prog 9 Kd.string (fun s => s.size ≤ 140737488351232) := opens_string Try.underlying9
theorem open22 : Opens Try.prog 22 (Kd.slice 9 Kd.string) (fun xs => xs.length * Try.prog.bytesOf 9 ≤ 140737488351232 ∧ ∀ x ∈ xs, x.size ≤ 140737488351232) := opens_slice Try.underlying22 (by kernel_rfl) open9
theorem bytes9 : Try.prog.bytesOf 9 = 16 := by kernel_rfl
theorem splitNews_walk (A : Option Addr) (c : Nat) (l : List ByteArray) (hB : l.length * Try.prog.bytesOf 9 ≤ 140737488351232 ∧ ∀ x ∈ l, x.size ≤ 140737488351232) (hc : l.length ≤ c) :
    FunV Try.prog 3 #[.slice A l.length c] (fun w => Kd.C Kd.string w A l.length l) [] (.bool true) [] :=
  splitNews_fun A c l (by have := hB.1; rw [bytes9] at this; omega) (fun b hb => by have := hB.2 b hb; unfold Sm; omega) hc
end Go.Proofs.Ytobjiamaapcbmaa.Sp
