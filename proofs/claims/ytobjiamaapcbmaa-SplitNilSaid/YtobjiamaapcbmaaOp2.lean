import Derived.Test.YtobjiamaapcbmaaOp
import Derived.Test.YtobjiamaapcbmaaL2
import Derived.Test.YtobjiamaapcbmaaL3
import Derived.Test.YtobjiamaapcbmaaL4
import Derived.Test.YtobjiamaapcbmaaL5
namespace Go.Proofs.Ytobjiamaapcbmaa.Sp
open Go.RowKit Go.Proofs.YtobjiamaapcbmaaW.PrintWords Go.Proofs.Ytobjiamaapcbmaa.Row Go.Proofs.Ytobjiamaapcbmaa.Sl PRef
set_option linter.unusedVariables false
theorem open34 : Opens Try.prog 34 k34 (fun x => x.f0.size ≤ 140737488351232 ∧ x.f1.size ≤ 140737488351232) :=
  opens_iso (fun x : ByteArray × ByteArray => (⟨x.1, x.2⟩ : S34)) (fun _ => rfl) (opens_struct Try.underlying34 (by kernel_rfl) (fields_cons rfl (by kernel_rfl) open9 (fields_one rfl (by kernel_rfl) open9)))
section
variable (A : Option Addr) (c : Nat) (l : List ByteArray) (hB : l.length * Try.prog.bytesOf 9 ≤ 140737488351232 ∧ ∀ x ∈ l, x.size ≤ 140737488351232) (hc : l.length ≤ c)
include hB
theorem lB1 : l.length * 16 ≤ 140737488355328 := by have := hB.1; rw [bytes9] at this; omega
theorem lB2 : ∀ b ∈ l, Sm b := fun b hb => by have := hB.2 b hb; unfold Sm; omega
end
theorem smB {s : ByteArray} (h : s.size ≤ 140737488351232) : Sm s := by unfold Sm; omega
theorem splitFinds_walk (A : Option Addr) (c : Nat) (l : List ByteArray) (hB : l.length * Try.prog.bytesOf 9 ≤ 140737488351232 ∧ ∀ x ∈ l, x.size ≤ 140737488351232) (hc : l.length ≤ c) (key : ByteArray) (hk : key.size ≤ 140737488351232) :
    FunV Try.prog 4 #[.slice A l.length c, .string key] (fun w => Kd.C Kd.string w A l.length l) [] (.bool true) [] := splitFinds_fun A c l key (smB hk) (lB1 l hB) hc
theorem splitParts_walk (A : Option Addr) (c : Nat) (l : List ByteArray) (hB : l.length * Try.prog.bytesOf 9 ≤ 140737488351232 ∧ ∀ x ∈ l, x.size ≤ 140737488351232) (hc : l.length ≤ c) (p : S34) (hp : p.f0.size ≤ 140737488351232 ∧ p.f1.size ≤ 140737488351232) :
    FunV Try.prog 5 #[.slice A l.length c, .agg #[.string p.f0, .string p.f1]] (fun w => Kd.C Kd.string w A l.length l) [] (.bool true) [] := splitParts_fun A c l p (smB hp.1) (smB hp.2) (lB2 l hB) (lB1 l hB) hc
theorem splitCovers_walk (A : Option Addr) (c : Nat) (l : List ByteArray) (hB : l.length * Try.prog.bytesOf 9 ≤ 140737488351232 ∧ ∀ x ∈ l, x.size ≤ 140737488351232) (hc : l.length ≤ c) (p : S34) (hp : p.f0.size ≤ 140737488351232 ∧ p.f1.size ≤ 140737488351232) (key : ByteArray) (hk : key.size ≤ 140737488351232) :
    FunV Try.prog 6 #[.slice A l.length c, .agg #[.string p.f0, .string p.f1], .string key] (fun w => Kd.C Kd.string w A l.length l) [] (.bool true) [] := splitCovers_fun A c l p key (smB hk) (smB hp.1) (lB2 l hB) (lB1 l hB) hc
theorem splitNil_walk (key : ByteArray) (hk : key.size ≤ 140737488351232) (p : S34) (hp : p.f0.size ≤ 140737488351232 ∧ p.f1.size ≤ 140737488351232) :
    FunV Try.prog 7 #[.string key, .agg #[.string p.f0, .string p.f1]] (fun _ => True) [] (.bool true) [] := splitNil_fun key p
end Go.Proofs.Ytobjiamaapcbmaa.Sp
