/- The laws of keys, of what is handed over. -/
import Derived.Test.YtaedejjbchpbfaaRow
import Derived.Test.YtaedejjbchpbfaaKeysL3
import Derived.Test.YtaedejjbchpbfaaKeysL4
namespace Go.Proofs.Ytaedejjbchpbfaa.Keys
open Go.RowKit Go.Proofs.YtaedejjbchpbfaaW.PrintWords Go.Proofs.Ytaedejjbchpbfaa.Row Go.Proofs.Ytaedejjbchpbfaa.Sl Go.Proofs.Ytaedejjbchpbfaa.PRef
set_option linter.unusedVariables false
def BV (x : V) : Prop := (Lit.int .i64 x.f0).wf = true ∧ (Lit.int .i64 x.f1).wf = true ∧ x.f2.size ≤ 140737488351232
theorem openV : Opens Try.prog 24 kV BV :=
  opens_iso (fun x : Int × Int × ByteArray => (⟨x.1, x.2.1, x.2.2⟩ : V)) (fun _ => rfl) (opens_struct Try.underlying24 (by kernel_rfl) (fields_cons rfl (by kernel_rfl) (opens_int Try.underlying3) (fields_cons rfl (by kernel_rfl) (opens_int Try.underlying2) (fields_one rfl (by kernel_rfl) (opens_string Try.underlying9)))))
def BL (l : List V) : Prop := l.length * Try.prog.bytesOf 24 ≤ 140737488351232 ∧ ∀ x ∈ l, BV x
theorem openL : Opens Try.prog 22 (Kd.slice 24 kV) BL := opens_slice Try.underlying22 (by kernel_rfl) openV
theorem bytesV : Try.prog.bytesOf 24 = 32 := by kernel_rfl
theorem in64_of {n : Int} (h : (Lit.int .i64 n).wf = true) : In64 n := by
  unfold In64
  simp only [Lit.wf, Bool.and_eq_true, decide_eq_true_eq] at h
  have h1 : IntKind.i64.min = -9223372036854775808 := by decide
  have h2 : IntKind.i64.max = 9223372036854775807 := by decide
  omega
theorem lst_of {l : List V} {c : Nat} (hB : BL l) (hc : l.length ≤ c) : Lst l c :=
  ⟨fun v hv => in64_of (hB.2 v hv).2.1, fun v hv => by have := (hB.2 v hv).2.2; omega, by have := hB.1; rw [bytesV] at this; exact this, hc⟩
theorem keysOrder_walk (A0 : Option Addr) (c0 : Nat) (a : List V) (ha : BL a) (ka : a.length ≤ c0) (A1 : Option Addr) (c1 : Nat) (b : List V) (hb : BL b) (kb : b.length ≤ c1) :
    FunV Try.prog 6 #[.slice A0 a.length c0, .slice A1 b.length c1] (fun w => Kd.C kV w A0 a.length a ∧ Kd.C kV w A1 b.length b) [] (.bool true) [] := keysOrder_fun A0 c0 a (lst_of ha ka) A1 c1 b (lst_of hb kb)
theorem keysUnder_walk (A0 : Option Addr) (c0 : Nat) (a : List V) (ha : BL a) (ka : a.length ≤ c0) (A1 : Option Addr) (c1 : Nat) (b : List V) (hb : BL b) (kb : b.length ≤ c1) :
    FunV Try.prog 8 #[.slice A0 a.length c0, .slice A1 b.length c1] (fun w => Kd.C kV w A0 a.length a ∧ Kd.C kV w A1 b.length b) [] (.bool true) [] := keysUnder_fun A0 c0 a (lst_of ha ka) A1 c1 b (lst_of hb kb)
theorem keysBack_walk (A0 : Option Addr) (c0 : Nat) (a : List V) (ha : BL a) (ka : a.length ≤ c0) (s : ByteArray) (hs : s.size ≤ 140737488351232) :
    FunV Try.prog 5 #[.slice A0 a.length c0, .string s] (fun w => Kd.C kV w A0 a.length a) [] (.bool true) [] := keysBack_fun A0 c0 a (lst_of ha ka) s hs
theorem keysDecodes_walk (s : ByteArray) (hs : s.size ≤ 140737488351232) : FunV Try.prog 4 #[.string s] (fun _ => True) [] (.bool true) [] := keysDecodes_fun s hs
theorem keysApart_walk (A0 : Option Addr) (c0 : Nat) (a : List V) (ha : BL a) (ka : a.length ≤ c0) (A1 : Option Addr) (c1 : Nat) (b : List V) (hb : BL b) (kb : b.length ≤ c1) (x : V) (hx : BV x) (y : V) (hy : BV y) :
    FunV Try.prog 7 #[.slice A0 a.length c0, .slice A1 b.length c1, .agg #[.int .i64 x.f0, .int .i64 x.f1, .string x.f2], .agg #[.int .i64 y.f0, .int .i64 y.f1, .string y.f2]] (fun w => Kd.C kV w A0 a.length a ∧ Kd.C kV w A1 b.length b) [] (.bool true) [] :=
  keysApart_fun A0 c0 a (lst_of ha ka) A1 c1 b (lst_of hb kb) x y (in64_of hx.2.1) (in64_of hy.2.1)
end Go.Proofs.Ytaedejjbchpbfaa.Keys
