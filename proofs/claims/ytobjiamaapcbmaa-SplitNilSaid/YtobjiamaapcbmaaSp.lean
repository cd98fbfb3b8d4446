import Derived.Test.YtobjiamaapcbmaaPRefx
namespace Go.Proofs.Ytobjiamaapcbmaa.Sp
open Go.RowKit Go.Proofs.YtobjiamaapcbmaaW.PrintWords Go.Proofs.YtobjiamaapcbmaaW.PrintLast Go.Proofs.YtobjiamaapcbmaaW.PrintMore
set_option linter.unusedVariables false
set_option linter.unusedSimpArgs false

theorem size_nil (w : World) : Calls Try.prog 11 #[.pointer none] w fun e w' => e = .returned (.int .i64 0) ∧ w' = w := by
  go_enter Try.func11, Try.ntmps11
  go_wp2
  go_ret
  exact ⟨rfl, rfl⟩

theorem size_some (w : World) (p : Addr) (A : Option Addr) (n c : Nat) (hn : n ≤ 140737488355328) (hp : w.cell? p = some (.slice A n c)) :
    Calls Try.prog 11 #[.pointer (some p)] w fun e w' => e = .returned (.int .i64 ((n : Int) + 1)) ∧ w' = w := by
  go_enter Try.func11, Try.ntmps11
  go_wp2
  go_ret
  exact ⟨rfl, rfl⟩

theorem find_nil (w : World) (key : ByteArray) : Calls Try.prog 13 #[.pointer none, .string key] w fun e w' => e = .returned (.int .i64 0) ∧ w' = w := by
  go_enter Try.func13, Try.ntmps13
  go_wp2
  go_ret
  exact ⟨rfl, rfl⟩
end Go.Proofs.Ytobjiamaapcbmaa.Sp
