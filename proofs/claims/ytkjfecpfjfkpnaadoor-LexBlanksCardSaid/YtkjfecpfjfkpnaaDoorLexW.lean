/- Layer 17: small functions and while, walked. -/
import Derived.Test.YtkjfecpfjfkpnaaDoorLexP
import Derived.Test.YtkjfecpfjfkpnaaDoorShelf
import Derived.Test.YtkjfecpfjfkpnaaDoorSlStep
import Derived.Test.YtkjfecpfjfkpnaaDoorSlOps
import Derived.Test.YtkjfecpfjfkpnaaDoorStr
import Derived.WalkLawsBesides
import Derived.StillTailTactics
import Derived.Laws.EntriesVeiled
import Derived.Deep.DrawnRows
import Derived.Deep.DeepCutAuto
import Derived.Deep.QuietTactic
import Derived.BigQuiet
import Derived.IntWalk
import Derived.KernelRfl
namespace Go.Proofs.YtkjfecpfjfkpnaaDoor.Lex
open Go.Lib (parseIntB)
open Go.RowKit Go.Proofs.YtkjfecpfjfkpnaaDoorW.PrintWords Go.Proofs.YtkjfecpfjfkpnaaDoorW.PrintLast Go.Proofs.YtkjfecpfjfkpnaaDoorW.PrintMore Go.Proofs.YtkjfecpfjfkpnaaDoor.Sl Go.Proofs.YtkjfecpfjfkpnaaDoor.Str
open Go.Proofs.YtkjfecpfjfkpnaaDoor.Val (isDig)
set_option linter.unusedVariables false
set_option linter.unusedSimpArgs false
theorem size_toList (a : ByteArray) : a.toList.length = a.size := by rw [toList_eq]; rfl
abbrev fvc (f : FuncId) (caps : Array Value) : Value := .func (.func f) #[] caps
theorem enters {f : FuncId} {fn : Func} (hf : Tryd.prog.funcs[f]? = some fn) (hname : (fn.name == "runtime.NumGoroutine") = false) (hb : fn.body.isNone = false) (args : Array Value) (w : World) : (callFunc f args).run Tryd.prog w = .ok (.enter f args) w := by
  have h1 : fn.name ≠ "runtime.NumGoroutine" := by simpa using hname
  have h2 : fn.body ≠ none := by
    intro e
    rw [e] at hb
    simp at hb
  have hp : program.run Tryd.prog w = .ok Tryd.prog w := rfl
  unfold callFunc
  rw [Sem.run_bind, hp, Result.andThen_ok]
  simp only [hf]
  rw [if_neg (by simpa using h1), if_neg (by simpa using h2)]
  rfl
theorem letter_fun (c : UInt8) (w : World) : Calls Tryd.prog 12 #[.int .u8 (c.toNat : Int)] w fun e w' => e = .returned (.bool (isLet c)) ∧ w' = w := by
  have h0 : isLet c = (decide ((97 : Int) ≤ (c.toNat : Int)) && decide ((c.toNat : Int) ≤ 122)) := by
    unfold isLet
    congr 1 <;> (rw [decide_eq_decide]; omega)
  rw [h0]
  generalize (c.toNat : Int) = m
  clear h0
  by_cases h1 : 97 ≤ m
  all_goals
    by_cases h2 : m ≤ 122
    all_goals
      go_enter Tryd.func12, Tryd.ntmps12
      go_wp2
      go_ret
      exact ⟨by simp [h1, h2], rfl⟩
theorem digit_fun (c : UInt8) (w : World) : Calls Tryd.prog 14 #[.int .u8 (c.toNat : Int)] w fun e w' => e = .returned (.bool (isDig c)) ∧ w' = w := by
  have h0 : isDig c = (decide ((48 : Int) ≤ (c.toNat : Int)) && decide ((c.toNat : Int) ≤ 57)) := by
    unfold isDig
    congr 1 <;> (rw [decide_eq_decide]; omega)
  rw [h0]
  generalize (c.toNat : Int) = m
  clear h0
  by_cases h1 : 48 ≤ m
  all_goals
    by_cases h2 : m ≤ 57
    all_goals
      go_enter Tryd.func14, Tryd.ntmps14
      go_wp2
      go_ret
      exact ⟨by simp [h1, h2], rfl⟩
theorem u8_eq (c : UInt8) (k : Nat) (hk : k < 256) : (c == UInt8.ofNat k) = decide ((c.toNat : Int) = (k : Int)) := by
  rw [Bool.eq_iff_iff, beq_iff_eq, decide_eq_true_eq, ← UInt8.toNat_inj]
  simp [UInt8.toNat_ofNat]
  omega
theorem blank_fun (c : UInt8) (w : World) : Calls Tryd.prog 10 #[.int .u8 (c.toNat : Int)] w fun e w' => e = .returned (.bool (isBl c)) ∧ w' = w := by
  have h0 : isBl c = (decide ((c.toNat : Int) = 32) || decide ((c.toNat : Int) = 9) || decide ((c.toNat : Int) = 10)) := by
    have a := u8_eq c 32 (by decide)
    have b := u8_eq c 9 (by decide)
    have d := u8_eq c 10 (by decide)
    unfold isBl
    rw [show (32 : UInt8) = UInt8.ofNat 32 from rfl, show (9 : UInt8) = UInt8.ofNat 9 from rfl, show (10 : UInt8) = UInt8.ofNat 10 from rfl, a, b, d]
    rfl
  rw [h0]
  generalize (c.toNat : Int) = m
  clear h0
  by_cases h1 : m = 32
  · subst h1
    go_enter Tryd.func10, Tryd.ntmps10
    go_wp2
    go_ret
    exact ⟨by simp, rfl⟩
  · have b1 : (m == 32) = false := by simpa using h1
    by_cases h2 : m = 9
    · subst h2
      go_enter Tryd.func10, Tryd.ntmps10
      go_wp2
      go_ret
      exact ⟨by simp, rfl⟩
    · have b2 : (m == 9) = false := by simpa using h2
      by_cases h3 : m = 10
      · subst h3
        go_enter Tryd.func10, Tryd.ntmps10
        go_wp2
        go_ret
        exact ⟨by simp, rfl⟩
      · have b3 : (m == 10) = false := by simpa using h3
        go_enter Tryd.func10, Tryd.ntmps10
        go_wp2
        go_ret
        exact ⟨by simp [h1, h2, h3], rfl⟩
theorem nam_fun (c : UInt8) (w : World) : Calls Tryd.prog 21 #[.int .u8 (c.toNat : Int)] w fun e w' => e = .returned (.bool (isNam c)) ∧ w' = w := by
  have hd := u8_eq c 95 (by decide)
  have hL := Aside0.mk (letter_fun c)
  have hD := Aside0.mk (digit_fun c)
  unfold isNam
  rw [show (95 : UInt8) = UInt8.ofNat 95 from rfl, hd]
  cases h1 : isLet c
  · rw [h1] at hL
    cases h2 : isDig c
    · rw [h2] at hD
      generalize (c.toNat : Int) = m at hL hD ⊢
      clear hd h1 h2
      by_cases h3 : m = 95
      · subst h3
        go_enter Tryd.func21, Tryd.ntmps21
        go_wp2_with (first
          | (go_at_call 12; refine (hL.out _).mono ?_; rintro e w' ⟨rfl, rfl⟩)
          | (go_at_call 14; refine (hD.out _).mono ?_; rintro e w' ⟨rfl, rfl⟩))
        go_ret
        exact ⟨by simp, rfl⟩
      · have b1 : (m == 95) = false := by simpa using h3
        go_enter Tryd.func21, Tryd.ntmps21
        go_wp2_with (first
          | (go_at_call 12; refine (hL.out _).mono ?_; rintro e w' ⟨rfl, rfl⟩)
          | (go_at_call 14; refine (hD.out _).mono ?_; rintro e w' ⟨rfl, rfl⟩))
        go_ret
        exact ⟨by simp [h3], rfl⟩
    · rw [h2] at hD
      generalize (c.toNat : Int) = m at hL hD ⊢
      clear hd h1 h2
      go_enter Tryd.func21, Tryd.ntmps21
      go_wp2_with (first
        | (go_at_call 12; refine (hL.out _).mono ?_; rintro e w' ⟨rfl, rfl⟩)
        | (go_at_call 14; refine (hD.out _).mono ?_; rintro e w' ⟨rfl, rfl⟩))
      go_ret
      exact ⟨by simp, rfl⟩
  · rw [h1] at hL
    generalize (c.toNat : Int) = m at hL hD ⊢
    clear hd h1
    go_enter Tryd.func21, Tryd.ntmps21
    go_wp2_with (first
      | (go_at_call 12; refine (hL.out _).mono ?_; rintro e w' ⟨rfl, rfl⟩)
      | (go_at_call 14; refine (hD.out _).mono ?_; rintro e w' ⟨rfl, rfl⟩))
    go_ret
    exact ⟨by simp, rfl⟩
end Go.Proofs.YtkjfecpfjfkpnaaDoor.Lex
