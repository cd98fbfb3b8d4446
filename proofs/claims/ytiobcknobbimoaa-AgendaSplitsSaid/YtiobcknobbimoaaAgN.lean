/- The laws' awake; an agenda that is none; ties: walked. -/
import Derived.Test.YtiobcknobbimoaaAgU
import Derived.Test.YtiobcknobbimoaaRow
namespace Go.Proofs.Ytiobcknobbimoaa.Ag
open Go.RowKit Go.Proofs.YtiobcknobbimoaaW.PrintWords Go.Proofs.YtiobcknobbimoaaW.PrintLast Go.Proofs.YtiobcknobbimoaaW.PrintMore Go.Proofs.Ytiobcknobbimoaa.Sl
set_option linter.unusedVariables false
set_option linter.unusedSimpArgs false
def aw1 : List Th := [⟨7, 30⟩]
def aw2 : List Th := [⟨7, 30⟩, ⟨8, 20⟩]
def aw3 : List Th := [⟨7, 30⟩, ⟨8, 20⟩, ⟨9, 20⟩]
def aw4 : List Th := [⟨7, 30⟩, ⟨9, 20⟩]
theorem aw_1 : setL [] 7 30 = aw1 := rfl
theorem aw_2 : setL aw1 8 20 = aw2 := rfl
theorem aw_3 : setL aw2 9 20 = aw3 := rfl
theorem aw_n : nextR aw3 = .tuple #[.int .i64 8, .int .i64 20, .bool true] := rfl
theorem aw_p1 : popR aw3 19 = .tuple #[.int .i64 0, .bool false] ∧ popL aw3 19 = aw3 := ⟨rfl, rfl⟩
theorem aw_p2 : popR aw3 25 = .tuple #[.int .i64 8, .bool true] ∧ popL aw3 25 = aw4 := ⟨rfl, rfl⟩
theorem newS : Fun Try.prog 10 #[] (fun _ => True) [] (fun r => [HP.ex fun ga : Nat => HP.and (r = .pointer (some ⟨ga, 0, none⟩)) (agS ga [] 0)]) := new_fun
set_option maxHeartbeats 4000000 in
set_option maxRecDepth 20000 in
theorem awake_fun : FunV Try.prog 9 #[] (fun _ => True) [] (.bool true) [] := by
  intro w S hS_ hR
  have HS := St.start hS_
  clear hS_ hR
  go_enter Try.func9, Try.ntmps9
  go_wp2_with fail
  refine (newS.call (F := []) HS (fun _ _ _ _ => trivial)).mono ?_
  rintro e_ w1 ⟨r_, rfl, HS_⟩
  clear HS
  obtain ⟨ga, HS2⟩ := St.ex_ HS_
  obtain ⟨hr_, HS3⟩ := St.and_ HS2
  subst hr_
  have HS : St w S w1 [agS ga [] 0] := HS3
  clear HS_ HS2 HS3
  go_wp2_with fail
  refine ((set_ag ga [] 0 7 30 (by decide)).call (F := []) HS (fun _ _ _ _ => trivial)).mono ?_
  rintro e_ w2 ⟨rfl, HS_⟩
  clear HS
  have HS : St w S w2 [agS ga aw1 1] := HS_
  clear HS_
  go_wp2_with fail
  refine ((set_ag ga aw1 1 8 20 (by decide)).call (F := []) HS (fun _ _ _ _ => trivial)).mono ?_
  rintro e_ w3 ⟨rfl, HS_⟩
  clear HS
  have HS : St w S w3 [agS ga aw2 2] := HS_
  clear HS_
  go_wp2_with fail
  refine ((set_ag ga aw2 2 9 20 (by decide)).call (F := []) HS (fun _ _ _ _ => trivial)).mono ?_
  rintro e_ w4 ⟨rfl, HS_⟩
  clear HS
  have HS : St w S w4 [agS ga aw3 3] := HS_
  clear HS_
  go_wp2_with fail
  refine ((next_ag ga aw3 3).call (F := []) HS (fun _ _ _ _ => trivial)).mono ?_
  rintro e_ w5 ⟨rfl, HS_⟩
  clear HS
  have HS : St w S w5 [agS ga aw3 3] := HS_
  clear HS_
  rw [aw_n]
  go_wp2_with fail
  refine ((pop_ag ga aw3 3 19 (by decide)).call (F := []) HS (fun _ _ _ _ => trivial)).mono ?_
  rintro e_ w6 ⟨rfl, HS_⟩
  clear HS
  have HS : St w S w6 [agS ga aw3 3] := HS_
  clear HS_
  rw [aw_p1.1]
  go_wp2_with fail
  refine ((pop_ag ga aw3 3 25 (by decide)).call (F := []) HS (fun _ _ _ _ => trivial)).mono ?_
  rintro e_ w7 ⟨rfl, HS_⟩
  clear HS
  have HS : St w S w7 [agS ga aw4 3] := HS_
  clear HS_
  rw [aw_p2.1]
  go_wp2_with fail
  refine ((len_ag ga aw4 3).call (F := []) HS (fun _ _ _ _ => trivial)).mono ?_
  rintro e_ w8 ⟨rfl, HS_⟩
  clear HS
  have HS : St w S w8 [agS ga aw4 3] := HS_
  clear HS_
  rw [show ((aw4.length : Nat) : Int) = 2 from rfl]
  go_wp2
  go_ret
  exact ⟨by first | rfl | simp, HS.out 0⟩
theorem setNil (k due : Int) (w : World) : Calls Try.prog 16 #[.pointer none, .int .i64 k, .int .i64 due] w fun e w' => e = .returned (.tuple #[]) ∧ w' = w := by
  go_enter Try.func16, Try.ntmps16
  go_wp2
  try simp only [Exit.inBlock, Exit.then]
  refine bodyPost_ret (results_none rfl _ _ _) rfl ?_
  exact ⟨rfl, rfl⟩
theorem dropNil (k : Int) (w : World) : Calls Try.prog 17 #[.pointer none, .int .i64 k] w fun e w' => e = .returned (.tuple #[]) ∧ w' = w := by
  go_enter Try.func17, Try.ntmps17
  go_wp2
  try simp only [Exit.inBlock, Exit.then]
  refine bodyPost_ret (results_none rfl _ _ _) rfl ?_
  exact ⟨rfl, rfl⟩
theorem nextNil (w : World) : Calls Try.prog 13 #[.pointer none] w fun e w' => e = .returned (.tuple #[.int .i64 0, .int .i64 0, .bool false]) ∧ w' = w := by
  go_enter Try.func13, Try.ntmps13
  go_wp2
  go_ret3
  exact ⟨rfl, rfl⟩
theorem popNil (now : Int) (w : World) : Calls Try.prog 14 #[.pointer none, .int .i64 now] w fun e w' => e = .returned (.tuple #[.int .i64 0, .bool false]) ∧ w' = w := by
  go_enter Try.func14, Try.ntmps14
  go_wp2_with fail
  refine (nextNil w).mono ?_
  rintro e_ w1 ⟨rfl, rfl⟩
  go_wp2
  go_ret2
  exact ⟨rfl, rfl⟩
theorem lenNil (w : World) : Calls Try.prog 15 #[.pointer none] w fun e w' => e = .returned (.int .i64 0) ∧ w' = w := by
  go_enter Try.func15, Try.ntmps15
  go_wp2
  go_ret
  exact ⟨rfl, rfl⟩
set_option maxHeartbeats 4000000 in
theorem agendaNil_fun (what : Int) (hw : (Lit.int .i64 what).wf = true) (due : Int) (hd : (Lit.int .i64 due).wf = true) : FunV Try.prog 8 #[.int .i64 what, .int .i64 due] (fun _ => True) [] (.bool true) [] := by
  intro w S hS_ hR
  have HS := St.start hS_
  clear hS_ hR hw hd
  go_enter Try.func8, Try.ntmps8
  go_wp2_with fail
  refine (setNil what due w).mono ?_
  rintro e_ w1 ⟨rfl, rfl⟩
  go_wp2_with fail
  refine (dropNil what w1).mono ?_
  rintro e_ w2 ⟨rfl, rfl⟩
  go_wp2_with fail
  refine (nextNil w2).mono ?_
  rintro e_ w3 ⟨rfl, rfl⟩
  go_wp2_with fail
  refine (popNil due w3).mono ?_
  rintro e_ w4 ⟨rfl, rfl⟩
  go_wp2_with fail
  refine (awake_fun.call (F := []) HS (fun _ _ _ _ => trivial)).mono ?_
  rintro e_ w5 ⟨rfl, HS_⟩
  clear HS
  go_wp2_with fail
  refine (lenNil w5).mono ?_
  rintro e_ w6 ⟨rfl, rfl⟩
  go_wp2
  go_ret
  exact ⟨by first | rfl | simp, HS_⟩
end Go.Proofs.Ytiobcknobbimoaa.Ag
