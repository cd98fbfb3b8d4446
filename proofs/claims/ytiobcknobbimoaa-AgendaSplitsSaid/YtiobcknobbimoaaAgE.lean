/- (*queue).Push, (*queue).Pop: walked. -/
import Derived.Test.YtiobcknobbimoaaAgD
namespace Go.Proofs.Ytiobcknobbimoaa.Ag
open Go.RowKit Go.Proofs.YtiobcknobbimoaaW.PrintWords Go.Proofs.YtiobcknobbimoaaW.PrintLast Go.Proofs.YtiobcknobbimoaaW.PrintMore Go.Proofs.Ytiobcknobbimoaa.Sl
set_option linter.unusedVariables false
set_option linter.unusedSimpArgs false
theorem infoPt : (Try.prog.info? 56).map (fun i => (i.zero, i.size, i.bytes)) = some (some (.pointer none), 1, 8) := by kernel_rfl
theorem infoPt1 : ∃ i, Try.prog.info? 56 = some i ∧ i.size = 1 := by
  have h := infoPt
  cases hi : Try.prog.info? 56 with
  | none => rw [hi] at h; cases h
  | some i =>
    rw [hi] at h
    simp only [Option.map_some, Option.some.injEq, Prod.mk.injEq] at h
    exact ⟨i, rfl, h.2.1⟩
theorem flatPt : Flat kPt := fun _ _ _ _ h => h
theorem reps1_ {α : Type} {R : α → List Value → Prop} {n : Nat} {x : α} {cs : List Value} (h : R x cs) (hl : cs.length = n) : Reps R n [x] cs := by
  have := (Reps.none R n).snoc h hl
  simpa using this
theorem st_snoc {w0 w : World} {S0 : Nat → Prop} {F L : List HP} {A : HP} (h : St w0 S0 w (A :: Sl.all L :: F)) : St w0 S0 w (Sl.all (L ++ [A]) :: F) :=
  h.unstar.head ((Gives.comm _ _).trans (((Gives.refl _).star (Gives.emp_intro A)).trans (Gives.app_all L [A])))
theorem st_unsnoc {w0 w : World} {S0 : Nat → Prop} {F L : List HP} {A : HP} (h : St w0 S0 w (Sl.all (L ++ [A]) :: F)) : St w0 S0 w (A :: Sl.all L :: F) :=
  ((h.head ((Gives.all_app L [A]).trans ((Gives.refl _).star (Gives.left _ _)))).star_).mv 1
theorem itemsH_snoc (q : List It) (x : It) : itemsH (q ++ [x]) = itemsH q ++ [itemH q.length x] := by simp [itemsH, List.mapIdx_append]
theorem take_at (q : List It) (n : Nat) (h : n < q.length) (hl : q.length = n + 1) : q = q.take n ++ [at_ q n] := by
  rw [at_get q n h]
  conv => lhs; rw [← List.take_append_drop n q]
  rw [List.drop_eq_getElem_cons h, List.drop_eq_nil_of_le (by omega)]
theorem at_take (q : List It) (n k : Nat) (h : k < n) : at_ (q.take n) k = at_ q k := by simp [at_, List.getD_eq_getElem?_getD, List.getElem?_take, h]
theorem assertIt (g : Nat) (w : World) : (Instr.typeAssert (.iface 56 (.pointer (some ⟨g, 0, none⟩))) 20 56 false).run Try.prog w = .ok (.pointer (some ⟨g, 0, none⟩)) w := by kernel_rfl
set_option maxHeartbeats 8000000 in
set_option maxRecDepth 20000 in
theorem push_fun (ga : Nat) (v mp tn : Value) (q : List It) (x : It) (a0 : Int) (hl : q.length ≤ 1000000) :
    Fun Try.prog 50 #[.pointer (some ⟨ga, 0, none⟩), .iface 56 (.pointer (some ⟨x.g, 0, none⟩))] (fun _ => True)
      [HP.obj x.g 55 [.int .i64 x.what, .int .i64 x.due, .int .i64 x.turn, .int .i64 a0], hS ga v mp tn q] (fun r => [HP.ex fun v' : Value => HP.and (r = .tuple #[]) (hS ga v' mp tn (q ++ [x]))]) := by
  intro w S hS_ hR
  have HS := (hS_open ((St.start hS_).mv 1))
  clear hS_ hR
  have hu51 := Try.underlying51
  have hu55 := Try.underlying55
  have hu56 := Try.underlying56
  obtain ⟨A, c, rfl, hc, hA⟩ := rowP_form (HS.mv 1)
  clear hA
  have HS_ : St w S w [HP.obj x.g 55 [.int .i64 x.what, .int .i64 x.due, .int .i64 x.turn, .int .i64 a0], HP.obj ga 53 [.slice A q.length c, mp, tn], rowP (.slice A q.length c) q, Sl.all (itemsH q)] := HS.mv 3
  clear HS
  have HS := HS_
  clear HS_
  have q0 : w.cell? ⟨ga, 0, none⟩ = some (.slice A q.length c) := (HS.mv 1).cell 0
  have q1 : w.cell? ⟨x.g, 3, none⟩ = some (.int .i64 a0) := HS.cell 3
  have q2 : w.frozen? ⟨x.g, 3, none⟩ = false := HS.unfrozen 3
  have H1 : St w S (w.setCell ⟨x.g, 3, none⟩ (.int .i64 (q.length : Int))) [HP.obj x.g 55 [.int .i64 x.what, .int .i64 x.due, .int .i64 x.turn, .int .i64 (q.length : Int)], HP.obj ga 53 [.slice A q.length c, mp, tn], rowP (.slice A q.length c) q, Sl.all (itemsH q)] := HS.set 3 (.int .i64 (q.length : Int))
  have q3 : (w.setCell ⟨x.g, 3, none⟩ (.int .i64 (q.length : Int))).cell? ⟨ga, 0, none⟩ = some (.slice A q.length c) := (H1.mv 1).cell 0
  clear HS
  have hta := assertIt x.g
  go_enter Try.func50, Try.ntmps50
  go_wp2_with (first
    | ((with_reducible refine gate_dst (N := 19) rfl ?_); refine ev_lit kPt 56 ?hg (N := 19) ?hd (xs := [x.g]) (inner := [.pointer (some ⟨x.g, 0, none⟩)]) H1 ?hr ?hp (by simp) ?_; (case hd => rfl); (case hg => rfl); (case hr => first | (go_simp; done) | (go_simp; rfl)); (case hp => exact reps1_ (by exact rfl) rfl); intro v8 w8 H3; clear H1 q0 q1 q2 q3; obtain ⟨B8, d8, rfl, hd8, hC8⟩ := St.row_C H3; clear hC8)
    | ((with_reducible refine gate_dst (N := 20) rfl ?_); at_builtin; refine ev_rows kPt flatPt rfl (.tmp 17) (.tmp 19) 51 56 _ 8 rfl Try.underlying51 infoPt rfl (by decide) (by omega) (.slice A q.length c) (q.map (·.g)) [x.g] B8 d8 rfl rfl (((H3.mv 1).mv 2).mv 3) ?hc ?hl ?_; (case hc => exact (St.row_reads H3).2.2); (case hl => (simp only [List.length_singleton, List.length_map]; omega)); intro v9 w9 H4; clear H3; obtain ⟨A9, c9, hv9, hc9, hC9⟩ := St.row_C H4; clear hC9; obtain ⟨n9, hn9⟩ : ∃ n9, (q.map (·.g) ++ [x.g]).length = n9 := ⟨_, rfl⟩; rw [hn9] at hv9 hc9; clear hn9; subst hv9; have H5 : St w S w9 [HP.obj ga 53 [.slice A q.length c, mp, tn], HP.row kPt 56 (.slice A9 n9 c9) (q.map (·.g) ++ [x.g]), HP.obj x.g 55 [.int .i64 x.what, .int .i64 x.due, .int .i64 x.turn, .int .i64 (q.length : Int)], HP.row kPt 56 (.slice B8 [x.g].length d8) [x.g], Sl.all (itemsH q)] := H4.mv 1; clear H4; have p0 : w9.cell? ⟨ga, 0, none⟩ = some (.slice A q.length c) := H5.cell 0; have p1 : w9.frozen? ⟨ga, 0, none⟩ = false := H5.unfrozen 0))
  go_end0
  have H6 := H5.set 0 (.slice A9 n9 c9)
  have H7 : St w S (w9.setCell ⟨ga, 0, none⟩ (.slice A9 n9 c9)) [HP.obj ga 53 [.slice A9 n9 c9, mp, tn], HP.row kPt 56 (.slice A9 n9 c9) (q.map (·.g) ++ [x.g]), itemH q.length x, Sl.all (itemsH q)] := H6.out 3
  have H8 := st_snoc ((H7.mv 3).mv 3)
  rw [← itemsH_snoc] at H8
  have H9 : St w S (w9.setCell ⟨ga, 0, none⟩ (.slice A9 n9 c9)) [HP.obj ga 53 [.slice A9 n9 c9, mp, tn], rowP (.slice A9 n9 c9) (q ++ [x]), Sl.all (itemsH (q ++ [x]))] := by
    have h1 := (H8.mv 2).mv 2
    unfold rowP
    rw [List.map_append]
    exact h1.mv 0
  exact ⟨_, rfl, St.ex_in (.slice A9 n9 c9) (St.and_in rfl (hS_shut H9))⟩
end Go.Proofs.Ytiobcknobbimoaa.Ag
