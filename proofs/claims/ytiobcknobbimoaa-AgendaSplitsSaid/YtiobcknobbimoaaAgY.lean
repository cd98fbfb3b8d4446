/- done, and the law of the plays: walked. -/
import Derived.Test.YtiobcknobbimoaaAgX
namespace Go.Proofs.Ytiobcknobbimoaa.Ag
open Go.RowKit Go.Proofs.YtiobcknobbimoaaW.PrintWords Go.Proofs.YtiobcknobbimoaaW.PrintLast Go.Proofs.YtiobcknobbimoaaW.PrintMore Go.Proofs.Ytiobcknobbimoaa.Sl Go.Proofs.Ytiobcknobbimoaa.Row
set_option linter.unusedVariables false
set_option linter.unusedSimpArgs false
theorem popR_form (L : List Th) (now : Int) : ∃ a b, popR L now = .tuple #[.int .i64 a, .bool b] := by
  unfold popR
  cases nextL L with
  | none => exact ⟨_, _, rfl⟩
  | some t =>
    by_cases h : t.due > now
    · exact ⟨0, false, if_pos h⟩
    · exact ⟨t.what, true, if_neg h⟩
theorem nextR_form (L : List Th) : ∃ a d b, nextR L = .tuple #[.int .i64 a, .int .i64 d, .bool b] := by
  unfold nextR
  cases nextL L with
  | none => exact ⟨_, _, _, rfl⟩
  | some t => exact ⟨_, _, _, rfl⟩
theorem popL_len (L : List Th) (now : Int) : (popL L now).length ≤ L.length := by
  unfold popL
  cases nextL L with
  | none => exact Nat.le_refl _
  | some t =>
    show (if t.due > now then L else dropL L t.what).length ≤ L.length
    split
    · exact Nat.le_refl _
    · exact List.length_filter_le _ _
theorem setL_len (L : List Th) (k d : Int) : (setL L k d).length ≤ L.length + 1 := by
  unfold setL
  rw [List.length_append, List.length_singleton]
  have : (dropL L k).length ≤ L.length := List.length_filter_le _ _
  omega
set_option maxHeartbeats 8000000 in
set_option maxRecDepth 20000 in
theorem done_fun (ga g : Nat) (L : List Th) (tn : Nat) (kd what due : Int) (hl : tn ≤ 5000) (hL : L.length ≤ 5000) :
    FunV Try.prog 11 #[.pointer (some ⟨ga, 0, none⟩), .pointer (some ⟨g, 0, none⟩), .agg #[.int .i64 kd, .int .i64 what, .int .i64 due]] (fun _ => True) [agS ga L tn, docA g L] (.bool true)
      [HP.ex fun L2 : List Th => HP.ex fun tn2 : Nat => HP.and (tn2 ≤ tn + 1 ∧ L2.length ≤ L.length + 1) (HP.star (agS ga L2 tn2) (docA g L2))] := by
  intro w S hS_ hR
  have HS := St.start hS_
  clear hS_ hR
  have hu31 := Try.underlying31
  have hu29 := Try.underlying29
  have hu27 := Try.underlying27
  go_enter Try.func11, Try.ntmps11
  go_upto_block 0 with ((with_reducible refine gate_dst (N := 5) rfl ?_); refine ev_box ?hg (N := 5) ?hd (cs := [.int .i64 kd, .int .i64 what, .int .i64 due]) (t := 31) HS ?hr ?_; (case hd => rfl); (case hg => rfl); (case hr => first | (go_simp; done) | (go_simp; rfl)); intro ob w1 HS_ hg_; clear HS; have HS : St w S w1 [HP.obj ob 31 [.int .i64 kd, .int .i64 what, .int .i64 due], agS ga L tn, docA g L] := HS_; clear HS_; have q0 : w1.cell? ⟨ob, 0, none⟩ = some (.int .i64 kd) := HS.cell 0)
  clear q0
  go_cut [] (fun wc => ∃ (L2 : List Th) (tn2 : Nat), Aside0 (tn2 ≤ tn + 1 ∧ L2.length ≤ L.length + 1) ∧ St w S wc [HP.obj ob 31 [.int .i64 kd, .int .i64 what, .int .i64 due], agS ga L2 tn2, docA g L2])
  case first =>
    have q1 : w1.cell? ⟨ob, 1, none⟩ = some (.int .i64 what) := HS.cell 1
    have q2 : w1.cell? ⟨ob, 2, none⟩ = some (.int .i64 due) := HS.cell 2
    by_cases h1 : kd = 1
    · have hb : (kd == 1) = true := beq_iff_eq.2 h1
      clear h1
      go_wp2_with fail
      refine ((set_ag ga L tn what due (by omega)).call (F := [HP.obj ob 31 [.int .i64 kd, .int .i64 what, .int .i64 due], docA g L]) (HS.mv 1) (fun _ _ _ _ => trivial)).mono ?_
      rintro e_ w2 ⟨rfl, HS_⟩
      clear HS q1 q2
      have HS : St w S w2 [agS ga (setL L what due) (tn + 1), HP.obj ob 31 [.int .i64 kd, .int .i64 what, .int .i64 due], docA g L] := HS_
      clear HS_
      have q1 : w2.cell? ⟨ob, 1, none⟩ = some (.int .i64 what) := (HS.mv 1).cell 1
      have q2 : w2.cell? ⟨ob, 2, none⟩ = some (.int .i64 due) := (HS.mv 1).cell 2
      go_wp2_with fail
      refine ((refSet_fun g L what due (by omega)).call (F := [agS ga (setL L what due) (tn + 1), HP.obj ob 31 [.int .i64 kd, .int .i64 what, .int .i64 due]]) (HS.mv 2) (fun _ _ _ _ => trivial)).mono ?_
      rintro e_ w3 ⟨rfl, HS_⟩
      clear HS q1 q2
      have HS : St w S w3 [HP.obj ob 31 [.int .i64 kd, .int .i64 what, .int .i64 due], agS ga (setL L what due) (tn + 1), docA g (setL L what due)] := (HS_.mv 1).mv 2
      clear HS_
      go_wp2
      go_meet
      exact ⟨setL L what due, tn + 1, ⟨Nat.le_refl _, setL_len L what due⟩, HS⟩
    · have hb : (kd == 1) = false := beq_eq_false_iff_ne.2 h1
      clear h1
      by_cases h2 : kd = 2
      · have hb2 : (kd == 2) = true := beq_iff_eq.2 h2
        clear h2
        go_wp2_with fail
        refine ((drop_ag ga L tn what (by omega)).call (F := [HP.obj ob 31 [.int .i64 kd, .int .i64 what, .int .i64 due], docA g L]) (HS.mv 1) (fun _ _ _ _ => trivial)).mono ?_
        rintro e_ w2 ⟨rfl, HS_⟩
        clear HS q1 q2
        have HS : St w S w2 [agS ga (dropL L what) tn, HP.obj ob 31 [.int .i64 kd, .int .i64 what, .int .i64 due], docA g L] := HS_
        clear HS_
        have q1 : w2.cell? ⟨ob, 1, none⟩ = some (.int .i64 what) := (HS.mv 1).cell 1
        go_wp2_with fail
        refine ((refDrop_fun g L what (by omega)).call (F := [agS ga (dropL L what) tn, HP.obj ob 31 [.int .i64 kd, .int .i64 what, .int .i64 due]]) (HS.mv 2) (fun _ _ _ _ => trivial)).mono ?_
        rintro e_ w3 ⟨rfl, HS_⟩
        clear HS q1
        have HS : St w S w3 [HP.obj ob 31 [.int .i64 kd, .int .i64 what, .int .i64 due], agS ga (dropL L what) tn, docA g (dropL L what)] := (HS_.mv 1).mv 2
        clear HS_
        go_wp2
        go_meet
        exact ⟨dropL L what, tn, ⟨by omega, Nat.le_succ_of_le (List.length_filter_le _ _)⟩, HS⟩
      · have hb2 : (kd == 2) = false := beq_eq_false_iff_ne.2 h2
        clear h2
        by_cases h3 : kd = 3
        · have hb3 : (kd == 3) = true := beq_iff_eq.2 h3
          clear h3
          go_wp2_with fail
          refine ((pop_ag ga L tn due (by omega)).call (F := [HP.obj ob 31 [.int .i64 kd, .int .i64 what, .int .i64 due], docA g L]) (HS.mv 1) (fun _ _ _ _ => trivial)).mono ?_
          rintro e_ w2 ⟨rfl, HS_⟩
          clear HS q1 q2
          have HS : St w S w2 [agS ga (popL L due) tn, HP.obj ob 31 [.int .i64 kd, .int .i64 what, .int .i64 due], docA g L] := HS_
          clear HS_
          have q2 : w2.cell? ⟨ob, 2, none⟩ = some (.int .i64 due) := (HS.mv 1).cell 2
          obtain ⟨a, b, hab⟩ := popR_form L due
          have HAB := Aside0.mk hab
          rw [hab]
          clear hab
          go_wp2_with fail
          refine ((refPop_fun g L due (by omega)).call (F := [agS ga (popL L due) tn, HP.obj ob 31 [.int .i64 kd, .int .i64 what, .int .i64 due]]) (HS.mv 2) (fun _ _ _ _ => trivial)).mono ?_
          rintro e_ w3 ⟨rfl, HS_⟩
          clear HS q2
          have HS : St w S w3 [agS ga (popL L due) tn, docA g (popL L due), HP.obj ob 31 [.int .i64 kd, .int .i64 what, .int .i64 due]] := HS_.mv 1
          clear HS_
          rw [HAB.out]
          go_wp2
          go_ret
          exact ⟨by first | rfl | simp, St.ex_in (popL L due) (St.ex_in tn (St.and_in ⟨by omega, by have := popL_len L due; omega⟩ ((HS.out 2).unstar)))⟩
        · have hb3 : (kd == 3) = false := beq_eq_false_iff_ne.2 h3
          clear h3
          go_wp2
          go_meet
          exact ⟨L, tn, ⟨by omega, by omega⟩, HS⟩
  case rest =>
  clear HS
  obtain ⟨L2, tn2, HT, HS⟩ := hcut
  have ht1 : L2.length ≤ 100000 := by have := HT.out.2; omega
  go_wp2_with fail
  refine ((next_ag ga L2 tn2).call (F := [HP.obj ob 31 [.int .i64 kd, .int .i64 what, .int .i64 due], docA g L2]) (HS.mv 1) (fun _ _ _ _ => trivial)).mono ?_
  rintro e_ w2 ⟨rfl, HS_⟩
  clear HS
  have HS : St w S w2 [agS ga L2 tn2, HP.obj ob 31 [.int .i64 kd, .int .i64 what, .int .i64 due], docA g L2] := HS_
  clear HS_
  obtain ⟨a, d, b, hab⟩ := nextR_form L2
  have HAB := Aside0.mk hab
  rw [hab]
  clear hab
  go_wp2_with fail
  refine ((refNext_fun g L2 ht1).call (F := [agS ga L2 tn2, HP.obj ob 31 [.int .i64 kd, .int .i64 what, .int .i64 due]]) (HS.mv 2) (fun _ _ _ _ => trivial)).mono ?_
  rintro e_ w3 ⟨rfl, HS_⟩
  clear HS
  rw [HAB.out]
  have HS : St w S w3 [docA g L2, agS ga L2 tn2, HP.obj ob 31 [.int .i64 kd, .int .i64 what, .int .i64 due]] := HS_
  clear HS_
  obtain ⟨u, HS_⟩ := St.ex_ HS
  clear HS
  have H1 := refH_open HS_
  clear HS_
  obtain ⟨A, c, rfl, hc, hC⟩ := St.row_C (H1.mv 1)
  clear hC
  have HS : St w S w3 [HP.obj g 29 [.slice A L2.length c], agS ga L2 tn2, HP.row kTh 63 (.slice A L2.length c) L2, HP.obj ob 31 [.int .i64 kd, .int .i64 what, .int .i64 due]] := (H1.mv 2).mv 1
  clear H1
  have haa : (a == a) = true := beq_iff_eq.2 rfl
  have hdd : (d == d) = true := beq_iff_eq.2 rfl
  have hbb : (b == b) = true := beq_iff_eq.2 rfl
  go_wp2_with fail
  refine start_ (n := 24) (S := fun w' => w'.cell? ⟨g, 0, none⟩ = some (.slice A L2.length c)) (ds := []) #[false, false, false, false, false, false, false, false, false, false, false, false, false, false, false, false, false, false, false, false, false, false, false, false] (by kernel_rfl) rfl rfl (HS.drew.cell 0) (fun hHeld => ?_)
  refine pure_ (i := 0) (N := some 79) (v := ?_) (a' := ?_) #[true, false, false, false, false, false, false, false, false, false, false, false, false, false, false, false, false, false, false, false, false, false, false, false] rfl rfl (by kernel_rfl) (fun _ _ _ h => h) (Or.inl ⟨by rfl, ?_⟩) ?_ ?_
  rotate_left
  · intro w'
    go_simp
    with_reducible rfl
  rotate_left
  · simp only [Act.put, List.setIfInBounds_toArray, List.set_cons_zero, List.set_cons_succ, i64_w, i32_w]
    rfl
  refine pure_ (i := 1) (N := some 80) (v := ?_) (a' := ?_) #[true, true, false, false, false, false, false, false, false, false, false, false, false, false, false, false, false, false, false, false, false, false, false, false] rfl rfl (by kernel_rfl) (fun _ _ _ h => h) (Or.inl ⟨by rfl, ?_⟩) ?_ ?_
  rotate_left
  · intro w'
    go_simp
    with_reducible rfl
  rotate_left
  · simp only [Act.put, List.setIfInBounds_toArray, List.set_cons_zero, List.set_cons_succ, i64_w, i32_w]
    rfl
  refine pure_ (i := 2) (N := some 81) (v := ?_) (a' := ?_) #[true, true, true, false, false, false, false, false, false, false, false, false, false, false, false, false, false, false, false, false, false, false, false, false] rfl rfl (by kernel_rfl) (fun _ _ _ h => h) (Or.inl ⟨by rfl, ?_⟩) ?_ ?_
  rotate_left
  · intro w'
    go_simp
    with_reducible rfl
  rotate_left
  · simp only [Act.put, List.setIfInBounds_toArray, List.set_cons_zero, List.set_cons_succ, i64_w, i32_w]
    rfl
  refine pure_ (i := 3) (N := some 82) (v := ?_) (a' := ?_) #[true, true, true, true, false, false, false, false, false, false, false, false, false, false, false, false, false, false, false, false, false, false, false, false] rfl rfl (by kernel_rfl) (fun _ _ _ h => h) (Or.inl ⟨by rfl, ?_⟩) ?_ ?_
  rotate_left
  · intro w'
    go_simp
    with_reducible rfl
  rotate_left
  · simp only [Act.put, List.setIfInBounds_toArray, List.set_cons_zero, List.set_cons_succ, i64_w, i32_w]
    rfl
  refine pure_ (i := 4) (N := some 83) (v := ?_) (a' := ?_) #[true, true, true, true, true, false, false, false, false, false, false, false, false, false, false, false, false, false, false, false, false, false, false, false] rfl rfl (by kernel_rfl) (fun _ _ _ h => h) (Or.inl ⟨by rfl, ?_⟩) ?_ ?_
  rotate_left
  · intro w'
    go_simp
    with_reducible rfl
  rotate_left
  · simp only [Act.put, List.setIfInBounds_toArray, List.set_cons_zero, List.set_cons_succ, i64_w, i32_w]
    rfl
  refine pure_ (i := 5) (N := some 84) (v := ?_) (a' := ?_) #[true, true, true, true, true, true, false, false, false, false, false, false, false, false, false, false, false, false, false, false, false, false, false, false] rfl rfl (by kernel_rfl) (fun _ _ _ h => h) (Or.inl ⟨by rfl, ?_⟩) ?_ ?_
  rotate_left
  · intro w'
    go_simp
    with_reducible rfl
  rotate_left
  · simp only [Act.put, List.setIfInBounds_toArray, List.set_cons_zero, List.set_cons_succ, i64_w, i32_w]
    rfl
  refine pure_ (i := 6) (N := some 85) (v := ?_) (a' := ?_) #[true, true, true, true, true, true, true, false, false, false, false, false, false, false, false, false, false, false, false, false, false, false, false, false] rfl rfl (by kernel_rfl) (fun _ _ _ h => h) (Or.inl ⟨by rfl, ?_⟩) ?_ ?_
  rotate_left
  · intro w'
    go_simp
    with_reducible rfl
  rotate_left
  · simp only [Act.put, List.setIfInBounds_toArray, List.set_cons_zero, List.set_cons_succ, i64_w, i32_w]
    rfl
  refine pure_ (i := 7) (N := some 86) (v := ?_) (a' := ?_) #[true, true, true, true, true, true, true, true, false, false, false, false, false, false, false, false, false, false, false, false, false, false, false, false] rfl rfl (by kernel_rfl) (fun _ _ _ h => h) (Or.inl ⟨by rfl, ?_⟩) ?_ ?_
  rotate_left
  · intro w'
    go_simp
    with_reducible rfl
  rotate_left
  · simp only [Act.put, List.setIfInBounds_toArray, List.set_cons_zero, List.set_cons_succ, i64_w, i32_w]
    rfl
  refine pure_ (i := 8) (N := some 87) (v := ?_) (a' := ?_) #[true, true, true, true, true, true, true, true, true, false, false, false, false, false, false, false, false, false, false, false, false, false, false, false] rfl rfl (by kernel_rfl) (fun _ _ _ h => h) (Or.inl ⟨by rfl, ?_⟩) ?_ ?_
  rotate_left
  · intro w'
    go_simp
    with_reducible rfl
  rotate_left
  · simp only [Act.put, List.setIfInBounds_toArray, List.set_cons_zero, List.set_cons_succ, i64_w, i32_w]
    rfl
  refine pure_ (i := 9) (N := some 88) (v := ?_) (a' := ?_) #[true, true, true, true, true, true, true, true, true, true, false, false, false, false, false, false, false, false, false, false, false, false, false, false] rfl rfl (by kernel_rfl) (fun _ _ _ h => h) (Or.inl ⟨by rfl, ?_⟩) ?_ ?_
  rotate_left
  · intro w'
    go_simp
    with_reducible rfl
  rotate_left
  · simp only [Act.put, List.setIfInBounds_toArray, List.set_cons_zero, List.set_cons_succ, i64_w, i32_w]
    rfl
  refine pure_ (i := 10) (N := some 89) (v := ?_) (a' := ?_) #[true, true, true, true, true, true, true, true, true, true, true, false, false, false, false, false, false, false, false, false, false, false, false, false] rfl rfl (by kernel_rfl) (fun _ _ _ h => h) (Or.inl ⟨by rfl, ?_⟩) ?_ ?_
  rotate_left
  · intro w'
    go_simp
    with_reducible rfl
  rotate_left
  · simp only [Act.put, List.setIfInBounds_toArray, List.set_cons_zero, List.set_cons_succ, i64_w, i32_w]
    rfl
  refine pure_ (i := 11) (N := some 90) (v := ?_) (a' := ?_) #[true, true, true, true, true, true, true, true, true, true, true, true, false, false, false, false, false, false, false, false, false, false, false, false] rfl rfl (by kernel_rfl) (fun _ _ _ h => h) (Or.inl ⟨by rfl, ?_⟩) ?_ ?_
  rotate_left
  · intro w'
    go_simp
    with_reducible rfl
  rotate_left
  · simp only [Act.put, List.setIfInBounds_toArray, List.set_cons_zero, List.set_cons_succ, i64_w, i32_w]
    rfl
  refine pure_ (i := 12) (N := some 91) (v := ?_) (a' := ?_) #[true, true, true, true, true, true, true, true, true, true, true, true, true, false, false, false, false, false, false, false, false, false, false, false] rfl rfl (by kernel_rfl) (fun _ _ _ h => h) (Or.inl ⟨by rfl, ?_⟩) ?_ ?_
  rotate_left
  · intro w'
    go_simp
    with_reducible rfl
  rotate_left
  · simp only [Act.put, List.setIfInBounds_toArray, List.set_cons_zero, List.set_cons_succ, i64_w, i32_w]
    rfl
  refine pure_ (i := 13) (N := some 92) (v := ?_) (a' := ?_) #[true, true, true, true, true, true, true, true, true, true, true, true, true, true, false, false, false, false, false, false, false, false, false, false] rfl rfl (by kernel_rfl) (fun _ _ _ h => h) (Or.inl ⟨by rfl, ?_⟩) ?_ ?_
  rotate_left
  · intro w'
    go_simp
    with_reducible rfl
  rotate_left
  · simp only [Act.put, List.setIfInBounds_toArray, List.set_cons_zero, List.set_cons_succ, i64_w, i32_w]
    rfl
  refine pure_ (i := 14) (N := some 93) (v := ?_) (a' := ?_) #[true, true, true, true, true, true, true, true, true, true, true, true, true, true, true, false, false, false, false, false, false, false, false, false] rfl rfl (by kernel_rfl) (fun _ _ _ h => h) (Or.inl ⟨by rfl, ?_⟩) ?_ ?_
  rotate_left
  · intro w'
    go_simp
    with_reducible rfl
  rotate_left
  · simp only [Act.put, List.setIfInBounds_toArray, List.set_cons_zero, List.set_cons_succ, i64_w, i32_w]
    rfl
  refine pure_ (i := 16) (N := some 95) (v := ?_) (a' := ?_) #[true, true, true, true, true, true, true, true, true, true, true, true, true, true, true, false, true, false, false, false, false, false, false, false] rfl rfl (by kernel_rfl) (fun _ _ _ h => h) (Or.inl ⟨by rfl, ?_⟩) ?_ ?_
  rotate_left
  · intro w'
    go_simp
    with_reducible rfl
  rotate_left
  · simp only [Act.put, List.setIfInBounds_toArray, List.set_cons_zero, List.set_cons_succ, i64_w, i32_w]
    rfl
  refine pure_ (i := 17) (N := some 96) (v := ?_) (a' := ?_) #[true, true, true, true, true, true, true, true, true, true, true, true, true, true, true, false, true, true, false, false, false, false, false, false] rfl rfl (by kernel_rfl) (fun _ _ _ h => h) (Or.inl ⟨by rfl, ?_⟩) ?_ ?_
  rotate_left
  · intro w'
    go_simp
    with_reducible rfl
  rotate_left
  · simp only [Act.put, List.setIfInBounds_toArray, List.set_cons_zero, List.set_cons_succ, i64_w, i32_w]
    rfl
  refine pure_ (i := 18) (N := some 97) (v := ?_) (a' := ?_) #[true, true, true, true, true, true, true, true, true, true, true, true, true, true, true, false, true, true, true, false, false, false, false, false] rfl rfl (by kernel_rfl) (fun _ _ _ h => h) (Or.inl ⟨by rfl, ?_⟩) ?_ ?_
  rotate_left
  · intro w'
    go_simp
    with_reducible rfl
  rotate_left
  · simp only [Act.put, List.setIfInBounds_toArray, List.set_cons_zero, List.set_cons_succ, i64_w, i32_w]
    rfl
  refine take_ (i := 19) (N := some 98) (v := ?_) (a' := ?_) #[true, true, true, true, true, true, true, true, true, true, true, true, true, true, true, false, true, true, true, true, false, false, false, false] rfl rfl (by kernel_rfl) (fun _ _ _ h => h) (Or.inl ⟨by rfl, ?_⟩) hHeld ?_ ?_
  rotate_left
  · intro w' s0
    go_simp
    with_reducible rfl
  rotate_left
  · simp only [Act.put, List.setIfInBounds_toArray, List.set_cons_zero, List.set_cons_succ, i64_w, i32_w]
    rfl
  refine pure_ (i := 20) (N := some 99) (v := ?_) (a' := ?_) #[true, true, true, true, true, true, true, true, true, true, true, true, true, true, true, false, true, true, true, true, true, false, false, false] rfl rfl (by kernel_rfl) (fun _ _ _ h => h) (Or.inl ⟨by rfl, ?_⟩) ?_ ?_
  rotate_left
  · intro w'
    go_simp
    with_reducible rfl
  rotate_left
  · simp only [Act.put, List.setIfInBounds_toArray, List.set_cons_zero, List.set_cons_succ, i64_w, i32_w]
    rfl
  refine one_ (i := 15) (N := some 94) #[true, true, true, true, true, true, true, true, true, true, true, true, true, true, true, true, true, true, true, true, true, false, false, false] rfl rfl (by kernel_rfl) (by decide) (fun K hK => ?_)
  refine goes_ Try.func15 (by kernel_rfl) rfl #[.pointer (some ⟨ga, 0, none⟩)] (by rfl) rfl rfl (by simp only [List.map_toArray, List.map_cons, List.map_nil]; rfl) ?_
  refine ((len_ag ga L2 tn2).call (F := [HP.obj g 29 [.slice A L2.length c], HP.row kTh 63 (.slice A L2.length c) L2, HP.obj ob 31 [.int .i64 kd, .int .i64 what, .int .i64 due]]) (HS.drew.mv 1) (fun _ _ _ _ => trivial)).mono ?_
  rintro e_ w5 ⟨rfl, HS_⟩
  refine ⟨_, rfl, ?_⟩
  clear HS
  have HS : St w S w5 [HP.obj g 29 [.slice A L2.length c], HP.row kTh 63 (.slice A L2.length c) L2, agS ga L2 tn2, HP.obj ob 31 [.int .i64 kd, .int .i64 what, .int .i64 due]] := (HS_.mv 2).mv 2
  clear HS_
  refine hK.out _ _ (HS.cell 0) (fun hHeld => ?_)
  clear hK K
  refine norm_ (a' := ?_) ?_ ?_
  rotate_left
  · show Act.put _ (some 94) _ = _
    simp only [Act.put, List.setIfInBounds_toArray, List.set_cons_zero, List.set_cons_succ, i64_w, i32_w]
    rfl
  refine pure_ (i := 21) (N := some 100) (v := ?_) (a' := ?_) #[true, true, true, true, true, true, true, true, true, true, true, true, true, true, true, true, true, true, true, true, true, true, false, false] rfl rfl (by kernel_rfl) (fun _ _ _ h => h) (Or.inl ⟨by rfl, ?_⟩) ?_ ?_
  rotate_left
  · intro w'
    go_simp
    with_reducible rfl
  rotate_left
  · simp only [Act.put, List.setIfInBounds_toArray, List.set_cons_zero, List.set_cons_succ, i64_w, i32_w]
    rfl
  refine pure_ (i := 22) (N := some 101) (v := ?_) (a' := ?_) #[true, true, true, true, true, true, true, true, true, true, true, true, true, true, true, true, true, true, true, true, true, true, true, false] rfl rfl (by kernel_rfl) (fun _ _ _ h => h) (Or.inl ⟨by rfl, ?_⟩) ?_ ?_
  rotate_left
  · intro w'
    go_simp
    with_reducible rfl
  rotate_left
  · simp only [Act.put, List.setIfInBounds_toArray, List.set_cons_zero, List.set_cons_succ, i64_w, i32_w]
    rfl
  refine pure_ (i := 23) (N := some 6) (v := ?_) (a' := ?_) #[true, true, true, true, true, true, true, true, true, true, true, true, true, true, true, true, true, true, true, true, true, true, true, true] rfl rfl (by kernel_rfl) (fun _ _ _ h => h) (Or.inl ⟨by rfl, ?_⟩) ?_ ?_
  rotate_left
  · intro w'
    go_simp
    with_reducible rfl
  rotate_left
  · simp only [Act.put, List.setIfInBounds_toArray, List.set_cons_zero, List.set_cons_succ, i64_w, i32_w]
    rfl
  refine done_ (by kernel_rfl) ?_
  clear hHeld
  go_wp2
  go_ret
  exact ⟨by first | rfl | simp, St.ex_in L2 (St.ex_in tn2 (St.and_in HT.out (by
    have h1 : St w S w5 [docA g L2, agS ga L2 tn2] := (St.ex_in (.slice A L2.length c) (refH_shut (HS.out 3)))
    exact (h1.mv 1).unstar)))⟩
end Go.Proofs.Ytiobcknobbimoaa.Ag
