/- The laws' awake, walked. -/
import Derived.Test.YtkhbmamcbhjafaaAwkW
import Derived.Test.YtkhbmamcbhjafaaTabP
import Derived.Test.YtkhbmamcbhjafaaPRefx9
namespace Go.Proofs.Ytkhbmamcbhjafaa.Keys
open Go.RowKit Go.Proofs.YtkhbmamcbhjafaaW.PrintWords Go.Proofs.YtkhbmamcbhjafaaW.PrintLast Go.Proofs.YtkhbmamcbhjafaaW.PrintMore Go.Proofs.Ytkhbmamcbhjafaa.Str Go.Proofs.Ytkhbmamcbhjafaa.PRef Go.Proofs.Ytkhbmamcbhjafaa.Stands Go.Proofs.Ytkhbmamcbhjafaa.Sl
set_option linter.unusedVariables false
set_option linter.unusedSimpArgs false
attribute [local go_sem high] eqA36
theorem c64_nil : C64 [] := fun c h => by simp at h
theorem c64_any {k v : Int} (hk : In64 k := by exact in64_small (by omega) (by omega)) (hv : In64 v := by exact in64_small (by omega) (by omega)) : C64 (cellsC k v) := by
  intro c hc
  simp only [cellsC, List.mem_cons, List.not_mem_nil, or_false] at hc
  rcases hc with rfl | rfl
  · exact ⟨in64_small (n := 2) (by omega) (by omega), hk⟩
  · exact ⟨in64_small (n := 3) (by omega) (by omega), hv⟩
theorem awake_l : ∃ a b c, changes 1 2 (ixOf 2) (cellsC 5 1) (cellsC 5 2) = [a, b, c] ∧ b.dead = true ∧ c.dead = false := by
  have hp : (put (cellsC 5 2)).2 = 0 := by kernel_rfl
  unfold changes
  rw [if_neg (by decide), if_neg (by rw [hp]; simp)]
  have : (ixOf 2).map (chStep (cellsC 5 1) (cellsC 5 2) (chKey 2 (cellsC 5 1) (cellsC 5 2))) = [[⟨entryK 4 (numV 1) (chKey 2 (cellsC 5 1) (cellsC 5 2)), ⟨#[]⟩, true⟩, ⟨entryK 4 (numV 2) (chKey 2 (cellsC 5 1) (cellsC 5 2)), ⟨#[]⟩, false⟩]] := by
    unfold ixOf
    rw [if_neg (by decide)]
    simp only [List.map_cons, List.map_nil]
    rw [ch_is _ _ _ _ True True (by simp [cellsC, ofC, numV]) (by simp [cellsC])]
    rfl
  rw [this]
  exact ⟨_, _, _, rfl, rfl, rfl⟩
theorem awake_m : ∃ a, changes 1 2 (ixOf 1) [] (cellsC 5 1) = [a] := by
  have hp : (put (cellsC 5 1)).2 = 0 := by kernel_rfl
  unfold changes
  rw [if_neg (by decide), if_neg (by rw [hp]; simp)]
  have : (ixOf 1).map (chStep [] (cellsC 5 1) (chKey 2 [] (cellsC 5 1))) = [[]] := by
    unfold ixOf
    rw [if_neg (by decide)]
    simp only [List.map_cons, List.map_nil]
    rw [ch_is _ _ _ _ False False (by simp) (by simp)]
    rfl
  rw [this]
  exact ⟨_, rfl⟩
theorem awake_key : (Value.tuple #[.agg #[.int .i64 (keyA (entryK 4 (numV 1) (numV 5))).1.f0, .int .i64 (keyA (entryK 4 (numV 1) (numV 5))).1.f1, .string (keyA (entryK 4 (numV 1) (numV 5))).1.f2], .int .i64 (keyA (entryK 4 (numV 1) (numV 5))).2]) = .tuple #[.agg #[.int .i64 1, .int .i64 5, .string ⟨#[]⟩], .int .i64 0] := by kernel_rfl
set_option maxHeartbeats 4000000 in
set_option maxRecDepth 20000 in
theorem awake_fun : FunV Try.prog 8 #[] (fun _ => True) [] (.bool true) [] := by
  intro w S hS hR
  have HS := St.start hS
  clear hS hR
  have hu1 := Try.underlying36
  have hu2 := Try.underlying66
  have hu3 := Try.underlying52
  go_enter Try.func8, Try.ntmps8
  go_wp2_with fail
  refine (lintellaw20_table.calls 2 1 ⟨#[116]⟩ colsC (ixOf 2) [] _ (table_eq 2)).mono ?_
  rintro e_ wt1 ⟨q2, q3, q4, rfl, hq2, hq3, hq4, hb⟩
  have HS_ := St.made2 HS hq2 hq3 rfl rfl (by decide) hb
  clear HS
  have HS := HS_
  clear HS_
  clear hq2 hq3 hq4 hb
  go_wp2_with fail
  refine (lintellaw20_cells.calls 5 1 (cellsC 5 1) _ rfl).mono ?_
  rintro e_ wcua ⟨ua, rfl, hrn, hb⟩
  have HS_ := HS.made hrn hb
  clear HS
  have HS := HS_
  clear HS_
  clear hrn hb
  go_wp2_with fail
  refine (lintellaw20_cells.calls 5 2 (cellsC 5 2) _ rfl).mono ?_
  rintro e_ wcub ⟨ub, rfl, hrn, hb⟩
  have HS_ := HS.made hrn hb
  clear HS
  have HS := HS_
  clear HS_
  clear hrn hb
  go_wp2_with fail
  have HS_ := ((HS.mv 1).mv 3).mv 3
  clear HS
  have HS := HS_
  clear HS_
  refine ((changes_fun 1 ⟨#[116]⟩ q2 q3 q4 ua ub colsC (ixOf 2) (cellsC 5 1) (cellsC 5 2) (in64_small (by omega) (by omega)) (by decide) (by decide) (ix_len 2) (by decide) (by decide) (ix_64 2) c64_any c64_any 2 rfl).call (F := []) HS (fun _ _ _ _ => trivial)).mono ?_
  rintro e_ w1 ⟨u1, rfl, HS_⟩
  clear HS
  have HS := (((HS_.out 1).out 1).out 1).out 1
  clear HS_
  obtain ⟨l1, l2, l3, hl, hd2, hd3⟩ := awake_l
  rw [hl] at HS
  clear hl
  go_wp2_with fail
  refine (lintellaw20_table.calls 1 1 ⟨#[116]⟩ colsC (ixOf 1) [] _ (table_eq 1)).mono ?_
  rintro e_ wt2 ⟨q2, q3, q4, rfl, hq2, hq3, hq4, hb⟩
  have HS_ := St.made2 HS hq2 hq3 rfl rfl (by decide) hb
  clear HS
  have HS := HS_
  clear HS_
  clear hq2 hq3 hq4 hb
  go_wp2_with fail
  refine (lintellaw20_cells.calls 5 1 (cellsC 5 1) _ rfl).mono ?_
  rintro e_ wcuc ⟨uc, rfl, hrn, hb⟩
  have HS_ := HS.made hrn hb
  clear HS
  have HS := HS_
  clear HS_
  clear hrn hb
  go_wp2_with fail
  have HS_ := (HS.nil_ kC 73)
  clear HS
  have HS := HS_
  clear HS_
  have HS_ := (((HS.mv 1).mv 1).mv 3).mv 3
  clear HS
  have HS := HS_
  clear HS_
  refine ((changes_fun 1 ⟨#[116]⟩ q2 q3 q4 (.slice none 0 0) uc colsC (ixOf 1) ([]) (cellsC 5 1) (in64_small (by omega) (by omega)) (by decide) (by decide) (ix_len 1) (by decide) (by decide) (ix_64 1) c64_nil c64_any 2 rfl).call (F := [HP.row kW 66 u1 [l1, l2, l3]]) HS (fun _ _ _ _ => trivial)).mono ?_
  rintro e_ w2 ⟨u2, rfl, HS_⟩
  clear HS
  have HS := (((HS_.out 1).out 1).out 1).out 1
  clear HS_
  obtain ⟨m1, hm⟩ := awake_m
  rw [hm] at HS
  clear hm
  obtain ⟨g1, c1, ru1⟩ := St.row_form (HS.mv 1) (by simp)
  subst ru1
  obtain ⟨A2, c2, ru2, hc2, hC2⟩ := St.row_C HS
  subst ru2
  clear hC2
  go_wp2_with fail
  refine (lintelref20_Num.calls 1 _ _ _ _ rfl).mono ?_
  rintro e_ w3 ⟨rfl, hb⟩
  have HS_ := HS.later hb
  clear HS hb
  have HS := HS_
  clear HS_
  go_wp2_with fail
  refine (lintelref20_Num.calls 5 _ _ _ _ rfl).mono ?_
  rintro e_ w4 ⟨rfl, hb⟩
  have HS_ := HS.later hb
  clear HS hb
  have HS := HS_
  clear HS_
  go_wp2_with fail
  refine (rows_Entry.calls 300 4 1 1 ⟨#[]⟩ 1 5 ⟨#[]⟩ _ _ (entry_eq 4 (numV 1) (numV 5) (in64_small (by omega) (by omega)) (in64_small (n := 1) (by omega) (by omega)) (in64_small (n := 5) (by omega) (by omega)))).mono ?_
  rintro e_ w5 ⟨rfl, hb⟩
  have HS_ := HS.later hb
  clear HS hb
  have HS := HS_
  clear HS_
  go_wp2_with fail
  refine ((key_fun _ (by have := encode_size [numV 1, numV 4, numV 1, numV 5]; unfold entryK keyOf; omega)).call (F := [HP.row kW 66 (.slice A2 [m1].length c2) [m1], HP.row kW 66 (.slice (some ⟨g1, 0, none⟩) [l1, l2, l3].length c1) [l1, l2, l3]]) HS (fun _ _ _ _ => trivial)).mono ?_
  rintro e_ w6 ⟨rfl, HS_⟩
  clear HS
  have HS := HS_
  clear HS_
  rw [awake_key]
  go_wp2_with (first
    | ((with_reducible refine gate_dst (N := 3) rfl ?_); refine ev_box ?hg (N := 3) ?hd (cs := [.int .i64 0, .int .i64 0, .string ⟨#[]⟩]) (t := 36) HS ?hr ?_; (case hd => rfl); (case hg => rfl); (case hr => first | (go_simp; done) | (go_simp; rfl)); intro kb w7 HS_ hg_kb; clear HS; have HS := HS_; clear HS_)
    | ((with_reducible refine gate_ (.store 36 (.tmp 3) (.tmp 17)) rfl ?_); refine ev_store rfl rfl 36 (.tmp 3) (.tmp 17) rfl HS rfl rfl (seg := [.int .i64 1, .int .i64 5, .string ⟨#[]⟩]) rfl ?ht rfl ?hf ?_; (case ht => kernel_rfl); (case hf => first | (simp; done) | (simp [splice]; done)); intro w8 HS_; clear HS; have HS := HS_; clear HS_))
  obtain ⟨d0, d1, d2⟩ := wr_cells (HS.mv 2) 1 (by simp)
  obtain ⟨e0, e1, e2⟩ := wr_cells (HS.mv 2) 2 (by simp)
  have k1 : w8.cell? ⟨g1, 5, none⟩ = some (.bool true) := by rw [← hd2]; exact d2
  have k2 : w8.cell? ⟨g1, 8, none⟩ = some (.bool false) := by rw [← hd3]; exact e2
  clear d0 d1 d2 e0 e1 e2
  refine start_ (n := 31) (S := fun w' => w'.cell? ⟨g1, 5, none⟩ = some (.bool true) ∧ w'.cell? ⟨g1, 8, none⟩ = some (.bool false) ∧ w'.cell? ⟨kb, 0, none⟩ = some (.int .i64 1) ∧ w'.cell? ⟨kb, 1, none⟩ = some (.int .i64 5) ∧ w'.cell? ⟨kb, 2, none⟩ = some (.string ⟨#[]⟩)) (ds := []) #[false, false, false, false, false, false, false, false, false, false, false, false, false, false, false, false, false, false, false, false, false, false, false, false, false, false, false, false, false, false, false] (by kernel_rfl) rfl rfl ⟨k1, k2, HS.drew.cell 0, HS.drew.cell 1, HS.drew.cell 2⟩ (fun hHeld => ?_)
  refine pure_ (i := 0) (N := some 19) (v := ?_) (a' := ?_) #[true, false, false, false, false, false, false, false, false, false, false, false, false, false, false, false, false, false, false, false, false, false, false, false, false, false, false, false, false, false, false] rfl rfl (by kernel_rfl) (fun _ _ _ h => h) (Or.inl ⟨by rfl, ?_⟩) ?_ ?_
  rotate_left
  · intro w'
    go_simp
    with_reducible rfl
  rotate_left
  · simp only [Act.put, List.setIfInBounds_toArray, List.set_cons_zero, List.set_cons_succ, i64_w, i32_w]
    rfl
  refine pure_ (i := 1) (N := some 20) (v := ?_) (a' := ?_) #[true, true, false, false, false, false, false, false, false, false, false, false, false, false, false, false, false, false, false, false, false, false, false, false, false, false, false, false, false, false, false] rfl rfl (by kernel_rfl) (fun _ _ _ h => h) (Or.inl ⟨by rfl, ?_⟩) ?_ ?_
  rotate_left
  · intro w'
    go_simp
    with_reducible rfl
  rotate_left
  · simp only [Act.put, List.setIfInBounds_toArray, List.set_cons_zero, List.set_cons_succ, i64_w, i32_w]
    rfl
  refine pure_ (i := 2) (N := some 21) (v := ?_) (a' := ?_) #[true, true, true, false, false, false, false, false, false, false, false, false, false, false, false, false, false, false, false, false, false, false, false, false, false, false, false, false, false, false, false] rfl rfl (by kernel_rfl) (fun _ _ _ h => h) (Or.inl ⟨by rfl, ?_⟩) ?_ ?_
  rotate_left
  · intro w'
    go_simp
    with_reducible rfl
  rotate_left
  · simp only [Act.put, List.setIfInBounds_toArray, List.set_cons_zero, List.set_cons_succ, i64_w, i32_w]
    rfl
  refine pure_ (i := 3) (N := some 22) (v := ?_) (a' := ?_) #[true, true, true, true, false, false, false, false, false, false, false, false, false, false, false, false, false, false, false, false, false, false, false, false, false, false, false, false, false, false, false] rfl rfl (by kernel_rfl) (fun _ _ _ h => h) (Or.inl ⟨by rfl, ?_⟩) ?_ ?_
  rotate_left
  · intro w'
    go_simp
    with_reducible rfl
  rotate_left
  · simp only [Act.put, List.setIfInBounds_toArray, List.set_cons_zero, List.set_cons_succ, i64_w, i32_w]
    rfl
  refine pure_ (i := 4) (N := some 23) (v := ?_) (a' := ?_) #[true, true, true, true, true, false, false, false, false, false, false, false, false, false, false, false, false, false, false, false, false, false, false, false, false, false, false, false, false, false, false] rfl rfl (by kernel_rfl) (fun _ _ _ h => h) (Or.inl ⟨by rfl, ?_⟩) ?_ ?_
  rotate_left
  · intro w'
    go_simp
    with_reducible rfl
  rotate_left
  · simp only [Act.put, List.setIfInBounds_toArray, List.set_cons_zero, List.set_cons_succ, i64_w, i32_w]
    rfl
  refine pure_ (i := 5) (N := some 24) (v := ?_) (a' := ?_) #[true, true, true, true, true, true, false, false, false, false, false, false, false, false, false, false, false, false, false, false, false, false, false, false, false, false, false, false, false, false, false] rfl rfl (by kernel_rfl) (fun _ _ _ h => h) (Or.inl ⟨by rfl, ?_⟩) ?_ ?_
  rotate_left
  · intro w'
    go_simp
    with_reducible rfl
  rotate_left
  · simp only [Act.put, List.setIfInBounds_toArray, List.set_cons_zero, List.set_cons_succ, i64_w, i32_w]
    rfl
  refine pure_ (i := 6) (N := some 25) (v := ?_) (a' := ?_) #[true, true, true, true, true, true, true, false, false, false, false, false, false, false, false, false, false, false, false, false, false, false, false, false, false, false, false, false, false, false, false] rfl rfl (by kernel_rfl) (fun _ _ _ h => h) (Or.inl ⟨by rfl, ?_⟩) ?_ ?_
  rotate_left
  · intro w'
    go_simp
    with_reducible rfl
  rotate_left
  · simp only [Act.put, List.setIfInBounds_toArray, List.set_cons_zero, List.set_cons_succ, i64_w, i32_w]
    rfl
  refine take_ (i := 7) (N := some 26) (v := ?_) (a' := ?_) #[true, true, true, true, true, true, true, true, false, false, false, false, false, false, false, false, false, false, false, false, false, false, false, false, false, false, false, false, false, false, false] rfl rfl (by kernel_rfl) (fun _ _ _ h => h) (Or.inl ⟨by rfl, ?_⟩) hHeld ?_ ?_
  rotate_left
  · rintro w' ⟨s0, s1, s2, s3, s4⟩
    go_simp
    with_reducible rfl
  rotate_left
  · simp only [Act.put, List.setIfInBounds_toArray, List.set_cons_zero, List.set_cons_succ, i64_w, i32_w]
    rfl
  refine pure_ (i := 8) (N := some 27) (v := ?_) (a' := ?_) #[true, true, true, true, true, true, true, true, true, false, false, false, false, false, false, false, false, false, false, false, false, false, false, false, false, false, false, false, false, false, false] rfl rfl (by kernel_rfl) (fun _ _ _ h => h) (Or.inl ⟨by rfl, ?_⟩) ?_ ?_
  rotate_left
  · intro w'
    go_simp
    with_reducible rfl
  rotate_left
  · simp only [Act.put, List.setIfInBounds_toArray, List.set_cons_zero, List.set_cons_succ, i64_w, i32_w]
    rfl
  refine pure_ (i := 9) (N := some 28) (v := ?_) (a' := ?_) #[true, true, true, true, true, true, true, true, true, true, false, false, false, false, false, false, false, false, false, false, false, false, false, false, false, false, false, false, false, false, false] rfl rfl (by kernel_rfl) (fun _ _ _ h => h) (Or.inl ⟨by rfl, ?_⟩) ?_ ?_
  rotate_left
  · intro w'
    go_simp
    with_reducible rfl
  rotate_left
  · simp only [Act.put, List.setIfInBounds_toArray, List.set_cons_zero, List.set_cons_succ, i64_w, i32_w]
    rfl
  refine pure_ (i := 10) (N := some 29) (v := ?_) (a' := ?_) #[true, true, true, true, true, true, true, true, true, true, true, false, false, false, false, false, false, false, false, false, false, false, false, false, false, false, false, false, false, false, false] rfl rfl (by kernel_rfl) (fun _ _ _ h => h) (Or.inl ⟨by rfl, ?_⟩) ?_ ?_
  rotate_left
  · intro w'
    go_simp
    with_reducible rfl
  rotate_left
  · simp only [Act.put, List.setIfInBounds_toArray, List.set_cons_zero, List.set_cons_succ, i64_w, i32_w]
    rfl
  refine pure_ (i := 11) (N := some 30) (v := ?_) (a' := ?_) #[true, true, true, true, true, true, true, true, true, true, true, true, false, false, false, false, false, false, false, false, false, false, false, false, false, false, false, false, false, false, false] rfl rfl (by kernel_rfl) (fun _ _ _ h => h) (Or.inl ⟨by rfl, ?_⟩) ?_ ?_
  rotate_left
  · intro w'
    go_simp
    with_reducible rfl
  rotate_left
  · simp only [Act.put, List.setIfInBounds_toArray, List.set_cons_zero, List.set_cons_succ, i64_w, i32_w]
    rfl
  refine pure_ (i := 12) (N := some 31) (v := ?_) (a' := ?_) #[true, true, true, true, true, true, true, true, true, true, true, true, true, false, false, false, false, false, false, false, false, false, false, false, false, false, false, false, false, false, false] rfl rfl (by kernel_rfl) (fun _ _ _ h => h) (Or.inl ⟨by rfl, ?_⟩) ?_ ?_
  rotate_left
  · intro w'
    go_simp
    with_reducible rfl
  rotate_left
  · simp only [Act.put, List.setIfInBounds_toArray, List.set_cons_zero, List.set_cons_succ, i64_w, i32_w]
    rfl
  refine take_ (i := 13) (N := some 32) (v := ?_) (a' := ?_) #[true, true, true, true, true, true, true, true, true, true, true, true, true, true, false, false, false, false, false, false, false, false, false, false, false, false, false, false, false, false, false] rfl rfl (by kernel_rfl) (fun _ _ _ h => h) (Or.inl ⟨by rfl, ?_⟩) hHeld ?_ ?_
  rotate_left
  · rintro w' ⟨s0, s1, s2, s3, s4⟩
    go_simp
    with_reducible rfl
  rotate_left
  · simp only [Act.put, List.setIfInBounds_toArray, List.set_cons_zero, List.set_cons_succ, i64_w, i32_w]
    rfl
  refine pure_ (i := 14) (N := some 33) (v := ?_) (a' := ?_) #[true, true, true, true, true, true, true, true, true, true, true, true, true, true, true, false, false, false, false, false, false, false, false, false, false, false, false, false, false, false, false] rfl rfl (by kernel_rfl) (fun _ _ _ h => h) (Or.inl ⟨by rfl, ?_⟩) ?_ ?_
  rotate_left
  · intro w'
    go_simp
    with_reducible rfl
  rotate_left
  · simp only [Act.put, List.setIfInBounds_toArray, List.set_cons_zero, List.set_cons_succ, i64_w, i32_w]
    rfl
  refine pure_ (i := 15) (N := some 34) (v := ?_) (a' := ?_) #[true, true, true, true, true, true, true, true, true, true, true, true, true, true, true, true, false, false, false, false, false, false, false, false, false, false, false, false, false, false, false] rfl rfl (by kernel_rfl) (fun _ _ _ h => h) (Or.inl ⟨by rfl, ?_⟩) ?_ ?_
  rotate_left
  · intro w'
    go_simp
    with_reducible rfl
  rotate_left
  · simp only [Act.put, List.setIfInBounds_toArray, List.set_cons_zero, List.set_cons_succ, i64_w, i32_w]
    rfl
  refine pure_ (i := 16) (N := some 35) (v := ?_) (a' := ?_) #[true, true, true, true, true, true, true, true, true, true, true, true, true, true, true, true, true, false, false, false, false, false, false, false, false, false, false, false, false, false, false] rfl rfl (by kernel_rfl) (fun _ _ _ h => h) (Or.inl ⟨by rfl, ?_⟩) ?_ ?_
  rotate_left
  · intro w'
    go_simp
    with_reducible rfl
  rotate_left
  · simp only [Act.put, List.setIfInBounds_toArray, List.set_cons_zero, List.set_cons_succ, i64_w, i32_w]
    rfl
  refine pure_ (i := 17) (N := some 36) (v := ?_) (a' := ?_) #[true, true, true, true, true, true, true, true, true, true, true, true, true, true, true, true, true, true, false, false, false, false, false, false, false, false, false, false, false, false, false] rfl rfl (by kernel_rfl) (fun _ _ _ h => h) (Or.inl ⟨by rfl, ?_⟩) ?_ ?_
  rotate_left
  · intro w'
    go_simp
    with_reducible rfl
  rotate_left
  · simp only [Act.put, List.setIfInBounds_toArray, List.set_cons_zero, List.set_cons_succ, i64_w, i32_w]
    rfl
  refine pure_ (i := 18) (N := some 37) (v := ?_) (a' := ?_) #[true, true, true, true, true, true, true, true, true, true, true, true, true, true, true, true, true, true, true, false, false, false, false, false, false, false, false, false, false, false, false] rfl rfl (by kernel_rfl) (fun _ _ _ h => h) (Or.inl ⟨by rfl, ?_⟩) ?_ ?_
  rotate_left
  · intro w'
    go_simp
    with_reducible rfl
  rotate_left
  · simp only [Act.put, List.setIfInBounds_toArray, List.set_cons_zero, List.set_cons_succ, i64_w, i32_w]
    rfl
  refine pure_ (i := 19) (N := some 38) (v := ?_) (a' := ?_) #[true, true, true, true, true, true, true, true, true, true, true, true, true, true, true, true, true, true, true, true, false, false, false, false, false, false, false, false, false, false, false] rfl rfl (by kernel_rfl) (fun _ _ _ h => h) (Or.inl ⟨by rfl, ?_⟩) ?_ ?_
  rotate_left
  · intro w'
    go_simp
    with_reducible rfl
  rotate_left
  · simp only [Act.put, List.setIfInBounds_toArray, List.set_cons_zero, List.set_cons_succ, i64_w, i32_w]
    rfl
  refine pure_ (i := 20) (N := some 39) (v := ?_) (a' := ?_) #[true, true, true, true, true, true, true, true, true, true, true, true, true, true, true, true, true, true, true, true, true, false, false, false, false, false, false, false, false, false, false] rfl rfl (by kernel_rfl) (fun _ _ _ h => h) (Or.inl ⟨by rfl, ?_⟩) ?_ ?_
  rotate_left
  · intro w'
    go_simp
    with_reducible rfl
  rotate_left
  · simp only [Act.put, List.setIfInBounds_toArray, List.set_cons_zero, List.set_cons_succ, i64_w, i32_w]
    rfl
  refine pure_ (i := 21) (N := some 40) (v := ?_) (a' := ?_) #[true, true, true, true, true, true, true, true, true, true, true, true, true, true, true, true, true, true, true, true, true, true, false, false, false, false, false, false, false, false, false] rfl rfl (by kernel_rfl) (fun _ _ _ h => h) (Or.inl ⟨by rfl, ?_⟩) ?_ ?_
  rotate_left
  · intro w'
    go_simp
    with_reducible rfl
  rotate_left
  · simp only [Act.put, List.setIfInBounds_toArray, List.set_cons_zero, List.set_cons_succ, i64_w, i32_w]
    rfl
  refine take_ (i := 22) (N := some 41) (v := ?_) (a' := ?_) #[true, true, true, true, true, true, true, true, true, true, true, true, true, true, true, true, true, true, true, true, true, true, true, false, false, false, false, false, false, false, false] rfl rfl (by kernel_rfl) (fun _ _ _ h => h) (Or.inl ⟨by rfl, ?_⟩) hHeld ?_ ?_
  rotate_left
  · rintro w' ⟨s0, s1, s2, s3, s4⟩
    go_simp
    with_reducible rfl
  rotate_left
  · simp only [Act.put, List.setIfInBounds_toArray, List.set_cons_zero, List.set_cons_succ, i64_w, i32_w]
    rfl
  refine one_ (i := 23) (N := some 42) #[true, true, true, true, true, true, true, true, true, true, true, true, true, true, true, true, true, true, true, true, true, true, true, true, false, false, false, false, false, false, false] rfl rfl (by kernel_rfl) (by decide) (fun K hK => ?_)
  refine goes_ Try.func24 (by kernel_rfl) rfl #[.int .i64 5] (by rfl) rfl rfl (by simp only [List.map_toArray, List.map_cons, List.map_nil]; rfl) ?_
  refine (lintelref20_Num.calls 5 _ _ _ _ rfl).mono ?_
  rintro e_ w10 ⟨rfl, hb⟩
  refine ⟨_, rfl, ?_⟩
  have HS_ := HS.drew.later hb
  clear HS
  have HS := HS_
  clear HS_
  have kk1 := pw_cell_below hb k1
  have kk2 := pw_cell_below hb k2
  clear hb
  refine hK.out _ _ ⟨kk1, kk2, HS.cell 0, HS.cell 1, HS.cell 2⟩ (fun hHeld => ?_)
  clear hK K
  refine norm_ (a' := ?_) ?_ ?_
  rotate_left
  · show Act.put _ (some 42) _ = _
    simp only [Act.put, List.setIfInBounds_toArray, List.set_cons_zero, List.set_cons_succ, i64_w, i32_w]
    rfl
  refine pure_ (i := 24) (N := some 43) (v := ?_) (a' := ?_) #[true, true, true, true, true, true, true, true, true, true, true, true, true, true, true, true, true, true, true, true, true, true, true, true, true, false, false, false, false, false, false] rfl rfl (by kernel_rfl) (fun _ _ _ h => h) (Or.inl ⟨by rfl, ?_⟩) ?_ ?_
  rotate_left
  · intro w'
    go_simp
    with_reducible rfl
  rotate_left
  · simp only [Act.put, List.setIfInBounds_toArray, List.set_cons_zero, List.set_cons_succ, i64_w, i32_w]
    rfl
  refine pure_ (i := 25) (N := some 44) (v := ?_) (a' := ?_) #[true, true, true, true, true, true, true, true, true, true, true, true, true, true, true, true, true, true, true, true, true, true, true, true, true, true, false, false, false, false, false] rfl rfl (by kernel_rfl) (fun _ _ _ h => h) (Or.inl ⟨by rfl, ?_⟩) ?_ ?_
  rotate_left
  · intro w'
    go_simp
    with_reducible rfl
  rotate_left
  · simp only [Act.put, List.setIfInBounds_toArray, List.set_cons_zero, List.set_cons_succ, i64_w, i32_w]
    rfl
  refine pure_ (i := 26) (N := some 45) (v := ?_) (a' := ?_) #[true, true, true, true, true, true, true, true, true, true, true, true, true, true, true, true, true, true, true, true, true, true, true, true, true, true, true, false, false, false, false] rfl rfl (by kernel_rfl) (fun _ _ _ h => h) (Or.inl ⟨by rfl, ?_⟩) ?_ ?_
  rotate_left
  · intro w'
    go_simp
    with_reducible rfl
  rotate_left
  · simp only [Act.put, List.setIfInBounds_toArray, List.set_cons_zero, List.set_cons_succ, i64_w, i32_w]
    rfl
  refine pure_ (i := 27) (N := some 46) (v := ?_) (a' := ?_) #[true, true, true, true, true, true, true, true, true, true, true, true, true, true, true, true, true, true, true, true, true, true, true, true, true, true, true, true, false, false, false] rfl rfl (by kernel_rfl) (fun _ _ _ h => h) (Or.inl ⟨by rfl, ?_⟩) ?_ ?_
  rotate_left
  · intro w'
    go_simp
    with_reducible rfl
  rotate_left
  · simp only [Act.put, List.setIfInBounds_toArray, List.set_cons_zero, List.set_cons_succ, i64_w, i32_w]
    rfl
  refine pure_ (i := 28) (N := some 47) (v := ?_) (a' := ?_) #[true, true, true, true, true, true, true, true, true, true, true, true, true, true, true, true, true, true, true, true, true, true, true, true, true, true, true, true, true, false, false] rfl rfl (by kernel_rfl) (fun _ _ _ h => h) (Or.inl ⟨by rfl, ?_⟩) ?_ ?_
  rotate_left
  · intro w'
    go_simp
    with_reducible rfl
  rotate_left
  · simp only [Act.put, List.setIfInBounds_toArray, List.set_cons_zero, List.set_cons_succ, i64_w, i32_w]
    rfl
  refine pure_ (i := 29) (N := some 48) (v := ?_) (a' := ?_) #[true, true, true, true, true, true, true, true, true, true, true, true, true, true, true, true, true, true, true, true, true, true, true, true, true, true, true, true, true, true, false] rfl rfl (by kernel_rfl) (fun _ _ _ h => h) (Or.inl ⟨by rfl, ?_⟩) ?_ ?_
  rotate_left
  · intro w'
    go_simp
    with_reducible rfl
  rotate_left
  · simp only [Act.put, List.setIfInBounds_toArray, List.set_cons_zero, List.set_cons_succ, i64_w, i32_w]
    rfl
  refine pure_ (i := 30) (N := some 0) (v := ?_) (a' := ?_) #[true, true, true, true, true, true, true, true, true, true, true, true, true, true, true, true, true, true, true, true, true, true, true, true, true, true, true, true, true, true, true] rfl rfl (by kernel_rfl) (fun _ _ _ h => h) (Or.inl ⟨by rfl, ?_⟩) ?_ ?_
  rotate_left
  · intro w'
    go_simp
    with_reducible rfl
  rotate_left
  · simp only [Act.put, List.setIfInBounds_toArray, List.set_cons_zero, List.set_cons_succ, i64_w, i32_w]
    rfl
  refine done_ (by kernel_rfl) ?_
  clear hHeld
  go_wp2
  go_ret
  exact ⟨rfl, ((HS.out 0).out 0).out 0⟩
end Go.Proofs.Ytkhbmamcbhjafaa.Keys
