/- Layer 1: the laws, walked (but ValueBack and ValueOrder). -/
import Derived.Test.YtnejbilnhebphaaDoorValV
namespace Go.Proofs.YtnejbilnhebphaaDoor.Val
open Go.RowKit Go.Proofs.YtnejbilnhebphaaDoorW.PrintWords Go.Proofs.YtnejbilnhebphaaDoorW.PrintLast Go.Proofs.YtnejbilnhebphaaDoorW.PrintMore Go.Proofs.YtnejbilnhebphaaDoor.Str Go.Proofs.YtnejbilnhebphaaDoor.PRef Go.Proofs.YtnejbilnhebphaaDoor.Sl
set_option linter.unusedVariables false
set_option linter.unusedSimpArgs false
set_option maxHeartbeats 16000000 in
set_option maxRecDepth 40000 in
theorem checks_true (ka na : Int) (sa : ByteArray) (hok : okV ka na sa.toList = true) : FunV Tryd.prog 3 #[.agg #[.int .i64 ka, .int .i64 na, .string sa]] Vars [] (.bool true) [] := by
  intro w S hS hR
  have HS := St.start hS
  have HR := Aside0.mk hR
  clear hS hR
  have huV := Tryd.underlying23
  have hck := check_f ka na sa
  have hrt := right_f ka na sa
  rw [hok] at hck hrt
  have HC := Aside0.mk (show value_Check.f ka na sa = some 0 from hck)
  have HRt := Aside0.mk hrt
  clear hck hrt hok
  go_enter Tryd.func3, Tryd.ntmps3
  go_wp2_with (first
    | ((with_reducible refine gate_dst (N := 1) rfl ?_); refine ev_box ?hg (N := 1) ?hd (cs := [.int .i64 ka, .int .i64 na, .string sa]) (t := 23) HS ?hr ?_; (case hd => rfl); (case hg => rfl); (case hr => first | (go_simp; done) | (go_simp; rfl)); intro g1 w1 HS_ hg_; clear HS; have HS := HS_; clear HS_))
  refine start_ (n := 20) (S := fun w' => w'.cell? ⟨g1, 0, none⟩ = some (.int .i64 ka) ∧ w'.cell? ⟨g1, 1, none⟩ = some (.int .i64 na) ∧ w'.cell? ⟨g1, 2, none⟩ = some (.string sa)) (ds := []) #[false, false, false, false, false, false, false, false, false, false, false, false, false, false, false, false, false, false, false, false] (by kernel_rfl) rfl rfl ⟨HS.drew.cell 0, HS.drew.cell 1, HS.drew.cell 2⟩ (fun hHeld => ?_)
  refine one_ (i := 0) (N := some 3) #[true, false, false, false, false, false, false, false, false, false, false, false, false, false, false, false, false, false, false, false] rfl rfl (by kernel_rfl) (by decide) (fun K hK => ?_)
  refine goes_ Tryd.func9 (by kernel_rfl) rfl #[] (by rfl) rfl rfl (by first | (simp only [List.map_toArray, List.map_cons, List.map_nil]; rfl) | simp only [List.map_toArray, List.map_cons, List.map_nil] | rfl) ?_
  refine ((awake_fun).call (F := [HP.obj g1 23 [.int .i64 ka, .int .i64 na, .string sa]]) HS.drew (fun w' _ e _ => HR.out w' e)).mono ?_
  rintro e_ w5 ⟨rfl, HS_⟩
  refine ⟨_, rfl, ?_⟩
  clear HS
  have HS : St w S w5 [HP.obj g1 23 [.int .i64 ka, .int .i64 na, .string sa]] := HS_
  clear HS_
  refine hK.out _ _ ⟨HS.cell 0, HS.cell 1, HS.cell 2⟩ (fun hHeld => ?_)
  clear hK K
  refine norm_ (a' := ?_) ?_ ?_
  rotate_left
  · show Act.put _ (some 3) _ = _
    simp only [Act.put, List.setIfInBounds_toArray, List.set_cons_zero, List.set_cons_succ, i64_w, i32_w]
    rfl
  refine pure_ (i := 1) (N := some 4) (v := ?_) (a' := ?_) #[true, true, false, false, false, false, false, false, false, false, false, false, false, false, false, false, false, false, false, false] rfl rfl (by kernel_rfl) (fun _ _ _ h => h) (Or.inl ⟨by rfl, ?_⟩) ?_ ?_
  rotate_left
  · intro w'
    go_simp
    with_reducible rfl
  rotate_left
  · simp only [Act.put, List.setIfInBounds_toArray, List.set_cons_zero, List.set_cons_succ, i64_w, i32_w]
    rfl
  refine take_ (i := 2) (N := some 5) (v := ?_) (a' := ?_) #[true, true, true, false, false, false, false, false, false, false, false, false, false, false, false, false, false, false, false, false] rfl rfl (by kernel_rfl) (fun _ _ _ h => h) (Or.inl ⟨by rfl, ?_⟩) hHeld ?_ ?_
  rotate_left
  · rintro w' ⟨s0, s1, s2⟩
    go_simp
    with_reducible rfl
  rotate_left
  · simp only [Act.put, List.setIfInBounds_toArray, List.set_cons_zero, List.set_cons_succ, i64_w, i32_w]
    rfl
  refine take_ (i := 5) (N := some 8) (v := ?_) (a' := ?_) #[true, true, true, false, false, true, false, false, false, false, false, false, false, false, false, false, false, false, false, false] rfl rfl (by kernel_rfl) (fun _ _ _ h => h) (Or.inl ⟨by rfl, ?_⟩) hHeld ?_ ?_
  rotate_left
  · rintro w' ⟨s0, s1, s2⟩
    go_simp
    with_reducible rfl
  rotate_left
  · simp only [Act.put, List.setIfInBounds_toArray, List.set_cons_zero, List.set_cons_succ, i64_w, i32_w]
    rfl
  refine one_ (i := 3) (N := some 6) #[true, true, true, true, false, true, false, false, false, false, false, false, false, false, false, false, false, false, false, false] rfl rfl (by kernel_rfl) (by decide) (fun K hK => ?_)
  refine goes_ Tryd.func10 (by kernel_rfl) rfl #[.agg #[.int .i64 ka, .int .i64 na, .string sa]] (by rfl) rfl rfl (by first | (simp only [List.map_toArray, List.map_cons, List.map_nil]; rfl) | simp only [List.map_toArray, List.map_cons, List.map_nil] | rfl) ?_
  refine (value_Check.calls ka na sa 0 _ HC.out).mono ?_
  rintro e_ w6 ⟨rfl, hb_⟩
  refine ⟨_, rfl, ?_⟩
  have HS_ := HS.later hb_
  clear HS hb_
  have HS := HS_
  clear HS_
  refine hK.out _ _ ⟨HS.cell 0, HS.cell 1, HS.cell 2⟩ (fun hHeld => ?_)
  clear hK K
  refine norm_ (a' := ?_) ?_ ?_
  rotate_left
  · show Act.put _ (some 6) _ = _
    simp only [Act.put, List.setIfInBounds_toArray, List.set_cons_zero, List.set_cons_succ, i64_w, i32_w]
    rfl
  refine pure_ (i := 4) (N := some 7) (v := ?_) (a' := ?_) #[true, true, true, true, true, true, false, false, false, false, false, false, false, false, false, false, false, false, false, false] rfl rfl (by kernel_rfl) (fun _ _ _ h => h) (Or.inl ⟨by rfl, ?_⟩) ?_ ?_
  rotate_left
  · intro w'
    go_simp
    with_reducible rfl
  rotate_left
  · simp only [Act.put, List.setIfInBounds_toArray, List.set_cons_zero, List.set_cons_succ, i64_w, i32_w]
    rfl
  refine one_ (i := 6) (N := some 9) #[true, true, true, true, true, true, true, false, false, false, false, false, false, false, false, false, false, false, false, false] rfl rfl (by kernel_rfl) (by decide) (fun K hK => ?_)
  refine goes_ Tryd.func11 (by kernel_rfl) rfl #[.agg #[.int .i64 ka, .int .i64 na, .string sa]] (by rfl) rfl rfl (by first | (simp only [List.map_toArray, List.map_cons, List.map_nil]; rfl) | simp only [List.map_toArray, List.map_cons, List.map_nil] | rfl) ?_
  refine (lintelref01_Right.calls ka na sa true _ HRt.out).mono ?_
  rintro e_ w7 ⟨rfl, hb_⟩
  refine ⟨_, rfl, ?_⟩
  have HS_ := HS.later hb_
  clear HS hb_
  have HS := HS_
  clear HS_
  refine hK.out _ _ ⟨HS.cell 0, HS.cell 1, HS.cell 2⟩ (fun hHeld => ?_)
  clear hK K
  refine norm_ (a' := ?_) ?_ ?_
  rotate_left
  · show Act.put _ (some 9) _ = _
    simp only [Act.put, List.setIfInBounds_toArray, List.set_cons_zero, List.set_cons_succ, i64_w, i32_w]
    rfl
  refine pure_ (i := 7) (N := some 10) (v := ?_) (a' := ?_) #[true, true, true, true, true, true, true, true, false, false, false, false, false, false, false, false, false, false, false, false] rfl rfl (by kernel_rfl) (fun _ _ _ h => h) (Or.inl ⟨by rfl, ?_⟩) ?_ ?_
  rotate_left
  · intro w'
    go_simp
    with_reducible rfl
  rotate_left
  · simp only [Act.put, List.setIfInBounds_toArray, List.set_cons_zero, List.set_cons_succ, i64_w, i32_w]
    rfl
  refine pure_ (i := 8) (N := some 11) (v := ?_) (a' := ?_) #[true, true, true, true, true, true, true, true, true, false, false, false, false, false, false, false, false, false, false, false] rfl rfl (by kernel_rfl) (fun _ _ _ h => h) (Or.inl ⟨by rfl, ?_⟩) ?_ ?_
  rotate_left
  · intro w'
    go_simp
    with_reducible rfl
  rotate_left
  · simp only [Act.put, List.setIfInBounds_toArray, List.set_cons_zero, List.set_cons_succ, i64_w, i32_w]
    rfl
  refine pure_ (i := 9) (N := some 12) (v := ?_) (a' := ?_) #[true, true, true, true, true, true, true, true, true, true, false, false, false, false, false, false, false, false, false, false] rfl rfl (by kernel_rfl) (fun _ _ _ h => h) (Or.inl ⟨by rfl, ?_⟩) ?_ ?_
  rotate_left
  · intro w'
    go_simp
    with_reducible rfl
  rotate_left
  · simp only [Act.put, List.setIfInBounds_toArray, List.set_cons_zero, List.set_cons_succ, i64_w, i32_w]
    rfl
  refine take_ (i := 10) (N := some 13) (v := ?_) (a' := ?_) #[true, true, true, true, true, true, true, true, true, true, true, false, false, false, false, false, false, false, false, false] rfl rfl (by kernel_rfl) (fun _ _ _ h => h) (Or.inl ⟨by rfl, ?_⟩) hHeld ?_ ?_
  rotate_left
  · rintro w' ⟨s0, s1, s2⟩
    go_simp
    with_reducible rfl
  rotate_left
  · simp only [Act.put, List.setIfInBounds_toArray, List.set_cons_zero, List.set_cons_succ, i64_w, i32_w]
    rfl
  refine one_ (i := 11) (N := some 14) #[true, true, true, true, true, true, true, true, true, true, true, true, false, false, false, false, false, false, false, false] rfl rfl (by kernel_rfl) (by decide) (fun K hK => ?_)
  refine goes_ Tryd.func10 (by kernel_rfl) rfl #[.agg #[.int .i64 ka, .int .i64 na, .string sa]] (by rfl) rfl rfl (by first | (simp only [List.map_toArray, List.map_cons, List.map_nil]; rfl) | simp only [List.map_toArray, List.map_cons, List.map_nil] | rfl) ?_
  refine (value_Check.calls ka na sa 0 _ HC.out).mono ?_
  rintro e_ w8 ⟨rfl, hb_⟩
  refine ⟨_, rfl, ?_⟩
  have HS_ := HS.later hb_
  clear HS hb_
  have HS := HS_
  clear HS_
  refine hK.out _ _ ⟨HS.cell 0, HS.cell 1, HS.cell 2⟩ (fun hHeld => ?_)
  clear hK K
  refine norm_ (a' := ?_) ?_ ?_
  rotate_left
  · show Act.put _ (some 14) _ = _
    simp only [Act.put, List.setIfInBounds_toArray, List.set_cons_zero, List.set_cons_succ, i64_w, i32_w]
    rfl
  refine pure_ (i := 12) (N := some 15) (v := ?_) (a' := ?_) #[true, true, true, true, true, true, true, true, true, true, true, true, true, false, false, false, false, false, false, false] rfl rfl (by kernel_rfl) (fun _ _ _ h => h) (Or.inl ⟨by rfl, ?_⟩) ?_ ?_
  rotate_left
  · intro w'
    go_simp
    with_reducible rfl
  rotate_left
  · simp only [Act.put, List.setIfInBounds_toArray, List.set_cons_zero, List.set_cons_succ, i64_w, i32_w]
    rfl
  refine pure_ (i := 13) (N := some 16) (v := ?_) (a' := ?_) #[true, true, true, true, true, true, true, true, true, true, true, true, true, true, false, false, false, false, false, false] rfl rfl (by kernel_rfl) (fun _ _ _ h => h) (Or.inl ⟨by rfl, ?_⟩) ?_ ?_
  rotate_left
  · intro w'
    go_simp
    with_reducible rfl
  rotate_left
  · simp only [Act.put, List.setIfInBounds_toArray, List.set_cons_zero, List.set_cons_succ, i64_w, i32_w]
    rfl
  refine pure_ (i := 14) (N := some 17) (v := undef) (a' := ?_) #[true, true, true, true, true, true, true, true, true, true, true, true, true, true, true, false, false, false, false, false] rfl rfl (by kernel_rfl) (fun _ _ _ h => h) (Or.inr ⟨by rfl, rfl⟩) ?_ ?_
  rotate_left
  · simp only [Act.put, List.setIfInBounds_toArray, List.set_cons_zero, List.set_cons_succ, i64_w, i32_w]
    rfl
  refine pure_ (i := 15) (N := some 18) (v := undef) (a' := ?_) #[true, true, true, true, true, true, true, true, true, true, true, true, true, true, true, true, false, false, false, false] rfl rfl (by kernel_rfl) (fun _ _ _ h => h) (Or.inr ⟨by rfl, rfl⟩) ?_ ?_
  rotate_left
  · simp only [Act.put, List.setIfInBounds_toArray, List.set_cons_zero, List.set_cons_succ, i64_w, i32_w]
    rfl
  refine pure_ (i := 16) (N := some 19) (v := undef) (a' := ?_) #[true, true, true, true, true, true, true, true, true, true, true, true, true, true, true, true, true, false, false, false] rfl rfl (by kernel_rfl) (fun _ _ _ h => h) (Or.inr ⟨by rfl, rfl⟩) ?_ ?_
  rotate_left
  · simp only [Act.put, List.setIfInBounds_toArray, List.set_cons_zero, List.set_cons_succ, i64_w, i32_w]
    rfl
  refine pure_ (i := 17) (N := some 20) (v := ?_) (a' := ?_) #[true, true, true, true, true, true, true, true, true, true, true, true, true, true, true, true, true, true, false, false] rfl rfl (by kernel_rfl) (fun _ _ _ h => h) (Or.inl ⟨by rfl, ?_⟩) ?_ ?_
  rotate_left
  · intro w'
    go_simp
    with_reducible rfl
  rotate_left
  · simp only [Act.put, List.setIfInBounds_toArray, List.set_cons_zero, List.set_cons_succ, i64_w, i32_w]
    rfl
  refine pure_ (i := 18) (N := some 21) (v := ?_) (a' := ?_) #[true, true, true, true, true, true, true, true, true, true, true, true, true, true, true, true, true, true, true, false] rfl rfl (by kernel_rfl) (fun _ _ _ h => h) (Or.inl ⟨by rfl, ?_⟩) ?_ ?_
  rotate_left
  · intro w'
    go_simp
    with_reducible rfl
  rotate_left
  · simp only [Act.put, List.setIfInBounds_toArray, List.set_cons_zero, List.set_cons_succ, i64_w, i32_w]
    rfl
  refine pure_ (i := 19) (N := some 2) (v := ?_) (a' := ?_) #[true, true, true, true, true, true, true, true, true, true, true, true, true, true, true, true, true, true, true, true] rfl rfl (by kernel_rfl) (fun _ _ _ h => h) (Or.inl ⟨by rfl, ?_⟩) ?_ ?_
  rotate_left
  · intro w'
    go_simp
    with_reducible rfl
  rotate_left
  · simp only [Act.put, List.setIfInBounds_toArray, List.set_cons_zero, List.set_cons_succ, i64_w, i32_w]
    rfl
  refine done_ (by kernel_rfl) ?_
  clear hHeld
  go_wp2
  go_ret
  exact ⟨rfl, HS.out 0⟩
set_option maxHeartbeats 16000000 in
set_option maxRecDepth 40000 in
theorem checks_false (ka na : Int) (sa : ByteArray) (hok : okV ka na sa.toList = false) : FunV Tryd.prog 3 #[.agg #[.int .i64 ka, .int .i64 na, .string sa]] Vars [] (.bool true) [] := by
  intro w S hS hR
  have HS := St.start hS
  have HR := Aside0.mk hR
  clear hS hR
  have huV := Tryd.underlying23
  have hck := check_f ka na sa
  have hrt := right_f ka na sa
  rw [hok] at hck hrt
  have HC := Aside0.mk (show value_Check.f ka na sa = some 10 from hck)
  have HRt := Aside0.mk hrt
  clear hck hrt hok
  go_enter Tryd.func3, Tryd.ntmps3
  go_wp2_with (first
    | ((with_reducible refine gate_dst (N := 1) rfl ?_); refine ev_box ?hg (N := 1) ?hd (cs := [.int .i64 ka, .int .i64 na, .string sa]) (t := 23) HS ?hr ?_; (case hd => rfl); (case hg => rfl); (case hr => first | (go_simp; done) | (go_simp; rfl)); intro g1 w1 HS_ hg_; clear HS; have HS := HS_; clear HS_))
  refine start_ (n := 20) (S := fun w' => w'.cell? ⟨g1, 0, none⟩ = some (.int .i64 ka) ∧ w'.cell? ⟨g1, 1, none⟩ = some (.int .i64 na) ∧ w'.cell? ⟨g1, 2, none⟩ = some (.string sa)) (ds := []) #[false, false, false, false, false, false, false, false, false, false, false, false, false, false, false, false, false, false, false, false] (by kernel_rfl) rfl rfl ⟨HS.drew.cell 0, HS.drew.cell 1, HS.drew.cell 2⟩ (fun hHeld => ?_)
  refine one_ (i := 0) (N := some 3) #[true, false, false, false, false, false, false, false, false, false, false, false, false, false, false, false, false, false, false, false] rfl rfl (by kernel_rfl) (by decide) (fun K hK => ?_)
  refine goes_ Tryd.func9 (by kernel_rfl) rfl #[] (by rfl) rfl rfl (by first | (simp only [List.map_toArray, List.map_cons, List.map_nil]; rfl) | simp only [List.map_toArray, List.map_cons, List.map_nil] | rfl) ?_
  refine ((awake_fun).call (F := [HP.obj g1 23 [.int .i64 ka, .int .i64 na, .string sa]]) HS.drew (fun w' _ e _ => HR.out w' e)).mono ?_
  rintro e_ w5 ⟨rfl, HS_⟩
  refine ⟨_, rfl, ?_⟩
  clear HS
  have HS : St w S w5 [HP.obj g1 23 [.int .i64 ka, .int .i64 na, .string sa]] := HS_
  clear HS_
  refine hK.out _ _ ⟨HS.cell 0, HS.cell 1, HS.cell 2⟩ (fun hHeld => ?_)
  clear hK K
  refine norm_ (a' := ?_) ?_ ?_
  rotate_left
  · show Act.put _ (some 3) _ = _
    simp only [Act.put, List.setIfInBounds_toArray, List.set_cons_zero, List.set_cons_succ, i64_w, i32_w]
    rfl
  refine pure_ (i := 1) (N := some 4) (v := ?_) (a' := ?_) #[true, true, false, false, false, false, false, false, false, false, false, false, false, false, false, false, false, false, false, false] rfl rfl (by kernel_rfl) (fun _ _ _ h => h) (Or.inl ⟨by rfl, ?_⟩) ?_ ?_
  rotate_left
  · intro w'
    go_simp
    with_reducible rfl
  rotate_left
  · simp only [Act.put, List.setIfInBounds_toArray, List.set_cons_zero, List.set_cons_succ, i64_w, i32_w]
    rfl
  refine take_ (i := 2) (N := some 5) (v := ?_) (a' := ?_) #[true, true, true, false, false, false, false, false, false, false, false, false, false, false, false, false, false, false, false, false] rfl rfl (by kernel_rfl) (fun _ _ _ h => h) (Or.inl ⟨by rfl, ?_⟩) hHeld ?_ ?_
  rotate_left
  · rintro w' ⟨s0, s1, s2⟩
    go_simp
    with_reducible rfl
  rotate_left
  · simp only [Act.put, List.setIfInBounds_toArray, List.set_cons_zero, List.set_cons_succ, i64_w, i32_w]
    rfl
  refine take_ (i := 5) (N := some 8) (v := ?_) (a' := ?_) #[true, true, true, false, false, true, false, false, false, false, false, false, false, false, false, false, false, false, false, false] rfl rfl (by kernel_rfl) (fun _ _ _ h => h) (Or.inl ⟨by rfl, ?_⟩) hHeld ?_ ?_
  rotate_left
  · rintro w' ⟨s0, s1, s2⟩
    go_simp
    with_reducible rfl
  rotate_left
  · simp only [Act.put, List.setIfInBounds_toArray, List.set_cons_zero, List.set_cons_succ, i64_w, i32_w]
    rfl
  refine one_ (i := 3) (N := some 6) #[true, true, true, true, false, true, false, false, false, false, false, false, false, false, false, false, false, false, false, false] rfl rfl (by kernel_rfl) (by decide) (fun K hK => ?_)
  refine goes_ Tryd.func10 (by kernel_rfl) rfl #[.agg #[.int .i64 ka, .int .i64 na, .string sa]] (by rfl) rfl rfl (by first | (simp only [List.map_toArray, List.map_cons, List.map_nil]; rfl) | simp only [List.map_toArray, List.map_cons, List.map_nil] | rfl) ?_
  refine (value_Check.calls ka na sa 10 _ HC.out).mono ?_
  rintro e_ w6 ⟨rfl, hb_⟩
  refine ⟨_, rfl, ?_⟩
  have HS_ := HS.later hb_
  clear HS hb_
  have HS := HS_
  clear HS_
  refine hK.out _ _ ⟨HS.cell 0, HS.cell 1, HS.cell 2⟩ (fun hHeld => ?_)
  clear hK K
  refine norm_ (a' := ?_) ?_ ?_
  rotate_left
  · show Act.put _ (some 6) _ = _
    simp only [Act.put, List.setIfInBounds_toArray, List.set_cons_zero, List.set_cons_succ, i64_w, i32_w]
    rfl
  refine pure_ (i := 4) (N := some 7) (v := ?_) (a' := ?_) #[true, true, true, true, true, true, false, false, false, false, false, false, false, false, false, false, false, false, false, false] rfl rfl (by kernel_rfl) (fun _ _ _ h => h) (Or.inl ⟨by rfl, ?_⟩) ?_ ?_
  rotate_left
  · intro w'
    go_simp
    with_reducible rfl
  rotate_left
  · simp only [Act.put, List.setIfInBounds_toArray, List.set_cons_zero, List.set_cons_succ, i64_w, i32_w]
    rfl
  refine one_ (i := 6) (N := some 9) #[true, true, true, true, true, true, true, false, false, false, false, false, false, false, false, false, false, false, false, false] rfl rfl (by kernel_rfl) (by decide) (fun K hK => ?_)
  refine goes_ Tryd.func11 (by kernel_rfl) rfl #[.agg #[.int .i64 ka, .int .i64 na, .string sa]] (by rfl) rfl rfl (by first | (simp only [List.map_toArray, List.map_cons, List.map_nil]; rfl) | simp only [List.map_toArray, List.map_cons, List.map_nil] | rfl) ?_
  refine (lintelref01_Right.calls ka na sa false _ HRt.out).mono ?_
  rintro e_ w7 ⟨rfl, hb_⟩
  refine ⟨_, rfl, ?_⟩
  have HS_ := HS.later hb_
  clear HS hb_
  have HS := HS_
  clear HS_
  refine hK.out _ _ ⟨HS.cell 0, HS.cell 1, HS.cell 2⟩ (fun hHeld => ?_)
  clear hK K
  refine norm_ (a' := ?_) ?_ ?_
  rotate_left
  · show Act.put _ (some 9) _ = _
    simp only [Act.put, List.setIfInBounds_toArray, List.set_cons_zero, List.set_cons_succ, i64_w, i32_w]
    rfl
  refine pure_ (i := 7) (N := some 10) (v := ?_) (a' := ?_) #[true, true, true, true, true, true, true, true, false, false, false, false, false, false, false, false, false, false, false, false] rfl rfl (by kernel_rfl) (fun _ _ _ h => h) (Or.inl ⟨by rfl, ?_⟩) ?_ ?_
  rotate_left
  · intro w'
    go_simp
    with_reducible rfl
  rotate_left
  · simp only [Act.put, List.setIfInBounds_toArray, List.set_cons_zero, List.set_cons_succ, i64_w, i32_w]
    rfl
  refine pure_ (i := 8) (N := some 11) (v := ?_) (a' := ?_) #[true, true, true, true, true, true, true, true, true, false, false, false, false, false, false, false, false, false, false, false] rfl rfl (by kernel_rfl) (fun _ _ _ h => h) (Or.inl ⟨by rfl, ?_⟩) ?_ ?_
  rotate_left
  · intro w'
    go_simp
    with_reducible rfl
  rotate_left
  · simp only [Act.put, List.setIfInBounds_toArray, List.set_cons_zero, List.set_cons_succ, i64_w, i32_w]
    rfl
  refine pure_ (i := 9) (N := some 12) (v := ?_) (a' := ?_) #[true, true, true, true, true, true, true, true, true, true, false, false, false, false, false, false, false, false, false, false] rfl rfl (by kernel_rfl) (fun _ _ _ h => h) (Or.inl ⟨by rfl, ?_⟩) ?_ ?_
  rotate_left
  · intro w'
    go_simp
    with_reducible rfl
  rotate_left
  · simp only [Act.put, List.setIfInBounds_toArray, List.set_cons_zero, List.set_cons_succ, i64_w, i32_w]
    rfl
  refine take_ (i := 10) (N := some 13) (v := ?_) (a' := ?_) #[true, true, true, true, true, true, true, true, true, true, true, false, false, false, false, false, false, false, false, false] rfl rfl (by kernel_rfl) (fun _ _ _ h => h) (Or.inl ⟨by rfl, ?_⟩) hHeld ?_ ?_
  rotate_left
  · rintro w' ⟨s0, s1, s2⟩
    go_simp
    with_reducible rfl
  rotate_left
  · simp only [Act.put, List.setIfInBounds_toArray, List.set_cons_zero, List.set_cons_succ, i64_w, i32_w]
    rfl
  refine one_ (i := 11) (N := some 14) #[true, true, true, true, true, true, true, true, true, true, true, true, false, false, false, false, false, false, false, false] rfl rfl (by kernel_rfl) (by decide) (fun K hK => ?_)
  refine goes_ Tryd.func10 (by kernel_rfl) rfl #[.agg #[.int .i64 ka, .int .i64 na, .string sa]] (by rfl) rfl rfl (by first | (simp only [List.map_toArray, List.map_cons, List.map_nil]; rfl) | simp only [List.map_toArray, List.map_cons, List.map_nil] | rfl) ?_
  refine (value_Check.calls ka na sa 10 _ HC.out).mono ?_
  rintro e_ w8 ⟨rfl, hb_⟩
  refine ⟨_, rfl, ?_⟩
  have HS_ := HS.later hb_
  clear HS hb_
  have HS := HS_
  clear HS_
  refine hK.out _ _ ⟨HS.cell 0, HS.cell 1, HS.cell 2⟩ (fun hHeld => ?_)
  clear hK K
  refine norm_ (a' := ?_) ?_ ?_
  rotate_left
  · show Act.put _ (some 14) _ = _
    simp only [Act.put, List.setIfInBounds_toArray, List.set_cons_zero, List.set_cons_succ, i64_w, i32_w]
    rfl
  refine pure_ (i := 12) (N := some 15) (v := ?_) (a' := ?_) #[true, true, true, true, true, true, true, true, true, true, true, true, true, false, false, false, false, false, false, false] rfl rfl (by kernel_rfl) (fun _ _ _ h => h) (Or.inl ⟨by rfl, ?_⟩) ?_ ?_
  rotate_left
  · intro w'
    go_simp
    with_reducible rfl
  rotate_left
  · simp only [Act.put, List.setIfInBounds_toArray, List.set_cons_zero, List.set_cons_succ, i64_w, i32_w]
    rfl
  refine pure_ (i := 13) (N := some 16) (v := ?_) (a' := ?_) #[true, true, true, true, true, true, true, true, true, true, true, true, true, true, false, false, false, false, false, false] rfl rfl (by kernel_rfl) (fun _ _ _ h => h) (Or.inl ⟨by rfl, ?_⟩) ?_ ?_
  rotate_left
  · intro w'
    go_simp
    with_reducible rfl
  rotate_left
  · simp only [Act.put, List.setIfInBounds_toArray, List.set_cons_zero, List.set_cons_succ, i64_w, i32_w]
    rfl
  refine take_ (i := 14) (N := some 17) (v := ?_) (a' := ?_) #[true, true, true, true, true, true, true, true, true, true, true, true, true, true, true, false, false, false, false, false] rfl rfl (by kernel_rfl) (fun _ _ _ h => h) (Or.inl ⟨by rfl, ?_⟩) hHeld ?_ ?_
  rotate_left
  · rintro w' ⟨s0, s1, s2⟩
    go_simp
    with_reducible rfl
  rotate_left
  · simp only [Act.put, List.setIfInBounds_toArray, List.set_cons_zero, List.set_cons_succ, i64_w, i32_w]
    rfl
  refine one_ (i := 15) (N := some 18) #[true, true, true, true, true, true, true, true, true, true, true, true, true, true, true, true, false, false, false, false] rfl rfl (by kernel_rfl) (by decide) (fun K hK => ?_)
  refine goes_ Tryd.func10 (by kernel_rfl) rfl #[.agg #[.int .i64 ka, .int .i64 na, .string sa]] (by rfl) rfl rfl (by first | (simp only [List.map_toArray, List.map_cons, List.map_nil]; rfl) | simp only [List.map_toArray, List.map_cons, List.map_nil] | rfl) ?_
  refine (value_Check.calls ka na sa 10 _ HC.out).mono ?_
  rintro e_ w9 ⟨rfl, hb_⟩
  refine ⟨_, rfl, ?_⟩
  have HS_ := HS.later hb_
  clear HS hb_
  have HS := HS_
  clear HS_
  refine hK.out _ _ ⟨HS.cell 0, HS.cell 1, HS.cell 2⟩ (fun hHeld => ?_)
  clear hK K
  refine norm_ (a' := ?_) ?_ ?_
  rotate_left
  · show Act.put _ (some 18) _ = _
    simp only [Act.put, List.setIfInBounds_toArray, List.set_cons_zero, List.set_cons_succ, i64_w, i32_w]
    rfl
  refine pure_ (i := 16) (N := some 19) (v := ?_) (a' := ?_) #[true, true, true, true, true, true, true, true, true, true, true, true, true, true, true, true, true, false, false, false] rfl rfl (by kernel_rfl) (fun _ _ _ h => h) (Or.inl ⟨by rfl, ?_⟩) ?_ ?_
  rotate_left
  · intro w'
    go_simp
    with_reducible rfl
  rotate_left
  · simp only [Act.put, List.setIfInBounds_toArray, List.set_cons_zero, List.set_cons_succ, i64_w, i32_w]
    rfl
  refine pure_ (i := 17) (N := some 20) (v := ?_) (a' := ?_) #[true, true, true, true, true, true, true, true, true, true, true, true, true, true, true, true, true, true, false, false] rfl rfl (by kernel_rfl) (fun _ _ _ h => h) (Or.inl ⟨by rfl, ?_⟩) ?_ ?_
  rotate_left
  · intro w'
    go_simp
    with_reducible rfl
  rotate_left
  · simp only [Act.put, List.setIfInBounds_toArray, List.set_cons_zero, List.set_cons_succ, i64_w, i32_w]
    rfl
  refine pure_ (i := 18) (N := some 21) (v := ?_) (a' := ?_) #[true, true, true, true, true, true, true, true, true, true, true, true, true, true, true, true, true, true, true, false] rfl rfl (by kernel_rfl) (fun _ _ _ h => h) (Or.inl ⟨by rfl, ?_⟩) ?_ ?_
  rotate_left
  · intro w'
    go_simp
    with_reducible rfl
  rotate_left
  · simp only [Act.put, List.setIfInBounds_toArray, List.set_cons_zero, List.set_cons_succ, i64_w, i32_w]
    rfl
  refine pure_ (i := 19) (N := some 2) (v := ?_) (a' := ?_) #[true, true, true, true, true, true, true, true, true, true, true, true, true, true, true, true, true, true, true, true] rfl rfl (by kernel_rfl) (fun _ _ _ h => h) (Or.inl ⟨by rfl, ?_⟩) ?_ ?_
  rotate_left
  · intro w'
    go_simp
    with_reducible rfl
  rotate_left
  · simp only [Act.put, List.setIfInBounds_toArray, List.set_cons_zero, List.set_cons_succ, i64_w, i32_w]
    rfl
  refine done_ (by kernel_rfl) ?_
  clear hHeld
  go_wp2
  go_ret
  exact ⟨rfl, HS.out 0⟩
theorem checks_fun (ka na : Int) (sa : ByteArray) : FunV Tryd.prog 3 #[.agg #[.int .i64 ka, .int .i64 na, .string sa]] Vars [] (.bool true) [] := by
  cases h : okV ka na sa.toList
  · exact checks_false ka na sa h
  · exact checks_true ka na sa h
set_option maxHeartbeats 16000000 in
set_option maxRecDepth 40000 in
theorem compares_fun (ka na : Int) (sa : ByteArray) (kb nb : Int) (sb : ByteArray) (ha : sa.size ≤ 140737488355328) : FunV Tryd.prog 4 #[.agg #[.int .i64 ka, .int .i64 na, .string sa], .agg #[.int .i64 kb, .int .i64 nb, .string sb]] Vars [] (.bool true) [] := by
  intro w S hS hR
  have HS := St.start hS
  have HR := Aside0.mk hR
  clear hS hR
  have huV := Tryd.underlying23
  obtain ⟨k, hk⟩ := compare_f ka na sa kb nb sb ha
  have HK := Aside0.mk hk
  have HV := Aside0.mk (valcmp_fun ka na sa kb nb sb)
  clear hk
  go_enter Tryd.func4, Tryd.ntmps4
  go_wp2_with (first
    | ((with_reducible refine gate_dst (N := 2) rfl ?_); refine ev_box ?hg (N := 2) ?hd (cs := [.int .i64 ka, .int .i64 na, .string sa]) (t := 23) HS ?hr ?_; (case hd => rfl); (case hg => rfl); (case hr => first | (go_simp; done) | (go_simp; rfl)); intro g1 w1 HS_ hg_; clear HS; have HS := HS_; clear HS_)
    | ((with_reducible refine gate_dst (N := 3) rfl ?_); refine ev_box ?hg (N := 3) ?hd (cs := [.int .i64 kb, .int .i64 nb, .string sb]) (t := 23) HS ?hr ?_; (case hd => rfl); (case hg => rfl); (case hr => first | (go_simp; done) | (go_simp; rfl)); intro g2 w2 HS_ hg_; clear HS; have HS := HS_; clear HS_))
  refine start_ (n := 11) (S := fun w' => w'.cell? ⟨g2, 0, none⟩ = some (.int .i64 kb) ∧ w'.cell? ⟨g2, 1, none⟩ = some (.int .i64 nb) ∧ w'.cell? ⟨g2, 2, none⟩ = some (.string sb) ∧ w'.cell? ⟨g1, 0, none⟩ = some (.int .i64 ka) ∧ w'.cell? ⟨g1, 1, none⟩ = some (.int .i64 na) ∧ w'.cell? ⟨g1, 2, none⟩ = some (.string sa)) (ds := []) #[false, false, false, false, false, false, false, false, false, false, false] (by kernel_rfl) rfl rfl ⟨HS.drew.cell 0, HS.drew.cell 1, HS.drew.cell 2, (HS.drew.mv 1).cell 0, (HS.drew.mv 1).cell 1, (HS.drew.mv 1).cell 2⟩ (fun hHeld => ?_)
  refine one_ (i := 0) (N := some 5) #[true, false, false, false, false, false, false, false, false, false, false] rfl rfl (by kernel_rfl) (by decide) (fun K hK => ?_)
  refine goes_ Tryd.func9 (by kernel_rfl) rfl #[] (by rfl) rfl rfl (by first | (simp only [List.map_toArray, List.map_cons, List.map_nil]; rfl) | simp only [List.map_toArray, List.map_cons, List.map_nil] | rfl) ?_
  refine ((awake_fun).call (F := [HP.obj g2 23 [.int .i64 kb, .int .i64 nb, .string sb], HP.obj g1 23 [.int .i64 ka, .int .i64 na, .string sa]]) HS.drew (fun w' _ e _ => HR.out w' e)).mono ?_
  rintro e_ w5 ⟨rfl, HS_⟩
  refine ⟨_, rfl, ?_⟩
  clear HS
  have HS : St w S w5 [HP.obj g2 23 [.int .i64 kb, .int .i64 nb, .string sb], HP.obj g1 23 [.int .i64 ka, .int .i64 na, .string sa]] := HS_
  clear HS_
  refine hK.out _ _ ⟨HS.cell 0, HS.cell 1, HS.cell 2, (HS.mv 1).cell 0, (HS.mv 1).cell 1, (HS.mv 1).cell 2⟩ (fun hHeld => ?_)
  clear hK K
  refine norm_ (a' := ?_) ?_ ?_
  rotate_left
  · show Act.put _ (some 5) _ = _
    simp only [Act.put, List.setIfInBounds_toArray, List.set_cons_zero, List.set_cons_succ, i64_w, i32_w]
    rfl
  refine pure_ (i := 1) (N := some 6) (v := ?_) (a' := ?_) #[true, true, false, false, false, false, false, false, false, false, false] rfl rfl (by kernel_rfl) (fun _ _ _ h => h) (Or.inl ⟨by rfl, ?_⟩) ?_ ?_
  rotate_left
  · intro w'
    go_simp
    with_reducible rfl
  rotate_left
  · simp only [Act.put, List.setIfInBounds_toArray, List.set_cons_zero, List.set_cons_succ, i64_w, i32_w]
    rfl
  refine take_ (i := 2) (N := some 7) (v := ?_) (a' := ?_) #[true, true, true, false, false, false, false, false, false, false, false] rfl rfl (by kernel_rfl) (fun _ _ _ h => h) (Or.inl ⟨by rfl, ?_⟩) hHeld ?_ ?_
  rotate_left
  · rintro w' ⟨s0, s1, s2, s3, s4, s5⟩
    go_simp
    with_reducible rfl
  rotate_left
  · simp only [Act.put, List.setIfInBounds_toArray, List.set_cons_zero, List.set_cons_succ, i64_w, i32_w]
    rfl
  refine take_ (i := 3) (N := some 8) (v := ?_) (a' := ?_) #[true, true, true, true, false, false, false, false, false, false, false] rfl rfl (by kernel_rfl) (fun _ _ _ h => h) (Or.inl ⟨by rfl, ?_⟩) hHeld ?_ ?_
  rotate_left
  · rintro w' ⟨s0, s1, s2, s3, s4, s5⟩
    go_simp
    with_reducible rfl
  rotate_left
  · simp only [Act.put, List.setIfInBounds_toArray, List.set_cons_zero, List.set_cons_succ, i64_w, i32_w]
    rfl
  refine take_ (i := 5) (N := some 10) (v := ?_) (a' := ?_) #[true, true, true, true, false, true, false, false, false, false, false] rfl rfl (by kernel_rfl) (fun _ _ _ h => h) (Or.inl ⟨by rfl, ?_⟩) hHeld ?_ ?_
  rotate_left
  · rintro w' ⟨s0, s1, s2, s3, s4, s5⟩
    go_simp
    with_reducible rfl
  rotate_left
  · simp only [Act.put, List.setIfInBounds_toArray, List.set_cons_zero, List.set_cons_succ, i64_w, i32_w]
    rfl
  refine take_ (i := 6) (N := some 11) (v := ?_) (a' := ?_) #[true, true, true, true, false, true, true, false, false, false, false] rfl rfl (by kernel_rfl) (fun _ _ _ h => h) (Or.inl ⟨by rfl, ?_⟩) hHeld ?_ ?_
  rotate_left
  · rintro w' ⟨s0, s1, s2, s3, s4, s5⟩
    go_simp
    with_reducible rfl
  rotate_left
  · simp only [Act.put, List.setIfInBounds_toArray, List.set_cons_zero, List.set_cons_succ, i64_w, i32_w]
    rfl
  refine one_ (i := 4) (N := some 9) #[true, true, true, true, true, true, true, false, false, false, false] rfl rfl (by kernel_rfl) (by decide) (fun K hK => ?_)
  refine goes_ Tryd.func12 (by kernel_rfl) rfl #[.agg #[.int .i64 ka, .int .i64 na, .string sa], .agg #[.int .i64 kb, .int .i64 nb, .string sb]] (by rfl) rfl rfl (by first | (simp only [List.map_toArray, List.map_cons, List.map_nil]; rfl) | simp only [List.map_toArray, List.map_cons, List.map_nil] | rfl) ?_
  refine ((HV.out).call (F := [HP.obj g2 23 [.int .i64 kb, .int .i64 nb, .string sb], HP.obj g1 23 [.int .i64 ka, .int .i64 na, .string sa]]) HS (fun _ _ _ _ => trivial)).mono ?_
  rintro e_ w6 ⟨rfl, HS_⟩
  refine ⟨_, rfl, ?_⟩
  clear HS
  have HS : St w S w6 [HP.obj g2 23 [.int .i64 kb, .int .i64 nb, .string sb], HP.obj g1 23 [.int .i64 ka, .int .i64 na, .string sa]] := HS_
  clear HS_
  refine hK.out _ _ ⟨HS.cell 0, HS.cell 1, HS.cell 2, (HS.mv 1).cell 0, (HS.mv 1).cell 1, (HS.mv 1).cell 2⟩ (fun hHeld => ?_)
  clear hK K
  refine norm_ (a' := ?_) ?_ ?_
  rotate_left
  · show Act.put _ (some 9) _ = _
    simp only [Act.put, List.setIfInBounds_toArray, List.set_cons_zero, List.set_cons_succ, i64_w, i32_w]
    rfl
  refine one_ (i := 7) (N := some 12) #[true, true, true, true, true, true, true, true, false, false, false] rfl rfl (by kernel_rfl) (by decide) (fun K hK => ?_)
  refine goes_ Tryd.func13 (by kernel_rfl) rfl #[.agg #[.int .i64 ka, .int .i64 na, .string sa], .agg #[.int .i64 kb, .int .i64 nb, .string sb]] (by rfl) rfl rfl (by first | (simp only [List.map_toArray, List.map_cons, List.map_nil]; rfl) | simp only [List.map_toArray, List.map_cons, List.map_nil] | rfl) ?_
  refine (lintelref01_Compare.calls k ka na sa kb nb sb _ _ HK.out).mono ?_
  rintro e_ w7 ⟨rfl, hb_⟩
  refine ⟨_, rfl, ?_⟩
  have HS_ := HS.later hb_
  clear HS hb_
  have HS := HS_
  clear HS_
  refine hK.out _ _ ⟨HS.cell 0, HS.cell 1, HS.cell 2, (HS.mv 1).cell 0, (HS.mv 1).cell 1, (HS.mv 1).cell 2⟩ (fun hHeld => ?_)
  clear hK K
  refine norm_ (a' := ?_) ?_ ?_
  rotate_left
  · show Act.put _ (some 12) _ = _
    simp only [Act.put, List.setIfInBounds_toArray, List.set_cons_zero, List.set_cons_succ, i64_w, i32_w]
    rfl
  refine pure_ (i := 8) (N := some 13) (v := ?_) (a' := ?_) #[true, true, true, true, true, true, true, true, true, false, false] rfl rfl (by kernel_rfl) (fun _ _ _ h => h) (Or.inl ⟨by rfl, ?_⟩) ?_ ?_
  rotate_left
  · intro w'
    go_simp
    with_reducible rfl
  rotate_left
  · simp only [Act.put, List.setIfInBounds_toArray, List.set_cons_zero, List.set_cons_succ, i64_w, i32_w]
    rfl
  refine pure_ (i := 9) (N := some 14) (v := ?_) (a' := ?_) #[true, true, true, true, true, true, true, true, true, true, false] rfl rfl (by kernel_rfl) (fun _ _ _ h => h) (Or.inl ⟨by rfl, ?_⟩) ?_ ?_
  rotate_left
  · intro w'
    go_simp
    with_reducible rfl
  rotate_left
  · simp only [Act.put, List.setIfInBounds_toArray, List.set_cons_zero, List.set_cons_succ, i64_w, i32_w]
    rfl
  refine pure_ (i := 10) (N := some 4) (v := ?_) (a' := ?_) #[true, true, true, true, true, true, true, true, true, true, true] rfl rfl (by kernel_rfl) (fun _ _ _ h => h) (Or.inl ⟨by rfl, ?_⟩) ?_ ?_
  rotate_left
  · intro w'
    go_simp
    with_reducible rfl
  rotate_left
  · simp only [Act.put, List.setIfInBounds_toArray, List.set_cons_zero, List.set_cons_succ, i64_w, i32_w]
    rfl
  refine done_ (by kernel_rfl) ?_
  clear hHeld
  go_wp2
  go_ret
  exact ⟨by first | rfl | simp [cmpV], (HS.out 0).out 0⟩
set_option maxHeartbeats 16000000 in
set_option maxRecDepth 40000 in
theorem prints_fun (ka na : Int) (sa : ByteArray) (h0 : -9223372036854775808 ≤ na) (h1 : na ≤ 9223372036854775807) : FunV Tryd.prog 5 #[.agg #[.int .i64 ka, .int .i64 na, .string sa]] Vars [] (.bool true) [] := by
  intro w S hS hR
  have HS := St.start hS
  have HR := Aside0.mk hR
  clear hS hR
  have huV := Tryd.underlying23
  obtain ⟨k, hk⟩ := print_f ka na sa h0 h1
  have HPr := Aside0.mk (print_fun ka na sa h0 h1)
  generalize (printV ka na sa.toList).1 = pt at hk HPr
  generalize (printV ka na sa.toList).2 = pe at hk HPr
  generalize ba pt = bp at hk HPr
  have HK := Aside0.mk hk
  clear hk
  go_enter Tryd.func5, Tryd.ntmps5
  go_wp2_with (first
    | ((with_reducible refine gate_dst (N := 1) rfl ?_); refine ev_box ?hg (N := 1) ?hd (cs := [.int .i64 ka, .int .i64 na, .string sa]) (t := 23) HS ?hr ?_; (case hd => rfl); (case hg => rfl); (case hr => first | (go_simp; done) | (go_simp; rfl)); intro g1 w1 HS_ hg_; clear HS; have HS := HS_; clear HS_; have p0 := HS.cell 0; have p1 := HS.cell 1; have p2 := HS.cell 2))
  refine (HPr.out.call (F := [HP.obj g1 23 [.int .i64 ka, .int .i64 na, .string sa]]) HS (fun w' _ e _ => HR.out w' e)).mono ?_
  rintro e_ w2 ⟨rfl, HS_⟩
  clear HS p0 p1 p2
  have HS : St w S w2 [HP.obj g1 23 [.int .i64 ka, .int .i64 na, .string sa]] := HS_
  clear HS_
  have p0 := HS.cell 0
  have p1 := HS.cell 1
  have p2 := HS.cell 2
  go_wp2_with fail
  refine (lintelref01_Print.calls k ka na sa _ _ _ HK.out).mono ?_
  rintro e_ w3 ⟨rfl, hb⟩
  have HS := HS.later hb
  clear p0 p1 p2 hb
  have p0 := HS.cell 0
  have p1 := HS.cell 1
  have p2 := HS.cell 2
  go_wp2_with fail
  refine (awake_fun.call (F := [HP.obj g1 23 [.int .i64 ka, .int .i64 na, .string sa]]) HS (fun w' _ e _ => HR.out w' e)).mono ?_
  rintro e_ w4 ⟨rfl, HS_⟩
  clear HS p0 p1 p2
  have HS : St w S w4 [HP.obj g1 23 [.int .i64 ka, .int .i64 na, .string sa]] := HS_
  clear HS_
  go_wp2_with fail
  go_ret
  exact ⟨by first | rfl | simp, HS.out 0⟩
set_option maxHeartbeats 16000000 in
set_option maxRecDepth 40000 in
theorem reads_fun (sa : ByteArray) (hs : sa.size ≤ 1048576) : FunV Tryd.prog 6 #[.string sa] Vars [] (.bool true) [] := by
  intro w S hS hR
  have HS := St.start hS
  have HR := Aside0.mk hR
  clear hS hR
  have huV := Tryd.underlying23
  obtain ⟨k, hk⟩ := read_f sa (by omega)
  have HRd := Aside0.mk (read_fun sa hs)
  generalize ba (readV sa.toList).2.2.1 = sb at hk HRd
  generalize (readV sa.toList).2.2.2 = eb at hk HRd
  generalize (readV sa.toList).2.1 = nb at hk HRd
  generalize (readV sa.toList).1 = kb at hk HRd
  have HK := Aside0.mk hk
  clear hk
  go_enter Tryd.func6, Tryd.ntmps6
  go_wp2_with fail
  refine (HRd.out.call (F := []) HS (fun w' _ e _ => HR.out w' e)).mono ?_
  rintro e_ w2 ⟨rfl, HS_⟩
  clear HS
  have HS : St w S w2 [] := HS_
  clear HS_
  go_wp2_with (first
    | ((with_reducible refine gate_dst (N := 3) rfl ?_); refine ev_box ?hg (N := 3) ?hd (cs := [.int .i64 0, .int .i64 0, .string ⟨#[]⟩]) (t := 23) HS ?hr ?_; (case hd => rfl); (case hg => rfl); (case hr => first | (go_simp; done) | (go_simp; rfl)); intro g3 w3 HS_ hg_; clear HS; have HS := HS_; clear HS_; have p0 := HS.cell 0; have p1 := HS.cell 1; have p2 := HS.cell 2)
    | ((with_reducible refine gate_ (.store 23 (.tmp 3) (.tmp 10)) rfl ?_); refine ev_store rfl rfl 23 (.tmp 3) (.tmp 10) rfl HS (g := g3) (j := 0) rfl rfl (seg := [.int .i64 kb, .int .i64 nb, .string sb]) rfl ?ht rfl ?hf ?_; (case ht => kernel_rfl); (case hf => first | (simp; done) | (simp [splice]; done)); intro w4 HS_; clear HS p0 p1 p2; have HS : St w S w4 [HP.obj g3 23 [.int .i64 kb, .int .i64 nb, .string sb]] := HS_; clear HS_; have p0 := HS.cell 0; have p1 := HS.cell 1; have p2 := HS.cell 2))
  refine (lintelref01_Read.calls k sa _ _ _ _ _ HK.out).mono ?_
  rintro e_ w5 ⟨rfl, hb⟩
  have HS := HS.later hb
  clear p0 p1 p2 hb
  have p0 := HS.cell 0
  have p1 := HS.cell 1
  have p2 := HS.cell 2
  go_wp2_with (first
    | ((with_reducible refine gate_dst (N := 5) rfl ?_); refine ev_box ?hg (N := 5) ?hd (cs := [.int .i64 0, .int .i64 0, .string ⟨#[]⟩]) (t := 23) HS ?hr ?_; (case hd => rfl); (case hg => rfl); (case hr => first | (go_simp; done) | (go_simp; rfl)); intro g5 w6 HS_ hg_; clear HS p0 p1 p2; have HS := HS_; clear HS_; have p0 := (HS.mv 1).cell 0; have p1 := (HS.mv 1).cell 1; have p2 := (HS.mv 1).cell 2; have r0 := HS.cell 0; have r1 := HS.cell 1; have r2 := HS.cell 2)
    | ((with_reducible refine gate_ (.store 23 (.tmp 5) (.tmp 15)) rfl ?_); refine ev_store rfl rfl 23 (.tmp 5) (.tmp 15) rfl HS (g := g5) (j := 0) rfl rfl (seg := [.int .i64 kb, .int .i64 nb, .string sb]) rfl ?ht rfl ?hf ?_; (case ht => kernel_rfl); (case hf => first | (simp; done) | (simp [splice]; done)); intro w7 HS_; clear HS p0 p1 p2 r0 r1 r2; have HS : St w S w7 [HP.obj g5 23 [.int .i64 kb, .int .i64 nb, .string sb], HP.obj g3 23 [.int .i64 kb, .int .i64 nb, .string sb]] := HS_; clear HS_; have p0 := (HS.mv 1).cell 0; have p1 := (HS.mv 1).cell 1; have p2 := (HS.mv 1).cell 2; have r0 := HS.cell 0; have r1 := HS.cell 1; have r2 := HS.cell 2))
  refine (awake_fun.call (F := [HP.obj g5 23 [.int .i64 kb, .int .i64 nb, .string sb], HP.obj g3 23 [.int .i64 kb, .int .i64 nb, .string sb]]) HS (fun w' _ e _ => HR.out w' e)).mono ?_
  rintro e_ w8 ⟨rfl, HS_⟩
  clear HS p0 p1 p2 r0 r1 r2
  have HS : St w S w8 [HP.obj g5 23 [.int .i64 kb, .int .i64 nb, .string sb], HP.obj g3 23 [.int .i64 kb, .int .i64 nb, .string sb]] := HS_
  clear HS_
  have p0 := (HS.mv 1).cell 0
  have p1 := (HS.mv 1).cell 1
  have p2 := (HS.mv 1).cell 2
  have r0 := HS.cell 0
  have r1 := HS.cell 1
  have r2 := HS.cell 2
  go_wp2_with fail
  go_ret
  exact ⟨by first | rfl | simp, (HS.out 0).out 0⟩
end Go.Proofs.YtnejbilnhebphaaDoor.Val
