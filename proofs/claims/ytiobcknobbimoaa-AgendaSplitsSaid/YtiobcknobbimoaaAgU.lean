/- An agenda's Set: walked. -/
import Derived.Test.YtiobcknobbimoaaAgV
namespace Go.Proofs.Ytiobcknobbimoaa.Ag
open Go.RowKit Go.Proofs.YtiobcknobbimoaaW.PrintWords Go.Proofs.YtiobcknobbimoaaW.PrintLast Go.Proofs.YtiobcknobbimoaaW.PrintMore Go.Proofs.Ytiobcknobbimoaa.Sl
set_option linter.unusedVariables false
set_option linter.unusedSimpArgs false
theorem items_set (q : List It) (i : Nat) (x : It) (hi : i < q.length) : (itemsH q).set i (itemH i x) = itemsH (q.set i x) := by
  apply List.ext_getElem?
  intro k
  rw [itemsH_at, List.getElem?_set, itemsH_len, List.length_set]
  by_cases h1 : i = k
  · subst h1
    rw [if_pos rfl, if_pos hi, if_pos hi]
    congr 2
    simp [at_, List.getD_eq_getElem?_getD, hi]
  · rw [if_neg h1, itemsH_at]
    have : at_ (q.set i x) k = at_ q k := by simp [at_, List.getD_eq_getElem?_getD, List.getElem?_set_ne h1]
    rw [this]
theorem at_set_ne (q : List It) (i k : Nat) (x : It) (h : k ≠ i) : at_ (q.set i x) k = at_ q k := by simp [at_, List.getD_eq_getElem?_getD, List.getElem?_set_ne (Ne.symm h)]
theorem map_set_g (q : List It) (i : Nat) (x : It) (hi : i < q.length) (hg : x.g = (at_ q i).g) : (q.set i x).map (·.g) = q.map (·.g) := by
  rw [List.map_set, hg, at_get q i hi]
  have : q[i].g = (q.map (·.g))[i]'(by simpa using hi) := by simp
  rw [this, List.set_getElem_self]
set_option maxHeartbeats 8000000 in
set_option maxRecDepth 20000 in
theorem set_ag (ga : Nat) (L : List Th) (tn : Nat) (k due : Int) (hl : tn ≤ 10000) : FunV Try.prog 16 #[.pointer (some ⟨ga, 0, none⟩), .int .i64 k, .int .i64 due] (fun _ => True) [agS ga L tn] (.tuple #[]) [agS ga (setL L k due) (tn + 1)] := by
  intro w S hS_ hR
  have HS := St.start hS_
  clear hS_ hR
  have hu53 := Try.underlying53
  have hu51 := Try.underlying51
  have hu55 := Try.underlying55
  have hu56 := Try.underlying56
  have hu49 := Try.underlying49
  obtain ⟨v, q, m, mb, L', ha, H0⟩ := agS_open HS
  have H1 := hS_open H0
  clear HS H0
  have hql := ag_len ha
  have hLl := ha.len
  have hq5 : q.length ≤ 100000 := by omega
  have q0 : w.cell? ⟨ga, 2, none⟩ = some (.int .i64 (tn : Int)) := H1.cell 2
  have q1 : w.frozen? ⟨ga, 2, none⟩ = false := H1.unfrozen 2
  have H2 : St w S (w.setCell ⟨ga, 2, none⟩ (.int .i64 ((tn : Int) + 1))) [HP.obj ga 53 [v, .map (some mb), .int .i64 ((tn : Int) + 1)], rowP v q, Sl.all (itemsH q), MI mb m] := H1.set 2 (.int .i64 ((tn : Int) + 1))
  have hw1 : IntKind.i64.wrap ((tn : Int) + 1) = (tn : Int) + 1 := IntWalk.i64_in _ (by omega)
  obtain ⟨w1, hw1e⟩ : ∃ w1, w.setCell ⟨ga, 2, none⟩ (.int .i64 ((tn : Int) + 1)) = w1 := ⟨_, rfl⟩
  have q2 : (w.setCell ⟨ga, 2, none⟩ (.int .i64 ((tn : Int) + 1))).cell? ⟨ga, 1, none⟩ = some (.map (some mb)) := H2.cell 1
  have q3 : (w.setCell ⟨ga, 2, none⟩ (.int .i64 ((tn : Int) + 1))).cell? ⟨ga, 2, none⟩ = some (.int .i64 ((tn : Int) + 1)) := H2.cell 2
  have HA := Aside0.mk ha
  clear H1 hw1e w1
  cases hm : mget m k with
  | none =>
    have hlk : (Instr.lookup 49 (.map (some mb)) (.int .i64 k) true).run Try.prog (w.setCell ⟨ga, 2, none⟩ (.int .i64 ((tn : Int) + 1))) = .ok (.tuple #[.pointer none, .bool false]) (w.setCell ⟨ga, 2, none⟩ (.int .i64 ((tn : Int) + 1))) := look_mi (H2.mv 3) k hm
    have HM := Aside0.mk hm
    clear ha hm hql hLl
    go_enter Try.func16, Try.ntmps16
    go_wp2_with ((with_reducible refine gate_dst (N := 35) rfl ?_); refine ev_box ?hg (N := 35) ?hd (cs := [.int .i64 k, .int .i64 due, .int .i64 ((tn : Int) + 1), .int .i64 0]) (t := 55) H2 ?hr ?_; (case hd => rfl); (case hg => rfl); (case hr => first | (go_simp; done) | (go_simp; rfl)); intro gi w2 H3 hg_; clear H2 q0 q1 q2 q3 hlk; obtain ⟨w3, hmu, H4⟩ := St.map_store (P := Try.prog) (t := 49) (kt := 3) (H3.mv 4) Try.underlying49 Try.underlying3 k gi; have p1 : w2.cell? ⟨ga, 1, none⟩ = some (.map (some mb)) := (H3.mv 1).cell 1; clear H3)
    clear hmu p1
    have H5 : St w S w3 [HP.obj gi 55 [.int .i64 k, .int .i64 due, .int .i64 ((tn : Int) + 1), .int .i64 0], hS ga v (.map (some mb)) (.int .i64 ((tn : Int) + 1)) q, MI mb (mput m k gi)] := by
      have h1 : St w S w3 [MI mb (mput m k gi), HP.obj gi 55 [.int .i64 k, .int .i64 due, .int .i64 ((tn : Int) + 1), .int .i64 0], HP.obj ga 53 [v, .map (some mb), .int .i64 ((tn : Int) + 1)], rowP v q, Sl.all (itemsH q)] := H4
      have h2 := hS_shut (((h1.mv 4).mv 4).mv 4)
      exact h2.mv 2
    clear H4
    refine ((heapPush_fun ga v (.map (some mb)) (.int .i64 ((tn : Int) + 1)) q ⟨k, due, (tn : Int) + 1, gi⟩ 0 hq5 HA.out.heap).call (F := [MI mb (mput m k gi)]) H5 (fun _ _ _ _ => trivial)).mono ?_
    rintro e_ w4 ⟨r, rfl, HS_⟩
    obtain ⟨v1, HS1⟩ := St.ex_ HS_
    obtain ⟨q1, HS2⟩ := St.ex_ HS1
    obtain ⟨⟨hr, hp, hh⟩, HS3⟩ := St.and_ HS2
    subst hr
    have HE : Aside0 (St w S w4 [agS ga (setL L k due) (tn + 1)]) := ⟨agS_shut (ag_new HA.out k due gi HM.out hp hh) HS3⟩
    clear H5 HS_ HS1 HS2 HS3 hp hh
    go_wp2
    try simp only [Exit.inBlock, Exit.then]
    refine bodyPost_ret (results_none rfl _ _ _) rfl ?_
    exact ⟨rfl, HE.out⟩
  | some g =>
    obtain ⟨i, hi, hw, hg⟩ := ag_find ha hm
    have hlk : (Instr.lookup 49 (.map (some mb)) (.int .i64 k) true).run Try.prog (w.setCell ⟨ga, 2, none⟩ (.int .i64 ((tn : Int) + 1))) = .ok (.tuple #[.pointer (some ⟨g, 0, none⟩), .bool true]) (w.setCell ⟨ga, 2, none⟩ (.int .i64 ((tn : Int) + 1))) := look_mi (H2.mv 3) k hm
    have HI := st_pick (H2.mv 2) i (itemsH_get q i hi)
    obtain ⟨x, hx⟩ : ∃ x, at_ q i = x := ⟨_, rfl⟩
    rw [hx] at hw hg HI
    have HX := Aside0.mk hx
    obtain ⟨xw, xd, xt, xg⟩ := x
    obtain rfl : xw = k := hw
    obtain rfl : xg = g := hg
    have HI2 : St w S (w.setCell ⟨ga, 2, none⟩ (.int .i64 ((tn : Int) + 1))) [HP.obj xg 55 [.int .i64 xw, .int .i64 xd, .int .i64 xt, .int .i64 (i : Int)], Sl.all ((itemsH q).eraseIdx i), HP.obj ga 53 [v, .map (some mb), .int .i64 ((tn : Int) + 1)], rowP v q, MI mb m] := HI
    clear HI H2 ha hm hql hLl hx
    have r1 := HI2.unfrozen 1
    have r2 : (w.setCell ⟨ga, 2, none⟩ (.int .i64 ((tn : Int) + 1))).cell? ⟨xg, 1, none⟩ = some (.int .i64 xd) := HI2.cell 1
    have HI3 : St w S ((w.setCell ⟨ga, 2, none⟩ (.int .i64 ((tn : Int) + 1))).setCell ⟨xg, 1, none⟩ (.int .i64 due)) [HP.obj xg 55 [.int .i64 xw, .int .i64 due, .int .i64 xt, .int .i64 (i : Int)], Sl.all ((itemsH q).eraseIdx i), HP.obj ga 53 [v, .map (some mb), .int .i64 ((tn : Int) + 1)], rowP v q, MI mb m] := HI2.set 1 (.int .i64 due)
    have r3 := HI3.unfrozen 2
    have r4 : ((w.setCell ⟨ga, 2, none⟩ (.int .i64 ((tn : Int) + 1))).setCell ⟨xg, 1, none⟩ (.int .i64 due)).cell? ⟨xg, 2, none⟩ = some (.int .i64 xt) := HI3.cell 2
    have HI4 : St w S (((w.setCell ⟨ga, 2, none⟩ (.int .i64 ((tn : Int) + 1))).setCell ⟨xg, 1, none⟩ (.int .i64 due)).setCell ⟨xg, 2, none⟩ (.int .i64 ((tn : Int) + 1))) [itemH i ⟨xw, due, (tn : Int) + 1, xg⟩, Sl.all ((itemsH q).eraseIdx i), HP.obj ga 53 [v, .map (some mb), .int .i64 ((tn : Int) + 1)], rowP v q, MI mb m] := HI3.set 2 (.int .i64 ((tn : Int) + 1))
    have HI5 := st_back (L := itemsH q) i (by rw [itemsH_len]; exact hi) HI4
    rw [items_set q i _ hi] at HI5
    have HI6 : St w S (((w.setCell ⟨ga, 2, none⟩ (.int .i64 ((tn : Int) + 1))).setCell ⟨xg, 1, none⟩ (.int .i64 due)).setCell ⟨xg, 2, none⟩ (.int .i64 ((tn : Int) + 1))) [hS ga v (.map (some mb)) (.int .i64 ((tn : Int) + 1)) (q.set i ⟨xw, due, (tn : Int) + 1, xg⟩), MI mb m] := hS_shut (by
      have h1 := (HI5.mv 2).mv 2
      have e : rowP v (q.set i ⟨xw, due, (tn : Int) + 1, xg⟩) = rowP v q := by
        unfold rowP
        rw [map_set_g q i _ hi (by rw [HX.out])]
      rw [e]
      exact h1)
    have HW := Aside0.mk HI6
    have hsl : (q.set i ⟨xw, due, (tn : Int) + 1, xg⟩).length = q.length := List.length_set
    have HSL := Aside0.mk hsl
    have HDI : Aside0 (DownInv (q.set i ⟨xw, due, (tn : Int) + 1, xg⟩) i i (q.set i ⟨xw, due, (tn : Int) + 1, xg⟩).length) := ⟨by rw [hsl]; exact down_of HA.out.heap (fun k hk hki => at_set_ne q i k _ hki)⟩
    clear hsl HI2 HI3 HI4 HI5 HI6
    go_enter Try.func16, Try.ntmps16
    go_wp2_with fail
    clear q0 q1 q2 q3 hlk r1 r2 r3 r4
    have H1 := HW.out
    generalize ((w.setCell ⟨ga, 2, none⟩ (.int .i64 ((tn : Int) + 1))).setCell ⟨xg, 1, none⟩ (.int .i64 due)).setCell ⟨xg, 2, none⟩ (.int .i64 ((tn : Int) + 1)) = w9 at H1 ⊢
    have HC := Aside0.mk (fun (w' : World) (F : List HP) (h : St w S w' (hS ga v (.map (some mb)) (.int .i64 ((tn : Int) + 1)) (q.set i ⟨xw, due, (tn : Int) + 1, xg⟩) :: F)) => (show w'.cell? ⟨xg, 3, none⟩ = some (.int .i64 (i : Int)) from by
      have h1 := (item_cells ((hS_open h).mv 2) i (by rw [List.length_set]; exact hi)).2.2.2
      have e : (at_ (q.set i (⟨xw, due, (tn : Int) + 1, xg⟩ : It)) i) = ⟨xw, due, (tn : Int) + 1, xg⟩ := by simp [at_, List.getD_eq_getElem?_getD, hi]
      rw [e] at h1
      exact h1))
    have hiq : i < (q.set i (⟨xw, due, (tn : Int) + 1, xg⟩ : It)).length := by rw [List.length_set]; exact hi
    have hq6 : (q.set i (⟨xw, due, (tn : Int) + 1, xg⟩ : It)).length ≤ 100000 := by rw [List.length_set]; exact hq5
    clear HW
    obtain ⟨q2, hq2⟩ : ∃ q2, q.set i (⟨xw, due, (tn : Int) + 1, xg⟩ : It) = q2 := ⟨_, rfl⟩
    rw [hq2] at H1 HC hiq hq6 HDI
    have HQ2 := Aside0.mk hq2
    clear hq2
    refine start_ (n := 9) (S := fun w' => w'.cell? ⟨xg, 3, none⟩ = some (.int .i64 (i : Int))) (ds := [8]) #[false, false, false, false, false, false, false, false, false] (by kernel_rfl) rfl rfl (HC.out _ _ H1.drew) (fun hHeld => ?_)
    refine pure_ (i := 0) (N := some 60) (v := ?_) (a' := ?_) #[true, false, false, false, false, false, false, false, false] rfl rfl (by kernel_rfl) (fun _ _ _ h => h) (Or.inl ⟨by rfl, ?_⟩) ?_ ?_
    rotate_left
    · intro w'
      go_simp
      with_reducible rfl
    rotate_left
    · simp only [Act.put, List.setIfInBounds_toArray, List.set_cons_zero, List.set_cons_succ, i64_w, i32_w]
      rfl
    refine pure_ (i := 1) (N := some 61) (v := ?_) (a' := ?_) #[true, true, false, false, false, false, false, false, false] rfl rfl (by kernel_rfl) (fun _ _ _ h => h) (Or.inl ⟨by rfl, ?_⟩) ?_ ?_
    rotate_left
    · intro w'
      go_simp
      with_reducible rfl
    rotate_left
    · simp only [Act.put, List.setIfInBounds_toArray, List.set_cons_zero, List.set_cons_succ, i64_w, i32_w]
      rfl
    refine pure_ (i := 2) (N := some 62) (v := ?_) (a' := ?_) #[true, true, true, false, false, false, false, false, false] rfl rfl (by kernel_rfl) (fun _ _ _ h => h) (Or.inl ⟨by rfl, ?_⟩) ?_ ?_
    rotate_left
    · intro w'
      go_simp
      with_reducible rfl
    rotate_left
    · simp only [Act.put, List.setIfInBounds_toArray, List.set_cons_zero, List.set_cons_succ, i64_w, i32_w]
      rfl
    refine pure_ (i := 3) (N := some 63) (v := ?_) (a' := ?_) #[true, true, true, true, false, false, false, false, false] rfl rfl (by kernel_rfl) (fun _ _ _ h => h) (Or.inl ⟨by rfl, ?_⟩) ?_ ?_
    rotate_left
    · intro w'
      go_simp
      with_reducible rfl
    rotate_left
    · simp only [Act.put, List.setIfInBounds_toArray, List.set_cons_zero, List.set_cons_succ, i64_w, i32_w]
      rfl
    refine pure_ (i := 4) (N := some 64) (v := ?_) (a' := ?_) #[true, true, true, true, true, false, false, false, false] rfl rfl (by kernel_rfl) (fun _ _ _ h => h) (Or.inl ⟨by rfl, ?_⟩) ?_ ?_
    rotate_left
    · intro w'
      go_simp
      with_reducible rfl
    rotate_left
    · simp only [Act.put, List.setIfInBounds_toArray, List.set_cons_zero, List.set_cons_succ, i64_w, i32_w]
      rfl
    refine pure_ (i := 5) (N := some 65) (v := ?_) (a' := ?_) #[true, true, true, true, true, true, false, false, false] rfl rfl (by kernel_rfl) (fun _ _ _ h => h) (Or.inl ⟨by rfl, ?_⟩) ?_ ?_
    rotate_left
    · intro w'
      go_simp
      with_reducible rfl
    rotate_left
    · simp only [Act.put, List.setIfInBounds_toArray, List.set_cons_zero, List.set_cons_succ, i64_w, i32_w]
      rfl
    refine pure_ (i := 6) (N := some 66) (v := ?_) (a' := ?_) #[true, true, true, true, true, true, true, false, false] rfl rfl (by kernel_rfl) (fun _ _ _ h => h) (Or.inl ⟨by rfl, ?_⟩) ?_ ?_
    rotate_left
    · intro w'
      go_simp
      with_reducible rfl
    rotate_left
    · simp only [Act.put, List.setIfInBounds_toArray, List.set_cons_zero, List.set_cons_succ, i64_w, i32_w]
      rfl
    refine take_ (i := 7) (N := some 67) (v := ?_) (a' := ?_) #[true, true, true, true, true, true, true, true, false] rfl rfl (by kernel_rfl) (fun _ _ _ h => h) (Or.inl ⟨by rfl, ?_⟩) hHeld ?_ ?_
    rotate_left
    · intro w' s0
      go_simp
      with_reducible rfl
    rotate_left
    · simp only [Act.put, List.setIfInBounds_toArray, List.set_cons_zero, List.set_cons_succ, i64_w, i32_w]
      rfl
    refine last_ (i := 8) (N := some 68) #[true, true, true, true, true, true, true, true, true] rfl rfl (by kernel_rfl) (by decide) (fun K hK => ?_)
    refine goes_ Try.func23 (by kernel_rfl) rfl #[.iface 59 (.pointer (some ⟨ga, 0, none⟩)), .int .i64 (i : Int)] (by rfl) rfl rfl (by simp only [List.map_toArray, List.map_cons, List.map_nil]; rfl) ?_
    refine ((fix_fun ga v (.map (some mb)) (.int .i64 ((tn : Int) + 1)) q2 i hiq hq6 HDI.out).call (F := [MI mb m]) H1.drew (fun _ _ _ _ => trivial)).mono ?_
    rintro e_ w5 ⟨r, rfl, HS_⟩
    refine ⟨_, rfl, ?_⟩
    obtain ⟨q3, HS2⟩ := St.ex_ HS_
    obtain ⟨⟨hr, hp, hh⟩, HS3⟩ := St.and_ HS2
    subst hr
    have HF := Aside0.mk (And.intro hp hh)
    have HS4 : St w S w5 [hS ga v (.map (some mb)) (.int .i64 ((tn : Int) + 1)) q3, MI mb m] := HS3
    clear H1 HS_ HS2 HS3 hp hh
    refine hK.out _ _ ?_
    clear hK K
    refine norm_ (a' := ?_) ?_ ?_
    rotate_left
    · show Act.put _ (some 68) _ = _
      simp only [Act.put, List.setIfInBounds_toArray, List.set_cons_zero, List.set_cons_succ, i64_w, i32_w]
      rfl
    refine done_ (by kernel_rfl) ?_
    try clear hHeld
    have HE : Aside0 (St w S w5 [agS ga (setL L xw due) (tn + 1)]) := ⟨by
      have hp := HF.out.1
      rw [← HQ2.out] at hp
      have h3 := ag_again HA.out i hi due (q' := q3) (by rw [HX.out]; exact hp) HF.out.2
      rw [HX.out] at h3
      obtain ⟨L'', h4⟩ := h3
      exact agS_shut h4 HS4⟩
    clear HS4
    go_wp2
    go_end0
    exact ⟨rfl, HE.out⟩
end Go.Proofs.Ytiobcknobbimoaa.Ag
