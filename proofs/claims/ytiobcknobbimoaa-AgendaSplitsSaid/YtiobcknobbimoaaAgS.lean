/- (queue).Swap, walked. -/
import Derived.Test.YtiobcknobbimoaaAgC
namespace Go.Proofs.Ytiobcknobbimoaa.Ag
open Go.RowKit Go.Proofs.YtiobcknobbimoaaW.PrintWords Go.Proofs.YtiobcknobbimoaaW.PrintLast Go.Proofs.YtiobcknobbimoaaW.PrintMore Go.Proofs.Ytiobcknobbimoaa.Sl
set_option linter.unusedVariables false
set_option linter.unusedSimpArgs false
theorem all_perm {L M : List HP} (h : L.Perm M) : Gives (Sl.all L) (Sl.all M) := by
  induction h with
  | nil => exact Gives.refl _
  | cons x _ ih => exact (Gives.refl x).star ih
  | swap x y l => exact Gives.swap _ _ _
  | trans _ _ ih1 ih2 => exact ih1.trans ih2
section
variable {α : Type} (q : List α)
theorem perm_front' (i : Nat) (h : i < q.length) : q.Perm (q[i] :: q.eraseIdx i) := by
  conv => lhs; rw [← List.take_append_drop i q]
  rw [List.drop_eq_getElem_cons h, List.eraseIdx_eq_take_drop_succ]
  exact List.perm_middle
end
theorem set_front' {α : Type} (q : List α) (i : Nat) (x : α) (h : i < q.length) : (q.set i x).Perm (x :: q.eraseIdx i) := by
  have h1 := perm_front' (q.set i x) i (by simpa using h)
  rw [List.getElem_set_self, List.eraseIdx_set_eq] at h1
  exact h1
theorem swap_perm' {α : Type} (q : List α) (i j : Nat) (hi : i < q.length) (hj : j < q.length) (hne : i ≠ j) (a b : α) : ((q.set j a).set i b).Perm ((q.set i a).set j b) := by
  have h1 := set_front' (q.set j a) i b (by simpa using hi)
  have h2 := set_front' (q.set i a) j b (by simpa using hj)
  have h3 := set_front' q j a hj
  have h4 := set_front' q i a hi
  have h5 := perm_front' (q.set j a) i (by simpa using hi)
  have h6 := perm_front' (q.set i a) j (by simpa using hj)
  rw [List.getElem_set_ne (Ne.symm hne)] at h5
  rw [List.getElem_set_ne hne] at h6
  have e1 := perm_front' q i hi
  have e2 := perm_front' q j hj
  have k1 : (q[i] :: q[j] :: (q.set j a).eraseIdx i).Perm (a :: q) := by
    have := (h5.symm.trans h3).cons q[j]
    exact ((List.Perm.swap _ _ _).trans this).trans ((List.Perm.swap _ _ _).trans (e2.symm.cons a))
  have k2 : (q[i] :: q[j] :: (q.set i a).eraseIdx j).Perm (a :: q) := by
    have := (h6.symm.trans h4).cons q[i]
    exact this.trans ((List.Perm.swap _ _ _).trans (e1.symm.cons a))
  have k3 := List.Perm.cons_inv (List.Perm.cons_inv (k1.trans k2.symm))
  exact h1.trans ((k3.cons b).trans h2.symm)
theorem itemsH_at (q : List It) (k : Nat) : (itemsH q)[k]? = if k < q.length then some (itemH k (at_ q k)) else none := by
  by_cases h : k < q.length
  · rw [if_pos h, itemsH_get q k h]
  · rw [if_neg h]
    exact List.getElem?_eq_none (by rw [itemsH_len]; omega)
theorem items_swap (q : List It) (i j : Nat) (hi : i < q.length) (hj : j < q.length) (hne : i ≠ j) : ((itemsH q).set i (itemH i (at_ q j))).set j (itemH j (at_ q i)) = itemsH (swapL q i j) := by
  apply List.ext_getElem?
  intro k
  rw [itemsH_at, swapL_length, at_swap q i j k hi hj, List.getElem?_set, List.length_set, itemsH_len]
  by_cases h1 : j = k
  · subst h1
    rw [if_pos rfl, if_pos hj, if_pos hj, if_pos rfl]
  · rw [if_neg h1, List.getElem?_set, itemsH_len]
    by_cases h2 : i = k
    · subst h2
      rw [if_pos rfl, if_pos hi, if_pos hi, if_neg (Ne.symm h1), if_pos rfl]
    · rw [if_neg h2, itemsH_at, if_neg (Ne.symm h1), if_neg (Ne.symm h2)]
theorem ptrs_swap (q : List It) (i j : Nat) (hi : i < q.length) (hj : j < q.length) (hne : i ≠ j) : ((q.map (·.g)).set i (at_ q j).g).set j (at_ q i).g = (swapL q i j).map (·.g) := by
  unfold swapL
  rw [List.map_set, List.map_set]
set_option maxHeartbeats 4000000 in
set_option maxRecDepth 20000 in
theorem swap_fun (v : Value) (q : List It) (i j : Nat) (hi : i < q.length) (hj : j < q.length) (hne : i ≠ j) :
    FunV Try.prog 45 #[v, .int .i64 i, .int .i64 j] (fun _ => True) [rowP v q, Sl.all (itemsH q)] (.tuple #[]) [rowP v (swapL q i j), Sl.all (itemsH (swapL q i j))] := by
  intro w S hS hR
  have HS := St.start hS
  clear hS hR
  have hu51 := Try.underlying51
  have hu55 := Try.underlying55
  obtain ⟨A, c, rfl, hc, hA⟩ := rowP_form HS
  obtain ⟨gr, rfl⟩ := hA (by omega)
  have hiI : (i : Int) < (q.length : Int) := by omega
  have hi0 : (0 : Int) ≤ (i : Int) := by omega
  have hjI : (j : Int) < (q.length : Int) := by omega
  have hj0 : (0 : Int) ≤ (j : Int) := by omega
  have HRC := Aside0.mk (fun (w' : World) (F : List HP) (h : St w S w' (rowP (.slice (some ⟨gr, 0, none⟩) q.length c) q :: F)) => And.intro (rowP_cell h i hi) (rowP_cell h j hj))
  have HPS := Aside0.mk (ptrs_swap q i j hi hj hne)
  have HIS := Aside0.mk (items_swap q i j hi hj hne)
  have HGI := Aside0.mk (itemsH_get q i hi)
  have HGJ := Aside0.mk (itemsH_get q j hj)
  obtain ⟨x, hx⟩ : ∃ x, at_ q i = x := ⟨_, rfl⟩
  obtain ⟨y, hy⟩ : ∃ y, at_ q j = y := ⟨_, rfl⟩
  rw [hx, hy] at HRC HPS HIS
  rw [hx] at HGI
  rw [hy] at HGJ
  clear hx hy hA
  have hml : (q.map (·.g)).length = q.length := List.length_map _
  have HML := Aside0.mk hml
  have hne2 : ¬ j = i := fun e => hne e.symm
  clear hml
  go_enter Try.func45, Try.ntmps45
  go_wp2_with fail
  refine start_ (n := 16) (S := fun w' => w'.cell? ⟨gr, i, none⟩ = some (.pointer (some ⟨x.g, 0, none⟩)) ∧ w'.cell? ⟨gr, j, none⟩ = some (.pointer (some ⟨y.g, 0, none⟩))) (ds := [13, 15]) #[false, false, false, false, false, false, false, false, false, false, false, false, false, false, false, false] (by kernel_rfl) rfl rfl ⟨(HRC.out _ _ HS.drew).1.1, (HRC.out _ _ HS.drew).2.1⟩ (fun hHeld => ?_)
  refine pure_ (i := 0) (N := some 6) (v := ?_) (a' := ?_) #[true, false, false, false, false, false, false, false, false, false, false, false, false, false, false, false] rfl rfl (by kernel_rfl) (fun _ _ _ h => h) (Or.inl ⟨by rfl, ?_⟩) ?_ ?_
  rotate_left
  · intro w'
    go_simp
    with_reducible rfl
  rotate_left
  · simp only [Act.put, List.setIfInBounds_toArray, List.set_cons_zero, List.set_cons_succ, i64_w, i32_w]
    rfl
  refine pure_ (i := 1) (N := some 7) (v := ?_) (a' := ?_) #[true, true, false, false, false, false, false, false, false, false, false, false, false, false, false, false] rfl rfl (by kernel_rfl) (fun _ _ _ h => h) (Or.inl ⟨by rfl, ?_⟩) ?_ ?_
  rotate_left
  · intro w'
    go_simp
    with_reducible rfl
  rotate_left
  · simp only [Act.put, List.setIfInBounds_toArray, List.set_cons_zero, List.set_cons_succ, i64_w, i32_w]
    rfl
  refine pure_ (i := 2) (N := some 8) (v := ?_) (a' := ?_) #[true, true, true, false, false, false, false, false, false, false, false, false, false, false, false, false] rfl rfl (by kernel_rfl) (fun _ _ _ h => h) (Or.inl ⟨by rfl, ?_⟩) ?_ ?_
  rotate_left
  · intro w'
    go_simp
    with_reducible rfl
  rotate_left
  · simp only [Act.put, List.setIfInBounds_toArray, List.set_cons_zero, List.set_cons_succ, i64_w, i32_w]
    rfl
  refine pure_ (i := 3) (N := some 9) (v := ?_) (a' := ?_) #[true, true, true, true, false, false, false, false, false, false, false, false, false, false, false, false] rfl rfl (by kernel_rfl) (fun _ _ _ h => h) (Or.inl ⟨by rfl, ?_⟩) ?_ ?_
  rotate_left
  · intro w'
    go_simp
    with_reducible rfl
  rotate_left
  · simp only [Act.put, List.setIfInBounds_toArray, List.set_cons_zero, List.set_cons_succ, i64_w, i32_w]
    rfl
  refine pure_ (i := 4) (N := some 10) (v := ?_) (a' := ?_) #[true, true, true, true, true, false, false, false, false, false, false, false, false, false, false, false] rfl rfl (by kernel_rfl) (fun _ _ _ h => h) (Or.inl ⟨by rfl, ?_⟩) ?_ ?_
  rotate_left
  · intro w'
    go_simp
    with_reducible rfl
  rotate_left
  · simp only [Act.put, List.setIfInBounds_toArray, List.set_cons_zero, List.set_cons_succ, i64_w, i32_w]
    rfl
  refine pure_ (i := 5) (N := some 11) (v := ?_) (a' := ?_) #[true, true, true, true, true, true, false, false, false, false, false, false, false, false, false, false] rfl rfl (by kernel_rfl) (fun _ _ _ h => h) (Or.inl ⟨by rfl, ?_⟩) ?_ ?_
  rotate_left
  · intro w'
    go_simp
    with_reducible rfl
  rotate_left
  · simp only [Act.put, List.setIfInBounds_toArray, List.set_cons_zero, List.set_cons_succ, i64_w, i32_w]
    rfl
  refine pure_ (i := 6) (N := some 12) (v := ?_) (a' := ?_) #[true, true, true, true, true, true, true, false, false, false, false, false, false, false, false, false] rfl rfl (by kernel_rfl) (fun _ _ _ h => h) (Or.inl ⟨by rfl, ?_⟩) ?_ ?_
  rotate_left
  · intro w'
    go_simp
    with_reducible rfl
  rotate_left
  · simp only [Act.put, List.setIfInBounds_toArray, List.set_cons_zero, List.set_cons_succ, i64_w, i32_w]
    rfl
  refine pure_ (i := 8) (N := some 14) (v := ?_) (a' := ?_) #[true, true, true, true, true, true, true, false, true, false, false, false, false, false, false, false] rfl rfl (by kernel_rfl) (fun _ _ _ h => h) (Or.inl ⟨by rfl, ?_⟩) ?_ ?_
  rotate_left
  · intro w'
    go_simp
    with_reducible rfl
  rotate_left
  · simp only [Act.put, List.setIfInBounds_toArray, List.set_cons_zero, List.set_cons_succ, i64_w, i32_w]
    rfl
  refine pure_ (i := 9) (N := some 15) (v := ?_) (a' := ?_) #[true, true, true, true, true, true, true, false, true, true, false, false, false, false, false, false] rfl rfl (by kernel_rfl) (fun _ _ _ h => h) (Or.inl ⟨by rfl, ?_⟩) ?_ ?_
  rotate_left
  · intro w'
    go_simp
    with_reducible rfl
  rotate_left
  · simp only [Act.put, List.setIfInBounds_toArray, List.set_cons_zero, List.set_cons_succ, i64_w, i32_w]
    rfl
  refine pure_ (i := 10) (N := some 16) (v := ?_) (a' := ?_) #[true, true, true, true, true, true, true, false, true, true, true, false, false, false, false, false] rfl rfl (by kernel_rfl) (fun _ _ _ h => h) (Or.inl ⟨by rfl, ?_⟩) ?_ ?_
  rotate_left
  · intro w'
    go_simp
    with_reducible rfl
  rotate_left
  · simp only [Act.put, List.setIfInBounds_toArray, List.set_cons_zero, List.set_cons_succ, i64_w, i32_w]
    rfl
  refine take_ (i := 7) (N := some 13) (v := ?_) (a' := ?_) #[true, true, true, true, true, true, true, true, true, true, true, false, false, false, false, false] rfl rfl (by kernel_rfl) (fun _ _ _ h => h) (Or.inl ⟨by rfl, ?_⟩) hHeld ?_ ?_
  rotate_left
  · rintro w' ⟨s0, s1⟩
    go_simp
    with_reducible rfl
  rotate_left
  · simp only [Act.put, List.setIfInBounds_toArray, List.set_cons_zero, List.set_cons_succ, i64_w, i32_w]
    rfl
  refine take_ (i := 11) (N := some 17) (v := ?_) (a' := ?_) #[true, true, true, true, true, true, true, true, true, true, true, true, false, false, false, false] rfl rfl (by kernel_rfl) (fun _ _ _ h => h) (Or.inl ⟨by rfl, ?_⟩) hHeld ?_ ?_
  rotate_left
  · rintro w' ⟨s0, s1⟩
    go_simp
    with_reducible rfl
  rotate_left
  · simp only [Act.put, List.setIfInBounds_toArray, List.set_cons_zero, List.set_cons_succ, i64_w, i32_w]
    rfl
  refine pure_ (i := 12) (N := some 18) (v := ?_) (a' := ?_) #[true, true, true, true, true, true, true, true, true, true, true, true, true, false, false, false] rfl rfl (by kernel_rfl) (fun _ _ _ h => h) (Or.inl ⟨by rfl, ?_⟩) ?_ ?_
  rotate_left
  · intro w'
    go_simp
    with_reducible rfl
  rotate_left
  · simp only [Act.put, List.setIfInBounds_toArray, List.set_cons_zero, List.set_cons_succ, i64_w, i32_w]
    rfl
  refine last_ (i := 13) (N := none) #[true, true, true, true, true, true, true, true, true, true, true, true, true, true, false, false] rfl rfl (by kernel_rfl) (by decide) (fun K hK => ?_)
  have q1 := (HRC.out _ _ HS.drew).1
  have H1 := St.row_set (enc := fun g : Nat => Value.pointer (some ⟨g, 0, none⟩)) HS.drew i y.g
  obtain ⟨q2, q3⟩ := q1
  have q4 := (St.row_cell (enc := fun g : Nat => Value.pointer (some ⟨g, 0, none⟩)) 0 H1 j hj)
  obtain ⟨q5, q6⟩ := q4
  refine skip_ (w1 := w.drew.setCell ⟨gr, i, none⟩ (.pointer (some ⟨y.g, 0, none⟩))) (by rfl) rfl ?hrun ?_
  case hrun => first | (go_simp; done) | (go_simp; rfl)
  clear HS q2 q3
  have HS : St w S (w.drew.setCell ⟨gr, i, none⟩ (.pointer (some ⟨y.g, 0, none⟩))) [HP.row kPt 56 (.slice (some ⟨gr, 0, none⟩) q.length c) ((q.map (·.g)).set i y.g), Sl.all (itemsH q)] := H1
  clear H1
  generalize w.drew.setCell ⟨gr, i, none⟩ (.pointer (some ⟨y.g, 0, none⟩)) = w5 at HS q5 q6 ⊢
  refine hK.out _ _ ?_
  clear hK K
  refine pure_ (i := 14) (N := some 19) (v := ?_) (a' := ?_) #[true, true, true, true, true, true, true, true, true, true, true, true, true, true, true, false] rfl rfl (by kernel_rfl) (fun _ _ _ h => h) (Or.inl ⟨by rfl, ?_⟩) ?_ ?_
  rotate_left
  · intro w'
    go_simp
    with_reducible rfl
  rotate_left
  · simp only [Act.put, List.setIfInBounds_toArray, List.set_cons_zero, List.set_cons_succ, i64_w, i32_w]
    rfl
  refine last_ (i := 15) (N := none) #[true, true, true, true, true, true, true, true, true, true, true, true, true, true, true, true] rfl rfl (by kernel_rfl) (by decide) (fun K hK => ?_)
  have H1 := St.row_set (enc := fun g : Nat => Value.pointer (some ⟨g, 0, none⟩)) HS j x.g
  refine skip_ (w1 := w5.setCell ⟨gr, j, none⟩ (.pointer (some ⟨x.g, 0, none⟩))) (by rfl) rfl ?hrun ?_
  case hrun => first | (go_simp; done) | (go_simp; rfl)
  clear HS q5 q6
  have HS : St w S (w5.setCell ⟨gr, j, none⟩ (.pointer (some ⟨x.g, 0, none⟩))) [HP.row kPt 56 (.slice (some ⟨gr, 0, none⟩) q.length c) (((q.map (·.g)).set i y.g).set j x.g), Sl.all (itemsH q)] := H1
  clear H1
  generalize w5.setCell ⟨gr, j, none⟩ (.pointer (some ⟨x.g, 0, none⟩)) = w6 at HS ⊢
  refine hK.out _ _ ?_
  clear hK K
  refine done_ (by kernel_rfl) ?_
  try clear hHeld
  rw [HPS.out] at HS
  have HS_ : St w S w6 [rowP (.slice (some ⟨gr, 0, none⟩) q.length c) (swapL q i j), Sl.all (itemsH q)] := HS
  clear HS
  have HS := HS_
  clear HS_
  have HRD := Aside0.mk (fun (w' : World) (F : List HP) (h : St w S w' (rowP (.slice (some ⟨gr, 0, none⟩) q.length c) (swapL q i j) :: F)) => (show w'.cell? ⟨gr, i, none⟩ = some (.pointer (some ⟨y.g, 0, none⟩)) ∧ w'.cell? ⟨gr, j, none⟩ = some (.pointer (some ⟨x.g, 0, none⟩)) from by
    have h1 := (rowP_cell h i (by rw [swapL_length]; exact hi)).1
    have h2 := (rowP_cell h j (by rw [swapL_length]; exact hj)).1
    have e1 := congrArg (fun l : List Nat => l[i]?) HPS.out
    have e2 := congrArg (fun l : List Nat => l[j]?) HPS.out
    have g1 : (at_ (swapL q i j) i).g = y.g := by
      have hl : i < (swapL q i j).length := by rw [swapL_length]; exact hi
      rw [at_get _ i hl]
      simp only [List.getElem?_map, List.getElem?_eq_getElem hl, List.getElem?_set_ne hne2, List.getElem?_set_self (show i < (q.map (·.g)).length by rw [HML.out]; exact hi), Option.map_some, Option.some.injEq] at e1
      exact e1.symm
    have g2 : (at_ (swapL q i j) j).g = x.g := by
      have hl : j < (swapL q i j).length := by rw [swapL_length]; exact hj
      rw [at_get _ j hl]
      simp only [List.getElem?_map, List.getElem?_eq_getElem hl, List.getElem?_set_self (show j < ((q.map (·.g)).set i y.g).length by rw [List.length_set, HML.out]; exact hj), Option.map_some, Option.some.injEq] at e2
      exact e2.symm
    rw [g1] at h1
    rw [g2] at h2
    exact ⟨h1, h2⟩))
  go_wp2_with fail
  refine start_ (n := 16) (S := fun w' => w'.cell? ⟨gr, i, none⟩ = some (.pointer (some ⟨y.g, 0, none⟩)) ∧ w'.cell? ⟨gr, j, none⟩ = some (.pointer (some ⟨x.g, 0, none⟩))) (ds := []) #[false, false, false, false, false, false, false, false, false, false, false, false, false, false, false, false] (by kernel_rfl) rfl rfl ⟨(HRD.out _ _ HS.drew).1, (HRD.out _ _ HS.drew).2⟩ (fun hHeld => ?_)
  refine pure_ (i := 0) (N := some 20) (v := ?_) (a' := ?_) #[true, false, false, false, false, false, false, false, false, false, false, false, false, false, false, false] rfl rfl (by kernel_rfl) (fun _ _ _ h => h) (Or.inl ⟨by rfl, ?_⟩) ?_ ?_
  rotate_left
  · intro w'
    go_simp
    with_reducible rfl
  rotate_left
  · simp only [Act.put, List.setIfInBounds_toArray, List.set_cons_zero, List.set_cons_succ, i64_w, i32_w]
    rfl
  refine pure_ (i := 1) (N := some 21) (v := ?_) (a' := ?_) #[true, true, false, false, false, false, false, false, false, false, false, false, false, false, false, false] rfl rfl (by kernel_rfl) (fun _ _ _ h => h) (Or.inl ⟨by rfl, ?_⟩) ?_ ?_
  rotate_left
  · intro w'
    go_simp
    with_reducible rfl
  rotate_left
  · simp only [Act.put, List.setIfInBounds_toArray, List.set_cons_zero, List.set_cons_succ, i64_w, i32_w]
    rfl
  refine pure_ (i := 2) (N := some 22) (v := ?_) (a' := ?_) #[true, true, true, false, false, false, false, false, false, false, false, false, false, false, false, false] rfl rfl (by kernel_rfl) (fun _ _ _ h => h) (Or.inl ⟨by rfl, ?_⟩) ?_ ?_
  rotate_left
  · intro w'
    go_simp
    with_reducible rfl
  rotate_left
  · simp only [Act.put, List.setIfInBounds_toArray, List.set_cons_zero, List.set_cons_succ, i64_w, i32_w]
    rfl
  refine pure_ (i := 4) (N := some 24) (v := ?_) (a' := ?_) #[true, true, true, false, true, false, false, false, false, false, false, false, false, false, false, false] rfl rfl (by kernel_rfl) (fun _ _ _ h => h) (Or.inl ⟨by rfl, ?_⟩) ?_ ?_
  rotate_left
  · intro w'
    go_simp
    with_reducible rfl
  rotate_left
  · simp only [Act.put, List.setIfInBounds_toArray, List.set_cons_zero, List.set_cons_succ, i64_w, i32_w]
    rfl
  refine pure_ (i := 5) (N := some 25) (v := ?_) (a' := ?_) #[true, true, true, false, true, true, false, false, false, false, false, false, false, false, false, false] rfl rfl (by kernel_rfl) (fun _ _ _ h => h) (Or.inl ⟨by rfl, ?_⟩) ?_ ?_
  rotate_left
  · intro w'
    go_simp
    with_reducible rfl
  rotate_left
  · simp only [Act.put, List.setIfInBounds_toArray, List.set_cons_zero, List.set_cons_succ, i64_w, i32_w]
    rfl
  refine pure_ (i := 6) (N := some 26) (v := ?_) (a' := ?_) #[true, true, true, false, true, true, true, false, false, false, false, false, false, false, false, false] rfl rfl (by kernel_rfl) (fun _ _ _ h => h) (Or.inl ⟨by rfl, ?_⟩) ?_ ?_
  rotate_left
  · intro w'
    go_simp
    with_reducible rfl
  rotate_left
  · simp only [Act.put, List.setIfInBounds_toArray, List.set_cons_zero, List.set_cons_succ, i64_w, i32_w]
    rfl
  refine pure_ (i := 8) (N := some 28) (v := ?_) (a' := ?_) #[true, true, true, false, true, true, true, false, true, false, false, false, false, false, false, false] rfl rfl (by kernel_rfl) (fun _ _ _ h => h) (Or.inl ⟨by rfl, ?_⟩) ?_ ?_
  rotate_left
  · intro w'
    go_simp
    with_reducible rfl
  rotate_left
  · simp only [Act.put, List.setIfInBounds_toArray, List.set_cons_zero, List.set_cons_succ, i64_w, i32_w]
    rfl
  refine pure_ (i := 9) (N := some 29) (v := ?_) (a' := ?_) #[true, true, true, false, true, true, true, false, true, true, false, false, false, false, false, false] rfl rfl (by kernel_rfl) (fun _ _ _ h => h) (Or.inl ⟨by rfl, ?_⟩) ?_ ?_
  rotate_left
  · intro w'
    go_simp
    with_reducible rfl
  rotate_left
  · simp only [Act.put, List.setIfInBounds_toArray, List.set_cons_zero, List.set_cons_succ, i64_w, i32_w]
    rfl
  refine take_ (i := 3) (N := some 23) (v := ?_) (a' := ?_) #[true, true, true, true, true, true, true, false, true, true, false, false, false, false, false, false] rfl rfl (by kernel_rfl) (fun _ _ _ h => h) (Or.inl ⟨by rfl, ?_⟩) hHeld ?_ ?_
  rotate_left
  · rintro w' ⟨s0, s1⟩
    go_simp
    with_reducible rfl
  rotate_left
  · simp only [Act.put, List.setIfInBounds_toArray, List.set_cons_zero, List.set_cons_succ, i64_w, i32_w]
    rfl
  refine take_ (i := 7) (N := some 27) (v := ?_) (a' := ?_) #[true, true, true, true, true, true, true, true, true, true, false, false, false, false, false, false] rfl rfl (by kernel_rfl) (fun _ _ _ h => h) (Or.inl ⟨by rfl, ?_⟩) hHeld ?_ ?_
  rotate_left
  · rintro w' ⟨s0, s1⟩
    go_simp
    with_reducible rfl
  rotate_left
  · simp only [Act.put, List.setIfInBounds_toArray, List.set_cons_zero, List.set_cons_succ, i64_w, i32_w]
    rfl
  refine pure_ (i := 10) (N := some 30) (v := ?_) (a' := ?_) #[true, true, true, true, true, true, true, true, true, true, true, false, false, false, false, false] rfl rfl (by kernel_rfl) (fun _ _ _ h => h) (Or.inl ⟨by rfl, ?_⟩) ?_ ?_
  rotate_left
  · intro w'
    go_simp
    with_reducible rfl
  rotate_left
  · simp only [Act.put, List.setIfInBounds_toArray, List.set_cons_zero, List.set_cons_succ, i64_w, i32_w]
    rfl
  refine pure_ (i := 11) (N := some 31) (v := ?_) (a' := ?_) #[true, true, true, true, true, true, true, true, true, true, true, true, false, false, false, false] rfl rfl (by kernel_rfl) (fun _ _ _ h => h) (Or.inl ⟨by rfl, ?_⟩) ?_ ?_
  rotate_left
  · intro w'
    go_simp
    with_reducible rfl
  rotate_left
  · simp only [Act.put, List.setIfInBounds_toArray, List.set_cons_zero, List.set_cons_succ, i64_w, i32_w]
    rfl
  refine one_ (i := 12) (N := none) #[true, true, true, true, true, true, true, true, true, true, true, true, true, false, false, false] rfl rfl (by kernel_rfl) (by decide) (fun K hK => ?_)
  have HI : St w S w6.drew [itemH j y, Sl.all ((itemsH q).eraseIdx j), rowP (.slice (some ⟨gr, 0, none⟩) q.length c) (swapL q i j)] := st_pick (HS.drew.mv 1) j HGJ.out
  have q1 : w6.drew.cell? ⟨y.g, 3, none⟩ = some (.int .i64 (j : Int)) := HI.cell 3
  have q2 : w6.drew.frozen? ⟨y.g, 3, none⟩ = false := HI.unfrozen 3
  have H1 : St w S (w6.drew.setCell ⟨y.g, 3, none⟩ (.int .i64 (i : Int))) [itemH i y, Sl.all ((itemsH q).eraseIdx j), rowP (.slice (some ⟨gr, 0, none⟩) q.length c) (swapL q i j)] := HI.set 3 (.int .i64 (i : Int))
  refine skip_ (w1 := w6.drew.setCell ⟨y.g, 3, none⟩ (.int .i64 (i : Int))) (by rfl) rfl ?hrun ?_
  case hrun => first | (go_simp; done) | (go_simp; rfl)
  clear HS HI q1 q2
  have HS : St w S (w6.drew.setCell ⟨y.g, 3, none⟩ (.int .i64 (i : Int))) [rowP (.slice (some ⟨gr, 0, none⟩) q.length c) (swapL q i j), Sl.all ((itemsH q).set j (itemH i y))] := (st_back (L := itemsH q) j (by rw [itemsH_len]; exact hj) H1).mv 1
  clear H1
  generalize w6.drew.setCell ⟨y.g, 3, none⟩ (.int .i64 (i : Int)) = w7 at HS ⊢
  refine hK.out _ _ ⟨(HRD.out _ _ HS).1, (HRD.out _ _ HS).2⟩ (fun hHeld => ?_)
  clear hK K
  refine pure_ (i := 13) (N := some 32) (v := ?_) (a' := ?_) #[true, true, true, true, true, true, true, true, true, true, true, true, true, true, false, false] rfl rfl (by kernel_rfl) (fun _ _ _ h => h) (Or.inl ⟨by rfl, ?_⟩) ?_ ?_
  rotate_left
  · intro w'
    go_simp
    with_reducible rfl
  rotate_left
  · simp only [Act.put, List.setIfInBounds_toArray, List.set_cons_zero, List.set_cons_succ, i64_w, i32_w]
    rfl
  refine pure_ (i := 14) (N := some 33) (v := ?_) (a' := ?_) #[true, true, true, true, true, true, true, true, true, true, true, true, true, true, true, false] rfl rfl (by kernel_rfl) (fun _ _ _ h => h) (Or.inl ⟨by rfl, ?_⟩) ?_ ?_
  rotate_left
  · intro w'
    go_simp
    with_reducible rfl
  rotate_left
  · simp only [Act.put, List.setIfInBounds_toArray, List.set_cons_zero, List.set_cons_succ, i64_w, i32_w]
    rfl
  refine one_ (i := 15) (N := none) #[true, true, true, true, true, true, true, true, true, true, true, true, true, true, true, true] rfl rfl (by kernel_rfl) (by decide) (fun K hK => ?_)
  have HI : St w S w7 [itemH i x, Sl.all (((itemsH q).set j (itemH i y)).eraseIdx i), rowP (.slice (some ⟨gr, 0, none⟩) q.length c) (swapL q i j)] := st_pick (HS.mv 1) i (by rw [List.getElem?_set_ne hne2]; exact HGI.out)
  have q1 : w7.cell? ⟨x.g, 3, none⟩ = some (.int .i64 (i : Int)) := HI.cell 3
  have q2 : w7.frozen? ⟨x.g, 3, none⟩ = false := HI.unfrozen 3
  have H1 : St w S (w7.setCell ⟨x.g, 3, none⟩ (.int .i64 (j : Int))) [itemH j x, Sl.all (((itemsH q).set j (itemH i y)).eraseIdx i), rowP (.slice (some ⟨gr, 0, none⟩) q.length c) (swapL q i j)] := HI.set 3 (.int .i64 (j : Int))
  refine skip_ (w1 := w7.setCell ⟨x.g, 3, none⟩ (.int .i64 (j : Int))) (by rfl) rfl ?hrun ?_
  case hrun => first | (go_simp; done) | (go_simp; rfl)
  clear HS HI q1 q2
  have HS : St w S (w7.setCell ⟨x.g, 3, none⟩ (.int .i64 (j : Int))) [rowP (.slice (some ⟨gr, 0, none⟩) q.length c) (swapL q i j), Sl.all (((itemsH q).set j (itemH i y)).set i (itemH j x))] := (st_back (L := (itemsH q).set j (itemH i y)) i (by rw [List.length_set, itemsH_len]; exact hi) H1).mv 1
  clear H1
  generalize w7.setCell ⟨x.g, 3, none⟩ (.int .i64 (j : Int)) = w8 at HS ⊢
  refine hK.out _ _ ⟨(HRD.out _ _ HS).1, (HRD.out _ _ HS).2⟩ (fun hHeld => ?_)
  clear hK K
  refine done_ (by kernel_rfl) ?_
  try clear hHeld
  have HE : St w S w8 [rowP (.slice (some ⟨gr, 0, none⟩) q.length c) (swapL q i j), Sl.all (itemsH (swapL q i j))] := by
    have h1 := (HS.mv 1).head (all_perm (swap_perm' (itemsH q) i j (by rw [itemsH_len]; exact hi) (by rw [itemsH_len]; exact hj) hne (itemH i y) (itemH j x)))
    rw [HIS.out] at h1
    exact h1.mv 1
  clear HS
  go_end0
  exact ⟨rfl, HE⟩
end Go.Proofs.Ytiobcknobbimoaa.Ag
