/- The document's comparison of hits, of the same hits. -/
import Derived.Test.YtphenpncdhgdhaaShLw
namespace Go.Proofs.Ytphenpncdhgdhaa.Shd
open Go.RowKit Go.Proofs.YtphenpncdhgdhaaW.PrintWords Go.Proofs.YtphenpncdhgdhaaW.PrintLast Go.Proofs.YtphenpncdhgdhaaW.PrintMore Go.Proofs.Ytphenpncdhgdhaa.Sl Go.Proofs.Ytphenpncdhgdhaa.Str Go.Proofs.Ytphenpncdhgdhaa.Ver
set_option linter.unusedVariables false
set_option linter.unusedSimpArgs false
theorem ht_refl (w : World) (x : Ht) : (Op.equalIn 10000 51 (.agg #[.string x.key, .int .i64 x.ts, .string x.val]) (.agg #[.string x.key, .int .i64 x.ts, .string x.val])).run Try.prog w = .ok true w := by
  have hi := Try.underlying3
  have hs := Try.underlying9
  have hf : Try.prog.underlying 51 = some (.struct (Try.prog.fieldsOf 51)) := by kernel_rfl
  have hh : Try.prog.stoodInHeld 51 = false := by kernel_rfl
  have hl : (Try.prog.fieldsOf 51).toList = [{ name := "Key", type := 9, offset := 0, embedded := false, tag := "", pkgPath := "", byteOffset := 0 }, { name := "Ts", type := 3, offset := 1, embedded := false, tag := "", pkgPath := "", byteOffset := 16 }, { name := "Value", type := 9, offset := 2, embedded := false, tag := "", pkgPath := "", byteOffset := 24 }] := by kernel_rfl
  have e1 : ∀ (d : Nat) (x y : Int) (w : World), (Op.equalIn (d + 1) 3 (.int .i64 x) (.int .i64 y)).run Try.prog w = .ok (x == y) w := fun d x y w => run_equalIn_int w d 3 .i64 .i64 x y hi
  have e2 : ∀ (d : Nat) (x y : ByteArray) (w : World), (Op.equalIn (d + 1) 9 (.string x) (.string y)).run Try.prog w = .ok (x.toList == y.toList) w := fun d x y w => run_equalIn_string w d 9 x y hs
  rw [show (10000 : Nat) = 9998 + 1 + 1 from rfl]
  generalize 9998 = d
  rw [run_equalIn_agg w (d + 1) 51 _ _ hf hh, hl]
  simp [Op.eqFields, Sem.run_bind, Result.andThen, e1, e2, go_sem]
set_option maxHeartbeats 4000000 in
set_option maxRecDepth 20000 in
theorem sameHits_fun (u v : Value) (xs : List Ht) (hl : xs.length ≤ 1000000) :
    FunV Try.prog 16 #[u, v] (fun _ => True) [HP.row kHt 51 u xs, HP.row kHt 51 v xs] (.bool true) [HP.row kHt 51 u xs, HP.row kHt 51 v xs] := by
  intro w S hS hR
  have HS := St.start hS
  clear hS hR
  have hu51 := Try.underlying51
  have hus := Try.underlying47
  obtain ⟨B1, d1, rfl, -, -⟩ := St.row_C HS
  obtain ⟨B2, d2, rfl, -, -⟩ := St.row_C (HS.mv 1)
  go_enter Try.func16, Try.ntmps16
  go_wp2_with fail
  go_loopw [5] (fun v5 w' => ∃ k : Nat, k ≤ xs.length ∧ v5 = .int .i64 k ∧ St w S w' [HP.row kHt 51 (.slice B1 xs.length d1) xs, HP.row kHt 51 (.slice B2 xs.length d2) xs]) (fun v5 _ => xs.length - (intOf v5).toNat)
  case atStart => exact ⟨0, Nat.zero_le _, rfl, HS⟩
  case round =>
    clear HS
    obtain ⟨k, hk, rfl, HS⟩ := hrel
    have hk0 : (0 : Int) ≤ (k : Int) := by omega
    by_cases hlt : k < xs.length
    · skip
      have hltI : (k : Int) < (xs.length : Int) := by omega
      have hwk : IntKind.i64.wrap ((k : Int) + 1) = ((k + 1 : Nat) : Int) := by rw [IntWalk.i64_in _ (by omega)]; omega
      have hx : xs[k]? = some xs[k] := List.getElem?_eq_getElem hlt
      obtain ⟨x, hxe⟩ : ∃ x, xs[k] = x := ⟨_, rfl⟩
      rw [hxe] at hx
      obtain ⟨ga, ca_, ev⟩ := St.row_form HS (by omega)
      simp only [Value.slice.injEq] at ev
      obtain ⟨rfl, -, rfl⟩ := ev
      obtain ⟨gb, cb_, ev⟩ := St.row_form (HS.mv 1) (by omega)
      simp only [Value.slice.injEq] at ev
      obtain ⟨rfl, -, rfl⟩ := ev
      have HCA := Aside0.mk (fun (w' : World) (F : List HP) (h : St w S w' (HP.row kHt 51 (.slice (some ⟨ga, 0, none⟩) xs.length d1) xs :: F)) => Ht_row h k x hx)
      have HCB := Aside0.mk (fun (w' : World) (F : List HP) (h : St w S w' (HP.row kHt 51 (.slice (some ⟨gb, 0, none⟩) xs.length d2) xs :: F)) => Ht_row h k x hx)
      have hT := fun w_ => ht_refl w_ x
      clear hx hxe
      go_wp2_with fail
      replace HS := HS.drew
      refine start_ (n := 9) (S := fun w' => w'.cell? ⟨ga, k * 3, none⟩ = some (.string x.key) ∧ w'.cell? ⟨ga, k * 3 + 1, none⟩ = some (.int .i64 x.ts) ∧ w'.cell? ⟨ga, k * 3 + 2, none⟩ = some (.string x.val) ∧ w'.cell? ⟨gb, k * 3, none⟩ = some (.string x.key) ∧ w'.cell? ⟨gb, k * 3 + 1, none⟩ = some (.int .i64 x.ts) ∧ w'.cell? ⟨gb, k * 3 + 2, none⟩ = some (.string x.val)) (ds := []) #[false, false, false, false, false, false, false, false, false] (by kernel_rfl) rfl rfl ⟨(HCA.out _ _ HS).1, (HCA.out _ _ HS).2.1, (HCA.out _ _ HS).2.2, (HCB.out _ _ (HS.mv 1)).1, (HCB.out _ _ (HS.mv 1)).2.1, (HCB.out _ _ (HS.mv 1)).2.2⟩ (fun hHeld => ?_)
      refine pure_ (i := 0) (N := some 17) (v := ?_) (a' := ?_) #[true, false, false, false, false, false, false, false, false] rfl rfl (by kernel_rfl) (fun _ _ _ h => h) (Or.inl ⟨by rfl, ?_⟩) ?_ ?_
      rotate_left
      · intro w'
        go_simp
        with_reducible rfl
      rotate_left
      · simp only [Act.put, List.setIfInBounds_toArray, List.set_cons_zero, List.set_cons_succ, i64_w, i32_w]
        rfl
      refine pure_ (i := 1) (N := some 18) (v := ?_) (a' := ?_) #[true, true, false, false, false, false, false, false, false] rfl rfl (by kernel_rfl) (fun _ _ _ h => h) (Or.inl ⟨by rfl, ?_⟩) ?_ ?_
      rotate_left
      · intro w'
        go_simp
        with_reducible rfl
      rotate_left
      · simp only [Act.put, List.setIfInBounds_toArray, List.set_cons_zero, List.set_cons_succ, i64_w, i32_w]
        rfl
      refine pure_ (i := 2) (N := some 19) (v := ?_) (a' := ?_) #[true, true, true, false, false, false, false, false, false] rfl rfl (by kernel_rfl) (fun _ _ _ h => h) (Or.inl ⟨by rfl, ?_⟩) ?_ ?_
      rotate_left
      · intro w'
        go_simp
        with_reducible rfl
      rotate_left
      · simp only [Act.put, List.setIfInBounds_toArray, List.set_cons_zero, List.set_cons_succ, i64_w, i32_w]
        rfl
      refine pure_ (i := 4) (N := some 21) (v := ?_) (a' := ?_) #[true, true, true, false, true, false, false, false, false] rfl rfl (by kernel_rfl) (fun _ _ _ h => h) (Or.inl ⟨by rfl, ?_⟩) ?_ ?_
      rotate_left
      · intro w'
        go_simp
        with_reducible rfl
      rotate_left
      · simp only [Act.put, List.setIfInBounds_toArray, List.set_cons_zero, List.set_cons_succ, i64_w, i32_w]
        rfl
      refine pure_ (i := 5) (N := some 22) (v := ?_) (a' := ?_) #[true, true, true, false, true, true, false, false, false] rfl rfl (by kernel_rfl) (fun _ _ _ h => h) (Or.inl ⟨by rfl, ?_⟩) ?_ ?_
      rotate_left
      · intro w'
        go_simp
        with_reducible rfl
      rotate_left
      · simp only [Act.put, List.setIfInBounds_toArray, List.set_cons_zero, List.set_cons_succ, i64_w, i32_w]
        rfl
      refine pure_ (i := 6) (N := some 23) (v := ?_) (a' := ?_) #[true, true, true, false, true, true, true, false, false] rfl rfl (by kernel_rfl) (fun _ _ _ h => h) (Or.inl ⟨by rfl, ?_⟩) ?_ ?_
      rotate_left
      · intro w'
        go_simp
        with_reducible rfl
      rotate_left
      · simp only [Act.put, List.setIfInBounds_toArray, List.set_cons_zero, List.set_cons_succ, i64_w, i32_w]
        rfl
      refine take_ (i := 3) (N := some 20) (v := ?_) (a' := ?_) #[true, true, true, true, true, true, true, false, false] rfl rfl (by kernel_rfl) (fun _ _ _ h => h) (Or.inl ⟨by rfl, ?_⟩) hHeld ?_ ?_
      rotate_left
      · rintro w' ⟨s0, s1, s2, s3, s4, s5⟩
        go_simp
        with_reducible rfl
      rotate_left
      · simp only [Act.put, List.setIfInBounds_toArray, List.set_cons_zero, List.set_cons_succ, i64_w, i32_w]
        rfl
      refine take_ (i := 7) (N := some 24) (v := ?_) (a' := ?_) #[true, true, true, true, true, true, true, true, false] rfl rfl (by kernel_rfl) (fun _ _ _ h => h) (Or.inl ⟨by rfl, ?_⟩) hHeld ?_ ?_
      rotate_left
      · rintro w' ⟨s0, s1, s2, s3, s4, s5⟩
        go_simp
        with_reducible rfl
      rotate_left
      · simp only [Act.put, List.setIfInBounds_toArray, List.set_cons_zero, List.set_cons_succ, i64_w, i32_w]
        rfl
      refine pure_ (i := 8) (N := some 25) (v := ?_) (a' := ?_) #[true, true, true, true, true, true, true, true, true] rfl rfl (by kernel_rfl) (fun _ _ _ h => h) (Or.inl ⟨by rfl, ?_⟩) ?_ ?_
      rotate_left
      · intro w'
        go_simp
        with_reducible rfl
      rotate_left
      · simp only [Act.put, List.setIfInBounds_toArray, List.set_cons_zero, List.set_cons_succ, i64_w, i32_w]
        rfl
      refine done_ (by kernel_rfl) ?_
      clear hHeld
      go_wp2_with fail
      go_roundw
      case rel => exact ⟨k + 1, by omega, by go_num, HS⟩
      case measure => simp [intOf]; omega
    · have hltI : ¬ (k : Int) < (xs.length : Int) := by omega
      go_wp2_with fail
      go_ret
      exact ⟨rfl, HS⟩
end Go.Proofs.Ytphenpncdhgdhaa.Shd
