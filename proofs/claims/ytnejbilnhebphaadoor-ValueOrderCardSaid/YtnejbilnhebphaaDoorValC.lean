/- Layer 1: Compare, walked. -/
import Derived.Test.YtnejbilnhebphaaDoorValX
import Derived.Deep.DeepCutAuto
import Derived.Deep.QuietTactic
import Derived.BigQuiet
import Derived.Laws.EntriesVeiled
namespace Go.Proofs.YtnejbilnhebphaaDoor.Val
open Go.Lib (itoa parseIntB trimSuffix replaceAll hasPrefix)
open Go.RowKit Go.Proofs.YtnejbilnhebphaaDoorW.PrintWords Go.Proofs.YtnejbilnhebphaaDoorW.PrintLast Go.Proofs.YtnejbilnhebphaaDoorW.PrintMore Go.Proofs.YtnejbilnhebphaaDoor.Str Go.Proofs.YtnejbilnhebphaaDoor.PRef Go.Proofs.YtnejbilnhebphaaDoor.Sl
set_option linter.unusedVariables false
set_option linter.unusedSimpArgs false
theorem cmpL_bytes : ∀ a b : List UInt8, Lib.compareBytes a b = cmpL a b
  | [], [] => rfl
  | [], _ :: _ => rfl
  | _ :: _, [] => rfl
  | x :: xs, y :: ys => by
    rw [Lib.compareBytes, cmpL, cmpL_bytes xs ys]
theorem strcmp_fun (a b : ByteArray) (w : World) : Calls Tryd.prog 21 #[.string a, .string b] w fun e w' => e = .returned (.int .i64 (cmpS a b)) ∧ w' = w := by
  refine (Tryd.strings_Compare a b w).mono ?_
  rintro e w' ⟨rfl, rfl⟩
  refine ⟨?_, rfl⟩
  rw [cmpL_bytes]
  unfold cmpS
  rw [toList_eq, toList_eq]
theorem reps3_ {R : Int → List Value → Prop} {x y z : Int} {a b c : Value} (h1 : R x [a]) (h2 : R y [b]) (h3 : R z [c]) : Reps R 1 [x, y, z] [a, b, c] := (((Reps.none R 1).snoc h1 rfl).snoc h2 rfl).snoc h3 rfl
def cmpI (a b : Int) : Int := if a < b then -1 else if a > b then 1 else 0
theorem nan_fun (a : Int) (w : World) : Calls Tryd.prog 31 #[.int .i64 a] w fun e w' => e = .returned (.bool false) ∧ w' = w := by
  go_enter Tryd.func31, Tryd.ntmps31
  go_wp2
  go_ret
  exact ⟨by first | rfl | simp, rfl⟩
theorem compare_fun (a b : Int) (w : World) : Calls Tryd.prog 19 #[.int .i64 a, .int .i64 b] w fun e w' => e = .returned (.int .i64 (cmpI a b)) ∧ w' = w := by
  go_enter Tryd.func19, Tryd.ntmps19
  go_wp2_with fail
  refine (nan_fun a w).mono ?_
  rintro e_ w1 ⟨rfl, rfl⟩
  go_wp2_with fail
  refine (nan_fun b _).mono ?_
  rintro e_ w2 ⟨rfl, rfl⟩
  rcases Int.lt_trichotomy a b with h | h | h
  · have h1 : decide (a < b) = true := decide_eq_true h
    have he : cmpI a b = -1 := by unfold cmpI; rw [if_pos h]
    have HE := Aside0.mk he
    clear he h
    go_wp2
    go_ret
    exact ⟨by rw [HE.out]; rfl, rfl⟩
  · have h1 : decide (a < b) = false := decide_eq_false (by omega)
    have h2 : decide (a > b) = false := decide_eq_false (by omega)
    have he : cmpI a b = 0 := by unfold cmpI; rw [if_neg (by omega), if_neg (by omega)]
    have HE := Aside0.mk he
    clear he h
    go_wp2
    go_ret
    exact ⟨by rw [HE.out]; rfl, rfl⟩
  · have h1 : decide (a < b) = false := decide_eq_false (by omega)
    have h2 : decide (a > b) = true := decide_eq_true (by omega)
    have he : cmpI a b = 1 := by unfold cmpI; rw [if_neg (by omega), if_pos (by omega)]
    have HE := Aside0.mk he
    clear he h
    go_wp2
    go_ret
    exact ⟨by rw [HE.out]; rfl, rfl⟩
theorem nan64_fun (a : Int) (w : World) : Calls Tryd.prog 32 #[.int .i64 a] w fun e w' => e = .returned (.bool false) ∧ w' = w := by
  go_enter Tryd.func32, Tryd.ntmps32
  go_wp2
  go_ret
  exact ⟨by first | rfl | simp, rfl⟩
theorem compare64_fun (a b : Int) (w : World) : Calls Tryd.prog 20 #[.int .i64 a, .int .i64 b] w fun e w' => e = .returned (.int .i64 (cmpI a b)) ∧ w' = w := by
  go_enter Tryd.func20, Tryd.ntmps20
  go_wp2_with fail
  refine (nan64_fun a w).mono ?_
  rintro e_ w1 ⟨rfl, rfl⟩
  go_wp2_with fail
  refine (nan64_fun b _).mono ?_
  rintro e_ w2 ⟨rfl, rfl⟩
  rcases Int.lt_trichotomy a b with h | h | h
  · have h1 : decide (a < b) = true := decide_eq_true h
    have he : cmpI a b = -1 := by unfold cmpI; rw [if_pos h]
    have HE := Aside0.mk he
    clear he h
    go_wp2
    go_ret
    exact ⟨by rw [HE.out]; rfl, rfl⟩
  · have h1 : decide (a < b) = false := decide_eq_false (by omega)
    have h2 : decide (a > b) = false := decide_eq_false (by omega)
    have he : cmpI a b = 0 := by unfold cmpI; rw [if_neg (by omega), if_neg (by omega)]
    have HE := Aside0.mk he
    clear he h
    go_wp2
    go_ret
    exact ⟨by rw [HE.out]; rfl, rfl⟩
  · have h1 : decide (a < b) = false := decide_eq_false (by omega)
    have h2 : decide (a > b) = true := decide_eq_true (by omega)
    have he : cmpI a b = 1 := by unfold cmpI; rw [if_neg (by omega), if_pos (by omega)]
    have HE := Aside0.mk he
    clear he h
    go_wp2
    go_ret
    exact ⟨by rw [HE.out]; rfl, rfl⟩
def orL (xs : List Int) : Int := (xs.find? (fun x => decide (x ≠ 0))).getD 0
theorem orL_at (xs : List Int) (j : Nat) (hj : j < xs.length) (h : ∀ k (h : k < xs.length), k < j → xs[k] = 0) (hx : xs[j] ≠ 0) : orL xs = xs[j] := by
  unfold orL
  rw [List.find?_eq_some_iff_getElem.2 ⟨by simpa using hx, j, hj, rfl, fun k hk => by simpa using h k (by omega) hk⟩]
  rfl
theorem orL_none (xs : List Int) (h : ∀ k (h : k < xs.length), xs[k] = 0) : orL xs = 0 := by
  unfold orL
  rw [List.find?_eq_none.2 (fun x hx => by
    obtain ⟨k, hk, rfl⟩ := List.getElem_of_mem hx
    simp [h k hk])]
  rfl
set_option maxRecDepth 20000 in
set_option maxHeartbeats 2000000 in
theorem or_fun (v : Value) (xs : List Int) (hl : xs.length ≤ 1000000) : FunV Tryd.prog 18 #[v] (fun _ => True) [HP.row (Kd.int .i64) 3 v xs] (.int .i64 (orL xs)) [HP.row (Kd.int .i64) 3 v xs] := by
  intro w S hS hR
  have HS := St.start hS
  clear hS hR
  have hu46 := Tryd.underlying59
  obtain ⟨A, c, rfl, hc, hC⟩ := St.row_C HS
  clear hC
  go_enter Tryd.func18, Tryd.ntmps18
  go_wp2_with fail
  go_loopw [8] (fun v8 w' => ∃ j : Nat, j ≤ xs.length ∧ v8 = .int .i64 j ∧ Aside0 (∀ k (h : k < xs.length), k < j → xs[k] = 0) ∧ St w S w' [HP.row (Kd.int .i64) 3 (.slice A xs.length c) xs]) (fun v8 _ => xs.length - (intOf v8).toNat)
  case atStart => exact ⟨0, Nat.zero_le _, rfl, ⟨fun k h h1 => by omega⟩, HS⟩
  case round =>
    clear HS
    obtain ⟨j, hj, rfl, HA, HS⟩ := hrel
    by_cases hlt : j < xs.length
    · have hltI : (j : Int) < (xs.length : Int) := by omega
      have hj0 : (0 : Int) ≤ (j : Int) := by omega
      have hjd : decide ((j : Int) < (xs.length : Int)) = true := decide_eq_true hltI
      obtain ⟨g, c2, ev⟩ := St.row_form HS (by omega)
      obtain ⟨rfl, -, rfl⟩ : A = some ⟨g, 0, none⟩ ∧ xs.length = xs.length ∧ c = c2 := by simpa using ev
      clear ev
      have q0 := (St.row_cell (enc := fun n : Int => Value.int .i64 n) 0 HS j hlt).1
      have e0 : xs.getD j 0 = xs[j] := by simp [List.getD_eq_getElem?_getD, List.getElem?_eq_getElem hlt]
      rw [e0] at q0
      clear e0
      by_cases hx : xs[j] = 0
      · have hxb : (xs[j] == 0) = true := beq_iff_eq.2 hx
        have hnA := Aside0.mk (show ∀ k (h : k < xs.length), k < j + 1 → xs[k] = 0 from fun k h hk => by
          by_cases e : k = j
          · subst e; exact hx
          · exact HA.out k h (by omega))
        rw [hx] at q0
        clear hx hxb
        go_wp2
        go_roundw
        case rel => exact ⟨j + 1, by omega, by go_num, hnA, HS⟩
        case measure => simp [intOf]; omega
      · have hor := orL_at xs j hlt HA.out hx
        obtain ⟨y, hy⟩ : ∃ y, xs[j] = y := ⟨_, rfl⟩
        rw [hy] at q0 hor hx
        have hxb : (y == 0) = false := beq_eq_false_iff_ne.2 hx
        have HO := Aside0.mk hor
        clear hor hy hx
        go_wp2
        go_ret
        exact ⟨by rw [HO.out]; rfl, HS⟩
    · obtain rfl : j = xs.length := by omega
      have hjd : decide ((xs.length : Int) < (xs.length : Int)) = false := decide_eq_false (by omega)
      have HO := Aside0.mk (orL_none xs (fun k h => HA.out k h h))
      go_wp2
      go_ret
      exact ⟨by rw [HO.out]; rfl, HS⟩
set_option maxHeartbeats 8000000 in
set_option maxRecDepth 20000 in
theorem valcmp_fun (ka na : Int) (sa : ByteArray) (kb nb : Int) (sb : ByteArray) :
    FunV Tryd.prog 12 #[.agg #[.int .i64 ka, .int .i64 na, .string sa], .agg #[.int .i64 kb, .int .i64 nb, .string sb]] (fun _ => True) [] (.int .i64 (orL [cmpI ka kb, cmpI na nb, cmpS sa sb])) [] := by
  intro w S hS hR
  have HS := St.start hS
  clear hS hR
  have huV := Tryd.underlying23
  have huI := Tryd.underlying59
  go_enter Tryd.func12, Tryd.ntmps12
  go_wp2_with (first
    | ((with_reducible refine gate_dst (N := 2) rfl ?_); refine ev_box ?hg (N := 2) ?hd (cs := [.int .i64 ka, .int .i64 na, .string sa]) (t := 23) HS ?hr ?_; (case hd => rfl); (case hg => rfl); (case hr => first | (go_simp; done) | (go_simp; rfl)); intro g2 w2 HS_ hg_; clear HS; have HS := HS_; clear HS_)
    | ((with_reducible refine gate_dst (N := 3) rfl ?_); refine ev_box ?hg (N := 3) ?hd (cs := [.int .i64 kb, .int .i64 nb, .string sb]) (t := 23) HS ?hr ?_; (case hd => rfl); (case hg => rfl); (case hr => first | (go_simp; done) | (go_simp; rfl)); intro g3 w3 HS_ hg_; clear HS; have HS := HS_; clear HS_))
  refine start_ (n := 18) (S := fun w' => w'.cell? ⟨g2, 0, none⟩ = some (.int .i64 ka) ∧ w'.cell? ⟨g2, 1, none⟩ = some (.int .i64 na) ∧ w'.cell? ⟨g2, 2, none⟩ = some (.string sa) ∧ w'.cell? ⟨g3, 0, none⟩ = some (.int .i64 kb) ∧ w'.cell? ⟨g3, 1, none⟩ = some (.int .i64 nb) ∧ w'.cell? ⟨g3, 2, none⟩ = some (.string sb)) (ds := []) #[false, false, false, false, false, false, false, false, false, false, false, false, false, false, false, false, false, false] (by kernel_rfl) rfl rfl ⟨(HS.drew.mv 1).cell 0, (HS.drew.mv 1).cell 1, (HS.drew.mv 1).cell 2, HS.drew.cell 0, HS.drew.cell 1, HS.drew.cell 2⟩ (fun hHeld => ?_)
  refine pure_ (i := 0) (N := some 5) (v := ?_) (a' := ?_) #[true, false, false, false, false, false, false, false, false, false, false, false, false, false, false, false, false, false] rfl rfl (by kernel_rfl) (fun _ _ _ h => h) (Or.inl ⟨by rfl, ?_⟩) ?_ ?_
  rotate_left
  · intro w'
    go_simp
    with_reducible rfl
  rotate_left
  · simp only [Act.put, List.setIfInBounds_toArray, List.set_cons_zero, List.set_cons_succ, i64_w, i32_w]
    rfl
  refine pure_ (i := 2) (N := some 7) (v := ?_) (a' := ?_) #[true, false, true, false, false, false, false, false, false, false, false, false, false, false, false, false, false, false] rfl rfl (by kernel_rfl) (fun _ _ _ h => h) (Or.inl ⟨by rfl, ?_⟩) ?_ ?_
  rotate_left
  · intro w'
    go_simp
    with_reducible rfl
  rotate_left
  · simp only [Act.put, List.setIfInBounds_toArray, List.set_cons_zero, List.set_cons_succ, i64_w, i32_w]
    rfl
  refine pure_ (i := 5) (N := some 10) (v := ?_) (a' := ?_) #[true, false, true, false, false, true, false, false, false, false, false, false, false, false, false, false, false, false] rfl rfl (by kernel_rfl) (fun _ _ _ h => h) (Or.inl ⟨by rfl, ?_⟩) ?_ ?_
  rotate_left
  · intro w'
    go_simp
    with_reducible rfl
  rotate_left
  · simp only [Act.put, List.setIfInBounds_toArray, List.set_cons_zero, List.set_cons_succ, i64_w, i32_w]
    rfl
  refine pure_ (i := 7) (N := some 12) (v := ?_) (a' := ?_) #[true, false, true, false, false, true, false, true, false, false, false, false, false, false, false, false, false, false] rfl rfl (by kernel_rfl) (fun _ _ _ h => h) (Or.inl ⟨by rfl, ?_⟩) ?_ ?_
  rotate_left
  · intro w'
    go_simp
    with_reducible rfl
  rotate_left
  · simp only [Act.put, List.setIfInBounds_toArray, List.set_cons_zero, List.set_cons_succ, i64_w, i32_w]
    rfl
  refine pure_ (i := 10) (N := some 15) (v := ?_) (a' := ?_) #[true, false, true, false, false, true, false, true, false, false, true, false, false, false, false, false, false, false] rfl rfl (by kernel_rfl) (fun _ _ _ h => h) (Or.inl ⟨by rfl, ?_⟩) ?_ ?_
  rotate_left
  · intro w'
    go_simp
    with_reducible rfl
  rotate_left
  · simp only [Act.put, List.setIfInBounds_toArray, List.set_cons_zero, List.set_cons_succ, i64_w, i32_w]
    rfl
  refine pure_ (i := 12) (N := some 17) (v := ?_) (a' := ?_) #[true, false, true, false, false, true, false, true, false, false, true, false, true, false, false, false, false, false] rfl rfl (by kernel_rfl) (fun _ _ _ h => h) (Or.inl ⟨by rfl, ?_⟩) ?_ ?_
  rotate_left
  · intro w'
    go_simp
    with_reducible rfl
  rotate_left
  · simp only [Act.put, List.setIfInBounds_toArray, List.set_cons_zero, List.set_cons_succ, i64_w, i32_w]
    rfl
  refine take_ (i := 1) (N := some 6) (v := ?_) (a' := ?_) #[true, true, true, false, false, true, false, true, false, false, true, false, true, false, false, false, false, false] rfl rfl (by kernel_rfl) (fun _ _ _ h => h) (Or.inl ⟨by rfl, ?_⟩) hHeld ?_ ?_
  rotate_left
  · rintro w' ⟨s0, s1, s2, s3, s4, s5⟩
    go_simp
    with_reducible rfl
  rotate_left
  · simp only [Act.put, List.setIfInBounds_toArray, List.set_cons_zero, List.set_cons_succ, i64_w, i32_w]
    rfl
  refine take_ (i := 3) (N := some 8) (v := ?_) (a' := ?_) #[true, true, true, true, false, true, false, true, false, false, true, false, true, false, false, false, false, false] rfl rfl (by kernel_rfl) (fun _ _ _ h => h) (Or.inl ⟨by rfl, ?_⟩) hHeld ?_ ?_
  rotate_left
  · rintro w' ⟨s0, s1, s2, s3, s4, s5⟩
    go_simp
    with_reducible rfl
  rotate_left
  · simp only [Act.put, List.setIfInBounds_toArray, List.set_cons_zero, List.set_cons_succ, i64_w, i32_w]
    rfl
  refine take_ (i := 6) (N := some 11) (v := ?_) (a' := ?_) #[true, true, true, true, false, true, true, true, false, false, true, false, true, false, false, false, false, false] rfl rfl (by kernel_rfl) (fun _ _ _ h => h) (Or.inl ⟨by rfl, ?_⟩) hHeld ?_ ?_
  rotate_left
  · rintro w' ⟨s0, s1, s2, s3, s4, s5⟩
    go_simp
    with_reducible rfl
  rotate_left
  · simp only [Act.put, List.setIfInBounds_toArray, List.set_cons_zero, List.set_cons_succ, i64_w, i32_w]
    rfl
  refine take_ (i := 8) (N := some 13) (v := ?_) (a' := ?_) #[true, true, true, true, false, true, true, true, true, false, true, false, true, false, false, false, false, false] rfl rfl (by kernel_rfl) (fun _ _ _ h => h) (Or.inl ⟨by rfl, ?_⟩) hHeld ?_ ?_
  rotate_left
  · rintro w' ⟨s0, s1, s2, s3, s4, s5⟩
    go_simp
    with_reducible rfl
  rotate_left
  · simp only [Act.put, List.setIfInBounds_toArray, List.set_cons_zero, List.set_cons_succ, i64_w, i32_w]
    rfl
  refine take_ (i := 11) (N := some 16) (v := ?_) (a' := ?_) #[true, true, true, true, false, true, true, true, true, false, true, true, true, false, false, false, false, false] rfl rfl (by kernel_rfl) (fun _ _ _ h => h) (Or.inl ⟨by rfl, ?_⟩) hHeld ?_ ?_
  rotate_left
  · rintro w' ⟨s0, s1, s2, s3, s4, s5⟩
    go_simp
    with_reducible rfl
  rotate_left
  · simp only [Act.put, List.setIfInBounds_toArray, List.set_cons_zero, List.set_cons_succ, i64_w, i32_w]
    rfl
  refine take_ (i := 13) (N := some 18) (v := ?_) (a' := ?_) #[true, true, true, true, false, true, true, true, true, false, true, true, true, true, false, false, false, false] rfl rfl (by kernel_rfl) (fun _ _ _ h => h) (Or.inl ⟨by rfl, ?_⟩) hHeld ?_ ?_
  rotate_left
  · rintro w' ⟨s0, s1, s2, s3, s4, s5⟩
    go_simp
    with_reducible rfl
  rotate_left
  · simp only [Act.put, List.setIfInBounds_toArray, List.set_cons_zero, List.set_cons_succ, i64_w, i32_w]
    rfl
  refine one_ (i := 4) (N := some 9) #[true, true, true, true, true, true, true, true, true, false, true, true, true, true, false, false, false, false] rfl rfl (by kernel_rfl) (by decide) (fun K hK => ?_)
  refine goes_ Tryd.func19 (by kernel_rfl) rfl #[.int .i64 ka, .int .i64 kb] (by rfl) rfl rfl (by simp only [List.map_toArray, List.map_cons, List.map_nil]; rfl) ?_
  refine (compare_fun ka kb _).mono ?_
  rintro e_ w5 ⟨rfl, hw5⟩
  refine ⟨_, rfl, ?_⟩
  have HS_ := HS.drew
  rw [← hw5] at HS_
  clear HS hw5
  have HS := HS_
  clear HS_
  refine hK.out _ _ ⟨(HS.mv 1).cell 0, (HS.mv 1).cell 1, (HS.mv 1).cell 2, HS.cell 0, HS.cell 1, HS.cell 2⟩ (fun hHeld => ?_)
  clear hK K
  refine norm_ (a' := ?_) ?_ ?_
  rotate_left
  · show Act.put _ (some 9) _ = _
    simp only [Act.put, List.setIfInBounds_toArray, List.set_cons_zero, List.set_cons_succ, i64_w, i32_w]
    rfl
  refine one_ (i := 9) (N := some 14) #[true, true, true, true, true, true, true, true, true, true, true, true, true, true, false, false, false, false] rfl rfl (by kernel_rfl) (by decide) (fun K hK => ?_)
  refine goes_ Tryd.func20 (by kernel_rfl) rfl #[.int .i64 na, .int .i64 nb] (by rfl) rfl rfl (by simp only [List.map_toArray, List.map_cons, List.map_nil]; rfl) ?_
  refine (compare64_fun na nb _).mono ?_
  rintro e_ w6 ⟨rfl, hw6⟩
  refine ⟨_, rfl, ?_⟩
  rw [← hw6] at HS
  clear hw6
  refine hK.out _ _ ⟨(HS.mv 1).cell 0, (HS.mv 1).cell 1, (HS.mv 1).cell 2, HS.cell 0, HS.cell 1, HS.cell 2⟩ (fun hHeld => ?_)
  clear hK K
  refine norm_ (a' := ?_) ?_ ?_
  rotate_left
  · show Act.put _ (some 14) _ = _
    simp only [Act.put, List.setIfInBounds_toArray, List.set_cons_zero, List.set_cons_succ, i64_w, i32_w]
    rfl
  refine one_ (i := 14) (N := some 19) #[true, true, true, true, true, true, true, true, true, true, true, true, true, true, true, false, false, false] rfl rfl (by kernel_rfl) (by decide) (fun K hK => ?_)
  refine goes_ Tryd.func21 (by kernel_rfl) rfl #[.string sa, .string sb] (by rfl) rfl rfl (by simp only [List.map_toArray, List.map_cons, List.map_nil]; rfl) ?_
  refine (strcmp_fun sa sb _).mono ?_
  rintro e_ w7 ⟨rfl, hw7⟩
  refine ⟨_, rfl, ?_⟩
  rw [← hw7] at HS
  clear hw7
  refine hK.out _ _ ⟨(HS.mv 1).cell 0, (HS.mv 1).cell 1, (HS.mv 1).cell 2, HS.cell 0, HS.cell 1, HS.cell 2⟩ (fun hHeld => ?_)
  clear hK K
  refine norm_ (a' := ?_) ?_ ?_
  rotate_left
  · show Act.put _ (some 19) _ = _
    simp only [Act.put, List.setIfInBounds_toArray, List.set_cons_zero, List.set_cons_succ, i64_w, i32_w]
    rfl
  refine one_ (i := 15) (N := some 20) #[true, true, true, true, true, true, true, true, true, true, true, true, true, true, true, true, false, false] rfl rfl (by kernel_rfl) (by decide) (fun K hK => ?_)
  have HS_ := HS.lit (d := Kd.int .i64) (e := 3) (xs := [cmpI ka kb, cmpI na nb, cmpS sa sb]) (inner := [.int .i64 (cmpI ka kb), .int .i64 (cmpI na nb), .int .i64 (cmpS sa sb)]) (reps3_ (by exact rfl) (by exact rfl) (by exact rfl)) (by simp)
  refine value_ (w1 := w7.alloc (Obj.cells #[.int .i64 (cmpI ka kb), .int .i64 (cmpI na nb), .int .i64 (cmpS sa sb)] 3)) (v := .slice (some ⟨w7.heap.size, 0, none⟩) 3 3) (by rfl) rfl ?hrun ?_
  case hrun => first | (go_simp; done) | (go_simp; rfl)
  clear HS
  have HS : St w S (w7.alloc _) [HP.row (Kd.int .i64) 3 (.slice (some ⟨w7.heap.size, 0, none⟩) 3 3) [cmpI ka kb, cmpI na nb, cmpS sa sb], HP.obj g3 23 [.int .i64 kb, .int .i64 nb, .string sb], HP.obj g2 23 [.int .i64 ka, .int .i64 na, .string sa]] := HS_
  clear HS_
  generalize w7.alloc (Obj.cells #[.int .i64 (cmpI ka kb), .int .i64 (cmpI na nb), .int .i64 (cmpS sa sb)] 3) = w20 at HS ⊢
  generalize w7.heap.size = gl at HS ⊢
  refine hK.out _ _ ⟨(HS.mv 2).cell 0, (HS.mv 2).cell 1, (HS.mv 2).cell 2, (HS.mv 1).cell 0, (HS.mv 1).cell 1, (HS.mv 1).cell 2⟩ (fun hHeld => ?_)
  clear hK K
  refine norm_ (a' := ?_) ?_ ?_
  rotate_left
  · show Act.put _ (some 20) _ = _
    simp only [Act.put, List.setIfInBounds_toArray, List.set_cons_zero, List.set_cons_succ, i64_w, i32_w]
    rfl
  refine one_ (i := 16) (N := some 21) #[true, true, true, true, true, true, true, true, true, true, true, true, true, true, true, true, true, false] rfl rfl (by kernel_rfl) (by decide) (fun K hK => ?_)
  refine goes_ Tryd.func18 (by kernel_rfl) rfl #[.slice (some ⟨gl, 0, none⟩) 3 3] (by rfl) rfl rfl (by simp only [List.map_toArray, List.map_cons, List.map_nil]; rfl) ?_
  refine ((or_fun (.slice (some ⟨gl, 0, none⟩) 3 3) [cmpI ka kb, cmpI na nb, cmpS sa sb] (by simp)).call (F := [HP.obj g3 23 [.int .i64 kb, .int .i64 nb, .string sb], HP.obj g2 23 [.int .i64 ka, .int .i64 na, .string sa]]) HS (fun _ _ _ _ => trivial)).mono ?_
  rintro e_ w8 ⟨rfl, HS_⟩
  refine ⟨_, rfl, ?_⟩
  clear HS
  have HS : St w S w8 [HP.row (Kd.int .i64) 3 (.slice (some ⟨gl, 0, none⟩) 3 3) [cmpI ka kb, cmpI na nb, cmpS sa sb], HP.obj g3 23 [.int .i64 kb, .int .i64 nb, .string sb], HP.obj g2 23 [.int .i64 ka, .int .i64 na, .string sa]] := HS_
  clear HS_
  refine hK.out _ _ ⟨(HS.mv 2).cell 0, (HS.mv 2).cell 1, (HS.mv 2).cell 2, (HS.mv 1).cell 0, (HS.mv 1).cell 1, (HS.mv 1).cell 2⟩ (fun hHeld => ?_)
  clear hK K
  refine norm_ (a' := ?_) ?_ ?_
  rotate_left
  · show Act.put _ (some 21) _ = _
    simp only [Act.put, List.setIfInBounds_toArray, List.set_cons_zero, List.set_cons_succ, i64_w, i32_w]
    rfl
  refine pure_ (i := 17) (N := some 4) (v := ?_) (a' := ?_) #[true, true, true, true, true, true, true, true, true, true, true, true, true, true, true, true, true, true] rfl rfl (by kernel_rfl) (fun _ _ _ h => h) (Or.inl ⟨by rfl, ?_⟩) ?_ ?_
  rotate_left
  · intro w'
    go_simp
    with_reducible rfl
  rotate_left
  · simp only [Act.put, List.setIfInBounds_toArray, List.set_cons_zero, List.set_cons_succ, i64_w, i32_w]
    rfl
  refine done_ (by kernel_rfl) ?_
  clear hHeld
  go_wp2
  go_ret
  exact ⟨rfl, ((HS.out 0).out 0).out 0⟩

end Go.Proofs.YtnejbilnhebphaaDoor.Val
