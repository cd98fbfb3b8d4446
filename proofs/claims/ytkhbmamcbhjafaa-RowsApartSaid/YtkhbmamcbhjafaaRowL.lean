/- The laws of rows that are played, walked. -/
import Derived.Test.YtkhbmamcbhjafaaAwkX
import Derived.Test.YtkhbmamcbhjafaaPlayX
namespace Go.Proofs.Ytkhbmamcbhjafaa.Keys
open Go.RowKit Go.Proofs.YtkhbmamcbhjafaaW.PrintWords Go.Proofs.YtkhbmamcbhjafaaW.PrintLast Go.Proofs.YtkhbmamcbhjafaaW.PrintMore Go.Proofs.Ytkhbmamcbhjafaa.Str Go.Proofs.Ytkhbmamcbhjafaa.PRef Go.Proofs.Ytkhbmamcbhjafaa.Stands Go.Proofs.Ytkhbmamcbhjafaa.Sl
set_option linter.unusedVariables false
set_option linter.unusedSimpArgs false
theorem WP_len {w0 w : World} {S0 : Nat → Prop} {F : List HP} {g mb : Nat} {s : Sta} (h : St w0 S0 w (WP g mb s :: F)) (ty : TypeId) : (Builtin.len_ #[26] ty #[.map (some mb)]).run Try.prog w = .ok (.int .i64 s.m.length) w := by
  obtain ⟨u0, u1, u2, u3, h⟩ := WP_open h
  exact St.map_len (h.mv 5) Try.underlying26 ty
theorem within1 {w0 w : World} {S0 : Nat → Prop} {F : List HP} {g mb q : Nat} {s : Sta} {m : Ents} (h : St w0 S0 w (MP q m :: WP g mb s :: F)) (hi : inside s.m m = true) : Calls Try.prog 10 #[.map (some mb), .map (some q)] w fun e w' => e = .returned (.bool true) ∧ St w0 S0 w' (MP q m :: WP g mb s :: F) := by
  obtain ⟨u0, u1, u2, u3, h1⟩ := WP_open (h.mv 1)
  refine ((within_fun mb q s.m m).call (F := HP.obj g 28 [u0, u1, u2, u3, .map (some mb)] :: HP.row kC 73 u0 s.r0 :: HP.row kC 73 u1 s.r1 :: HP.row kC 73 u2 s.r2 :: HP.row kC 73 u3 s.r3 :: F) (((((((h1.mv 4).mv 4).mv 4).mv 4).mv 4).mv 6).mv 6) (fun _ _ _ _ => trivial)).mono ?_
  rintro e w' ⟨rfl, h3⟩
  exact ⟨by rw [hi], (WP_shut (((((((h3.mv 1).mv 1).mv 6).mv 6).mv 6).mv 6).mv 6)).mv 1⟩
theorem within2 {w0 w : World} {S0 : Nat → Prop} {F : List HP} {g mb q : Nat} {s : Sta} {m : Ents} (h : St w0 S0 w (MP q m :: WP g mb s :: F)) (hi : inside m s.m = true) : Calls Try.prog 10 #[.map (some q), .map (some mb)] w fun e w' => e = .returned (.bool true) ∧ St w0 S0 w' (MP q m :: WP g mb s :: F) := by
  obtain ⟨u0, u1, u2, u3, h1⟩ := WP_open (h.mv 1)
  refine ((within_fun q mb m s.m).call (F := HP.obj g 28 [u0, u1, u2, u3, .map (some mb)] :: HP.row kC 73 u0 s.r0 :: HP.row kC 73 u1 s.r1 :: HP.row kC 73 u2 s.r2 :: HP.row kC 73 u3 s.r3 :: F) (((((((h1.mv 4).mv 4).mv 4).mv 4).mv 4).mv 5).mv 6) (fun _ _ _ _ => trivial)).mono ?_
  rintro e w' ⟨rfl, h3⟩
  exact ⟨by rw [hi], (WP_shut ((((((h3.mv 1).mv 6).mv 6).mv 6).mv 6).mv 6)).mv 1⟩
def fillN (s : Sta) : Nat → Sta
  | 0 => s
  | k + 1 => fill1 s (fillN s k) k
theorem fillN_ok (s : Sta) (h : Sub s) : ∀ k, k ≤ 4 → Sub (fillN s k) ∧ ∀ j, j < 4 → (fillN s k).row j = s.row j
  | 0, _ => ⟨h, fun _ _ => rfl⟩
  | k + 1, hk => by
    obtain ⟨a, b⟩ := fillN_ok s h k (by omega)
    obtain ⟨c, d, _⟩ := fill1_ok s _ a b k (by omega)
    exact ⟨c, d⟩
set_option maxHeartbeats 4000000 in
set_option maxRecDepth 20000 in
theorem rowsAbsent_fun (A1 : Option Addr) (c1 : Nat) (first : List OpR) (hc1 : first.length ≤ c1) (A2 : Option Addr) (c2 : Nat) (after : List OpR) (hc2 : after.length ≤ c2) :
    FunV Try.prog 3 #[.slice A1 first.length c1, .slice A2 after.length c2] (fun w => Kd.C kO w A1 first.length first ∧ Kd.C kO w A2 after.length after) [] (.bool true) [] := by
  intro w S hS hR
  have HS := St.start hS
  clear hS
  have hu1 := Try.underlying28
  have hu2 := Try.underlying25
  have hu3 := Try.underlying24
  have hu4 := Try.underlying26
  have hu5 := Try.underlying39
  have hu6 := Try.underlying36
  go_enter Try.func3, Try.ntmps3
  go_wp2_with fail
  refine (awake_fun.call (F := []) HS (fun _ _ _ _ => trivial)).mono ?_
  rintro e_ w1 ⟨rfl, HS_⟩
  clear HS
  have HS := HS_
  clear HS_
  by_cases g1 : first.length > 200
  · have hb1 : decide ((first.length : Int) > 200) = true := decide_eq_true (by omega)
    go_wp2_with fail
    refine (awake_fun.call (F := []) HS (fun _ _ _ _ => trivial)).mono ?_
    rintro e_ w2 ⟨rfl, HS_⟩
    clear HS
    have HS := HS_
    clear HS_
    go_wp2
    go_ret
    exact ⟨rfl, HS⟩
  · have hb1 : decide ((first.length : Int) > 200) = false := decide_eq_false (by omega)
    by_cases g2 : after.length > 200
    · have hb2 : decide ((after.length : Int) > 200) = true := decide_eq_true (by omega)
      go_wp2_with fail
      refine (awake_fun.call (F := []) HS (fun _ _ _ _ => trivial)).mono ?_
      rintro e_ w2 ⟨rfl, HS_⟩
      clear HS
      have HS := HS_
      clear HS_
      go_wp2
      go_ret
      exact ⟨rfl, HS⟩
    · have hb2 : decide ((after.length : Int) > 200) = false := decide_eq_false (by omega)
      go_wp2_with fail
      refine ((played_fun A1 c1 first hc1 A2 c2 after hc2 (by omega) (by omega) 0 1).call (F := []) HS (fun w' S' e _ => hR w' e)).mono ?_
      rintro e_ w3 ⟨v, rfl, H1⟩
      obtain ⟨g, H2⟩ := St.ex_ H1
      obtain ⟨mb, H3⟩ := St.ex_ H2
      obtain ⟨hv, HS3⟩ := St.and_ H3
      subst hv
      clear HS H1 H2 H3 hR
      have HS := HS3
      clear HS3
      have hm := play_absent first after
      generalize playL 0 1 first after = s at HS hm
      have c4 := WP_c4 HS
      have hlen := WP_len HS
      rw [hm] at hlen
      clear hm
      go_wp2
      go_ret
      exact ⟨rfl, HS.out 0⟩
set_option maxHeartbeats 4000000 in
set_option maxRecDepth 20000 in
theorem rowsExact_fun (A1 : Option Addr) (c1 : Nat) (first : List OpR) (hc1 : first.length ≤ c1) (A2 : Option Addr) (c2 : Nat) (after : List OpR) (hc2 : after.length ≤ c2) :
    FunV Try.prog 5 #[.slice A1 first.length c1, .slice A2 after.length c2] (fun w => Kd.C kO w A1 first.length first ∧ Kd.C kO w A2 after.length after) [] (.bool true) [] := by
  intro w S hS hR
  have HS := St.start hS
  clear hS
  have hu1 := Try.underlying28
  have hu2 := Try.underlying25
  have hu3 := Try.underlying24
  have hu4 := Try.underlying26
  have hu5 := Try.underlying39
  have hu6 := Try.underlying36
  go_enter Try.func5, Try.ntmps5
  go_wp2_with fail
  refine (awake_fun.call (F := []) HS (fun _ _ _ _ => trivial)).mono ?_
  rintro e_ w1 ⟨rfl, HS_⟩
  clear HS
  have HS := HS_
  clear HS_
  by_cases g1 : first.length > 200
  · have hb1 : decide ((first.length : Int) > 200) = true := decide_eq_true (by omega)
    go_wp2_with fail
    refine (awake_fun.call (F := []) HS (fun _ _ _ _ => trivial)).mono ?_
    rintro e_ w2 ⟨rfl, HS_⟩
    clear HS
    have HS := HS_
    clear HS_
    go_wp2
    go_ret
    exact ⟨rfl, HS⟩
  · have hb1 : decide ((first.length : Int) > 200) = false := decide_eq_false (by omega)
    by_cases g2 : after.length > 200
    · have hb2 : decide ((after.length : Int) > 200) = true := decide_eq_true (by omega)
      go_wp2_with fail
      refine (awake_fun.call (F := []) HS (fun _ _ _ _ => trivial)).mono ?_
      rintro e_ w2 ⟨rfl, HS_⟩
      clear HS
      have HS := HS_
      clear HS_
      go_wp2
      go_ret
      exact ⟨rfl, HS⟩
    · have hb2 : decide ((after.length : Int) > 200) = false := decide_eq_false (by omega)
      go_wp2_with fail
      refine ((played_fun A1 c1 first hc1 A2 c2 after hc2 (by omega) (by omega) 2 3).call (F := []) HS (fun w' S' e _ => hR w' e)).mono ?_
      rintro e_ w3 ⟨v, rfl, H1⟩
      obtain ⟨g, H2⟩ := St.ex_ H1
      obtain ⟨mb, H3⟩ := St.ex_ H2
      obtain ⟨hv, HS3⟩ := St.and_ H3
      subst hv
      clear HS H1 H2 H3 hR
      have HS := HS3
      clear HS3
      obtain ⟨hsub, hall⟩ := play_exact first after
      generalize playL 2 3 first after = s at HS hsub hall
      have hg := hsub.good
      have hs1 := wanted_in s hsub hall
      have hs2 := in_wanted s hsub
      have c4 := WP_c4 HS
      clear hsub hall
      go_wp2_with fail
      refine start_ (n := 17) (S := fun w' => w'.cell? ⟨g, 4, none⟩ = some (.map (some mb))) (ds := []) #[false, false, false, false, false, false, false, false, false, false, false, false, false, false, false, false, false] (by kernel_rfl) rfl rfl (c4) (fun hHeld => ?_)
      refine pure_ (i := 0) (N := some 22) (v := ?_) (a' := ?_) #[true, false, false, false, false, false, false, false, false, false, false, false, false, false, false, false, false] rfl rfl (by kernel_rfl) (fun _ _ _ h => h) (Or.inl ⟨by rfl, ?_⟩) ?_ ?_
      rotate_left
      · intro w'
        go_simp
        with_reducible rfl
      rotate_left
      · simp only [Act.put, List.setIfInBounds_toArray, List.set_cons_zero, List.set_cons_succ, i64_w, i32_w]
        rfl
      refine pure_ (i := 2) (N := some 24) (v := ?_) (a' := ?_) #[true, false, true, false, false, false, false, false, false, false, false, false, false, false, false, false, false] rfl rfl (by kernel_rfl) (fun _ _ _ h => h) (Or.inl ⟨by rfl, ?_⟩) ?_ ?_
      rotate_left
      · intro w'
        go_simp
        with_reducible rfl
      rotate_left
      · simp only [Act.put, List.setIfInBounds_toArray, List.set_cons_zero, List.set_cons_succ, i64_w, i32_w]
        rfl
      refine pure_ (i := 3) (N := some 25) (v := ?_) (a' := ?_) #[true, false, true, true, false, false, false, false, false, false, false, false, false, false, false, false, false] rfl rfl (by kernel_rfl) (fun _ _ _ h => h) (Or.inl ⟨by rfl, ?_⟩) ?_ ?_
      rotate_left
      · intro w'
        go_simp
        with_reducible rfl
      rotate_left
      · simp only [Act.put, List.setIfInBounds_toArray, List.set_cons_zero, List.set_cons_succ, i64_w, i32_w]
        rfl
      refine pure_ (i := 4) (N := some 26) (v := ?_) (a' := ?_) #[true, false, true, true, true, false, false, false, false, false, false, false, false, false, false, false, false] rfl rfl (by kernel_rfl) (fun _ _ _ h => h) (Or.inl ⟨by rfl, ?_⟩) ?_ ?_
      rotate_left
      · intro w'
        go_simp
        with_reducible rfl
      rotate_left
      · simp only [Act.put, List.setIfInBounds_toArray, List.set_cons_zero, List.set_cons_succ, i64_w, i32_w]
        rfl
      refine take_ (i := 5) (N := some 27) (v := ?_) (a' := ?_) #[true, false, true, true, true, true, false, false, false, false, false, false, false, false, false, false, false] rfl rfl (by kernel_rfl) (fun _ _ _ h => h) (Or.inl ⟨by rfl, ?_⟩) hHeld ?_ ?_
      rotate_left
      · intro w' s0
        go_simp
        with_reducible rfl
      rotate_left
      · simp only [Act.put, List.setIfInBounds_toArray, List.set_cons_zero, List.set_cons_succ, i64_w, i32_w]
        rfl
      refine one_ (i := 1) (N := some 23) #[true, true, true, true, true, true, false, false, false, false, false, false, false, false, false, false, false] rfl rfl (by kernel_rfl) (by decide) (fun K hK => ?_)
      refine goes_ Try.func11 (by kernel_rfl) rfl #[.pointer (some ⟨g, 0, none⟩)] (by rfl) rfl rfl (by simp only [List.map_toArray, List.map_cons, List.map_nil]; rfl) ?_
      refine ((wanted_fun g mb s hg).call (F := []) (HS.drew) (fun _ _ _ _ => trivial)).mono ?_
      rintro e_ w5 ⟨v, rfl, H1⟩
      obtain ⟨qw5, H2⟩ := St.ex_ H1
      obtain ⟨hv, H3⟩ := St.and_ H2
      subst hv
      clear HS
      have HS := St.star_ H3
      clear H1 H2 H3
      refine ⟨_, rfl, ?_⟩
      refine hK.out _ _ (WP_c4 (HS.mv 1)) (fun hHeld => ?_)
      clear hK K
      refine norm_ (a' := ?_) ?_ ?_
      rotate_left
      · show Act.put _ (some 23) _ = _
        simp only [Act.put, List.setIfInBounds_toArray, List.set_cons_zero, List.set_cons_succ, i64_w, i32_w]
        rfl
      refine one_ (i := 6) (N := some 28) #[true, true, true, true, true, true, true, false, false, false, false, false, false, false, false, false, false] rfl rfl (by kernel_rfl) (by decide) (fun K hK => ?_)
      refine goes_ Try.func10 (by kernel_rfl) rfl #[.map (some qw5), .map (some mb)] (by rfl) rfl rfl (by simp only [List.map_toArray, List.map_cons, List.map_nil]; rfl) ?_
      refine (within2 HS hs1).mono ?_
      rintro e_ w6 ⟨rfl, HS_⟩
      clear HS
      have HS := HS_
      clear HS_
      refine ⟨_, rfl, ?_⟩
      refine hK.out _ _ (WP_c4 (HS.mv 1)) (fun hHeld => ?_)
      clear hK K
      refine norm_ (a' := ?_) ?_ ?_
      rotate_left
      · show Act.put _ (some 28) _ = _
        simp only [Act.put, List.setIfInBounds_toArray, List.set_cons_zero, List.set_cons_succ, i64_w, i32_w]
        rfl
      refine pure_ (i := 7) (N := some 29) (v := ?_) (a' := ?_) #[true, true, true, true, true, true, true, true, false, false, false, false, false, false, false, false, false] rfl rfl (by kernel_rfl) (fun _ _ _ h => h) (Or.inl ⟨by rfl, ?_⟩) ?_ ?_
      rotate_left
      · intro w'
        go_simp
        with_reducible rfl
      rotate_left
      · simp only [Act.put, List.setIfInBounds_toArray, List.set_cons_zero, List.set_cons_succ, i64_w, i32_w]
        rfl
      refine pure_ (i := 8) (N := some 30) (v := ?_) (a' := ?_) #[true, true, true, true, true, true, true, true, true, false, false, false, false, false, false, false, false] rfl rfl (by kernel_rfl) (fun _ _ _ h => h) (Or.inl ⟨by rfl, ?_⟩) ?_ ?_
      rotate_left
      · intro w'
        go_simp
        with_reducible rfl
      rotate_left
      · simp only [Act.put, List.setIfInBounds_toArray, List.set_cons_zero, List.set_cons_succ, i64_w, i32_w]
        rfl
      refine pure_ (i := 9) (N := some 31) (v := ?_) (a' := ?_) #[true, true, true, true, true, true, true, true, true, true, false, false, false, false, false, false, false] rfl rfl (by kernel_rfl) (fun _ _ _ h => h) (Or.inl ⟨by rfl, ?_⟩) ?_ ?_
      rotate_left
      · intro w'
        go_simp
        with_reducible rfl
      rotate_left
      · simp only [Act.put, List.setIfInBounds_toArray, List.set_cons_zero, List.set_cons_succ, i64_w, i32_w]
        rfl
      refine pure_ (i := 10) (N := some 32) (v := ?_) (a' := ?_) #[true, true, true, true, true, true, true, true, true, true, true, false, false, false, false, false, false] rfl rfl (by kernel_rfl) (fun _ _ _ h => h) (Or.inl ⟨by rfl, ?_⟩) ?_ ?_
      rotate_left
      · intro w'
        go_simp
        with_reducible rfl
      rotate_left
      · simp only [Act.put, List.setIfInBounds_toArray, List.set_cons_zero, List.set_cons_succ, i64_w, i32_w]
        rfl
      refine pure_ (i := 12) (N := some 34) (v := ?_) (a' := ?_) #[true, true, true, true, true, true, true, true, true, true, true, false, true, false, false, false, false] rfl rfl (by kernel_rfl) (fun _ _ _ h => h) (Or.inl ⟨by rfl, ?_⟩) ?_ ?_
      rotate_left
      · intro w'
        go_simp
        with_reducible rfl
      rotate_left
      · simp only [Act.put, List.setIfInBounds_toArray, List.set_cons_zero, List.set_cons_succ, i64_w, i32_w]
        rfl
      refine take_ (i := 11) (N := some 33) (v := ?_) (a' := ?_) #[true, true, true, true, true, true, true, true, true, true, true, true, true, false, false, false, false] rfl rfl (by kernel_rfl) (fun _ _ _ h => h) (Or.inl ⟨by rfl, ?_⟩) hHeld ?_ ?_
      rotate_left
      · intro w' s0
        go_simp
        with_reducible rfl
      rotate_left
      · simp only [Act.put, List.setIfInBounds_toArray, List.set_cons_zero, List.set_cons_succ, i64_w, i32_w]
        rfl
      refine one_ (i := 13) (N := some 35) #[true, true, true, true, true, true, true, true, true, true, true, true, true, true, false, false, false] rfl rfl (by kernel_rfl) (by decide) (fun K hK => ?_)
      refine goes_ Try.func11 (by kernel_rfl) rfl #[.pointer (some ⟨g, 0, none⟩)] (by rfl) rfl rfl (by simp only [List.map_toArray, List.map_cons, List.map_nil]; rfl) ?_
      refine ((wanted_fun g mb s hg).call (F := [MP qw5 (wantedL s)]) ((HS.mv 1)) (fun _ _ _ _ => trivial)).mono ?_
      rintro e_ w7 ⟨v, rfl, H1⟩
      obtain ⟨qw7, H2⟩ := St.ex_ H1
      obtain ⟨hv, H3⟩ := St.and_ H2
      subst hv
      clear HS
      have HS := St.star_ H3
      clear H1 H2 H3
      refine ⟨_, rfl, ?_⟩
      refine hK.out _ _ (WP_c4 (HS.mv 1)) (fun hHeld => ?_)
      clear hK K
      refine norm_ (a' := ?_) ?_ ?_
      rotate_left
      · show Act.put _ (some 35) _ = _
        simp only [Act.put, List.setIfInBounds_toArray, List.set_cons_zero, List.set_cons_succ, i64_w, i32_w]
        rfl
      refine one_ (i := 14) (N := some 36) #[true, true, true, true, true, true, true, true, true, true, true, true, true, true, true, false, false] rfl rfl (by kernel_rfl) (by decide) (fun K hK => ?_)
      refine goes_ Try.func10 (by kernel_rfl) rfl #[.map (some mb), .map (some qw7)] (by rfl) rfl rfl (by simp only [List.map_toArray, List.map_cons, List.map_nil]; rfl) ?_
      refine (within1 HS hs2).mono ?_
      rintro e_ w8 ⟨rfl, HS_⟩
      clear HS
      have HS := HS_
      clear HS_
      refine ⟨_, rfl, ?_⟩
      refine hK.out _ _ (WP_c4 (HS.mv 1)) (fun hHeld => ?_)
      clear hK K
      refine norm_ (a' := ?_) ?_ ?_
      rotate_left
      · show Act.put _ (some 36) _ = _
        simp only [Act.put, List.setIfInBounds_toArray, List.set_cons_zero, List.set_cons_succ, i64_w, i32_w]
        rfl
      refine pure_ (i := 15) (N := some 37) (v := ?_) (a' := ?_) #[true, true, true, true, true, true, true, true, true, true, true, true, true, true, true, true, false] rfl rfl (by kernel_rfl) (fun _ _ _ h => h) (Or.inl ⟨by rfl, ?_⟩) ?_ ?_
      rotate_left
      · intro w'
        go_simp
        with_reducible rfl
      rotate_left
      · simp only [Act.put, List.setIfInBounds_toArray, List.set_cons_zero, List.set_cons_succ, i64_w, i32_w]
        rfl
      refine pure_ (i := 16) (N := some 4) (v := ?_) (a' := ?_) #[true, true, true, true, true, true, true, true, true, true, true, true, true, true, true, true, true] rfl rfl (by kernel_rfl) (fun _ _ _ h => h) (Or.inl ⟨by rfl, ?_⟩) ?_ ?_
      rotate_left
      · intro w'
        go_simp
        with_reducible rfl
      rotate_left
      · simp only [Act.put, List.setIfInBounds_toArray, List.set_cons_zero, List.set_cons_succ, i64_w, i32_w]
        rfl
      refine done_ (by kernel_rfl) ?_
      clear hHeld
      go_wp2
      go_ret
      exact ⟨rfl, ((HS.out 0).out 0).out 0⟩
set_option maxHeartbeats 4000000 in
set_option maxRecDepth 20000 in
theorem rowsFill_fun (A1 : Option Addr) (c1 : Nat) (first : List OpR) (hc1 : first.length ≤ c1) (A2 : Option Addr) (c2 : Nat) (after : List OpR) (hc2 : after.length ≤ c2) :
    FunV Try.prog 4 #[.slice A1 first.length c1, .slice A2 after.length c2] (fun w => Kd.C kO w A1 first.length first ∧ Kd.C kO w A2 after.length after) [] (.bool true) [] := by
  intro w S hS hR
  have HS := St.start hS
  clear hS
  have hu1 := Try.underlying28
  have hu2 := Try.underlying25
  have hu3 := Try.underlying24
  have hu4 := Try.underlying26
  have hu5 := Try.underlying39
  have hu6 := Try.underlying36
  go_enter Try.func4, Try.ntmps4
  go_wp2_with fail
  refine (awake_fun.call (F := []) HS (fun _ _ _ _ => trivial)).mono ?_
  rintro e_ w1 ⟨rfl, HS_⟩
  clear HS
  have HS := HS_
  clear HS_
  by_cases g1 : first.length > 200
  · have hb1 : decide ((first.length : Int) > 200) = true := decide_eq_true (by omega)
    go_wp2_with fail
    refine (awake_fun.call (F := []) HS (fun _ _ _ _ => trivial)).mono ?_
    rintro e_ w2 ⟨rfl, HS_⟩
    clear HS
    have HS := HS_
    clear HS_
    go_wp2
    go_ret
    exact ⟨rfl, HS⟩
  · have hb1 : decide ((first.length : Int) > 200) = false := decide_eq_false (by omega)
    by_cases g2 : after.length > 200
    · have hb2 : decide ((after.length : Int) > 200) = true := decide_eq_true (by omega)
      go_wp2_with fail
      refine (awake_fun.call (F := []) HS (fun _ _ _ _ => trivial)).mono ?_
      rintro e_ w2 ⟨rfl, HS_⟩
      clear HS
      have HS := HS_
      clear HS_
      go_wp2
      go_ret
      exact ⟨rfl, HS⟩
    · have hb2 : decide ((after.length : Int) > 200) = false := decide_eq_false (by omega)
      go_wp2_with fail
      refine ((played_fun A1 c1 first hc1 A2 c2 after hc2 (by omega) (by omega) 1 2).call (F := []) HS (fun w' S' e _ => hR w' e)).mono ?_
      rintro e_ w3 ⟨v, rfl, H1⟩
      obtain ⟨g, H2⟩ := St.ex_ H1
      obtain ⟨mb, H3⟩ := St.ex_ H2
      obtain ⟨hv, HS3⟩ := St.and_ H3
      subst hv
      clear HS H1 H2 H3 hR
      have HS := HS3
      clear HS3
      have hsub := play_fill first after
      generalize playL 1 2 first after = s at HS hsub
      have hg := hsub.good
      have hs2 := in_wanted s hsub
      have c4 := WP_c4 HS
      go_wp2_with fail
      refine start_ (n := 8) (S := fun w' => w'.cell? ⟨g, 4, none⟩ = some (.map (some mb))) (ds := []) #[false, false, false, false, false, false, false, false] (by kernel_rfl) rfl rfl (c4) (fun hHeld => ?_)
      refine pure_ (i := 0) (N := some 24) (v := ?_) (a' := ?_) #[true, false, false, false, false, false, false, false] rfl rfl (by kernel_rfl) (fun _ _ _ h => h) (Or.inl ⟨by rfl, ?_⟩) ?_ ?_
      rotate_left
      · intro w'
        go_simp
        with_reducible rfl
      rotate_left
      · simp only [Act.put, List.setIfInBounds_toArray, List.set_cons_zero, List.set_cons_succ, i64_w, i32_w]
        rfl
      refine pure_ (i := 1) (N := some 25) (v := ?_) (a' := ?_) #[true, true, false, false, false, false, false, false] rfl rfl (by kernel_rfl) (fun _ _ _ h => h) (Or.inl ⟨by rfl, ?_⟩) ?_ ?_
      rotate_left
      · intro w'
        go_simp
        with_reducible rfl
      rotate_left
      · simp only [Act.put, List.setIfInBounds_toArray, List.set_cons_zero, List.set_cons_succ, i64_w, i32_w]
        rfl
      refine pure_ (i := 2) (N := some 26) (v := ?_) (a' := ?_) #[true, true, true, false, false, false, false, false] rfl rfl (by kernel_rfl) (fun _ _ _ h => h) (Or.inl ⟨by rfl, ?_⟩) ?_ ?_
      rotate_left
      · intro w'
        go_simp
        with_reducible rfl
      rotate_left
      · simp only [Act.put, List.setIfInBounds_toArray, List.set_cons_zero, List.set_cons_succ, i64_w, i32_w]
        rfl
      refine pure_ (i := 4) (N := some 28) (v := ?_) (a' := ?_) #[true, true, true, false, true, false, false, false] rfl rfl (by kernel_rfl) (fun _ _ _ h => h) (Or.inl ⟨by rfl, ?_⟩) ?_ ?_
      rotate_left
      · intro w'
        go_simp
        with_reducible rfl
      rotate_left
      · simp only [Act.put, List.setIfInBounds_toArray, List.set_cons_zero, List.set_cons_succ, i64_w, i32_w]
        rfl
      refine take_ (i := 3) (N := some 27) (v := ?_) (a' := ?_) #[true, true, true, true, true, false, false, false] rfl rfl (by kernel_rfl) (fun _ _ _ h => h) (Or.inl ⟨by rfl, ?_⟩) hHeld ?_ ?_
      rotate_left
      · intro w' s0
        go_simp
        with_reducible rfl
      rotate_left
      · simp only [Act.put, List.setIfInBounds_toArray, List.set_cons_zero, List.set_cons_succ, i64_w, i32_w]
        rfl
      refine one_ (i := 5) (N := some 29) #[true, true, true, true, true, true, false, false] rfl rfl (by kernel_rfl) (by decide) (fun K hK => ?_)
      refine goes_ Try.func11 (by kernel_rfl) rfl #[.pointer (some ⟨g, 0, none⟩)] (by rfl) rfl rfl (by simp only [List.map_toArray, List.map_cons, List.map_nil]; rfl) ?_
      refine ((wanted_fun g mb s hg).call (F := []) (HS.drew) (fun _ _ _ _ => trivial)).mono ?_
      rintro e_ w5 ⟨v, rfl, H1⟩
      obtain ⟨qw5, H2⟩ := St.ex_ H1
      obtain ⟨hv, H3⟩ := St.and_ H2
      subst hv
      clear HS
      have HS := St.star_ H3
      clear H1 H2 H3
      refine ⟨_, rfl, ?_⟩
      refine hK.out _ _ (WP_c4 (HS.mv 1)) (fun hHeld => ?_)
      clear hK K
      refine norm_ (a' := ?_) ?_ ?_
      rotate_left
      · show Act.put _ (some 29) _ = _
        simp only [Act.put, List.setIfInBounds_toArray, List.set_cons_zero, List.set_cons_succ, i64_w, i32_w]
        rfl
      refine one_ (i := 6) (N := some 30) #[true, true, true, true, true, true, true, false] rfl rfl (by kernel_rfl) (by decide) (fun K hK => ?_)
      refine goes_ Try.func10 (by kernel_rfl) rfl #[.map (some mb), .map (some qw5)] (by rfl) rfl rfl (by simp only [List.map_toArray, List.map_cons, List.map_nil]; rfl) ?_
      refine (within1 HS hs2).mono ?_
      rintro e_ w6 ⟨rfl, HS_⟩
      clear HS
      have HS := HS_
      clear HS_
      refine ⟨_, rfl, ?_⟩
      refine hK.out _ _ (WP_c4 (HS.mv 1)) (fun hHeld => ?_)
      clear hK K
      refine norm_ (a' := ?_) ?_ ?_
      rotate_left
      · show Act.put _ (some 30) _ = _
        simp only [Act.put, List.setIfInBounds_toArray, List.set_cons_zero, List.set_cons_succ, i64_w, i32_w]
        rfl
      refine pure_ (i := 7) (N := some 31) (v := ?_) (a' := ?_) #[true, true, true, true, true, true, true, true] rfl rfl (by kernel_rfl) (fun _ _ _ h => h) (Or.inl ⟨by rfl, ?_⟩) ?_ ?_
      rotate_left
      · intro w'
        go_simp
        with_reducible rfl
      rotate_left
      · simp only [Act.put, List.setIfInBounds_toArray, List.set_cons_zero, List.set_cons_succ, i64_w, i32_w]
        rfl
      refine done_ (by kernel_rfl) ?_
      clear hHeld hs2 c4
      have HS_ := HS.out 0
      clear HS
      have HS := HS_
      clear HS_
      obtain ⟨u0, u1, u2, u3, HW⟩ := WP_open HS
      clear HS
      obtain ⟨B0, d0, e0, hd0, hD0⟩ := St.row_C (HW.mv 1)
      subst e0
      clear hD0
      obtain ⟨B1, d1, e1, hd1, hD1⟩ := St.row_C (HW.mv 2)
      subst e1
      clear hD1
      obtain ⟨B2, d2, e2, hd2, hD2⟩ := St.row_C (HW.mv 3)
      subst e2
      clear hD2
      obtain ⟨B3, d3, e3, hd3, hD3⟩ := St.row_C (HW.mv 4)
      subst e3
      clear hD3
      have q0 : w6.cell? ⟨g, 0, none⟩ = some (.slice B0 s.r0.length d0) := HW.cell 0
      have q1 : w6.cell? ⟨g, 1, none⟩ = some (.slice B1 s.r1.length d1) := HW.cell 1
      have q2 : w6.cell? ⟨g, 2, none⟩ = some (.slice B2 s.r2.length d2) := HW.cell 2
      have q3 : w6.cell? ⟨g, 3, none⟩ = some (.slice B3 s.r3.length d3) := HW.cell 3
      have HQ := WQ_shut HW
      clear HW
      go_wp2_with fail
      clear q0 q1 q2 q3
      go_loopw [36] (fun v36 w' => ∃ (k : Nat) (U : Nat → Value), k ≤ 4 ∧ v36 = .int .i64 k ∧ Aside0 (Sub (fillN s k) ∧ ∀ j, j < 4 → (fillN s k).row j = s.row j) ∧ (k ≤ 0 → U 0 = (.slice B0 s.r0.length d0)) ∧ (k ≤ 1 → U 1 = (.slice B1 s.r1.length d1)) ∧ (k ≤ 2 → U 2 = (.slice B2 s.r2.length d2)) ∧ (k ≤ 3 → U 3 = (.slice B3 s.r3.length d3)) ∧ St w S w' [WQ g mb (U 0) (U 1) (U 2) (U 3) (fillN s k)]) (fun v36 _ => 4 - (intOf v36).toNat)
      case atStart => exact ⟨0, (fun | 0 => (.slice B0 s.r0.length d0) | 1 => (.slice B1 s.r1.length d1) | 2 => (.slice B2 s.r2.length d2) | _ => (.slice B3 s.r3.length d3)), by omega, rfl, ⟨hsub, fun _ _ => rfl⟩, fun _ => rfl, fun _ => rfl, fun _ => rfl, fun _ => rfl, HQ⟩
      case round =>
        clear HQ
        obtain ⟨k, U, hk, rfl, HSUB, t0, t1, t2, t3, HQ⟩ := hrel
        obtain ⟨U0, hU0⟩ : ∃ x, U 0 = x := ⟨_, rfl⟩
        obtain ⟨U1, hU1⟩ : ∃ x, U 1 = x := ⟨_, rfl⟩
        obtain ⟨U2, hU2⟩ : ∃ x, U 2 = x := ⟨_, rfl⟩
        obtain ⟨U3, hU3⟩ : ∃ x, U 3 = x := ⟨_, rfl⟩
        rw [hU0, hU1, hU2, hU3] at HQ
        rw [hU0] at t0
        rw [hU1] at t1
        rw [hU2] at t2
        rw [hU3] at t3
        clear hU0 hU1 hU2 hU3
        rcases (show k = 0 ∨ k = 1 ∨ k = 2 ∨ k = 3 ∨ k = 4 by omega) with rfl | rfl | rfl | rfl | rfl
        · obtain rfl := t0 (by omega)
          obtain rfl := t1 (by omega)
          obtain rfl := t2 (by omega)
          obtain rfl := t3 (by omega)
          clear t0 t1 t2 t3
          have hix : ∀ w : World, (Instr.index 25 (.agg #[.slice B0 s.r0.length d0, .slice B1 s.r1.length d1, .slice B2 s.r2.length d2, .slice B3 s.r3.length d3]) (.int .i64 0)).run Try.prog w = .ok (.slice B0 s.r0.length d0) w := fun _ => by kernel_rfl
          have hgk : RowG 0 s.r0 := hg 0 (by omega)
          have hgl := rowG_len hgk
          by_cases hl : 0 < s.r0.length
          · obtain ⟨v, v0, v1, hrow⟩ : ∃ v : Int, 0 ≤ v ∧ v < 3 ∧ s.r0 = cellsC 0 v := by rcases hgk with e | e; rw [e] at hl; simp at hl; exact e
            have hlb : ((s.r0.length : Int) == 0) = false := by rw [beq_eq_false_iff_ne]; omega
            have HRW : St w S wr [HP.row kC 73 (.slice B0 s.r0.length d0) s.r0, WQ g mb (.slice B0 s.r0.length d0) (.slice B1 s.r1.length d1) (.slice B2 s.r2.length d2) (.slice B3 s.r3.length d3) (fillN s 0)] → True := fun _ => trivial
            clear HRW
            have hfl : ∀ w : World, (Instr.field 36 (.agg #[.int .i64 1, .int .i64 v, .string ⟨#[]⟩]) 1).run Try.prog w = .ok (.int .i64 v) w := fun _ => by kernel_rfl
            have hofr : rows_Of.f (s.r0.length + 1) s.r0 3 = some (1, v, ⟨#[]⟩) := by rw [of_eq s.r0 3 (by omega), hrow]; rfl
            have hrr : (fillN s 0).r0 = s.r0 := HSUB.out.2 0 (by omega)
            have HC : Kd.C kC wr B0 s.r0.length s.r0 := by have h := (St.row_reads ((WQ_open HQ).mv 1)).2.2; rw [hrr] at h; exact h
            have hfn : fillN s 1 = doS 2 (fillN s 0) 0 (cellsC 0 v) := by show fill1 s (fillN s 0) 0 = _; unfold fill1; rw [show s.row 0 = cellsC 0 v from hrow, if_pos (by simp [cellsC])]
            have HFN := Aside0.mk hfn
            clear hfn hrr hrow
            go_wp2_with fail
            refine (rows_Of.calls (s.r0.length + 1) B0 d0 s.r0 3 _ _ _ wr HC hd0 hofr).mono ?_
            rintro e_ w7 ⟨rfl, hb⟩
            have HQ2 := HQ.later hb
            clear HQ hb HC hofr
            have hK : IntKind.u64.wrap 0 % 4 = 0 := by decide
            have hV : IntKind.u64.wrap v % 3 = v := by rw [IntKind.wrap_u64]; omega
            have HDO := do_0 g mb (.slice B0 s.r0.length d0) (.slice B1 s.r1.length d1) (.slice B2 s.r2.length d2) (.slice B3 s.r3.length d3) (fillN s 0) HSUB.out.1.good 0 v false false 2 hK
            rw [hV] at HDO
            go_wp2_with fail
            refine (HDO.call (F := []) HQ2 (fun _ _ _ _ => trivial)).mono ?_
            rintro e_ w8 ⟨q, rfl, H1⟩
            obtain ⟨un, H2⟩ := St.ex_ H1
            obtain ⟨hq, H3⟩ := St.and_ H2
            subst hq
            clear HQ2 H1 H2 HDO hV hK
            go_wp2
            go_roundw
            case rel => exact ⟨1, (fun | 0 => un | 1 => (.slice B1 s.r1.length d1) | 2 => (.slice B2 s.r2.length d2) | _ => (.slice B3 s.r3.length d3)), by omega, by go_num, ⟨fillN_ok s hsub 1 (by omega)⟩, fun h => absurd h (by omega), fun _ => rfl, fun _ => rfl, fun _ => rfl, by rw [HFN.out]; exact H3⟩
            case measure => simp [intOf]
          · have hlb : ((s.r0.length : Int) == 0) = true := by rw [beq_iff_eq]; omega
            have hfn : fillN s 1 = fillN s 0 := by show fill1 s (fillN s 0) 0 = _; unfold fill1; exact if_neg hl
            have HFN := Aside0.mk hfn
            clear hfn
            go_wp2
            go_roundw
            case rel => exact ⟨1, (fun | 0 => (.slice B0 s.r0.length d0) | 1 => (.slice B1 s.r1.length d1) | 2 => (.slice B2 s.r2.length d2) | _ => (.slice B3 s.r3.length d3)), by omega, by go_num, by rw [HFN.out]; exact HSUB, fun h => absurd h (by omega), fun _ => rfl, fun _ => rfl, fun _ => rfl, by rw [HFN.out]; exact HQ⟩
            case measure => simp [intOf]
        · obtain rfl := t1 (by omega)
          obtain rfl := t2 (by omega)
          obtain rfl := t3 (by omega)
          clear t0 t1 t2 t3
          have hix : ∀ w : World, (Instr.index 25 (.agg #[.slice B0 s.r0.length d0, .slice B1 s.r1.length d1, .slice B2 s.r2.length d2, .slice B3 s.r3.length d3]) (.int .i64 1)).run Try.prog w = .ok (.slice B1 s.r1.length d1) w := fun _ => by kernel_rfl
          have hgk : RowG 1 s.r1 := hg 1 (by omega)
          have hgl := rowG_len hgk
          by_cases hl : 0 < s.r1.length
          · obtain ⟨v, v0, v1, hrow⟩ : ∃ v : Int, 0 ≤ v ∧ v < 3 ∧ s.r1 = cellsC 1 v := by rcases hgk with e | e; rw [e] at hl; simp at hl; exact e
            have hlb : ((s.r1.length : Int) == 0) = false := by rw [beq_eq_false_iff_ne]; omega
            have HRW : St w S wr [HP.row kC 73 (.slice B1 s.r1.length d1) s.r1, WQ g mb U0 (.slice B1 s.r1.length d1) (.slice B2 s.r2.length d2) (.slice B3 s.r3.length d3) (fillN s 1)] → True := fun _ => trivial
            clear HRW
            have hfl : ∀ w : World, (Instr.field 36 (.agg #[.int .i64 1, .int .i64 v, .string ⟨#[]⟩]) 1).run Try.prog w = .ok (.int .i64 v) w := fun _ => by kernel_rfl
            have hofr : rows_Of.f (s.r1.length + 1) s.r1 3 = some (1, v, ⟨#[]⟩) := by rw [of_eq s.r1 3 (by omega), hrow]; rfl
            have hrr : (fillN s 1).r1 = s.r1 := HSUB.out.2 1 (by omega)
            have HC : Kd.C kC wr B1 s.r1.length s.r1 := by have h := (St.row_reads ((WQ_open HQ).mv 2)).2.2; rw [hrr] at h; exact h
            have hfn : fillN s 2 = doS 2 (fillN s 1) 1 (cellsC 1 v) := by show fill1 s (fillN s 1) 1 = _; unfold fill1; rw [show s.row 1 = cellsC 1 v from hrow, if_pos (by simp [cellsC])]
            have HFN := Aside0.mk hfn
            clear hfn hrr hrow
            go_wp2_with fail
            refine (rows_Of.calls (s.r1.length + 1) B1 d1 s.r1 3 _ _ _ wr HC hd1 hofr).mono ?_
            rintro e_ w7 ⟨rfl, hb⟩
            have HQ2 := HQ.later hb
            clear HQ hb HC hofr
            have hK : IntKind.u64.wrap 1 % 4 = 1 := by decide
            have hV : IntKind.u64.wrap v % 3 = v := by rw [IntKind.wrap_u64]; omega
            have HDO := do_1 g mb U0 (.slice B1 s.r1.length d1) (.slice B2 s.r2.length d2) (.slice B3 s.r3.length d3) (fillN s 1) HSUB.out.1.good 1 v false false 2 hK
            rw [hV] at HDO
            go_wp2_with fail
            refine (HDO.call (F := []) HQ2 (fun _ _ _ _ => trivial)).mono ?_
            rintro e_ w8 ⟨q, rfl, H1⟩
            obtain ⟨un, H2⟩ := St.ex_ H1
            obtain ⟨hq, H3⟩ := St.and_ H2
            subst hq
            clear HQ2 H1 H2 HDO hV hK
            go_wp2
            go_roundw
            case rel => exact ⟨2, (fun | 0 => U0 | 1 => un | 2 => (.slice B2 s.r2.length d2) | _ => (.slice B3 s.r3.length d3)), by omega, by go_num, ⟨fillN_ok s hsub 2 (by omega)⟩, fun h => absurd h (by omega), fun h => absurd h (by omega), fun _ => rfl, fun _ => rfl, by rw [HFN.out]; exact H3⟩
            case measure => simp [intOf]
          · have hlb : ((s.r1.length : Int) == 0) = true := by rw [beq_iff_eq]; omega
            have hfn : fillN s 2 = fillN s 1 := by show fill1 s (fillN s 1) 1 = _; unfold fill1; exact if_neg hl
            have HFN := Aside0.mk hfn
            clear hfn
            go_wp2
            go_roundw
            case rel => exact ⟨2, (fun | 0 => U0 | 1 => (.slice B1 s.r1.length d1) | 2 => (.slice B2 s.r2.length d2) | _ => (.slice B3 s.r3.length d3)), by omega, by go_num, by rw [HFN.out]; exact HSUB, fun h => absurd h (by omega), fun h => absurd h (by omega), fun _ => rfl, fun _ => rfl, by rw [HFN.out]; exact HQ⟩
            case measure => simp [intOf]
        · obtain rfl := t2 (by omega)
          obtain rfl := t3 (by omega)
          clear t0 t1 t2 t3
          have hix : ∀ w : World, (Instr.index 25 (.agg #[.slice B0 s.r0.length d0, .slice B1 s.r1.length d1, .slice B2 s.r2.length d2, .slice B3 s.r3.length d3]) (.int .i64 2)).run Try.prog w = .ok (.slice B2 s.r2.length d2) w := fun _ => by kernel_rfl
          have hgk : RowG 2 s.r2 := hg 2 (by omega)
          have hgl := rowG_len hgk
          by_cases hl : 0 < s.r2.length
          · obtain ⟨v, v0, v1, hrow⟩ : ∃ v : Int, 0 ≤ v ∧ v < 3 ∧ s.r2 = cellsC 2 v := by rcases hgk with e | e; rw [e] at hl; simp at hl; exact e
            have hlb : ((s.r2.length : Int) == 0) = false := by rw [beq_eq_false_iff_ne]; omega
            have HRW : St w S wr [HP.row kC 73 (.slice B2 s.r2.length d2) s.r2, WQ g mb U0 U1 (.slice B2 s.r2.length d2) (.slice B3 s.r3.length d3) (fillN s 2)] → True := fun _ => trivial
            clear HRW
            have hfl : ∀ w : World, (Instr.field 36 (.agg #[.int .i64 1, .int .i64 v, .string ⟨#[]⟩]) 1).run Try.prog w = .ok (.int .i64 v) w := fun _ => by kernel_rfl
            have hofr : rows_Of.f (s.r2.length + 1) s.r2 3 = some (1, v, ⟨#[]⟩) := by rw [of_eq s.r2 3 (by omega), hrow]; rfl
            have hrr : (fillN s 2).r2 = s.r2 := HSUB.out.2 2 (by omega)
            have HC : Kd.C kC wr B2 s.r2.length s.r2 := by have h := (St.row_reads ((WQ_open HQ).mv 3)).2.2; rw [hrr] at h; exact h
            have hfn : fillN s 3 = doS 2 (fillN s 2) 2 (cellsC 2 v) := by show fill1 s (fillN s 2) 2 = _; unfold fill1; rw [show s.row 2 = cellsC 2 v from hrow, if_pos (by simp [cellsC])]
            have HFN := Aside0.mk hfn
            clear hfn hrr hrow
            go_wp2_with fail
            refine (rows_Of.calls (s.r2.length + 1) B2 d2 s.r2 3 _ _ _ wr HC hd2 hofr).mono ?_
            rintro e_ w7 ⟨rfl, hb⟩
            have HQ2 := HQ.later hb
            clear HQ hb HC hofr
            have hK : IntKind.u64.wrap 2 % 4 = 2 := by decide
            have hV : IntKind.u64.wrap v % 3 = v := by rw [IntKind.wrap_u64]; omega
            have HDO := do_2 g mb U0 U1 (.slice B2 s.r2.length d2) (.slice B3 s.r3.length d3) (fillN s 2) HSUB.out.1.good 2 v false false 2 hK
            rw [hV] at HDO
            go_wp2_with fail
            refine (HDO.call (F := []) HQ2 (fun _ _ _ _ => trivial)).mono ?_
            rintro e_ w8 ⟨q, rfl, H1⟩
            obtain ⟨un, H2⟩ := St.ex_ H1
            obtain ⟨hq, H3⟩ := St.and_ H2
            subst hq
            clear HQ2 H1 H2 HDO hV hK
            go_wp2
            go_roundw
            case rel => exact ⟨3, (fun | 0 => U0 | 1 => U1 | 2 => un | _ => (.slice B3 s.r3.length d3)), by omega, by go_num, ⟨fillN_ok s hsub 3 (by omega)⟩, fun h => absurd h (by omega), fun h => absurd h (by omega), fun h => absurd h (by omega), fun _ => rfl, by rw [HFN.out]; exact H3⟩
            case measure => simp [intOf]
          · have hlb : ((s.r2.length : Int) == 0) = true := by rw [beq_iff_eq]; omega
            have hfn : fillN s 3 = fillN s 2 := by show fill1 s (fillN s 2) 2 = _; unfold fill1; exact if_neg hl
            have HFN := Aside0.mk hfn
            clear hfn
            go_wp2
            go_roundw
            case rel => exact ⟨3, (fun | 0 => U0 | 1 => U1 | 2 => (.slice B2 s.r2.length d2) | _ => (.slice B3 s.r3.length d3)), by omega, by go_num, by rw [HFN.out]; exact HSUB, fun h => absurd h (by omega), fun h => absurd h (by omega), fun h => absurd h (by omega), fun _ => rfl, by rw [HFN.out]; exact HQ⟩
            case measure => simp [intOf]
        · obtain rfl := t3 (by omega)
          clear t0 t1 t2 t3
          have hix : ∀ w : World, (Instr.index 25 (.agg #[.slice B0 s.r0.length d0, .slice B1 s.r1.length d1, .slice B2 s.r2.length d2, .slice B3 s.r3.length d3]) (.int .i64 3)).run Try.prog w = .ok (.slice B3 s.r3.length d3) w := fun _ => by kernel_rfl
          have hgk : RowG 3 s.r3 := hg 3 (by omega)
          have hgl := rowG_len hgk
          by_cases hl : 0 < s.r3.length
          · obtain ⟨v, v0, v1, hrow⟩ : ∃ v : Int, 0 ≤ v ∧ v < 3 ∧ s.r3 = cellsC 3 v := by rcases hgk with e | e; rw [e] at hl; simp at hl; exact e
            have hlb : ((s.r3.length : Int) == 0) = false := by rw [beq_eq_false_iff_ne]; omega
            have HRW : St w S wr [HP.row kC 73 (.slice B3 s.r3.length d3) s.r3, WQ g mb U0 U1 U2 (.slice B3 s.r3.length d3) (fillN s 3)] → True := fun _ => trivial
            clear HRW
            have hfl : ∀ w : World, (Instr.field 36 (.agg #[.int .i64 1, .int .i64 v, .string ⟨#[]⟩]) 1).run Try.prog w = .ok (.int .i64 v) w := fun _ => by kernel_rfl
            have hofr : rows_Of.f (s.r3.length + 1) s.r3 3 = some (1, v, ⟨#[]⟩) := by rw [of_eq s.r3 3 (by omega), hrow]; rfl
            have hrr : (fillN s 3).r3 = s.r3 := HSUB.out.2 3 (by omega)
            have HC : Kd.C kC wr B3 s.r3.length s.r3 := by have h := (St.row_reads ((WQ_open HQ).mv 4)).2.2; rw [hrr] at h; exact h
            have hfn : fillN s 4 = doS 2 (fillN s 3) 3 (cellsC 3 v) := by show fill1 s (fillN s 3) 3 = _; unfold fill1; rw [show s.row 3 = cellsC 3 v from hrow, if_pos (by simp [cellsC])]
            have HFN := Aside0.mk hfn
            clear hfn hrr hrow
            go_wp2_with fail
            refine (rows_Of.calls (s.r3.length + 1) B3 d3 s.r3 3 _ _ _ wr HC hd3 hofr).mono ?_
            rintro e_ w7 ⟨rfl, hb⟩
            have HQ2 := HQ.later hb
            clear HQ hb HC hofr
            have hK : IntKind.u64.wrap 3 % 4 = 3 := by decide
            have hV : IntKind.u64.wrap v % 3 = v := by rw [IntKind.wrap_u64]; omega
            have HDO := do_3 g mb U0 U1 U2 (.slice B3 s.r3.length d3) (fillN s 3) HSUB.out.1.good 3 v false false 2 hK
            rw [hV] at HDO
            go_wp2_with fail
            refine (HDO.call (F := []) HQ2 (fun _ _ _ _ => trivial)).mono ?_
            rintro e_ w8 ⟨q, rfl, H1⟩
            obtain ⟨un, H2⟩ := St.ex_ H1
            obtain ⟨hq, H3⟩ := St.and_ H2
            subst hq
            clear HQ2 H1 H2 HDO hV hK
            go_wp2
            go_roundw
            case rel => exact ⟨4, (fun | 0 => U0 | 1 => U1 | 2 => U2 | _ => un), by omega, by go_num, ⟨fillN_ok s hsub 4 (by omega)⟩, fun h => absurd h (by omega), fun h => absurd h (by omega), fun h => absurd h (by omega), fun h => absurd h (by omega), by rw [HFN.out]; exact H3⟩
            case measure => simp [intOf]
          · have hlb : ((s.r3.length : Int) == 0) = true := by rw [beq_iff_eq]; omega
            have hfn : fillN s 4 = fillN s 3 := by show fill1 s (fillN s 3) 3 = _; unfold fill1; exact if_neg hl
            have HFN := Aside0.mk hfn
            clear hfn
            go_wp2
            go_roundw
            case rel => exact ⟨4, (fun | 0 => U0 | 1 => U1 | 2 => U2 | _ => (.slice B3 s.r3.length d3)), by omega, by go_num, by rw [HFN.out]; exact HSUB, fun h => absurd h (by omega), fun h => absurd h (by omega), fun h => absurd h (by omega), fun h => absurd h (by omega), by rw [HFN.out]; exact HQ⟩
            case measure => simp [intOf]
        · clear t0 t1 t2 t3
          obtain ⟨hsub4, hall4⟩ := fill_ok s hsub
          have hs1 : inside (wantedL (fillL s)) (fillL s).m = true := wanted_in _ hsub4 hall4
          have hs2 : inside (fillL s).m (wantedL (fillL s)) = true := in_wanted _ hsub4
          have hg4 := hsub4.good
          have HS : St w S wr [WP g mb (fillL s)] := St.ex_in _ (St.ex_in _ (St.ex_in _ (St.ex_in _ HQ)))
          clear HQ hg hsub HSUB hall4 hsub4
          generalize fillL s = s4 at HS hs1 hs2 hg4
          have c4 := WP_c4 HS
          go_wp2_with fail
          refine start_ (n := 17) (S := fun w' => w'.cell? ⟨g, 4, none⟩ = some (.map (some mb))) (ds := []) #[false, false, false, false, false, false, false, false, false, false, false, false, false, false, false, false, false] (by kernel_rfl) rfl rfl (c4) (fun hHeld => ?_)
          refine pure_ (i := 0) (N := some 51) (v := ?_) (a' := ?_) #[true, false, false, false, false, false, false, false, false, false, false, false, false, false, false, false, false] rfl rfl (by kernel_rfl) (fun _ _ _ h => h) (Or.inl ⟨by rfl, ?_⟩) ?_ ?_
          rotate_left
          · intro w'
            go_simp
            with_reducible rfl
          rotate_left
          · simp only [Act.put, List.setIfInBounds_toArray, List.set_cons_zero, List.set_cons_succ, i64_w, i32_w]
            rfl
          refine pure_ (i := 2) (N := some 53) (v := ?_) (a' := ?_) #[true, false, true, false, false, false, false, false, false, false, false, false, false, false, false, false, false] rfl rfl (by kernel_rfl) (fun _ _ _ h => h) (Or.inl ⟨by rfl, ?_⟩) ?_ ?_
          rotate_left
          · intro w'
            go_simp
            with_reducible rfl
          rotate_left
          · simp only [Act.put, List.setIfInBounds_toArray, List.set_cons_zero, List.set_cons_succ, i64_w, i32_w]
            rfl
          refine pure_ (i := 3) (N := some 54) (v := ?_) (a' := ?_) #[true, false, true, true, false, false, false, false, false, false, false, false, false, false, false, false, false] rfl rfl (by kernel_rfl) (fun _ _ _ h => h) (Or.inl ⟨by rfl, ?_⟩) ?_ ?_
          rotate_left
          · intro w'
            go_simp
            with_reducible rfl
          rotate_left
          · simp only [Act.put, List.setIfInBounds_toArray, List.set_cons_zero, List.set_cons_succ, i64_w, i32_w]
            rfl
          refine pure_ (i := 4) (N := some 55) (v := ?_) (a' := ?_) #[true, false, true, true, true, false, false, false, false, false, false, false, false, false, false, false, false] rfl rfl (by kernel_rfl) (fun _ _ _ h => h) (Or.inl ⟨by rfl, ?_⟩) ?_ ?_
          rotate_left
          · intro w'
            go_simp
            with_reducible rfl
          rotate_left
          · simp only [Act.put, List.setIfInBounds_toArray, List.set_cons_zero, List.set_cons_succ, i64_w, i32_w]
            rfl
          refine take_ (i := 5) (N := some 56) (v := ?_) (a' := ?_) #[true, false, true, true, true, true, false, false, false, false, false, false, false, false, false, false, false] rfl rfl (by kernel_rfl) (fun _ _ _ h => h) (Or.inl ⟨by rfl, ?_⟩) hHeld ?_ ?_
          rotate_left
          · intro w' s0
            go_simp
            with_reducible rfl
          rotate_left
          · simp only [Act.put, List.setIfInBounds_toArray, List.set_cons_zero, List.set_cons_succ, i64_w, i32_w]
            rfl
          refine one_ (i := 1) (N := some 52) #[true, true, true, true, true, true, false, false, false, false, false, false, false, false, false, false, false] rfl rfl (by kernel_rfl) (by decide) (fun K hK => ?_)
          refine goes_ Try.func11 (by kernel_rfl) rfl #[.pointer (some ⟨g, 0, none⟩)] (by rfl) rfl rfl (by simp only [List.map_toArray, List.map_cons, List.map_nil]; rfl) ?_
          refine ((wanted_fun g mb s4 hg4).call (F := []) (HS.drew) (fun _ _ _ _ => trivial)).mono ?_
          rintro e_ w9 ⟨v, rfl, H1⟩
          obtain ⟨qw9, H2⟩ := St.ex_ H1
          obtain ⟨hv, H3⟩ := St.and_ H2
          subst hv
          clear HS
          have HS := St.star_ H3
          clear H1 H2 H3
          refine ⟨_, rfl, ?_⟩
          refine hK.out _ _ (WP_c4 (HS.mv 1)) (fun hHeld => ?_)
          clear hK K
          refine norm_ (a' := ?_) ?_ ?_
          rotate_left
          · show Act.put _ (some 52) _ = _
            simp only [Act.put, List.setIfInBounds_toArray, List.set_cons_zero, List.set_cons_succ, i64_w, i32_w]
            rfl
          refine one_ (i := 6) (N := some 57) #[true, true, true, true, true, true, true, false, false, false, false, false, false, false, false, false, false] rfl rfl (by kernel_rfl) (by decide) (fun K hK => ?_)
          refine goes_ Try.func10 (by kernel_rfl) rfl #[.map (some qw9), .map (some mb)] (by rfl) rfl rfl (by simp only [List.map_toArray, List.map_cons, List.map_nil]; rfl) ?_
          refine (within2 HS hs1).mono ?_
          rintro e_ w10 ⟨rfl, HS_⟩
          clear HS
          have HS := HS_
          clear HS_
          refine ⟨_, rfl, ?_⟩
          refine hK.out _ _ (WP_c4 (HS.mv 1)) (fun hHeld => ?_)
          clear hK K
          refine norm_ (a' := ?_) ?_ ?_
          rotate_left
          · show Act.put _ (some 57) _ = _
            simp only [Act.put, List.setIfInBounds_toArray, List.set_cons_zero, List.set_cons_succ, i64_w, i32_w]
            rfl
          refine pure_ (i := 7) (N := some 58) (v := ?_) (a' := ?_) #[true, true, true, true, true, true, true, true, false, false, false, false, false, false, false, false, false] rfl rfl (by kernel_rfl) (fun _ _ _ h => h) (Or.inl ⟨by rfl, ?_⟩) ?_ ?_
          rotate_left
          · intro w'
            go_simp
            with_reducible rfl
          rotate_left
          · simp only [Act.put, List.setIfInBounds_toArray, List.set_cons_zero, List.set_cons_succ, i64_w, i32_w]
            rfl
          refine pure_ (i := 8) (N := some 59) (v := ?_) (a' := ?_) #[true, true, true, true, true, true, true, true, true, false, false, false, false, false, false, false, false] rfl rfl (by kernel_rfl) (fun _ _ _ h => h) (Or.inl ⟨by rfl, ?_⟩) ?_ ?_
          rotate_left
          · intro w'
            go_simp
            with_reducible rfl
          rotate_left
          · simp only [Act.put, List.setIfInBounds_toArray, List.set_cons_zero, List.set_cons_succ, i64_w, i32_w]
            rfl
          refine pure_ (i := 9) (N := some 60) (v := ?_) (a' := ?_) #[true, true, true, true, true, true, true, true, true, true, false, false, false, false, false, false, false] rfl rfl (by kernel_rfl) (fun _ _ _ h => h) (Or.inl ⟨by rfl, ?_⟩) ?_ ?_
          rotate_left
          · intro w'
            go_simp
            with_reducible rfl
          rotate_left
          · simp only [Act.put, List.setIfInBounds_toArray, List.set_cons_zero, List.set_cons_succ, i64_w, i32_w]
            rfl
          refine pure_ (i := 10) (N := some 61) (v := ?_) (a' := ?_) #[true, true, true, true, true, true, true, true, true, true, true, false, false, false, false, false, false] rfl rfl (by kernel_rfl) (fun _ _ _ h => h) (Or.inl ⟨by rfl, ?_⟩) ?_ ?_
          rotate_left
          · intro w'
            go_simp
            with_reducible rfl
          rotate_left
          · simp only [Act.put, List.setIfInBounds_toArray, List.set_cons_zero, List.set_cons_succ, i64_w, i32_w]
            rfl
          refine pure_ (i := 12) (N := some 63) (v := ?_) (a' := ?_) #[true, true, true, true, true, true, true, true, true, true, true, false, true, false, false, false, false] rfl rfl (by kernel_rfl) (fun _ _ _ h => h) (Or.inl ⟨by rfl, ?_⟩) ?_ ?_
          rotate_left
          · intro w'
            go_simp
            with_reducible rfl
          rotate_left
          · simp only [Act.put, List.setIfInBounds_toArray, List.set_cons_zero, List.set_cons_succ, i64_w, i32_w]
            rfl
          refine take_ (i := 11) (N := some 62) (v := ?_) (a' := ?_) #[true, true, true, true, true, true, true, true, true, true, true, true, true, false, false, false, false] rfl rfl (by kernel_rfl) (fun _ _ _ h => h) (Or.inl ⟨by rfl, ?_⟩) hHeld ?_ ?_
          rotate_left
          · intro w' s0
            go_simp
            with_reducible rfl
          rotate_left
          · simp only [Act.put, List.setIfInBounds_toArray, List.set_cons_zero, List.set_cons_succ, i64_w, i32_w]
            rfl
          refine one_ (i := 13) (N := some 64) #[true, true, true, true, true, true, true, true, true, true, true, true, true, true, false, false, false] rfl rfl (by kernel_rfl) (by decide) (fun K hK => ?_)
          refine goes_ Try.func11 (by kernel_rfl) rfl #[.pointer (some ⟨g, 0, none⟩)] (by rfl) rfl rfl (by simp only [List.map_toArray, List.map_cons, List.map_nil]; rfl) ?_
          refine ((wanted_fun g mb s4 hg4).call (F := [MP qw9 (wantedL s4)]) ((HS.mv 1)) (fun _ _ _ _ => trivial)).mono ?_
          rintro e_ w11 ⟨v, rfl, H1⟩
          obtain ⟨qw11, H2⟩ := St.ex_ H1
          obtain ⟨hv, H3⟩ := St.and_ H2
          subst hv
          clear HS
          have HS := St.star_ H3
          clear H1 H2 H3
          refine ⟨_, rfl, ?_⟩
          refine hK.out _ _ (WP_c4 (HS.mv 1)) (fun hHeld => ?_)
          clear hK K
          refine norm_ (a' := ?_) ?_ ?_
          rotate_left
          · show Act.put _ (some 64) _ = _
            simp only [Act.put, List.setIfInBounds_toArray, List.set_cons_zero, List.set_cons_succ, i64_w, i32_w]
            rfl
          refine one_ (i := 14) (N := some 65) #[true, true, true, true, true, true, true, true, true, true, true, true, true, true, true, false, false] rfl rfl (by kernel_rfl) (by decide) (fun K hK => ?_)
          refine goes_ Try.func10 (by kernel_rfl) rfl #[.map (some mb), .map (some qw11)] (by rfl) rfl rfl (by simp only [List.map_toArray, List.map_cons, List.map_nil]; rfl) ?_
          refine (within1 HS hs2).mono ?_
          rintro e_ w12 ⟨rfl, HS_⟩
          clear HS
          have HS := HS_
          clear HS_
          refine ⟨_, rfl, ?_⟩
          refine hK.out _ _ (WP_c4 (HS.mv 1)) (fun hHeld => ?_)
          clear hK K
          refine norm_ (a' := ?_) ?_ ?_
          rotate_left
          · show Act.put _ (some 65) _ = _
            simp only [Act.put, List.setIfInBounds_toArray, List.set_cons_zero, List.set_cons_succ, i64_w, i32_w]
            rfl
          refine pure_ (i := 15) (N := some 66) (v := ?_) (a' := ?_) #[true, true, true, true, true, true, true, true, true, true, true, true, true, true, true, true, false] rfl rfl (by kernel_rfl) (fun _ _ _ h => h) (Or.inl ⟨by rfl, ?_⟩) ?_ ?_
          rotate_left
          · intro w'
            go_simp
            with_reducible rfl
          rotate_left
          · simp only [Act.put, List.setIfInBounds_toArray, List.set_cons_zero, List.set_cons_succ, i64_w, i32_w]
            rfl
          refine pure_ (i := 16) (N := some 4) (v := ?_) (a' := ?_) #[true, true, true, true, true, true, true, true, true, true, true, true, true, true, true, true, true] rfl rfl (by kernel_rfl) (fun _ _ _ h => h) (Or.inl ⟨by rfl, ?_⟩) ?_ ?_
          rotate_left
          · intro w'
            go_simp
            with_reducible rfl
          rotate_left
          · simp only [Act.put, List.setIfInBounds_toArray, List.set_cons_zero, List.set_cons_succ, i64_w, i32_w]
            rfl
          refine done_ (by kernel_rfl) ?_
          clear hHeld
          go_wp2
          go_ret
          exact ⟨rfl, ((HS.out 0).out 0).out 0⟩
set_option maxHeartbeats 4000000 in
set_option maxRecDepth 20000 in
theorem rowsApart_fun (k v : Int) : FunV Try.prog 6 #[.int .i64 k, .int .i64 v] (fun _ => True) [] (.bool true) [] := by
  intro w S hS hR
  have HS := (St.start hS).map_made .string Value.string Value.bool strKey strInj
  clear hS hR
  have hmm := @run_makeMap Try.prog
  have hu1 := Try.underlying28
  have hu2 := Try.underlying25
  have hu3 := Try.underlying24
  have hu4 := Try.underlying26
  have hu5 := Try.underlying39
  have hu6 := Try.underlying36
  go_enter Try.func6, Try.ntmps6
  go_wp2_with (first
    | ((with_reducible refine gate_dst (N := 8) rfl ?_); refine ev_box ?hg (N := 8) ?hd (cs := [.slice none 0 0, .slice none 0 0, .slice none 0 0, .slice none 0 0, .map (some w.heap.size)]) (t := 28) HS ?hr ?_; (case hd => rfl); (case hg => rfl); (case hr => first | (go_simp; done) | (go_simp; rfl)); intro g w1 HS_ hg_g; clear HS; have HS := HS_; clear HS_))
  clear hmm
  generalize w.heap.size = mb at HS ⊢
  have HS0 : St w S w1 [WP g mb sta0] := WP_shut ((((((((HS.mv 1).nil_ kC 73).nil_ kC 73).nil_ kC 73).nil_ kC 73).mv 5)))
  clear HS
  obtain ⟨v', hv0, hv1, h1⟩ : ∃ v' : Int, 0 ≤ v' ∧ v' < 3 ∧ doO 2 sta0 ⟨k, v, false, false⟩ = doS 2 sta0 (opK ⟨k, v, false, false⟩) (cellsC (opK ⟨k, v, false, false⟩) v') := ⟨IntKind.u64.wrap v % 3, by rw [IntKind.wrap_u64]; omega, by rw [IntKind.wrap_u64]; omega, rfl⟩
  have h2 : ∀ s, doO 0 s ⟨k, 0, true, false⟩ = doS 0 s (opK ⟨k, v, false, false⟩) [] := fun s => rfl
  have hsg := sg_do 2 sta0 sg0 _ (opK_lt ⟨k, v, false, false⟩) _ (opX_good ⟨k, v, false, false⟩)
  have hsg1 : SG (doO 2 sta0 ⟨k, v, false, false⟩) := hsg
  have hsg2 : SG (doO 0 (doO 2 sta0 ⟨k, v, false, false⟩) ⟨k, 0, true, false⟩) := sg_do 0 _ hsg1 _ (opK_lt ⟨k, 0, true, false⟩) _ (opX_good ⟨k, 0, true, false⟩)
  obtain ⟨hlen1, hwant⟩ := apart_ok (opK ⟨k, v, false, false⟩) (opK_lt _) v' hv0 hv1
  rw [← h2, ← h1] at hlen1 hwant
  clear hsg h1 h2 hv0 hv1
  have HLN := Aside0.mk hlen1
  have HWN := Aside0.mk hwant
  clear hlen1 hwant
  refine ((do_fun g mb sta0 sg0 ⟨k, v, false, false⟩ 2).call (F := []) HS0 (fun _ _ _ _ => trivial)).mono ?_
  rintro e_ w2 ⟨rfl, HS1⟩
  clear HS0
  go_wp2_with fail
  refine ((do_fun g mb _ hsg1 ⟨k, 0, true, false⟩ 0).call (F := []) HS1 (fun _ _ _ _ => trivial)).mono ?_
  rintro e_ w3 ⟨rfl, HS2⟩
  clear HS1 hsg1
  generalize doO 0 (doO 2 sta0 ⟨k, v, false, false⟩) ⟨k, 0, true, false⟩ = s at HS2 hsg2 HLN HWN
  go_wp2_with fail
  refine (awake_fun.call (F := [WP g mb s]) HS2 (fun _ _ _ _ => trivial)).mono ?_
  rintro e_ w4 ⟨rfl, HS3⟩
  clear HS2
  have c4 := WP_c4 HS3
  have hlen := WP_len HS3
  rw [HLN.out] at hlen
  go_wp2_with fail
  clear c4 hlen
  refine ((wanted_fun g mb s hsg2).call (F := []) HS3 (fun _ _ _ _ => trivial)).mono ?_
  rintro e_ w5 ⟨q, rfl, H1⟩
  obtain ⟨mq, H2⟩ := St.ex_ H1
  obtain ⟨hq, H3⟩ := St.and_ H2
  subst hq
  have HS4 := St.star_ H3
  clear H1 H2 H3 HS3
  have hlen2 := fun ty => St.map_len (P := Try.prog) (t := 26) HS4 Try.underlying26 ty
  rw [HWN.out] at hlen2
  go_wp2
  go_ret
  exact ⟨rfl, (HS4.out 0).out 0⟩
end Go.Proofs.Ytkhbmamcbhjafaa.Keys
