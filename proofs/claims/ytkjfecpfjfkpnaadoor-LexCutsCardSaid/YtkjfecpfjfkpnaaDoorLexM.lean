/- Layer 17: LexCuts, walked. -/
import Derived.Test.YtkjfecpfjfkpnaaDoorLexL
namespace Go.Proofs.YtkjfecpfjfkpnaaDoor.Lex
open Go.RowKit Go.Proofs.YtkjfecpfjfkpnaaDoorW.PrintWords Go.Proofs.YtkjfecpfjfkpnaaDoorW.PrintLast Go.Proofs.YtkjfecpfjfkpnaaDoorW.PrintMore Go.Proofs.YtkjfecpfjfkpnaaDoor.Sl Go.Proofs.YtkjfecpfjfkpnaaDoor.Str
set_option linter.unusedVariables false
set_option linter.unusedSimpArgs false
set_option maxHeartbeats 16000000 in
set_option maxRecDepth 40000 in
theorem cuts_err (s : ByteArray) (n : Int) (p : Nat) (e : Int) (hw : wordsP s.toList = ([], p, e)) (he : e ≠ 0) : FunV Tryd.prog 5 #[.string s, .int .i64 n] Vars [] (.bool true) [] := by
  intro w S hS hR
  have HS := St.start hS
  have HR := Aside0.mk hR
  clear hS hR
  have huS := Tryd.underlying22
  have huW := Tryd.underlying28
  have H1 := Aside0.mk (words_call s [] p e hw)
  have heb : (e == 0) = false := by rw [beq_eq_false_iff_ne]; exact he
  have he2 : ¬ e = 0 := he
  clear hw he
  go_enter Tryd.func5, Tryd.ntmps5
  go_wp2_with fail
  refine (H1.out.call (F := []) HS (fun w' _ e _ => HR.out w' e)).mono ?_
  rintro e_ w1 ⟨v_, rfl, HS_⟩
  clear HS
  obtain ⟨u, HS_⟩ := St.ex_ HS_
  obtain ⟨rfl, HS⟩ := St.and_ HS_
  clear HS_
  have HS : St w S w1 [HP.row kWd 28 u []] := HS
  go_wp2_with fail
  refine (awake_fun.call (F := [HP.row kWd 28 u []]) HS (fun w' _ e _ => HR.out w' e)).mono ?_
  rintro e_ w2 ⟨rfl, HS_⟩
  clear HS 
  have HS : St w S w2 [HP.row kWd 28 u []] := HS_
  clear HS_
  go_wp2_with fail
  refine (awake_fun.call (F := [HP.row kWd 28 u []]) HS (fun w' _ e _ => HR.out w' e)).mono ?_
  rintro e_ w3 ⟨rfl, HS_⟩
  clear HS 
  have HS : St w S w3 [HP.row kWd 28 u []] := HS_
  clear HS_
  go_wp2_with fail
  go_ret
  exact ⟨rfl, HS.out 0⟩
set_option maxHeartbeats 16000000 in
set_option maxRecDepth 40000 in
theorem cuts_neg (s : ByteArray) (n : Int) (ws : List Wd) (hw : wordsP s.toList = (ws, 0, 0)) (hn : n < 0) : FunV Tryd.prog 5 #[.string s, .int .i64 n] Vars [] (.bool true) [] := by
  intro w S hS hR
  have HS := St.start hS
  have HR := Aside0.mk hR
  clear hS hR
  have huS := Tryd.underlying22
  have huW := Tryd.underlying28
  have H1 := Aside0.mk (words_call s ws 0 0 hw)
  clear hw
  go_enter Tryd.func5, Tryd.ntmps5
  go_wp2_with fail
  refine (H1.out.call (F := []) HS (fun w' _ e _ => HR.out w' e)).mono ?_
  rintro e_ w1 ⟨v_, rfl, HS_⟩
  clear HS
  obtain ⟨u, HS_⟩ := St.ex_ HS_
  obtain ⟨rfl, HS⟩ := St.and_ HS_
  clear HS_
  have HS : St w S w1 [HP.row kWd 28 u ws] := HS
  obtain ⟨A1, c1, rfl, hc1, -⟩ := St.row_C HS
  go_wp2_with fail
  refine (awake_fun.call (F := [HP.row kWd 28 (.slice A1 ws.length c1) ws]) HS (fun w' _ e _ => HR.out w' e)).mono ?_
  rintro e_ w2 ⟨rfl, HS_⟩
  clear HS 
  have HS : St w S w2 [HP.row kWd 28 (.slice A1 ws.length c1) ws] := HS_
  clear HS_
  go_wp2_with fail
  refine (awake_fun.call (F := [HP.row kWd 28 (.slice A1 ws.length c1) ws]) HS (fun w' _ e _ => HR.out w' e)).mono ?_
  rintro e_ w3 ⟨rfl, HS_⟩
  clear HS 
  have HS : St w S w3 [HP.row kWd 28 (.slice A1 ws.length c1) ws] := HS_
  clear HS_
  go_wp2_with fail
  go_ret
  exact ⟨rfl, HS.out 0⟩
set_option maxHeartbeats 16000000 in
set_option maxRecDepth 40000 in
theorem cuts_big (s : ByteArray) (n : Int) (ws : List Wd) (hw : wordsP s.toList = (ws, 0, 0)) (hn : 0 ≤ n) (hb : n > (s.size : Int)) : FunV Tryd.prog 5 #[.string s, .int .i64 n] Vars [] (.bool true) [] := by
  intro w S hS hR
  have HS := St.start hS
  have HR := Aside0.mk hR
  clear hS hR
  have huS := Tryd.underlying22
  have huW := Tryd.underlying28
  have H1 := Aside0.mk (words_call s ws 0 0 hw)
  clear hw
  have hn0 : ¬ n < 0 := by omega
  go_enter Tryd.func5, Tryd.ntmps5
  go_wp2_with fail
  refine (H1.out.call (F := []) HS (fun w' _ e _ => HR.out w' e)).mono ?_
  rintro e_ w1 ⟨v_, rfl, HS_⟩
  clear HS
  obtain ⟨u, HS_⟩ := St.ex_ HS_
  obtain ⟨rfl, HS⟩ := St.and_ HS_
  clear HS_
  have HS : St w S w1 [HP.row kWd 28 u ws] := HS
  obtain ⟨A1, c1, rfl, hc1, -⟩ := St.row_C HS
  go_wp2_with fail
  refine (awake_fun.call (F := [HP.row kWd 28 (.slice A1 ws.length c1) ws]) HS (fun w' _ e _ => HR.out w' e)).mono ?_
  rintro e_ w2 ⟨rfl, HS_⟩
  clear HS 
  have HS : St w S w2 [HP.row kWd 28 (.slice A1 ws.length c1) ws] := HS_
  clear HS_
  go_wp2_with fail
  refine (awake_fun.call (F := [HP.row kWd 28 (.slice A1 ws.length c1) ws]) HS (fun w' _ e _ => HR.out w' e)).mono ?_
  rintro e_ w3 ⟨rfl, HS_⟩
  clear HS 
  have HS : St w S w3 [HP.row kWd 28 (.slice A1 ws.length c1) ws] := HS_
  clear HS_
  go_wp2_with fail
  go_ret
  exact ⟨rfl, HS.out 0⟩
set_option maxHeartbeats 16000000 in
set_option maxRecDepth 40000 in
theorem cuts_cut_err (s : ByteArray) (k : Nat) (ws : List Wd) (hw : wordsP s.toList = (ws, 0, 0)) (hk : k ≤ s.size) (hs : s.size ≤ 1024) (p : Nat) (e : Int) (hc : wordsP (s.toList.take k) = ([], p, e)) (he : e = 170 ∨ e = 171) : FunV Tryd.prog 5 #[.string s, .int .i64 (k : Int)] Vars [] (.bool true) [] := by
  intro w S hS hR
  have HS := St.start hS
  have HR := Aside0.mk hR
  clear hS hR
  have huS := Tryd.underlying22
  have huW := Tryd.underlying28
  have H1 := Aside0.mk (words_call s ws 0 0 hw)
  have hkI : (k : Int) ≤ (s.size : Int) := by omega
  have hk0 : (0 : Int) ≤ (k : Int) := by omega
  have hsx : (s.extract 0 k).toList = s.toList.take k := by
    rw [Go.Lib.extract_toList, ← toList_eq]
    simp
  obtain ⟨sx, hsx2⟩ : ∃ x, s.extract 0 k = x := ⟨_, rfl⟩
  rw [hsx2] at hsx
  have H2 := Aside0.mk (words_call sx [] p e (by rw [hsx]; exact hc))
  clear hw hsx hc
  go_enter Tryd.func5, Tryd.ntmps5
  go_wp2_with fail
  refine (H1.out.call (F := []) HS (fun w' _ e _ => HR.out w' e)).mono ?_
  rintro e_ w1 ⟨v_, rfl, HS_⟩
  clear HS
  obtain ⟨u, HS_⟩ := St.ex_ HS_
  obtain ⟨rfl, HS⟩ := St.and_ HS_
  clear HS_
  have HS : St w S w1 [HP.row kWd 28 u ws] := HS
  obtain ⟨A1, c1, rfl, hc1, -⟩ := St.row_C HS
  go_wp2_with fail
  refine (awake_fun.call (F := [HP.row kWd 28 (.slice A1 ws.length c1) ws]) HS (fun w' _ e _ => HR.out w' e)).mono ?_
  rintro e_ w2 ⟨rfl, HS_⟩
  clear HS 
  have HS : St w S w2 [HP.row kWd 28 (.slice A1 ws.length c1) ws] := HS_
  clear HS_
  go_wp2_with fail
  refine (H2.out.call (F := [HP.row kWd 28 (.slice A1 ws.length c1) ws]) HS (fun w' _ e _ => HR.out w' e)).mono ?_
  rintro e_ w3 ⟨v_, rfl, HS_⟩
  clear HS
  obtain ⟨u2, HS_⟩ := St.ex_ HS_
  obtain ⟨rfl, HS⟩ := St.and_ HS_
  clear HS_
  have HS : St w S w3 [HP.row kWd 28 u2 [], HP.row kWd 28 (.slice A1 ws.length c1) ws] := HS
  rcases he with rfl | rfl
  all_goals
    go_wp2_with fail
    go_ret
    exact ⟨rfl, (HS.out 0).out 0⟩
set_option maxHeartbeats 16000000 in
set_option maxRecDepth 40000 in
theorem cuts_cut_ok (s : ByteArray) (k : Nat) (ws : List Wd) (hw : wordsP s.toList = (ws, 0, 0)) (hk : k ≤ s.size) (hs : s.size ≤ 1024) (ms : List Wd) (hml : ms.length ≤ 2000) (hc : wordsP (s.toList.take k) = (ms, 0, 0)) (hm : ∀ i, i + 2 < ms.length → i < ws.length ∧ ms[i]? = ws[i]?) : FunV Tryd.prog 5 #[.string s, .int .i64 (k : Int)] Vars [] (.bool true) [] := by
  intro w S hS hR
  have HS := St.start hS
  have HR := Aside0.mk hR
  clear hS hR
  have huS := Tryd.underlying22
  have huW := Tryd.underlying28
  have H1 := Aside0.mk (words_call s ws 0 0 hw)
  have hkI : (k : Int) ≤ (s.size : Int) := by omega
  have hk0 : (0 : Int) ≤ (k : Int) := by omega
  have hsx : (s.extract 0 k).toList = s.toList.take k := by
    rw [Go.Lib.extract_toList, ← toList_eq]
    simp
  obtain ⟨sx, hsx2⟩ : ∃ x, s.extract 0 k = x := ⟨_, rfl⟩
  rw [hsx2] at hsx
  have H2 := Aside0.mk (words_call sx ms 0 0 (by rw [hsx]; exact hc))
  have HM := Aside0.mk hm
  clear hw hsx hc hm
  go_enter Tryd.func5, Tryd.ntmps5
  go_wp2_with fail
  refine (H1.out.call (F := []) HS (fun w' _ e _ => HR.out w' e)).mono ?_
  rintro e_ w1 ⟨v_, rfl, HS_⟩
  clear HS
  obtain ⟨u, HS_⟩ := St.ex_ HS_
  obtain ⟨rfl, HS⟩ := St.and_ HS_
  clear HS_
  have HS : St w S w1 [HP.row kWd 28 u ws] := HS
  obtain ⟨A1, c1, rfl, hc1, -⟩ := St.row_C HS
  go_wp2_with fail
  refine (awake_fun.call (F := [HP.row kWd 28 (.slice A1 ws.length c1) ws]) HS (fun w' _ e _ => HR.out w' e)).mono ?_
  rintro e_ w2 ⟨rfl, HS_⟩
  clear HS 
  have HS : St w S w2 [HP.row kWd 28 (.slice A1 ws.length c1) ws] := HS_
  clear HS_
  go_wp2_with fail
  refine (H2.out.call (F := [HP.row kWd 28 (.slice A1 ws.length c1) ws]) HS (fun w' _ e _ => HR.out w' e)).mono ?_
  rintro e_ w3 ⟨v_, rfl, HS_⟩
  clear HS
  obtain ⟨u2, HS_⟩ := St.ex_ HS_
  obtain ⟨rfl, HS⟩ := St.and_ HS_
  clear HS_
  have HS : St w S w3 [HP.row kWd 28 u2 ms, HP.row kWd 28 (.slice A1 ws.length c1) ws] := HS
  obtain ⟨A2, c2, rfl, hc2, hC2⟩ := St.row_C HS
  clear hC2
  go_wp2_with fail
  go_loopw [11] (fun v11 w' => ∃ i : Nat, i ≤ ms.length ∧ v11 = .int .i64 i ∧ St w S w' [HP.row kWd 28 (.slice A2 ms.length c2) ms, HP.row kWd 28 (.slice A1 ws.length c1) ws]) (fun v11 _ => ms.length - (intOf v11).toNat)
  case atStart => exact ⟨0, Nat.zero_le _, rfl, HS⟩
  case round =>
    clear HS
    obtain ⟨i, hi, rfl, HS⟩ := hrel
    have hi0 : (0 : Int) ≤ (i : Int) := by omega
    by_cases hlt : i + 2 < ms.length
    · have hw2 : IntKind.i64.wrap ((i : Int) + 2) = (i : Int) + 2 := IntWalk.i64_in _ (by omega)
      have hw1 : IntKind.i64.wrap ((i : Int) + 1) = ((i + 1 : Nat) : Int) := by rw [IntWalk.i64_in _ (by omega)]; omega
      have hltI : (i : Int) + 2 < (ms.length : Int) := by omega
      obtain ⟨hiw, hmw⟩ := HM.out i hlt
      have him : i < ms.length := by omega
      rw [List.getElem?_eq_getElem him, List.getElem?_eq_getElem hiw] at hmw
      have hmw := Option.some.inj hmw
      have hiwI : (i : Int) < (ws.length : Int) := by omega
      have himI : (i : Int) < (ms.length : Int) := by omega
      have hge : decide ((i : Int) ≥ (ws.length : Int)) = false := decide_eq_false (by omega)
      have hge2 : decide (ws.length ≤ i) = false := decide_eq_false (by omega)
      have hge3 : decide ((ws.length : Int) ≤ (i : Int)) = false := decide_eq_false (by omega)
      obtain ⟨g2, c2', e2⟩ := St.row_form HS (by omega)
      obtain ⟨rfl, -, rfl⟩ : A2 = some ⟨g2, 0, none⟩ ∧ ms.length = ms.length ∧ c2 = c2' := by simpa using e2
      obtain ⟨g1, c1', e1⟩ := St.row_form (HS.mv 1) (by omega)
      obtain ⟨rfl, -, rfl⟩ : A1 = some ⟨g1, 0, none⟩ ∧ ws.length = ws.length ∧ c1 = c1' := by simpa using e1
      obtain ⟨x, hx⟩ : ∃ x, ms[i] = x := ⟨_, rfl⟩
      have HCm := Aside0.mk (fun (w' : World) (h : St w S w' [HP.row kWd 28 (.slice (some ⟨g2, 0, none⟩) ms.length c2) ms, HP.row kWd 28 (.slice (some ⟨g1, 0, none⟩) ws.length c1) ws]) => wd_cells h i him)
      have HCw := Aside0.mk (fun (w' : World) (h : St w S w' [HP.row kWd 28 (.slice (some ⟨g2, 0, none⟩) ms.length c2) ms, HP.row kWd 28 (.slice (some ⟨g1, 0, none⟩) ws.length c1) ws]) => wd_cells (h.mv 1) i hiw)
      rw [hx] at HCm
      rw [← hmw, hx] at HCw
      clear e1 e2 hx hmw
      go_wp2_with fail
      refine start_ (n := 15) (S := fun w' => w'.cell? ⟨g2, i * 4, none⟩ = some (.int .i64 x.k) ∧ w'.cell? ⟨g2, i * 4 + 1, none⟩ = some (.int .i64 (x.a : Int)) ∧ w'.cell? ⟨g2, i * 4 + 2, none⟩ = some (.string (ba x.t)) ∧ w'.cell? ⟨g2, i * 4 + 3, none⟩ = some (.int .i64 x.n) ∧ w'.cell? ⟨g1, i * 4, none⟩ = some (.int .i64 x.k) ∧ w'.cell? ⟨g1, i * 4 + 1, none⟩ = some (.int .i64 (x.a : Int)) ∧ w'.cell? ⟨g1, i * 4 + 2, none⟩ = some (.string (ba x.t)) ∧ w'.cell? ⟨g1, i * 4 + 3, none⟩ = some (.int .i64 x.n)) (ds := []) #[false, false, false, false, false, false, false, false, false, false, false, false, false, false, false] (by kernel_rfl) rfl rfl ⟨(HCm.out _ HS.drew).1, (HCm.out _ HS.drew).2.1, (HCm.out _ HS.drew).2.2.1, (HCm.out _ HS.drew).2.2.2, (HCw.out _ HS.drew).1, (HCw.out _ HS.drew).2.1, (HCw.out _ HS.drew).2.2.1, (HCw.out _ HS.drew).2.2.2⟩ (fun hHeld => ?_)
      refine pure_ (i := 0) (N := some 58) (v := ?_) (a' := ?_) #[true, false, false, false, false, false, false, false, false, false, false, false, false, false, false] rfl rfl (by kernel_rfl) (fun _ _ _ h => h) (Or.inl ⟨by rfl, ?_⟩) ?_ ?_
      rotate_left
      · intro w'
        go_simp
        with_reducible rfl
      rotate_left
      · simp only [Act.put, List.setIfInBounds_toArray, List.set_cons_zero, List.set_cons_succ, i64_w, i32_w]
        rfl
      refine pure_ (i := 1) (N := some 59) (v := ?_) (a' := ?_) #[true, true, false, false, false, false, false, false, false, false, false, false, false, false, false] rfl rfl (by kernel_rfl) (fun _ _ _ h => h) (Or.inl ⟨by rfl, ?_⟩) ?_ ?_
      rotate_left
      · intro w'
        go_simp
        with_reducible rfl
      rotate_left
      · simp only [Act.put, List.setIfInBounds_toArray, List.set_cons_zero, List.set_cons_succ, i64_w, i32_w]
        rfl
      refine pure_ (i := 2) (N := some 60) (v := ?_) (a' := ?_) #[true, true, true, false, false, false, false, false, false, false, false, false, false, false, false] rfl rfl (by kernel_rfl) (fun _ _ _ h => h) (Or.inl ⟨by rfl, ?_⟩) ?_ ?_
      rotate_left
      · intro w'
        go_simp
        with_reducible rfl
      rotate_left
      · simp only [Act.put, List.setIfInBounds_toArray, List.set_cons_zero, List.set_cons_succ, i64_w, i32_w]
        rfl
      refine pure_ (i := 3) (N := some 61) (v := ?_) (a' := ?_) #[true, true, true, true, false, false, false, false, false, false, false, false, false, false, false] rfl rfl (by kernel_rfl) (fun _ _ _ h => h) (Or.inl ⟨by rfl, ?_⟩) ?_ ?_
      rotate_left
      · intro w'
        go_simp
        with_reducible rfl
      rotate_left
      · simp only [Act.put, List.setIfInBounds_toArray, List.set_cons_zero, List.set_cons_succ, i64_w, i32_w]
        rfl
      refine pure_ (i := 4) (N := some 62) (v := ?_) (a' := ?_) #[true, true, true, true, true, false, false, false, false, false, false, false, false, false, false] rfl rfl (by kernel_rfl) (fun _ _ _ h => h) (Or.inl ⟨by rfl, ?_⟩) ?_ ?_
      rotate_left
      · intro w'
        go_simp
        with_reducible rfl
      rotate_left
      · simp only [Act.put, List.setIfInBounds_toArray, List.set_cons_zero, List.set_cons_succ, i64_w, i32_w]
        rfl
      refine pure_ (i := 5) (N := some 63) (v := ?_) (a' := ?_) #[true, true, true, true, true, true, false, false, false, false, false, false, false, false, false] rfl rfl (by kernel_rfl) (fun _ _ _ h => h) (Or.inl ⟨by rfl, ?_⟩) ?_ ?_
      rotate_left
      · intro w'
        go_simp
        with_reducible rfl
      rotate_left
      · simp only [Act.put, List.setIfInBounds_toArray, List.set_cons_zero, List.set_cons_succ, i64_w, i32_w]
        rfl
      refine pure_ (i := 6) (N := some 64) (v := ?_) (a' := ?_) #[true, true, true, true, true, true, true, false, false, false, false, false, false, false, false] rfl rfl (by kernel_rfl) (fun _ _ _ h => h) (Or.inl ⟨by rfl, ?_⟩) ?_ ?_
      rotate_left
      · intro w'
        go_simp
        with_reducible rfl
      rotate_left
      · simp only [Act.put, List.setIfInBounds_toArray, List.set_cons_zero, List.set_cons_succ, i64_w, i32_w]
        rfl
      refine pure_ (i := 7) (N := some 65) (v := ?_) (a' := ?_) #[true, true, true, true, true, true, true, true, false, false, false, false, false, false, false] rfl rfl (by kernel_rfl) (fun _ _ _ h => h) (Or.inl ⟨by rfl, ?_⟩) ?_ ?_
      rotate_left
      · intro w'
        go_simp
        with_reducible rfl
      rotate_left
      · simp only [Act.put, List.setIfInBounds_toArray, List.set_cons_zero, List.set_cons_succ, i64_w, i32_w]
        rfl
      refine pure_ (i := 9) (N := some 67) (v := ?_) (a' := ?_) #[true, true, true, true, true, true, true, true, false, true, false, false, false, false, false] rfl rfl (by kernel_rfl) (fun _ _ _ h => h) (Or.inl ⟨by rfl, ?_⟩) ?_ ?_
      rotate_left
      · intro w'
        go_simp
        with_reducible rfl
      rotate_left
      · simp only [Act.put, List.setIfInBounds_toArray, List.set_cons_zero, List.set_cons_succ, i64_w, i32_w]
        rfl
      refine pure_ (i := 10) (N := some 68) (v := ?_) (a' := ?_) #[true, true, true, true, true, true, true, true, false, true, true, false, false, false, false] rfl rfl (by kernel_rfl) (fun _ _ _ h => h) (Or.inl ⟨by rfl, ?_⟩) ?_ ?_
      rotate_left
      · intro w'
        go_simp
        with_reducible rfl
      rotate_left
      · simp only [Act.put, List.setIfInBounds_toArray, List.set_cons_zero, List.set_cons_succ, i64_w, i32_w]
        rfl
      refine pure_ (i := 11) (N := some 69) (v := ?_) (a' := ?_) #[true, true, true, true, true, true, true, true, false, true, true, true, false, false, false] rfl rfl (by kernel_rfl) (fun _ _ _ h => h) (Or.inl ⟨by rfl, ?_⟩) ?_ ?_
      rotate_left
      · intro w'
        go_simp
        with_reducible rfl
      rotate_left
      · simp only [Act.put, List.setIfInBounds_toArray, List.set_cons_zero, List.set_cons_succ, i64_w, i32_w]
        rfl
      refine take_ (i := 8) (N := some 66) (v := ?_) (a' := ?_) #[true, true, true, true, true, true, true, true, true, true, true, true, false, false, false] rfl rfl (by kernel_rfl) (fun _ _ _ h => h) (Or.inl ⟨by rfl, ?_⟩) hHeld ?_ ?_
      rotate_left
      · rintro w' ⟨s0, s1, s2, s3, s4, s5, s6, s7⟩
        go_simp
        with_reducible rfl
      rotate_left
      · simp only [Act.put, List.setIfInBounds_toArray, List.set_cons_zero, List.set_cons_succ, i64_w, i32_w]
        rfl
      refine take_ (i := 12) (N := some 70) (v := ?_) (a' := ?_) #[true, true, true, true, true, true, true, true, true, true, true, true, true, false, false] rfl rfl (by kernel_rfl) (fun _ _ _ h => h) (Or.inl ⟨by rfl, ?_⟩) hHeld ?_ ?_
      rotate_left
      · rintro w' ⟨s0, s1, s2, s3, s4, s5, s6, s7⟩
        go_simp
        with_reducible rfl
      rotate_left
      · simp only [Act.put, List.setIfInBounds_toArray, List.set_cons_zero, List.set_cons_succ, i64_w, i32_w]
        rfl
      refine pure_ (i := 13) (N := some 71) (v := ?_) (a' := ?_) #[true, true, true, true, true, true, true, true, true, true, true, true, true, true, false] rfl rfl (by kernel_rfl) (fun _ _ _ h => h) (Or.inl ⟨by rfl, ?_⟩) ?_ ?_
      rotate_left
      · intro w'
        go_simp
        with_reducible rfl
      rotate_left
      · simp only [Act.put, List.setIfInBounds_toArray, List.set_cons_zero, List.set_cons_succ, i64_w, i32_w]
        rfl
      refine pure_ (i := 14) (N := some 72) (v := ?_) (a' := ?_) #[true, true, true, true, true, true, true, true, true, true, true, true, true, true, true] rfl rfl (by kernel_rfl) (fun _ _ _ h => h) (Or.inl ⟨by rfl, ?_⟩) ?_ ?_
      rotate_left
      · intro w'
        go_simp
        with_reducible rfl
      rotate_left
      · simp only [Act.put, List.setIfInBounds_toArray, List.set_cons_zero, List.set_cons_succ, i64_w, i32_w]
        rfl
      refine done_ (by kernel_rfl) ?_
      clear hHeld
      replace HS := HS.drew
      go_wp2_with fail
      go_roundw
      case rel => exact ⟨i + 1, by omega, by go_num, HS⟩
      case measure => simp [intOf]; omega
    · have hw2 : IntKind.i64.wrap ((i : Int) + 2) = (i : Int) + 2 := IntWalk.i64_in _ (by omega)
      have hltI : ¬ (i : Int) + 2 < (ms.length : Int) := by omega
      go_wp2_with fail
      go_ret
      exact ⟨rfl, (HS.out 0).out 0⟩
theorem cuts_fun (s : ByteArray) (n : Int) : FunV Tryd.prog 5 #[.string s, .int .i64 n] Vars [] (.bool true) [] := by
  have hl := size_toList s
  rcases words_cases s.toList with ⟨p, e, hw, he, _⟩ | ⟨ws, hw, hx, h1024⟩
  · exact cuts_err s n p e hw he
  · by_cases hn : n < 0
    · exact cuts_neg s n ws hw hn
    · by_cases hb : n > (s.size : Int)
      · exact cuts_big s n ws hw (by omega) hb
      · obtain ⟨k, rfl⟩ : ∃ k : Nat, n = (k : Int) := ⟨n.toNat, by omega⟩
        have hk : k ≤ s.size := by omega
        have hlt : (s.toList.take k).length ≤ 1024 := by rw [List.length_take]; omega
        rcases lex_cut _ 0 s.toList ws (Nat.lt_succ_self _) hx k (by omega) with ⟨p, e, h2, he⟩ | ⟨m, h2, hm⟩
        · exact cuts_cut_err s k ws hw hk (by omega) p e (by unfold wordsP; rw [if_neg (by omega), h2]) he
        · exact cuts_cut_ok s k ws hw hk (by omega) m (by have := lex_len _ _ _ _ h2; omega) (by unfold wordsP; rw [if_neg (by omega), h2]) hm
end Go.Proofs.YtkjfecpfjfkpnaaDoor.Lex
