/- The law of the splits: walked. -/
import Derived.Test.YtiobcknobbimoaaAgJ
namespace Go.Proofs.Ytiobcknobbimoaa.Ag
open Go.RowKit Go.Proofs.YtiobcknobbimoaaW.PrintWords Go.Proofs.YtiobcknobbimoaaW.PrintLast Go.Proofs.YtiobcknobbimoaaW.PrintMore Go.Proofs.Ytiobcknobbimoaa.Sl Go.Proofs.Ytiobcknobbimoaa.Row
set_option linter.unusedVariables false
set_option linter.unusedSimpArgs false
theorem pop_meas {L : List Th} (hu : Uniq L) {t x : Int} {b : Bool} (h : popR L t = .tuple #[.int .i64 x, .bool b]) : 2 * (popL L t).length + okN (.bool b) < 2 * L.length + 1 := by
  rcases pop_cases L t with ⟨u, hn, hd, e1, e2⟩ | ⟨hs, e1, e2⟩
  · have := drop_len hu (nextL_some hn).1
    rw [e2]
    have hb : okN (.bool b) ≤ 1 := by cases b <;> decide
    omega
  · rw [e1] at h
    have hb : b = false := (by simpa using h.symm : x = 0 ∧ b = false).2
    subst hb
    rw [e2]
    show 2 * L.length + 0 < _
    omega
def kI : Kd Int := Kd.int .i64
theorem int_cell {w0 w : World} {S0 : Nat → Prop} {F : List HP} {g n c : Nat} {xs : List Int} (h : St w0 S0 w (HP.row (Kd.int .i64) 3 (.slice (some ⟨g, 0, none⟩) n c) xs :: F)) (j : Nat) (hj : j < xs.length) : w.cell? ⟨g, j, none⟩ = some (.int .i64 xs[j]) := by
  have hn := (St.row_reads h).1
  have q0 := (St.row_cell (enc := fun n : Int => Value.int .i64 n) 0 h j (by omega)).1
  have e0 : xs.getD j 0 = xs[j] := by simp [List.getD_eq_getElem?_getD, List.getElem?_eq_getElem hj]
  rw [e0] at q0
  exact q0
set_option maxHeartbeats 8000000 in
set_option maxRecDepth 20000 in
theorem agendaSplits_fun (A1 : Option Addr) (c1 : Nat) (l : List OpA) (hB : BOpAL l) (hc1 : l.length ≤ c1) (one : Int) (ho : (Lit.int .i64 one).wf = true) (two : Int) (ht : (Lit.int .i64 two).wf = true) :
    FunV Try.prog 7 #[.slice A1 l.length c1, .int .i64 one, .int .i64 two] (fun w => Kd.C kOpA w A1 l.length l) [] (.bool true) [] := by
  intro w S hS_ hR
  have HS := St.start hS_
  have HR := Aside0.mk hR
  clear hS_ hR hB ho ht
  have hu46 := Try.underlying46
  go_enter Try.func7, Try.ntmps7
  go_wp2_with fail
  refine (awake_fun.call (F := []) HS (fun _ _ _ _ => trivial)).mono ?_
  rintro e_ w2 ⟨rfl, HS_⟩
  clear HS
  have HS : St w S w2 [] := HS_
  clear HS_
  rcases Nat.lt_or_ge 400 l.length with hl1 | hl1
  · have hd1 : decide ((l.length : Int) > 400) = true := decide_eq_true (by omega)
    go_wp2_with fail
    refine (awake_fun.call (F := []) HS (fun _ _ _ _ => trivial)).mono ?_
    rintro e_ w3 ⟨rfl, HS_⟩
    clear HS
    go_wp2
    go_ret
    exact ⟨rfl, HS_⟩
  have hd1 : decide ((l.length : Int) > 400) = false := decide_eq_false (by omega)
  go_wp2_with fail
  refine ((set_fun A1 c1 l hc1 (by omega)).call (F := []) HS (fun w' S' h _ => HR.out w' h)).mono ?_
  rintro e_ w3 ⟨r_, rfl, HS_⟩
  clear HS
  obtain ⟨ga, HS2⟩ := St.ex_ HS_
  obtain ⟨hr_, HS3⟩ := St.and_ HS2
  subst hr_
  have HS : St w S w3 [agS ga (setsL l) l.length] := HS3
  clear HS_ HS2 HS3 hd1
  go_wp2_with fail
  refine ((set_fun A1 c1 l hc1 (by omega)).call (F := [agS ga (setsL l) l.length]) HS (fun w' S' h _ => HR.out w' h)).mono ?_
  rintro e_ w4 ⟨r_, rfl, HS_⟩
  clear HS
  obtain ⟨gb, HS2⟩ := St.ex_ HS_
  obtain ⟨hr_, HS3⟩ := St.and_ HS2
  subst hr_
  have HS : St w S w4 [agS gb (setsL l) l.length, agS ga (setsL l) l.length] := HS3
  clear HS_ HS2 HS3
  have htn : l.length ≤ 10000 := by omega
  have hLl : (setsL l).length ≤ 400 := by have := setsL_len l; omega
  generalize l.length = tn at HS htn ⊢
  generalize setsL l = L0 at HS hLl ⊢
  have HUQ := Aside0.mk (agS_uniq HS)
  obtain ⟨mx, hmx⟩ : ∃ mx, (if one < two then two else one) = mx := ⟨_, rfl⟩
  obtain ⟨mn, hmn⟩ : ∃ mn, (if two < one then two else one) = mn := ⟨_, rfl⟩
  have hmm : mn ≤ mx := by
    rw [← hmx, ← hmn]
    split <;> split <;> omega
  have hmax : ∀ ts t w, (Builtin.max_ ts t #[.int .i64 one, .int .i64 two]).run Try.prog w = .ok (.int .i64 mx) w := fun ts t w => by
    rw [run_max_int2]
    simp only [gt_iff_lt, hmx]
  have hmin : ∀ ts t w, (Builtin.min_ ts t #[.int .i64 one, .int .i64 two]).run Try.prog w = .ok (.int .i64 mn) w := fun ts t w => by
    rw [run_min_int2, hmn]
  have hix : ∀ j : Nat, j < 2 → ∃ t, t ≤ mx ∧ (j = 1 → t = mx) ∧ ∀ w, (Instr.index 47 (.agg #[.int .i64 mn, .int .i64 mx]) (.int .i64 (j : Int))).run Try.prog w = .ok (.int .i64 t) w := fun j hj => by
    rcases (show j = 0 ∨ j = 1 by omega) with rfl | rfl
    · exact ⟨mn, hmm, fun h => by omega, fun w => by kernel_rfl⟩
    · exact ⟨mx, Int.le_refl _, fun _ => rfl, fun w => by kernel_rfl⟩
  have HIX := Aside0.mk hix
  clear hix
  have HS_ := (HS.mv 1).nil_ (Kd.int .i64) 3
  clear HS
  have HS : St w S w4 [HP.row (Kd.int .i64) 3 (.slice none 0 0) (wh L0 0), agS ga (itL L0 0) tn, agS gb L0 tn] := HS_
  clear HS_
  go_wp2_with fail
  go_loopw [11, 45] (fun v11 v45 w' => ∃ (j k : Nat), j ≤ 2 ∧ v45 = .int .i64 j ∧ Aside0 (TakeOk L0 k mx ∧ (j = 2 → Stop L0 k mx)) ∧ St w S w' [HP.row (Kd.int .i64) 3 v11 (wh L0 k), agS ga (itL L0 k) tn, agS gb L0 tn]) (fun _ v45 _ => 2 - (intOf v45).toNat)
  case atStart => exact ⟨0, 0, by omega, rfl, ⟨fun i hi => by omega, fun h => by omega⟩, HS⟩
  case round =>
    clear HS
    obtain ⟨j, k, hj, rfl, HK, HS⟩ := hrel
    by_cases hlt : j < 2
    · have hltI : (j : Int) < 2 := by omega
      have hj0 : (0 : Int) ≤ (j : Int) := by omega
      have hjd : decide ((j : Int) < 2) = true := decide_eq_true hltI
      obtain ⟨t, htx, hlast, hix⟩ := HIX.out j hlt
      have HLA := Aside0.mk hlast
      obtain ⟨b, x, hpr, hT⟩ := taking_first HK.out.1 htx
      have HPR := Aside0.mk hpr
      have HT := Aside0.mk hT
      clear hlast hpr hT
      go_wp2_with fail
      clear hix
      refine ((pop_ag ga (itL L0 k) tn t htn).call (F := [HP.row (Kd.int .i64) 3 u11 (wh L0 k), agS gb L0 tn]) (HS.mv 1) (fun _ _ _ _ => trivial)).mono ?_
      rintro e_ w5 ⟨rfl, HS_⟩
      clear HS
      rw [HPR.out]
      have HS : St w S w5 [HP.row (Kd.int .i64) 3 u11 (wh L0 k), agS ga (popL (itL L0 k) t) tn, agS gb L0 tn] := HS_.mv 1
      clear HS_
      generalize popL (itL L0 k) t = M at HS HT
      clear HPR HK
      go_wp2_with fail
      go_loopw [11, 15, 16] (fun v11 v15 v16 w' => ∃ (k : Nat) (b : Bool) (x : Int) (M : List Th), v15 = .int .i64 x ∧ v16 = .bool b ∧ Aside0 (Taking L0 mx t k b x M) ∧ St w S w' [HP.row (Kd.int .i64) 3 v11 (wh L0 k), agS ga M tn, agS gb L0 tn]) (fun _ _ v16 w' => 2 * qLen w' ga + okN v16)
      case atStart => exact ⟨k, b, x, M, rfl, rfl, HT, HS⟩
      case round =>
        clear HS HT M
        obtain ⟨k, b, x, M, rfl, rfl, HT, HS⟩ := hrel
        cases b
        · obtain ⟨hst, hM⟩ := HT.out.no rfl
          have HK2 : Aside0 (TakeOk L0 k mx ∧ (j + 1 = 2 → Stop L0 k mx)) := ⟨HT.out.ok, fun h => by rw [← HLA.out (by omega)]; exact hst⟩
          rw [hM] at HS
          clear hst hM
          go_wp2
          go_roundw
          case rel => exact ⟨j + 1, k, by omega, by go_num, HK2, HS⟩
          case measure => simp [intOf]; omega
        · obtain ⟨hok, hM, hwh⟩ := taking_ok HT.out
          obtain ⟨b2, x2, hpr, hT2⟩ := taking_first hok htx
          have hms := pop_meas (it_uniq HUQ.out (k + 1)) hpr
          have hwl := (it_len HUQ.out k HT.out.ok)
          have hq0 := agS_len (HS.mv 1)
          rw [hM] at HS hq0
          have hkl : (wh L0 k).length ≤ 400 := by omega
          have HPR := Aside0.mk hpr
          have HT2 := Aside0.mk hT2
          have HWH := Aside0.mk hwh
          clear hok hM hwh hpr hT2 hwl
          go_wp2_with (first
            | ((with_reducible refine gate_dst (N := 63) rfl ?_); refine ev_lit (Kd.int .i64) 3 ?hg (N := 63) ?hd (xs := [x]) (inner := [.int .i64 x]) HS ?hr ?hp (by simp) ?_; (case hd => rfl); (case hg => rfl); (case hr => first | (go_simp; done) | (go_simp; rfl)); (case hp => exact reps1_ (by exact rfl) rfl); intro v8 w8 H3; clear HS; obtain ⟨B8, d8, rfl, hd8, hC8⟩ := St.row_C H3; clear hC8)
            | ((with_reducible refine gate_dst (N := 64) rfl ?_); at_builtin; refine ev_rows (Kd.int .i64) flatInt rfl (.tmp 61) (.tmp 63) 46 3 _ 8 rfl Try.underlying46 infoInt rfl (by decide) (by omega) u11 (wh L0 k) [x] B8 d8 rfl rfl (H3.mv 1) ?hc ?hl ?_; (case hc => exact (St.row_reads H3).2.2); (case hl => (simp only [List.length_singleton]; omega)); intro v9 w9 H4; clear H3))
          have HS : St w S w9 [agS ga (itL L0 (k + 1)) tn, HP.row (Kd.int .i64) 3 v9 (wh L0 (k + 1)), agS gb L0 tn] := by
            rw [HWH.out]
            exact (H4.out 1).mv 1
          clear H4
          refine ((pop_ag ga (itL L0 (k + 1)) tn t htn).call (F := [HP.row (Kd.int .i64) 3 v9 (wh L0 (k + 1)), agS gb L0 tn]) HS (fun _ _ _ _ => trivial)).mono ?_
          rintro e_ w10 ⟨rfl, HS_⟩
          clear HS
          rw [HPR.out]
          have HS : St w S w10 [HP.row (Kd.int .i64) 3 v9 (wh L0 (k + 1)), agS ga (popL (itL L0 (k + 1)) t) tn, agS gb L0 tn] := HS_.mv 1
          clear HS_
          have hq1 := agS_len (HS.mv 1)
          have hlt2 : 2 * qLen w10 ga + okN (.bool b2) < 2 * qLen wr ga + okN (.bool true) := by
            show _ < 2 * qLen wr ga + 1
            omega
          have HLT := Aside0.mk hlt2
          clear hq0 hq1 hms hlt2
          go_wp2
          go_roundw
          case rel => exact ⟨k + 1, b2, x2, _, rfl, rfl, HT2, HS⟩
          case measure => exact HLT.out
    · obtain rfl : j = 2 := by omega
      have hjd : decide (((2 : Nat) : Int) < 2) = false := rfl
      have HKA : Aside0 (TakeOk L0 k mx ∧ Stop L0 k mx) := ⟨HK.out.1, HK.out.2 rfl⟩
      clear HK HIX
      obtain ⟨b, x, hpr, hT⟩ := taking_first (L := L0) (k := 0) (T := mx) (fun i hi => by omega) (Int.le_refl mx)
      have HPR := Aside0.mk hpr
      have HT := Aside0.mk hT
      clear hpr hT
      go_wp2_with fail
      refine ((pop_ag gb L0 tn mx htn).call (F := [HP.row (Kd.int .i64) 3 u11 (wh L0 k), agS ga (itL L0 k) tn]) (HS.mv 2) (fun _ _ _ _ => trivial)).mono ?_
      rintro e_ w5 ⟨rfl, HS_⟩
      clear HS
      have hpr2 : popR L0 mx = .tuple #[.int .i64 x, .bool b] := HPR.out
      rw [hpr2]
      clear hpr2 HPR
      have HS_2 := HS_.nil_ (Kd.int .i64) 3
      have HS : St w S w5 [HP.row (Kd.int .i64) 3 (.slice none 0 0) (wh L0 0), agS gb (popL (itL L0 0) mx) tn, HP.row (Kd.int .i64) 3 u11 (wh L0 k), agS ga (itL L0 k) tn] := HS_2
      clear HS_ HS_2
      generalize popL (itL L0 0) mx = M at HS HT
      go_wp2_with fail
      go_loopw [12, 17, 18] (fun v12 v17 v18 w' => ∃ (kb : Nat) (b : Bool) (x : Int) (M : List Th), v17 = .int .i64 x ∧ v18 = .bool b ∧ Aside0 (Taking L0 mx mx kb b x M) ∧ St w S w' [HP.row (Kd.int .i64) 3 v12 (wh L0 kb), agS gb M tn, HP.row (Kd.int .i64) 3 u11 (wh L0 k), agS ga (itL L0 k) tn]) (fun _ _ v18 w' => 2 * qLen w' gb + okN v18)
      case atStart => exact ⟨0, b, x, M, rfl, rfl, HT, HS⟩
      case round =>
        clear HS HT M
        obtain ⟨kb, b, x, M, rfl, rfl, HT, HS⟩ := hrel
        cases b
        · obtain ⟨hst, hM⟩ := HT.out.no rfl
          obtain rfl : k = kb := stop_eq HKA.out.1 HKA.out.2 HT.out.ok hst
          rw [hM] at HS
          have hwl0 := it_len HUQ.out k HT.out.ok
          have hwl := hwl0.2
          obtain ⟨Ax, cx, rfl, hcx, hCx⟩ := St.row_C (HS.mv 2)
          obtain ⟨Ay, cy, rfl, hcy, hCy⟩ := St.row_C HS
          clear hst hM hCx hCy HT HKA
          have hkl : (wh L0 k).length ≤ 100000 := by
            have := hwl0.1
            omega
          clear hwl0
          generalize wh L0 k = xs at HS hcx hcy hwl hkl
          generalize itL L0 k = M at HS
          obtain ⟨n, hn⟩ : ∃ n, xs.length = n := ⟨_, rfl⟩
          have HN := Aside0.mk hn
          rw [hn] at HS hcx hcy hkl
          rw [hn]
          clear hn hwl
          have hnn : ((n : Int) == (n : Int)) = true := beq_iff_eq.2 rfl
          go_wp2_with fail
          refine ((len_ag ga M tn).call (F := [HP.row (Kd.int .i64) 3 (.slice Ay n cy) xs, agS gb M tn, HP.row (Kd.int .i64) 3 (.slice Ax n cx) xs]) (HS.mv 3) (fun _ _ _ _ => trivial)).mono ?_
          rintro e_ w6 ⟨rfl, HS_⟩
          clear HS
          have HS : St w S w6 [agS ga M tn, HP.row (Kd.int .i64) 3 (.slice Ay n cy) xs, agS gb M tn, HP.row (Kd.int .i64) 3 (.slice Ax n cx) xs] := HS_
          clear HS_
          go_wp2_with fail
          refine ((len_ag gb M tn).call (F := [agS ga M tn, HP.row (Kd.int .i64) 3 (.slice Ay n cy) xs, HP.row (Kd.int .i64) 3 (.slice Ax n cx) xs]) (HS.mv 2) (fun _ _ _ _ => trivial)).mono ?_
          rintro e_ w7 ⟨rfl, HS_⟩
          clear HS
          have HS : St w S w7 [HP.row (Kd.int .i64) 3 (.slice Ay n cy) xs, HP.row (Kd.int .i64) 3 (.slice Ax n cx) xs] := ((HS_.out 0).out 0)
          clear HS_
          have hmm2 : ((M.length : Int) == (M.length : Int)) = true := beq_iff_eq.2 rfl
          go_wp2_with fail
          go_loopw [101] (fun v101 w' => ∃ i : Nat, i ≤ n ∧ v101 = .int .i64 i ∧ St w S w' [HP.row (Kd.int .i64) 3 (.slice Ay n cy) xs, HP.row (Kd.int .i64) 3 (.slice Ax n cx) xs]) (fun v101 _ => n - (intOf v101).toNat)
          case atStart => exact ⟨0, Nat.zero_le _, rfl, HS⟩
          case round =>
            clear HS
            obtain ⟨i, hi, rfl, HS⟩ := hrel
            by_cases hil : i < n
            · have hilI : (i : Int) < (n : Int) := by omega
              have hi0 : (0 : Int) ≤ (i : Int) := by omega
              have hid : decide ((i : Int) < (n : Int)) = true := decide_eq_true hilI
              have hix : i < xs.length := by rw [HN.out]; exact hil
              obtain ⟨gy, c3, ev⟩ := St.row_form HS (by omega)
              obtain ⟨rfl, -, rfl⟩ : Ay = some ⟨gy, 0, none⟩ ∧ n = xs.length ∧ cy = c3 := by simpa using ev
              clear ev
              obtain ⟨gx, c4, ev⟩ := St.row_form (HS.mv 1) (by omega)
              obtain ⟨rfl, -, rfl⟩ : Ax = some ⟨gx, 0, none⟩ ∧ n = xs.length ∧ cx = c4 := by simpa using ev
              clear ev
              have p0 := int_cell HS i hix
              have p1 := int_cell (HS.mv 1) i hix
              obtain ⟨z, hz⟩ : ∃ z, xs[i] = z := ⟨_, rfl⟩
              rw [hz] at p0 p1
              have hzz : (z == z) = true := beq_iff_eq.2 rfl
              clear hz hix
              go_wp2_with fail
              go_quiet (fail)
              generalize hwq : World.drewN wr _ = wq
              have H5 := hwq ▸ HS.drewN _
              clear hwq HS p0 p1
              go_wp2
              go_roundw
              case rel => exact ⟨i + 1, by omega, by go_num, H5⟩
              case measure => simp [intOf]; omega
            · obtain rfl : i = n := by omega
              have hid : decide ((i : Int) < (i : Int)) = false := decide_eq_false (by omega)
              go_wp2
              go_ret
              exact ⟨rfl, (HS.out 0).out 0⟩
        · obtain ⟨hok, hM, hwh⟩ := taking_ok HT.out
          obtain ⟨b2, x2, hpr, hT2⟩ := taking_first hok (Int.le_refl mx)
          have hms := pop_meas (it_uniq HUQ.out (kb + 1)) hpr
          have hwl := (it_len HUQ.out kb HT.out.ok)
          have hq0 := agS_len (HS.mv 1)
          rw [hM] at HS hq0
          have hkl : (wh L0 kb).length ≤ 400 := by omega
          have HPR := Aside0.mk hpr
          have HT2 := Aside0.mk hT2
          have HWH := Aside0.mk hwh
          clear hok hM hwh hpr hT2 hwl
          go_wp2_with (first
            | ((with_reducible refine gate_dst (N := 85) rfl ?_); refine ev_lit (Kd.int .i64) 3 ?hg (N := 85) ?hd (xs := [x]) (inner := [.int .i64 x]) HS ?hr ?hp (by simp) ?_; (case hd => rfl); (case hg => rfl); (case hr => first | (go_simp; done) | (go_simp; rfl)); (case hp => exact reps1_ (by exact rfl) rfl); intro v8 w8 H3; clear HS; obtain ⟨B8, d8, rfl, hd8, hC8⟩ := St.row_C H3; clear hC8)
            | ((with_reducible refine gate_dst (N := 86) rfl ?_); at_builtin; refine ev_rows (Kd.int .i64) flatInt rfl (.tmp 83) (.tmp 85) 46 3 _ 8 rfl Try.underlying46 infoInt rfl (by decide) (by omega) u12 (wh L0 kb) [x] B8 d8 rfl rfl (H3.mv 1) ?hc ?hl ?_; (case hc => exact (St.row_reads H3).2.2); (case hl => (simp only [List.length_singleton]; omega)); intro v9 w9 H4; clear H3))
          have HS : St w S w9 [agS gb (itL L0 (kb + 1)) tn, HP.row (Kd.int .i64) 3 v9 (wh L0 (kb + 1)), HP.row (Kd.int .i64) 3 u11 (wh L0 k), agS ga (itL L0 k) tn] := by
            rw [HWH.out]
            exact (H4.out 1).mv 1
          clear H4
          refine ((pop_ag gb (itL L0 (kb + 1)) tn mx htn).call (F := [HP.row (Kd.int .i64) 3 v9 (wh L0 (kb + 1)), HP.row (Kd.int .i64) 3 u11 (wh L0 k), agS ga (itL L0 k) tn]) HS (fun _ _ _ _ => trivial)).mono ?_
          rintro e_ w10 ⟨rfl, HS_⟩
          clear HS
          rw [HPR.out]
          have HS : St w S w10 [HP.row (Kd.int .i64) 3 v9 (wh L0 (kb + 1)), agS gb (popL (itL L0 (kb + 1)) mx) tn, HP.row (Kd.int .i64) 3 u11 (wh L0 k), agS ga (itL L0 k) tn] := HS_.mv 1
          clear HS_
          have hq1 := agS_len (HS.mv 1)
          have hlt2 : 2 * qLen w10 gb + okN (.bool b2) < 2 * qLen wr gb + okN (.bool true) := by
            show _ < 2 * qLen wr gb + 1
            omega
          have HLT := Aside0.mk hlt2
          clear hq0 hq1 hms hlt2
          go_wp2
          go_roundw
          case rel => exact ⟨kb + 1, b2, x2, _, rfl, rfl, HT2, HS⟩
          case measure => exact HLT.out
end Go.Proofs.Ytiobcknobbimoaa.Ag
