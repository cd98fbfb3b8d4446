/- The law of the plays, walked. -/
import Derived.Test.YtepenfgeeggjmaaPlaysH
namespace Go.Proofs.Ytepenfgeeggjmaa.Ver
open Go.RowKit Go.Proofs.YtepenfgeeggjmaaW.PrintWords Go.Proofs.YtepenfgeeggjmaaW.PrintLast Go.Proofs.YtepenfgeeggjmaaW.PrintMore Go.Proofs.Ytepenfgeeggjmaa.Sl Go.Proofs.Ytepenfgeeggjmaa.Str Go.Proofs.Ytepenfgeeggjmaa.Row
set_option linter.unusedVariables false
set_option linter.unusedSimpArgs false
theorem inner_put (rows : List Rw) (ns : List Value) (hn : ns.length = rows.length) (j : Nat) (hj : j < rows.length) (vs' : List Vn) :
    (inner rows ns).set j (HP.row kVn 29 (ns[j]'(by omega)) vs') = inner (rows.set j ⟨rows[j].key, vs'⟩) ns := by
  apply List.ext_getElem?
  intro i
  by_cases e : j = i
  · subst e
    rw [List.getElem?_set_self (by simp [inner]; omega)]
    simp [inner, List.getElem?_zipWith, hj, hn]
  · rw [List.getElem?_set_ne e]
    simp [inner, List.getElem?_zipWith, List.getElem?_set_ne e]
theorem eqb_yes {a b : Int} (h : a = b) : (a == b) = true := beq_iff_eq.2 h
theorem eqb_no {a b : Int} (h : ¬ a = b) : (a == b) = false := by simpa using h
set_option maxHeartbeats 8000000 in
set_option maxRecDepth 20000 in
theorem versionPlays_fun (A1 : Option Addr) (c1 : Nat) (script : List OpV) (hB1 : ∀ x ∈ script, x.key.size ≤ 140737488351232 ∧ x.fr.size ≤ 140737488351232) (hc1 : script.length ≤ c1) :
    FunV Try.prog 5 #[.slice A1 script.length c1] (fun w => Kd.C kOp w A1 script.length script) [] (.bool true) [] := by
  intro w S hS hR
  have HS := St.start hS
  have HR := Aside0.mk hR
  have HB1 := Aside0.mk hB1
  clear hS hR hB1
  have hu31 := Try.underlying31
  have hu29 := Try.underlying29
  have hu24 := Try.underlying24
  have hu22 := Try.underlying22
  have hu39 := Try.underlying39
  have hu34 := Try.underlying34
  have hu45 := Try.underlying45
  have hu53 := Try.underlying53
  have hu48 := Try.underlying48
  have hu51 := Try.underlying51
  go_enter Try.func5, Try.ntmps5
  go_wp2_with fail
  refine (awake_fun.call (F := []) HS (fun _ _ _ _ => trivial)).mono ?_
  rintro e_ w2 ⟨rfl, HS_⟩
  clear HS
  have HS : St w S w2 [] := HS_
  clear HS_
  rcases Nat.lt_or_ge 120 script.length with hl1 | hl1
  · have hd1 : decide ((script.length : Int) > 120) = true := decide_eq_true (by omega)
    go_wp2_with fail
    refine (awake_fun.call (F := []) HS (fun _ _ _ _ => trivial)).mono ?_
    rintro e_ w3 ⟨rfl, HS_⟩
    clear HS
    have HS : St w S w3 [] := HS_
    clear HS_
    go_wp2
    go_ret
    exact ⟨rfl, HS⟩
  have hd1 : decide ((script.length : Int) > 120) = false := decide_eq_false (by omega)
  go_wp2_with fail
  refine (newS_fun.call (F := []) HS (fun _ _ _ _ => trivial)).mono ?_
  rintro e_ w3 ⟨r_, rfl, HS_⟩
  clear HS
  obtain ⟨gs, HS_⟩ := St.ex_ HS_
  obtain ⟨hr_, HS2_⟩ := St.and_ HS_
  subst hr_
  have HS : St w S w3 [someH gs []] := HS2_
  clear HS_ HS2_ hd1
  go_wp2_with ((with_reducible refine gate_dst (N := 21) rfl ?_); refine ev_box ?hg (N := 21) ?hd (cs := [.slice none 0 0]) (t := 45) HS ?hr ?_; (case hd => rfl); (case hg => rfl); (case hr => first | (go_simp; done) | (go_simp; rfl)); intro gl w4 HS_ hg_; clear HS; have HS := HS_; clear HS_)
  have H1 : St w S w4 [docH gl [], someH gs []] := St.ex_in (.slice none 0 0) (logH_shut ((HS.nil_ kOne 68).mv 1))
  have HS_ : St w S w4 [someH gs (rowsL []), docH gl []] := H1.mv 1
  clear HS H1
  have HS := HS_
  clear HS_
  go_loopw [24] (fun v24 w' => ∃ (j : Nat) (log : Log), j ≤ script.length ∧ v24 = .int .i64 j ∧ Aside0 (Both log j) ∧ St w S w' [someH gs (rowsL log), docH gl log]) (fun v24 _ => script.length - (intOf v24).toNat)
  case atStart => exact ⟨0, [], Nat.zero_le _, rfl, ⟨both_nil⟩, HS⟩
  case round =>
    clear HS
    obtain ⟨j, log, hj, rfl, HK, HS⟩ := hrel
    have hlog := HK.out.len
    by_cases hlt : j < script.length
    · have hltI : (j : Int) < (script.length : Int) := by omega
      have hj0 : (0 : Int) ≤ (j : Int) := by omega
      have hjd : decide ((j : Int) < (script.length : Int)) = true := decide_eq_true hltI
      obtain ⟨ad, rfl, i0, i1, i2, i3, i4, i5, i6, i7⟩ := at_Op (HR.out wr HS.ext) j hlt
      have hbx := HB1.out script[j] (List.getElem_mem hlt)
      obtain ⟨x, hx⟩ : ∃ x, script[j] = x := ⟨_, rfl⟩
      rw [hx] at i0 i1 i2 i3 i4 i5 i6 i7 hbx
      obtain ⟨hbk, hbf⟩ := hbx
      clear hx
      go_upto_region 7 with (first
        | ((with_reducible refine gate_dst (N := 6) rfl ?_); refine ev_box ?hg (N := 6) ?hd (cs := [.int .i64 0, .string ⟨#[]⟩, .int .i64 0, .string ⟨#[]⟩, .bool false, .string ⟨#[]⟩, .string ⟨#[]⟩, .int .i64 0]) (t := 31) HS ?hr ?_; (case hd => rfl); (case hg => rfl); (case hr => first | (go_simp; done) | (go_simp; rfl)); intro ob w5 HS_ hg_ob; clear HS; have HS := HS_; clear HS_; clear i0 i1 i2 i3 i4 i5 i6 i7)
        | ((with_reducible refine gate_ (.store 31 (.tmp 6) (.tmp 27)) rfl ?_); refine ev_store rfl rfl 31 (.tmp 6) (.tmp 27) rfl HS rfl rfl (seg := [.int .i64 x.kind, .string x.key, .int .i64 x.ts, .string x.val, .bool x.dead, .string x.fr, .string x.upto, .int .i64 x.at_]) rfl ?ht rfl ?hf ?_; (case ht => kernel_rfl); (case hf => first | (simp; done) | (simp [splice]; done)); intro w6 HS_; clear HS; have HS : St w S w6 [HP.obj ob 31 (opC x), someH gs (rowsL log), docH gl log] := HS_; clear HS_))
      simp only [Act.put, List.setIfInBounds_toArray, List.set_cons_zero, List.set_cons_succ]
      go_cut [45] (fun v45 wc => v45 = .bool false ∧ ∃ log2, Aside0 (Both log2 (j + 1)) ∧ St w S wc [HP.obj ob 31 (opC x), someH gs (rowsL log2), docH gl log2])
      case first =>
        by_cases hkd : x.kind = 1
        · have hkb := eqb_yes hkd
          have HP1 := Aside0.mk (both_put HK.out x.key hbk (opVn x))
          have HPE := Aside0.mk (putErr_eq log HK.out.good x.key (opVn x))
          clear hkd
          refine start_ (n := 18) (S := fun w' => w'.cell? ⟨ob, 0, none⟩ = some (.int .i64 x.kind) ∧ w'.cell? ⟨ob, 1, none⟩ = some (.string x.key) ∧ w'.cell? ⟨ob, 2, none⟩ = some (.int .i64 x.ts) ∧ w'.cell? ⟨ob, 3, none⟩ = some (.string x.val) ∧ w'.cell? ⟨ob, 4, none⟩ = some (.bool x.dead)) (ds := []) #[false, false, false, false, false, false, false, false, false, false, false, false, false, false, false, false, false, false] (by kernel_rfl) rfl rfl ⟨HS.drew.cell 0, HS.drew.cell 1, HS.drew.cell 2, HS.drew.cell 3, HS.drew.cell 4⟩ (fun hHeld => ?_)
          refine pure_ (i := 0) (N := some 28) (v := ?_) (a' := ?_) #[true, false, false, false, false, false, false, false, false, false, false, false, false, false, false, false, false, false] rfl rfl (by kernel_rfl) (fun _ _ _ h => h) (Or.inl ⟨by rfl, ?_⟩) ?_ ?_
          rotate_left
          · intro w'
            go_simp
            with_reducible rfl
          rotate_left
          · simp only [Act.put, List.setIfInBounds_toArray, List.set_cons_zero, List.set_cons_succ, i64_w, i32_w]
            rfl
          refine take_ (i := 1) (N := some 29) (v := ?_) (a' := ?_) #[true, true, false, false, false, false, false, false, false, false, false, false, false, false, false, false, false, false] rfl rfl (by kernel_rfl) (fun _ _ _ h => h) (Or.inl ⟨by rfl, ?_⟩) hHeld ?_ ?_
          rotate_left
          · rintro w' ⟨s0, s1, s2, s3, s4⟩
            go_simp
            with_reducible rfl
          rotate_left
          · simp only [Act.put, List.setIfInBounds_toArray, List.set_cons_zero, List.set_cons_succ, i64_w, i32_w]
            rfl
          refine pure_ (i := 2) (N := some 30) (v := ?_) (a' := ?_) #[true, true, true, false, false, false, false, false, false, false, false, false, false, false, false, false, false, false] rfl rfl (by kernel_rfl) (fun _ _ _ h => h) (Or.inl ⟨by rfl, ?_⟩) ?_ ?_
          rotate_left
          · intro w'
            go_simp
            with_reducible rfl
          rotate_left
          · simp only [Act.put, List.setIfInBounds_toArray, List.set_cons_zero, List.set_cons_succ, i64_w, i32_w]
            rfl
          refine pure_ (i := 3) (N := some 31) (v := ?_) (a' := ?_) #[true, true, true, true, false, false, false, false, false, false, false, false, false, false, false, false, false, false] rfl rfl (by kernel_rfl) (fun _ _ _ h => h) (Or.inl ⟨by rfl, ?_⟩) ?_ ?_
          rotate_left
          · intro w'
            go_simp
            with_reducible rfl
          rotate_left
          · simp only [Act.put, List.setIfInBounds_toArray, List.set_cons_zero, List.set_cons_succ, i64_w, i32_w]
            rfl
          refine pure_ (i := 4) (N := some 32) (v := ?_) (a' := ?_) #[true, true, true, true, true, false, false, false, false, false, false, false, false, false, false, false, false, false] rfl rfl (by kernel_rfl) (fun _ _ _ h => h) (Or.inl ⟨by rfl, ?_⟩) ?_ ?_
          rotate_left
          · intro w'
            go_simp
            with_reducible rfl
          rotate_left
          · simp only [Act.put, List.setIfInBounds_toArray, List.set_cons_zero, List.set_cons_succ, i64_w, i32_w]
            rfl
          refine pure_ (i := 5) (N := some 33) (v := ?_) (a' := ?_) #[true, true, true, true, true, true, false, false, false, false, false, false, false, false, false, false, false, false] rfl rfl (by kernel_rfl) (fun _ _ _ h => h) (Or.inl ⟨by rfl, ?_⟩) ?_ ?_
          rotate_left
          · intro w'
            go_simp
            with_reducible rfl
          rotate_left
          · simp only [Act.put, List.setIfInBounds_toArray, List.set_cons_zero, List.set_cons_succ, i64_w, i32_w]
            rfl
          refine pure_ (i := 7) (N := some 35) (v := ?_) (a' := ?_) #[true, true, true, true, true, true, false, true, false, false, false, false, false, false, false, false, false, false] rfl rfl (by kernel_rfl) (fun _ _ _ h => h) (Or.inl ⟨by rfl, ?_⟩) ?_ ?_
          rotate_left
          · intro w'
            go_simp
            with_reducible rfl
          rotate_left
          · simp only [Act.put, List.setIfInBounds_toArray, List.set_cons_zero, List.set_cons_succ, i64_w, i32_w]
            rfl
          refine pure_ (i := 10) (N := some 38) (v := ?_) (a' := ?_) #[true, true, true, true, true, true, false, true, false, false, true, false, false, false, false, false, false, false] rfl rfl (by kernel_rfl) (fun _ _ _ h => h) (Or.inl ⟨by rfl, ?_⟩) ?_ ?_
          rotate_left
          · intro w'
            go_simp
            with_reducible rfl
          rotate_left
          · simp only [Act.put, List.setIfInBounds_toArray, List.set_cons_zero, List.set_cons_succ, i64_w, i32_w]
            rfl
          refine pure_ (i := 11) (N := some 39) (v := ?_) (a' := ?_) #[true, true, true, true, true, true, false, true, false, false, true, true, false, false, false, false, false, false] rfl rfl (by kernel_rfl) (fun _ _ _ h => h) (Or.inl ⟨by rfl, ?_⟩) ?_ ?_
          rotate_left
          · intro w'
            go_simp
            with_reducible rfl
          rotate_left
          · simp only [Act.put, List.setIfInBounds_toArray, List.set_cons_zero, List.set_cons_succ, i64_w, i32_w]
            rfl
          refine pure_ (i := 13) (N := some 41) (v := ?_) (a' := ?_) #[true, true, true, true, true, true, false, true, false, false, true, true, false, true, false, false, false, false] rfl rfl (by kernel_rfl) (fun _ _ _ h => h) (Or.inl ⟨by rfl, ?_⟩) ?_ ?_
          rotate_left
          · intro w'
            go_simp
            with_reducible rfl
          rotate_left
          · simp only [Act.put, List.setIfInBounds_toArray, List.set_cons_zero, List.set_cons_succ, i64_w, i32_w]
            rfl
          refine take_ (i := 6) (N := some 34) (v := ?_) (a' := ?_) #[true, true, true, true, true, true, true, true, false, false, true, true, false, true, false, false, false, false] rfl rfl (by kernel_rfl) (fun _ _ _ h => h) (Or.inl ⟨by rfl, ?_⟩) hHeld ?_ ?_
          rotate_left
          · rintro w' ⟨s0, s1, s2, s3, s4⟩
            go_simp
            with_reducible rfl
          rotate_left
          · simp only [Act.put, List.setIfInBounds_toArray, List.set_cons_zero, List.set_cons_succ, i64_w, i32_w]
            rfl
          refine take_ (i := 8) (N := some 36) (v := ?_) (a' := ?_) #[true, true, true, true, true, true, true, true, true, false, true, true, false, true, false, false, false, false] rfl rfl (by kernel_rfl) (fun _ _ _ h => h) (Or.inl ⟨by rfl, ?_⟩) hHeld ?_ ?_
          rotate_left
          · rintro w' ⟨s0, s1, s2, s3, s4⟩
            go_simp
            with_reducible rfl
          rotate_left
          · simp only [Act.put, List.setIfInBounds_toArray, List.set_cons_zero, List.set_cons_succ, i64_w, i32_w]
            rfl
          refine take_ (i := 12) (N := some 40) (v := ?_) (a' := ?_) #[true, true, true, true, true, true, true, true, true, false, true, true, true, true, false, false, false, false] rfl rfl (by kernel_rfl) (fun _ _ _ h => h) (Or.inl ⟨by rfl, ?_⟩) hHeld ?_ ?_
          rotate_left
          · rintro w' ⟨s0, s1, s2, s3, s4⟩
            go_simp
            with_reducible rfl
          rotate_left
          · simp only [Act.put, List.setIfInBounds_toArray, List.set_cons_zero, List.set_cons_succ, i64_w, i32_w]
            rfl
          refine take_ (i := 14) (N := some 42) (v := ?_) (a' := ?_) #[true, true, true, true, true, true, true, true, true, false, true, true, true, true, true, false, false, false] rfl rfl (by kernel_rfl) (fun _ _ _ h => h) (Or.inl ⟨by rfl, ?_⟩) hHeld ?_ ?_
          rotate_left
          · rintro w' ⟨s0, s1, s2, s3, s4⟩
            go_simp
            with_reducible rfl
          rotate_left
          · simp only [Act.put, List.setIfInBounds_toArray, List.set_cons_zero, List.set_cons_succ, i64_w, i32_w]
            rfl
          refine one_ (i := 9) (N := some 37) #[true, true, true, true, true, true, true, true, true, true, true, true, true, true, true, false, false, false] rfl rfl (by kernel_rfl) (by decide) (fun K hK => ?_)
          refine goes_ Try.func10 (by kernel_rfl) rfl #[.pointer (some ⟨gs, 0, none⟩), .string x.key, .agg #[.int .i64 x.ts, .string x.val, .bool x.dead]] (by rfl) rfl rfl (by simp only [List.map_toArray, List.map_cons, List.map_nil]; rfl) ?_
          refine ((putS_fun gs (rowsL log) j HK.out.kept (by omega) x.key (opVn x)).call (F := [HP.obj ob 31 (opC x), docH gl log]) (HS.drew.mv 1) (fun _ _ _ _ => trivial)).mono ?_
          rintro e_ w7 ⟨rfl, HS_⟩
          refine ⟨_, rfl, ?_⟩
          clear HS
          have HS : St w S w7 [HP.obj ob 31 (opC x), someH gs (put (rowsL log) x.key (opVn x)), docH gl log] := HS_.mv 1
          clear HS_
          rw [HPE.out]
          refine hK.out _ _ ⟨HS.cell 0, HS.cell 1, HS.cell 2, HS.cell 3, HS.cell 4⟩ (fun hHeld => ?_)
          clear hK K
          refine norm_ (a' := ?_) ?_ ?_
          rotate_left
          · show Act.put _ (some 37) _ = _
            simp only [Act.put, List.setIfInBounds_toArray, List.set_cons_zero, List.set_cons_succ, i64_w, i32_w]
            rfl
          refine one_ (i := 15) (N := some 43) #[true, true, true, true, true, true, true, true, true, true, true, true, true, true, true, true, false, false] rfl rfl (by kernel_rfl) (by decide) (fun K hK => ?_)
          refine goes_ Try.func14 (by kernel_rfl) rfl #[.pointer (some ⟨gl, 0, none⟩), .string x.key, .agg #[.int .i64 x.ts, .string x.val, .bool x.dead]] (by rfl) rfl rfl (by simp only [List.map_toArray, List.map_cons, List.map_nil]; rfl) ?_
          refine ((refPutS gl log (by omega) x.key (opVn x)).call (F := [HP.obj ob 31 (opC x), someH gs (put (rowsL log) x.key (opVn x))]) (HS.mv 2) (fun _ _ _ _ => trivial)).mono ?_
          rintro e_ w8 ⟨rfl, HS_⟩
          refine ⟨_, rfl, ?_⟩
          clear HS
          have HS : St w S w8 [HP.obj ob 31 (opC x), someH gs (put (rowsL log) x.key (opVn x)), docH gl (putL log x.key (opVn x))] := (HS_.mv 2).mv 2
          clear HS_
          refine hK.out _ _ ⟨HS.cell 0, HS.cell 1, HS.cell 2, HS.cell 3, HS.cell 4⟩ (fun hHeld => ?_)
          clear hK K
          refine norm_ (a' := ?_) ?_ ?_
          rotate_left
          · show Act.put _ (some 43) _ = _
            simp only [Act.put, List.setIfInBounds_toArray, List.set_cons_zero, List.set_cons_succ, i64_w, i32_w]
            rfl
          refine pure_ (i := 16) (N := some 44) (v := ?_) (a' := ?_) #[true, true, true, true, true, true, true, true, true, true, true, true, true, true, true, true, true, false] rfl rfl (by kernel_rfl) (fun _ _ _ h => h) (Or.inl ⟨by rfl, ?_⟩) ?_ ?_
          rotate_left
          · intro w'
            go_simp
            with_reducible rfl
          rotate_left
          · simp only [Act.put, List.setIfInBounds_toArray, List.set_cons_zero, List.set_cons_succ, i64_w, i32_w]
            rfl
          refine pure_ (i := 17) (N := some 45) (v := ?_) (a' := ?_) #[true, true, true, true, true, true, true, true, true, true, true, true, true, true, true, true, true, true] rfl rfl (by kernel_rfl) (fun _ _ _ h => h) (Or.inl ⟨by rfl, ?_⟩) ?_ ?_
          rotate_left
          · intro w'
            go_simp
            with_reducible rfl
          rotate_left
          · simp only [Act.put, List.setIfInBounds_toArray, List.set_cons_zero, List.set_cons_succ, i64_w, i32_w]
            rfl
          refine done_ (by kernel_rfl) ?_
          clear hHeld
          go_wp2
          go_meet
          have HE : St w S w8 [HP.obj ob 31 (opC x), someH gs (rowsL (putL log x.key (opVn x))), docH gl (putL log x.key (opVn x))] := by rw [← HP1.out.2]; exact HS
          exact ⟨by first | rfl | simp, _, ⟨HP1.out.1⟩, HE⟩
        · have hkb := eqb_no hkd
          clear hkd
          refine start_ (n := 18) (S := fun w' => w'.cell? ⟨ob, 0, none⟩ = some (.int .i64 x.kind)) (ds := []) #[false, false, false, false, false, false, false, false, false, false, false, false, false, false, false, false, false, false] (by kernel_rfl) rfl rfl (HS.drew.cell 0) (fun hHeld => ?_)
          refine pure_ (i := 0) (N := some 28) (v := ?_) (a' := ?_) #[true, false, false, false, false, false, false, false, false, false, false, false, false, false, false, false, false, false] rfl rfl (by kernel_rfl) (fun _ _ _ h => h) (Or.inl ⟨by rfl, ?_⟩) ?_ ?_
          rotate_left
          · intro w'
            go_simp
            with_reducible rfl
          rotate_left
          · simp only [Act.put, List.setIfInBounds_toArray, List.set_cons_zero, List.set_cons_succ, i64_w, i32_w]
            rfl
          refine take_ (i := 1) (N := some 29) (v := ?_) (a' := ?_) #[true, true, false, false, false, false, false, false, false, false, false, false, false, false, false, false, false, false] rfl rfl (by kernel_rfl) (fun _ _ _ h => h) (Or.inl ⟨by rfl, ?_⟩) hHeld ?_ ?_
          rotate_left
          · intro w' s0
            go_simp
            with_reducible rfl
          rotate_left
          · simp only [Act.put, List.setIfInBounds_toArray, List.set_cons_zero, List.set_cons_succ, i64_w, i32_w]
            rfl
          refine pure_ (i := 2) (N := some 30) (v := ?_) (a' := ?_) #[true, true, true, false, false, false, false, false, false, false, false, false, false, false, false, false, false, false] rfl rfl (by kernel_rfl) (fun _ _ _ h => h) (Or.inl ⟨by rfl, ?_⟩) ?_ ?_
          rotate_left
          · intro w'
            go_simp
            with_reducible rfl
          rotate_left
          · simp only [Act.put, List.setIfInBounds_toArray, List.set_cons_zero, List.set_cons_succ, i64_w, i32_w]
            rfl
          refine pure_ (i := 3) (N := some 31) (v := ?_) (a' := ?_) #[true, true, true, true, false, false, false, false, false, false, false, false, false, false, false, false, false, false] rfl rfl (by kernel_rfl) (fun _ _ _ h => h) (Or.inl ⟨by rfl, ?_⟩) ?_ ?_
          rotate_left
          · intro w'
            go_simp
            with_reducible rfl
          rotate_left
          · simp only [Act.put, List.setIfInBounds_toArray, List.set_cons_zero, List.set_cons_succ, i64_w, i32_w]
            rfl
          refine pure_ (i := 4) (N := some 32) (v := undef) (a' := ?_) #[true, true, true, true, true, false, false, false, false, false, false, false, false, false, false, false, false, false] rfl rfl (by kernel_rfl) (fun _ _ _ h => h) (Or.inr ⟨by rfl, rfl⟩) ?_ ?_
          rotate_left
          · simp only [Act.put, List.setIfInBounds_toArray, List.set_cons_zero, List.set_cons_succ, i64_w, i32_w]
            rfl
          refine pure_ (i := 5) (N := some 33) (v := undef) (a' := ?_) #[true, true, true, true, true, true, false, false, false, false, false, false, false, false, false, false, false, false] rfl rfl (by kernel_rfl) (fun _ _ _ h => h) (Or.inr ⟨by rfl, rfl⟩) ?_ ?_
          rotate_left
          · simp only [Act.put, List.setIfInBounds_toArray, List.set_cons_zero, List.set_cons_succ, i64_w, i32_w]
            rfl
          refine pure_ (i := 6) (N := some 34) (v := undef) (a' := ?_) #[true, true, true, true, true, true, true, false, false, false, false, false, false, false, false, false, false, false] rfl rfl (by kernel_rfl) (fun _ _ _ h => h) (Or.inr ⟨by rfl, rfl⟩) ?_ ?_
          rotate_left
          · simp only [Act.put, List.setIfInBounds_toArray, List.set_cons_zero, List.set_cons_succ, i64_w, i32_w]
            rfl
          refine pure_ (i := 7) (N := some 35) (v := undef) (a' := ?_) #[true, true, true, true, true, true, true, true, false, false, false, false, false, false, false, false, false, false] rfl rfl (by kernel_rfl) (fun _ _ _ h => h) (Or.inr ⟨by rfl, rfl⟩) ?_ ?_
          rotate_left
          · simp only [Act.put, List.setIfInBounds_toArray, List.set_cons_zero, List.set_cons_succ, i64_w, i32_w]
            rfl
          refine pure_ (i := 8) (N := some 36) (v := undef) (a' := ?_) #[true, true, true, true, true, true, true, true, true, false, false, false, false, false, false, false, false, false] rfl rfl (by kernel_rfl) (fun _ _ _ h => h) (Or.inr ⟨by rfl, rfl⟩) ?_ ?_
          rotate_left
          · simp only [Act.put, List.setIfInBounds_toArray, List.set_cons_zero, List.set_cons_succ, i64_w, i32_w]
            rfl
          refine pure_ (i := 9) (N := some 37) (v := undef) (a' := ?_) #[true, true, true, true, true, true, true, true, true, true, false, false, false, false, false, false, false, false] rfl rfl (by kernel_rfl) (fun _ _ _ h => h) (Or.inr ⟨by rfl, rfl⟩) ?_ ?_
          rotate_left
          · simp only [Act.put, List.setIfInBounds_toArray, List.set_cons_zero, List.set_cons_succ, i64_w, i32_w]
            rfl
          refine pure_ (i := 10) (N := some 38) (v := undef) (a' := ?_) #[true, true, true, true, true, true, true, true, true, true, true, false, false, false, false, false, false, false] rfl rfl (by kernel_rfl) (fun _ _ _ h => h) (Or.inr ⟨by rfl, rfl⟩) ?_ ?_
          rotate_left
          · simp only [Act.put, List.setIfInBounds_toArray, List.set_cons_zero, List.set_cons_succ, i64_w, i32_w]
            rfl
          refine pure_ (i := 11) (N := some 39) (v := undef) (a' := ?_) #[true, true, true, true, true, true, true, true, true, true, true, true, false, false, false, false, false, false] rfl rfl (by kernel_rfl) (fun _ _ _ h => h) (Or.inr ⟨by rfl, rfl⟩) ?_ ?_
          rotate_left
          · simp only [Act.put, List.setIfInBounds_toArray, List.set_cons_zero, List.set_cons_succ, i64_w, i32_w]
            rfl
          refine pure_ (i := 12) (N := some 40) (v := undef) (a' := ?_) #[true, true, true, true, true, true, true, true, true, true, true, true, true, false, false, false, false, false] rfl rfl (by kernel_rfl) (fun _ _ _ h => h) (Or.inr ⟨by rfl, rfl⟩) ?_ ?_
          rotate_left
          · simp only [Act.put, List.setIfInBounds_toArray, List.set_cons_zero, List.set_cons_succ, i64_w, i32_w]
            rfl
          refine pure_ (i := 13) (N := some 41) (v := undef) (a' := ?_) #[true, true, true, true, true, true, true, true, true, true, true, true, true, true, false, false, false, false] rfl rfl (by kernel_rfl) (fun _ _ _ h => h) (Or.inr ⟨by rfl, rfl⟩) ?_ ?_
          rotate_left
          · simp only [Act.put, List.setIfInBounds_toArray, List.set_cons_zero, List.set_cons_succ, i64_w, i32_w]
            rfl
          refine pure_ (i := 14) (N := some 42) (v := undef) (a' := ?_) #[true, true, true, true, true, true, true, true, true, true, true, true, true, true, true, false, false, false] rfl rfl (by kernel_rfl) (fun _ _ _ h => h) (Or.inr ⟨by rfl, rfl⟩) ?_ ?_
          rotate_left
          · simp only [Act.put, List.setIfInBounds_toArray, List.set_cons_zero, List.set_cons_succ, i64_w, i32_w]
            rfl
          refine pure_ (i := 15) (N := some 43) (v := undef) (a' := ?_) #[true, true, true, true, true, true, true, true, true, true, true, true, true, true, true, true, false, false] rfl rfl (by kernel_rfl) (fun _ _ _ h => h) (Or.inr ⟨by rfl, rfl⟩) ?_ ?_
          rotate_left
          · simp only [Act.put, List.setIfInBounds_toArray, List.set_cons_zero, List.set_cons_succ, i64_w, i32_w]
            rfl
          refine pure_ (i := 16) (N := some 44) (v := undef) (a' := ?_) #[true, true, true, true, true, true, true, true, true, true, true, true, true, true, true, true, true, false] rfl rfl (by kernel_rfl) (fun _ _ _ h => h) (Or.inr ⟨by rfl, rfl⟩) ?_ ?_
          rotate_left
          · simp only [Act.put, List.setIfInBounds_toArray, List.set_cons_zero, List.set_cons_succ, i64_w, i32_w]
            rfl
          refine pure_ (i := 17) (N := some 45) (v := ?_) (a' := ?_) #[true, true, true, true, true, true, true, true, true, true, true, true, true, true, true, true, true, true] rfl rfl (by kernel_rfl) (fun _ _ _ h => h) (Or.inl ⟨by rfl, ?_⟩) ?_ ?_
          rotate_left
          · intro w'
            go_simp
            with_reducible rfl
          rotate_left
          · simp only [Act.put, List.setIfInBounds_toArray, List.set_cons_zero, List.set_cons_succ, i64_w, i32_w]
            rfl
          refine done_ (by kernel_rfl) ?_
          clear hHeld
          go_wp2
          go_meet
          exact ⟨by first | rfl | simp, log, ⟨both_mono HK.out (by omega)⟩, HS.drew⟩
      case rest =>
        clear HS HK hlog
        obtain ⟨rfl, log, HK, HS⟩ := hcut
        have hlog := HK.out.len
        have q5 : wc.cell? ⟨ob, 5, none⟩ = some (.string x.fr) := HS.cell 5
        have q6 : wc.cell? ⟨ob, 6, none⟩ = some (.string x.upto) := HS.cell 6
        have q7 : wc.cell? ⟨ob, 7, none⟩ = some (.int .i64 x.at_) := HS.cell 7
        go_wp2_with fail
        refine ((spanS_fun gs (rowsL log) (j + 1) HK.out.kept (by omega) x.fr x.upto x.at_).call (F := [HP.obj ob 31 (opC x), docH gl log]) (HS.mv 1) (fun _ _ _ _ => trivial)).mono ?_
        rintro e_ w9 ⟨rh, rfl, HS_⟩
        clear HS q5 q6 q7
        have HS : St w S w9 [HP.row kHt 39 rh (span (rowsL log) x.fr x.upto x.at_), someH gs (rowsL log), HP.obj ob 31 (opC x), docH gl log] := HS_
        clear HS_
        have hsl := span_len (rowsL log) x.fr x.upto x.at_
        have hrl := HK.out.kept.len
        obtain ⟨sp, hsp⟩ : ∃ sp, span (rowsL log) x.fr x.upto x.at_ = sp := ⟨_, rfl⟩
        rw [hsp] at HS hsl
        have HSP := Aside0.mk hsp
        clear hsp
        obtain ⟨Ah, ch, rfl, hch, hCh⟩ := St.row_C HS
        clear hCh
        go_upto_region 10 with (fail)
        go_cut [71] (fun v71 wc => v71 = .bool false ∧ St w S wc [HP.row kHt 39 (.slice Ah sp.length ch) sp, someH gs (rowsL log), HP.obj ob 31 (opC x), docH gl log])
        case first =>
          refine start_ (n := 20) (S := fun w' => w'.cell? ⟨ob, 1, none⟩ = some (.string x.key) ∧ w'.cell? ⟨ob, 5, none⟩ = some (.string x.fr) ∧ w'.cell? ⟨ob, 6, none⟩ = some (.string x.upto) ∧ w'.cell? ⟨ob, 7, none⟩ = some (.int .i64 x.at_)) (ds := []) #[false, false, false, false, false, false, false, false, false, false, false, false, false, false, false, false, false, false, false, false] (by kernel_rfl) rfl rfl ⟨(HS.drew.mv 2).cell 1, (HS.drew.mv 2).cell 5, (HS.drew.mv 2).cell 6, (HS.drew.mv 2).cell 7⟩ (fun hHeld => ?_)
          refine pure_ (i := 0) (N := some 52) (v := ?_) (a' := ?_) #[true, false, false, false, false, false, false, false, false, false, false, false, false, false, false, false, false, false, false, false] rfl rfl (by kernel_rfl) (fun _ _ _ h => h) (Or.inl ⟨by rfl, ?_⟩) ?_ ?_
          rotate_left
          · intro w'
            go_simp
            with_reducible rfl
          rotate_left
          · simp only [Act.put, List.setIfInBounds_toArray, List.set_cons_zero, List.set_cons_succ, i64_w, i32_w]
            rfl
          refine pure_ (i := 1) (N := some 53) (v := ?_) (a' := ?_) #[true, true, false, false, false, false, false, false, false, false, false, false, false, false, false, false, false, false, false, false] rfl rfl (by kernel_rfl) (fun _ _ _ h => h) (Or.inl ⟨by rfl, ?_⟩) ?_ ?_
          rotate_left
          · intro w'
            go_simp
            with_reducible rfl
          rotate_left
          · simp only [Act.put, List.setIfInBounds_toArray, List.set_cons_zero, List.set_cons_succ, i64_w, i32_w]
            rfl
          refine pure_ (i := 2) (N := some 54) (v := ?_) (a' := ?_) #[true, true, true, false, false, false, false, false, false, false, false, false, false, false, false, false, false, false, false, false] rfl rfl (by kernel_rfl) (fun _ _ _ h => h) (Or.inl ⟨by rfl, ?_⟩) ?_ ?_
          rotate_left
          · intro w'
            go_simp
            with_reducible rfl
          rotate_left
          · simp only [Act.put, List.setIfInBounds_toArray, List.set_cons_zero, List.set_cons_succ, i64_w, i32_w]
            rfl
          refine pure_ (i := 4) (N := some 56) (v := ?_) (a' := ?_) #[true, true, true, false, true, false, false, false, false, false, false, false, false, false, false, false, false, false, false, false] rfl rfl (by kernel_rfl) (fun _ _ _ h => h) (Or.inl ⟨by rfl, ?_⟩) ?_ ?_
          rotate_left
          · intro w'
            go_simp
            with_reducible rfl
          rotate_left
          · simp only [Act.put, List.setIfInBounds_toArray, List.set_cons_zero, List.set_cons_succ, i64_w, i32_w]
            rfl
          refine take_ (i := 3) (N := some 55) (v := ?_) (a' := ?_) #[true, true, true, true, true, false, false, false, false, false, false, false, false, false, false, false, false, false, false, false] rfl rfl (by kernel_rfl) (fun _ _ _ h => h) (Or.inl ⟨by rfl, ?_⟩) hHeld ?_ ?_
          rotate_left
          · rintro w' ⟨s0, s1, s2, s3⟩
            go_simp
            with_reducible rfl
          rotate_left
          · simp only [Act.put, List.setIfInBounds_toArray, List.set_cons_zero, List.set_cons_succ, i64_w, i32_w]
            rfl
          refine take_ (i := 5) (N := some 57) (v := ?_) (a' := ?_) #[true, true, true, true, true, true, false, false, false, false, false, false, false, false, false, false, false, false, false, false] rfl rfl (by kernel_rfl) (fun _ _ _ h => h) (Or.inl ⟨by rfl, ?_⟩) hHeld ?_ ?_
          rotate_left
          · rintro w' ⟨s0, s1, s2, s3⟩
            go_simp
            with_reducible rfl
          rotate_left
          · simp only [Act.put, List.setIfInBounds_toArray, List.set_cons_zero, List.set_cons_succ, i64_w, i32_w]
            rfl
          refine one_ (i := 6) (N := some 58) #[true, true, true, true, true, true, true, false, false, false, false, false, false, false, false, false, false, false, false, false] rfl rfl (by kernel_rfl) (by decide) (fun K hK => ?_)
          refine goes_ Try.func15 (by kernel_rfl) rfl #[.pointer (some ⟨gl, 0, none⟩), .agg #[.string x.fr, .string x.upto], .int .i64 x.at_] (by rfl) rfl rfl (by simp only [List.map_toArray, List.map_cons, List.map_nil]; rfl) ?_
          refine ((refSpanS gl log (by omega) HK.out.sized x.fr x.upto (by omega) x.at_).call (F := [HP.row kHt 39 (.slice Ah sp.length ch) sp, someH gs (rowsL log), HP.obj ob 31 (opC x)]) (HS.drew.mv 3) (fun _ _ _ _ => trivial)).mono ?_
          rintro e_ w10 ⟨rh2, rfl, HS_⟩
          refine ⟨_, rfl, ?_⟩
          rw [HSP.out] at HS_
          clear HS
          have HS : St w S w10 [HP.row kHt 39 rh2 sp, docH gl log, HP.row kHt 39 (.slice Ah sp.length ch) sp, someH gs (rowsL log), HP.obj ob 31 (opC x)] := HS_
          clear HS_
          refine hK.out _ _ ⟨(HS.mv 4).cell 1, (HS.mv 4).cell 5, (HS.mv 4).cell 6, (HS.mv 4).cell 7⟩ (fun hHeld => ?_)
          clear hK K
          refine norm_ (a' := ?_) ?_ ?_
          rotate_left
          · show Act.put _ (some 58) _ = _
            simp only [Act.put, List.setIfInBounds_toArray, List.set_cons_zero, List.set_cons_succ, i64_w, i32_w]
            rfl
          refine one_ (i := 7) (N := some 59) #[true, true, true, true, true, true, true, true, false, false, false, false, false, false, false, false, false, false, false, false] rfl rfl (by kernel_rfl) (by decide) (fun K hK => ?_)
          refine goes_ Try.func12 (by kernel_rfl) rfl #[.slice Ah sp.length ch, rh2] (by rfl) rfl rfl (by simp only [List.map_toArray, List.map_cons, List.map_nil]; rfl) ?_
          refine ((sameHits_fun (.slice Ah sp.length ch) rh2 sp (by omega)).call (F := [docH gl log, someH gs (rowsL log), HP.obj ob 31 (opC x)]) (HS.mv 2) (fun _ _ _ _ => trivial)).mono ?_
          rintro e_ w11 ⟨rfl, HS_⟩
          refine ⟨_, rfl, ?_⟩
          clear HS
          have HS : St w S w11 [HP.row kHt 39 (.slice Ah sp.length ch) sp, docH gl log, someH gs (rowsL log), HP.obj ob 31 (opC x)] := HS_.out 1
          clear HS_
          refine hK.out _ _ ⟨(HS.mv 3).cell 1, (HS.mv 3).cell 5, (HS.mv 3).cell 6, (HS.mv 3).cell 7⟩ (fun hHeld => ?_)
          clear hK K
          refine norm_ (a' := ?_) ?_ ?_
          rotate_left
          · show Act.put _ (some 59) _ = _
            simp only [Act.put, List.setIfInBounds_toArray, List.set_cons_zero, List.set_cons_succ, i64_w, i32_w]
            rfl
          refine pure_ (i := 8) (N := some 60) (v := ?_) (a' := ?_) #[true, true, true, true, true, true, true, true, true, false, false, false, false, false, false, false, false, false, false, false] rfl rfl (by kernel_rfl) (fun _ _ _ h => h) (Or.inl ⟨by rfl, ?_⟩) ?_ ?_
          rotate_left
          · intro w'
            go_simp
            with_reducible rfl
          rotate_left
          · simp only [Act.put, List.setIfInBounds_toArray, List.set_cons_zero, List.set_cons_succ, i64_w, i32_w]
            rfl
          refine pure_ (i := 9) (N := some 61) (v := ?_) (a' := ?_) #[true, true, true, true, true, true, true, true, true, true, false, false, false, false, false, false, false, false, false, false] rfl rfl (by kernel_rfl) (fun _ _ _ h => h) (Or.inl ⟨by rfl, ?_⟩) ?_ ?_
          rotate_left
          · intro w'
            go_simp
            with_reducible rfl
          rotate_left
          · simp only [Act.put, List.setIfInBounds_toArray, List.set_cons_zero, List.set_cons_succ, i64_w, i32_w]
            rfl
          refine pure_ (i := 10) (N := some 62) (v := ?_) (a' := ?_) #[true, true, true, true, true, true, true, true, true, true, true, false, false, false, false, false, false, false, false, false] rfl rfl (by kernel_rfl) (fun _ _ _ h => h) (Or.inl ⟨by rfl, ?_⟩) ?_ ?_
          rotate_left
          · intro w'
            go_simp
            with_reducible rfl
          rotate_left
          · simp only [Act.put, List.setIfInBounds_toArray, List.set_cons_zero, List.set_cons_succ, i64_w, i32_w]
            rfl
          refine pure_ (i := 11) (N := some 63) (v := ?_) (a' := ?_) #[true, true, true, true, true, true, true, true, true, true, true, true, false, false, false, false, false, false, false, false] rfl rfl (by kernel_rfl) (fun _ _ _ h => h) (Or.inl ⟨by rfl, ?_⟩) ?_ ?_
          rotate_left
          · intro w'
            go_simp
            with_reducible rfl
          rotate_left
          · simp only [Act.put, List.setIfInBounds_toArray, List.set_cons_zero, List.set_cons_succ, i64_w, i32_w]
            rfl
          refine pure_ (i := 14) (N := some 66) (v := ?_) (a' := ?_) #[true, true, true, true, true, true, true, true, true, true, true, true, false, false, true, false, false, false, false, false] rfl rfl (by kernel_rfl) (fun _ _ _ h => h) (Or.inl ⟨by rfl, ?_⟩) ?_ ?_
          rotate_left
          · intro w'
            go_simp
            with_reducible rfl
          rotate_left
          · simp only [Act.put, List.setIfInBounds_toArray, List.set_cons_zero, List.set_cons_succ, i64_w, i32_w]
            rfl
          refine pure_ (i := 15) (N := some 67) (v := ?_) (a' := ?_) #[true, true, true, true, true, true, true, true, true, true, true, true, false, false, true, true, false, false, false, false] rfl rfl (by kernel_rfl) (fun _ _ _ h => h) (Or.inl ⟨by rfl, ?_⟩) ?_ ?_
          rotate_left
          · intro w'
            go_simp
            with_reducible rfl
          rotate_left
          · simp only [Act.put, List.setIfInBounds_toArray, List.set_cons_zero, List.set_cons_succ, i64_w, i32_w]
            rfl
          refine take_ (i := 12) (N := some 64) (v := ?_) (a' := ?_) #[true, true, true, true, true, true, true, true, true, true, true, true, true, false, true, true, false, false, false, false] rfl rfl (by kernel_rfl) (fun _ _ _ h => h) (Or.inl ⟨by rfl, ?_⟩) hHeld ?_ ?_
          rotate_left
          · rintro w' ⟨s0, s1, s2, s3⟩
            go_simp
            with_reducible rfl
          rotate_left
          · simp only [Act.put, List.setIfInBounds_toArray, List.set_cons_zero, List.set_cons_succ, i64_w, i32_w]
            rfl
          refine take_ (i := 16) (N := some 68) (v := ?_) (a' := ?_) #[true, true, true, true, true, true, true, true, true, true, true, true, true, false, true, true, true, false, false, false] rfl rfl (by kernel_rfl) (fun _ _ _ h => h) (Or.inl ⟨by rfl, ?_⟩) hHeld ?_ ?_
          rotate_left
          · rintro w' ⟨s0, s1, s2, s3⟩
            go_simp
            with_reducible rfl
          rotate_left
          · simp only [Act.put, List.setIfInBounds_toArray, List.set_cons_zero, List.set_cons_succ, i64_w, i32_w]
            rfl
          refine one_ (i := 13) (N := some 65) #[true, true, true, true, true, true, true, true, true, true, true, true, true, true, true, true, true, false, false, false] rfl rfl (by kernel_rfl) (by decide) (fun K hK => ?_)
          refine goes_ Try.func16 (by kernel_rfl) rfl #[.pointer (some ⟨gs, 0, none⟩), .string x.key] (by rfl) rfl rfl (by simp only [List.map_toArray, List.map_cons, List.map_nil]; rfl) ?_
          refine ((newestS gs (rowsL log) (j + 1) HK.out.kept (by omega) x.key).call (F := [HP.row kHt 39 (.slice Ah sp.length ch) sp, docH gl log, HP.obj ob 31 (opC x)]) (HS.mv 2) (fun _ _ _ _ => trivial)).mono ?_
          rintro e_ w12 ⟨rfl, HS_⟩
          refine ⟨_, rfl, ?_⟩
          clear HS
          have HS : St w S w12 [someH gs (rowsL log), HP.row kHt 39 (.slice Ah sp.length ch) sp, docH gl log, HP.obj ob 31 (opC x)] := HS_
          clear HS_
          rw [newestL_eq log HK.out.good]
          refine hK.out _ _ ⟨(HS.mv 3).cell 1, (HS.mv 3).cell 5, (HS.mv 3).cell 6, (HS.mv 3).cell 7⟩ (fun hHeld => ?_)
          clear hK K
          refine norm_ (a' := ?_) ?_ ?_
          rotate_left
          · show Act.put _ (some 65) _ = _
            simp only [Act.put, List.setIfInBounds_toArray, List.set_cons_zero, List.set_cons_succ, i64_w, i32_w]
            rfl
          refine one_ (i := 17) (N := some 69) #[true, true, true, true, true, true, true, true, true, true, true, true, true, true, true, true, true, true, false, false] rfl rfl (by kernel_rfl) (by decide) (fun K hK => ?_)
          refine goes_ Try.func17 (by kernel_rfl) rfl #[.pointer (some ⟨gl, 0, none⟩), .string x.key] (by rfl) rfl rfl (by simp only [List.map_toArray, List.map_cons, List.map_nil]; rfl) ?_
          refine ((refNewestS gl log (by omega) x.key).call (F := [someH gs (rowsL log), HP.row kHt 39 (.slice Ah sp.length ch) sp, HP.obj ob 31 (opC x)]) (HS.mv 2) (fun _ _ _ _ => trivial)).mono ?_
          rintro e_ w13 ⟨rfl, HS_⟩
          refine ⟨_, rfl, ?_⟩
          clear HS
          have HS : St w S w13 [docH gl log, someH gs (rowsL log), HP.row kHt 39 (.slice Ah sp.length ch) sp, HP.obj ob 31 (opC x)] := HS_
          clear HS_
          refine hK.out _ _ ⟨(HS.mv 3).cell 1, (HS.mv 3).cell 5, (HS.mv 3).cell 6, (HS.mv 3).cell 7⟩ (fun hHeld => ?_)
          clear hK K
          refine norm_ (a' := ?_) ?_ ?_
          rotate_left
          · show Act.put _ (some 69) _ = _
            simp only [Act.put, List.setIfInBounds_toArray, List.set_cons_zero, List.set_cons_succ, i64_w, i32_w]
            rfl
          refine pure_ (i := 18) (N := some 70) (v := ?_) (a' := ?_) #[true, true, true, true, true, true, true, true, true, true, true, true, true, true, true, true, true, true, true, false] rfl rfl (by kernel_rfl) (fun _ _ _ h => h) (Or.inl ⟨by rfl, ?_⟩) ?_ ?_
          rotate_left
          · intro w'
            go_simp
            with_reducible rfl
          rotate_left
          · simp only [Act.put, List.setIfInBounds_toArray, List.set_cons_zero, List.set_cons_succ, i64_w, i32_w]
            rfl
          refine pure_ (i := 19) (N := some 71) (v := ?_) (a' := ?_) #[true, true, true, true, true, true, true, true, true, true, true, true, true, true, true, true, true, true, true, true] rfl rfl (by kernel_rfl) (fun _ _ _ h => h) (Or.inl ⟨by rfl, ?_⟩) ?_ ?_
          rotate_left
          · intro w'
            go_simp
            with_reducible rfl
          rotate_left
          · simp only [Act.put, List.setIfInBounds_toArray, List.set_cons_zero, List.set_cons_succ, i64_w, i32_w]
            rfl
          refine done_ (by kernel_rfl) ?_
          clear hHeld
          go_wp2
          go_meet
          exact ⟨by first | rfl | simp, (((HS.mv 3).mv 2).mv 3)⟩
        case rest =>
        clear HS
        obtain ⟨rfl, HS⟩ := hcut
        have HS_ : St w S wc [HP.row (raw 3) 39 (.slice Ah sp.length ch) (sp.map htC), someH gs (rowsL log), HP.obj ob 31 (opC x), docH gl log] := HS.head (ht_raw _ _)
        have hml : (sp.map htC).length = sp.length := List.length_map _
        clear HS
        have HS := HS_
        clear HS_
        generalize sp.map htC = ys at HS hml
        generalize sp.length = n at HS hml hsl hch ⊢
        go_wp2_with fail
        go_loopw [74] (fun v74 w' => ∃ (q : Nat) (ys : List (List Value)), q ≤ n ∧ v74 = .int .i64 q ∧ ys.length = n ∧ St w S w' [HP.row (raw 3) 39 (.slice Ah n ch) ys, someH gs (rowsL log), HP.obj ob 31 (opC x), docH gl log]) (fun v74 _ => n - (intOf v74).toNat)
        case atStart => exact ⟨0, ys, Nat.zero_le _, rfl, hml, HS⟩
        case round =>
          clear HS hml ys
          obtain ⟨q, ys, hq, rfl, hyl, HS⟩ := hrel
          by_cases hql : q < n
          · have hqlI : (q : Int) < (n : Int) := by omega
            have hq0 : (0 : Int) ≤ (q : Int) := by omega
            have hqd : decide ((q : Int) < (n : Int)) = true := decide_eq_true hqlI
            obtain ⟨gh, ch2, ev⟩ := St.row_form HS (by omega)
            obtain ⟨rfl, -, rfl⟩ : Ah = some ⟨gh, 0, none⟩ ∧ n = ys.length ∧ ch = ch2 := by simpa using ev
            clear ev
            have hqy : q < ys.length := by omega
            have hx : ys[q]? = some ys[q] := List.getElem?_eq_getElem hqy
            have hcl := (St.raw_all HS).2.2.2 ys[q] (List.getElem_mem hqy)
            have r0 := St.raw_cell HS q 2 hx (by omega)
            have HST := Aside0.mk (St.raw_set HS q 2 hx (by omega) (.string ⟨#[115, 112, 111, 105, 108, 116]⟩) rfl)
            obtain ⟨r1, r2⟩ := r0
            obtain ⟨u0, hu0⟩ : ∃ u0, ys[q][2]? = some u0 := ⟨ys[q][2]'(by have := hcl.1; omega), List.getElem?_eq_getElem _⟩
            rw [hu0] at r1
            clear hu0
            have hyl2 : (ys.set q (ys[q].set 2 (.string ⟨#[115, 112, 111, 105, 108, 116]⟩))).length = n := by rw [List.length_set]; exact hyl
            clear HS hx hcl
            generalize ys.set q (ys[q].set 2 (.string ⟨#[115, 112, 111, 105, 108, 116]⟩)) = ys2 at HST hyl2
            go_wp2
            go_roundw
            case rel => exact ⟨q + 1, ys2, by omega, by go_num, hyl2, HST.out⟩
            case measure => simp [intOf]; omega
          · obtain rfl : q = n := by omega
            have hqd : decide ((q : Int) < (q : Int)) = false := decide_eq_false (by omega)
            have HS_ : St w S wr [someH gs (rowsL log), HP.obj ob 31 (opC x), docH gl log] := HS.out 0
            clear HS
            have HS := HS_
            clear HS_
            go_wp2_with fail
            refine ((rowsS gs (rowsL log) (j + 1) HK.out.kept (by omega)).call (F := [HP.obj ob 31 (opC x), docH gl log]) HS (fun _ _ _ _ => trivial)).mono ?_
            rintro e_ w14 ⟨rr, rfl, HS_⟩
            clear HS
            have HS : St w S w14 [toldH rr (rowsL log), someH gs (rowsL log), HP.obj ob 31 (opC x), docH gl log] := HS_
            clear HS_
            obtain ⟨Ar, cr, rfl, hcr⟩ : ∃ Ar cr, rr = .slice Ar (rowsL log).length cr ∧ (rowsL log).length ≤ cr := by
              obtain ⟨ns, hns, H1⟩ := toldH_open HS
              obtain ⟨A0, c0, h1, h2, h3⟩ := rows_C H1 hns
              exact ⟨A0, c0, h1, h2⟩
            go_wp2_with fail
            refine ((refRowsS gl log (by omega) HK.out.sized).call (F := [toldH (.slice Ar (rowsL log).length cr) (rowsL log), someH gs (rowsL log), HP.obj ob 31 (opC x)]) (HS.mv 3) (fun _ _ _ _ => trivial)).mono ?_
            rintro e_ w15 ⟨rd, rfl, HS_⟩
            clear HS
            have HS : St w S w15 [HP.row kRw 53 rd (rowsL log), docH gl log, toldH (.slice Ar (rowsL log).length cr) (rowsL log), someH gs (rowsL log), HP.obj ob 31 (opC x)] := HS_
            clear HS_
            go_wp2_with fail
            refine ((sameS (.slice Ar (rowsL log).length cr) rd (rowsL log) (j + 1) HK.out.kept (by omega)).call (F := [docH gl log, someH gs (rowsL log), HP.obj ob 31 (opC x)]) (HS.mv 2) (fun _ _ _ _ => trivial)).mono ?_
            rintro e_ w16 ⟨rfl, HS_⟩
            clear HS
            have HS : St w S w16 [toldH (.slice Ar (rowsL log).length cr) (rowsL log), docH gl log, someH gs (rowsL log), HP.obj ob 31 (opC x)] := HS_.out 1
            clear HS_
            obtain ⟨ns, hns, HS_⟩ := toldH_open HS
            clear HS
            have HS : St w S w16 [HP.row (raw 2) 53 (.slice Ar (rowsL log).length cr) (rowsC (rowsL log) ns), Sl.all (inner (rowsL log) ns), docH gl log, someH gs (rowsL log), HP.obj ob 31 (opC x)] := HS_
            clear HS_
            have HFU := Aside0.mk (show ∀ r ∈ rowsL log, r.vs ≠ [] from fun r hr => (HK.out.kept.full r hr).1)
            have HNS := Aside0.mk hns
            clear hns
            go_wp2_with fail
            go_loopw [91] (fun v91 w' => ∃ (p : Nat) (rw2 : List Rw), p ≤ (rowsL log).length ∧ v91 = .int .i64 p ∧ Aside0 (rw2.length = (rowsL log).length ∧ ∀ r ∈ rw2, r.vs ≠ []) ∧ St w S w' [HP.row (raw 2) 53 (.slice Ar (rowsL log).length cr) (rowsC (rowsL log) ns), Sl.all (inner rw2 ns), docH gl log, someH gs (rowsL log), HP.obj ob 31 (opC x)]) (fun v91 _ => (rowsL log).length - (intOf v91).toNat)
            case atStart => exact ⟨0, rowsL log, Nat.zero_le _, rfl, ⟨rfl, HFU.out⟩, HS⟩
            case round =>
              clear HS
              obtain ⟨p, rw2, hp, rfl, HW, HS⟩ := hrel
              by_cases hpl : p < (rowsL log).length
              · have hplI : (p : Int) < ((rowsL log).length : Int) := by omega
                have hp0 : (0 : Int) ≤ (p : Int) := by omega
                have hpd : decide ((p : Int) < ((rowsL log).length : Int)) = true := decide_eq_true hplI
                obtain ⟨gr, cr2, ev⟩ := St.row_form HS (by rw [rowsC_length HNS.out]; omega)
                obtain ⟨rfl, -, rfl⟩ : Ar = some ⟨gr, 0, none⟩ ∧ (rowsL log).length = (rowsC (rowsL log) ns).length ∧ cr = cr2 := by simpa using ev
                clear ev
                have hn2 : ns.length = rw2.length := by rw [HNS.out, HW.out.1]
                have hp2 : p < rw2.length := by rw [HW.out.1]; exact hpl
                have hrc := rows_cell HNS.out p hpl
                have HI := st_pick (HS.mv 1) p (inner_get hn2 p hp2)
                have hne := HW.out.2 rw2[p] (List.getElem_mem hp2)
                have hpos : 0 < rw2[p].vs.length := List.length_pos_iff.2 hne
                obtain ⟨gi, ci, hui⟩ := St.row_form HI hpos
                obtain ⟨m, hm⟩ : ∃ m, rw2[p].vs.length = m := ⟨_, rfl⟩
                have hm0 : (0 : Int) < (m : Int) := by omega
                have hbk := inner_put rw2 ns hn2 p hp2
                rw [hm] at hui
                rw [hui] at HI hrc hbk
                have q1 : wr.cell? ⟨gr, p * 2 + 1, none⟩ = some (.slice (some ⟨gi, 0, none⟩) m ci) := (St.raw_cell HS p 1 hrc (by omega)).1
                obtain ⟨⟨u0, r1⟩, r2, H3⟩ := vn_set HI 0 hpos ⟨#[115, 112, 111, 105, 108, 116]⟩
                have r1 : wr.cell? ⟨gi, 1, none⟩ = some u0 := r1
                have r2 : wr.frozen? ⟨gi, 1, none⟩ = false := r2
                have H4 := st_back (L := inner rw2 ns) p (by simp [inner, hn2]; exact hp2) H3
                rw [hbk] at H4
                have H5 : St w S (wr.setCell ⟨gi, 1, none⟩ (.string ⟨#[115, 112, 111, 105, 108, 116]⟩)) [HP.row (raw 2) 53 (.slice (some ⟨gr, 0, none⟩) (rowsL log).length cr) (rowsC (rowsL log) ns), Sl.all (inner (rw2.set p ⟨rw2[p].key, rw2[p].vs.set 0 ⟨(rw2[p].vs[0]).ts, ⟨#[115, 112, 111, 105, 108, 116]⟩, (rw2[p].vs[0]).dead⟩⟩) ns), docH gl log, someH gs (rowsL log), HP.obj ob 31 (opC x)] := H4.mv 1
                have HW2 : Aside0 ((rw2.set p ⟨rw2[p].key, rw2[p].vs.set 0 ⟨(rw2[p].vs[0]).ts, ⟨#[115, 112, 111, 105, 108, 116]⟩, (rw2[p].vs[0]).dead⟩⟩).length = (rowsL log).length ∧ ∀ r ∈ rw2.set p ⟨rw2[p].key, rw2[p].vs.set 0 ⟨(rw2[p].vs[0]).ts, ⟨#[115, 112, 111, 105, 108, 116]⟩, (rw2[p].vs[0]).dead⟩⟩, r.vs ≠ []) := ⟨by rw [List.length_set]; exact HW.out.1, fun r hr => by
                  rcases List.mem_or_eq_of_mem_set hr with hr | rfl
                  · exact HW.out.2 r hr
                  · intro e
                    have e := congrArg List.length e
                    simp only [List.length_set, List.length_nil] at e
                    omega⟩
                clear HS HI H3 H4 hbk hrc hne hui hm
                generalize rw2.set p ⟨rw2[p].key, rw2[p].vs.set 0 ⟨(rw2[p].vs[0]).ts, ⟨#[115, 112, 111, 105, 108, 116]⟩, (rw2[p].vs[0]).dead⟩⟩ = rw3 at H5 HW2
                have H6 := Aside0.mk H5
                clear H5
                go_wp2
                go_roundw
                case rel => exact ⟨p + 1, rw3, by omega, by go_num, HW2, H6.out⟩
                case measure => simp [intOf]; omega
              · obtain rfl : p = (rowsL log).length := by omega
                have hpd : decide (((rowsL log).length : Int) < ((rowsL log).length : Int)) = false := decide_eq_false (by omega)
                go_wp2
                go_roundw
                case rel => exact ⟨j + 1, log, by omega, by go_num, HK, ((((HS.out 0).out 0).out 2).mv 1)⟩
                case measure => simp [intOf]; omega
    · obtain rfl : j = script.length := by omega
      have hjd : decide ((script.length : Int) < (script.length : Int)) = false := decide_eq_false (by omega)
      go_wp2_with fail
      refine ((rowsS gs (rowsL log) script.length HK.out.kept (by omega)).call (F := [docH gl log]) HS (fun _ _ _ _ => trivial)).mono ?_
      rintro e_ w14 ⟨rr, rfl, HS_⟩
      clear HS
      have HS : St w S w14 [toldH rr (rowsL log), someH gs (rowsL log), docH gl log] := HS_
      clear HS_
      go_wp2_with fail
      refine ((refRowsS gl log (by omega) HK.out.sized).call (F := [toldH rr (rowsL log), someH gs (rowsL log)]) (HS.mv 2) (fun _ _ _ _ => trivial)).mono ?_
      rintro e_ w15 ⟨rd, rfl, HS_⟩
      clear HS
      have HS : St w S w15 [HP.row kRw 53 rd (rowsL log), docH gl log, toldH rr (rowsL log), someH gs (rowsL log)] := HS_
      clear HS_
      go_wp2_with fail
      refine ((sameS rr rd (rowsL log) script.length HK.out.kept (by omega)).call (F := [docH gl log, someH gs (rowsL log)]) (HS.mv 2) (fun _ _ _ _ => trivial)).mono ?_
      rintro e_ w16 ⟨rfl, HS_⟩
      clear HS
      go_wp2
      go_ret
      exact ⟨rfl, (((HS_.out 0).out 0).out 0).out 0⟩
end Go.Proofs.Ytepenfgeeggjmaa.Ver
