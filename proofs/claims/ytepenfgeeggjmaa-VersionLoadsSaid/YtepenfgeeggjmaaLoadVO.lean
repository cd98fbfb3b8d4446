/- Joined of: LoadV LoadO. -/
import Derived.Test.YtepenfgeeggjmaaLoadX
section
/- The law of the loads, walked. -/
namespace Go.Proofs.Ytepenfgeeggjmaa.Ver
open Go.RowKit Go.Proofs.YtepenfgeeggjmaaW.PrintWords Go.Proofs.YtepenfgeeggjmaaW.PrintLast Go.Proofs.YtepenfgeeggjmaaW.PrintMore Go.Proofs.Ytepenfgeeggjmaa.Sl Go.Proofs.Ytepenfgeeggjmaa.Str Go.Proofs.Ytepenfgeeggjmaa.Row
set_option linter.unusedVariables false
set_option linter.unusedSimpArgs false
def cnt (l : List Rw) (j : Nat) : Nat := l.length + ((l.take j).map (fun r => r.vs.length)).sum
theorem cnt_step (l : List Rw) (j : Nat) (h : j < l.length) : cnt l (j + 1) = cnt l j + l[j].vs.length := by
  unfold cnt
  rw [sum_take l j h]
  omega
theorem cnt_all (l : List Rw) : cnt l l.length = total l := by
  unfold cnt total
  rw [List.take_length]
/-- The program's rows against somebody else's. -/
theorem sameF (r : Value) (A : Option Addr) (c : Nat) (rows : List Rw) (hc : rows.length ≤ c) (n : Nat) (hk : Kept rows n) (hn : n ≤ 1001) :
    FunV Try.prog 19 #[r, .slice A rows.length c] (fun w => Kd.C kRw w A rows.length rows) [toldH r rows] (.bool true) [toldH r rows] := by
  intro w S hS hR
  have HS := St.start hS
  obtain ⟨ns, hns, H1⟩ := toldH_open HS
  obtain ⟨A0, c0, rfl, hc0, hC0⟩ := rows_C H1 hns
  exact (sameRows_calls rows (by have := hk.len; omega) (fun r hr => by have := (hk.each r hr).1; omega) hC0 hc0 (hR w (Ext.refl _ _)) hc).mono (fun e w' ⟨he, hd⟩ => ⟨he, HS.drawn hd⟩)
set_option maxHeartbeats 8000000 in
set_option maxRecDepth 20000 in
theorem versionLoads_fun (A : Option Addr) (c : Nat) (V : Nat → Value) (l : List Rw) (hlc : l.length ≤ c) (hll : l.length ≤ 140737488355328) (hs : ∀ r ∈ l, r.key.size ≤ 140737488351232 ∧ r.vs.length ≤ 140737488355328) (x : OpV) (hxk : x.key.size ≤ 140737488351232) :
    FunV Try.prog 7 #[.slice A l.length c, .agg #[.int .i64 x.kind, .string x.key, .int .i64 x.ts, .string x.val, .bool x.dead, .string x.fr, .string x.upto, .int .i64 x.at_]] (fun w => Fixed A V l w ∧ Kd.C kRw w A l.length l) [] (.bool true) [] := by
  intro w S hS hR
  have HS := St.start hS
  have HR := Aside0.mk hR
  have HSZ := Aside0.mk hs
  clear hS hR hs
  have hu31 := Try.underlying31
  have hu29 := Try.underlying29
  have hu48 := Try.underlying48
  have hu53 := Try.underlying53
  have hu51 := Try.underlying51
  have hu26 := Try.underlying26
  have hbx : St w S w [] := HS
  clear hbx
  go_enter Try.func7, Try.ntmps7
  go_upto_block 0 with ((with_reducible refine gate_dst (N := 3) rfl ?_); refine ev_box ?hg (N := 3) ?hd (cs := opC x) (t := 31) HS ?hr ?_; (case hd => rfl); (case hg => rfl); (case hr => first | (go_simp; done) | (go_simp; rfl)); intro ob w1 HS_ hg_; clear HS; have HS := HS_; clear HS_)
  go_cut [5] (fun v5 wc => ∃ n : Nat, v5 = .int .i64 n ∧ Aside0 (1000 < n ∨ (n ≤ 1000 ∧ total l ≤ 1000)) ∧ St w S wc [HP.obj ob 31 (opC x)])
  case first =>
    go_wp2_with fail
    go_loopw [5, 16] (fun v5 v16 w' => ∃ (j : Nat) (n : Nat), j ≤ l.length ∧ v16 = .int .i64 j ∧ v5 = .int .i64 n ∧ Aside0 (n = cnt l j ∧ (j = 0 ∧ n = l.length ∨ n ≤ 1000)) ∧ St w S w' [HP.obj ob 31 (opC x)]) (fun _ v16 _ => l.length - (intOf v16).toNat)
    case atStart => exact ⟨0, l.length, Nat.zero_le _, rfl, rfl, ⟨by simp [cnt], .inl ⟨rfl, rfl⟩⟩, HS⟩
    case round =>
      clear HS
      obtain ⟨j, n, hj, rfl, rfl, HN, HS⟩ := hrel
      by_cases hlt : j < l.length
      · have hltI : (j : Int) < (l.length : Int) := by omega
        have hj0 : (0 : Int) ≤ (j : Int) := by omega
        have hjd : decide ((j : Int) < (l.length : Int)) = true := decide_eq_true hltI
        obtain ⟨ad, rfl, i0, i1, A1, m, hV, hm, -⟩ := (HR.out wr HS.ext).1 j hlt
        rw [hV] at i1
        have hvl := (HSZ.out l[j] (List.getElem_mem hlt)).2
        have hcs := cnt_step l j hlt
        obtain ⟨k, hk⟩ : ∃ k, l[j].key = k := ⟨_, rfl⟩
        obtain ⟨q, hq⟩ : ∃ q, l[j].vs.length = q := ⟨_, rfl⟩
        rw [hk] at i0
        rw [hq] at i1 hm hvl hcs
        have hnb : n ≤ 140737488355328 := by rcases HN.out.2 with h | h <;> omega
        obtain ⟨n2, hn2⟩ : ∃ n2, n + q = n2 := ⟨_, rfl⟩
        have hw : IntKind.i64.wrap ((n : Int) + (q : Int)) = (n2 : Int) := by rw [IntWalk.i64_in _ (by omega)]; omega
        have HN2 : Aside0 (n2 = cnt l (j + 1)) := ⟨by have := HN.out.1; omega⟩
        clear hk hq hcs hV hn2
        by_cases hbig : 1000 < n2
        · have hbd : decide ((n2 : Int) > 1000) = true := decide_eq_true (by omega)
          go_wp2_with (first
            | ((with_reducible refine gate_dst (N := 7) rfl ?_); refine ev_box ?hg (N := 7) ?hd (cs := [.string ⟨#[]⟩, .slice none 0 0]) (t := 53) HS ?hr ?_; (case hd => rfl); (case hg => rfl); (case hr => first | (go_simp; done) | (go_simp; rfl)); intro rb w4 HS_ hg_rb; clear HS; have HS := HS_; clear HS_; clear i0 i1)
            | ((with_reducible refine gate_ (.store 53 (.tmp 7) (.tmp 19)) rfl ?_); refine ev_store rfl rfl 53 (.tmp 7) (.tmp 19) rfl HS rfl rfl (seg := [.string k, .slice A1 q m]) rfl ?ht rfl ?hf ?_; (case ht => kernel_rfl); (case hf => first | (simp; done) | (simp [splice]; done)); intro w5 HS_; clear HS; have HS : St w S w5 [HP.obj rb 53 [.string k, .slice A1 q m], HP.obj ob 31 (opC x)] := HS_; clear HS_; have q1 : w5.cell? ⟨rb, 1, none⟩ = some (.slice A1 q m) := HS.cell 1))
          go_meet
          exact ⟨n2, rfl, ⟨.inl hbig⟩, HS.out 0⟩
        · have hbd : decide ((n2 : Int) > 1000) = false := decide_eq_false (by omega)
          go_wp2_with (first
            | ((with_reducible refine gate_dst (N := 7) rfl ?_); refine ev_box ?hg (N := 7) ?hd (cs := [.string ⟨#[]⟩, .slice none 0 0]) (t := 53) HS ?hr ?_; (case hd => rfl); (case hg => rfl); (case hr => first | (go_simp; done) | (go_simp; rfl)); intro rb w4 HS_ hg_rb; clear HS; have HS := HS_; clear HS_; clear i0 i1)
            | ((with_reducible refine gate_ (.store 53 (.tmp 7) (.tmp 19)) rfl ?_); refine ev_store rfl rfl 53 (.tmp 7) (.tmp 19) rfl HS rfl rfl (seg := [.string k, .slice A1 q m]) rfl ?ht rfl ?hf ?_; (case ht => kernel_rfl); (case hf => first | (simp; done) | (simp [splice]; done)); intro w5 HS_; clear HS; have HS : St w S w5 [HP.obj rb 53 [.string k, .slice A1 q m], HP.obj ob 31 (opC x)] := HS_; clear HS_; have q1 : w5.cell? ⟨rb, 1, none⟩ = some (.slice A1 q m) := HS.cell 1))
          go_roundw
          case rel => exact ⟨j + 1, n2, by omega, by go_num, rfl, ⟨HN2.out, .inr (by omega)⟩, HS.out 0⟩
          case measure => simp [intOf]; omega
      · obtain rfl : j = l.length := by omega
        have hjd : decide ((l.length : Int) < (l.length : Int)) = false := decide_eq_false (by omega)
        have HE : Aside0 (1000 < n ∨ (n ≤ 1000 ∧ total l ≤ 1000)) := ⟨.inr (by
          have h1 := HN.out.1
          rw [cnt_all] at h1
          rcases HN.out.2 with h | h
          · omega
          · exact ⟨h, by omega⟩)⟩
        go_wp2
        go_meet
        exact ⟨n, rfl, HE, HS⟩
  case rest =>
  clear HS
  obtain ⟨n, rfl, HN, HS⟩ := hcut
  go_wp2_with fail
  refine (awake_fun.call (F := [HP.obj ob 31 (opC x)]) HS (fun _ _ _ _ => trivial)).mono ?_
  rintro e_ w2 ⟨rfl, HS_⟩
  clear HS
  have HS : St w S w2 [HP.obj ob 31 (opC x)] := HS_
  clear HS_
  rcases HN.out with hbig | ⟨hn, htot⟩
  · have hbd : decide ((n : Int) > 1000) = true := decide_eq_true (by omega)
    go_wp2_with fail
    refine (awake_fun.call (F := [HP.obj ob 31 (opC x)]) HS (fun _ _ _ _ => trivial)).mono ?_
    rintro e_ w3 ⟨rfl, HS_⟩
    clear HS
    go_wp2
    go_ret
    exact ⟨rfl, HS_.out 0⟩
  have hbd : decide ((n : Int) > 1000) = false := decide_eq_false (by omega)
  have HKS := Aside0.mk (show ∀ r ∈ l, r.key.size ≤ 140737488351232 from fun r hr => (HSZ.out r hr).1)
  go_wp2_with fail
  refine ((load_fun A c V l hlc htot HKS.out).call (F := [HP.obj ob 31 (opC x)]) HS (fun w' S' h _ => (HR.out w' h).1)).mono ?_
  rintro e_ w3 ⟨r1, rfl, HS_⟩
  clear HS hbd
  obtain ⟨ok1, HS_⟩ := St.ex_ HS_
  obtain ⟨hok1, HS2⟩ := St.and_ HS_
  have HO1 : Aside0 (Tells ok1 (OkL l)) := ⟨hok1⟩
  clear HS_ hok1
  cases ok1
  · have HS3 : St w S w3 [HP.pure (r1 = .tuple #[.pointer none, .int .i64 100]), HP.obj ob 31 (opC x)] := HS2
    obtain ⟨hr1, HS⟩ := St.pure_ HS3
    subst hr1
    clear HS2 HS3
    go_wp2_with fail
    refine ((refLoad_fun A c V l hlc htot HKS.out).call (F := [HP.obj ob 31 (opC x)]) HS (fun w' S' h _ => (HR.out w' h).1)).mono ?_
    rintro e_ w4 ⟨r2, rfl, HS_⟩
    clear HS
    obtain ⟨ok2, HS_⟩ := St.ex_ HS_
    obtain ⟨hok2, HS2⟩ := St.and_ HS_
    clear HS_
    obtain rfl : ok2 = false := by
      cases ok2
      · rfl
      · have := HO1.out.2 (hok2.1 rfl)
        cases this
    have HS3 : St w S w4 [HP.pure (r2 = .tuple #[.pointer none, .bool false]), HP.obj ob 31 (opC x)] := HS2
    obtain ⟨hr2, HS⟩ := St.pure_ HS3
    subst hr2
    clear HS2 HS3 hok2
    go_wp2
    go_ret
    exact ⟨rfl, HS.out 0⟩
  · have HS3 : St w S w3 [HP.ex fun gs : Nat => HP.and (r1 = .tuple #[.pointer (some ⟨gs, 0, none⟩), .int .i64 0]) (someH gs l), HP.obj ob 31 (opC x)] := HS2
    obtain ⟨gs, HS4⟩ := St.ex_ HS3
    obtain ⟨hr1, HS⟩ := St.and_ HS4
    subst hr1
    clear HS2 HS3 HS4
    go_wp2_with fail
    refine ((refLoad_fun A c V l hlc htot HKS.out).call (F := [someH gs l, HP.obj ob 31 (opC x)]) HS (fun w' S' h _ => (HR.out w' h).1)).mono ?_
    rintro e_ w4 ⟨r2, rfl, HS_⟩
    clear HS
    obtain ⟨ok2, HS_⟩ := St.ex_ HS_
    obtain ⟨hok2, HS2⟩ := St.and_ HS_
    clear HS_
    have ho := HO1.out.1 rfl
    obtain rfl : ok2 = true := hok2.2 ho
    have HS3 : St w S w4 [HP.ex fun gl : Nat => HP.and (r2 = .tuple #[.pointer (some ⟨gl, 0, none⟩), .bool true]) (docH gl (logOf l)), someH gs l, HP.obj ob 31 (opC x)] := HS2
    obtain ⟨gl, HS4⟩ := St.ex_ HS3
    obtain ⟨hr2, HS⟩ := St.and_ HS4
    subst hr2
    clear HS2 HS3 HS4 hok2
    have HB := Aside0.mk (load_log l htot HKS.out ho)
    have HL := Aside0.mk (load_both l ho HKS.out).2
    generalize logOf l = lg at HS HB HL
    have hkl : Kept l 1000 := by rw [← HL.out]; exact HB.out.kept
    have HKL := Aside0.mk hkl
    have hbp := both_put HB.out x.key hxk (opVn x)
    rw [HL.out] at hbp
    have HBP := Aside0.mk hbp
    have hpe := putErr_eq lg HB.out.good x.key (opVn x)
    rw [HL.out] at hpe
    have HPE := Aside0.mk hpe
    clear ho hkl hbp hpe
    go_wp2_with fail
    refine start_ (n := 31) (S := fun w' => w'.cell? ⟨ob, 1, none⟩ = some (.string x.key) ∧ w'.cell? ⟨ob, 2, none⟩ = some (.int .i64 x.ts) ∧ w'.cell? ⟨ob, 3, none⟩ = some (.string x.val) ∧ w'.cell? ⟨ob, 4, none⟩ = some (.bool x.dead)) (ds := []) #[false, false, false, false, false, false, false, false, false, false, false, false, false, false, false, false, false, false, false, false, false, false, false, false, false, false, false, false, false, false, false] (by kernel_rfl) rfl rfl ⟨(HS.drew.mv 2).cell 1, (HS.drew.mv 2).cell 2, (HS.drew.mv 2).cell 3, (HS.drew.mv 2).cell 4⟩ (fun hHeld => ?_)
    refine pure_ (i := 0) (N := some 53) (v := ?_) (a' := ?_) #[true, false, false, false, false, false, false, false, false, false, false, false, false, false, false, false, false, false, false, false, false, false, false, false, false, false, false, false, false, false, false] rfl rfl (by kernel_rfl) (fun _ _ _ h => h) (Or.inl ⟨by rfl, ?_⟩) ?_ ?_
    rotate_left
    · intro w'
      go_simp
      with_reducible rfl
    rotate_left
    · simp only [Act.put, List.setIfInBounds_toArray, List.set_cons_zero, List.set_cons_succ, i64_w, i32_w]
      rfl
    refine pure_ (i := 1) (N := some 54) (v := ?_) (a' := ?_) #[true, true, false, false, false, false, false, false, false, false, false, false, false, false, false, false, false, false, false, false, false, false, false, false, false, false, false, false, false, false, false] rfl rfl (by kernel_rfl) (fun _ _ _ h => h) (Or.inl ⟨by rfl, ?_⟩) ?_ ?_
    rotate_left
    · intro w'
      go_simp
      with_reducible rfl
    rotate_left
    · simp only [Act.put, List.setIfInBounds_toArray, List.set_cons_zero, List.set_cons_succ, i64_w, i32_w]
      rfl
    refine pure_ (i := 2) (N := some 55) (v := ?_) (a' := ?_) #[true, true, true, false, false, false, false, false, false, false, false, false, false, false, false, false, false, false, false, false, false, false, false, false, false, false, false, false, false, false, false] rfl rfl (by kernel_rfl) (fun _ _ _ h => h) (Or.inl ⟨by rfl, ?_⟩) ?_ ?_
    rotate_left
    · intro w'
      go_simp
      with_reducible rfl
    rotate_left
    · simp only [Act.put, List.setIfInBounds_toArray, List.set_cons_zero, List.set_cons_succ, i64_w, i32_w]
      rfl
    refine pure_ (i := 3) (N := some 56) (v := ?_) (a' := ?_) #[true, true, true, true, false, false, false, false, false, false, false, false, false, false, false, false, false, false, false, false, false, false, false, false, false, false, false, false, false, false, false] rfl rfl (by kernel_rfl) (fun _ _ _ h => h) (Or.inl ⟨by rfl, ?_⟩) ?_ ?_
    rotate_left
    · intro w'
      go_simp
      with_reducible rfl
    rotate_left
    · simp only [Act.put, List.setIfInBounds_toArray, List.set_cons_zero, List.set_cons_succ, i64_w, i32_w]
      rfl
    refine pure_ (i := 5) (N := some 58) (v := ?_) (a' := ?_) #[true, true, true, true, false, true, false, false, false, false, false, false, false, false, false, false, false, false, false, false, false, false, false, false, false, false, false, false, false, false, false] rfl rfl (by kernel_rfl) (fun _ _ _ h => h) (Or.inl ⟨by rfl, ?_⟩) ?_ ?_
    rotate_left
    · intro w'
      go_simp
      with_reducible rfl
    rotate_left
    · simp only [Act.put, List.setIfInBounds_toArray, List.set_cons_zero, List.set_cons_succ, i64_w, i32_w]
      rfl
    refine one_ (i := 4) (N := some 57) #[true, true, true, true, true, true, false, false, false, false, false, false, false, false, false, false, false, false, false, false, false, false, false, false, false, false, false, false, false, false, false] rfl rfl (by kernel_rfl) (by decide) (fun K hK => ?_)
    refine goes_ Try.func18 (by kernel_rfl) rfl #[.pointer (some ⟨gs, 0, none⟩)] (by rfl) rfl rfl (by simp only [List.map_toArray, List.map_cons, List.map_nil]; rfl) ?_
    refine ((rowsS gs l 1000 HKL.out (by omega)).call (F := [docH gl lg, HP.obj ob 31 (opC x)]) (HS.drew.mv 1) (fun _ _ _ _ => trivial)).mono ?_
    rintro e_ w5 ⟨rr, rfl, HS_⟩
    refine ⟨_, rfl, ?_⟩
    clear HS
    have HS : St w S w5 [toldH rr l, someH gs l, docH gl lg, HP.obj ob 31 (opC x)] := HS_
    clear HS_
    refine hK.out _ _ ⟨(HS.mv 3).cell 1, (HS.mv 3).cell 2, (HS.mv 3).cell 3, (HS.mv 3).cell 4⟩ (fun hHeld => ?_)
    clear hK K
    refine norm_ (a' := ?_) ?_ ?_
    rotate_left
    · show Act.put _ (some 57) _ = _
      simp only [Act.put, List.setIfInBounds_toArray, List.set_cons_zero, List.set_cons_succ, i64_w, i32_w]
      rfl
    refine one_ (i := 6) (N := some 59) #[true, true, true, true, true, true, true, false, false, false, false, false, false, false, false, false, false, false, false, false, false, false, false, false, false, false, false, false, false, false, false] rfl rfl (by kernel_rfl) (by decide) (fun K hK => ?_)
    refine goes_ Try.func19 (by kernel_rfl) rfl #[rr, .slice A l.length c] (by rfl) rfl rfl (by simp only [List.map_toArray, List.map_cons, List.map_nil]; rfl) ?_
    refine ((sameF rr A c l hlc 1000 HKL.out (by omega)).call (F := [someH gs l, docH gl lg, HP.obj ob 31 (opC x)]) HS (fun w' S' h _ => (HR.out w' h).2)).mono ?_
    rintro e_ w6 ⟨rfl, HS_⟩
    refine ⟨_, rfl, ?_⟩
    clear HS
    have HS : St w S w6 [someH gs l, docH gl lg, HP.obj ob 31 (opC x)] := HS_.out 0
    clear HS_
    refine hK.out _ _ ⟨(HS.mv 2).cell 1, (HS.mv 2).cell 2, (HS.mv 2).cell 3, (HS.mv 2).cell 4⟩ (fun hHeld => ?_)
    clear hK K
    refine norm_ (a' := ?_) ?_ ?_
    rotate_left
    · show Act.put _ (some 59) _ = _
      simp only [Act.put, List.setIfInBounds_toArray, List.set_cons_zero, List.set_cons_succ, i64_w, i32_w]
      rfl
    refine pure_ (i := 7) (N := some 60) (v := ?_) (a' := ?_) #[true, true, true, true, true, true, true, true, false, false, false, false, false, false, false, false, false, false, false, false, false, false, false, false, false, false, false, false, false, false, false] rfl rfl (by kernel_rfl) (fun _ _ _ h => h) (Or.inl ⟨by rfl, ?_⟩) ?_ ?_
    rotate_left
    · intro w'
      go_simp
      with_reducible rfl
    rotate_left
    · simp only [Act.put, List.setIfInBounds_toArray, List.set_cons_zero, List.set_cons_succ, i64_w, i32_w]
      rfl
    refine pure_ (i := 8) (N := some 61) (v := ?_) (a' := ?_) #[true, true, true, true, true, true, true, true, true, false, false, false, false, false, false, false, false, false, false, false, false, false, false, false, false, false, false, false, false, false, false] rfl rfl (by kernel_rfl) (fun _ _ _ h => h) (Or.inl ⟨by rfl, ?_⟩) ?_ ?_
    rotate_left
    · intro w'
      go_simp
      with_reducible rfl
    rotate_left
    · simp only [Act.put, List.setIfInBounds_toArray, List.set_cons_zero, List.set_cons_succ, i64_w, i32_w]
      rfl
    refine pure_ (i := 9) (N := some 62) (v := ?_) (a' := ?_) #[true, true, true, true, true, true, true, true, true, true, false, false, false, false, false, false, false, false, false, false, false, false, false, false, false, false, false, false, false, false, false] rfl rfl (by kernel_rfl) (fun _ _ _ h => h) (Or.inl ⟨by rfl, ?_⟩) ?_ ?_
    rotate_left
    · intro w'
      go_simp
      with_reducible rfl
    rotate_left
    · simp only [Act.put, List.setIfInBounds_toArray, List.set_cons_zero, List.set_cons_succ, i64_w, i32_w]
      rfl
    refine pure_ (i := 10) (N := some 63) (v := ?_) (a' := ?_) #[true, true, true, true, true, true, true, true, true, true, true, false, false, false, false, false, false, false, false, false, false, false, false, false, false, false, false, false, false, false, false] rfl rfl (by kernel_rfl) (fun _ _ _ h => h) (Or.inl ⟨by rfl, ?_⟩) ?_ ?_
    rotate_left
    · intro w'
      go_simp
      with_reducible rfl
    rotate_left
    · simp only [Act.put, List.setIfInBounds_toArray, List.set_cons_zero, List.set_cons_succ, i64_w, i32_w]
      rfl
    refine pure_ (i := 12) (N := some 65) (v := ?_) (a' := ?_) #[true, true, true, true, true, true, true, true, true, true, true, false, true, false, false, false, false, false, false, false, false, false, false, false, false, false, false, false, false, false, false] rfl rfl (by kernel_rfl) (fun _ _ _ h => h) (Or.inl ⟨by rfl, ?_⟩) ?_ ?_
    rotate_left
    · intro w'
      go_simp
      with_reducible rfl
    rotate_left
    · simp only [Act.put, List.setIfInBounds_toArray, List.set_cons_zero, List.set_cons_succ, i64_w, i32_w]
      rfl
    refine pure_ (i := 15) (N := some 68) (v := ?_) (a' := ?_) #[true, true, true, true, true, true, true, true, true, true, true, false, true, false, false, true, false, false, false, false, false, false, false, false, false, false, false, false, false, false, false] rfl rfl (by kernel_rfl) (fun _ _ _ h => h) (Or.inl ⟨by rfl, ?_⟩) ?_ ?_
    rotate_left
    · intro w'
      go_simp
      with_reducible rfl
    rotate_left
    · simp only [Act.put, List.setIfInBounds_toArray, List.set_cons_zero, List.set_cons_succ, i64_w, i32_w]
      rfl
    refine pure_ (i := 16) (N := some 69) (v := ?_) (a' := ?_) #[true, true, true, true, true, true, true, true, true, true, true, false, true, false, false, true, true, false, false, false, false, false, false, false, false, false, false, false, false, false, false] rfl rfl (by kernel_rfl) (fun _ _ _ h => h) (Or.inl ⟨by rfl, ?_⟩) ?_ ?_
    rotate_left
    · intro w'
      go_simp
      with_reducible rfl
    rotate_left
    · simp only [Act.put, List.setIfInBounds_toArray, List.set_cons_zero, List.set_cons_succ, i64_w, i32_w]
      rfl
    refine pure_ (i := 18) (N := some 71) (v := ?_) (a' := ?_) #[true, true, true, true, true, true, true, true, true, true, true, false, true, false, false, true, true, false, true, false, false, false, false, false, false, false, false, false, false, false, false] rfl rfl (by kernel_rfl) (fun _ _ _ h => h) (Or.inl ⟨by rfl, ?_⟩) ?_ ?_
    rotate_left
    · intro w'
      go_simp
      with_reducible rfl
    rotate_left
    · simp only [Act.put, List.setIfInBounds_toArray, List.set_cons_zero, List.set_cons_succ, i64_w, i32_w]
      rfl
    refine take_ (i := 11) (N := some 64) (v := ?_) (a' := ?_) #[true, true, true, true, true, true, true, true, true, true, true, true, true, false, false, true, true, false, true, false, false, false, false, false, false, false, false, false, false, false, false] rfl rfl (by kernel_rfl) (fun _ _ _ h => h) (Or.inl ⟨by rfl, ?_⟩) hHeld ?_ ?_
    rotate_left
    · rintro w' ⟨s0, s1, s2, s3⟩
      go_simp
      with_reducible rfl
    rotate_left
    · simp only [Act.put, List.setIfInBounds_toArray, List.set_cons_zero, List.set_cons_succ, i64_w, i32_w]
      rfl
    refine take_ (i := 13) (N := some 66) (v := ?_) (a' := ?_) #[true, true, true, true, true, true, true, true, true, true, true, true, true, true, false, true, true, false, true, false, false, false, false, false, false, false, false, false, false, false, false] rfl rfl (by kernel_rfl) (fun _ _ _ h => h) (Or.inl ⟨by rfl, ?_⟩) hHeld ?_ ?_
    rotate_left
    · rintro w' ⟨s0, s1, s2, s3⟩
      go_simp
      with_reducible rfl
    rotate_left
    · simp only [Act.put, List.setIfInBounds_toArray, List.set_cons_zero, List.set_cons_succ, i64_w, i32_w]
      rfl
    refine take_ (i := 17) (N := some 70) (v := ?_) (a' := ?_) #[true, true, true, true, true, true, true, true, true, true, true, true, true, true, false, true, true, true, true, false, false, false, false, false, false, false, false, false, false, false, false] rfl rfl (by kernel_rfl) (fun _ _ _ h => h) (Or.inl ⟨by rfl, ?_⟩) hHeld ?_ ?_
    rotate_left
    · rintro w' ⟨s0, s1, s2, s3⟩
      go_simp
      with_reducible rfl
    rotate_left
    · simp only [Act.put, List.setIfInBounds_toArray, List.set_cons_zero, List.set_cons_succ, i64_w, i32_w]
      rfl
    refine take_ (i := 19) (N := some 72) (v := ?_) (a' := ?_) #[true, true, true, true, true, true, true, true, true, true, true, true, true, true, false, true, true, true, true, true, false, false, false, false, false, false, false, false, false, false, false] rfl rfl (by kernel_rfl) (fun _ _ _ h => h) (Or.inl ⟨by rfl, ?_⟩) hHeld ?_ ?_
    rotate_left
    · rintro w' ⟨s0, s1, s2, s3⟩
      go_simp
      with_reducible rfl
    rotate_left
    · simp only [Act.put, List.setIfInBounds_toArray, List.set_cons_zero, List.set_cons_succ, i64_w, i32_w]
      rfl
    refine one_ (i := 14) (N := some 67) #[true, true, true, true, true, true, true, true, true, true, true, true, true, true, true, true, true, true, true, true, false, false, false, false, false, false, false, false, false, false, false] rfl rfl (by kernel_rfl) (by decide) (fun K hK => ?_)
    refine goes_ Try.func10 (by kernel_rfl) rfl #[.pointer (some ⟨gs, 0, none⟩), .string x.key, .agg #[.int .i64 x.ts, .string x.val, .bool x.dead]] (by rfl) rfl rfl (by simp only [List.map_toArray, List.map_cons, List.map_nil]; rfl) ?_
    refine ((putS_fun gs l 1000 HKL.out (by omega) x.key (opVn x)).call (F := [docH gl lg, HP.obj ob 31 (opC x)]) HS (fun _ _ _ _ => trivial)).mono ?_
    rintro e_ w7 ⟨rfl, HS_⟩
    refine ⟨_, rfl, ?_⟩
    clear HS
    have HS : St w S w7 [someH gs (put l x.key (opVn x)), docH gl lg, HP.obj ob 31 (opC x)] := HS_
    clear HS_
    rw [HPE.out]
    refine hK.out _ _ ⟨(HS.mv 2).cell 1, (HS.mv 2).cell 2, (HS.mv 2).cell 3, (HS.mv 2).cell 4⟩ (fun hHeld => ?_)
    clear hK K
    refine norm_ (a' := ?_) ?_ ?_
    rotate_left
    · show Act.put _ (some 67) _ = _
      simp only [Act.put, List.setIfInBounds_toArray, List.set_cons_zero, List.set_cons_succ, i64_w, i32_w]
      rfl
    refine one_ (i := 20) (N := some 73) #[true, true, true, true, true, true, true, true, true, true, true, true, true, true, true, true, true, true, true, true, true, false, false, false, false, false, false, false, false, false, false] rfl rfl (by kernel_rfl) (by decide) (fun K hK => ?_)
    refine goes_ Try.func14 (by kernel_rfl) rfl #[.pointer (some ⟨gl, 0, none⟩), .string x.key, .agg #[.int .i64 x.ts, .string x.val, .bool x.dead]] (by rfl) rfl rfl (by simp only [List.map_toArray, List.map_cons, List.map_nil]; rfl) ?_
    refine ((refPutS gl lg (Nat.le_trans HB.out.len (by omega)) x.key (opVn x)).call (F := [someH gs (put l x.key (opVn x)), HP.obj ob 31 (opC x)]) (HS.mv 1) (fun _ _ _ _ => trivial)).mono ?_
    rintro e_ w8 ⟨rfl, HS_⟩
    refine ⟨_, rfl, ?_⟩
    clear HS
    have HS : St w S w8 [someH gs (put l x.key (opVn x)), docH gl (putL lg x.key (opVn x)), HP.obj ob 31 (opC x)] := HS_.mv 1
    rw [HBP.out.2] at HS
    clear HS_
    refine hK.out _ _ ⟨(HS.mv 2).cell 1, (HS.mv 2).cell 2, (HS.mv 2).cell 3, (HS.mv 2).cell 4⟩ (fun hHeld => ?_)
    clear hK K
    refine norm_ (a' := ?_) ?_ ?_
    rotate_left
    · show Act.put _ (some 73) _ = _
      simp only [Act.put, List.setIfInBounds_toArray, List.set_cons_zero, List.set_cons_succ, i64_w, i32_w]
      rfl
    refine pure_ (i := 21) (N := some 74) (v := ?_) (a' := ?_) #[true, true, true, true, true, true, true, true, true, true, true, true, true, true, true, true, true, true, true, true, true, true, false, false, false, false, false, false, false, false, false] rfl rfl (by kernel_rfl) (fun _ _ _ h => h) (Or.inl ⟨by rfl, ?_⟩) ?_ ?_
    rotate_left
    · intro w'
      go_simp
      with_reducible rfl
    rotate_left
    · simp only [Act.put, List.setIfInBounds_toArray, List.set_cons_zero, List.set_cons_succ, i64_w, i32_w]
      rfl
    refine pure_ (i := 22) (N := some 75) (v := ?_) (a' := ?_) #[true, true, true, true, true, true, true, true, true, true, true, true, true, true, true, true, true, true, true, true, true, true, true, false, false, false, false, false, false, false, false] rfl rfl (by kernel_rfl) (fun _ _ _ h => h) (Or.inl ⟨by rfl, ?_⟩) ?_ ?_
    rotate_left
    · intro w'
      go_simp
      with_reducible rfl
    rotate_left
    · simp only [Act.put, List.setIfInBounds_toArray, List.set_cons_zero, List.set_cons_succ, i64_w, i32_w]
      rfl
    refine pure_ (i := 23) (N := some 76) (v := ?_) (a' := ?_) #[true, true, true, true, true, true, true, true, true, true, true, true, true, true, true, true, true, true, true, true, true, true, true, true, false, false, false, false, false, false, false] rfl rfl (by kernel_rfl) (fun _ _ _ h => h) (Or.inl ⟨by rfl, ?_⟩) ?_ ?_
    rotate_left
    · intro w'
      go_simp
      with_reducible rfl
    rotate_left
    · simp only [Act.put, List.setIfInBounds_toArray, List.set_cons_zero, List.set_cons_succ, i64_w, i32_w]
      rfl
    refine pure_ (i := 24) (N := some 77) (v := ?_) (a' := ?_) #[true, true, true, true, true, true, true, true, true, true, true, true, true, true, true, true, true, true, true, true, true, true, true, true, true, false, false, false, false, false, false] rfl rfl (by kernel_rfl) (fun _ _ _ h => h) (Or.inl ⟨by rfl, ?_⟩) ?_ ?_
    rotate_left
    · intro w'
      go_simp
      with_reducible rfl
    rotate_left
    · simp only [Act.put, List.setIfInBounds_toArray, List.set_cons_zero, List.set_cons_succ, i64_w, i32_w]
      rfl
    refine pure_ (i := 26) (N := some 79) (v := ?_) (a' := ?_) #[true, true, true, true, true, true, true, true, true, true, true, true, true, true, true, true, true, true, true, true, true, true, true, true, true, false, true, false, false, false, false] rfl rfl (by kernel_rfl) (fun _ _ _ h => h) (Or.inl ⟨by rfl, ?_⟩) ?_ ?_
    rotate_left
    · intro w'
      go_simp
      with_reducible rfl
    rotate_left
    · simp only [Act.put, List.setIfInBounds_toArray, List.set_cons_zero, List.set_cons_succ, i64_w, i32_w]
      rfl
    refine one_ (i := 25) (N := some 78) #[true, true, true, true, true, true, true, true, true, true, true, true, true, true, true, true, true, true, true, true, true, true, true, true, true, true, true, false, false, false, false] rfl rfl (by kernel_rfl) (by decide) (fun K hK => ?_)
    refine goes_ Try.func18 (by kernel_rfl) rfl #[.pointer (some ⟨gs, 0, none⟩)] (by rfl) rfl rfl (by simp only [List.map_toArray, List.map_cons, List.map_nil]; rfl) ?_
    refine ((rowsS gs (rowsL (putL lg x.key (opVn x))) 1001 HBP.out.1.kept (by omega)).call (F := [docH gl (putL lg x.key (opVn x)), HP.obj ob 31 (opC x)]) HS (fun _ _ _ _ => trivial)).mono ?_
    rintro e_ w9 ⟨rr2, rfl, HS_⟩
    refine ⟨_, rfl, ?_⟩
    clear HS
    have HS : St w S w9 [toldH rr2 (rowsL (putL lg x.key (opVn x))), someH gs (rowsL (putL lg x.key (opVn x))), docH gl (putL lg x.key (opVn x)), HP.obj ob 31 (opC x)] := HS_
    clear HS_
    refine hK.out _ _ ⟨(HS.mv 3).cell 1, (HS.mv 3).cell 2, (HS.mv 3).cell 3, (HS.mv 3).cell 4⟩ (fun hHeld => ?_)
    clear hK K
    refine norm_ (a' := ?_) ?_ ?_
    rotate_left
    · show Act.put _ (some 78) _ = _
      simp only [Act.put, List.setIfInBounds_toArray, List.set_cons_zero, List.set_cons_succ, i64_w, i32_w]
      rfl
    refine one_ (i := 27) (N := some 80) #[true, true, true, true, true, true, true, true, true, true, true, true, true, true, true, true, true, true, true, true, true, true, true, true, true, true, true, true, false, false, false] rfl rfl (by kernel_rfl) (by decide) (fun K hK => ?_)
    refine goes_ Try.func20 (by kernel_rfl) rfl #[.pointer (some ⟨gl, 0, none⟩)] (by rfl) rfl rfl (by simp only [List.map_toArray, List.map_cons, List.map_nil]; rfl) ?_
    refine ((refRowsS gl (putL lg x.key (opVn x)) (Nat.le_trans HBP.out.1.len (by omega)) HBP.out.1.sized).call (F := [toldH rr2 (rowsL (putL lg x.key (opVn x))), someH gs (rowsL (putL lg x.key (opVn x))), HP.obj ob 31 (opC x)]) (HS.mv 2) (fun _ _ _ _ => trivial)).mono ?_
    rintro e_ w10 ⟨rd, rfl, HS_⟩
    refine ⟨_, rfl, ?_⟩
    clear HS
    have HS : St w S w10 [HP.row kRw 53 rd (rowsL (putL lg x.key (opVn x))), docH gl (putL lg x.key (opVn x)), toldH rr2 (rowsL (putL lg x.key (opVn x))), someH gs (rowsL (putL lg x.key (opVn x))), HP.obj ob 31 (opC x)] := HS_
    clear HS_
    refine hK.out _ _ ⟨(HS.mv 4).cell 1, (HS.mv 4).cell 2, (HS.mv 4).cell 3, (HS.mv 4).cell 4⟩ (fun hHeld => ?_)
    clear hK K
    refine norm_ (a' := ?_) ?_ ?_
    rotate_left
    · show Act.put _ (some 80) _ = _
      simp only [Act.put, List.setIfInBounds_toArray, List.set_cons_zero, List.set_cons_succ, i64_w, i32_w]
      rfl
    refine one_ (i := 28) (N := some 81) #[true, true, true, true, true, true, true, true, true, true, true, true, true, true, true, true, true, true, true, true, true, true, true, true, true, true, true, true, true, false, false] rfl rfl (by kernel_rfl) (by decide) (fun K hK => ?_)
    refine goes_ Try.func19 (by kernel_rfl) rfl #[rr2, rd] (by rfl) rfl rfl (by simp only [List.map_toArray, List.map_cons, List.map_nil]; rfl) ?_
    refine ((sameS rr2 rd (rowsL (putL lg x.key (opVn x))) 1001 HBP.out.1.kept (by omega)).call (F := [docH gl (putL lg x.key (opVn x)), someH gs (rowsL (putL lg x.key (opVn x))), HP.obj ob 31 (opC x)]) (HS.mv 2) (fun _ _ _ _ => trivial)).mono ?_
    rintro e_ w11 ⟨rfl, HS_⟩
    refine ⟨_, rfl, ?_⟩
    clear HS
    have HS : St w S w11 [docH gl (putL lg x.key (opVn x)), someH gs (rowsL (putL lg x.key (opVn x))), HP.obj ob 31 (opC x)] := (HS_.out 0).out 0
    clear HS_
    refine hK.out _ _ ⟨(HS.mv 2).cell 1, (HS.mv 2).cell 2, (HS.mv 2).cell 3, (HS.mv 2).cell 4⟩ (fun hHeld => ?_)
    clear hK K
    refine norm_ (a' := ?_) ?_ ?_
    rotate_left
    · show Act.put _ (some 81) _ = _
      simp only [Act.put, List.setIfInBounds_toArray, List.set_cons_zero, List.set_cons_succ, i64_w, i32_w]
      rfl
    refine pure_ (i := 29) (N := some 82) (v := ?_) (a' := ?_) #[true, true, true, true, true, true, true, true, true, true, true, true, true, true, true, true, true, true, true, true, true, true, true, true, true, true, true, true, true, true, false] rfl rfl (by kernel_rfl) (fun _ _ _ h => h) (Or.inl ⟨by rfl, ?_⟩) ?_ ?_
    rotate_left
    · intro w'
      go_simp
      with_reducible rfl
    rotate_left
    · simp only [Act.put, List.setIfInBounds_toArray, List.set_cons_zero, List.set_cons_succ, i64_w, i32_w]
      rfl
    refine pure_ (i := 30) (N := some 4) (v := ?_) (a' := ?_) #[true, true, true, true, true, true, true, true, true, true, true, true, true, true, true, true, true, true, true, true, true, true, true, true, true, true, true, true, true, true, true] rfl rfl (by kernel_rfl) (fun _ _ _ h => h) (Or.inl ⟨by rfl, ?_⟩) ?_ ?_
    rotate_left
    · intro w'
      go_simp
      with_reducible rfl
    rotate_left
    · simp only [Act.put, List.setIfInBounds_toArray, List.set_cons_zero, List.set_cons_succ, i64_w, i32_w]
      rfl
    refine done_ (by kernel_rfl) ?_
    clear hHeld
    go_wp2
    go_ret
    exact ⟨by first | rfl | simp, ((HS.out 0).out 0).out 0⟩
end Go.Proofs.Ytepenfgeeggjmaa.Ver
end
section
/- The law of the loads, of what is handed over. -/
namespace Go.Proofs.Ytepenfgeeggjmaa.Ver
open Go.RowKit Go.Proofs.YtepenfgeeggjmaaW.PrintWords Go.Proofs.YtepenfgeeggjmaaW.PrintLast Go.Proofs.YtepenfgeeggjmaaW.PrintMore Go.Proofs.Ytepenfgeeggjmaa.Sl Go.Proofs.Ytepenfgeeggjmaa.Str Go.Proofs.Ytepenfgeeggjmaa.Row
set_option linter.unusedVariables false
def BVn (x : Vn) : Prop := (Lit.int .i64 x.ts).wf = true ∧ x.val.size ≤ 140737488351232 ∧ True
theorem openVn : Opens Try.prog 29 kVn BVn := opens_iso (fun x : Int × ByteArray × Bool => (⟨x.1, x.2.1, x.2.2⟩ : Vn)) (fun _ => rfl) openVn_
def BVnL (l : List Vn) : Prop := l.length * Try.prog.bytesOf 29 ≤ 140737488351232 ∧ ∀ x ∈ l, BVn x
theorem openVnL : Opens Try.prog 51 (Kd.slice 29 kVn) BVnL := opens_slice Try.underlying51 (by kernel_rfl) openVn
def BRw (x : Rw) : Prop := x.key.size ≤ 140737488351232 ∧ BVnL x.vs
theorem openRw : Opens Try.prog 53 kRw BRw := opens_iso (fun x : ByteArray × List Vn => (⟨x.1, x.2⟩ : Rw)) (fun _ => rfl)
  (opens_struct Try.underlying53 (by kernel_rfl) (fields_cons rfl (by kernel_rfl) (opens_string Try.underlying9) (fields_one rfl (by kernel_rfl) openVnL)))
def BRwL (l : List Rw) : Prop := l.length * Try.prog.bytesOf 53 ≤ 140737488351232 ∧ ∀ x ∈ l, BRw x
theorem openRwL : Opens Try.prog 48 (Kd.slice 53 kRw) BRwL := opens_slice Try.underlying48 (by kernel_rfl) openRw
theorem bytesVn : Try.prog.bytesOf 29 = 32 := by kernel_rfl
theorem bytesRw : Try.prog.bytesOf 53 = 40 := by kernel_rfl
theorem versionLoads_law (A0 : Option Addr) (c0 : Nat) (l : List Rw) (hl : BRwL l) (kl : l.length ≤ c0) (x : OpV) (hx : BOpV x) :
    FunV Try.prog 7 #[.slice A0 l.length c0, .agg #[.int .i64 x.kind, .string x.key, .int .i64 x.ts, .string x.val, .bool x.dead, .string x.fr, .string x.upto, .int .i64 x.at_]] (fun w => Kd.C kRw w A0 l.length l) [] (.bool true) [] := by
  intro w S hS hR
  obtain ⟨V, hV⟩ := fixed_of (hR w (Ext.refl _ _))
  have h1 := hl.1
  rw [bytesRw] at h1
  refine (versionLoads_fun A0 c0 V l kl (by omega) (fun r hr => ⟨(hl.2 r hr).1, ?_⟩) x hx.2.1 w (fun _ => False) trivial (fun w' e => hV w' e.below)).mono ?_
  · have := (hl.2 r hr).2.1
    rw [bytesVn] at this
    omega
  · rintro e w' ⟨he, hs⟩
    refine ⟨he, hs.ext.mono (fun _ f => f.elim), ?_⟩
    obtain ⟨S1, a, s⟩ := hs.holds
    exact ⟨S1, a, fun k hk => (s k hk).elim False.elim Or.inr⟩
end Go.Proofs.Ytepenfgeeggjmaa.Ver
end
