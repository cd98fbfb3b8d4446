/- The document's Span, walked: the walk. -/
import Derived.Test.YtepenfgeeggjmaaLogS
namespace Go.Proofs.Ytepenfgeeggjmaa.Ver
open Go.RowKit Go.Proofs.YtepenfgeeggjmaaW.PrintWords Go.Proofs.YtepenfgeeggjmaaW.PrintLast Go.Proofs.YtepenfgeeggjmaaW.PrintMore Go.Proofs.Ytepenfgeeggjmaa.Sl Go.Proofs.Ytepenfgeeggjmaa.Str Go.Proofs.Ytepenfgeeggjmaa.Row
set_option linter.unusedVariables false
set_option linter.unusedSimpArgs false
set_option maxHeartbeats 4000000 in
set_option maxRecDepth 20000 in
theorem refSpan_fun (g : Nat) (u : Value) (log : Log) (hl : log.length ≤ 1000000) (hsz : ∀ p ∈ log, p.1.size ≤ 140737488355328) (a b : ByteArray) (ha : a.size ≤ 140737488355328) (ts : Int) :
    Fun Try.prog 15 #[.pointer (some ⟨g, 0, none⟩), .agg #[.string a, .string b], .int .i64 ts] (fun _ => True) [logH g u log] (fun r => [HP.row kHt 39 r (span (rowsL log) a b ts), logH g u log]) := by
  intro w S hS hR
  have HS := St.start hS
  clear hS hR
  have hu53 := Try.underlying53
  have hu48 := Try.underlying48
  have hu51 := Try.underlying51
  have hu29 := Try.underlying29
  have hu24 := Try.underlying24
  have hu39 := Try.underlying39
  have hu34 := Try.underlying34
  have hrows := Aside0.mk (refRows_fun g u log hl hsz)
  go_enter Try.func15, Try.ntmps15
  go_wp2_with ((with_reducible refine gate_dst (N := 4) rfl ?_); refine ev_box ?hg (N := 4) ?hd (cs := [.string a, .string b]) (t := 24) HS ?hr ?_; (case hd => rfl); (case hg => rfl); (case hr => first | (go_simp; done) | (go_simp; rfl)); intro pb w1 HS_ hg_; clear HS; have HS := HS_; clear HS_)
  refine (hrows.out.call (F := [HP.obj pb 24 [.string a, .string b]]) (HS.mv 1) (fun _ _ _ _ => trivial)).mono ?_
  rintro e_ w2 ⟨r, rfl, HS_⟩
  clear HS hrows
  have HS : St w S w2 [HP.row kRw 53 r (rowsL log), logH g u log, HP.obj pb 24 [.string a, .string b]] := HS_
  clear HS_
  have hkz := Aside0.mk (show ∀ i (h : i < (rowsL log).length), ((rowsL log)[i]).key.size ≤ 140737488355328 from fun i h => by
    have hm : (rowsL log)[i].key ∈ keysL log := by rw [← rowsL_keys]; exact List.mem_map.2 ⟨_, List.getElem_mem h, rfl⟩
    obtain ⟨p, hp, e⟩ := keysL_mem log _ hm
    rw [← e]; exact hsz p hp)
  have hvz := Aside0.mk (show ∀ i (h : i < (rowsL log).length), ((rowsL log)[i]).vs.length ≤ 1000000 from fun i h => by
    have hm := List.getElem_mem h
    obtain ⟨k, hk, e⟩ := List.mem_map.1 hm
    rw [← e]
    exact Nat.le_trans (ofKey_len log k) hl)
  have hln : (rowsL log).length ≤ log.length := by rw [rowsL_len]; exact keysL_len log
  clear hsz
  generalize hrl : rowsL log = rows at HS hkz hvz hln
  have HRL := Aside0.mk hrl
  clear hrl
  obtain ⟨B, d, rfl, hd, hC⟩ := St.row_C HS
  clear hC
  have HS_ := HS.nil_ kHt 39
  clear HS
  have HS := HS_
  clear HS_
  go_wp2_with fail
  go_loopw [8, 9] (fun v8 v9 w' => ∃ i : Nat, i ≤ rows.length ∧ v9 = .int .i64 i ∧ St w S w' [HP.row kHt 39 v8 (span (rows.take i) a b ts), HP.row kRw 53 (.slice B rows.length d) rows, logH g u log, HP.obj pb 24 [.string a, .string b]]) (fun _ v9 _ => rows.length - (intOf v9).toNat)
  case atStart => exact ⟨0, Nat.zero_le _, rfl, HS⟩
  case round =>
    clear HS
    obtain ⟨i, hi, rfl, HS⟩ := hrel
    by_cases hil : i < rows.length
    · have hilI : (i : Int) < (rows.length : Int) := by omega
      have hi0 : (0 : Int) ≤ (i : Int) := by omega
      have hid : decide ((i : Int) < (rows.length : Int)) = true := decide_eq_true hilI
      obtain ⟨g4, c4, ev⟩ := St.row_form (HS.mv 1) (by omega)
      obtain ⟨rfl, -, rfl⟩ : B = some ⟨g4, 0, none⟩ ∧ rows.length = rows.length ∧ d = c4 := by simpa using ev
      clear ev
      obtain ⟨us, HF⟩ := rowF_of (HS.mv 1)
      clear HS
      have hnx := span_take rows a b ts i hil
      have hks := hkz.out i hil
      have hvl := hvz.out i hil
      obtain ⟨A, m, hus, q0, q1, hle, hC⟩ := rowF_at HF i hil
      obtain ⟨k, hk⟩ : ∃ k, rows[i].key = k := ⟨_, rfl⟩
      obtain ⟨vs, hvs⟩ : ∃ vs, rows[i].vs = vs := ⟨_, rfl⟩
      have hho : ∀ o, upTo vs ts = o → hitOf rows[i] ts = (match o with | some v => if v.dead = true then none else some ⟨k, v.ts, v.val⟩ | none => none) := fun o ho => by
        unfold hitOf
        rw [hvs, ho, hk]
        cases o <;> rfl
      have HHO := Aside0.mk hho
      have HSM := Aside0.mk (fun (w' : World) (F : List HP) (h : St w S w' (rowF g4 us (.slice (some ⟨g4, 0, none⟩) rows.length d) rows :: F)) => rowF_same h i hil hus hk hvs)
      rw [hvs] at HSM hle hvl
      rw [hk] at hnx hks
      have HNX := Aside0.mk hnx
      have hal : (span (rows.take i) a b ts).length ≤ i := Nat.le_trans (span_len _ a b ts) (by rw [List.length_take]; omega)
      clear hho hnx hus hk hvs hC q0 q1
      generalize span (rows.take i) a b ts = acc at HF HNX hal
      have HS : St w S wr [rowF g4 us (.slice (some ⟨g4, 0, none⟩) rows.length d) rows, HP.row kHt 39 u8 acc, logH g u log, HP.obj pb 24 [.string a, .string b]] := HF
      clear HF
      cases hwi : inside k a b
      · have HN2 : Aside0 (span (rows.take (i + 1)) a b ts = acc) := ⟨by rw [HNX.out, hwi]; simp⟩
        go_wp2_with fail
        refine start_ (n := 8) (S := fun w' => w'.cell? ⟨g4, i * 2, none⟩ = some (.string k) ∧ w'.cell? ⟨pb, 0, none⟩ = some (.string a) ∧ w'.cell? ⟨pb, 1, none⟩ = some (.string b)) (ds := []) #[false, false, false, false, false, false, false, false] (by kernel_rfl) rfl rfl ⟨(HSM.out _ _ HS.drew).1, (HS.drew.mv 3).cell 0, (HS.drew.mv 3).cell 1⟩ (fun hHeld => ?_)
        refine pure_ (i := 0) (N := some 20) (v := ?_) (a' := ?_) #[true, false, false, false, false, false, false, false] rfl rfl (by kernel_rfl) (fun _ _ _ h => h) (Or.inl ⟨by rfl, ?_⟩) ?_ ?_
        rotate_left
        · intro w'
          go_simp
          with_reducible rfl
        rotate_left
        · simp only [Act.put, List.setIfInBounds_toArray, List.set_cons_zero, List.set_cons_succ, i64_w, i32_w]
          rfl
        refine pure_ (i := 1) (N := some 21) (v := ?_) (a' := ?_) #[true, true, false, false, false, false, false, false] rfl rfl (by kernel_rfl) (fun _ _ _ h => h) (Or.inl ⟨by rfl, ?_⟩) ?_ ?_
        rotate_left
        · intro w'
          go_simp
          with_reducible rfl
        rotate_left
        · simp only [Act.put, List.setIfInBounds_toArray, List.set_cons_zero, List.set_cons_succ, i64_w, i32_w]
          rfl
        refine pure_ (i := 2) (N := some 22) (v := ?_) (a' := ?_) #[true, true, true, false, false, false, false, false] rfl rfl (by kernel_rfl) (fun _ _ _ h => h) (Or.inl ⟨by rfl, ?_⟩) ?_ ?_
        rotate_left
        · intro w'
          go_simp
          with_reducible rfl
        rotate_left
        · simp only [Act.put, List.setIfInBounds_toArray, List.set_cons_zero, List.set_cons_succ, i64_w, i32_w]
          rfl
        refine pure_ (i := 3) (N := some 23) (v := ?_) (a' := ?_) #[true, true, true, true, false, false, false, false] rfl rfl (by kernel_rfl) (fun _ _ _ h => h) (Or.inl ⟨by rfl, ?_⟩) ?_ ?_
        rotate_left
        · intro w'
          go_simp
          with_reducible rfl
        rotate_left
        · simp only [Act.put, List.setIfInBounds_toArray, List.set_cons_zero, List.set_cons_succ, i64_w, i32_w]
          rfl
        refine take_ (i := 4) (N := some 24) (v := ?_) (a' := ?_) #[true, true, true, true, true, false, false, false] rfl rfl (by kernel_rfl) (fun _ _ _ h => h) (Or.inl ⟨by rfl, ?_⟩) hHeld ?_ ?_
        rotate_left
        · rintro w' ⟨s0, s1, s2⟩
          go_simp
          with_reducible rfl
        rotate_left
        · simp only [Act.put, List.setIfInBounds_toArray, List.set_cons_zero, List.set_cons_succ, i64_w, i32_w]
          rfl
        refine take_ (i := 5) (N := some 25) (v := ?_) (a' := ?_) #[true, true, true, true, true, true, false, false] rfl rfl (by kernel_rfl) (fun _ _ _ h => h) (Or.inl ⟨by rfl, ?_⟩) hHeld ?_ ?_
        rotate_left
        · rintro w' ⟨s0, s1, s2⟩
          go_simp
          with_reducible rfl
        rotate_left
        · simp only [Act.put, List.setIfInBounds_toArray, List.set_cons_zero, List.set_cons_succ, i64_w, i32_w]
          rfl
        refine one_ (i := 6) (N := some 26) #[true, true, true, true, true, true, true, false] rfl rfl (by kernel_rfl) (by decide) (fun K hK => ?_)
        refine goes_ Try.func13 (by kernel_rfl) rfl #[.string k, .agg #[.string a, .string b]] (by rfl) rfl rfl (by simp only [List.map_toArray, List.map_cons, List.map_nil]; rfl) ?_
        refine (within_calls k a b hks ha _).mono ?_
        rintro e_ w9 ⟨rfl, hbl⟩
        refine ⟨_, rfl, ?_⟩
        have HS_ := HS.drew.later hbl
        clear HS
        have HS := HS_
        clear HS_ hbl
        rw [hwi]
        refine hK.out _ _ ⟨(HSM.out _ _ HS).1, (HS.mv 3).cell 0, (HS.mv 3).cell 1⟩ (fun hHeld => ?_)
        clear hK K
        refine norm_ (a' := ?_) ?_ ?_
        rotate_left
        · show Act.put _ (some 26) _ = _
          simp only [Act.put, List.setIfInBounds_toArray, List.set_cons_zero, List.set_cons_succ, i64_w, i32_w]
          rfl
        refine pure_ (i := 7) (N := some 27) (v := ?_) (a' := ?_) #[true, true, true, true, true, true, true, true] rfl rfl (by kernel_rfl) (fun _ _ _ h => h) (Or.inl ⟨by rfl, ?_⟩) ?_ ?_
        rotate_left
        · intro w'
          go_simp
          with_reducible rfl
        rotate_left
        · simp only [Act.put, List.setIfInBounds_toArray, List.set_cons_zero, List.set_cons_succ, i64_w, i32_w]
          rfl
        refine done_ (by kernel_rfl) ?_
        clear hHeld
        go_wp2
        go_roundw
        case rel => exact ⟨i + 1, by omega, by go_num, by rw [HN2.out]; exact (rowF_back HS).mv 1⟩
        case measure => simp [intOf]; omega
      · have HN2 : Aside0 (span (rows.take (i + 1)) a b ts = acc ++ (hitOf rows[i] ts).toList) := ⟨by rw [HNX.out, hwi]; simp⟩
        clear HNX
        go_wp2_with fail
        refine start_ (n := 8) (S := fun w' => w'.cell? ⟨g4, i * 2, none⟩ = some (.string k) ∧ w'.cell? ⟨pb, 0, none⟩ = some (.string a) ∧ w'.cell? ⟨pb, 1, none⟩ = some (.string b)) (ds := []) #[false, false, false, false, false, false, false, false] (by kernel_rfl) rfl rfl ⟨(HSM.out _ _ HS.drew).1, (HS.drew.mv 3).cell 0, (HS.drew.mv 3).cell 1⟩ (fun hHeld => ?_)
        refine pure_ (i := 0) (N := some 20) (v := ?_) (a' := ?_) #[true, false, false, false, false, false, false, false] rfl rfl (by kernel_rfl) (fun _ _ _ h => h) (Or.inl ⟨by rfl, ?_⟩) ?_ ?_
        rotate_left
        · intro w'
          go_simp
          with_reducible rfl
        rotate_left
        · simp only [Act.put, List.setIfInBounds_toArray, List.set_cons_zero, List.set_cons_succ, i64_w, i32_w]
          rfl
        refine pure_ (i := 1) (N := some 21) (v := ?_) (a' := ?_) #[true, true, false, false, false, false, false, false] rfl rfl (by kernel_rfl) (fun _ _ _ h => h) (Or.inl ⟨by rfl, ?_⟩) ?_ ?_
        rotate_left
        · intro w'
          go_simp
          with_reducible rfl
        rotate_left
        · simp only [Act.put, List.setIfInBounds_toArray, List.set_cons_zero, List.set_cons_succ, i64_w, i32_w]
          rfl
        refine pure_ (i := 2) (N := some 22) (v := ?_) (a' := ?_) #[true, true, true, false, false, false, false, false] rfl rfl (by kernel_rfl) (fun _ _ _ h => h) (Or.inl ⟨by rfl, ?_⟩) ?_ ?_
        rotate_left
        · intro w'
          go_simp
          with_reducible rfl
        rotate_left
        · simp only [Act.put, List.setIfInBounds_toArray, List.set_cons_zero, List.set_cons_succ, i64_w, i32_w]
          rfl
        refine pure_ (i := 3) (N := some 23) (v := ?_) (a' := ?_) #[true, true, true, true, false, false, false, false] rfl rfl (by kernel_rfl) (fun _ _ _ h => h) (Or.inl ⟨by rfl, ?_⟩) ?_ ?_
        rotate_left
        · intro w'
          go_simp
          with_reducible rfl
        rotate_left
        · simp only [Act.put, List.setIfInBounds_toArray, List.set_cons_zero, List.set_cons_succ, i64_w, i32_w]
          rfl
        refine take_ (i := 4) (N := some 24) (v := ?_) (a' := ?_) #[true, true, true, true, true, false, false, false] rfl rfl (by kernel_rfl) (fun _ _ _ h => h) (Or.inl ⟨by rfl, ?_⟩) hHeld ?_ ?_
        rotate_left
        · rintro w' ⟨s0, s1, s2⟩
          go_simp
          with_reducible rfl
        rotate_left
        · simp only [Act.put, List.setIfInBounds_toArray, List.set_cons_zero, List.set_cons_succ, i64_w, i32_w]
          rfl
        refine take_ (i := 5) (N := some 25) (v := ?_) (a' := ?_) #[true, true, true, true, true, true, false, false] rfl rfl (by kernel_rfl) (fun _ _ _ h => h) (Or.inl ⟨by rfl, ?_⟩) hHeld ?_ ?_
        rotate_left
        · rintro w' ⟨s0, s1, s2⟩
          go_simp
          with_reducible rfl
        rotate_left
        · simp only [Act.put, List.setIfInBounds_toArray, List.set_cons_zero, List.set_cons_succ, i64_w, i32_w]
          rfl
        refine one_ (i := 6) (N := some 26) #[true, true, true, true, true, true, true, false] rfl rfl (by kernel_rfl) (by decide) (fun K hK => ?_)
        refine goes_ Try.func13 (by kernel_rfl) rfl #[.string k, .agg #[.string a, .string b]] (by rfl) rfl rfl (by simp only [List.map_toArray, List.map_cons, List.map_nil]; rfl) ?_
        refine (within_calls k a b hks ha _).mono ?_
        rintro e_ w9 ⟨rfl, hbl⟩
        refine ⟨_, rfl, ?_⟩
        have HS_ := HS.drew.later hbl
        clear HS
        have HS := HS_
        clear HS_ hbl
        rw [hwi]
        refine hK.out _ _ ⟨(HSM.out _ _ HS).1, (HS.mv 3).cell 0, (HS.mv 3).cell 1⟩ (fun hHeld => ?_)
        clear hK K
        refine norm_ (a' := ?_) ?_ ?_
        rotate_left
        · show Act.put _ (some 26) _ = _
          simp only [Act.put, List.setIfInBounds_toArray, List.set_cons_zero, List.set_cons_succ, i64_w, i32_w]
          rfl
        refine pure_ (i := 7) (N := some 27) (v := ?_) (a' := ?_) #[true, true, true, true, true, true, true, true] rfl rfl (by kernel_rfl) (fun _ _ _ h => h) (Or.inl ⟨by rfl, ?_⟩) ?_ ?_
        rotate_left
        · intro w'
          go_simp
          with_reducible rfl
        rotate_left
        · simp only [Act.put, List.setIfInBounds_toArray, List.set_cons_zero, List.set_cons_succ, i64_w, i32_w]
          rfl
        refine done_ (by kernel_rfl) ?_
        clear hHeld
        go_wp2_with fail
        go_loopw [10, 11] (fun v10 v11 w' => ∃ (q : Nat) (be : Int), q ≤ vs.length ∧ v10 = .int .i64 be ∧ v11 = .int .i64 q ∧ Aside0 (Best vs ts q be) ∧ St w S w' [rowF g4 us (.slice (some ⟨g4, 0, none⟩) rows.length d) rows, HP.row kHt 39 u8 acc, logH g u log, HP.obj pb 24 [.string a, .string b]]) (fun _ v11 _ => vs.length - (intOf v11).toNat)
        case atStart => exact ⟨0, -1, Nat.zero_le _, rfl, rfl, ⟨.inl ⟨rfl, fun j h h1 => by omega⟩⟩, HS⟩
        case round =>
          clear HS
          obtain ⟨q, be, hq, rfl, rfl, HB, HS⟩ := hrel
          obtain ⟨-, q1, hC⟩ := HSM.out _ _ HS
          by_cases hql : q < vs.length
          · have hqlI : (q : Int) < (vs.length : Int) := by omega
            have hq0 : (0 : Int) ≤ (q : Int) := by omega
            have hqd : decide ((q : Int) < (vs.length : Int)) = true := decide_eq_true hqlI
            obtain ⟨ad, rfl, i0, i1, i2⟩ := vnC_at hC q hql
            clear hC i1 i2
            by_cases hts : vs[q].ts ≤ ts
            · have HB2 := Aside0.mk (best_yes vs ts q hql hts)
              have htd : decide (vs[q].ts ≤ ts) = true := decide_eq_true hts
              go_wp2
              go_roundw
              case rel => exact ⟨q + 1, q, by omega, by go_num, by go_num, HB2, HS⟩
              case measure => simp [intOf]; omega
            · have HB2 := Aside0.mk (best_no vs ts q be hql HB.out (by omega))
              have htd : decide (vs[q].ts ≤ ts) = false := decide_eq_false hts
              go_wp2
              go_roundw
              case rel => exact ⟨q + 1, be, by omega, by go_num, by go_num, HB2, HS⟩
              case measure => simp [intOf]; omega
          · obtain rfl : q = vs.length := by omega
            have hqd : decide ((vs.length : Int) < (vs.length : Int)) = false := decide_eq_false (by omega)
            rcases best_end vs ts be HB.out with ⟨rfl, hup⟩ | ⟨m2, hm2, rfl, hup⟩
            · have HN3 : Aside0 (span (rows.take (i + 1)) a b ts = acc) := ⟨by rw [HN2.out, HHO.out _ hup]; simp⟩
              clear hC hup HB
              go_wp2
              go_roundw
              case rel => exact ⟨i + 1, by omega, by go_num, by rw [HN3.out]; exact (rowF_back HS).mv 1⟩
              case measure => simp [intOf]; omega
            · have hmI : (m2 : Int) < (vs.length : Int) := by omega
              have hm0 : (0 : Int) ≤ (m2 : Int) := by omega
              have hmd : decide ((m2 : Int) ≥ 0) = true := decide_eq_true hm0
              obtain ⟨ad, rfl, i0, i1, i2⟩ := vnC_at hC m2 hm2
              have hho : hitOf rows[i] ts = (if (vs[m2]).dead = true then none else some ⟨k, (vs[m2]).ts, (vs[m2]).val⟩) := HHO.out _ hup
              have HVC := Aside0.mk (fun (w' : World) (F : List HP) (h : St w S w' (rowF g4 us (.slice (some ⟨g4, 0, none⟩) rows.length d) rows :: F)) => (show w'.cell? (ad.add (m2 * 3)) = some (.int .i64 vs[m2].ts) ∧ w'.cell? ⟨(ad.add (m2 * 3)).block, (ad.add (m2 * 3)).off + 1, none⟩ = some (.string vs[m2].val) from by
                obtain ⟨ad', e', j0, j1, j2⟩ := vnC_at (HSM.out _ _ h).2.2 m2 hm2
                obtain rfl := Option.some.inj e'
                exact ⟨j0, j1⟩))
              obtain ⟨x, hx⟩ : ∃ x, vs[m2] = x := ⟨_, rfl⟩
              rw [hx] at HVC i0 i1 i2 hho
              clear hx hC i0 i1 hup HB
              cases hdd : x.dead
              · rw [hdd] at i2 hho
                have HN3 : Aside0 (span (rows.take (i + 1)) a b ts = acc ++ [⟨k, x.ts, x.val⟩]) := ⟨by rw [HN2.out, hho]; rfl⟩
                clear hho hdd
                go_wp2_with fail
                clear i2 q1
                refine start_ (n := 28) (S := fun w' => w'.cell? ⟨g4, i * 2, none⟩ = some (.string k) ∧ w'.cell? ⟨g4, i * 2 + 1, none⟩ = some (.slice (some ad) vs.length m) ∧ w'.cell? (ad.add (m2 * 3)) = some (.int .i64 x.ts) ∧ w'.cell? ⟨(ad.add (m2 * 3)).block, (ad.add (m2 * 3)).off + 1, none⟩ = some (.string x.val)) (ds := []) #[false, false, false, false, false, false, false, false, false, false, false, false, false, false, false, false, false, false, false, false, false, false, false, false, false, false, false, false] (by kernel_rfl) rfl rfl ⟨(HSM.out _ _ HS.drew).1, (HSM.out _ _ HS.drew).2.1, (HVC.out _ _ HS.drew).1, (HVC.out _ _ HS.drew).2⟩ (fun hHeld => ?_)
                refine pure_ (i := 0) (N := some 64) (v := ?_) (a' := ?_) #[true, false, false, false, false, false, false, false, false, false, false, false, false, false, false, false, false, false, false, false, false, false, false, false, false, false, false, false] rfl rfl (by kernel_rfl) (fun _ _ _ h => h) (Or.inl ⟨by rfl, ?_⟩) ?_ ?_
                rotate_left
                · intro w'
                  go_simp
                  with_reducible rfl
                rotate_left
                · simp only [Act.put, List.setIfInBounds_toArray, List.set_cons_zero, List.set_cons_succ, i64_w, i32_w]
                  rfl
                refine pure_ (i := 1) (N := some 65) (v := ?_) (a' := ?_) #[true, true, false, false, false, false, false, false, false, false, false, false, false, false, false, false, false, false, false, false, false, false, false, false, false, false, false, false] rfl rfl (by kernel_rfl) (fun _ _ _ h => h) (Or.inl ⟨by rfl, ?_⟩) ?_ ?_
                rotate_left
                · intro w'
                  go_simp
                  with_reducible rfl
                rotate_left
                · simp only [Act.put, List.setIfInBounds_toArray, List.set_cons_zero, List.set_cons_succ, i64_w, i32_w]
                  rfl
                refine pure_ (i := 2) (N := some 66) (v := ?_) (a' := ?_) #[true, true, true, false, false, false, false, false, false, false, false, false, false, false, false, false, false, false, false, false, false, false, false, false, false, false, false, false] rfl rfl (by kernel_rfl) (fun _ _ _ h => h) (Or.inl ⟨by rfl, ?_⟩) ?_ ?_
                rotate_left
                · intro w'
                  go_simp
                  with_reducible rfl
                rotate_left
                · simp only [Act.put, List.setIfInBounds_toArray, List.set_cons_zero, List.set_cons_succ, i64_w, i32_w]
                  rfl
                refine pure_ (i := 3) (N := some 67) (v := ?_) (a' := ?_) #[true, true, true, true, false, false, false, false, false, false, false, false, false, false, false, false, false, false, false, false, false, false, false, false, false, false, false, false] rfl rfl (by kernel_rfl) (fun _ _ _ h => h) (Or.inl ⟨by rfl, ?_⟩) ?_ ?_
                rotate_left
                · intro w'
                  go_simp
                  with_reducible rfl
                rotate_left
                · simp only [Act.put, List.setIfInBounds_toArray, List.set_cons_zero, List.set_cons_succ, i64_w, i32_w]
                  rfl
                refine pure_ (i := 4) (N := some 68) (v := ?_) (a' := ?_) #[true, true, true, true, true, false, false, false, false, false, false, false, false, false, false, false, false, false, false, false, false, false, false, false, false, false, false, false] rfl rfl (by kernel_rfl) (fun _ _ _ h => h) (Or.inl ⟨by rfl, ?_⟩) ?_ ?_
                rotate_left
                · intro w'
                  go_simp
                  with_reducible rfl
                rotate_left
                · simp only [Act.put, List.setIfInBounds_toArray, List.set_cons_zero, List.set_cons_succ, i64_w, i32_w]
                  rfl
                refine pure_ (i := 6) (N := some 70) (v := ?_) (a' := ?_) #[true, true, true, true, true, false, true, false, false, false, false, false, false, false, false, false, false, false, false, false, false, false, false, false, false, false, false, false] rfl rfl (by kernel_rfl) (fun _ _ _ h => h) (Or.inl ⟨by rfl, ?_⟩) ?_ ?_
                rotate_left
                · intro w'
                  go_simp
                  with_reducible rfl
                rotate_left
                · simp only [Act.put, List.setIfInBounds_toArray, List.set_cons_zero, List.set_cons_succ, i64_w, i32_w]
                  rfl
                refine pure_ (i := 7) (N := some 71) (v := ?_) (a' := ?_) #[true, true, true, true, true, false, true, true, false, false, false, false, false, false, false, false, false, false, false, false, false, false, false, false, false, false, false, false] rfl rfl (by kernel_rfl) (fun _ _ _ h => h) (Or.inl ⟨by rfl, ?_⟩) ?_ ?_
                rotate_left
                · intro w'
                  go_simp
                  with_reducible rfl
                rotate_left
                · simp only [Act.put, List.setIfInBounds_toArray, List.set_cons_zero, List.set_cons_succ, i64_w, i32_w]
                  rfl
                refine pure_ (i := 8) (N := some 72) (v := ?_) (a' := ?_) #[true, true, true, true, true, false, true, true, true, false, false, false, false, false, false, false, false, false, false, false, false, false, false, false, false, false, false, false] rfl rfl (by kernel_rfl) (fun _ _ _ h => h) (Or.inl ⟨by rfl, ?_⟩) ?_ ?_
                rotate_left
                · intro w'
                  go_simp
                  with_reducible rfl
                rotate_left
                · simp only [Act.put, List.setIfInBounds_toArray, List.set_cons_zero, List.set_cons_succ, i64_w, i32_w]
                  rfl
                refine pure_ (i := 9) (N := some 73) (v := ?_) (a' := ?_) #[true, true, true, true, true, false, true, true, true, true, false, false, false, false, false, false, false, false, false, false, false, false, false, false, false, false, false, false] rfl rfl (by kernel_rfl) (fun _ _ _ h => h) (Or.inl ⟨by rfl, ?_⟩) ?_ ?_
                rotate_left
                · intro w'
                  go_simp
                  with_reducible rfl
                rotate_left
                · simp only [Act.put, List.setIfInBounds_toArray, List.set_cons_zero, List.set_cons_succ, i64_w, i32_w]
                  rfl
                refine pure_ (i := 11) (N := some 75) (v := ?_) (a' := ?_) #[true, true, true, true, true, false, true, true, true, true, false, true, false, false, false, false, false, false, false, false, false, false, false, false, false, false, false, false] rfl rfl (by kernel_rfl) (fun _ _ _ h => h) (Or.inl ⟨by rfl, ?_⟩) ?_ ?_
                rotate_left
                · intro w'
                  go_simp
                  with_reducible rfl
                rotate_left
                · simp only [Act.put, List.setIfInBounds_toArray, List.set_cons_zero, List.set_cons_succ, i64_w, i32_w]
                  rfl
                refine pure_ (i := 15) (N := some 79) (v := ?_) (a' := ?_) #[true, true, true, true, true, false, true, true, true, true, false, true, false, false, false, true, false, false, false, false, false, false, false, false, false, false, false, false] rfl rfl (by kernel_rfl) (fun _ _ _ h => h) (Or.inl ⟨by rfl, ?_⟩) ?_ ?_
                rotate_left
                · intro w'
                  go_simp
                  with_reducible rfl
                rotate_left
                · simp only [Act.put, List.setIfInBounds_toArray, List.set_cons_zero, List.set_cons_succ, i64_w, i32_w]
                  rfl
                refine pure_ (i := 16) (N := some 80) (v := ?_) (a' := ?_) #[true, true, true, true, true, false, true, true, true, true, false, true, false, false, false, true, true, false, false, false, false, false, false, false, false, false, false, false] rfl rfl (by kernel_rfl) (fun _ _ _ h => h) (Or.inl ⟨by rfl, ?_⟩) ?_ ?_
                rotate_left
                · intro w'
                  go_simp
                  with_reducible rfl
                rotate_left
                · simp only [Act.put, List.setIfInBounds_toArray, List.set_cons_zero, List.set_cons_succ, i64_w, i32_w]
                  rfl
                refine pure_ (i := 17) (N := some 81) (v := ?_) (a' := ?_) #[true, true, true, true, true, false, true, true, true, true, false, true, false, false, false, true, true, true, false, false, false, false, false, false, false, false, false, false] rfl rfl (by kernel_rfl) (fun _ _ _ h => h) (Or.inl ⟨by rfl, ?_⟩) ?_ ?_
                rotate_left
                · intro w'
                  go_simp
                  with_reducible rfl
                rotate_left
                · simp only [Act.put, List.setIfInBounds_toArray, List.set_cons_zero, List.set_cons_succ, i64_w, i32_w]
                  rfl
                refine pure_ (i := 18) (N := some 82) (v := ?_) (a' := ?_) #[true, true, true, true, true, false, true, true, true, true, false, true, false, false, false, true, true, true, true, false, false, false, false, false, false, false, false, false] rfl rfl (by kernel_rfl) (fun _ _ _ h => h) (Or.inl ⟨by rfl, ?_⟩) ?_ ?_
                rotate_left
                · intro w'
                  go_simp
                  with_reducible rfl
                rotate_left
                · simp only [Act.put, List.setIfInBounds_toArray, List.set_cons_zero, List.set_cons_succ, i64_w, i32_w]
                  rfl
                refine pure_ (i := 20) (N := some 84) (v := ?_) (a' := ?_) #[true, true, true, true, true, false, true, true, true, true, false, true, false, false, false, true, true, true, true, false, true, false, false, false, false, false, false, false] rfl rfl (by kernel_rfl) (fun _ _ _ h => h) (Or.inl ⟨by rfl, ?_⟩) ?_ ?_
                rotate_left
                · intro w'
                  go_simp
                  with_reducible rfl
                rotate_left
                · simp only [Act.put, List.setIfInBounds_toArray, List.set_cons_zero, List.set_cons_succ, i64_w, i32_w]
                  rfl
                refine take_ (i := 5) (N := some 69) (v := ?_) (a' := ?_) #[true, true, true, true, true, true, true, true, true, true, false, true, false, false, false, true, true, true, true, false, true, false, false, false, false, false, false, false] rfl rfl (by kernel_rfl) (fun _ _ _ h => h) (Or.inl ⟨by rfl, ?_⟩) hHeld ?_ ?_
                rotate_left
                · rintro w' ⟨s0, s1, s2, s3⟩
                  go_simp
                  with_reducible rfl
                rotate_left
                · simp only [Act.put, List.setIfInBounds_toArray, List.set_cons_zero, List.set_cons_succ, i64_w, i32_w]
                  rfl
                refine take_ (i := 10) (N := some 74) (v := ?_) (a' := ?_) #[true, true, true, true, true, true, true, true, true, true, true, true, false, false, false, true, true, true, true, false, true, false, false, false, false, false, false, false] rfl rfl (by kernel_rfl) (fun _ _ _ h => h) (Or.inl ⟨by rfl, ?_⟩) hHeld ?_ ?_
                rotate_left
                · rintro w' ⟨s0, s1, s2, s3⟩
                  go_simp
                  with_reducible rfl
                rotate_left
                · simp only [Act.put, List.setIfInBounds_toArray, List.set_cons_zero, List.set_cons_succ, i64_w, i32_w]
                  rfl
                refine pure_ (i := 12) (N := some 76) (v := ?_) (a' := ?_) #[true, true, true, true, true, true, true, true, true, true, true, true, true, false, false, true, true, true, true, false, true, false, false, false, false, false, false, false] rfl rfl (by kernel_rfl) (fun _ _ _ h => h) (Or.inl ⟨by rfl, ?_⟩) ?_ ?_
                rotate_left
                · intro w'
                  go_simp
                  with_reducible rfl
                rotate_left
                · simp only [Act.put, List.setIfInBounds_toArray, List.set_cons_zero, List.set_cons_succ, i64_w, i32_w]
                  rfl
                refine pure_ (i := 13) (N := some 77) (v := ?_) (a' := ?_) #[true, true, true, true, true, true, true, true, true, true, true, true, true, true, false, true, true, true, true, false, true, false, false, false, false, false, false, false] rfl rfl (by kernel_rfl) (fun _ _ _ h => h) (Or.inl ⟨by rfl, ?_⟩) ?_ ?_
                rotate_left
                · intro w'
                  go_simp
                  with_reducible rfl
                rotate_left
                · simp only [Act.put, List.setIfInBounds_toArray, List.set_cons_zero, List.set_cons_succ, i64_w, i32_w]
                  rfl
                refine take_ (i := 14) (N := some 78) (v := ?_) (a' := ?_) #[true, true, true, true, true, true, true, true, true, true, true, true, true, true, true, true, true, true, true, false, true, false, false, false, false, false, false, false] rfl rfl (by kernel_rfl) (fun _ _ _ h => h) (Or.inl ⟨by rfl, ?_⟩) hHeld ?_ ?_
                rotate_left
                · rintro w' ⟨s0, s1, s2, s3⟩
                  go_simp
                  with_reducible rfl
                rotate_left
                · simp only [Act.put, List.setIfInBounds_toArray, List.set_cons_zero, List.set_cons_succ, i64_w, i32_w]
                  rfl
                refine take_ (i := 19) (N := some 83) (v := ?_) (a' := ?_) #[true, true, true, true, true, true, true, true, true, true, true, true, true, true, true, true, true, true, true, true, true, false, false, false, false, false, false, false] rfl rfl (by kernel_rfl) (fun _ _ _ h => h) (Or.inl ⟨by rfl, ?_⟩) hHeld ?_ ?_
                rotate_left
                · rintro w' ⟨s0, s1, s2, s3⟩
                  go_simp
                  with_reducible rfl
                rotate_left
                · simp only [Act.put, List.setIfInBounds_toArray, List.set_cons_zero, List.set_cons_succ, i64_w, i32_w]
                  rfl
                refine pure_ (i := 21) (N := some 85) (v := ?_) (a' := ?_) #[true, true, true, true, true, true, true, true, true, true, true, true, true, true, true, true, true, true, true, true, true, true, false, false, false, false, false, false] rfl rfl (by kernel_rfl) (fun _ _ _ h => h) (Or.inl ⟨by rfl, ?_⟩) ?_ ?_
                rotate_left
                · intro w'
                  go_simp
                  with_reducible rfl
                rotate_left
                · simp only [Act.put, List.setIfInBounds_toArray, List.set_cons_zero, List.set_cons_succ, i64_w, i32_w]
                  rfl
                refine pure_ (i := 22) (N := some 86) (v := ?_) (a' := ?_) #[true, true, true, true, true, true, true, true, true, true, true, true, true, true, true, true, true, true, true, true, true, true, true, false, false, false, false, false] rfl rfl (by kernel_rfl) (fun _ _ _ h => h) (Or.inl ⟨by rfl, ?_⟩) ?_ ?_
                rotate_left
                · intro w'
                  go_simp
                  with_reducible rfl
                rotate_left
                · simp only [Act.put, List.setIfInBounds_toArray, List.set_cons_zero, List.set_cons_succ, i64_w, i32_w]
                  rfl
                refine take_ (i := 23) (N := some 87) (v := ?_) (a' := ?_) #[true, true, true, true, true, true, true, true, true, true, true, true, true, true, true, true, true, true, true, true, true, true, true, true, false, false, false, false] rfl rfl (by kernel_rfl) (fun _ _ _ h => h) (Or.inl ⟨by rfl, ?_⟩) hHeld ?_ ?_
                rotate_left
                · rintro w' ⟨s0, s1, s2, s3⟩
                  go_simp
                  with_reducible rfl
                rotate_left
                · simp only [Act.put, List.setIfInBounds_toArray, List.set_cons_zero, List.set_cons_succ, i64_w, i32_w]
                  rfl
                refine pure_ (i := 24) (N := some 88) (v := ?_) (a' := ?_) #[true, true, true, true, true, true, true, true, true, true, true, true, true, true, true, true, true, true, true, true, true, true, true, true, true, false, false, false] rfl rfl (by kernel_rfl) (fun _ _ _ h => h) (Or.inl ⟨by rfl, ?_⟩) ?_ ?_
                rotate_left
                · intro w'
                  go_simp
                  with_reducible rfl
                rotate_left
                · simp only [Act.put, List.setIfInBounds_toArray, List.set_cons_zero, List.set_cons_succ, i64_w, i32_w]
                  rfl
                refine one_ (i := 25) (N := some 89) #[true, true, true, true, true, true, true, true, true, true, true, true, true, true, true, true, true, true, true, true, true, true, true, true, true, true, false, false] rfl rfl (by kernel_rfl) (by decide) (fun K hK => ?_)
                have HS_ := HS.drew.lit (d := kHt) (e := 39) (xs := [(⟨k, x.ts, x.val⟩ : Ht)]) (inner := [.string k, .int .i64 x.ts, .string x.val]) (reps1_ (kHt_mkM _ _ _ (⟨k, x.ts, x.val⟩ : Ht)) rfl) (by simp)
                refine value_ (w1 := wr.drew.alloc (Obj.cells #[.string k, .int .i64 x.ts, .string x.val] 39)) (v := .slice (some ⟨wr.drew.heap.size, 0, none⟩) 1 1) (by rfl) rfl ?hrun ?_
                case hrun => first | (go_simp; done) | (go_simp; rfl)
                clear HS
                have HS := HS_
                clear HS_
                change St w S (wr.drew.alloc _) (HP.row kHt 39 (.slice (some ⟨wr.drew.heap.size, 0, none⟩) [(⟨k, x.ts, x.val⟩ : Ht)].length 1) [(⟨k, x.ts, x.val⟩ : Ht)] :: _) at HS
                generalize wr.drew.alloc (Obj.cells #[.string k, .int .i64 x.ts, .string x.val] 39) = w20 at HS ⊢
                generalize wr.drew.heap.size = gl at HS ⊢
                refine hK.out _ _ ⟨(HSM.out _ _ (HS.mv 1)).1, (HSM.out _ _ (HS.mv 1)).2.1, (HVC.out _ _ (HS.mv 1)).1, (HVC.out _ _ (HS.mv 1)).2⟩ (fun hHeld => ?_)
                clear hK K
                refine norm_ (a' := ?_) ?_ ?_
                rotate_left
                · show Act.put _ (some 89) _ = _
                  simp only [Act.put, List.setIfInBounds_toArray, List.set_cons_zero, List.set_cons_succ, i64_w, i32_w]
                  rfl
                refine one_ (i := 26) (N := some 90) #[true, true, true, true, true, true, true, true, true, true, true, true, true, true, true, true, true, true, true, true, true, true, true, true, true, true, true, false] rfl rfl (by kernel_rfl) (by decide) (fun K hK => ?_)
                have HZ := HS.mv 2
                clear HS
                refine ev_rows_step kHt flatHt (by rfl) (.tmp 64) (.tmp 89) 34 39 _ 40 (by rfl) Try.underlying34 infoHt rfl (by decide) (by omega) u8 acc [(⟨k, x.ts, x.val⟩ : Ht)] _ 1 (by rfl) (by rfl) HZ (St.row_reads (HZ.mv 1)).2.2 (by simp only [List.length_singleton]; omega) ?_
                intro v90 w21 HS_
                clear HZ
                have HS := HS_
                clear HS_
                refine hK.out _ _ ⟨(HSM.out _ _ (HS.mv 2)).1, (HSM.out _ _ (HS.mv 2)).2.1, (HVC.out _ _ (HS.mv 2)).1, (HVC.out _ _ (HS.mv 2)).2⟩ (fun hHeld => ?_)
                clear hK K
                refine norm_ (a' := ?_) ?_ ?_
                rotate_left
                · show Act.put _ (some 90) _ = _
                  simp only [Act.put, List.setIfInBounds_toArray, List.set_cons_zero, List.set_cons_succ, i64_w, i32_w]
                  rfl
                refine pure_ (i := 27) (N := some 8) (v := ?_) (a' := ?_) #[true, true, true, true, true, true, true, true, true, true, true, true, true, true, true, true, true, true, true, true, true, true, true, true, true, true, true, true] rfl rfl (by kernel_rfl) (fun _ _ _ h => h) (Or.inl ⟨by rfl, ?_⟩) ?_ ?_
                rotate_left
                · intro w'
                  go_simp
                  with_reducible rfl
                rotate_left
                · simp only [Act.put, List.setIfInBounds_toArray, List.set_cons_zero, List.set_cons_succ, i64_w, i32_w]
                  rfl
                refine done_ (by kernel_rfl) ?_
                clear hHeld
                go_wp2
                go_roundw
                case rel => exact ⟨i + 1, by omega, by go_num, by rw [HN3.out]; exact (rowF_back ((HS.out 1).mv 1)).mv 1⟩
                case measure => simp [intOf]; omega
              · rw [hdd] at i2 hho
                have HN3 : Aside0 (span (rows.take (i + 1)) a b ts = acc) := ⟨by rw [HN2.out, hho]; simp⟩
                clear hho hdd
                go_wp2
                go_roundw
                case rel => exact ⟨i + 1, by omega, by go_num, by rw [HN3.out]; exact (rowF_back HS).mv 1⟩
                case measure => simp [intOf]; omega
    · obtain rfl : i = rows.length := by omega
      have hid : decide ((rows.length : Int) < (rows.length : Int)) = false := decide_eq_false (by omega)
      rw [List.take_length] at HS
      go_wp2
      go_ret
      have HE : St w S wr [HP.row kHt 39 u8 (span rows a b ts), logH g u log] := (HS.out 1).out 2
      exact ⟨u8, rfl, by rw [HRL.out]; exact HE⟩
end Go.Proofs.Ytepenfgeeggjmaa.Ver
