/- The document's Rows, walked. -/
import Derived.Test.YtepenfgeeggjmaaLogK
namespace Go.Proofs.Ytepenfgeeggjmaa.Ver
open Go.RowKit Go.Proofs.YtepenfgeeggjmaaW.PrintWords Go.Proofs.YtepenfgeeggjmaaW.PrintLast Go.Proofs.YtepenfgeeggjmaaW.PrintMore Go.Proofs.Ytepenfgeeggjmaa.Sl Go.Proofs.Ytepenfgeeggjmaa.Str Go.Proofs.Ytepenfgeeggjmaa.Row
set_option linter.unusedVariables false
set_option linter.unusedSimpArgs false
def kRw : Kd Rw := Kd.iso (Kd.pair Kd.string (Kd.slice 29 kVn)) (fun x : Rw => (x.key, x.vs))
theorem kRw_open {w : World} {x : Rw} {cs : List Value} (h : kRw.K w x cs) : ∃ A1 c1, cs = [.string x.key, .slice A1 x.vs.length c1] ∧ x.vs.length ≤ c1 ∧ kVn.C w A1 x.vs.length x.vs := by
  obtain ⟨_, _, rfl, rfl, ⟨A1, c1, rfl, h1, h2⟩⟩ := h
  exact ⟨A1, c1, rfl, h1, h2⟩
theorem kRw_mk (w : World) (x : Rw) {A1 : Option Addr} {c1 : Nat} (l1 : x.vs.length ≤ c1) (g1 : kVn.C w A1 x.vs.length x.vs) : kRw.K w x [.string x.key, .slice A1 x.vs.length c1] := ⟨[.string x.key], [.slice A1 x.vs.length c1], rfl, rfl, ⟨A1, c1, rfl, l1, g1⟩⟩
theorem kRw_mkM (w : World) (base : Nat) (ok : Nat → Prop) (x : Rw) {v1 : Value} (g1 : kVn.R 29 w base ok v1 x.vs) : kRw.M w base ok x [.string x.key, v1] := ⟨[.string x.key], [v1], rfl, rfl, ⟨v1, rfl, g1⟩⟩
theorem infoRw : (Try.prog.info? 53).map (fun i => (i.zero, i.size, i.bytes)) = some (some (.agg #[.string ⟨#[]⟩, .slice none 0 0]), 2, 40) := by kernel_rfl
theorem ofKey_take (log : Log) (j : Nat) (hj : j < log.length) (k : ByteArray) : ofKey (log.take (j + 1)) k = if log[j].1 = k then ofKey (log.take j) k ++ [log[j].2] else ofKey (log.take j) k := by
  rw [List.take_succ_eq_append_getElem hj]
  obtain ⟨⟨k', v⟩, hv⟩ : ∃ p, log[j] = p := ⟨_, rfl⟩
  rw [hv]
  by_cases h : k' = k
  · subst h
    rw [ofKey_same, if_pos rfl]
  · rw [ofKey_other _ _ _ _ h, if_neg h]
theorem ofKey_len (log : Log) (k : ByteArray) : (ofKey log k).length ≤ log.length := by
  unfold ofKey
  rw [List.length_map]
  exact List.length_filter_le _ _
theorem rowsL_take (log : Log) (i : Nat) (hi : i < (keysL log).length) : (rowsL log).take (i + 1) = (rowsL log).take i ++ [⟨(keysL log)[i], ofKey log (keysL log)[i]⟩] := by
  have h1 : i < (rowsL log).length := by rw [rowsL, List.length_map]; exact hi
  rw [List.take_succ_eq_append_getElem h1]
  simp [rowsL]
theorem rowsL_len (log : Log) : (rowsL log).length = (keysL log).length := by simp [rowsL]
set_option maxHeartbeats 4000000 in
set_option maxRecDepth 20000 in
theorem refRows_fun (g : Nat) (u : Value) (log : Log) (hl : log.length ≤ 1000000) (hsz : ∀ p ∈ log, p.1.size ≤ 140737488355328) :
    Fun Try.prog 20 #[.pointer (some ⟨g, 0, none⟩)] (fun _ => True) [logH g u log] (fun r => [HP.row kRw 53 r (rowsL log), logH g u log]) := by
  intro w S hS hR
  have HS := St.start hS
  clear hS hR
  have hu45 := Try.underlying45
  have hu43 := Try.underlying43
  have hu68 := Try.underlying68
  have hu71 := Try.underlying71
  have hu53 := Try.underlying53
  have hu48 := Try.underlying48
  have hu51 := Try.underlying51
  have hu29 := Try.underlying29
  have hkeys := Aside0.mk (refKeys_fun g u log hl hsz)
  go_enter Try.func20, Try.ntmps20
  go_wp2_with fail
  refine (hkeys.out.call (F := []) HS (fun _ _ _ _ => trivial)).mono ?_
  rintro e_ w1 ⟨rk, rfl, HS_⟩
  clear HS hkeys hsz
  have HS : St w S w1 [HP.row Kd.string 9 rk (keysL log), logH g u log] := HS_
  clear HS_
  have HS_ := ((logH_open (HS.mv 1)).mv 2).nil_ kRw 53
  clear HS
  have HS := HS_
  clear HS_
  obtain ⟨A, c, rfl, hc, hC⟩ := St.row_C (HS.mv 3)
  clear hC
  have hkl := keysL_len log
  obtain ⟨B, d, rfl, hd, hC⟩ := St.row_C (HS.mv 1)
  clear hC
  obtain ⟨ks, hks⟩ : ∃ ks, keysL log = ks := ⟨_, rfl⟩
  have HKS := Aside0.mk hks
  rw [hks] at hkl HS hd
  rw [hks]
  clear hks
  have HRL := Aside0.mk (show ∀ i (hi : i < ks.length), (rowsL log).take (i + 1) = (rowsL log).take i ++ [⟨ks[i], ofKey log ks[i]⟩] from by
    have := HKS.out
    subst this
    exact rowsL_take log)
  have HRN := Aside0.mk (show (rowsL log).length = ks.length by rw [rowsL_len, HKS.out])
  clear HKS
  go_wp2_with fail
  go_loopw [4, 5] (fun v4 v5 w' => ∃ i : Nat, i ≤ ks.length ∧ v5 = .int .i64 i ∧ St w S w' [HP.row kRw 53 v4 ((rowsL log).take i), HP.row Kd.string 9 (.slice B ks.length d) ks, HP.obj g 45 [.slice A log.length c], HP.row kOne 68 (.slice A log.length c) log]) (fun _ v5 _ => ks.length - (intOf v5).toNat)
  case atStart => exact ⟨0, Nat.zero_le _, rfl, HS⟩
  case round =>
    clear HS
    obtain ⟨i, hi, rfl, HS⟩ := hrel
    by_cases hil : i < ks.length
    · have hilI : (i : Int) < (ks.length : Int) := by omega
      have hi0 : (0 : Int) ≤ (i : Int) := by omega
      have hid : decide ((i : Int) < (ks.length : Int)) = true := decide_eq_true hilI
      obtain ⟨g4, c4, ev⟩ := St.row_form (HS.mv 1) (by omega)
      obtain ⟨rfl, -, rfl⟩ : B = some ⟨g4, 0, none⟩ ∧ ks.length = ks.length ∧ d = c4 := by simpa using ev
      clear ev
      have p0 := str_cell (HS.mv 1) i hil
      have hnx := HRL.out i hil
      obtain ⟨k, hk⟩ : ∃ k, ks[i] = k := ⟨_, rfl⟩
      rw [hk] at p0 hnx
      have HNX := Aside0.mk hnx
      have HKI := Aside0.mk hk
      clear hk hnx
      have hrt : ((rowsL log).take i).length = i := by rw [List.length_take, HRN.out]; omega
      generalize (rowsL log).take i = acc at HS HNX hrt
      go_wp2_with (first
        | ((with_reducible refine gate_dst (N := 6) rfl ?_); refine ev_box ?hg (N := 6) ?hd (cs := [.string ⟨#[]⟩, .slice none 0 0]) (t := 53) HS ?hr ?_; (case hd => rfl); (case hg => rfl); (case hr => first | (go_simp; done) | (go_simp; rfl)); intro rb w4 HS_ hg_rb; clear HS; have HS := HS_; clear HS_; clear p0)
        | ((with_reducible refine gate_ (.store 53 (.tmp 6) (.tmp 20)) rfl ?_); refine ev_store rfl rfl 53 (.tmp 6) (.tmp 20) rfl HS rfl rfl (seg := [.string k, .slice none 0 0]) rfl ?ht rfl ?hf ?_; (case ht => kernel_rfl); (case hf => first | (simp; done) | (simp [splice]; done)); intro w5 HS_; clear HS; have HS : St w S w5 [HP.obj rb 53 [.string k, .slice none 0 0], HP.row kRw 53 u4 acc, HP.row Kd.string 9 (.slice (some ⟨g4, 0, none⟩) ks.length d) ks, HP.obj g 45 [.slice A log.length c], HP.row kOne 68 (.slice A log.length c) log] := HS_; clear HS_))
      have HS_ := HS.nil_ kVn 29
      clear HS
      have HS := HS_
      clear HS_
      go_loopw [7] (fun v7 w' => ∃ (q : Nat) (uv : Value), q ≤ log.length ∧ v7 = .int .i64 q ∧ St w S w' [HP.row kVn 29 uv (ofKey (log.take q) k), HP.obj rb 53 [.string k, uv], HP.row kRw 53 u4 acc, HP.row Kd.string 9 (.slice (some ⟨g4, 0, none⟩) ks.length d) ks, HP.obj g 45 [.slice A log.length c], HP.row kOne 68 (.slice A log.length c) log]) (fun v7 _ => log.length - (intOf v7).toNat)
      case atStart => exact ⟨0, _, Nat.zero_le _, rfl, HS⟩
      case round =>
        clear HS
        obtain ⟨q, uv, hq, rfl, HS⟩ := hrel
        obtain ⟨V, e, huv, he, hC⟩ := St.row_C HS
        have hol := ofKey_len (log.take q) k
        rw [List.length_take] at hol
        clear hC
        obtain ⟨n, hn⟩ : ∃ n, (ofKey (log.take q) k).length = n := ⟨_, rfl⟩
        have HN := Aside0.mk hn
        rw [hn] at huv hol he
        subst huv
        clear hn
        have q0 : wr.cell? ⟨g, 0, none⟩ = some (.slice A log.length c) := (HS.mv 4).cell 0
        by_cases hql : q < log.length
        · have hqlI : (q : Int) < (log.length : Int) := by omega
          have hq0 : (0 : Int) ≤ (q : Int) := by omega
          have hqd : decide ((q : Int) < (log.length : Int)) = true := decide_eq_true hqlI
          obtain ⟨g3, c3, ev⟩ := St.row_form (HS.mv 5) (by omega)
          obtain ⟨rfl, -, rfl⟩ : A = some ⟨g3, 0, none⟩ ∧ log.length = log.length ∧ c = c3 := by simpa using ev
          clear ev
          have hcl := Aside0.mk (fun (w' : World) (F : List HP) (h : St w S w' (HP.row kOne 68 (.slice (some ⟨g3, 0, none⟩) log.length c) log :: F)) => one_cells h q hql)
          have hof := ofKey_take log q hql k
          obtain ⟨i0, i1, i2, i3⟩ := hcl.out wr _ (HS.mv 5)
          obtain ⟨x, hx⟩ : ∃ x, log[q] = x := ⟨_, rfl⟩
          rw [hx] at hcl hof i0
          have p0 := str_cell (HS.mv 3) i hil
          rw [HKI.out] at p0
          clear i1 i2 i3 hx
          obtain ⟨kx, vx⟩ := x
          generalize ofKey (log.take q) k = vs at HS hof HN
          by_cases hkk : kx = k
          · rw [if_pos hkk] at hof
            have HOF : Aside0 (ofKey (log.take (q + 1)) k = vs ++ [vx]) := Aside0.mk hof
            have hke := eq_fact hkk
            clear hof hkk
            go_wp2_with fail
            go_quiet (fail)
            generalize hwq : World.drewN wr _ = wq
            have H5 := hwq ▸ HS.drewN _
            clear hwq HS q0 i0 p0
            have HS := H5
            clear H5
            go_wp2_with fail
            refine start_ (n := 14) (S := fun w' => w'.cell? ⟨rb, 1, none⟩ = some (.slice V n e) ∧ w'.cell? ⟨g, 0, none⟩ = some (.slice (some ⟨g3, 0, none⟩) log.length c) ∧ w'.cell? ⟨g3, q * 4 + 1, none⟩ = some (.int .i64 vx.ts) ∧ w'.cell? ⟨g3, q * 4 + 2, none⟩ = some (.string vx.val) ∧ w'.cell? ⟨g3, q * 4 + 3, none⟩ = some (.bool vx.dead)) (ds := [13]) #[false, false, false, false, false, false, false, false, false, false, false, false, false, false] (by kernel_rfl) rfl rfl ⟨(HS.drew.mv 1).cell 1, (HS.drew.mv 4).cell 0, (hcl.out _ _ (HS.drew.mv 5)).2.1, (hcl.out _ _ (HS.drew.mv 5)).2.2.1, (hcl.out _ _ (HS.drew.mv 5)).2.2.2⟩ (fun hHeld => ?_)
            refine pure_ (i := 0) (N := some 43) (v := ?_) (a' := ?_) #[true, false, false, false, false, false, false, false, false, false, false, false, false, false] rfl rfl (by kernel_rfl) (fun _ _ _ h => h) (Or.inl ⟨by rfl, ?_⟩) ?_ ?_
            rotate_left
            · intro w'
              go_simp
              with_reducible rfl
            rotate_left
            · simp only [Act.put, List.setIfInBounds_toArray, List.set_cons_zero, List.set_cons_succ, i64_w, i32_w]
              rfl
            refine pure_ (i := 2) (N := some 45) (v := ?_) (a' := ?_) #[true, false, true, false, false, false, false, false, false, false, false, false, false, false] rfl rfl (by kernel_rfl) (fun _ _ _ h => h) (Or.inl ⟨by rfl, ?_⟩) ?_ ?_
            rotate_left
            · intro w'
              go_simp
              with_reducible rfl
            rotate_left
            · simp only [Act.put, List.setIfInBounds_toArray, List.set_cons_zero, List.set_cons_succ, i64_w, i32_w]
              rfl
            refine pure_ (i := 3) (N := some 46) (v := ?_) (a' := ?_) #[true, false, true, true, false, false, false, false, false, false, false, false, false, false] rfl rfl (by kernel_rfl) (fun _ _ _ h => h) (Or.inl ⟨by rfl, ?_⟩) ?_ ?_
            rotate_left
            · intro w'
              go_simp
              with_reducible rfl
            rotate_left
            · simp only [Act.put, List.setIfInBounds_toArray, List.set_cons_zero, List.set_cons_succ, i64_w, i32_w]
              rfl
            refine pure_ (i := 4) (N := some 47) (v := ?_) (a' := ?_) #[true, false, true, true, true, false, false, false, false, false, false, false, false, false] rfl rfl (by kernel_rfl) (fun _ _ _ h => h) (Or.inl ⟨by rfl, ?_⟩) ?_ ?_
            rotate_left
            · intro w'
              go_simp
              with_reducible rfl
            rotate_left
            · simp only [Act.put, List.setIfInBounds_toArray, List.set_cons_zero, List.set_cons_succ, i64_w, i32_w]
              rfl
            refine pure_ (i := 6) (N := some 49) (v := ?_) (a' := ?_) #[true, false, true, true, true, false, true, false, false, false, false, false, false, false] rfl rfl (by kernel_rfl) (fun _ _ _ h => h) (Or.inl ⟨by rfl, ?_⟩) ?_ ?_
            rotate_left
            · intro w'
              go_simp
              with_reducible rfl
            rotate_left
            · simp only [Act.put, List.setIfInBounds_toArray, List.set_cons_zero, List.set_cons_succ, i64_w, i32_w]
              rfl
            refine take_ (i := 1) (N := some 44) (v := ?_) (a' := ?_) #[true, true, true, true, true, false, true, false, false, false, false, false, false, false] rfl rfl (by kernel_rfl) (fun _ _ _ h => h) (Or.inl ⟨by rfl, ?_⟩) hHeld ?_ ?_
            rotate_left
            · rintro w' ⟨s0, s1, s2, s3, s4⟩
              go_simp
              with_reducible rfl
            rotate_left
            · simp only [Act.put, List.setIfInBounds_toArray, List.set_cons_zero, List.set_cons_succ, i64_w, i32_w]
              rfl
            refine take_ (i := 5) (N := some 48) (v := ?_) (a' := ?_) #[true, true, true, true, true, true, true, false, false, false, false, false, false, false] rfl rfl (by kernel_rfl) (fun _ _ _ h => h) (Or.inl ⟨by rfl, ?_⟩) hHeld ?_ ?_
            rotate_left
            · rintro w' ⟨s0, s1, s2, s3, s4⟩
              go_simp
              with_reducible rfl
            rotate_left
            · simp only [Act.put, List.setIfInBounds_toArray, List.set_cons_zero, List.set_cons_succ, i64_w, i32_w]
              rfl
            refine pure_ (i := 7) (N := some 50) (v := ?_) (a' := ?_) #[true, true, true, true, true, true, true, true, false, false, false, false, false, false] rfl rfl (by kernel_rfl) (fun _ _ _ h => h) (Or.inl ⟨by rfl, ?_⟩) ?_ ?_
            rotate_left
            · intro w'
              go_simp
              with_reducible rfl
            rotate_left
            · simp only [Act.put, List.setIfInBounds_toArray, List.set_cons_zero, List.set_cons_succ, i64_w, i32_w]
              rfl
            refine pure_ (i := 8) (N := some 51) (v := ?_) (a' := ?_) #[true, true, true, true, true, true, true, true, true, false, false, false, false, false] rfl rfl (by kernel_rfl) (fun _ _ _ h => h) (Or.inl ⟨by rfl, ?_⟩) ?_ ?_
            rotate_left
            · intro w'
              go_simp
              with_reducible rfl
            rotate_left
            · simp only [Act.put, List.setIfInBounds_toArray, List.set_cons_zero, List.set_cons_succ, i64_w, i32_w]
              rfl
            refine take_ (i := 9) (N := some 52) (v := ?_) (a' := ?_) #[true, true, true, true, true, true, true, true, true, true, false, false, false, false] rfl rfl (by kernel_rfl) (fun _ _ _ h => h) (Or.inl ⟨by rfl, ?_⟩) hHeld ?_ ?_
            rotate_left
            · rintro w' ⟨s0, s1, s2, s3, s4⟩
              go_simp
              with_reducible rfl
            rotate_left
            · simp only [Act.put, List.setIfInBounds_toArray, List.set_cons_zero, List.set_cons_succ, i64_w, i32_w]
              rfl
            refine one_ (i := 10) (N := some 53) #[true, true, true, true, true, true, true, true, true, true, true, false, false, false] rfl rfl (by kernel_rfl) (by decide) (fun K hK => ?_)
            have HS_ := HS.drew.lit (d := kVn) (e := 29) (xs := [vx]) (inner := [.int .i64 vx.ts, .string vx.val, .bool vx.dead]) (reps1_ (kVn_mkM _ _ _ vx) rfl) (by simp)
            refine value_ (w1 := wq.drew.alloc (Obj.cells #[.int .i64 vx.ts, .string vx.val, .bool vx.dead] 29)) (v := .slice (some ⟨wq.drew.heap.size, 0, none⟩) 1 1) (by rfl) rfl ?hrun ?_
            case hrun => first | (go_simp; done) | (go_simp; rfl)
            clear HS
            have HS := HS_
            clear HS_
            change St w S (wq.drew.alloc _) (HP.row kVn 29 (.slice (some ⟨wq.drew.heap.size, 0, none⟩) [vx].length 1) [vx] :: _) at HS
            generalize wq.drew.alloc (Obj.cells #[.int .i64 vx.ts, .string vx.val, .bool vx.dead] 29) = w20 at HS ⊢
            generalize wq.drew.heap.size = gl at HS ⊢
            refine hK.out _ _ ⟨(HS.mv 2).cell 1, (HS.mv 5).cell 0, (hcl.out _ _ (HS.mv 6)).2.1, (hcl.out _ _ (HS.mv 6)).2.2.1, (hcl.out _ _ (HS.mv 6)).2.2.2⟩ (fun hHeld => ?_)
            clear hK K
            refine norm_ (a' := ?_) ?_ ?_
            rotate_left
            · show Act.put _ (some 53) _ = _
              simp only [Act.put, List.setIfInBounds_toArray, List.set_cons_zero, List.set_cons_succ, i64_w, i32_w]
              rfl
            refine one_ (i := 11) (N := some 54) #[true, true, true, true, true, true, true, true, true, true, true, true, false, false] rfl rfl (by kernel_rfl) (by decide) (fun K hK => ?_)
            have HZ := HS.mv 1
            clear HS
            refine ev_rows_step kVn flatVn (by rfl) (.tmp 44) (.tmp 53) 51 29 _ 32 (by rfl) Try.underlying51 infoVn rfl (by decide) (by omega) _ vs [vx] _ 1 (by rfl) (by rfl) HZ (St.row_reads (HZ.mv 1)).2.2 (by rw [HN.out]; simp only [List.length_singleton]; omega) ?_
            intro v54 w21 HS_
            clear HZ
            have HS := HS_
            clear HS_
            obtain ⟨V2, e2, hv54, he2, hC2⟩ := St.row_C HS
            clear hC2
            obtain ⟨n2, hn2⟩ : ∃ n2, (vs ++ [vx]).length = n2 := ⟨_, rfl⟩
            rw [hn2] at hv54 he2
            clear hn2
            subst hv54
            refine hK.out _ _ ⟨(HS.mv 2).cell 1, (HS.mv 5).cell 0, (hcl.out _ _ (HS.mv 6)).2.1, (hcl.out _ _ (HS.mv 6)).2.2.1, (hcl.out _ _ (HS.mv 6)).2.2.2⟩ (fun hHeld => ?_)
            clear hK K
            refine norm_ (a' := ?_) ?_ ?_
            rotate_left
            · show Act.put _ (some 54) _ = _
              simp only [Act.put, List.setIfInBounds_toArray, List.set_cons_zero, List.set_cons_succ, i64_w, i32_w]
              rfl
            refine pure_ (i := 12) (N := some 55) (v := ?_) (a' := ?_) #[true, true, true, true, true, true, true, true, true, true, true, true, true, false] rfl rfl (by kernel_rfl) (fun _ _ _ h => h) (Or.inl ⟨by rfl, ?_⟩) ?_ ?_
            rotate_left
            · intro w'
              go_simp
              with_reducible rfl
            rotate_left
            · simp only [Act.put, List.setIfInBounds_toArray, List.set_cons_zero, List.set_cons_succ, i64_w, i32_w]
              rfl
            refine last_ (i := 13) (N := none) #[true, true, true, true, true, true, true, true, true, true, true, true, true, true] rfl rfl (by kernel_rfl) (by decide) (fun K hK => ?_)
            have qf : w21.frozen? ⟨rb, 1, none⟩ = false := (HS.mv 2).unfrozen 1
            have qc : w21.cell? ⟨rb, 1, none⟩ = some (.slice V n e) := (HS.mv 2).cell 1
            have H1 := St.set (HS.mv 2) 1 (.slice V2 n2 e2)
            clear HS
            have HS : St w S _ [HP.obj rb 53 [.string k, .slice V2 n2 e2], HP.row kVn 29 (.slice V2 n2 e2) (vs ++ [vx]), HP.row kVn 29 (.slice (some ⟨gl, 0, none⟩) [vx].length 1) [vx], HP.row kRw 53 u4 acc, HP.row Kd.string 9 (.slice (some ⟨g4, 0, none⟩) ks.length d) ks, HP.obj g 45 [.slice (some ⟨g3, 0, none⟩) log.length c], HP.row kOne 68 (.slice (some ⟨g3, 0, none⟩) log.length c) log] := H1
            clear H1
            refine skip_ (w1 := w21.setCell ⟨rb, 1, none⟩ (.slice V2 n2 e2)) (by rfl) rfl ?hrun ?_
            case hrun => first | (go_simp; done) | (go_simp; rfl)
            refine hK.out _ _ ?_
            clear hK K
            refine done_ (by kernel_rfl) ?_
            try clear hHeld
            go_wp2
            go_roundw
            case rel => exact ⟨q + 1, .slice V2 n2 e2, by omega, by go_num, by rw [HOF.out]; exact (HS.out 2).mv 1⟩
            case measure => simp [intOf]; omega
          · rw [if_neg hkk] at hof
            have HOF : Aside0 (ofKey (log.take (q + 1)) k = vs) := Aside0.mk hof
            have hke := ne_fact hkk
            clear hof hkk
            go_wp2_with fail
            go_quiet (fail)
            generalize hwq : World.drewN wr _ = wq
            have H5 := hwq ▸ HS.drewN _
            clear hwq HS q0 i0 p0
            go_wp2
            go_roundw
            case rel => exact ⟨q + 1, _, by omega, by go_num, by rw [HOF.out]; exact H5⟩
            case measure => simp [intOf]; omega
        · obtain rfl : q = log.length := by omega
          have hqd : decide ((log.length : Int) < (log.length : Int)) = false := decide_eq_false (by omega)
          rw [List.take_length] at HS HN
          have hRK : (rowsL log).take (i + 1) = acc ++ [⟨k, ofKey log k⟩] := HNX.out
          have HRK := Aside0.mk hRK
          clear hRK HNX
          generalize ofKey log k = vs at HS HN HRK
          have r0 : wr.cell? ⟨rb, 0, none⟩ = some (.string k) := (HS.mv 1).cell 0
          have r1 : wr.cell? ⟨rb, 1, none⟩ = some (.slice V n e) := (HS.mv 1).cell 1
          have HA := ((HS.head (B := HP.cells kRw ⟨k, vs⟩ [.string k, .slice V n e]) (fun w S h => kRw_mkM w 0 S ⟨k, vs⟩ h)).mv 2)
          have HA : St w S wr [HP.row kRw 53 u4 acc, HP.cells kRw ⟨k, vs⟩ [.string k, .slice V n e], HP.obj rb 53 [.string k, .slice V n e], HP.row Kd.string 9 (.slice (some ⟨g4, 0, none⟩) ks.length d) ks, HP.obj g 45 [.slice A log.length c], HP.row kOne 68 (.slice A log.length c) log] := HA
          clear HS
          go_wp2_with ((with_reducible refine gate_dst (N := 59) rfl ?_); at_builtin; refine ev_append kRw rfl (.tmp 56) (.tmp 58) 48 53 _ 40 rfl Try.underlying48 infoRw rfl (by decide) (by omega) u4 acc ⟨k, vs⟩ [.string k, .slice V n e] rfl rfl HA (by omega) ?_; intro v59 w7 H7; clear HA)
          go_roundw
          case rel => exact ⟨i + 1, by omega, by go_num, by rw [HRK.out]; exact H7.out 1⟩
          case measure => simp [intOf]; omega
    · obtain rfl : i = ks.length := by omega
      have hid : decide ((ks.length : Int) < (ks.length : Int)) = false := decide_eq_false (by omega)
      rw [← HRN.out, List.take_length] at HS
      go_wp2
      go_ret
      exact ⟨_, rfl, by rw [← HRN.out] at *; exact (logH_shut (((HS.out 1).mv 2).mv 2)).mv 1⟩
end Go.Proofs.Ytepenfgeeggjmaa.Ver
